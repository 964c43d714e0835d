/-
  schismaref05.Minor: the determinant on lists of rows and columns.
  schismaref05.greedy, Valid, Rank: the same rows and columns as matrix.framed.
  schismaref05.Valid and Rank at rows of commas; schismaref08.rows and Interval.
  schismaref08.Interval, rows and name.
  schismaref08.Valid: the same as comma.Valid.
-/
import Derived.Test.YtelhmdhhabgihaaGreatDoorFrX
import Derived.Maps.AppendAt
import Derived.Deep.AppendLies
import Derived.Laws.OwnMore
import Derived.RegionTactic
import Derived.BigQuiet
import Derived.Test.YtelhmdhhabgihaaGreatDoorWkX
import Derived.Laws.Strings
namespace Go.Proofs.YtelhmdhhabgihaaGreatDoor
open Go.RowKit

theorem getD_erase (js : List Nat) (k c : Nat) : (js.eraseIdx k).getD c 0 = if c < k then js.getD c 0 else js.getD (c + 1) 0 := by
  rw [List.getD_eq_getElem?_getD, List.getElem?_eraseIdx]
  split <;> rw [List.getD_eq_getElem?_getD]
theorem detW_erase' (f : Nat → Nat → Int) (js : List Nat) {k : Nat} (hk : k < js.length) : ∀ (is : List Nat) (U V : Nat → Bool), U k = true → (∀ c, c < js.length → c ≠ k → U c = V (if c < k then c else c - 1)) →
    detW f (js.eraseIdx k) is V = detW f js is U
  | [], _, _, _, _ => rfl
  | i :: is, U, V, hU, hUV => by
    have key : ∀ c, c ≤ js.length → dsum (fun p => f i ((js.eraseIdx k).getD p 0)) (detW f (js.eraseIdx k) is) V (if c ≤ k then c else c - 1) = dsum (fun p => f i (js.getD p 0)) (detW f js is) U c := by
      intro c
      induction c with
      | zero => intro _; rw [if_pos (Nat.zero_le _)]; rfl
      | succ c ih =>
        intro hc
        have i0 := ih (by omega)
        rcases (by omega : c < k ∨ c = k ∨ k < c) with h | h | h
        · rw [if_pos (by omega)] at i0
          rw [if_pos (by omega)]
          have e := hUV c (by omega) (by omega)
          rw [if_pos h] at e
          cases hv : V c with
          | true => rw [dsum_used hv, dsum_used (e.trans hv)]; exact i0
          | false =>
            rw [dsum_free hv, dsum_free (e.trans hv), i0, getD_erase, if_pos h]
            rw [detW_erase' f js hk is (updB U c true) (updB V c true) (by unfold updB; rw [if_neg (by omega)]; exact hU) (fun d hd hne => by
              unfold updB
              have z := hUV d hd hne
              by_cases e1 : d = c
              · subst e1; rw [if_pos rfl, if_pos h, if_pos rfl]
              · have ne : (if d < k then d else d - 1) ≠ c := by split <;> omega
                rw [if_neg e1, z, if_neg ne])]
        · subst h
          rw [if_pos (Nat.le_refl _)] at i0
          rw [if_neg (by omega), Nat.add_sub_cancel, dsum_used hU]
          exact i0
        · rw [if_neg (by omega)] at i0
          rw [if_neg (by omega)]
          obtain ⟨d, rfl⟩ : ∃ d, c = d + 1 := ⟨c - 1, by omega⟩
          rw [Nat.add_sub_cancel] at i0 ⊢
          have e := hUV (d + 1) (by omega) (by omega)
          rw [if_neg (by omega), Nat.add_sub_cancel] at e
          cases hv : V d with
          | true => rw [dsum_used hv, dsum_used (e.trans hv)]; exact i0
          | false =>
            rw [dsum_free hv, dsum_free (e.trans hv), i0, getD_erase, if_neg (by omega)]
            rw [detW_erase' f js hk is (updB U (d + 1) true) (updB V d true) (by unfold updB; rw [if_neg (by omega)]; exact hU) (fun c' hd hne => by
              unfold updB
              have z := hUV c' hd hne
              by_cases e1 : c' = d + 1
              · subst e1
                have e2 : (if d + 1 < k then d + 1 else d + 1 - 1) = d := by rw [if_neg (by omega)]; omega
                rw [if_pos rfl, if_pos e2]
              · have ne : (if c' < k then c' else c' - 1) ≠ d := by split <;> omega
                rw [if_neg e1, z, if_neg ne])]
    rw [detW, detW]
    have := key js.length (Nat.le_refl _)
    rw [if_neg (by omega)] at this
    rw [List.length_eraseIdx, if_pos hk, this]
theorem detW_erase (f : Nat → Nat → Int) (js is : List Nat) {k : Nat} (hk : k < js.length) : detW f (js.eraseIdx k) is (fun _ => false) = detW f js is (updB (fun _ => false) k true) :=
  detW_erase' f js hk is _ _ (by simp [updB]) (fun c _ hne => by simp [updB, hne])
theorem ints_news {w : World} {ad : Addr} {l : List Nat} (h : IntsL w (some ad) l) : ∀ j u, (natC l)[j]? = some u → w.cell? (ad.add j) = some u := by
  intro j u hj
  obtain ⟨i, hi, rfl⟩ := natC_at hj
  have hlt := (List.getElem?_eq_some_iff.1 hi).1
  obtain ⟨b, off, e, -, hc⟩ := h (by omega)
  cases e
  have := hc j i hi
  unfold Addr.add
  split
  · rename_i e0
    have : off + j = off := by omega
    simp_all
  · exact this
theorem run_append_ints {P : Program} (w : World) (base : Nat) (t ty e : TypeId) (i : TypeInfo) (z : Value) (bytes : Nat) (ht : P.underlying t = some (.slice e)) (hi : P.info? e = some i) (hz : i.zero = some z)
    (hsize : i.size = 1) (hby : i.bytes = bytes) (hzs : z.cells.size = 1) (g n cap : Nat) (xs : List Value) (hown : w.ownsRow base e 1 (.slice (some ⟨g, 0, none⟩) n cap) n xs)
    (A : Option Addr) (c : Nat) (l : List Nat) (hr : IntsL w A l) (h63 : n + l.length ≤ maxLen) (hbytes : (n + l.length) * bytes ≤ 140737488355328) (hbase : base ≤ w.heap.size) :
    ∃ g' cap' w', (Builtin.append_ #[t, t] ty #[.slice (some ⟨g, 0, none⟩) n cap, .slice A l.length c]).run P w = .ok (.slice (some ⟨g', 0, none⟩) (n + l.length) cap') w' ∧ w'.ownsRow base e 1 (.slice (some ⟨g', 0, none⟩) (n + l.length) cap') (n + l.length) (xs ++ natC l) ∧ w.grownBy w' (some g) := by
  cases A with
  | none =>
    obtain rfl : l = [] := by
      rcases Nat.eq_zero_or_pos l.length with h | h
      · exact List.eq_nil_of_length_eq_zero h
      · obtain ⟨b, off, h', -⟩ := hr h
        cases h'
    refine ⟨g, cap, w, ?_, by rw [show natC [] = [] from rfl, List.append_nil]; exact hown, ⟨rfl, rfl, rfl, Nat.le_refl _, fun _ _ _ => rfl⟩⟩
    rcases hown.2 with ⟨h, -⟩ | ⟨g1, cap1, cur, h, -, -, hnc, -⟩
    · cases h
    · cases h
      simp [Builtin.append_, run_underlying ht, sizeOf, typeInfo, hi, Builtin.lenOf, Builtin.firstCells, hnc, storeCells]
  | some ad =>
    obtain ⟨v', w', h1, h2, h3, h4, h5⟩ := run_append_own_at (P := P) w base t ty e i z 1 bytes ht hi hz hsize hby hzs (by omega) _ n xs hown ad l.length c (natC l) (by rw [natC_len, Nat.mul_one]) (ints_news hr) (natC_one l) h63 hbytes hbase
    have h2' := h2
    rcases h2.2 with ⟨h, -⟩ | ⟨g1, cap1, cur, rfl, -⟩
    · have := h4.1 h
      cases this.1
    · exact ⟨g1, cap1, w', h1, h2', h3⟩
theorem step_append_ints {P : Program} {ops : Array Oper} {o : Oper} {a : Act} {w : World} {K : Act → World → Prop} {Q : Exit → Act → World → Prop} {E : Prop}
    (hg : o.guard = none) (s x : Operand) (t : TypeId) (hop : o.op = Op.call { callee := Callee.builtin Builtin.append, args := #[s, x], argTypes := #[t, t] })
    (base : Nat) (e : TypeId) (i : TypeInfo) (z : Value) (bytes : Nat) (ht : P.underlying t = some (.slice e)) (hi : P.info? e = some i) (hz : i.zero = some z)
    (hsize : i.size = 1) (hby : i.bytes = bytes) (hzs : z.cells.size = 1) (g n cap : Nat) (xs : List Value) (hs : a.eval s = .slice (some ⟨g, 0, none⟩) n cap) (hown : w.ownsRow base e 1 (.slice (some ⟨g, 0, none⟩) n cap) n xs)
    (A : Option Addr) (c m : Nat) (l : List Nat) (hm : l.length = m) (hx : a.eval x = .slice A m c) (hr : IntsL w A l) (h63 : n + m ≤ maxLen) (hbytes : (n + m) * bytes ≤ 140737488355328) (hbase : base ≤ w.heap.size)
    (hK : ∀ g' cap' w', w'.ownsRow base e 1 (.slice (some ⟨g', 0, none⟩) (n + m) cap') (n + m) (xs ++ natC l) → (∀ W0, Gr W0 w → W0.heap.size ≤ base → Gr W0 w') → (∀ b o, b < w.heap.size → b ≠ g → w'.cell? ⟨b, o, none⟩ = w.cell? ⟨b, o, none⟩) → w.heap.size ≤ w'.heap.size → K (a.put o.dst (.slice (some ⟨g', 0, none⟩) (n + m) cap')) w') :
    if Region.wanted o (yielded ops a.tmps) = true then Oper.wp P o a w K Q else E := by
  have hw : Region.wanted o (yielded ops a.tmps) = true := by simp [Region.wanted, hg]
  rw [if_pos hw]
  subst hm
  obtain ⟨g', cap', w', hrun, h2, h3⟩ := run_append_ints (P := P) w base t o.type e i z bytes ht hi hz hsize hby hzs g n cap xs hown A c l hr h63 hbytes hbase
  have hbg := (hown.lt g rfl).1
  unfold Oper.wp
  simp [execOp, hop, resolve, invoke, builtin, hs, hx, hrun, Result.andThen]
  exact hK g' cap' w' h2 (fun W0 hW0 hB => Below.grown hW0 h3 hW0.le (fun k hk => by injection hk with hk; omega)) (fun b o hb hne => World.cell?_of_block (a := ⟨b, o, none⟩) (h3.block b hb (fun e => hne (by cases e; rfl)))) h3.size
theorem intsL_cut {w : World} {b off : Nat} {l : List Nat} (h : IntsL w (some ⟨b, off, none⟩) l) (hb : b < w.heap.size) (k : Nat) : IntsL w (some ⟨b, off + k, none⟩) (l.drop k) := by
  intro hl
  rw [List.length_drop] at hl
  obtain ⟨b', off', e, hb', hc⟩ := h (by omega)
  cases e
  refine ⟨b, off + k, rfl, hb, fun j i hj => ?_⟩
  rw [List.getElem?_drop] at hj
  have := hc (k + j) i hj
  rwa [← Nat.add_assoc] at this
theorem intsL_take {w : World} {b off : Nat} {l : List Nat} (h : IntsL w (some ⟨b, off, none⟩) l) (hb : b < w.heap.size) (k : Nat) : IntsL w (some ⟨b, off, none⟩) (l.take k) := by
  intro hl
  have hl2 : 0 < l.length := by rw [List.length_take] at hl; omega
  obtain ⟨b', off', e, hb', hc⟩ := h hl2
  cases e
  refine ⟨b, off, rfl, hb, fun j i hj => ?_⟩
  rw [List.getElem?_take] at hj
  split at hj
  · exact hc j i hj
  · cases hj
theorem natC_app (l l' : List Nat) : natC l ++ natC l' = natC (l ++ l') := by simp [natC]
set_option maxRecDepth 100000 in
set_option maxHeartbeats 16000000 in
theorem rminor_any (nr cr : Nat) (Ar : Option Addr) (f : Nat → Nat → Int) (hf : ∀ i, i < nr → ∀ j, j < 6 → -48 ≤ f i j ∧ f i j ≤ 48) : ∀ (is js : List Nat) (Ai Aj : Option Addr) (ci cj : Nat) (w : World), RowsAt w 6 Ar nr f → IntsL w Ai is → IntsL w Aj js → is.length ≤ ci → js.length ≤ cj → (∀ i ∈ is, i < nr) → (∀ j ∈ js, j < 6) → is.length ≤ 6 → js.length ≤ 6 →
    Calls Tryz.prog 89 #[.slice Ar nr cr, .slice Ai is.length ci, .slice Aj js.length cj] w fun e w' => e = .returned (.int .i64 (detW f js is fun _ => false)) ∧ Gr w w' := by
  intro is
  induction is with
  | nil =>
    intro js Ai Aj ci cj w hR hI hJ hci hcj hi hj hil hjl
    clear hR hI hJ hi hj
    generalize js.length = nj
    generalize hD : detW f js [] (fun _ => false) = D
    have hD1 : D = 1 := by rw [← hD]; rfl
    subst hD1
    clear hD
    go_enter Tryz.func89, Tryz.ntmps89
    go_wp2_with fail
    go_ret
    exact ⟨rfl, Gr.refl _⟩
  | cons i is ih =>
    intro js Ai Aj ci cj w hR hI hJ hci hcj hi hj hil hjl
    have hin : i < nr := hi i (by simp)
    have hB0 : (0 : Int) ≤ 288 ^ is.length := Int.le_of_lt (Int.pow_pos (by omega))
    have hil' : is.length ≤ 5 := by simpa using hil
    have hB1 : (288 ^ is.length : Int) ≤ 570630428688384 := pow_bd (by omega)
    have hisn : ∀ i' ∈ is, i' < nr := fun i' hi' => hi i' (by simp [hi'])
    have hdet := fun (js' : List Nat) (h1 : js'.length ≤ 6) (h2 : ∀ j ∈ js', j < 6) => detW_bd (f := f) (js := js') h1 is (fun i' hi' => hf i' (hisn i' hi')) h2
    have hxj : ∀ k, k < js.length → -48 ≤ f i (js.getD k 0) ∧ f i (js.getD k 0) ≤ 48 := fun k hk => hf i hin _ (by
      rw [List.getD_eq_getElem?_getD, List.getElem?_eq_getElem hk]
      exact hj _ (List.getElem_mem hk))
    have hS := fun k hk => dsum_bd (x := fun k => f i (js.getD k 0)) (n := js.length) hB0 hxj (hdet js hjl hj) (fun _ => false) k hk
    have HSG := Lib.hid (fun k => dsum_sign (fun k => f i (js.getD k 0)) (detW f js is) (fun _ => false) k)
    have HDF : Hid (∀ k, k < js.length → dsum (fun k => f i (js.getD k 0)) (detW f js is) (fun _ => false) (k + 1) = ((dsum (fun k => f i (js.getD k 0)) (detW f js is) (fun _ => false) k).1 + (dsum (fun k => f i (js.getD k 0)) (detW f js is) (fun _ => false) k).2 * f i (js.getD k 0) * detW f (js.eraseIdx k) is (fun _ => false), -(dsum (fun k => f i (js.getD k 0)) (detW f js is) (fun _ => false) k).2)) := Lib.hid (fun k hk => by
      rw [dsum_free rfl, detW_erase f js is hk])
    have HDB : Hid (∀ k, k < js.length → -(288 ^ is.length : Int) ≤ detW f (js.eraseIdx k) is (fun _ => false) ∧ detW f (js.eraseIdx k) is (fun _ => false) ≤ 288 ^ is.length) := Lib.hid (fun k hk => hdet _ (by rw [List.length_eraseIdx, if_pos hk]; omega) (fun j h => hj j (List.mem_of_mem_eraseIdx h)) _)
    have hDD : detW f js (i :: is) (fun _ => false) = (dsum (fun k => f i (js.getD k 0)) (detW f js is) (fun _ => false) js.length).1 := rfl
    rw [hDD]
    have HS := Lib.hid hS; have HX := Lib.hid hxj; have HJ6 := Lib.hid hj
    obtain ⟨DS, hds⟩ : ∃ DS, DS = dsum (fun k => f i (js.getD k 0)) (detW f js is) (fun _ => false) := ⟨_, rfl⟩
    rw [← hds] at HS HSG HDF ⊢
    have HD0 : Hid (DS 0 = (0, 1)) := Lib.hid (by rw [hds]; rfl)
    clear hds hDD hS hxj hdet
    generalize (288 ^ is.length : Int) = BB at *
    obtain ⟨bi, oi, rfl, hbi, hci0⟩ := hI (by simp)
    have q0 : w.cell? ⟨bi, oi, none⟩ = some (.int .i64 (i : Int)) := hci0 0 i rfl
    have HQ0 := Lib.hid q0
    obtain ⟨AI, hAI⟩ : ∃ AI : Option Addr, (if ci = 1 then some (⟨bi, oi, none⟩ : Addr) else some ⟨bi, oi + 1, none⟩) = AI := ⟨_, rfl⟩
    have HIL : Hid (IntsL w AI is) := Lib.hid (by
      rw [← hAI]
      split
      · next h1 =>
        obtain rfl : is = [] := List.eq_nil_of_length_eq_zero (by simp at hci; omega)
        intro h; simp at h
      · exact intsL_cut (l := i :: is) hI hbi 1)
    have HR := Lib.hid hR; have HJL := Lib.hid hJ
    have HIH := Lib.hid (fun (js' : List Nat) (m : Nat) (hm : js'.length = m) (A : Option Addr) (c : Nat) (hc : m ≤ c) (h6 : m ≤ 6) (hj' : ∀ j ∈ js', j < 6) (W : World) (g : Gr w W) (hA : IntsL W A js') => show Calls Tryz.prog 89 #[.slice Ar nr cr, .slice AI is.length (ci - 1), .slice A m c] W fun e w' => e = .returned (.int .i64 (detW f js' is fun _ => false)) ∧ Gr W w' from by
      subst hm
      exact ih js' _ A (ci - 1) c W (hR.keep g) (HIL.out.keep g) hA (by simp at hci; omega) hc hisn hj' (by omega) h6)
    obtain ⟨i0, hin0, hz0, hz1, hz2⟩ := info_parts infoInt
    have HINF := Lib.hid (And.intro hin0 (And.intro hz0 (And.intro hz1 hz2)))
    have hci1 : is.length + 1 ≤ ci := by simpa using hci
    rw [show (i :: is).length = is.length + 1 from rfl]
    clear ih hR hI hJ hci hi hj hil hci0 hisn hf hin0 hz0 hz1 hz2 q0
    obtain ⟨nj, hnj⟩ : ∃ nj, nj = js.length := ⟨_, rfl⟩
    have HNJ := Lib.hid hnj
    rw [← hnj] at hcj hjl HX HDF HDB HS ⊢
    clear hnj
    generalize is.length = ni at *
    have hz1 : decide ((ni : Int) + 1 = 0) = false := decide_eq_false (by omega)
    have hz2 : ((ni : Int) + 1 == 0) = false := by simp; omega
    go_enter Tryz.func89, Tryz.ntmps89
    go_wp2_with fail
    go_loopw [7, 8, 9] (fun sv gv kv wr => ∃ k : Nat, k ≤ nj ∧ sv = .int .i64 (DS k).1 ∧ gv = .int .i64 (DS k).2 ∧ kv = .int .i64 (k : Int) ∧ Gr w wr) (fun _ _ kv _ => nj - (intOf kv).toNat)
    case atStart => exact ⟨0, Nat.zero_le _, by rw [HD0.out], by rw [HD0.out], rfl, Gr.refl _⟩
    case round =>
      obtain ⟨k, hk, rfl, rfl, rfl, hgr⟩ := hrel
      have HGR := Lib.hid hgr
      obtain ⟨wo, rfl⟩ : ∃ wo : World, wo = wr := ⟨_, rfl⟩
      by_cases hlt : k < nj
      · have hlt' : decide ((k : Int) < (nj : Int)) = true := decide_eq_true (by omega)
        have hi0 : (0 : Int) ≤ (k : Int) := by omega
        have hi1 : (k : Int) < (nj : Int) := by omega
        have hkj : k < js.length := by rw [← HNJ.out]; exact hlt
        have hjk : js[k]? = some (js.getD k 0) := by rw [List.getD_eq_getElem?_getD, List.getElem?_eq_getElem hkj]; rfl
        have hj6 : js.getD k 0 < 6 := by
          rw [List.getD_eq_getElem?_getD, List.getElem?_eq_getElem hkj]
          exact HJ6.out _ (List.getElem_mem hkj)
        obtain ⟨bj, oj, rfl, hbj, hcj0⟩ := HJL.out (by omega)
        have q0 := (Below.cell (p := ⟨bi, oi, none⟩) hgr hbi).trans HQ0.out
        have q1 := (Below.cell (p := ⟨bj, oj + k, none⟩) hgr hbj).trans (hcj0 k _ hjk)
        obtain ⟨br, off, rfl, hbr, hcr⟩ := HR.out (by omega)
        have q2 := (Below.cell (p := ⟨br, off + i * 6 + js.getD k 0, none⟩) hgr hbr).trans (hcr i hin _ hj6)
        have hxk := HX.out k hlt
        have hs := HS.out k hk
        have hsg := HSG.out k
        have hN := HDF.out k hlt
        have hdb := HDB.out k hlt
        have hJX := HJL.out
        generalize js.getD k 0 = c at *
        have hc0 : (0 : Int) ≤ (c : Int) := by omega
        have hc1 : (c : Int) < 6 := by omega
        have hr0 : (0 : Int) ≤ (i : Int) := by omega
        have hr1 : (i : Int) < (nr : Int) := by omega
        have hw1 : IntKind.i64.wrap (-(DS k).2) = -(DS k).2 := IntWalk.i64_in _ ⟨by omega, by omega⟩
        have HN := Lib.hid hN
        clear hcj0 hcr hN hJX
        by_cases hx0 : f i c = 0
        · rw [hx0] at q2 HN
          have HN2 : Hid (DS (k + 1) = ((DS k).1, -(DS k).2)) := Lib.hid (by rw [HN.out]; simp)
          clear hs hdb hx0 hsg HN hgr
          go_wp2_with fail
          go_quiet (fail)
          go_wp2_with fail
          go_roundw
          case rel => exact ⟨k + 1, by omega, by rw [HN2.out], by rw [HN2.out], by go_num, HGR.out.trans ((Gr.refl _).drewN _)⟩
          case measure => simp [intOf]; omega
        · have hxb : (f i c == 0) = false := by simpa using hx0
          have hxb2 : (f i c != 0) = true := by simpa using hx0
          have hxb3 : decide (f i c = 0) = false := decide_eq_false hx0
          have HTK := Lib.hid (intsL_take HJL.out hbj k)
          obtain ⟨AD, hAD⟩ : ∃ AD : Option Addr, (if cj = k + 1 then some (⟨bj, oj, none⟩ : Addr) else some ⟨bj, oj + (k + 1), none⟩) = AD := ⟨_, rfl⟩
          have HDR : Hid (IntsL w AD (js.drop (k + 1))) := Lib.hid (by
            rw [← hAD]
            split
            · next h1 =>
              intro h
              rw [List.length_drop, ← HNJ.out] at h
              omega
            · exact intsL_cut HJL.out hbj (k + 1))
          have hkx1 : (0 : Int) ≤ (k : Int) + 1 := by omega
          have hkx2 : (k : Int) + 1 ≤ (nj : Int) := by omega
          have hlt1 : (js.take k).length = k := by rw [List.length_take]; omega
          have hlt2 : (js.drop (k + 1)).length = nj - (k + 1) := by rw [List.length_drop, HNJ.out]
          have HER : Hid (js.take k ++ js.drop (k + 1) = js.eraseIdx k) := Lib.hid (List.eraseIdx_eq_take_drop_succ js k).symm
          have HEL : Hid ((js.eraseIdx k).length = k + (nj - (k + 1))) := Lib.hid (by rw [List.length_eraseIdx, if_pos hkj, ← HNJ.out]; omega)
          have HEJ : Hid (∀ j ∈ js.eraseIdx k, j < 6) := Lib.hid (fun j h => HJ6.out j (List.mem_of_mem_eraseIdx h))
          have HLL := Lib.hid (And.intro hlt1 hlt2)
          obtain ⟨t0, t1⟩ := term48_bd hsg hxk.1 hxk.2 hdb.1 hdb.2 hB0
          have hsx : -48 ≤ (DS k).2 * f i c ∧ (DS k).2 * f i c ≤ 48 := by
            rcases hsg with e | e <;> rw [e] <;> omega
          have hkb : (k : Int) * (48 * BB) ≤ 6 * (48 * BB) := Int.mul_le_mul_of_nonneg_right (by omega) (by omega)
          generalize f i c = x at *
          generalize hE0 : detW f (js.eraseIdx k) is (fun _ => false) = e0 at *
          have HE0 := Lib.hid hE0
          clear hE0
          have hw2 : IntKind.i64.wrap ((DS k).2 * x) = (DS k).2 * x := IntWalk.i64_in _ ⟨by omega, by omega⟩
          have hw3 : IntKind.i64.wrap ((DS k).2 * x * e0) = (DS k).2 * x * e0 := IntWalk.i64_in _ ⟨by omega, by omega⟩
          have hw4 : IntKind.i64.wrap ((DS k).1 + (DS k).2 * x * e0) = (DS k).1 + (DS k).2 * x * e0 := IntWalk.i64_in _ ⟨by omega, by omega⟩
          have hv2 : wrap64 ((DS k).2 * x) = (DS k).2 * x := (IntWalk.i64_left _).symm.trans hw2
          have hv3 : wrap64 ((DS k).2 * x * e0) = (DS k).2 * x * e0 := (IntWalk.i64_left _).symm.trans hw3
          have hv4 : wrap64 ((DS k).1 + (DS k).2 * x * e0) = (DS k).1 + (DS k).2 * x * e0 := (IntWalk.i64_left _).symm.trans hw4
          have hkc : (k : Int) ≤ (cj : Int) := by omega
          have hk1 : IntKind.i64.wrap ((k : Int) + 1) = ((k + 1 : Nat) : Int) := (IntWalk.i64_in _ ⟨by omega, by omega⟩).trans (by omega)
          have hk1n : ((k + 1 : Nat) : Int) ≤ (nj : Int) := by omega
          have hk10 : (0 : Int) ≤ ((k + 1 : Nat) : Int) := by omega
          have hkj2 : k ≤ cj := by omega
          have hkj3 : k + 1 ≤ nj := by omega
          clear t0 t1 hs hdb hsg hxk hsx hkb hgr hlt1 hlt2 hx0
          go_wp2_with fail
          go_quiet (fail)
          go_wp2_with fail
          have HGQ : Hid (Gr w (wo.drewN nq)) := Lib.hid (HGR.out.trans ((Gr.refl _).drewN _))
          generalize wo.drewN nq = wq at HGQ ⊢
          clear q0 q1 q2
          refine wp_region_held_drew (S := fun wx => (∀ b o, (⟨min (b + 1) wq.heap.size, 0, none⟩ : Addr) = ⟨b + 1, 0, none⟩ → wx.cell? ⟨b, o, none⟩ = wq.cell? ⟨b, o, none⟩) ∧ Gr wq wx) (by kernel_rfl) ⟨fun b o _ => by rw [World.cell?_drew], (Gr.refl _).drew⟩ (fun hHeld => ?_)
          (refine take_at (i := 1) (oi := _) (d := some 35) (v := ?_) rfl rfl (by kernel_rfl) (by kernel_rfl) (by kernel_rfl) (fun _ _ _ h => h) (Or.inl ⟨by rfl, ?_⟩) hHeld ?_; rotate_left; next => (intro w hSw; (try dsimp only at hSw); go_simp; try with_reducible rfl))
          try simp only [Act.put, List.setIfInBounds_toArray, List.set_cons_zero, List.set_cons_succ]
          (refine take_at (i := 2) (oi := _) (d := some 36) (v := ?_) rfl rfl (by kernel_rfl) (by kernel_rfl) (by kernel_rfl) (fun _ _ _ h => h) (Or.inl ⟨by rfl, ?_⟩) hHeld ?_; rotate_left; next => (intro w hSw; (try dsimp only at hSw); go_simp; try with_reducible rfl))
          try simp only [Act.put, List.setIfInBounds_toArray, List.set_cons_zero, List.set_cons_succ]
          (refine take_at (i := 3) (oi := _) (d := some 37) (v := ?_) rfl rfl (by kernel_rfl) (by kernel_rfl) (by kernel_rfl) (fun _ _ _ h => h) (Or.inl ⟨by rfl, ?_⟩) hHeld ?_; rotate_left; next => (intro w hSw; (try dsimp only at hSw); go_simp; try with_reducible rfl))
          try simp only [Act.put, List.setIfInBounds_toArray, List.set_cons_zero, List.set_cons_succ]
          (refine take_at (i := 5) (oi := _) (d := some 39) (v := ?_) rfl rfl (by kernel_rfl) (by kernel_rfl) (by kernel_rfl) (fun _ _ _ h => h) (Or.inl ⟨by rfl, ?_⟩) hHeld ?_; rotate_left; next => (intro w hSw; (try dsimp only at hSw); go_simp; try with_reducible rfl))
          try simp only [Act.put, List.setIfInBounds_toArray, List.set_cons_zero, List.set_cons_succ]
          (refine take_at (i := 6) (oi := _) (d := some 40) (v := ?_) rfl rfl (by kernel_rfl) (by kernel_rfl) (by kernel_rfl) (fun _ _ _ h => h) (Or.inl ⟨by rfl, ?_⟩) hHeld ?_; rotate_left; next => (intro w hSw; (try dsimp only at hSw); go_simp; try with_reducible rfl))
          try simp only [Act.put, List.setIfInBounds_toArray, List.set_cons_zero, List.set_cons_succ]
          (refine take_at (i := 7) (oi := _) (d := some 41) (v := ?_) rfl rfl (by kernel_rfl) (by kernel_rfl) (by kernel_rfl) (fun _ _ _ h => h) (Or.inl ⟨by rfl, ?_⟩) hHeld ?_; rotate_left; next => (intro w hSw; (try dsimp only at hSw); go_simp; try with_reducible rfl))
          try simp only [Act.put, List.setIfInBounds_toArray, List.set_cons_zero, List.set_cons_succ]
          (refine take_at (i := 8) (oi := _) (d := some 42) (v := ?_) rfl rfl (by kernel_rfl) (by kernel_rfl) (by kernel_rfl) (fun _ _ _ h => h) (Or.inl ⟨by rfl, ?_⟩) hHeld ?_; rotate_left; next => (intro w hSw; (try dsimp only at hSw); go_simp; try with_reducible rfl))
          try simp only [Act.put, List.setIfInBounds_toArray, List.set_cons_zero, List.set_cons_succ]
          (refine wpAnyH_ready (rs := [0]) (by kernel_rfl) (by simp) (AllReadyH.cons (o := _) rfl (fun K hK => ?_) AllReadyH.nil); go_simp; refine hK.out _ _ (by (try dsimp only); (first | with_reducible exact held_drew _ | with_reducible exact held_call (by assumption) (by assumption) | with_reducible exact held_alloc (by assumption) _ | with_reducible exact held_allocd (by assumption) _ | ((repeat (with_reducible refine held_set ?_ (by (try simp); (try omega)) _)); (first | with_reducible assumption | with_reducible exact held_call (by assumption) (by assumption))))) (fun hHeld => ?_); clear hK K)
          try simp only [Act.put, List.setIfInBounds_toArray, List.set_cons_zero, List.set_cons_succ]
          refine wpAnyH_ready (rs := [4]) (by kernel_rfl) (by simp) (AllReadyH.cons (o := { dst := some 38, op := Op.call { callee := Callee.builtin Builtin.append, args := #[Operand.tmp 34, Operand.tmp 37], argTypes := #[25, 25] }, type := 25, pos := "ref.go:44", after := #[{ on := 0, ground := Ground.data }, { on := 3, ground := Ground.data }], guard := none }) rfl (fun K hK => ?_) AllReadyH.nil)
          refine step_append_ints (by rfl) (.tmp 34) (.tmp 37) 25 (by rfl) wq.heap.size 3 i0 (.int .i64 0) 8 Tryz.underlying25 HINF.out.1 HINF.out.2.1 HINF.out.2.2.1 HINF.out.2.2.2 (by rfl) _ 0 _ _ (by rfl) (own_empty1 (by first | exact World.alloc_heap_new _ _ | exact (Below.heap_alloc _ _ _ (by simp)).trans (World.alloc_heap_new _ _)) (by (try simp); (try omega))) (some ⟨bj, oj, none⟩) _ k (js.take k) HLL.out.1 (by rfl) (HTK.out.keep (HGQ.out.trans hHeld.2)) (by unfold maxLen; omega) (by omega) hHeld.2.le ?_
          intro gwa capwa wa hown hgrwa hclwa hszwa
          have hHxwa := held_of (hgrwa _ hHeld.2 (Nat.le_refl _))
          simp only [Nat.zero_add, List.nil_append] at hown
          have HOWN := Lib.hid hown
          clear hown
          clear hgrwa hclwa hszwa
          refine hK.out _ _ hHxwa (fun hHeld => ?_)
          clear hK K
          try simp only [Act.put, Nat.zero_add, List.setIfInBounds_toArray, List.set_cons_zero, List.set_cons_succ]
          refine wpAnyH_ready (rs := [9]) (by kernel_rfl) (by simp) (AllReadyH.cons (o := { dst := some 43, op := Op.call { callee := Callee.builtin Builtin.append, args := #[Operand.tmp 38, Operand.tmp 42], argTypes := #[25, 25] }, type := 25, pos := "ref.go:44", after := #[{ on := 4, ground := Ground.data }, { on := 8, ground := Ground.data }, { on := 4, ground := Ground.chain }], guard := none }) rfl (fun K hK => ?_) AllReadyH.nil)
          refine step_append_ints (by rfl) (.tmp 38) (.tmp 42) 25 (by rfl) wq.heap.size 3 i0 (.int .i64 0) 8 Tryz.underlying25 HINF.out.1 HINF.out.2.1 HINF.out.2.2.1 HINF.out.2.2.2 (by rfl) _ k _ _ (by rfl) HOWN.out AD _ (nj - (k + 1)) (js.drop (k + 1)) HLL.out.2 (by rfl) (HDR.out.keep (HGQ.out.trans hHeld.2)) (by unfold maxLen; omega) (by omega) hHeld.2.le ?_
          intro gwb capwb wb hown2 hgrwb hclwb hszwb
          have hHxwb := held_of (hgrwb _ hHeld.2 (Nat.le_refl _))
          rw [natC_app, HER.out, ← HEL.out] at hown2
          obtain ⟨A2, c2, hv2', hi2, hc2⟩ := intsL_of_own hown2
          rw [HEL.out] at hv2'
          injection hv2' with q5 q6 q7
          subst q5 q7
          rw [HEL.out] at hc2
          have HI2 := Lib.hid hi2
          clear hown2 hi2 q6
          clear hgrwb hclwb hszwb
          refine hK.out _ _ hHxwb (fun hHeld => ?_)
          clear hK K
          try simp only [Act.put, List.setIfInBounds_toArray, List.set_cons_zero, List.set_cons_succ]
          (refine take_at (i := 10) (oi := _) (d := some 11) (v := ?_) rfl rfl (by kernel_rfl) (by kernel_rfl) (by kernel_rfl) (fun _ _ _ h => h) (Or.inl ⟨by rfl, ?_⟩) hHeld ?_; rotate_left; next => (intro w hSw; (try dsimp only at hSw); go_simp; try with_reducible rfl))
          try simp only [Act.put, List.setIfInBounds_toArray, List.set_cons_zero, List.set_cons_succ]
          refine wpAnyH_done (by kernel_rfl) ?_ _
          have hgz := HGQ.out.trans hHeld.2
          have HGZ := Lib.hid hgz
          go_wp2_with fail
          go_at_call 89
          refine (HIH.out (js.eraseIdx k) (k + (nj - (k + 1))) HEL.out _ _ hc2 (by omega) HEJ.out _ HGZ.out HI2.out).mono ?_
          rintro e w9 ⟨rfl, hg9⟩
          rw [HE0.out]
          have HG9 := Lib.hid (HGZ.out.trans hg9)
          clear hg9
          go_wp2_with fail
          go_roundw
          case rel => exact ⟨k + 1, by omega, by rw [HN.out], by rw [HN.out], by go_num, HG9.out⟩
          case measure => simp [intOf]; omega
      · obtain rfl : nj = k := by omega
        have hlt' : decide ((nj : Int) < (nj : Int)) = false := decide_eq_false (by omega)
        clear hgr
        go_wp2_with fail
        go_ret
        exact ⟨rfl, HGR.out⟩
end Go.Proofs.YtelhmdhhabgihaaGreatDoor

namespace Go.Proofs.YtelhmdhhabgihaaGreatDoor
open Go.RowKit

theorem wpList_append_ints {P : Program} (w : World) {ops : Array Oper} {rest : List Oper} {o : Oper} {a : Act} {Q : Exit → Act → World → Prop}
    (hg : o.guard = none) (s x : Operand) (t : TypeId) (hop : o.op = Op.call { callee := Callee.builtin Builtin.append, args := #[s, x], argTypes := #[t, t] })
    (base : Nat) (e : TypeId) (i : TypeInfo) (z : Value) (bytes : Nat) (ht : P.underlying t = some (.slice e)) (hi : P.info? e = some i) (hz : i.zero = some z)
    (hsize : i.size = 1) (hby : i.bytes = bytes) (hzs : z.cells.size = 1) (g n cap : Nat) (xs : List Value) (hs : a.eval s = .slice (some ⟨g, 0, none⟩) n cap) (hown : w.ownsRow base e 1 (.slice (some ⟨g, 0, none⟩) n cap) n xs)
    (A : Option Addr) (c m : Nat) (l : List Nat) (hm : l.length = m) (hx : a.eval x = .slice A m c) (hr : IntsL w A l) (h63 : n + m ≤ maxLen) (hbytes : (n + m) * bytes ≤ 140737488355328) (hbase : base ≤ w.heap.size)
    (hK : ∀ g' cap' w', w'.ownsRow base e 1 (.slice (some ⟨g', 0, none⟩) (n + m) cap') (n + m) (xs ++ natC l) → (∀ W0, Gr W0 w → W0.heap.size ≤ base → Gr W0 w') → wpList P ops Q rest (a.put o.dst (.slice (some ⟨g', 0, none⟩) (n + m) cap')) w') :
    wpList P ops Q (o :: rest) a w := by
  refine wpList_plain hg fun K hK' => ?_
  subst hm
  obtain ⟨g', cap', w', hrun, h2, h3⟩ := run_append_ints (P := P) w base t o.type e i z bytes ht hi hz hsize hby hzs g n cap xs hown A c l hr h63 hbytes hbase
  have hbg := (hown.lt g rfl).1
  unfold Oper.wp
  simp [execOp, hop, resolve, invoke, builtin, hs, hx, hrun, Result.andThen]
  exact hK' _ _ (hK g' cap' w' h2 (fun W0 hW0 hB => Below.grown hW0 h3 hW0.le (fun k hk => by injection hk with hk; omega)))
theorem intsL_one (w : World) (j : Nat) (t : TypeId) : IntsL (w.alloc (.cells #[.int .i64 (j : Int)] t)) (some ⟨w.heap.size, 0, none⟩) [j] := by
  intro _
  refine ⟨w.heap.size, 0, rfl, by simp, fun k i hk => ?_⟩
  have hlt := (List.getElem?_eq_some_iff.1 hk).1
  obtain rfl : k = 0 := by simp at hlt; omega
  simp at hk
  subst hk
  simp [go_sem]
theorem ints_of_cell {W : World} {b j : Nat} (h : W.cell? ⟨b, 0, none⟩ = some (.int .i64 (j : Int))) (hb : b < W.heap.size) : IntsL W (some ⟨b, 0, none⟩) [j] := by
  intro _
  refine ⟨b, 0, rfl, hb, fun k i hk => ?_⟩
  have hlt := (List.getElem?_eq_some_iff.1 hk).1
  obtain rfl : k = 0 := by simp at hlt; omega
  simp at hk
  subst hk
  exact h
/-- The rows and columns found so far, in box FB. -/
structure GyS (w : World) (FB : Nat) (W : World) (is js : List Nat) : Prop where
  gr : Gr w W
  lo : w.heap.size ≤ FB
  sz : FB + 1 ≤ W.heap.size
  fr : ∀ o, W.frozen? ⟨FB, o, none⟩ = false
  x : ∃ (Ai : Option Addr) (ci : Nat) (Aj : Option Addr) (cj : Nat), W.cell? ⟨FB, 0, none⟩ = some (.slice Ai is.length ci) ∧ W.cell? ⟨FB, 1, none⟩ = some (.slice Aj js.length cj) ∧
    W.ownsRow (FB + 1) 3 1 (.slice Ai is.length ci) is.length (natC is) ∧ W.ownsRow (FB + 1) 3 1 (.slice Aj js.length cj) js.length (natC js)
theorem GyS.keep {w W W' : World} {FB : Nat} {is js : List Nat} (h : GyS w FB W is js) (g : Gr W W') : GyS w FB W' is js := by
  have hs : FB < W.heap.size := by have := h.sz; omega
  have k : ∀ o, W'.cell? ⟨FB, o, none⟩ = W.cell? ⟨FB, o, none⟩ := fun o => Below.cell (p := ⟨FB, o, none⟩) g hs
  obtain ⟨Ai, ci, Aj, cj, h1, h2, h4, h5⟩ := h.x
  exact ⟨h.gr.trans g, h.lo, Nat.le_trans h.sz g.le, fun o => (Below.frozen (p := ⟨FB, o, none⟩) g hs).trans (h.fr o), Ai, ci, Aj, cj, (k 0).trans h1, (k 1).trans h2, own_keep h4 g, own_keep h5 g⟩
theorem GyS.push {w W : World} {FB : Nat} {Ai Aj : Option Addr} {ci cj : Nat} {is js is' js' : List Nat} (h : GyS w FB W is js)
    (h1 : W.ownsRow (FB + 1) 3 1 (.slice Ai is'.length ci) is'.length (natC is')) (h2 : W.ownsRow (FB + 1) 3 1 (.slice Aj js'.length cj) js'.length (natC js')) :
    GyS w FB ((W.setCell ⟨FB, 0, none⟩ (.slice Ai is'.length ci)).setCell ⟨FB, 1, none⟩ (.slice Aj js'.length cj)) is' js' := by
  obtain ⟨Ai0, ci0, Aj0, cj0, k1, k2, -, -⟩ := h.x
  exact ⟨(h.gr.setCell h.lo _).setCell h.lo _, h.lo, by simp only [World.size_setCell]; exact h.sz, fun o => by simp only [World.frozen?_setCell]; exact h.fr o, Ai, ci, Aj, cj, by simp [go_sem, *], by simp [go_sem, *], own_set (own_set h1 _ _) _ _, own_set (own_set h2 _ _) _ _⟩
set_option maxRecDepth 100000 in
set_option maxHeartbeats 16000000 in
theorem rgreedy_any (Ar Ao : Option Addr) (nr cr co : Nat) (f : Nat → Nat → Int) (O : List Nat) (w : World) (hR : RowsAt w 6 Ar nr f) (hO : IntsL w Ao O) (hj : ∀ j ∈ O, j < 6) (hf : ∀ i, i < nr → ∀ j, j < 6 → -48 ≤ f i j ∧ f i j ≤ 48) (hnr : nr ≤ 1000) (hol : O.length ≤ 6) :
    Calls Tryz.prog 72 #[.slice Ar nr cr, .slice Ao O.length co] w fun e w' => ∃ (Ai : Option Addr) (ci : Nat) (Aj : Option Addr) (cj : Nat), e = .returned (.agg #[.slice Ai (frameP f nr O).1.length ci, .slice Aj (frameP f nr O).2.length cj]) ∧ Gr w w' := by
  obtain ⟨i0, hin, hz0, hz1, hz2⟩ := info_parts infoInt
  have HINF := Lib.hid (And.intro hin (And.intro hz0 (And.intro hz1 hz2)))
  have HR := Lib.hid hR; have HOO := Lib.hid hO; have HJ := Lib.hid hj; have HFB := Lib.hid hf
  clear hin hz0 hz1 hz2 hR hO hj hf
  go_enter Tryz.func72, Tryz.ntmps72
  go_upto_region 1 with fail
  generalize hW1 : w.alloc (.cells #[.slice none 0 0, .slice none 0 0] 110) = W1
  have hgw : Gr w W1 := by rw [← hW1]; exact (Gr.refl w).alloc _
  have hz1 : W1.heap.size = w.heap.size + 1 := by rw [← hW1]; simp
  have HRES : Hid (∀ o, o < 2 → ∃ u, W1.cell? ⟨w.heap.size, o, none⟩ = some u) := Lib.hid (by
    rw [← hW1]
    intro o ho
    obtain rfl | rfl : o = 0 ∨ o = 1 := by omega
    · exact ⟨.slice none 0 0, by simp [go_sem]⟩
    · exact ⟨.slice none 0 0, by simp [go_sem]⟩)
  have HRF : Hid (∀ o, W1.frozen? ⟨w.heap.size, o, none⟩ = false) := Lib.hid (by rw [← hW1]; intro o; simp [go_sem])
  go_upto_region 2 with fail
  have hS0 : ∀ W, W = W1.alloc (.cells #[.slice none 0 0, .slice none 0 0] 110) → GyS W1 (w.heap.size + 1) W (frameP f nr (O.take 0)).1 (frameP f nr (O.take 0)).2 := by
    rintro W rfl
    have e : w.heap.size + 1 = W1.heap.size := hz1.symm
    rw [e]
    exact ⟨(Gr.refl _).alloc _, Nat.le_refl _, by simp, fun o => by simp [go_sem], none, 0, none, 0, by simp [go_sem, frameP], by simp [go_sem, frameP], World.ownsRow_nil _ _ _ _, World.ownsRow_nil _ _ _ _⟩
  generalize hW2 : W1.alloc (.cells #[.slice none 0 0, .slice none 0 0] 110) = W2
  have HS0 := Lib.hid (hS0 W2 hW2.symm)
  have HGW := Lib.hid hgw
  have hlo : W1.heap.size ≤ w.heap.size + 1 := Nat.le_of_eq hz1
  clear hW1 hW2 hS0 hgw
  generalize hFB : w.heap.size + 1 = FB at *
  obtain ⟨no, hno'⟩ : ∃ no, no = O.length := ⟨_, rfl⟩
  have HNO' := Lib.hid hno'
  rw [← hno'] at hol ⊢
  clear hno'
  go_wp2_with fail
  go_loopw [6] (fun iv wr => ∃ k : Nat, k ≤ no ∧ iv = .int .i64 (k : Int) ∧ GyS W1 FB wr (frameP f nr (O.take k)).1 (frameP f nr (O.take k)).2) (fun iv _ => no - (intOf iv).toNat)
  case atStart => exact ⟨0, Nat.zero_le _, rfl, HS0.out⟩
  case round =>
    obtain ⟨k, hk, rfl, hS⟩ := hrel
    have HS := Lib.hid hS
    have HINV := Lib.hid (frameP_inv f nr (O.take k) (fun j hj => HJ.out j (List.mem_of_mem_take hj)))
    have hlk : (O.take k).length = k := by rw [List.length_take]; have := HNO'.out; omega
    have HGR := Lib.hid (HGW.out.trans hS.gr)
    have hsz := hS.sz
    clear hS HS0
    obtain ⟨wo, rfl⟩ : ∃ wo : World, wo = wr := ⟨_, rfl⟩
    by_cases hlt : k < no
    · have hlt' : decide ((k : Int) < (no : Int)) = true := decide_eq_true (by omega)
      have hi0 : (0 : Int) ≤ (k : Int) := by omega
      have hi1 : (k : Int) < (no : Int) := by omega
      obtain ⟨j, hjk⟩ : ∃ j, O[k]? = some j := ⟨_, List.getElem?_eq_getElem (by rw [← HNO'.out]; exact hlt)⟩
      have hj6 := HJ.out j (List.mem_of_getElem? hjk)
      have HTK : Hid (frameP f nr (O.take (k + 1)) = stepF f nr (frameP f nr (O.take k)) j) := Lib.hid (by rw [take_snoc1 hjk, frameP_snoc])
      obtain ⟨bo, oo, rfl, hblo, hco⟩ := (HOO.out.keep HGR.out) (by have := HNO'.out; omega)
      have co1 := hco k j hjk
      clear hco hjk
      generalize hfp : frameP f nr (O.take k) = S at *
      obtain ⟨is, js⟩ := S
      simp only at HS HTK HINV
      obtain ⟨q1, q2, q3, q4⟩ := HINV.out
      simp only at q1 q2 q3 q4
      rw [hlk] at q2
      replace q1 : is.length ≤ js.length := Nat.le_of_eq q1
      clear hfp hlk
      obtain ⟨Ai, ci, Aj, cj, c1, c2, o1, o2⟩ := HS.out.x
      have HQ := Lib.hid (And.intro q3 q4)
      obtain ⟨A2, c2', e2, hil2, -⟩ := intsL_of_own o2
      cases e2
      have HIL2 := Lib.hid hil2
      clear o1 o2 hil2 q3 q4
      go_wp2_with fail
      go_cut [7] (fun jv wx => AppR FB js j jv wo wx)
      case first =>
        refine wp_region_held_drew (S := fun wx => (∀ b o, (⟨min (b + 1) wo.heap.size, 0, none⟩ : Addr) = ⟨b + 1, 0, none⟩ → wx.cell? ⟨b, o, none⟩ = wo.cell? ⟨b, o, none⟩) ∧ Gr wo wx) (by kernel_rfl) ⟨fun b o _ => by rw [World.cell?_drew], (Gr.refl _).drew⟩ (fun hHeld => ?_)
        (refine take_at (i := 1) (oi := _) (d := some 17) (v := ?_) rfl rfl (by kernel_rfl) (by kernel_rfl) (by kernel_rfl) (fun _ _ _ h => h) (Or.inl ⟨by rfl, ?_⟩) hHeld ?_; rotate_left; next => (intro w hSw; (try dsimp only at hSw); go_simp; try with_reducible rfl))
        try simp only [Act.put, List.setIfInBounds_toArray, List.set_cons_zero, List.set_cons_succ]
        (refine take_at (i := 2) (oi := _) (d := some 18) (v := ?_) rfl rfl (by kernel_rfl) (by kernel_rfl) (by kernel_rfl) (fun _ _ _ h => h) (Or.inl ⟨by rfl, ?_⟩) hHeld ?_; rotate_left; next => (intro w hSw; (try dsimp only at hSw); go_simp; try with_reducible rfl))
        try simp only [Act.put, List.setIfInBounds_toArray, List.set_cons_zero, List.set_cons_succ]
        (refine take_at (i := 4) (oi := _) (d := some 20) (v := ?_) rfl rfl (by kernel_rfl) (by kernel_rfl) (by kernel_rfl) (fun _ _ _ h => h) (Or.inl ⟨by rfl, ?_⟩) hHeld ?_; rotate_left; next => (intro w hSw; (try dsimp only at hSw); go_simp; try with_reducible rfl))
        try simp only [Act.put, List.setIfInBounds_toArray, List.set_cons_zero, List.set_cons_succ]
        (refine take_at (i := 5) (oi := _) (d := some 21) (v := ?_) rfl rfl (by kernel_rfl) (by kernel_rfl) (by kernel_rfl) (fun _ _ _ h => h) (Or.inl ⟨by rfl, ?_⟩) hHeld ?_; rotate_left; next => (intro w hSw; (try dsimp only at hSw); go_simp; try with_reducible rfl))
        try simp only [Act.put, List.setIfInBounds_toArray, List.set_cons_zero, List.set_cons_succ]
        (refine take_at (i := 6) (oi := _) (d := some 22) (v := ?_) rfl rfl (by kernel_rfl) (by kernel_rfl) (by kernel_rfl) (fun _ _ _ h => h) (Or.inl ⟨by rfl, ?_⟩) hHeld ?_; rotate_left; next => (intro w hSw; (try dsimp only at hSw); go_simp; try with_reducible rfl))
        try simp only [Act.put, List.setIfInBounds_toArray, List.set_cons_zero, List.set_cons_succ]
        (refine take_at (i := 7) (oi := _) (d := some 23) (v := ?_) rfl rfl (by kernel_rfl) (by kernel_rfl) (by kernel_rfl) (fun _ _ _ h => h) (Or.inl ⟨by rfl, ?_⟩) hHeld ?_; rotate_left; next => (intro w hSw; (try dsimp only at hSw); go_simp; try with_reducible rfl))
        try simp only [Act.put, List.setIfInBounds_toArray, List.set_cons_zero, List.set_cons_succ]
        refine wpAnyH_ready (rs := [0, 8]) (by kernel_rfl) (by simp) (AllReadyH.cons (o := { dst := some 16, op := Op.buildSlice 25 0 #[], type := 25, pos := "ref.go:88", after := #[], guard := none }) rfl (fun K hK => ?_) (AllReadyH.cons (o := { dst := some 24, op := Op.buildSlice 25 1 #[(0, Operand.tmp 23)], type := 25, pos := "ref.go:88", after := #[{ on := 7, ground := Ground.data }], guard := none }) rfl (fun K hK => ?_) AllReadyH.nil))
        next =>
          go_simp
          refine hK.out _ _ (by (try dsimp only); (first | with_reducible exact held_drew _ | with_reducible exact held_call (by assumption) (by assumption) | with_reducible exact held_alloc (by assumption) _ | with_reducible exact held_allocd (by assumption) _ | ((repeat (with_reducible refine held_set ?_ (by (try simp); (try omega)) _)); (first | with_reducible assumption | with_reducible exact held_call (by assumption) (by assumption))))) (fun hHeld => ?_)
          clear hK K
          try simp only [Act.put, List.setIfInBounds_toArray, List.set_cons_zero, List.set_cons_succ]
          refine wpAnyH_ready (rs := [3, 8]) (by kernel_rfl) (by simp) (AllReadyH.cons (o := { dst := some 19, op := Op.call { callee := Callee.builtin Builtin.append, args := #[Operand.tmp 16, Operand.tmp 18], argTypes := #[25, 25] }, type := 25, pos := "ref.go:88", after := #[{ on := 0, ground := Ground.data }, { on := 2, ground := Ground.data }], guard := none }) rfl (fun K hK => ?_) (AllReadyH.cons (o := { dst := some 24, op := Op.buildSlice 25 1 #[(0, Operand.tmp 23)], type := 25, pos := "ref.go:88", after := #[{ on := 7, ground := Ground.data }], guard := none }) rfl (fun K hK => ?_) AllReadyH.nil))
          next =>
            refine step_append_ints (by rfl) (.tmp 16) (.tmp 18) 25 (by rfl) wo.heap.size 3 i0 (.int .i64 0) 8 Tryz.underlying25 HINF.out.1 HINF.out.2.1 HINF.out.2.2.1 HINF.out.2.2.2 (by rfl) _ 0 _ _ (by rfl) (own_empty1 (by first | exact World.alloc_heap_new _ _ | (have h := World.alloc_heap_new (wo.drew.alloc (.cells #[.int .i64 (j : Int)] 3)) (.cells #[] 3); simp only [World.size_alloc, World.size_drew] at h; exact h) | exact (Below.heap_alloc _ _ _ (by simp)).trans (World.alloc_heap_new _ _)) (by (try simp); (try omega))) Aj _ js.length js rfl (by rfl) (HIL2.out.keep hHeld.2) (by unfold maxLen; omega) (by omega) hHeld.2.le ?_
            intro gwa capwa wa hown hgrwa hclwa hszwa
            have hHxwa := held_of (hgrwa _ hHeld.2 (Nat.le_refl _))
            simp only [Nat.zero_add, List.nil_append] at hown
            have HOWN := Lib.hid hown
            clear hown hgrwa hclwa hszwa
            refine hK.out _ _ hHxwa (fun hHeld => ?_)
            clear hK K
            try simp only [Act.put, Nat.zero_add, List.setIfInBounds_toArray, List.set_cons_zero, List.set_cons_succ]
            refine wpAnyH_ready (rs := [8]) (by kernel_rfl) (by simp) (AllReadyH.cons (o := { dst := some 24, op := Op.buildSlice 25 1 #[(0, Operand.tmp 23)], type := 25, pos := "ref.go:88", after := #[{ on := 7, ground := Ground.data }], guard := none }) rfl (fun K hK => ?_) AllReadyH.nil)
            go_simp
            refine hK.out _ _ (by (try dsimp only); (first | with_reducible exact held_drew _ | with_reducible exact held_call (by assumption) (by assumption) | with_reducible exact held_alloc (by assumption) _ | with_reducible exact held_allocd (by assumption) _ | ((repeat (with_reducible refine held_set ?_ (by (try simp); (try omega)) _)); (first | with_reducible assumption | with_reducible exact held_call (by assumption) (by assumption))))) (fun hHeld => ?_)
            clear hK K
            try simp only [Act.put, List.setIfInBounds_toArray, List.set_cons_zero, List.set_cons_succ]
            refine wpAnyH_ready (rs := [9]) (by kernel_rfl) (by simp) (AllReadyH.cons (o := { dst := some 25, op := Op.call { callee := Callee.builtin Builtin.append, args := #[Operand.tmp 19, Operand.tmp 24], argTypes := #[25, 25] }, type := 25, pos := "ref.go:88", after := #[{ on := 3, ground := Ground.data }, { on := 8, ground := Ground.data }, { on := 3, ground := Ground.chain }], guard := none }) rfl (fun K hK => ?_) AllReadyH.nil)
            refine step_append_ints (by rfl) (.tmp 19) (.tmp 24) 25 (by rfl) wo.heap.size 3 i0 (.int .i64 0) 8 Tryz.underlying25 HINF.out.1 HINF.out.2.1 HINF.out.2.2.1 HINF.out.2.2.2 (by rfl) _ js.length _ _ (by rfl) (own_keep HOWN.out ((Gr.refl _).alloc _)) _ _ 1 [j] rfl (by rfl) (intsL_one _ j _) (by unfold maxLen; omega) (by omega) hHeld.2.le ?_
            intro gwb capwb wb hown2 hgrwb hclwb hszwb
            have hHxwb := held_of (hgrwb _ hHeld.2 (Nat.le_refl _))
            rw [natC_app] at hown2
            have HOWB := Lib.hid hown2
            clear hown2 hgrwb hclwb hszwb
            refine hK.out _ _ hHxwb (fun hHeld => ?_)
            clear hK K
            try simp only [Act.put, List.setIfInBounds_toArray, List.set_cons_zero, List.set_cons_succ]
            (refine take_at (i := 10) (oi := _) (d := some 7) (v := ?_) rfl rfl (by kernel_rfl) (by kernel_rfl) (by kernel_rfl) (fun _ _ _ h => h) (Or.inl ⟨by rfl, ?_⟩) hHeld ?_; rotate_left; next => (intro w hSw; (try dsimp only at hSw); go_simp; try with_reducible rfl))
            try simp only [Act.put, List.setIfInBounds_toArray, List.set_cons_zero, List.set_cons_succ]
            refine wpAnyH_done (by kernel_rfl) ?_ _
            go_wp2_with fail
            go_meet
            exact ⟨some ⟨gwb, 0, none⟩, capwb, by rw [List.length_append]; rfl, own_mono (by rw [List.length_append]; exact HOWB.out) (by omega), hHeld.2⟩
          next =>
            go_simp
            refine hK.out _ _ (by (try dsimp only); (first | with_reducible exact held_drew _ | with_reducible exact held_call (by assumption) (by assumption) | with_reducible exact held_alloc (by assumption) _ | with_reducible exact held_allocd (by assumption) _ | ((repeat (with_reducible refine held_set ?_ (by (try simp); (try omega)) _)); (first | with_reducible assumption | with_reducible exact held_call (by assumption) (by assumption))))) (fun hHeld => ?_)
            clear hK K
            try simp only [Act.put, List.setIfInBounds_toArray, List.set_cons_zero, List.set_cons_succ]
            refine wpAnyH_ready (rs := [3]) (by kernel_rfl) (by simp) (AllReadyH.cons (o := { dst := some 19, op := Op.call { callee := Callee.builtin Builtin.append, args := #[Operand.tmp 16, Operand.tmp 18], argTypes := #[25, 25] }, type := 25, pos := "ref.go:88", after := #[{ on := 0, ground := Ground.data }, { on := 2, ground := Ground.data }], guard := none }) rfl (fun K hK => ?_) AllReadyH.nil)
            refine step_append_ints (by rfl) (.tmp 16) (.tmp 18) 25 (by rfl) wo.heap.size 3 i0 (.int .i64 0) 8 Tryz.underlying25 HINF.out.1 HINF.out.2.1 HINF.out.2.2.1 HINF.out.2.2.2 (by rfl) _ 0 _ _ (by rfl) (own_empty1 (by first | exact World.alloc_heap_new _ _ | (have h := World.alloc_heap_new (wo.drew.alloc (.cells #[.int .i64 (j : Int)] 3)) (.cells #[] 3); simp only [World.size_alloc, World.size_drew] at h; exact h) | exact (Below.heap_alloc _ _ _ (by simp)).trans (World.alloc_heap_new _ _)) (by (try simp); (try omega))) Aj _ js.length js rfl (by rfl) (HIL2.out.keep hHeld.2) (by unfold maxLen; omega) (by omega) hHeld.2.le ?_
            intro gwa capwa wa hown hgrwa hclwa hszwa
            have hHxwa := held_of (hgrwa _ hHeld.2 (Nat.le_refl _))
            simp only [Nat.zero_add, List.nil_append] at hown
            have HOWN := Lib.hid hown
            have HJ8 : Hid (IntsL wa (some ⟨wo.heap.size + 1, 0, none⟩) [j]) := Lib.hid (ints_of_cell ((hclwa (wo.heap.size + 1) 0 (by (try simp); (try omega)) (by (try simp); (try omega))).trans (by simp [go_sem])) (by simp at hszwa; omega))
            clear hown hgrwa hclwa hszwa
            refine hK.out _ _ hHxwa (fun hHeld => ?_)
            clear hK K
            try simp only [Act.put, Nat.zero_add, List.setIfInBounds_toArray, List.set_cons_zero, List.set_cons_succ]
            refine wpAnyH_ready (rs := [9]) (by kernel_rfl) (by simp) (AllReadyH.cons (o := { dst := some 25, op := Op.call { callee := Callee.builtin Builtin.append, args := #[Operand.tmp 19, Operand.tmp 24], argTypes := #[25, 25] }, type := 25, pos := "ref.go:88", after := #[{ on := 3, ground := Ground.data }, { on := 8, ground := Ground.data }, { on := 3, ground := Ground.chain }], guard := none }) rfl (fun K hK => ?_) AllReadyH.nil)
            refine step_append_ints (by rfl) (.tmp 19) (.tmp 24) 25 (by rfl) wo.heap.size 3 i0 (.int .i64 0) 8 Tryz.underlying25 HINF.out.1 HINF.out.2.1 HINF.out.2.2.1 HINF.out.2.2.2 (by rfl) _ js.length _ _ (by rfl) HOWN.out _ _ 1 [j] rfl (by rfl) HJ8.out (by unfold maxLen; omega) (by omega) hHeld.2.le ?_
            intro gwb capwb wb hown2 hgrwb hclwb hszwb
            have hHxwb := held_of (hgrwb _ hHeld.2 (Nat.le_refl _))
            rw [natC_app] at hown2
            have HOWB := Lib.hid hown2
            clear hown2 hgrwb hclwb hszwb
            refine hK.out _ _ hHxwb (fun hHeld => ?_)
            clear hK K
            try simp only [Act.put, List.setIfInBounds_toArray, List.set_cons_zero, List.set_cons_succ]
            (refine take_at (i := 10) (oi := _) (d := some 7) (v := ?_) rfl rfl (by kernel_rfl) (by kernel_rfl) (by kernel_rfl) (fun _ _ _ h => h) (Or.inl ⟨by rfl, ?_⟩) hHeld ?_; rotate_left; next => (intro w hSw; (try dsimp only at hSw); go_simp; try with_reducible rfl))
            try simp only [Act.put, List.setIfInBounds_toArray, List.set_cons_zero, List.set_cons_succ]
            refine wpAnyH_done (by kernel_rfl) ?_ _
            go_wp2_with fail
            go_meet
            exact ⟨some ⟨gwb, 0, none⟩, capwb, by rw [List.length_append]; rfl, own_mono (by rw [List.length_append]; exact HOWB.out) (by omega), hHeld.2⟩
        next =>
          go_simp
          refine hK.out _ _ (by (try dsimp only); (first | with_reducible exact held_drew _ | with_reducible exact held_call (by assumption) (by assumption) | with_reducible exact held_alloc (by assumption) _ | with_reducible exact held_allocd (by assumption) _ | ((repeat (with_reducible refine held_set ?_ (by (try simp); (try omega)) _)); (first | with_reducible assumption | with_reducible exact held_call (by assumption) (by assumption))))) (fun hHeld => ?_)
          clear hK K
          try simp only [Act.put, List.setIfInBounds_toArray, List.set_cons_zero, List.set_cons_succ]
          refine wpAnyH_ready (rs := [0]) (by kernel_rfl) (by simp) (AllReadyH.cons (o := { dst := some 16, op := Op.buildSlice 25 0 #[], type := 25, pos := "ref.go:88", after := #[], guard := none }) rfl (fun K hK => ?_) AllReadyH.nil)
          go_simp
          refine hK.out _ _ (by (try dsimp only); (first | with_reducible exact held_drew _ | with_reducible exact held_call (by assumption) (by assumption) | with_reducible exact held_alloc (by assumption) _ | with_reducible exact held_allocd (by assumption) _ | ((repeat (with_reducible refine held_set ?_ (by (try simp); (try omega)) _)); (first | with_reducible assumption | with_reducible exact held_call (by assumption) (by assumption))))) (fun hHeld => ?_)
          clear hK K
          try simp only [Act.put, List.setIfInBounds_toArray, List.set_cons_zero, List.set_cons_succ]
          refine wpAnyH_ready (rs := [3]) (by kernel_rfl) (by simp) (AllReadyH.cons (o := { dst := some 19, op := Op.call { callee := Callee.builtin Builtin.append, args := #[Operand.tmp 16, Operand.tmp 18], argTypes := #[25, 25] }, type := 25, pos := "ref.go:88", after := #[{ on := 0, ground := Ground.data }, { on := 2, ground := Ground.data }], guard := none }) rfl (fun K hK => ?_) AllReadyH.nil)
          refine step_append_ints (by rfl) (.tmp 16) (.tmp 18) 25 (by rfl) wo.heap.size 3 i0 (.int .i64 0) 8 Tryz.underlying25 HINF.out.1 HINF.out.2.1 HINF.out.2.2.1 HINF.out.2.2.2 (by rfl) _ 0 _ _ (by rfl) (own_empty1 (by first | exact World.alloc_heap_new _ _ | (have h := World.alloc_heap_new (wo.drew.alloc (.cells #[.int .i64 (j : Int)] 3)) (.cells #[] 3); simp only [World.size_alloc, World.size_drew] at h; exact h) | exact (Below.heap_alloc _ _ _ (by simp)).trans (World.alloc_heap_new _ _)) (by (try simp); (try omega))) Aj _ js.length js rfl (by rfl) (HIL2.out.keep hHeld.2) (by unfold maxLen; omega) (by omega) hHeld.2.le ?_
          intro gwa capwa wa hown hgrwa hclwa hszwa
          have hHxwa := held_of (hgrwa _ hHeld.2 (Nat.le_refl _))
          simp only [Nat.zero_add, List.nil_append] at hown
          have HOWN := Lib.hid hown
          have HJ8 : Hid (IntsL wa (some ⟨wo.heap.size, 0, none⟩) [j]) := Lib.hid (ints_of_cell ((hclwa (wo.heap.size) 0 (by (try simp); (try omega)) (by (try simp); (try omega))).trans (by simp [go_sem])) (by simp at hszwa; omega))
          clear hown hgrwa hclwa hszwa
          refine hK.out _ _ hHxwa (fun hHeld => ?_)
          clear hK K
          try simp only [Act.put, Nat.zero_add, List.setIfInBounds_toArray, List.set_cons_zero, List.set_cons_succ]
          refine wpAnyH_ready (rs := [9]) (by kernel_rfl) (by simp) (AllReadyH.cons (o := { dst := some 25, op := Op.call { callee := Callee.builtin Builtin.append, args := #[Operand.tmp 19, Operand.tmp 24], argTypes := #[25, 25] }, type := 25, pos := "ref.go:88", after := #[{ on := 3, ground := Ground.data }, { on := 8, ground := Ground.data }, { on := 3, ground := Ground.chain }], guard := none }) rfl (fun K hK => ?_) AllReadyH.nil)
          refine step_append_ints (by rfl) (.tmp 19) (.tmp 24) 25 (by rfl) wo.heap.size 3 i0 (.int .i64 0) 8 Tryz.underlying25 HINF.out.1 HINF.out.2.1 HINF.out.2.2.1 HINF.out.2.2.2 (by rfl) _ js.length _ _ (by rfl) HOWN.out _ _ 1 [j] rfl (by rfl) HJ8.out (by unfold maxLen; omega) (by omega) hHeld.2.le ?_
          intro gwb capwb wb hown2 hgrwb hclwb hszwb
          have hHxwb := held_of (hgrwb _ hHeld.2 (Nat.le_refl _))
          rw [natC_app] at hown2
          have HOWB := Lib.hid hown2
          clear hown2 hgrwb hclwb hszwb
          refine hK.out _ _ hHxwb (fun hHeld => ?_)
          clear hK K
          try simp only [Act.put, List.setIfInBounds_toArray, List.set_cons_zero, List.set_cons_succ]
          (refine take_at (i := 10) (oi := _) (d := some 7) (v := ?_) rfl rfl (by kernel_rfl) (by kernel_rfl) (by kernel_rfl) (fun _ _ _ h => h) (Or.inl ⟨by rfl, ?_⟩) hHeld ?_; rotate_left; next => (intro w hSw; (try dsimp only at hSw); go_simp; try with_reducible rfl))
          try simp only [Act.put, List.setIfInBounds_toArray, List.set_cons_zero, List.set_cons_succ]
          refine wpAnyH_done (by kernel_rfl) ?_ _
          go_wp2_with fail
          go_meet
          exact ⟨some ⟨gwb, 0, none⟩, capwb, by rw [List.length_append]; rfl, own_mono (by rw [List.length_append]; exact HOWB.out) (by omega), hHeld.2⟩
      case rest =>
        obtain ⟨A6, c6, rfl, hown6, hg6⟩ := hcut
        obtain ⟨JS, hJS⟩ : ∃ JS, JS = js ++ [j] := ⟨_, rfl⟩
        rw [← hJS] at hown6 ⊢
        have hjl : JS.length ≤ k + 1 := by rw [hJS, List.length_append]; simp; omega
        obtain ⟨A7, c7, e7, hil6, hcl6⟩ := intsL_of_own hown6
        cases e7
        have HJS := Lib.hid hJS; have HJSO := Lib.hid hown6; have HJSI := Lib.hid hil6; have HJSG := Lib.hid hg6
        have HS6 := Lib.hid (HS.out.keep hg6)
        obtain ⟨w6, rfl⟩ : ∃ w6 : World, w6 = wc := ⟨_, rfl⟩
        clear hJS hown6 hil6 hg6 c1 c2 hblo co1
        have HJ6 : Hid (∀ j ∈ JS, j < 6) := Lib.hid (by
          rw [HJS.out]
          intro k hk'
          simp only [List.mem_append, List.mem_singleton] at hk'
          rcases hk' with hk' | rfl
          · exact HQ.out.2 k hk'
          · exact hj6)
        go_wp2_with fail
        go_loopw [8] (fun iv wr => ∃ i : Nat, i ≤ nr ∧ iv = .int .i64 (i : Int) ∧ (∀ z, z < i → detW f JS (is ++ [z]) (fun _ => false) = 0) ∧ Gr w6 wr) (fun iv _ => nr - (intOf iv).toNat)
        case atStart => exact ⟨0, Nat.zero_le _, rfl, fun z hz => by omega, Gr.refl _⟩
        case round =>
          obtain ⟨i, hi, rfl, hno, hgr⟩ := hrel
          have HNO := Lib.hid hno
          have HS7 := Lib.hid (HS6.out.keep hgr)
          have HGI := Lib.hid hgr
          have hsz7 := HS7.out.sz
          clear hno hgr
          obtain ⟨wp, rfl⟩ : ∃ wp : World, wp = wr := ⟨_, rfl⟩
          by_cases hil : i < nr
          · have hil' : decide ((i : Int) < (nr : Int)) = true := decide_eq_true (by omega)
            obtain ⟨Ai8, ci8, Aj8, cj8, c1, c2, o1, o2⟩ := HS7.out.x
            obtain ⟨A2, c2', e2, hil2, -⟩ := intsL_of_own o1
            cases e2
            have HIS2 := Lib.hid hil2
            clear o1 o2 hil2 c2
            go_wp2_with (first | (at_builtin; refine wpList_append_ints _ rfl _ _ 25 rfl wp.heap.size 3 i0 (.int .i64 0) 8 Tryz.underlying25 HINF.out.1 HINF.out.2.1 HINF.out.2.2.1 HINF.out.2.2.2 (by rfl) _ 0 _ _ rfl (own_empty1 (World.alloc_heap_new _ _) (Nat.le_refl _)) Ai8 _ is.length is rfl rfl (HIS2.out.keep ((Gr.refl _).alloc _)) (by unfold maxLen; omega) (by omega) (by simp) ?_; intro g8 cap8 w8 hown8 hgr8; simp only [Nat.zero_add, List.nil_append] at hown8 ⊢; have HOWN := Lib.hid hown8; have HG8 := Lib.hid (hgr8 _ ((Gr.refl wp).alloc _) (Nat.le_refl _)); clear hown8 hgr8) | (at_builtin; refine wpList_append_ints _ rfl _ _ 25 rfl wp.heap.size 3 i0 (.int .i64 0) 8 Tryz.underlying25 HINF.out.1 HINF.out.2.1 HINF.out.2.2.1 HINF.out.2.2.2 (by rfl) _ is.length _ _ rfl (own_keep HOWN.out ((Gr.refl _).alloc _)) _ _ 1 [i] rfl rfl (intsL_one _ i _) (by unfold maxLen; omega) (by omega) (by have := HG8.out.le; simp; omega) ?_; intro g9 cap9 w9 hown9 hgr9; have HO9 := Lib.hid hown9; have HG9 := Lib.hid (hgr9 _ (HG8.out.trans ((Gr.refl w8).alloc _)) (Nat.le_refl _)); clear hown9 hgr9))
            obtain ⟨IS, hIS⟩ : ∃ IS, IS = is ++ [i] := ⟨_, rfl⟩
            have hl : is.length + 1 = IS.length := by rw [hIS, List.length_append]; rfl
            have hown9 := HO9.out
            rw [natC_app, ← hIS, hl] at hown9
            rw [hl]
            obtain ⟨A8, c8, e8, hil9, hc9⟩ := intsL_of_own hown9
            cases e8
            have HISO := Lib.hid hown9; have HISI := Lib.hid hil9; have HISG := HG9; have HIS := Lib.hid hIS
            have his6 : IS.length ≤ 6 := by rw [← hl]; omega
            have HI8 : Hid (∀ k ∈ IS, k < nr) := Lib.hid (by
              rw [HIS.out]
              intro k hk'
              simp only [List.mem_append, List.mem_singleton] at hk'
              rcases hk' with hk' | rfl
              · exact HQ.out.1 k hk'
              · exact hil)
            clear HO9 HG9 HOWN HG8 hown9 hil9 hIS hl c1
            have HMI := Lib.hid (rminor_any nr cr Ar f HFB.out IS JS (some ⟨g9, 0, none⟩) A6 cap9 c6 w9 (HR.out.keep (HGW.out.trans (HS7.out.gr.trans HISG.out))) HISI.out (HJSI.out.keep (HGI.out.trans HISG.out)) hc9 hcl6 HI8.out HJ6.out his6 (by omega))
            have HDE : Hid (detW f JS IS (fun _ => false) = detW f JS (is ++ [i]) (fun _ => false)) := Lib.hid (by rw [HIS.out])
            rcases Int.decEq (detW f JS IS (fun _ => false)) 0 with hd | hd
            · have HD := Lib.hid hd
              have hdb : (detW f JS IS (fun _ => false) == 0) = false := by simpa using hd
              have hdb2 : (detW f JS IS (fun _ => false) != 0) = true := by simpa using hd
              generalize detW f JS IS (fun _ => false) = d at *
              clear hd
              go_at_call 89
              refine HMI.out.mono ?_
              rintro e w10 ⟨rfl, hb9⟩
              have hS9 := HS7.out.keep (HISG.out.trans hb9)
              obtain ⟨Ai, ci, Aj, cj, c1, c2, -, -⟩ := hS9.x
              have fr := hS9.fr
              have hsz9 := hS9.sz
              have HP := Lib.hid (hS9.push (own_mono (own_keep HISO.out hb9) (by omega)) (own_mono (own_keep HJSO.out (HGI.out.trans (HISG.out.trans hb9))) (Nat.le_refl _)))
              clear hS9 hb9 HS7
              go_wp2_with fail
              go_roundw
              case rel =>
                refine ⟨k + 1, by omega, by go_num, ?_⟩
                have e1 : firstRow f is (js ++ [j]) nr = some i := firstRow_some hil (by rw [← HJS.out, ← HDE.out]; exact HD.out) (fun z hz => by rw [← HJS.out]; exact HNO.out z hz)
                rw [HTK.out]
                unfold stepF
                simp only [e1]
                rw [← HJS.out, ← HIS.out]
                exact HP.out
              case measure => simp [intOf]; omega
            · have HD := Lib.hid hd
              rw [hd] at HMI
              clear hd
              go_at_call 89
              refine HMI.out.mono ?_
              rintro e w10 ⟨rfl, hb9⟩
              have HG9 := Lib.hid (HGI.out.trans (HISG.out.trans hb9))
              clear hb9
              go_wp2_with fail
              go_roundw
              case rel =>
                refine ⟨i + 1, by omega, by go_num, fun z hz => ?_, HG9.out⟩
                by_cases e : z = i
                · rw [e, ← HDE.out]; exact HD.out
                · exact HNO.out z (by omega)
              case measure => simp [intOf]; omega
          · obtain rfl : i = nr := by omega
            have hil' : decide ((i : Int) < (i : Int)) = false := decide_eq_false (by omega)
            go_wp2_with fail
            go_roundw
            case rel =>
              refine ⟨k + 1, by omega, by go_num, ?_⟩
              have e1 : firstRow f is (js ++ [j]) i = none := firstRow_none (fun z hz => by rw [← HJS.out]; exact HNO.out z hz)
              rw [HTK.out]
              unfold stepF
              simp only [e1]
              exact HS7.out
            case measure => simp [intOf]; omega
    · obtain rfl : k = no := by omega
      have hlt' : decide ((k : Int) < (k : Int)) = false := decide_eq_false (by omega)
      rw [HNO'.out, List.take_length] at HS
      obtain ⟨Ai, ci, Aj, cj, c1, c2, -, -⟩ := HS.out.x
      obtain ⟨u0, r0'⟩ := HRES.out 0 (by omega)
      obtain ⟨u1, r1'⟩ := HRES.out 1 (by omega)
      have kk : ∀ o, wo.cell? ⟨w.heap.size, o, none⟩ = W1.cell? ⟨w.heap.size, o, none⟩ := fun o => Below.cell (p := ⟨w.heap.size, o, none⟩) HS.out.gr (by show w.heap.size < W1.heap.size; omega)
      have d0 := (kk 0).trans r0'
      have d1 := (kk 1).trans r1'
      have df : ∀ o, wo.frozen? ⟨w.heap.size, o, none⟩ = false := fun o => (Below.frozen (p := ⟨w.heap.size, o, none⟩) HS.out.gr (by show w.heap.size < W1.heap.size; omega)).trans (HRF.out o)
      clear kk r0' r1'
      have v4 : ∀ W, W = ((wo.setCell ⟨w.heap.size, 0, none⟩ (.slice Ai (frameP f nr O).1.length ci)).setCell ⟨w.heap.size, 1, none⟩ (.slice Aj (frameP f nr O).2.length cj)) → W.cell? ⟨w.heap.size, 0, none⟩ = some (.slice Ai (frameP f nr O).1.length ci) ∧ W.cell? ⟨w.heap.size, 1, none⟩ = some (.slice Aj (frameP f nr O).2.length cj) ∧ Gr w W := by
        rintro W rfl
        exact ⟨by simp [go_sem, d0], by simp [go_sem, d1], ((HGR.out).setCell (Nat.le_refl _) _).setCell (Nat.le_refl _) _⟩
      have V4 := Lib.hid v4
      clear v4
      go_wp2_with fail
      generalize hW4 : ((wo.setCell ⟨w.heap.size, 0, none⟩ (.slice Ai (frameP f nr O).1.length ci)).setCell ⟨w.heap.size, 1, none⟩ (.slice Aj (frameP f nr O).2.length cj)) = W4
      obtain ⟨e0, e1, hg4⟩ := V4.out W4 hW4.symm
      clear hW4
      exact bodyPost_ret (v := .agg #[.slice Ai (frameP f nr O).1.length ci, .slice Aj (frameP f nr O).2.length cj]) (by simp [results, Tryz.results72, go_sem, e0, e1]) rfl ⟨Ai, ci, Aj, cj, rfl, hg4⟩
end Go.Proofs.YtelhmdhhabgihaaGreatDoor

namespace Go.Proofs.YtelhmdhhabgihaaGreatDoor
open Go.RowKit

set_option maxRecDepth 100000 in
set_option maxHeartbeats 16000000 in
theorem rmat_any (A : Option Addr) (n c : Nat) (f : Nat → Nat → Int) (w : World) (hR : RowsAt w 6 A n f) (hf : ∀ i, i < n → ∀ j, j < 6 → -48 ≤ f i j ∧ f i j ≤ 48) (hn : n ≤ 8) :
    Calls Tryz.prog 71 #[.slice A n c] w fun e w' => e = .returned (.bool (mvB f n)) ∧ Gr w w' := by
  have HR := Lib.hid hR; have HFB := Lib.hid hf
  have h8 : decide (8 < (n : Int)) = false := decide_eq_false (by omega)
  have h8' : decide (8 < n) = false := decide_eq_false (by omega)
  clear hR hf
  go_enter Tryz.func71, Tryz.ntmps71
  go_wp2_with fail
  go_loopw [3, 4] (fun vv iv wr => ∃ i : Nat, i ≤ n ∧ vv = .int .i64 (volP f i) ∧ iv = .int .i64 (i : Int) ∧ mvB f i = true ∧ Gr w wr) (fun _ iv _ => n - (intOf iv).toNat)
  case atStart => exact ⟨0, Nat.zero_le _, rfl, rfl, rfl, Gr.refl _⟩
  case round =>
    obtain ⟨i, hi, rfl, rfl, hm, hg⟩ := hrel
    have HM := Lib.hid hm; have HG := Lib.hid hg
    have hv1 := mvB_vol hm
    have hv0 := volP_pos f i
    clear hm hg
    obtain ⟨wo, rfl⟩ : ∃ wo : World, wo = wr := ⟨_, rfl⟩
    by_cases hlt : i < n
    · have hlt' : decide ((i : Int) < (n : Int)) = true := decide_eq_true (by omega)
      have HB := Lib.hid (HFB.out i hlt)
      have hi0 : (0 : Int) ≤ (i : Int) := by omega
      have hi1 : (i : Int) < (n : Int) := by omega
      go_wp2_with fail
      go_loopw [5, 6] (fun sv kv wr => ∃ k : Nat, k ≤ 6 ∧ sv = .int .i64 (absum (f i) k) ∧ kv = .int .i64 (k : Int) ∧ Gr wo wr) (fun _ kv _ => 6 - (intOf kv).toNat)
      case atStart => exact ⟨0, by omega, rfl, rfl, Gr.refl _⟩
      case round =>
        obtain ⟨k, hk, rfl, rfl, hg⟩ := hrel
        have HG2 := Lib.hid hg
        clear hg
        obtain ⟨wp, rfl⟩ : ∃ wp : World, wp = wr := ⟨_, rfl⟩
        have hab := absum_bd (x := f i) (n := 6) HB.out k hk
        by_cases hkl : k < 6
        · have hkl' : decide ((k : Int) < 6) = true := decide_eq_true (by omega)
          obtain ⟨b, off, rfl, hbl, hcc⟩ := (HR.out.keep (HG.out.trans HG2.out)) (by omega)
          have hq := hcc i hlt k hkl
          have hx := HB.out k hkl
          have HS1 : Hid (absum (f i) (k + 1) = absum (f i) k + ((f i k).natAbs : Int)) := Lib.hid rfl
          have hk0 : (0 : Int) ≤ (k : Int) := by omega
          have hk1 : (k : Int) < 6 := by omega
          have hw1 : IntKind.i64.wrap (absum (f i) k + ((f i k).natAbs : Int)) = absum (f i) k + ((f i k).natAbs : Int) := IntWalk.i64_in _ ⟨by omega, by omega⟩
          have d1 : decide (1000000000 < f i k) = false := decide_eq_false (by omega)
          have d2 : decide (f i k < -1000000000) = false := decide_eq_false (by omega)
          have hw2 : IntKind.i64.wrap (-(f i k)) = -(f i k) := IntWalk.i64_in _ ⟨by omega, by omega⟩
          have hm1 : (if f i k < -(f i k) then -(f i k) else f i k) = ((f i k).natAbs : Int) := by split <;> omega
          have hm2 : max (f i k) (-(f i k)) = ((f i k).natAbs : Int) := by omega
          clear hcc
          generalize absum (f i) k = S at *
          generalize ((f i k).natAbs : Int) = X at *
          generalize f i k = x at *
          go_wp2_with fail
          go_roundw
          case rel => exact ⟨k + 1, by omega, by rw [HS1.out], by go_num, HG2.out⟩
          case measure => simp [intOf]; omega
        · obtain rfl : k = 6 := by omega
          by_cases h0 : absum (f i) 6 < 1
          · have hd0 : decide (0 < absum (f i) 6) = false := decide_eq_false (by omega)
            have HVS : Hid (volP f (i + 1) = volP f i) := Lib.hid (by rw [volP, show max (absum (f i) 6) 1 = 1 by omega]; exact Int.mul_one _)
            by_cases hv : volP f (i + 1) ≤ 1000000000
            · have HN : Hid (mvB f (i + 1) = true) := Lib.hid (by rw [mvB, HM.out, decide_eq_true hv]; rfl)
              rw [HVS.out] at hv
              have d3 : decide (1000000000 < volP f i) = false := decide_eq_false (by omega)
              have d4 : ¬ (1000000000 < volP f i) := by omega
              go_wp2_with fail
              go_roundw
              case rel => exact ⟨i + 1, by omega, by rw [HVS.out], by go_num, HN.out, HG.out.trans HG2.out⟩
              case measure => simp [intOf]; omega
            · have HN : Hid (mvB f n = false) := Lib.hid (mvB_no hlt hv)
              rw [HVS.out] at hv
              exact absurd hv1 hv
          · have hd0 : decide (0 < absum (f i) 6) = true := decide_eq_true (by omega)
            have HVS : Hid (volP f (i + 1) = volP f i * absum (f i) 6) := Lib.hid (by rw [volP, show max (absum (f i) 6) 1 = absum (f i) 6 by omega])
            have hpr : 0 ≤ volP f i * absum (f i) 6 ∧ volP f i * absum (f i) 6 ≤ 288000000000 := ⟨Int.mul_nonneg (by omega) (by omega), by have := Int.mul_le_mul hv1 (show absum (f i) 6 ≤ 288 by omega) (by omega) (by omega); omega⟩
            have hw1 : IntKind.i64.wrap (volP f i * absum (f i) 6) = volP f i * absum (f i) 6 := IntWalk.i64_in _ ⟨by omega, by omega⟩
            have hw2 : wrap64 (volP f i * absum (f i) 6) = volP f i * absum (f i) 6 := (IntWalk.i64_left _).symm.trans hw1
            clear hpr
            by_cases hv : volP f (i + 1) ≤ 1000000000
            · have HN : Hid (mvB f (i + 1) = true) := Lib.hid (by rw [mvB, HM.out, decide_eq_true hv]; rfl)
              rw [HVS.out] at hv
              have d3 : decide (1000000000 < volP f i * absum (f i) 6) = false := decide_eq_false (by omega)
              have d4 : ¬ (1000000000 < volP f i * absum (f i) 6) := by omega
              go_wp2_with fail
              go_roundw
              case rel => exact ⟨i + 1, by omega, by rw [HVS.out], by go_num, HN.out, HG.out.trans HG2.out⟩
              case measure => simp [intOf]; omega
            · have HN : Hid (mvB f n = false) := Lib.hid (mvB_no hlt hv)
              rw [HVS.out] at hv
              have d3 : decide (1000000000 < volP f i * absum (f i) 6) = true := decide_eq_true (by omega)
              have d4 : 1000000000 < volP f i * absum (f i) 6 := by omega
              go_wp2_with fail
              go_ret
              exact ⟨ret_bool HN.out.symm, HG.out.trans HG2.out⟩
    · obtain rfl : n = i := by omega
      have hlt' : decide ((n : Int) < (n : Int)) = false := decide_eq_false (by omega)
      go_wp2_with fail
      go_ret
      exact ⟨ret_bool HM.out.symm, HG.out⟩
theorem ints_lit6 (w : World) (t : TypeId) : IntsL (w.alloc (.cells #[.int .i64 0, .int .i64 1, .int .i64 2, .int .i64 3, .int .i64 4, .int .i64 5] t)) (some ⟨w.heap.size, 0, none⟩) [0, 1, 2, 3, 4, 5] := by
  refine fun _ => ⟨w.heap.size, 0, rfl, by simp, fun k i hk => ?_⟩
  have hlt := (List.getElem?_eq_some_iff.1 hk).1
  simp only [List.length_cons, List.length_nil] at hlt
  obtain rfl | rfl | rfl | rfl | rfl | rfl : k = 0 ∨ k = 1 ∨ k = 2 ∨ k = 3 ∨ k = 4 ∨ k = 5 := by omega
  all_goals
    simp at hk
    subst hk
    simp [go_sem]
theorem field_b0 (a b : Value) (W : World) : (Instr.field 110 (.agg #[a, b]) 0).run Tryz.prog W = .ok a W := by
  simp [Instr.field, asAgg, go_sem]
set_option maxRecDepth 100000 in
set_option maxHeartbeats 16000000 in
theorem rrank_any (A : Option Addr) (n c : Nat) (f : Nat → Nat → Int) (w : World) (hR : RowsAt w 6 A n f) (hf : ∀ i, i < n → ∀ j, j < 6 → -48 ≤ f i j ∧ f i j ≤ 48) (hn : n ≤ 8) :
    Calls Tryz.prog 51 #[.slice A n c] w fun e w' => e = .returned (.tuple #[.int .i64 (if mvB f n then (rankP f n : Int) else 0), .int .i64 (if mvB f n then 0 else 1)]) ∧ Gr w w' := by
  have hV := fun W (g : Gr w W) => rmat_any A n c f W (hR.keep g) hf hn
  rcases btf (mvB f n) with hm | hm
  · rw [hm] at hV
    have hF := fun (Ao : Option Addr) (co : Nat) W (g : Gr w W) (hO : IntsL W Ao [0, 1, 2, 3, 4, 5]) => rgreedy_any A Ao n c co f [0, 1, 2, 3, 4, 5] W (hR.keep g) hO (by decide) hf (by omega) (by decide)
    have HV := Lib.hid hV; have HF := Lib.hid hF
    clear hV hF hR hf
    rw [hm, if_pos rfl, if_pos rfl]
    unfold rankP
    generalize frameP f n [0, 1, 2, 3, 4, 5] = FP at *
    go_enter Tryz.func51, Tryz.ntmps51
    go_wp2_with fail
    go_at_call 71
    refine (HV.out _ (Gr.refl _)).mono ?_
    rintro e w1 ⟨rfl, hg1⟩
    have HG1 := Lib.hid hg1
    clear hg1
    go_wp2_with fail
    go_at_call 72
    refine (HF.out _ _ _ (HG1.out.trans ((Gr.refl _).alloc _)) (ints_lit6 w1 _)).mono ?_
    rintro e w2 ⟨Ai, ci, Aj, cj, rfl, hg2⟩
    have HG2 := Lib.hid (HG1.out.trans (((Gr.refl w1).alloc _).trans hg2))
    have hfb := field_b0 (.slice Ai FP.1.length ci) (.slice Aj FP.2.length cj)
    clear hg2
    go_wp2_with fail
    go_ret2
    exact ⟨rfl, HG2.out⟩
  · rw [hm] at hV
    have HV := Lib.hid hV
    clear hV hR hf
    rw [hm, if_neg (by simp), if_neg (by simp)]
    go_enter Tryz.func51, Tryz.ntmps51
    go_wp2_with fail
    go_at_call 71
    refine (HV.out _ (Gr.refl _)).mono ?_
    rintro e w1 ⟨rfl, hg1⟩
    have HG1 := Lib.hid hg1
    clear hg1
    go_wp2_with fail
    go_ret2
    exact ⟨rfl, HG1.out⟩
end Go.Proofs.YtelhmdhhabgihaaGreatDoor

namespace Go.Proofs.YtelhmdhhabgihaaGreatDoor
open Go.RowKit

set_option maxHeartbeats 1000000 in
theorem r8interval_any (p0 p1 p2 p3 p4 p5 : Int) (w : World) :
    Calls Tryz.prog 33 #[.agg #[.int .i64 p0, .int .i64 p1, .int .i64 p2, .int .i64 p3, .int .i64 p4, .int .i64 p5]] w fun e w' => e = .returned (.bool (allIn ⟨p0, p1, p2, p3, p4, p5⟩ 48 6)) ∧ Gr w w' := by
  go_enter Tryz.func33, Tryz.ntmps33
  go_wp2
  go_loop [3] (fun i => ∃ k : Nat, k ≤ 6 ∧ i = .int .i64 k ∧ Hid (allIn ⟨p0, p1, p2, p3, p4, p5⟩ 48 k = true)) (fun i => 6 - (intOf i).toNat)
  case atStart => exact ⟨0, by omega, rfl, rfl⟩
  case round =>
    obtain ⟨k, hk, rfl, hall⟩ := hrel
    by_cases hlt : k < 6
    · have hx : (w.alloc (.cells #[.int .i64 p0, .int .i64 p1, .int .i64 p2, .int .i64 p3, .int .i64 p4, .int .i64 p5] 53)).cell? ⟨w.heap.size, k, none⟩ = some (.int .i64 (V6.get ⟨p0, p1, p2, p3, p4, p5⟩ k)) := by
        obtain rfl | rfl | rfl | rfl | rfl | rfl : k = 0 ∨ k = 1 ∨ k = 2 ∨ k = 3 ∨ k = 4 ∨ k = 5 := by omega
        all_goals simp [go_sem, V6.get]
      generalize hwx : w.alloc (.cells #[.int .i64 p0, .int .i64 p1, .int .i64 p2, .int .i64 p3, .int .i64 p4, .int .i64 p5] 53) = wx at hx ⊢
      have hg : Gr w wx := hwx ▸ Gr.alloc (Gr.refl w) _
      clear hwx
      generalize hv : V6.get ⟨p0, p1, p2, p3, p4, p5⟩ k = x at hx
      have HV := Lib.hid hv; clear hv
      go_wp2
      · go_ret
        exact ⟨ret_bool (allIn_no ⟨p0, p1, p2, p3, p4, p5⟩ 48 k hlt (by rw [HV.out]; assumption)).symm, (by repeat (first | with_reducible exact Gr.refl _ | with_reducible refine Gr.alloc ?_ _ | with_reducible refine Gr.drew ?_ | with_reducible refine Gr.trans ?_ (by assumption) | with_reducible refine Gr.setCell ?_ (by (try simp); (try omega)) _))⟩
      · go_round
        case rel => exact ⟨k + 1, by omega, by go_num, allIn_next ⟨p0, p1, p2, p3, p4, p5⟩ 48 k hall.out (by rw [HV.out]; omega) (by rw [HV.out]; omega)⟩
        case measure => simp [intOf]; omega
      · go_ret
        exact ⟨ret_bool (allIn_no ⟨p0, p1, p2, p3, p4, p5⟩ 48 k hlt (by rw [HV.out]; omega)).symm, (by repeat (first | with_reducible exact Gr.refl _ | with_reducible refine Gr.alloc ?_ _ | with_reducible refine Gr.drew ?_ | with_reducible refine Gr.trans ?_ (by assumption) | with_reducible refine Gr.setCell ?_ (by (try simp); (try omega)) _))⟩
    · obtain rfl : k = 6 := by omega
      go_wp2
      go_ret
      exact ⟨ret_bool hall.out.symm, (by repeat (first | with_reducible exact Gr.refl _ | with_reducible refine Gr.alloc ?_ _ | with_reducible refine Gr.drew ?_ | with_reducible refine Gr.trans ?_ (by assumption) | with_reducible refine Gr.setCell ?_ (by (try simp); (try omega)) _))⟩
set_option maxRecDepth 100000 in
set_option maxHeartbeats 16000000 in
theorem rrows_any (A : Option Addr) (n c : Nat) (nm : Nat → ByteArray) (f : Nat → Nat → Int) (w : World) (hA : NamedAt w A n nm f) (hn : n ≤ 1000) :
    Calls Tryz.prog 52 #[.slice A n c] w fun e w' => ∃ (A' : Option Addr) (c' : Nat), e = .returned (.slice A' n c') ∧ RowsAt w' 6 A' n f ∧ Gr w w' := by
  have HA := Lib.hid hA
  obtain ⟨i0, hin, hz0, hz1, hz2⟩ := info_parts (show (Tryz.prog.info? 53).map (fun i => (i.zero, i.size, i.bytes)) = some (some (.agg #[.int .i64 0, .int .i64 0, .int .i64 0, .int .i64 0, .int .i64 0, .int .i64 0]), 6, 48) by kernel_rfl)
  have HINF := Lib.hid (And.intro hin (And.intro hz0 (And.intro hz1 hz2)))
  clear hin hz0 hz1 hz2 hA
  go_enter Tryz.func52, Tryz.ntmps52
  go_wp2_with fail
  go_loopw [3, 4] (fun lv iv wr => ∃ (LV : Value) (i : Nat), LV = lv ∧ i ≤ n ∧ iv = .int .i64 (i : Int) ∧ wr.ownsRow w.heap.size 53 6 LV i (rowCells f i) ∧ Gr w wr) (fun _ iv _ => n - (intOf iv).toNat)
  case atStart => exact ⟨_, 0, rfl, Nat.zero_le _, rfl, World.ownsRow_nil _ _ _ _, Gr.refl _⟩
  case round =>
    obtain ⟨lv, i, rfl, hi, rfl, ho, hg⟩ := hrel
    have HO := Lib.hid ho; have HG := Lib.hid hg
    obtain ⟨wo, rfl⟩ : ∃ wo : World, wo = wr := ⟨_, rfl⟩
    have hgl := hg.le
    clear ho hg
    by_cases hlt : i < n
    · have hlt' : decide ((i : Int) < (n : Int)) = true := decide_eq_true (by omega)
      obtain ⟨b2, off2, rfl, hb2, hsn, q7, q0, q1, q2, q3, q4, q5⟩ := (HA.out.keep HG.out).seven hlt
      have hi0 : (0 : Int) ≤ (i : Int) := by omega
      have hi1 : (i : Int) < (n : Int) := by omega
      go_wp2_with (at_builtin; refine wpList_append_own _ rfl _ _ 49 rfl w.heap.size 53 i0 (.agg #[.int .i64 0, .int .i64 0, .int .i64 0, .int .i64 0, .int .i64 0, .int .i64 0]) 6 48 Tryz.underlying49 HINF.out.1 HINF.out.2.1 HINF.out.2.2.1 HINF.out.2.2.2 rfl (by decide) _ _ _ rfl (HO.out.alloc _) ⟨wo.heap.size, 0, none⟩ 1 1 [.int .i64 (f i 0), .int .i64 (f i 1), .int .i64 (f i 2), .int .i64 (f i 3), .int .i64 (f i 4), .int .i64 (f i 5)] rfl rfl (cell_six_new _ _ _ _ _ _ _ _) (by intro u hu; simp at hu; rcases hu with rfl | rfl | rfl | rfl | rfl | rfl <;> rfl) (by unfold maxLen; omega) (by omega) (by simp; omega) ?_; intro lv2 w2 hown hgrow hnil; have HN := Lib.hid hown; have HG2 := Lib.hid (own_app_gr (HO.out.alloc (.cells #[.int .i64 (f i 0), .int .i64 (f i 1), .int .i64 (f i 2), .int .i64 (f i 3), .int .i64 (f i 4), .int .i64 (f i 5)] 53)) (HG.out.alloc _) hgrow); clear hown hgrow hnil)
      go_roundw
      case rel => exact ⟨_, i + 1, rfl, by omega, by go_num, HN.out, HG2.out⟩
      case measure => simp [intOf]; omega
    · obtain rfl : n = i := by omega
      have hlt' : decide ((n : Int) < (n : Int)) = false := decide_eq_false (by omega)
      obtain ⟨A3, c3, rfl, hrows, -⟩ := rows_of_own HO.out f (fun i j hi hj => rowCells_at _ _ i j hi hj)
      have HRW := Lib.hid hrows
      clear hrows
      go_wp2_with fail
      go_ret
      exact ⟨A3, c3, rfl, HRW.out, HG.out⟩
theorem dw_nil {p : UInt8 → Bool} : ∀ {l : List UInt8}, l.dropWhile p = [] → ∀ x ∈ l, p x = true
  | [], _, x, hx => by simp at hx
  | a :: l, h, x, hx => by
    cases ha : p a with
    | true =>
      simp only [List.dropWhile_cons, ha, if_true] at h
      rcases List.mem_cons.1 hx with rfl | hx
      · exact ha
      · exact dw_nil h x hx
    | false => simp [ha] at h
theorem dw_mk {p : UInt8 → Bool} : ∀ {l : List UInt8}, (∀ x ∈ l, p x = true) → l.dropWhile p = []
  | [], _ => rfl
  | a :: l, h => by
    rw [List.dropWhile_cons, if_pos (h a (by simp))]
    exact dw_mk fun x hx => h x (by simp [hx])
theorem dw_all {p : UInt8 → Bool} : ∀ {l : List UInt8}, (∀ x ∈ l.dropWhile p, p x = true) → l.dropWhile p = []
  | [], _ => rfl
  | a :: l, h => by
    cases ha : p a with
    | true =>
      rw [List.dropWhile_cons, if_pos ha] at h ⊢
      exact dw_all h
    | false =>
      rw [List.dropWhile_cons, if_neg (by simp [ha])] at h
      have := h a (by simp)
      rw [ha] at this
      cases this
theorem trim_empty (l cs : List UInt8) : (Lib.trimS l cs).isEmpty = true ↔ ∀ x ∈ l, cs.contains x = true := by
  unfold Lib.trimS Lib.trimLeftS Lib.trimRightS
  constructor
  · intro h x hx
    have h1 := dw_nil (List.isEmpty_iff.1 h)
    have h2 := dw_all (p := (cs.contains ·)) (l := l.reverse) (fun x hx => h1 x (by rw [List.mem_reverse]; exact hx))
    exact dw_nil h2 x (by rw [List.mem_reverse]; exact hx)
  · intro h
    rw [dw_mk (p := (cs.contains ·)) (l := l.reverse) (fun x hx => h x (List.mem_reverse.1 hx))]
    rfl
theorem letter_at : ∀ n : Nat, n < 256 → (([97, 98, 99, 100, 101, 102, 103, 104, 105, 106, 107, 108, 109, 110, 111, 112, 113, 114, 115, 116, 117, 118, 119, 120, 121, 122] : List UInt8).contains (UInt8.ofNat n) = true ↔ 97 ≤ n ∧ n ≤ 122) := by decide +kernel
theorem letter_iff (b : UInt8) : ([97, 98, 99, 100, 101, 102, 103, 104, 105, 106, 107, 108, 109, 110, 111, 112, 113, 114, 115, 116, 117, 118, 119, 120, 121, 122] : List UInt8).contains b = true ↔ 97 ≤ b.toNat ∧ b.toNat ≤ 122 := by
  have := letter_at b.toNat (UInt8.toNat_lt b)
  rwa [UInt8.ofNat_toNat] at this
theorem named_iff (s : ByteArray) : namedB s = true ↔ 1 ≤ s.size ∧ s.size ≤ 16 ∧ ∀ k (h : k < s.size), 97 ≤ s[k].toNat ∧ s[k].toNat ≤ 122 := by
  unfold namedB
  rw [Bool.and_eq_true, Bool.and_eq_true, decide_eq_true_eq, decide_eq_true_eq, trim_empty]
  refine and_congr_right fun _ => and_congr_right fun _ => ⟨fun h k hk => ?_, fun h x hx => ?_⟩
  · exact (letter_iff _).1 (h s[k] (Array.mem_toList_iff.2 (Array.getElem_mem hk)))
  · obtain ⟨k, hk, rfl⟩ := Array.getElem_of_mem (Array.mem_toList_iff.1 hx)
    exact (letter_iff _).2 (h k hk)
set_option maxRecDepth 100000 in
set_option maxHeartbeats 16000000 in
theorem rname_any (s : ByteArray) (w : World) (hs : s.size ≤ maxLen) : Calls Tryz.prog 50 #[.string s] w fun e w' => e = .returned (.bool (namedB s)) ∧ Gr w w' := by
  have hmx : s.size ≤ 9223372036854775807 := Nat.le_trans hs (by decide)
  have HNI := Lib.hid (named_iff s)
  obtain ⟨R, hR⟩ : ∃ R, R = namedB s := ⟨_, rfl⟩
  rw [← hR] at HNI ⊢
  clear hR hs
  go_enter Tryz.func50, Tryz.ntmps50
  go_wp2_with fail
  go_loopw [3] (fun iv wr => ∃ i : Nat, i ≤ s.size ∧ iv = .int .i64 (i : Int) ∧ (∀ k (h : k < s.size), k < i → 97 ≤ s[k].toNat ∧ s[k].toNat ≤ 122) ∧ Gr w wr) (fun iv _ => s.size - (intOf iv).toNat)
  case atStart => exact ⟨0, Nat.zero_le _, rfl, fun k _ hk => by omega, Gr.refl _⟩
  case round =>
    obtain ⟨i, hi, rfl, hall, hg⟩ := hrel
    have HALL := Lib.hid hall; have HG := Lib.hid hg
    obtain ⟨wo, rfl⟩ : ∃ wo : World, wo = wr := ⟨_, rfl⟩
    clear hall hg
    by_cases hlt : i < s.size
    · have hlt' : decide ((i : Int) < (s.size : Int)) = true := decide_eq_true (by omega)
      have hi0 : (0 : Int) ≤ (i : Int) := by omega
      have hi1 : (i : Int) < (s.size : Int) := by omega
      by_cases hok : 97 ≤ s[i].toNat ∧ s[i].toNat ≤ 122
      · have d1 : decide ((s[i].toNat : Int) < 97) = false := decide_eq_false (by omega)
        have d2 : decide ((122 : Int) < (s[i].toNat : Int)) = false := decide_eq_false (by omega)
        have d1' : ¬ ((s[i].toNat : Int) < 97) := by omega
        have d2' : ¬ ((122 : Int) < (s[i].toNat : Int)) := by omega
        have HN : Hid (∀ k (h : k < s.size), k < i + 1 → 97 ≤ s[k].toNat ∧ s[k].toNat ≤ 122) := Lib.hid (fun k h hk => by
          by_cases e : k = i
          · subst e; exact hok
          · exact HALL.out k h (by omega))
        clear hok
        go_wp2_with fail
        go_roundw
        case rel => exact ⟨i + 1, by omega, by go_num, HN.out, HG.out⟩
        case measure => simp [intOf]; omega
      · have HRF : Hid (R = false) := Lib.hid (by
          cases hR : R with
          | false => rfl
          | true => exact absurd (((HNI.out.1 hR).2.2) i hlt) hok)
        clear HNI
        by_cases h1 : s[i].toNat < 97
        · have d1 : decide ((s[i].toNat : Int) < 97) = true := decide_eq_true (by omega)
          clear hok
          go_wp2_with fail
          go_ret
          exact ⟨ret_bool HRF.out.symm, HG.out⟩
        · have d1 : decide ((s[i].toNat : Int) < 97) = false := decide_eq_false (by omega)
          have d2 : decide ((122 : Int) < (s[i].toNat : Int)) = true := decide_eq_true (by omega)
          clear hok
          go_wp2_with fail
          go_ret
          exact ⟨ret_bool HRF.out.symm, HG.out⟩
    · obtain rfl : i = s.size := by omega
      have hlt' : decide ((s.size : Int) < (s.size : Int)) = false := decide_eq_false (by omega)
      have HF : Hid (R = (decide (1 ≤ s.size) && decide (s.size ≤ 16))) := Lib.hid (by
        have hh : ∀ k (h : k < s.size), 97 ≤ s[k].toNat ∧ s[k].toNat ≤ 122 := fun k h => HALL.out k h h
        cases hR : R with
        | true =>
          obtain ⟨a, b, -⟩ := HNI.out.1 hR
          rw [decide_eq_true a, decide_eq_true b]; rfl
        | false =>
          cases hQ : decide (1 ≤ s.size) && decide (s.size ≤ 16) with
          | false => rfl
          | true =>
            simp only [Bool.and_eq_true, decide_eq_true_eq] at hQ
            rw [HNI.out.2 ⟨hQ.1, hQ.2, hh⟩] at hR
            cases hR)
      clear HNI HALL
      by_cases h1 : 1 ≤ s.size
      · have d1 : decide ((1 : Int) ≤ (s.size : Int)) = true := decide_eq_true (by omega)
        have d1' : decide (1 ≤ s.size) = true := decide_eq_true h1
        by_cases h2 : s.size ≤ 16
        · have d2 : decide ((s.size : Int) ≤ 16) = true := decide_eq_true (by omega)
          have d2' : decide (s.size ≤ 16) = true := decide_eq_true h2
          rw [d1', d2'] at HF
          go_wp2_with fail
          go_ret
          exact ⟨ret_bool HF.out.symm, HG.out⟩
        · have d2 : decide ((s.size : Int) ≤ 16) = false := decide_eq_false (by omega)
          have d2' : decide (s.size ≤ 16) = false := decide_eq_false h2
          rw [d1', d2'] at HF
          go_wp2_with fail
          go_ret
          exact ⟨ret_bool HF.out.symm, HG.out⟩
      · have d1 : decide ((1 : Int) ≤ (s.size : Int)) = false := decide_eq_false (by omega)
        have d1' : decide (1 ≤ s.size) = false := decide_eq_false h1
        rw [d1', Bool.false_and] at HF
        go_wp2_with fail
        go_ret
        exact ⟨ret_bool HF.out.symm, HG.out⟩
end Go.Proofs.YtelhmdhhabgihaaGreatDoor

namespace Go.Proofs.YtelhmdhhabgihaaGreatDoor
open Go.RowKit

theorem distB_at {nm : Nat → ByteArray} {n i k : Nat} (h : distB nm n = true) (hi : i < n) (hk : k < i) : ¬ nm k = nm i := by
  induction n with
  | zero => omega
  | succ n ih =>
    simp only [distB, Bool.and_eq_true, Bool.not_eq_true'] at h
    by_cases e : i = n
    · subst e
      intro e2
      have h2 := h.2
      rw [List.any_eq_false] at h2
      exact h2 k (List.mem_range.2 hk) (by rw [e2]; simp)
    · exact ih h.1 (by omega)
theorem distB_step {nm : Nat → ByteArray} {i : Nat} (h : distB nm i = true) (hne : ∀ k, k < i → ¬ nm k = nm i) : distB nm (i + 1) = true := by
  rw [distB, h, Bool.true_and, Bool.not_eq_true', List.any_eq_false]
  intro k hk h2
  have h3 : (nm k).data.toList = (nm i).data.toList := of_decide_eq_true h2
  exact hne k (List.mem_range.1 hk) (ByteArray.ext (Array.toList_inj.1 h3))
theorem bool_no {R : Bool} {p : Prop} (h1 : R = true → p) (h2 : ¬ p) : R = false := by
  cases hR : R with
  | false => rfl
  | true => exact absurd (h1 hR) h2
theorem toList_ne {s t : ByteArray} (h : ¬ s = t) : (s.toList == t.toList) = false := by
  rw [ByteArray.toList_eq, ByteArray.toList_eq]
  exact bool_no (fun h2 => eq_of_beq h2) (fun h2 => h (ByteArray.ext (Array.toList_inj.1 h2)))
theorem commaB_of {nm : Nat → ByteArray} {f : Nat → Nat → Int} {n : Nat} (h1 : 1 ≤ n) (h6 : n ≤ 6) (hd : distB nm n = true) (hr : rowsOk nm f n = true) : commaB nm f n = (mvB f n && decide (rankP f n = n)) := by
  unfold commaB
  rw [decide_eq_true h1, decide_eq_true h6, hd, hr]
  simp
set_option maxRecDepth 100000 in
set_option maxHeartbeats 16000000 in
theorem rcomma_any (A : Option Addr) (n c : Nat) (nm : Nat → ByteArray) (f : Nat → Nat → Int) (w : World) (hA : NamedAt w A n nm f) :
    Calls Tryz.prog 31 #[.slice A n c] w fun e w' => e = .returned (.bool (commaB nm f n)) ∧ Gr w w' := by
  by_cases h1 : 1 ≤ n
  · have d1 : decide ((n : Int) < 1) = false := decide_eq_false (by omega)
    have d1' : decide (n < 1) = false := decide_eq_false (by omega)
    by_cases h6 : n ≤ 6
    · have d2 : decide (6 < (n : Int)) = false := decide_eq_false (by omega)
      have d2' : decide (6 < n) = false := decide_eq_false (by omega)
      have HA := Lib.hid hA
      have HRW := Lib.hid (fun W (g : Gr w W) => rrows_any A n c nm f W (hA.keep g) (by omega))
      have HRA := Lib.hid (fun (hbd : ∀ i, i < n → ∀ j, j < 6 → -48 ≤ f i j ∧ f i j ≤ 48) A' c' W (h : RowsAt W 6 A' n f) => rrank_any A' n c' f W h hbd (by omega))
      have HP := Lib.hid (fun h => commaB_parts (nm := nm) (f := f) (n := n) h)
      have HO := Lib.hid (fun hd hr => commaB_of (nm := nm) (f := f) h1 h6 hd hr)
      obtain ⟨R, hR⟩ : ∃ R, R = commaB nm f n := ⟨_, rfl⟩
      rw [← hR] at HP HO ⊢
      clear hR hA
      go_enter Tryz.func31, Tryz.ntmps31
      go_wp2_with fail
      go_loopw [3] (fun iv wr => ∃ i : Nat, i ≤ n ∧ iv = .int .i64 (i : Int) ∧ rowsOk nm f i = true ∧ distB nm i = true ∧ Gr w wr) (fun iv _ => n - (intOf iv).toNat)
      case atStart => exact ⟨0, Nat.zero_le _, rfl, rfl, rfl, Gr.refl _⟩
      case round =>
        obtain ⟨i, hi, rfl, hok, hds, hg⟩ := hrel
        have HOK := Lib.hid hok; have HDS := Lib.hid hds; have HG := Lib.hid hg
        clear hok hds hg
        obtain ⟨wo, rfl⟩ : ∃ wo : World, wo = wr := ⟨_, rfl⟩
        by_cases hlt : i < n
        · have hlt' : decide ((i : Int) < (n : Int)) = true := decide_eq_true (by omega)
          have hi0 : (0 : Int) ≤ (i : Int) := by omega
          have hi1 : (i : Int) < (n : Int) := by omega
          obtain ⟨b0, off, rfl, hbl, hsn, c0, c1, c2, c3, c4, c5, c6⟩ := (HA.out.keep HG.out).seven hlt
          have HNM := Lib.hid (fun W => rname_any (nm i) W hsn)
          have HIV := Lib.hid (fun W => r8interval_any (f i 0) (f i 1) (f i 2) (f i 3) (f i 4) (f i 5) W)
          have HR1 : Hid (rowsOk nm f (i + 1) = (namedB (nm i) && allIn ⟨f i 0, f i 1, f i 2, f i 3, f i 4, f i 5⟩ 48 6)) := Lib.hid (by rw [rowsOk, HOK.out, Bool.true_and])
          have HR0 : Hid ((namedB (nm i) && allIn ⟨f i 0, f i 1, f i 2, f i 3, f i 4, f i 5⟩ 48 6) = false → R = false) := Lib.hid (fun h => bool_no (fun h2 => (HP.out h2).2.2.2.1) (by rw [rowsOk_no hlt h]; simp))
          clear c1 c2 c3 c4 c5 c6
          generalize namedB (nm i) = N1 at *
          generalize allIn ⟨f i 0, f i 1, f i 2, f i 3, f i 4, f i 5⟩ 48 6 = V1 at *
          go_wp2_with fail
          go_at_call 50
          refine (HNM.out _).mono ?_
          rintro e w1 ⟨rfl, hg1⟩
          have HG1 := Lib.hid (HG.out.trans hg1)
          clear hg1 c0 hbl hsn
          obtain ⟨b0', off', hE0, hbl, hsn, c0, c1, c2, c3, c4, c5, c6⟩ := (HA.out.keep HG1.out).seven hlt
          cases hE0
          go_wp2_with fail
          go_at_call 33
          refine (HIV.out _).mono ?_
          rintro e w2 ⟨rfl, hg2⟩
          have HG2 := Lib.hid (HG1.out.trans hg2)
          clear hg2 c0 c1 c2 c3 c4 c5 c6 hbl hsn
          rcases btf N1 with rfl | rfl
          · rcases btf V1 with rfl | rfl
            · have HR2 : Hid (rowsOk nm f (i + 1) = true) := Lib.hid HR1.out
              clear HR0 HR1
              go_wp2_with fail
              go_loopw [6] (fun kv wr => ∃ k : Nat, k ≤ i ∧ kv = .int .i64 (k : Int) ∧ (∀ z, z < k → ¬ nm z = nm i) ∧ Gr w wr) (fun kv _ => i - (intOf kv).toNat)
              case atStart => exact ⟨0, Nat.zero_le _, rfl, fun z hz => by omega, HG2.out⟩
              case round =>
                obtain ⟨k, hk, rfl, hno, hg⟩ := hrel
                have HNO := Lib.hid hno; have HG3 := Lib.hid hg
                clear hno hg
                obtain ⟨wp, rfl⟩ : ∃ wp : World, wp = wr := ⟨_, rfl⟩
                by_cases hki : k < i
                · have hki' : decide ((k : Int) < (i : Int)) = true := decide_eq_true (by omega)
                  have hkiN : decide (k < i) = true := decide_eq_true hki
                  have hk0 : (0 : Int) ≤ (k : Int) := by omega
                  have hk1 : (k : Int) < (n : Int) := by omega
                  obtain ⟨b1, off1, hE1, hb1, hs1, x0, -⟩ := (HA.out.keep HG3.out).seven hlt
                  obtain ⟨b2, off2, hE2, hb2, hs2, y0, -⟩ := (HA.out.keep HG3.out).seven (show k < n by omega)
                  cases hE1
                  cases hE2
                  have HG4 := Lib.hid (fun q => HG3.out.trans ((Gr.refl wp).drewN q))
                  by_cases he : nm k = nm i
                  · have HRF : Hid (R = false) := Lib.hid (bool_no (fun h2 => (HP.out h2).2.2.1) (fun h3 => distB_at h3 hlt hki he))
                    rw [he] at y0
                    generalize nm i = s at *
                    go_wp2_with fail
                    go_quiet (fail)
                    go_wp2_with fail
                    go_ret
                    exact ⟨ret_bool HRF.out.symm, HG4.out _⟩
                  · have HN : Hid (∀ z, z < k + 1 → ¬ nm z = nm i) := Lib.hid (fun z hz => by
                      by_cases e : z = k
                      · rw [e]; exact he
                      · exact HNO.out z (by omega))
                    have he1 := toList_ne he
                    go_wp2_with fail
                    go_quiet (fail)
                    go_wp2_with fail
                    go_roundw
                    case rel => exact ⟨k + 1, by omega, by go_num, HN.out, HG4.out _⟩
                    case measure => simp [intOf]; omega
                · obtain rfl : k = i := by omega
                  have hki' : decide ((k : Int) < (k : Int)) = false := decide_eq_false (by omega)
                  have HDN : Hid (distB nm (k + 1) = true) := Lib.hid (distB_step HDS.out HNO.out)
                  go_wp2_with fail
                  go_roundw
                  case rel => exact ⟨k + 1, by omega, by go_num, HR2.out, HDN.out, HG3.out⟩
                  case measure => simp [intOf]; omega
            · have HRF := Lib.hid (HR0.out rfl)
              go_wp2_with fail
              go_ret
              exact ⟨ret_bool HRF.out.symm, HG2.out⟩
          · have HRF := Lib.hid (HR0.out (by rw [Bool.false_and]))
            go_wp2_with fail
            go_ret
            exact ⟨ret_bool HRF.out.symm, HG2.out⟩
        · obtain rfl : n = i := by omega
          have hlt' : decide ((n : Int) < (n : Int)) = false := decide_eq_false (by omega)
          have HRR := Lib.hid (HO.out HDS.out HOK.out)
          have HBD := Lib.hid (rowsOk_bd HOK.out)
          go_wp2_with fail
          go_at_call 52
          refine (HRW.out _ HG.out).mono ?_
          rintro e w1 ⟨A1, c1, rfl, hr1, hg1⟩
          have HG1 := Lib.hid (HG.out.trans hg1); have HR1 := Lib.hid hr1
          clear hg1 hr1
          have HRK := Lib.hid (HRA.out HBD.out A1 c1 w1 HR1.out)
          rcases btf (mvB f n) with hm | hm
          · rw [hm, if_pos rfl, if_pos rfl] at HRK
            rw [hm, Bool.true_and] at HRR
            by_cases hq : rankP f n = n
            · rw [hq] at HRK
              rw [decide_eq_true hq] at HRR
              clear hq hm
              go_wp2_with fail
              go_at_call 51
              refine HRK.out.mono ?_
              rintro e w2 ⟨rfl, hg2⟩
              have HG2 := Lib.hid (HG1.out.trans hg2)
              clear hg2
              go_wp2_with fail
              go_ret
              exact ⟨ret_bool HRR.out.symm, HG2.out⟩
            · rw [decide_eq_false hq] at HRR
              have q1 : decide ((rankP f n : Int) = (n : Int)) = false := decide_eq_false (by omega)
              have q2 : decide (rankP f n = n) = false := decide_eq_false hq
              have q3 : ((rankP f n : Int) == (n : Int)) = false := by simp; omega
              have q4 : (rankP f n == n) = false := by simpa using hq
              generalize rankP f n = Q at *
              clear hm
              go_wp2_with fail
              go_at_call 51
              refine HRK.out.mono ?_
              rintro e w2 ⟨rfl, hg2⟩
              have HG2 := Lib.hid (HG1.out.trans hg2)
              clear hg2
              go_wp2_with fail
              go_ret
              exact ⟨ret_bool HRR.out.symm, HG2.out⟩
          · rw [hm, if_neg (by simp), if_neg (by simp)] at HRK
            rw [hm, Bool.false_and] at HRR
            clear hm
            go_wp2_with fail
            go_at_call 51
            refine HRK.out.mono ?_
            rintro e w2 ⟨rfl, hg2⟩
            have HG2 := Lib.hid (HG1.out.trans hg2)
            clear hg2
            go_wp2_with fail
            go_ret
            exact ⟨ret_bool HRR.out.symm, HG2.out⟩
    · have d2 : decide (6 < (n : Int)) = true := decide_eq_true (by omega)
      have d2' : decide (6 < n) = true := decide_eq_true (by omega)
      have hR : commaB nm f n = false := by unfold commaB; rw [decide_eq_false h6]; simp
      rw [hR]
      clear hA hR
      go_enter Tryz.func31, Tryz.ntmps31
      go_wp2_with fail
      go_ret
      exact ⟨rfl, Gr.refl _⟩
  · have d1 : decide ((n : Int) < 1) = true := decide_eq_true (by omega)
    have d1' : decide (n < 1) = true := decide_eq_true (by omega)
    have hR : commaB nm f n = false := by unfold commaB; rw [decide_eq_false h1]; simp
    rw [hR]
    clear hA hR
    go_enter Tryz.func31, Tryz.ntmps31
    go_wp2_with fail
    go_ret
    exact ⟨rfl, Gr.refl _⟩
end Go.Proofs.YtelhmdhhabgihaaGreatDoor
