/-
  slices.Clone of a list of numbers.
  matrix.framed and Rank.
  matrix.Valid and matrix.Rank.
-/
import Derived.Test.YtelhmdhhabgihaaGreatDoorMnX
import Derived.OwnWalk
import Derived.Laws.AppendOwn
import Derived.RangeFuncRecord
namespace Go.Proofs.YtelhmdhhabgihaaGreatDoor
open Go.RowKit

/-- The cells of a list of numbers. -/
def natC (l : List Nat) : List Value := l.map fun (i : Nat) => Value.int .i64 (i : Int)
theorem natC_len (l : List Nat) : (natC l).length = l.length := by simp [natC]
theorem natC_snoc (l : List Nat) (i : Nat) : natC (l ++ [i]) = natC l ++ [.int .i64 (i : Int)] := by simp [natC]
theorem natC_one (l : List Nat) : ∀ u ∈ natC l, u.oneCell' = true := by
  intro u hu
  simp only [natC, List.mem_map] at hu
  obtain ⟨i, -, rfl⟩ := hu
  rfl
theorem natC_at {l : List Nat} {j : Nat} {u : Value} (h : (natC l)[j]? = some u) : ∃ i, l[j]? = some i ∧ u = .int .i64 (i : Int) := by
  simp only [natC, List.getElem?_map, Option.map_eq_some_iff] at h
  obtain ⟨i, h1, h2⟩ := h
  exact ⟨i, h1, h2.symm⟩
theorem intsL_of_own {W : World} {base : Nat} {e : TypeId} {v : Value} {l : List Nat} (h : W.ownsRow base e 1 v l.length (natC l)) : ∃ A c, v = .slice A l.length c ∧ IntsL W A l ∧ l.length ≤ c := by
  have hc := fun g (hg : v.ownBlock = some g) => h.cells hg
  rcases h.2 with ⟨rfl, h0⟩ | ⟨g, cap, cur, rfl, hb, hgg, h1, h2, h3, h4⟩
  · exact ⟨none, 0, by rw [h0], fun h => by omega, by omega⟩
  · refine ⟨some ⟨g, 0, none⟩, cap, rfl, fun _ => ⟨g, 0, rfl, (Array.getElem?_eq_some_iff.1 hgg).1, fun k i hk => ?_⟩, h1⟩
    have := hc g rfl k (.int .i64 (i : Int)) (by simp [natC, hk])
    rwa [Addr.add_lit] at this
theorem own_empty1 {W : World} {base g : Nat} {e : TypeId} (h : W.heap[g]? = some (.cells #[] e (0, 0))) (hb : base ≤ g) : W.ownsRow base e 1 (.slice (some ⟨g, 0, none⟩) 0 0) 0 [] :=
  ⟨rfl, .inr ⟨g, 0, #[], rfl, hb, h, Nat.le_refl _, Nat.zero_le _, rfl, rfl⟩⟩
theorem infoInt : (Tryz.prog.info? 3).map (fun i => (i.zero, i.size, i.bytes)) = some (some (.int .i64 0), 1, 8) := by kernel_rfl
/-- What a copy is: a list of the call's own. -/
def CloR (l : List Nat) (w : World) (e : Ending) (w' : World) : Prop := ∃ (A' : Option Addr) (c' : Nat), e = .returned (.slice A' l.length c') ∧ w'.ownsRow w.heap.size 3 1 (.slice A' l.length c') l.length (natC l) ∧ Gr w w'
set_option maxRecDepth 100000 in
set_option maxHeartbeats 16000000 in
theorem clone_any (A : Option Addr) (l : List Nat) (c : Nat) (w : World) (hI : IntsL w A l) (hl : l.length ≤ 1000) :
    Calls Tryz.prog 104 #[.slice A l.length c] w (CloR l w) := by
  obtain ⟨i0, hin, hz0, hz1, hz2⟩ := info_parts infoInt
  have HINF := Lib.hid (And.intro hin (And.intro hz0 (And.intro hz1 hz2)))
  clear hin hz0 hz1 hz2
  have q22 : ∀ (w : World) (a : Option Addr) (n c n' c' : Nat), (binOp .eql 25 (.slice a n c) (.slice none n' c')).run Tryz.prog w = .ok (.bool a.isNone) w := fun w a n c n' c' => Lib.run_eql_slice_nil w _ _ a n c n' c' Tryz.underlying25
  cases A with
  | none =>
    have h0 : l = [] := by
      cases l with
      | nil => rfl
      | cons i l => obtain ⟨b, off, h, -⟩ := hI (by simp); cases h
    subst h0
    clear hI
    go_enter Tryz.func104, Tryz.ntmps104
    go_wp2_with fail
    go_ret
    exact ⟨none, 0, rfl, World.ownsRow_nil _ _ _ _, Gr.refl _⟩
  | some ad =>
    obtain ⟨b0, o0, x0⟩ := ad
    have hnews : ∀ j u, (natC l)[j]? = some u → w.cell? ((⟨b0, o0, x0⟩ : Addr).add j) = some u := by
      intro j u hj
      obtain ⟨i, hi, rfl⟩ := natC_at hj
      have hlt := (List.getElem?_eq_some_iff.1 hi).1
      obtain ⟨b, off, h, -, hc⟩ := hI (by omega)
      cases h
      rw [Addr.add_lit]; exact hc j i hi
    have hbl : ∀ j u, (natC l)[j]? = some u → (w.alloc (.cells #[] 3)).cell? ((⟨b0, o0, x0⟩ : Addr).add j) = some u := by
      intro j u hj
      obtain ⟨i, hi, rfl⟩ := natC_at hj
      have hlt := (List.getElem?_eq_some_iff.1 hi).1
      obtain ⟨b, off, h, hb, hc⟩ := hI (by omega)
      cases h
      rw [Addr.add_lit]; exact (Below.cell (p := ⟨_, _, none⟩) ((Gr.refl w).alloc _) hb).trans (hc j i hi)
    have HN := Lib.hid hbl
    clear hI hnews hbl
    go_enter Tryz.func104, Tryz.ntmps104
    go_wp2_with (at_builtin; refine wpList_append_own _ rfl _ _ 25 rfl w.heap.size 3 i0 (.int .i64 0) 1 8 Tryz.underlying25 HINF.out.1 HINF.out.2.1 HINF.out.2.2.1 HINF.out.2.2.2 rfl (by decide) _ _ _ rfl (own_empty1 (World.alloc_heap_new _ _) (Nat.le_refl _)) ⟨b0, o0, x0⟩ l.length c (natC l) rfl (by rw [natC_len]; omega) HN.out (natC_one l) (by unfold maxLen; omega) (by omega) (by simp) ?_; intro lv' w3 hown1 hgrow hnil; replace hgrow : (w.alloc (.cells #[] 3)).grownBy w3 (some w.heap.size) := hgrow)
    rw [Nat.zero_add, List.nil_append] at hown1
    obtain ⟨A', c', rfl, -, -⟩ := intsL_of_own hown1
    have hg3 : Gr w w3 := Below.trans ((Gr.refl w).alloc _) ((Below.refl w.heap.size _).grown hgrow (by simp) (fun k hk => by cases hk; exact Nat.le_refl _))
    have HO := Lib.hid hown1; have HG := Lib.hid hg3
    clear hown1 hgrow hnil hg3
    go_wp2_with fail
    go_ret
    exact ⟨_, _, rfl, HO.out, HG.out⟩
end Go.Proofs.YtelhmdhhabgihaaGreatDoor

namespace Go.Proofs.YtelhmdhhabgihaaGreatDoor
open Go.RowKit

theorem cell_one_new (w : World) (x : Value) (t : TypeId) : ∀ j u, [x][j]? = some u → (w.alloc (.cells #[x] t)).cell? ((⟨w.heap.size, 0, none⟩ : Addr).add j) = some u := by
  intro j u hj
  match j, hj with
  | 0, hj => simp at hj; subst hj; simp [Addr.add]
theorem own_mono {W : World} {b b' : Nat} {e : TypeId} {sz n : Nat} {v : Value} {xs : List Value} (h : W.ownsRow b e sz v n xs) (hb : b' ≤ b) : W.ownsRow b' e sz v n xs := by
  refine ⟨h.1, ?_⟩
  rcases h.2 with h2 | ⟨g, cap, cur, h1, h2, h3⟩
  · exact .inl h2
  · exact .inr ⟨g, cap, cur, h1, Nat.le_trans hb h2, h3⟩
/-- The first row below n with which the minor is not 0. -/
def firstRow (f : Nat → Nat → Int) (is js : List Nat) (n : Nat) : Option Nat := (List.range n).find? fun i => detW f js (is ++ [i]) (fun _ => false) != 0
/-- One column more. -/
def stepF (f : Nat → Nat → Int) (n : Nat) (s : List Nat × List Nat) (j : Nat) : List Nat × List Nat := match firstRow f s.1 (s.2 ++ [j]) n with
  | some i => (s.1 ++ [i], s.2 ++ [j])
  | none => s
/-- Independent rows, and the first columns of an order on which they are independent. -/
def frameP (f : Nat → Nat → Int) (n : Nat) (o : List Nat) : List Nat × List Nat := o.foldl (stepF f n) ([], [])
def rankP (f : Nat → Nat → Int) (n : Nat) : Nat := (frameP f n [0, 1, 2, 3, 4, 5]).1.length
theorem frameP_snoc (f : Nat → Nat → Int) (n : Nat) (o : List Nat) (j : Nat) : frameP f n (o ++ [j]) = stepF f n (frameP f n o) j := by simp [frameP]
theorem firstRow_some {f : Nat → Nat → Int} {is js : List Nat} {n i : Nat} (hi : i < n) (h : detW f js (is ++ [i]) (fun _ => false) ≠ 0) (hno : ∀ k, k < i → detW f js (is ++ [k]) (fun _ => false) = 0) : firstRow f is js n = some i := by
  unfold firstRow
  rw [List.find?_range_eq_some]
  exact ⟨by simpa using h, by simpa using hi, fun k hk => by simpa using hno k hk⟩
theorem firstRow_none {f : Nat → Nat → Int} {is js : List Nat} {n : Nat} (hno : ∀ k, k < n → detW f js (is ++ [k]) (fun _ => false) = 0) : firstRow f is js n = none := by
  unfold firstRow
  rw [List.find?_range_eq_none]
  exact fun k hk => by simpa using hno k hk
theorem firstRow_lt {f : Nat → Nat → Int} {is js : List Nat} {n i : Nat} (h : firstRow f is js n = some i) : i < n := by
  have := List.mem_of_find?_eq_some h
  simpa using this
/-- What holds of a frame of at most m columns. -/
def FrI (n m : Nat) (s : List Nat × List Nat) : Prop := s.1.length = s.2.length ∧ s.2.length ≤ m ∧ (∀ i ∈ s.1, i < n) ∧ (∀ j ∈ s.2, j < 6)
theorem stepF_inv {f : Nat → Nat → Int} {n m j : Nat} {s : List Nat × List Nat} (h : FrI n m s) (hj : j < 6) : FrI n (m + 1) (stepF f n s j) := by
  obtain ⟨h1, h2, h3, h4⟩ := h
  unfold stepF
  split
  · rename_i i hi
    refine ⟨by simp [h1], by simp; omega, fun k hk => ?_, fun k hk => ?_⟩
    · simp only [List.mem_append, List.mem_singleton] at hk
      rcases hk with hk | rfl
      · exact h3 k hk
      · exact firstRow_lt hi
    · simp only [List.mem_append, List.mem_singleton] at hk
      rcases hk with hk | rfl
      · exact h4 k hk
      · exact hj
  · exact ⟨h1, by omega, h3, h4⟩
theorem foldF_inv {f : Nat → Nat → Int} {n : Nat} : ∀ (o : List Nat) (m : Nat) (s : List Nat × List Nat), FrI n m s → (∀ j ∈ o, j < 6) → FrI n (m + o.length) (o.foldl (stepF f n) s)
  | [], m, s, h, _ => by simpa using h
  | j :: o, m, s, h, hj => by
    have := foldF_inv (f := f) o (m + 1) _ (stepF_inv (f := f) h (hj j (by simp))) (fun k hk => hj k (by simp [hk]))
    rw [List.foldl_cons, List.length_cons, show m + (o.length + 1) = m + 1 + o.length by omega]
    exact this
theorem frameP_inv (f : Nat → Nat → Int) (n : Nat) (o : List Nat) (ho : ∀ j ∈ o, j < 6) : FrI n o.length (frameP f n o) := by
  have := foldF_inv (f := f) (n := n) o 0 ([], []) ⟨rfl, by simp, by simp, by simp⟩ ho
  rwa [Nat.zero_add] at this
/-- The frame so far, in its box (block FB). -/
structure FrS (W1 : World) (FB : Nat) (Ar : Option Addr) (nr cr : Nat) (W : World) (is js : List Nat) : Prop where
  gr : Gr W1 W
  lo : W1.heap.size ≤ FB
  sz : FB + 1 ≤ W.heap.size
  c0 : W.cell? ⟨FB, 0, none⟩ = some (.slice Ar nr cr)
  fr : ∀ o, W.frozen? ⟨FB, o, none⟩ = false
  x : ∃ (Ai : Option Addr) (ci : Nat) (Aj : Option Addr) (cj : Nat) (m : Int), W.cell? ⟨FB, 1, none⟩ = some (.slice Ai is.length ci) ∧ W.cell? ⟨FB, 2, none⟩ = some (.slice Aj js.length cj) ∧ W.cell? ⟨FB, 3, none⟩ = some (.int .i64 m) ∧
    W.ownsRow (FB + 1) 3 1 (.slice Ai is.length ci) is.length (natC is) ∧ W.ownsRow (FB + 1) 3 1 (.slice Aj js.length cj) js.length (natC js)
theorem FrS.keep {W1 W W' : World} {FB : Nat} {Ar : Option Addr} {nr cr : Nat} {is js : List Nat} (h : FrS W1 FB Ar nr cr W is js) (g : Gr W W') : FrS W1 FB Ar nr cr W' is js := by
  have hs : FB < W.heap.size := by have := h.sz; omega
  have k : ∀ o, W'.cell? ⟨FB, o, none⟩ = W.cell? ⟨FB, o, none⟩ := fun o => Below.cell (p := ⟨FB, o, none⟩) g hs
  obtain ⟨Ai, ci, Aj, cj, m, h1, h2, h3, h4, h5⟩ := h.x
  exact ⟨h.gr.trans g, h.lo, Nat.le_trans h.sz g.le, (k 0).trans h.c0, fun o => (Below.frozen (p := ⟨FB, o, none⟩) g hs).trans (h.fr o), Ai, ci, Aj, cj, m, (k 1).trans h1, (k 2).trans h2, (k 3).trans h3, own_keep h4 g, own_keep h5 g⟩
theorem own_set {FB : Nat} {W : World} {e : TypeId} {s n : Nat} {u : Value} {ys : List Value} (hu : W.ownsRow (FB + 1) e s u n ys) (o : Nat) (v : Value) : (W.setCell ⟨FB, o, none⟩ v).ownsRow (FB + 1) e s u n ys := by
  have hg : W.grownBy (W.setCell ⟨FB, o, none⟩ v) (some FB) :=
    ⟨rfl, rfl, rfl, by simp, fun k _ hk => Below.heap_setCell _ _ _ k (fun e => hk (by rw [e]))⟩
  refine hu.kept hg ?_
  cases eu : u.ownBlock with
  | none => exact .inl rfl
  | some k => exact .inr (fun e' => by have := (hu.lt k eu).1; cases e'; omega)
theorem own_base {W : World} {base : Nat} {e : TypeId} {s n : Nat} {u : Value} {ys : List Value} (hu : W.ownsRow base e s u n ys) {g : Nat} (hg : u.ownBlock = some g) : base ≤ g := (hu.lt g hg).1
theorem FrS.push {W1 W : World} {FB : Nat} {Ar Ai Aj : Option Addr} {nr cr ci cj : Nat} {m : Int} {is js is' js' : List Nat} (h : FrS W1 FB Ar nr cr W is js)
    (h1 : W.ownsRow (FB + 1) 3 1 (.slice Ai is'.length ci) is'.length (natC is')) (h2 : W.ownsRow (FB + 1) 3 1 (.slice Aj js'.length cj) js'.length (natC js')) :
    FrS W1 FB Ar nr cr (((W.setCell ⟨FB, 1, none⟩ (.slice Ai is'.length ci)).setCell ⟨FB, 2, none⟩ (.slice Aj js'.length cj)).setCell ⟨FB, 3, none⟩ (.int .i64 m)) is' js' := by
  obtain ⟨Ai0, ci0, Aj0, cj0, m0, k1, k2, k3, -, -⟩ := h.x
  have k0 := h.c0
  refine ⟨((h.gr.setCell h.lo _).setCell h.lo _).setCell h.lo _, h.lo, by simp only [World.size_setCell]; exact h.sz, by simp [go_sem, *], fun o => by simp only [World.frozen?_setCell]; exact h.fr o, Ai, ci, Aj, cj, m, by simp [go_sem, *], by simp [go_sem, *], by simp [go_sem, *], own_set (own_set (own_set h1 _ _) _ _) _ _, own_set (own_set (own_set h2 _ _) _ _) _ _⟩
theorem own_app_gr {W0 X W' : World} {e : TypeId} {s n : Nat} {v : Value} {ys : List Value} (h : X.ownsRow W0.heap.size e s v n ys) (g : Gr W0 X) (hgrow : X.grownBy W' v.ownBlock) : Gr W0 W' := Below.trans g ((Below.refl _ _).grown hgrow g.le (fun _ hk => own_base h hk))
/-- A list of numbers, and one more behind it. -/
def AppR (FB : Nat) (l : List Nat) (i : Nat) (v : Value) (W W' : World) : Prop := ∃ (A : Option Addr) (c : Nat), v = .slice A (l ++ [i]).length c ∧ W'.ownsRow (FB + 1) 3 1 (.slice A (l ++ [i]).length c) (l ++ [i]).length (natC (l ++ [i])) ∧ Gr W W'
theorem take_snoc1 {α : Type} {l : List α} {k : Nat} {x : α} (h : l[k]? = some x) : l.take (k + 1) = l.take k ++ [x] := by rw [List.take_add_one, h]; rfl
set_option maxRecDepth 100000 in
set_option maxHeartbeats 16000000 in
theorem framed_any (Ar Ao : Option Addr) (nr cr co : Nat) (f : Nat → Nat → Int) (O : List Nat) (w : World) (hR : RowsAt w 6 Ar nr f) (hO : IntsL w Ao O) (hj : ∀ j ∈ O, j < 6) (hf : ∀ i, i < nr → ∀ j, j < 6 → -48 ≤ f i j ∧ f i j ≤ 48) (hnr : nr ≤ 1000) (hol : O.length ≤ 6) :
    Calls Tryz.prog 87 #[.slice Ar nr cr, .slice Ao O.length co] w fun e w' => ∃ (Ai : Option Addr) (ci : Nat) (Aj : Option Addr) (cj : Nat) (m : Int), e = .returned (.agg #[.slice Ar nr cr, .slice Ai (frameP f nr O).1.length ci, .slice Aj (frameP f nr O).2.length cj, .int .i64 m]) ∧ Gr w w' := by
  obtain ⟨i0, hin, hz0, hz1, hz2⟩ := info_parts infoInt
  have HINF := Lib.hid (And.intro hin (And.intro hz0 (And.intro hz1 hz2)))
  have HR := Lib.hid hR; have HOO := Lib.hid hO; have HJ := Lib.hid hj; have HFB := Lib.hid hf
  clear hin hz0 hz1 hz2 hR hO hj hf
  go_enter Tryz.func87, Tryz.ntmps87
  go_upto_region 2 with fail
  generalize hW1 : w.alloc (.cells #[.slice none 0 0, .slice none 0 0, .slice none 0 0, .int .i64 0] 125) = W1
  have hgw : Gr w W1 := by rw [← hW1]; exact (Gr.refl w).alloc _
  have hz1 : W1.heap.size = w.heap.size + 1 := by rw [← hW1]; simp
  have HRES : Hid (∀ o, o < 4 → ∃ u, W1.cell? ⟨w.heap.size, o, none⟩ = some u) := Lib.hid (by
    rw [← hW1]
    intro o ho
    obtain rfl | rfl | rfl | rfl : o = 0 ∨ o = 1 ∨ o = 2 ∨ o = 3 := by omega
    · exact ⟨.slice none 0 0, by simp [go_sem]⟩
    · exact ⟨.slice none 0 0, by simp [go_sem]⟩
    · exact ⟨.slice none 0 0, by simp [go_sem]⟩
    · exact ⟨.int .i64 0, by simp [go_sem]⟩)
  have HRF : Hid (∀ o, W1.frozen? ⟨w.heap.size, o, none⟩ = false) := Lib.hid (by rw [← hW1]; intro o; simp [go_sem])
  have hS0 : ∀ W, W = W1.alloc (.cells #[.slice Ar nr cr, .slice none 0 0, .slice none 0 0, .int .i64 1] 125) → FrS W1 (w.heap.size + 1) Ar nr cr W (frameP f nr (O.take 0)).1 (frameP f nr (O.take 0)).2 := by
    rintro W rfl
    have e : w.heap.size + 1 = W1.heap.size := hz1.symm
    rw [e]
    exact ⟨(Gr.refl _).alloc _, Nat.le_refl _, by simp, by simp [go_sem], fun o => by simp [go_sem], none, 0, none, 0, 1, by simp [go_sem, frameP], by simp [go_sem, frameP], by simp [go_sem], World.ownsRow_nil _ _ _ _, World.ownsRow_nil _ _ _ _⟩
  generalize hW2 : W1.alloc (.cells #[.slice Ar nr cr, .slice none 0 0, .slice none 0 0, .int .i64 1] 125) = W2
  have HS0 := Lib.hid (hS0 W2 hW2.symm)
  have HGW := Lib.hid hgw
  have hlo : W1.heap.size ≤ w.heap.size + 1 := Nat.le_of_eq hz1
  clear hW1 hW2 hS0 hgw
  generalize hFB : w.heap.size + 1 = FB at *
  go_wp2_with fail
  go_loopw [16] (fun iv wr => ∃ k : Nat, k ≤ O.length ∧ iv = .int .i64 (k : Int) ∧ FrS W1 FB Ar nr cr wr (frameP f nr (O.take k)).1 (frameP f nr (O.take k)).2) (fun iv _ => O.length - (intOf iv).toNat)
  case atStart => exact ⟨0, Nat.zero_le _, rfl, HS0.out⟩
  case round =>
    obtain ⟨k, hk, rfl, hS⟩ := hrel
    have HS := Lib.hid hS
    have HINV := Lib.hid (frameP_inv f nr (O.take k) (fun j hj => HJ.out j (List.mem_of_mem_take hj)))
    have hlk : (O.take k).length = k := by rw [List.length_take]; omega
    have HGR := Lib.hid (HGW.out.trans hS.gr)
    have hsz := hS.sz
    clear hS HS0
    obtain ⟨wo, rfl⟩ : ∃ wo : World, wo = wr := ⟨_, rfl⟩
    by_cases hlt : k < O.length
    · have hlt' : decide ((k : Int) < (O.length : Int)) = true := decide_eq_true (by omega)
      obtain ⟨j, hjk⟩ : ∃ j, O[k]? = some j := ⟨_, List.getElem?_eq_getElem hlt⟩
      have hj6 := HJ.out j (List.mem_of_getElem? hjk)
      have HTK : Hid (frameP f nr (O.take (k + 1)) = stepF f nr (frameP f nr (O.take k)) j) := Lib.hid (by rw [take_snoc1 hjk, frameP_snoc])
      obtain ⟨bo, oo, rfl, hblo, hco⟩ := (HOO.out.keep HGR.out) (by omega)
      have co1 := hco k j hjk
      clear hco hjk
      generalize hfp : frameP f nr (O.take k) = S at *
      obtain ⟨is, js⟩ := S
      simp only at HS HTK HINV
      obtain ⟨q1, q2, q3, q4⟩ := HINV.out
      simp only at q1 q2 q3 q4
      rw [hlk] at q2
      replace q1 : is.length ≤ js.length := Nat.le_of_eq q1
      clear hfp hlk
      obtain ⟨Ai, ci, Aj, cj, m, c1, c2, c3, o1, o2⟩ := HS.out.x
      have HO1 := Lib.hid o1; have HO2 := Lib.hid o2; have HQ := Lib.hid (And.intro q3 q4)
      obtain ⟨A2, c2', e2, hil2, -⟩ := intsL_of_own o2
      cases e2
      have HCL := Lib.hid (clone_any Aj js cj wo hil2 (by omega))
      clear o1 o2 hil2 q3 q4
      go_wp2_with fail
      go_at_call 104
      refine HCL.out.mono ?_
      rintro e w5 ⟨A5, c5, rfl, hown5, hb5⟩
      have HO5 := Lib.hid hown5; have HB5 := Lib.hid hb5
      have hz5 := hb5.le
      clear hown5 hb5
      go_wp2_with (at_builtin; refine wpList_append_own _ rfl _ _ 25 rfl wo.heap.size 3 i0 (.int .i64 0) 1 8 Tryz.underlying25 HINF.out.1 HINF.out.2.1 HINF.out.2.2.1 HINF.out.2.2.2 rfl (by decide) _ _ _ rfl (own_keep HO5.out ((Gr.refl _).alloc _)) ⟨w5.heap.size, 0, none⟩ 1 1 [.int .i64 (j : Int)] rfl rfl (cell_one_new _ _ _) (by intro u hu; simp at hu; subst hu; rfl) (by unfold maxLen; omega) (by omega) (by simp; omega) ?_; intro lv' w6 hown6 hgrow hnil; have hg6 := own_app_gr (own_keep HO5.out ((Gr.refl _).alloc (.cells #[.int .i64 (j : Int)] 3))) (HB5.out.alloc _) hgrow; replace hown6 : w6.ownsRow wo.heap.size 3 1 lv' (js ++ [j]).length (natC (js ++ [j])) := (by rw [natC_snoc, List.length_append]; exact hown6); obtain ⟨JS, hJS⟩ : ∃ JS, JS = js ++ [j] := ⟨_, rfl⟩; rw [← hJS] at hown6; obtain ⟨A6, c6, rfl, hil6, -⟩ := intsL_of_own hown6; have hJSl : JS.length = js.length + 1 := (by rw [hJS]; simp); have HJS := Lib.hid hJS; have HJSL := Lib.hid hJSl; have HJSG := Lib.hid hg6; have HJSO := Lib.hid hown6; have HJSI := Lib.hid hil6; have hz6JS := hg6.le; clear hown6 hgrow hnil hJS hJSl hg6 hil6)
      clear HO5 HB5 hz5
      clear c1 c2 c3 hblo co1
      have HS6 := Lib.hid (HS.out.keep HJSG.out)
      have hjs6 : JS.length ≤ 6 := by have := HJSL.out; omega
      have HJ6 : Hid (∀ j ∈ JS, j < 6) := Lib.hid (by
        rw [HJS.out]
        intro k hk'
        simp only [List.mem_append, List.mem_singleton] at hk'
        rcases hk' with hk' | rfl
        · exact HQ.out.2 k hk'
        · exact hj6)
      go_loopw [28] (fun iv wr => ∃ i : Nat, i ≤ nr ∧ iv = .int .i64 (i : Int) ∧ (∀ z, z < i → detW f JS (is ++ [z]) (fun _ => false) = 0) ∧ Gr w6 wr) (fun iv _ => nr - (intOf iv).toNat)
      case atStart => exact ⟨0, Nat.zero_le _, rfl, fun z hz => by omega, Gr.refl _⟩
      case round =>
        obtain ⟨i, hi, rfl, hno, hgr⟩ := hrel
        have HNO := Lib.hid hno
        have HG6 := Lib.hid (HJSG.out.trans hgr)
        have HS7 := Lib.hid (HS6.out.keep hgr)
        have HGI := Lib.hid hgr
        have hsz7 := HS7.out.sz
        clear hno hgr
        obtain ⟨wp, rfl⟩ : ∃ wp : World, wp = wr := ⟨_, rfl⟩
        by_cases hil : i < nr
        · have hil' : decide ((i : Int) < (nr : Int)) = true := decide_eq_true (by omega)
          obtain ⟨Ai, ci, Aj, cj, m, c1, c2, c3, o1, o2⟩ := HS7.out.x
          obtain ⟨A2, c2', e2, hil2, -⟩ := intsL_of_own o1
          cases e2
          have HCL2 := Lib.hid (clone_any Ai is ci wp hil2 (by omega))
          clear o1 o2 hil2
          go_wp2_with fail
          go_at_call 104
          refine HCL2.out.mono ?_
          rintro e w5 ⟨A5, c5, rfl, hown5, hb5⟩
          have HO5 := Lib.hid hown5; have HB5 := Lib.hid hb5
          have hz5 := hb5.le
          clear hown5 hb5
          go_wp2_with (at_builtin; refine wpList_append_own _ rfl _ _ 25 rfl wp.heap.size 3 i0 (.int .i64 0) 1 8 Tryz.underlying25 HINF.out.1 HINF.out.2.1 HINF.out.2.2.1 HINF.out.2.2.2 rfl (by decide) _ _ _ rfl (own_keep HO5.out ((Gr.refl _).alloc _)) ⟨w5.heap.size, 0, none⟩ 1 1 [.int .i64 (i : Int)] rfl rfl (cell_one_new _ _ _) (by intro u hu; simp at hu; subst hu; rfl) (by unfold maxLen; omega) (by omega) (by simp; omega) ?_; intro lv' w8 hown6 hgrow hnil; have hg6 := own_app_gr (own_keep HO5.out ((Gr.refl _).alloc (.cells #[.int .i64 (i : Int)] 3))) (HB5.out.alloc _) hgrow; replace hown6 : w8.ownsRow wp.heap.size 3 1 lv' (is ++ [i]).length (natC (is ++ [i])) := (by rw [natC_snoc, List.length_append]; exact hown6); obtain ⟨IS, hIS⟩ : ∃ IS, IS = is ++ [i] := ⟨_, rfl⟩; rw [← hIS] at hown6; obtain ⟨A8, c8, rfl, hil6, -⟩ := intsL_of_own hown6; have hISl : IS.length = is.length + 1 := (by rw [hIS]; simp); have HIS := Lib.hid hIS; have HISL := Lib.hid hISl; have HISG := Lib.hid hg6; have HISO := Lib.hid hown6; have HISI := Lib.hid hil6; have hz6IS := hg6.le; clear hown6 hgrow hnil hIS hISl hg6 hil6)
          clear HO5 HB5 hz5
          clear c1 c2 c3
          have HI8 : Hid (∀ k ∈ IS, k < nr) := Lib.hid (by
            rw [HIS.out]
            intro k hk'
            simp only [List.mem_append, List.mem_singleton] at hk'
            rcases hk' with hk' | rfl
            · exact HQ.out.1 k hk'
            · exact hil)
          have his6 : IS.length ≤ 6 := by have := HISL.out; omega
          have HMI := Lib.hid (minor_any A8 A6 Ar IS JS c8 c6 nr cr f w8 HISI.out (HJSI.out.keep (HGI.out.trans HISG.out)) (HR.out.keep (HGW.out.trans (HS7.out.gr.trans HISG.out))) HI8.out HJ6.out HFB.out his6 hjs6) 
          have HDE : Hid (detW f JS IS (fun _ => false) = detW f JS (is ++ [i]) (fun _ => false)) := Lib.hid (by rw [HIS.out])
          rcases Int.decEq (detW f JS IS (fun _ => false)) 0 with hd | hd
          · have HD := Lib.hid hd
            have hdb : (detW f JS IS (fun _ => false) == 0) = false := by simpa using hd
            have hdb2 : (detW f JS IS (fun _ => false) != 0) = true := by simpa using hd
            generalize detW f JS IS (fun _ => false) = d at *
            clear hd
            go_wp2_with fail
            go_at_call 105
            refine HMI.out.mono ?_
            rintro e w9 ⟨rfl, hb9⟩
            have hS9 := HS7.out.keep (HISG.out.trans hb9)
            obtain ⟨Ai, ci, Aj, cj, m, c1, c2, c3, -, -⟩ := hS9.x
            have fr := hS9.fr
            have hsz9 := hS9.sz
            have HP := Lib.hid (hS9.push (m := d) (own_mono (own_keep HISO.out hb9) (by omega)) (own_mono (own_keep HJSO.out (HGI.out.trans (HISG.out.trans hb9))) (by omega)))
            clear hS9 hb9 HS7
            go_wp2_with fail
            go_roundw
            case rel =>
              refine ⟨k + 1, by omega, by go_num, ?_⟩
              have e1 : firstRow f is (js ++ [j]) nr = some i := firstRow_some hil (by rw [← HJS.out, ← HDE.out]; exact HD.out) (fun z hz => by rw [← HJS.out]; exact HNO.out z hz)
              rw [HTK.out]
              unfold stepF
              simp only [e1]
              rw [← HJS.out, ← HIS.out]
              exact HP.out
            case measure => simp [intOf]; omega
          · have HD := Lib.hid hd
            rw [hd] at HMI
            clear hd
            go_wp2_with fail
            go_at_call 105
            refine HMI.out.mono ?_
            rintro e w9 ⟨rfl, hb9⟩
            have HG9 := Lib.hid (HGI.out.trans (HISG.out.trans hb9))
            clear hb9
            go_wp2_with fail
            go_roundw
            case rel =>
              refine ⟨i + 1, by omega, by go_num, fun z hz => ?_, HG9.out⟩
              by_cases e : z = i
              · rw [e, ← HDE.out]; exact HD.out
              · exact HNO.out z (by omega)
            case measure => simp [intOf]; omega
        · obtain rfl : i = nr := by omega
          have hil' : decide ((i : Int) < (i : Int)) = false := decide_eq_false (by omega)
          go_wp2_with fail
          go_roundw
          case rel =>
            refine ⟨k + 1, by omega, by go_num, ?_⟩
            have e1 : firstRow f is (js ++ [j]) i = none := firstRow_none (fun z hz => by rw [← HJS.out]; exact HNO.out z hz)
            rw [HTK.out]
            unfold stepF
            simp only [e1]
            exact HS7.out
          case measure => simp [intOf]; omega
    · obtain rfl : k = O.length := by omega
      have hlt' : decide ((O.length : Int) < (O.length : Int)) = false := decide_eq_false (by omega)
      rw [List.take_length] at HS
      obtain ⟨Ai, ci, Aj, cj, m, c1, c2, c3, -, -⟩ := HS.out.x
      have c0 := HS.out.c0
      obtain ⟨u0, r0'⟩ := HRES.out 0 (by omega)
      obtain ⟨u1, r1'⟩ := HRES.out 1 (by omega)
      obtain ⟨u2, r2'⟩ := HRES.out 2 (by omega)
      obtain ⟨u3, r3'⟩ := HRES.out 3 (by omega)
      have kk : ∀ o, wo.cell? ⟨w.heap.size, o, none⟩ = W1.cell? ⟨w.heap.size, o, none⟩ := fun o => Below.cell (p := ⟨w.heap.size, o, none⟩) HS.out.gr (by show w.heap.size < W1.heap.size; omega)
      have d0 := (kk 0).trans r0'
      have d1 := (kk 1).trans r1'
      have d2 := (kk 2).trans r2'
      have d3 := (kk 3).trans r3'
      have df : ∀ o, wo.frozen? ⟨w.heap.size, o, none⟩ = false := fun o => (Below.frozen (p := ⟨w.heap.size, o, none⟩) HS.out.gr (by show w.heap.size < W1.heap.size; omega)).trans (HRF.out o)
      clear kk r0' r1' r2' r3'
      have v4 : ∀ W, W = ((((wo.setCell ⟨w.heap.size, 0, none⟩ (.slice Ar nr cr)).setCell ⟨w.heap.size, 1, none⟩ (.slice Ai (frameP f nr O).1.length ci)).setCell ⟨w.heap.size, 2, none⟩ (.slice Aj (frameP f nr O).2.length cj)).setCell ⟨w.heap.size, 3, none⟩ (.int .i64 m)) → W.cell? ⟨w.heap.size, 0, none⟩ = some (.slice Ar nr cr) ∧ W.cell? ⟨w.heap.size, 1, none⟩ = some (.slice Ai (frameP f nr O).1.length ci) ∧ W.cell? ⟨w.heap.size, 2, none⟩ = some (.slice Aj (frameP f nr O).2.length cj) ∧ W.cell? ⟨w.heap.size, 3, none⟩ = some (.int .i64 m) ∧ Gr w W := by
        rintro W rfl
        exact ⟨by simp [go_sem, d0], by simp [go_sem, d1], by simp [go_sem, d2], by simp [go_sem, d3], ((((HGR.out).setCell (Nat.le_refl _) _).setCell (Nat.le_refl _) _).setCell (Nat.le_refl _) _).setCell (Nat.le_refl _) _⟩
      have V4 := Lib.hid v4
      clear v4
      go_wp2_with fail
      generalize hW4 : ((((wo.setCell ⟨w.heap.size, 0, none⟩ (.slice Ar nr cr)).setCell ⟨w.heap.size, 1, none⟩ (.slice Ai (frameP f nr O).1.length ci)).setCell ⟨w.heap.size, 2, none⟩ (.slice Aj (frameP f nr O).2.length cj)).setCell ⟨w.heap.size, 3, none⟩ (.int .i64 m)) = W4
      obtain ⟨e0, e1, e2, e3, hg4⟩ := V4.out W4 hW4.symm
      clear hW4
      exact bodyPost_ret (v := .agg #[.slice Ar nr cr, .slice Ai (frameP f nr O).1.length ci, .slice Aj (frameP f nr O).2.length cj, .int .i64 m]) (by simp [results, Tryz.results87, go_sem, e0, e1, e2, e3]) rfl ⟨Ai, ci, Aj, cj, m, rfl, hg4⟩
end Go.Proofs.YtelhmdhhabgihaaGreatDoor

namespace Go.Proofs.YtelhmdhhabgihaaGreatDoor
open Go.RowKit

theorem run_index6V (a0 a1 a2 a3 a4 a5 : Int) (k : Nat) (hk : k < 6) (w : World) :
    (Instr.index 53 (.agg #[.int .i64 a0, .int .i64 a1, .int .i64 a2, .int .i64 a3, .int .i64 a4, .int .i64 a5]) (.int .i64 (k : Int))).run Tryz.prog w = .ok (.int .i64 (V6.get ⟨a0, a1, a2, a3, a4, a5⟩ k)) w := by
  obtain rfl | rfl | rfl | rfl | rfl | rfl : k = 0 ∨ k = 1 ∨ k = 2 ∨ k = 3 ∨ k = 4 ∨ k = 5 := by omega
  all_goals clear hk; kernel_rfl
theorem get_row (f : Nat → Nat → Int) (i k : Nat) (hk : k < 6) : V6.get ⟨f i 0, f i 1, f i 2, f i 3, f i 4, f i 5⟩ k = f i k := by
  obtain rfl | rfl | rfl | rfl | rfl | rfl : k = 0 ∨ k = 1 ∨ k = 2 ∨ k = 3 ∨ k = 4 ∨ k = 5 := by omega
  all_goals rfl
/-- The sum of the absolute values of the first k entries. -/
def absum (x : Nat → Int) : Nat → Int
  | 0 => 0
  | k + 1 => absum x k + ((x k).natAbs : Int)
theorem absum_bd {x : Nat → Int} {n : Nat} (h : ∀ k, k < n → -48 ≤ x k ∧ x k ≤ 48) : ∀ k, k ≤ n → 0 ≤ absum x k ∧ absum x k ≤ 48 * (k : Int) := by
  intro k
  induction k with
  | zero => intro _; simp [absum]
  | succ k ih =>
    intro hk
    have i := ih (by omega)
    have b := h k (by omega)
    rw [absum]
    omega
/-- The product of the sums of the first i rows. -/
def volP (f : Nat → Nat → Int) : Nat → Int
  | 0 => 1
  | i + 1 => volP f i * max (absum (f i) 6) 1
/-- None of the first i products is too great. -/
def mvB (f : Nat → Nat → Int) : Nat → Bool
  | 0 => true
  | i + 1 => mvB f i && decide (volP f (i + 1) ≤ 1000000000)
theorem volP_pos (f : Nat → Nat → Int) (i : Nat) : 1 ≤ volP f i := by
  induction i with
  | zero => exact Int.le_refl _
  | succ i ih =>
    rw [volP]
    have h : (1 : Int) ≤ max (absum (f i) 6) 1 := by omega
    have := Int.mul_le_mul ih h (by omega) (by omega)
    simpa using this
theorem mvB_no {f : Nat → Nat → Int} {n i : Nat} (hi : i < n) (h : ¬ volP f (i + 1) ≤ 1000000000) : mvB f n = false := by
  induction n with
  | zero => omega
  | succ n ih =>
    by_cases e : i = n
    · subst e; rw [mvB, decide_eq_false h, Bool.and_false]
    · rw [mvB, ih (by omega), Bool.false_and]
theorem mvB_vol {f : Nat → Nat → Int} {n : Nat} (h : mvB f n = true) : volP f n ≤ 1000000000 := by
  cases n with
  | zero => show (1 : Int) ≤ 1000000000; omega
  | succ n => simp only [mvB, Bool.and_eq_true, decide_eq_true_eq] at h; exact h.2
theorem abs_any (x : Int) (w : World) (h : -1000000000 ≤ x ∧ x ≤ 1000000000) : Calls Tryz.prog 103 #[.int .i64 x] w fun e w' => e = .returned (.int .i64 (x.natAbs : Int)) ∧ Gr w w' := by
  have hw : IntKind.i64.wrap (-x) = -x := IntWalk.i64_in _ ⟨by omega, by omega⟩
  by_cases hx : x < 0
  · have d : decide (x < 0) = true := decide_eq_true hx
    have e : (x.natAbs : Int) = -x := by omega
    rw [e]
    go_enter Tryz.func103, Tryz.ntmps103
    go_wp2_with fail
    go_ret
    exact ⟨rfl, Gr.refl _⟩
  · have d : decide (x < 0) = false := decide_eq_false hx
    have e : (x.natAbs : Int) = x := by omega
    rw [e]
    go_enter Tryz.func103, Tryz.ntmps103
    go_wp2_with fail
    go_ret
    exact ⟨rfl, Gr.refl _⟩
set_option maxRecDepth 100000 in
set_option maxHeartbeats 16000000 in
theorem matValid_any (A : Option Addr) (n c : Nat) (f : Nat → Nat → Int) (w : World) (hR : RowsAt w 6 A n f) (hf : ∀ i, i < n → ∀ j, j < 6 → -48 ≤ f i j ∧ f i j ≤ 48) (hn : n ≤ 8) :
    Calls Tryz.prog 86 #[.slice A n c] w fun e w' => e = .returned (.bool (mvB f n)) ∧ Gr w w' := by
  have HR := Lib.hid hR; have HFB := Lib.hid hf
  clear hR hf
  go_enter Tryz.func86, Tryz.ntmps86
  go_wp2_with fail
  go_loopw [3, 11] (fun vv iv wr => ∃ i : Nat, i ≤ n ∧ vv = .int .i64 (volP f i) ∧ iv = .int .i64 (i : Int) ∧ mvB f i = true ∧ Gr w wr) (fun _ iv _ => n - (intOf iv).toNat)
  case atStart => exact ⟨0, Nat.zero_le _, rfl, rfl, rfl, Gr.refl _⟩
  case round =>
    obtain ⟨i, hi, rfl, rfl, hm, hg⟩ := hrel
    have HM := Lib.hid hm; have HG := Lib.hid hg
    have hv1 := mvB_vol hm
    have hv0 := volP_pos f i
    clear hm hg
    obtain ⟨wo, rfl⟩ : ∃ wo : World, wo = wr := ⟨_, rfl⟩
    by_cases hlt : i < n
    · have hlt' : decide ((i : Int) < (n : Int)) = true := decide_eq_true (by omega)
      obtain ⟨b, off, rfl, hbl, c0, c1, c2, c3, c4, c5⟩ := (HR.out.keep HG.out).six hlt
      have HB := Lib.hid (HFB.out i hlt)
      have HIX := run_index6V (f i 0) (f i 1) (f i 2) (f i 3) (f i 4) (f i 5)
      have HGT := Lib.hid (get_row f i)
      go_wp2_with fail
      have hg1 : Gr wo (wo.alloc (.cells #[.int .i64 (f i 0), .int .i64 (f i 1), .int .i64 (f i 2), .int .i64 (f i 3), .int .i64 (f i 4), .int .i64 (f i 5)] 53)) := (Gr.refl _).alloc _
      have HG1 := Lib.hid (HG.out.trans hg1)
      clear c0 c1 c2 c3 c4 c5 hbl hg1
      generalize wo.alloc (.cells #[.int .i64 (f i 0), .int .i64 (f i 1), .int .i64 (f i 2), .int .i64 (f i 3), .int .i64 (f i 4), .int .i64 (f i 5)] 53) = wq at *
      go_loopw [6, 16] (fun sv kv wr => ∃ k : Nat, k ≤ 6 ∧ sv = .int .i64 (absum (f i) k) ∧ kv = .int .i64 (k : Int) ∧ Gr wq wr) (fun _ kv _ => 6 - (intOf kv).toNat)
      case atStart => exact ⟨0, by omega, rfl, rfl, Gr.refl _⟩
      case round =>
        obtain ⟨k, hk, rfl, rfl, hg⟩ := hrel
        have HG2 := Lib.hid hg
        clear hg
        obtain ⟨wp, rfl⟩ : ∃ wp : World, wp = wr := ⟨_, rfl⟩
        have hab := absum_bd (x := f i) (n := 6) HB.out k hk
        by_cases hkl : k < 6
        · have hkl' : decide ((k : Int) < 6) = true := decide_eq_true (by omega)
          have HIK := HIX k hkl
          rw [HGT.out k hkl] at HIK
          have hx := HB.out k hkl
          have HS1 : Hid (absum (f i) (k + 1) = absum (f i) k + ((f i k).natAbs : Int)) := Lib.hid rfl
          have HAB := Lib.hid (fun W => abs_any (f i k) W ⟨by omega, by omega⟩)
          have hw1 : IntKind.i64.wrap (absum (f i) k + ((f i k).natAbs : Int)) = absum (f i) k + ((f i k).natAbs : Int) := IntWalk.i64_in _ ⟨by omega, by omega⟩
          have d1 : decide (1000000000 < f i k) = false := decide_eq_false (by omega)
          have d2 : decide (f i k < -1000000000) = false := decide_eq_false (by omega)
          clear HIX
          generalize absum (f i) k = S at *
          generalize f i k = x at *
          go_wp2_with fail
          (go_at_call 103; with_reducible refine (HAB.out _).mono ?_; rintro e w' ⟨rfl, hb⟩; have hz := hb.le; obtain ⟨hc, hf⟩ := hb.cells; have hn := hb.cellsN; (try simp only [World.size_alloc] at hc hf hz hn); (try simp only [World.size_setCell] at hc hf hz hn); (try simp only [World.size_drew] at hc hf hz hn))
          go_wp2_with fail
          go_roundw
          case rel => exact ⟨k + 1, by omega, by rw [HS1.out], by go_num, HG2.out.trans (by repeat (first | with_reducible exact Gr.refl _ | with_reducible refine Gr.alloc ?_ _ | with_reducible refine Gr.drew ?_ | with_reducible refine Gr.trans ?_ (by assumption) | with_reducible refine Gr.setCell ?_ (by (try simp); (try omega)) _))⟩
          case measure => simp [intOf]; omega
        · obtain rfl : k = 6 := by omega
          by_cases h0 : absum (f i) 6 < 1
          · have hd0 : decide (absum (f i) 6 < 1) = true := decide_eq_true h0
            have HVS : Hid (volP f (i + 1) = volP f i) := Lib.hid (by rw [volP, show max (absum (f i) 6) 1 = 1 by omega]; exact Int.mul_one _)
            have hpr : 0 ≤ volP f i ∧ volP f i ≤ 288000000000 := ⟨by omega, by omega⟩
            have hw1 : IntKind.i64.wrap (volP f i) = volP f i := IntWalk.i64_in _ ⟨by omega, by omega⟩
            have hw2 : wrap64 (volP f i) = volP f i := (IntWalk.i64_left _).symm.trans hw1
            clear hpr HIX
            by_cases hv : volP f (i + 1) ≤ 1000000000
            · have HN : Hid (mvB f (i + 1) = true) := Lib.hid (by rw [mvB, HM.out, decide_eq_true hv]; rfl)
              rw [HVS.out] at hv
              have d3 : decide (1000000000 < volP f i) = false := decide_eq_false (by omega)
              have d4 : ¬ (1000000000 < volP f i) := by omega
              go_wp2_with fail
              go_roundw
              case rel => exact ⟨i + 1, by omega, by rw [HVS.out], by go_num, HN.out, HG1.out.trans HG2.out⟩
              case measure => simp [intOf]; omega
            · have HN : Hid (mvB f n = false) := Lib.hid (mvB_no hlt hv)
              rw [HVS.out] at hv
              have d3 : decide (1000000000 < volP f i) = true := decide_eq_true (by omega)
              have d4 : 1000000000 < volP f i := by omega
              go_wp2_with fail
              go_ret
              exact ⟨ret_bool HN.out.symm, HG1.out.trans HG2.out⟩
          · have hd0 : decide (absum (f i) 6 < 1) = false := decide_eq_false h0
            have HVS : Hid (volP f (i + 1) = volP f i * absum (f i) 6) := Lib.hid (by rw [volP, show max (absum (f i) 6) 1 = absum (f i) 6 by omega])
            have hpr : 0 ≤ volP f i * absum (f i) 6 ∧ volP f i * absum (f i) 6 ≤ 288000000000 := ⟨Int.mul_nonneg (by omega) (by omega), by have := Int.mul_le_mul hv1 (show absum (f i) 6 ≤ 288 by omega) (by omega) (by omega); omega⟩
            have hw1 : IntKind.i64.wrap (volP f i * absum (f i) 6) = volP f i * absum (f i) 6 := IntWalk.i64_in _ ⟨by omega, by omega⟩
            have hw2 : wrap64 (volP f i * absum (f i) 6) = volP f i * absum (f i) 6 := (IntWalk.i64_left _).symm.trans hw1
            clear hpr HIX
            by_cases hv : volP f (i + 1) ≤ 1000000000
            · have HN : Hid (mvB f (i + 1) = true) := Lib.hid (by rw [mvB, HM.out, decide_eq_true hv]; rfl)
              rw [HVS.out] at hv
              have d3 : decide (1000000000 < volP f i * absum (f i) 6) = false := decide_eq_false (by omega)
              have d4 : ¬ (1000000000 < volP f i * absum (f i) 6) := by omega
              go_wp2_with fail
              go_roundw
              case rel => exact ⟨i + 1, by omega, by rw [HVS.out], by go_num, HN.out, HG1.out.trans HG2.out⟩
              case measure => simp [intOf]; omega
            · have HN : Hid (mvB f n = false) := Lib.hid (mvB_no hlt hv)
              rw [HVS.out] at hv
              have d3 : decide (1000000000 < volP f i * absum (f i) 6) = true := decide_eq_true (by omega)
              have d4 : 1000000000 < volP f i * absum (f i) 6 := by omega
              go_wp2_with fail
              go_ret
              exact ⟨ret_bool HN.out.symm, HG1.out.trans HG2.out⟩
    · obtain rfl : n = i := by omega
      have hlt' : decide ((n : Int) < (n : Int)) = false := decide_eq_false (by omega)
      have h8 : decide ((n : Int) ≤ 8) = true := decide_eq_true (by omega)
      have h8' : decide (n ≤ 8) = true := decide_eq_true (by omega)
      go_wp2_with fail
      go_ret
      exact ⟨ret_bool HM.out.symm, HG.out⟩
theorem field_js (a b c d : Value) (W : World) : (Instr.field 125 (.agg #[a, b, c, d]) 1).run Tryz.prog W = .ok b W := by
  simp [Instr.field, asAgg, go_sem]
theorem forward_any (w : World) : Calls Tryz.prog 88 #[] w fun e w' => ∃ b : Nat, e = .returned (.slice (some ⟨b, 0, none⟩) 6 6) ∧ IntsL w' (some ⟨b, 0, none⟩) [0, 1, 2, 3, 4, 5] ∧ Gr w w' := by
  go_enter Tryz.func88, Tryz.ntmps88
  go_wp2
  go_ret
  refine ⟨w.heap.size, rfl, fun _ => ⟨w.heap.size, 0, rfl, by simp, fun k i hk => ?_⟩, (Gr.refl _).alloc _⟩
  have hlt := (List.getElem?_eq_some_iff.1 hk).1
  simp only [List.length_cons, List.length_nil] at hlt
  obtain rfl | rfl | rfl | rfl | rfl | rfl : k = 0 ∨ k = 1 ∨ k = 2 ∨ k = 3 ∨ k = 4 ∨ k = 5 := by omega
  all_goals
    simp at hk
    subst hk
    simp [go_sem]
set_option maxRecDepth 100000 in
set_option maxHeartbeats 16000000 in
theorem rank_any (A : Option Addr) (n c : Nat) (f : Nat → Nat → Int) (w : World) (hR : RowsAt w 6 A n f) (hf : ∀ i, i < n → ∀ j, j < 6 → -48 ≤ f i j ∧ f i j ≤ 48) (hn : n ≤ 8) :
    Calls Tryz.prog 69 #[.slice A n c] w fun e w' => e = .returned (.tuple #[.int .i64 (if mvB f n then (rankP f n : Int) else 0), .int .i64 (if mvB f n then 0 else 1)]) ∧ Gr w w' := by
  have hV := fun W (g : Gr w W) => matValid_any A n c f W (hR.keep g) hf hn
  rcases btf (mvB f n) with hm | hm
  · rw [hm] at hV
    have hF := fun (Ao : Option Addr) (co : Nat) W (g : Gr w W) (hO : IntsL W Ao [0, 1, 2, 3, 4, 5]) => framed_any A Ao n c co f [0, 1, 2, 3, 4, 5] W (hR.keep g) hO (by decide) hf (by omega) (by decide)
    have HV := Lib.hid hV; have HF := Lib.hid hF
    clear hV hF hR hf
    rw [hm, if_pos rfl, if_pos rfl]
    unfold rankP
    generalize frameP f n [0, 1, 2, 3, 4, 5] = FP at *
    go_enter Tryz.func69, Tryz.ntmps69
    go_wp2_with fail
    (go_at_call 86; with_reducible refine (HV.out _ (by repeat (first | with_reducible exact Gr.refl _ | with_reducible refine Gr.alloc ?_ _ | with_reducible refine Gr.drew ?_ | with_reducible refine Gr.trans ?_ (by assumption) | with_reducible refine Gr.setCell ?_ (by (try simp); (try omega)) _))).mono ?_; rintro e w' ⟨rfl, hb⟩; have hz := hb.le; obtain ⟨hc, hf⟩ := hb.cells; have hn := hb.cellsN; (try simp only [World.size_alloc] at hc hf hz hn); (try simp only [World.size_setCell] at hc hf hz hn); (try simp only [World.size_drew] at hc hf hz hn))
    go_wp2_with fail
    go_at_call 88
    refine (forward_any _).mono ?_
    rintro e w1 ⟨b, rfl, hi1, hb1⟩
    have hg1 : Gr w w1 := Gr.trans (by repeat (first | with_reducible exact Gr.refl _ | with_reducible refine Gr.alloc ?_ _ | with_reducible refine Gr.drew ?_ | with_reducible refine Gr.trans ?_ (by assumption) | with_reducible refine Gr.setCell ?_ (by (try simp); (try omega)) _)) hb1
    have HC := Lib.hid (HF.out (some ⟨b, 0, none⟩) 6 w1 hg1 hi1)
    have HG1 := Lib.hid hg1
    clear hi1 hb1 hg1 hb hz hc hf hn HF
    go_wp2_with fail
    go_at_call 87
    refine HC.out.mono ?_
    rintro e w2 ⟨Ai, ci, Aj, cj, m, rfl, hb2⟩
    have HG2 := Lib.hid (HG1.out.trans hb2)
    clear hb2
    have hfld := field_js (.slice A n c) (.slice Ai FP.1.length ci) (.slice Aj FP.2.length cj) (.int .i64 m)
    go_wp2_with fail
    go_ret2
    exact ⟨rfl, HG2.out⟩
  · rw [hm] at hV
    have HV := Lib.hid hV
    clear hV hR hf
    rw [hm, if_neg (by simp), if_neg (by simp)]
    go_enter Tryz.func69, Tryz.ntmps69
    go_wp2_with fail
    (go_at_call 86; with_reducible refine (HV.out _ (by repeat (first | with_reducible exact Gr.refl _ | with_reducible refine Gr.alloc ?_ _ | with_reducible refine Gr.drew ?_ | with_reducible refine Gr.trans ?_ (by assumption) | with_reducible refine Gr.setCell ?_ (by (try simp); (try omega)) _))).mono ?_; rintro e w' ⟨rfl, hb⟩; have hz := hb.le; obtain ⟨hc, hf⟩ := hb.cells; have hn := hb.cellsN; (try simp only [World.size_alloc] at hc hf hz hn); (try simp only [World.size_setCell] at hc hf hz hn); (try simp only [World.size_drew] at hc hf hz hn))
    go_wp2_with fail
    go_ret2
    exact ⟨rfl, (by repeat (first | with_reducible exact Gr.refl _ | with_reducible refine Gr.alloc ?_ _ | with_reducible refine Gr.drew ?_ | with_reducible refine Gr.trans ?_ (by assumption) | with_reducible refine Gr.setCell ?_ (by (try simp); (try omega)) _))⟩
end Go.Proofs.YtelhmdhhabgihaaGreatDoor
