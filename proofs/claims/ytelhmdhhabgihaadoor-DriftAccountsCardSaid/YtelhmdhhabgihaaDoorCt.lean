/-
  comma.Counts at a valid list and an interval that is a sum of few of its commas: the counts.
-/
import Derived.Test.YtelhmdhhabgihaaDoorCtS
import Derived.Test.YtelhmdhhabgihaaDoorDLO
namespace Go.Proofs.YtelhmdhhabgihaaDoor
open Go.RowKit

set_option maxRecDepth 100000 in
set_option maxHeartbeats 16000000 in
theorem ccounts_ok (A : Option Addr) (n ca : Nat) (nm : Nat → ByteArray) (f : Nat → Nat → Int) (a : Nat → Int) (v : Nat → Int) (w : World) (hA : NamedAt w A n nm f) (hok : commaB nm f n = true) (ha : ∀ j, j < n → -15 ≤ a j ∧ a j ≤ 15) (hv : ∀ c, c < 6 → v c = rowSum f a n c) (hin : allIn ⟨v 0, v 1, v 2, v 3, v 4, v 5⟩ 48 6 = true) :
    Calls Tryd.prog 26 #[.slice A n ca, .agg #[.int .i64 (v 0), .int .i64 (v 1), .int .i64 (v 2), .int .i64 (v 3), .int .i64 (v 4), .int .i64 (v 5)]] w fun e w' => AccR n 0 a w e w' := by
  have HVA := Lib.hid (fun W (g : Gr w W) => commaValid_any A n ca nm f W (hA.keep g))
  have HPI := Lib.hid (fun W => pinterval_any (v 0) (v 1) (v 2) (v 3) (v 4) (v 5) W)
  have hV1 : ∀ W (_ : Gr w W), Calls Tryd.prog 28 #[.slice A n ca] W fun e w' => e = .returned (.bool true) ∧ Gr W w' := fun W g => by have z := HVA.out W g; rw [hok] at z; exact z
  have HV1 := Lib.hid hV1
  have HAC := Lib.hid (fun W (g : Gr w W) (B : Option Addr) (hB : IntAt W B n a) (cb : Nat) => caccount_ok A B n ca cb nm f a W (hA.keep g) hB hok (fun j hj => by have := ha j hj; omega))
  obtain ⟨hn1, hn6, -, hrow, -, hrk⟩ := commaB_parts hok
  have hbd := rowsOk_bd hrow
  have hv48 : ∀ j, j < 6 → -48 ≤ v j ∧ v j ≤ 48 := fun j hj => by
    have z := allIn_get hin j hj
    obtain rfl | rfl | rfl | rfl | rfl | rfl : j = 0 ∨ j = 1 ∨ j = 2 ∨ j = 3 ∨ j = 4 ∨ j = 5 := by omega
    all_goals exact z
  obtain ⟨M, hM, hMn, hMD, hMf⟩ := first_mask hrk
  have HDT := Lib.hid (fun (g : Nat → Nat → Int) (hg : ∀ i, i < n → ∀ j, j < 6 → -48 ≤ g i j ∧ g i j ≤ 48) (m : Nat) (hm : m < 64) W RB (hR : RowW W RB n g) => ddet_any (some ⟨RB, 0, none⟩) n n g m W hR.rows hg hn6 hm)
  have HCR := Lib.hid (fun i (hi : i < n) => detM_cramer f a (M := M) hi hv)
  have HBI := Lib.hid (fun m (h : m < 64) W => bits_any m W h)
  obtain ⟨D, hD⟩ : ∃ D, D = detM f 0 n M := ⟨_, rfl⟩
  rw [← hD] at hMD
  have HMF := Lib.hid hMf
  have HMN := Lib.hid hMn
  have HD := Lib.hid hD
  have HV := Lib.hid hv; have HA := Lib.hid hA; have HAA := Lib.hid ha; have HBD := Lib.hid hbd; have HV48 := Lib.hid hv48; have HIN := Lib.hid hin
  have HSB : Hid (∀ m, m ≤ n → ∀ c, c < 6 → -1000 * (m : Int) ≤ rowSum f a m c ∧ rowSum f a m c ≤ 1000 * (m : Int)) := Lib.hid (by
    intro m
    induction m with
    | zero => intro _ c _; simp [rowSum, sumN]
    | succ m ih =>
      intro hm c hc
      have i := ih (by omega) c hc
      have a1 := ha m (by omega)
      have b := hbd m (by omega) c hc
      have e : rowSum f a (m + 1) c = rowSum f a m c + a m * f m c := rfl
      have p1 : (a m * f m c).natAbs ≤ 15 * 48 := by
        rw [Int.natAbs_mul]
        exact Nat.mul_le_mul (by omega) (by omega)
      rw [e]
      omega)
  obtain ⟨i0, hin0, hz0, hz1, hz2⟩ := info_parts (show (Tryd.prog.info? 35).map (fun i => (i.zero, i.size, i.bytes)) = some (some (.agg #[.int .i64 0, .int .i64 0, .int .i64 0, .int .i64 0, .int .i64 0, .int .i64 0]), 6, 48) by kernel_rfl)
  have HINF := Lib.hid (And.intro hin0 (And.intro hz0 (And.intro hz1 hz2)))
  obtain ⟨i1, hin1, hy0, hy1, hy2⟩ := info_parts infoInt
  have HINI := Lib.hid (And.intro hin1 (And.intro hy0 (And.intro hy1 hy2)))
  clear hin0 hz0 hz1 hz2 hin1 hy0 hy1 hy2 hV1 HVA hok hrow hrk hbd hv48 hMn hMf hD hA ha hv hin
  have HBOX := Lib.hid (show ∀ W T, W = w.alloc (.cells #[.int .i64 (v 0), .int .i64 (v 1), .int .i64 (v 2), .int .i64 (v 3), .int .i64 (v 4), .int .i64 (v 5)] T) → (∀ j, j < 6 → W.cell? ⟨w.heap.size, j, none⟩ = some (.int .i64 (v j))) ∧ w.heap.size < W.heap.size ∧ Gr w W by
    rintro W T rfl
    refine ⟨fun j hj => ?_, by simp, (Gr.refl _).alloc _⟩
    obtain rfl | rfl | rfl | rfl | rfl | rfl : j = 0 ∨ j = 1 ∨ j = 2 ∨ j = 3 ∨ j = 4 ∨ j = 5 := by omega
    all_goals simp [go_sem])
  go_enter Tryd.func26, Tryd.ntmps26
  go_wp2_with fail
  generalize hW0 : w.alloc (.cells #[.int .i64 (v 0), .int .i64 (v 1), .int .i64 (v 2), .int .i64 (v 3), .int .i64 (v 4), .int .i64 (v 5)] 35) = W0
  obtain ⟨hc0, hl0, hg0⟩ := HBOX.out W0 _ hW0.symm
  have HC0 := Lib.hid hc0; have HG0 := Lib.hid hg0
  clear hW0 HBOX hc0 hg0
  go_at_call 28
  refine (HV1.out _ HG0.out).mono ?_
  rintro e w1 ⟨rfl, hg1⟩
  have HG1 := Lib.hid (HG0.out.trans hg1)
  have hl1 := Nat.lt_of_lt_of_le hl0 hg1.le
  have hc1 : ∀ j, j < 6 → w1.cell? ⟨w.heap.size, j, none⟩ = some (.int .i64 (v j)) := fun j hj => (Below.cell (p := ⟨w.heap.size, j, none⟩) hg1 hl0).trans (HC0.out j hj)
  have HC1 := Lib.hid hc1
  have b0 := hc1 0 (by omega); have b1 := hc1 1 (by omega); have b2 := hc1 2 (by omega); have b3 := hc1 3 (by omega); have b4 := hc1 4 (by omega); have b5 := hc1 5 (by omega)
  clear hg1 HC0 HG0 hl0 hc1
  go_wp2_with fail
  go_at_call 31
  refine (HPI.out _).mono ?_
  rintro e w2 ⟨rfl, hg2⟩
  rw [HIN.out]
  have HG2 := Lib.hid (HG1.out.trans hg2)
  have hl2 := Nat.lt_of_lt_of_le hl1 hg2.le
  have HC2 : Hid (∀ j, j < 6 → w2.cell? ⟨w.heap.size, j, none⟩ = some (.int .i64 (v j))) := Lib.hid (fun j hj => (Below.cell (p := ⟨w.heap.size, j, none⟩) hg2 hl1).trans (HC1.out j hj))
  clear hg2 HC1 HG1 hl1 b0 b1 b2 b3 b4 b5
  go_wp2_with (at_make; refine wpList_make_full _ rfl _ _ 25 rfl w2.heap.size 35 i0 (.agg #[.int .i64 0, .int .i64 0, .int .i64 0, .int .i64 0, .int .i64 0, .int .i64 0]) 6 Tryd.underlying25 HINF.out.1 HINF.out.2.1 HINF.out.2.2.1 _ _ _ _ n rfl rfl (by simp) (by simp) (by rw [HINF.out.2.2.2]; omega) (by unfold maxLen; omega) (Nat.le_refl _) ?_; intro W3 hown hgrow)
  have hg3 : Gr w2 W3 := gr_of_grown hgrow
  have HS3 : Hid (CtR w w.heap.size w2.heap.size n (fun i j => if i < 0 then f i j else 0) v W3) := Lib.hid ⟨HG2.out.trans hg3, Nat.le_refl _, hl2, ⟨(hown.lt _ rfl).2, fun o => hown.frozenAt o, fun i hi j hj => by
    rw [hown.cellAt (i * 6 + j) (by omega), made6 _ _ (by omega)]
    simp⟩, fun j hj => (Below.cell (p := ⟨w.heap.size, j, none⟩) hg3 hl2).trans (HC2.out j hj)⟩
  have hrl3 := HS3.out.rows.lt
  clear hown hgrow hg3
  generalize hRB : w2.heap.size = RB at *
  have hTR : w.heap.size < RB := HS3.out.ne
  clear hRB HC2 HG2
  go_wp2_with fail
  go_loopw [30] (fun iv wr => ∃ i : Nat, i ≤ n ∧ iv = .int .i64 (i : Int) ∧ CtR w w.heap.size RB n (fun k j => if k < i then f k j else 0) v wr) (fun iv _ => n - (intOf iv).toNat)
  case atStart => exact ⟨0, Nat.zero_le _, rfl, HS3.out⟩
  case round =>
    obtain ⟨i, hi, rfl, hS⟩ := hrel
    have HS := Lib.hid hS
    have hrl := hS.rows.lt
    have HGR := Lib.hid hS.gr
    clear hS
    obtain ⟨wo, rfl⟩ : ∃ wo : World, wo = wr := ⟨_, rfl⟩
    by_cases hlt : i < n
    · have hlt' : decide ((i : Int) < (n : Int)) = true := decide_eq_true (by omega)
      obtain ⟨b2, off2, rfl, hb2, hsn, q7, q0, q1, q2, q3, q4, q5⟩ := (HA.out.keep HGR.out).seven hlt
      have hi0 : (0 : Int) ≤ (i : Int) := by omega
      have hi1 : (i : Int) < (n : Int) := by omega
      go_upto_region 7 with fail
      have HZ := Lib.hid (show ∀ W, W = wo.alloc (.cells #[.string (nm i), .int .i64 (f i 0), .int .i64 (f i 1), .int .i64 (f i 2), .int .i64 (f i 3), .int .i64 (f i 4), .int .i64 (f i 5)] 64) → W.cell? ⟨wo.heap.size, 1, none⟩ = some (.int .i64 (f i 0)) ∧ W.cell? ⟨wo.heap.size, 2, none⟩ = some (.int .i64 (f i 1)) ∧ W.cell? ⟨wo.heap.size, 3, none⟩ = some (.int .i64 (f i 2)) ∧ W.cell? ⟨wo.heap.size, 4, none⟩ = some (.int .i64 (f i 3)) ∧ W.cell? ⟨wo.heap.size, 5, none⟩ = some (.int .i64 (f i 4)) ∧ W.cell? ⟨wo.heap.size, 6, none⟩ = some (.int .i64 (f i 5)) ∧ Gr wo W ∧ W.heap.size = wo.heap.size + 1 by
        rintro W rfl
        exact ⟨by simp [go_sem], by simp [go_sem], by simp [go_sem], by simp [go_sem], by simp [go_sem], by simp [go_sem], (Gr.refl _).alloc _, by simp⟩)
      generalize hWq : wo.alloc (.cells #[.string (nm i), .int .i64 (f i 0), .int .i64 (f i 1), .int .i64 (f i 2), .int .i64 (f i 3), .int .i64 (f i 4), .int .i64 (f i 5)] 64) = wq
      obtain ⟨p0, p1, p2, p3, p4, p5, pg, psz⟩ := HZ.out wq hWq.symm
      clear HZ hWq q7 q0 q1 q2 q3 q4 q5 hsn
      have HSq := Lib.hid (HS.out.keep pg)
      have HST := Lib.hid (HSq.out.store hlt (f i))
      have hfz := HSq.out.rows.froz
      obtain ⟨r0, r1, r2, r3, r4, r5⟩ := HSq.out.rows.six hlt
      have hrlq := HSq.out.rows.lt
      clear pg HS
      go_upto_region 8 with fail
      change Code.wp _ _ _ _ (setR wq RB i (f i 0) (f i 1) (f i 2) (f i 3) (f i 4) (f i 5))
      generalize setR wq RB i (f i 0) (f i 1) (f i 2) (f i 3) (f i 4) (f i 5) = wz at HST ⊢
      clear hfz r0 r1 r2 r3 r4 r5 p0 p1 p2 p3 p4 p5
      go_wp2_with fail
      go_roundw
      case rel => exact ⟨i + 1, by omega, by go_num, HST.out.congr (fun k hk j hj => by
        unfold setRow
        show (if k = i then f i j else if k < i then f k j else 0) = if k < i + 1 then f k j else 0
        by_cases e : k = i
        · subst e; rw [if_pos rfl, if_pos (by omega)]
        · rw [if_neg e]
          by_cases e2 : k < i
          · rw [if_pos e2, if_pos (by omega)]
          · rw [if_neg e2, if_neg (by omega)])⟩
      case measure => simp [intOf]; omega
    · obtain rfl : n = i := by omega
      have hlt' : decide ((n : Int) < (n : Int)) = false := decide_eq_false (by omega)
      have HSF : Hid (CtR w w.heap.size RB n f v wo) := Lib.hid (HS.out.congr fun k hk j hj => if_pos hk)
      clear HS
      go_wp2_with fail
      go_loopw [9, 10] (fun mv dv wr => ∃ (m : Nat) (x : Int), mv = .int .i64 (m : Int) ∧ dv = .int .i64 x ∧ ((x = 0 ∧ m ≤ M) ∨ (x = D ∧ m = M + 1)) ∧ CtR w w.heap.size RB n f v wr) (fun mv _ _ => M + 1 - (intOf mv).toNat)
      case atStart => exact ⟨0, 0, rfl, rfl, .inl ⟨rfl, Nat.zero_le _⟩, HSF.out⟩
      case round =>
        obtain ⟨m, x, rfl, rfl, hx, hS⟩ := hrel
        have HS := Lib.hid hS
        have hrl := hS.rows.lt
        clear hS
        obtain ⟨wp, rfl⟩ : ∃ wp : World, wp = wr := ⟨_, rfl⟩
        rcases hx with ⟨rfl, hmM⟩ | ⟨rfl, rfl⟩
        · have hw1 : IntKind.i64.wrap ((m : Int) + 1) = ((m + 1 : Nat) : Int) := (IntWalk.i64_in _ ⟨by omega, by omega⟩).trans (by omega)
          have HB := Lib.hid (HBI.out m (by omega) wp)
          generalize hP : popR 6 m = P at HB
          by_cases hpn : P = n
          · subst hpn
            have HDM : Hid ((detM f 0 P m = 0 ∧ m + 1 ≤ M) ∨ (detM f 0 P m = D ∧ m = M)) := Lib.hid (by
              rcases (by omega : m < M ∨ m = M) with h | h
              · exact .inl ⟨HMF.out m h hP, by omega⟩
              · subst h; exact .inr ⟨HD.out.symm, rfl⟩)
            have hm64 : m < 64 := by omega
            go_wp2_with fail
            go_at_call 43
            refine HB.out.mono ?_
            rintro e w3 ⟨rfl, hg3⟩
            have HS3' := Lib.hid (HS.out.keep hg3)
            clear hg3
            go_wp2_with fail
            go_at_call 44
            refine (HDT.out f HBD.out m hm64 _ _ HS3'.out.rows).mono ?_
            rintro e w4 ⟨rfl, hg4⟩
            have HS4 := Lib.hid (HS3'.out.keep hg4)
            clear hg4
            generalize detM f 0 P m = y at HDM ⊢
            go_wp2_with fail
            go_roundw
            case rel => exact ⟨m + 1, y, by go_num, rfl, HDM.out.elim (fun h => .inl h) (fun h => .inr ⟨h.1, by have := h.2; omega⟩), HS4.out⟩
            case measure => simp [intOf]; omega
          · have hmm : m + 1 ≤ M := by
              rcases (by omega : m < M ∨ m = M) with h | h
              · exact h
              · subst h; exact absurd (hP.symm.trans HMN.out) hpn
            have e1 : decide ((P : Int) = (n : Int)) = false := decide_eq_false (by omega)
            have e1' : decide (P = n) = false := decide_eq_false hpn
            go_wp2_with fail
            go_at_call 43
            refine HB.out.mono ?_
            rintro e w3 ⟨rfl, hg3⟩
            have HS3' := Lib.hid (HS.out.keep hg3)
            clear hg3
            go_wp2_with fail
            go_roundw
            case rel => exact ⟨m + 1, 0, by go_num, rfl, .inl ⟨rfl, hmm⟩, HS3'.out⟩
            case measure => simp [intOf]; omega
        · have e0 : decide (x = 0) = false := decide_eq_false hMD
          have hw1 : IntKind.i64.wrap (((M + 1 : Nat) : Int) - 1) = (M : Int) := (IntWalk.i64_in _ ⟨by omega, by omega⟩).trans (by omega)
          have hw2 : IntKind.i64.wrap ((M : Int) + 1 - 1) = (M : Int) := (IntWalk.i64_in _ ⟨by omega, by omega⟩).trans (by omega)
          obtain ⟨b0, b1, b2', b3, b4, b5⟩ := (show wp.cell? ⟨w.heap.size, 0, none⟩ = some (.int .i64 (v 0)) ∧ wp.cell? ⟨w.heap.size, 1, none⟩ = some (.int .i64 (v 1)) ∧ wp.cell? ⟨w.heap.size, 2, none⟩ = some (.int .i64 (v 2)) ∧ wp.cell? ⟨w.heap.size, 3, none⟩ = some (.int .i64 (v 3)) ∧ wp.cell? ⟨w.heap.size, 4, none⟩ = some (.int .i64 (v 4)) ∧ wp.cell? ⟨w.heap.size, 5, none⟩ = some (.int .i64 (v 5)) from ⟨HS.out.six 0 (by omega), HS.out.six 1 (by omega), HS.out.six 2 (by omega), HS.out.six 3 (by omega), HS.out.six 4 (by omega), HS.out.six 5 (by omega)⟩)
          go_upto_region 16 with (at_make; refine wpList_make_full _ rfl _ _ 38 rfl wp.heap.size 3 i1 (.int .i64 0) 1 Tryd.underlying38 HINI.out.1 HINI.out.2.1 HINI.out.2.2.1 _ _ _ _ n rfl rfl (by simp) (by simp) (by rw [HINI.out.2.2.2]; omega) (by unfold maxLen; omega) (Nat.le_refl _) ?_; intro W5 hown hgrow)
          have hg5 : Gr wp W5 := gr_of_grown hgrow
          have HS5 := Lib.hid (HS.out.keep hg5)
          have HO5 : Hid (∀ i, i < n → W5.cell? ⟨wp.heap.size, i, none⟩ = some (.int .i64 0)) := Lib.hid (fun j hj => by
            rw [hown.cellAt j (by omega), show (Value.int .i64 0).cells = #[.int .i64 0] from rfl, toList_madeCells_one, List.getElem?_replicate, if_pos (by omega)])
          have HF5 : Hid (∀ o, W5.frozen? ⟨wp.heap.size, o, none⟩ = false) := Lib.hid (fun o => hown.frozenAt o)
          have hol := (hown.lt _ rfl).2
          have hrl5 := HS5.out.rows.lt
          clear hown hgrow hg5 b0 b1 b2' b3 b4 b5 HS HS3 HSF hrl3 hw1 hw2
          generalize wp.heap.size = OB at *
          obtain ⟨b0, b1, b2', b3, b4, b5⟩ := (show W5.cell? ⟨w.heap.size, 0, none⟩ = some (.int .i64 (v 0)) ∧ W5.cell? ⟨w.heap.size, 1, none⟩ = some (.int .i64 (v 1)) ∧ W5.cell? ⟨w.heap.size, 2, none⟩ = some (.int .i64 (v 2)) ∧ W5.cell? ⟨w.heap.size, 3, none⟩ = some (.int .i64 (v 3)) ∧ W5.cell? ⟨w.heap.size, 4, none⟩ = some (.int .i64 (v 4)) ∧ W5.cell? ⟨w.heap.size, 5, none⟩ = some (.int .i64 (v 5)) from ⟨HS5.out.six 0 (by omega), HS5.out.six 1 (by omega), HS5.out.six 2 (by omega), HS5.out.six 3 (by omega), HS5.out.six 4 (by omega), HS5.out.six 5 (by omega)⟩)
          go_upto_region 17 with fail
          have HZ := Lib.hid (show ∀ W, W = W5.alloc (.cells #[.int .i64 (v 0), .int .i64 (v 1), .int .i64 (v 2), .int .i64 (v 3), .int .i64 (v 4), .int .i64 (v 5)] 35) → CtF w w.heap.size RB OB W5.heap.size n f v (fun j => if j < 0 then a j else 0) (fun c => v c - rowSum f a 0 c) W by
            rintro W rfl
            have hg : Gr W5 (W5.alloc (.cells #[.int .i64 (v 0), .int .i64 (v 1), .int .i64 (v 2), .int .i64 (v 3), .int .i64 (v 4), .int .i64 (v 5)] 35)) := (Gr.refl _).alloc _
            refine ⟨HS5.out.keep hg, hrl, hol, by simp, fun i hi => ?_, fun o => (Below.frozen (p := ⟨OB, o, none⟩) hg hol).trans (HF5.out o), fun j hj => ?_, fun o => by simp [go_sem]⟩
            · rw [if_neg (by omega)]
              exact (Below.cell (p := ⟨OB, i, none⟩) hg hol).trans (HO5.out i hi)
            · simp only [rowSum, sumN, Int.sub_zero]
              obtain rfl | rfl | rfl | rfl | rfl | rfl : j = 0 ∨ j = 1 ∨ j = 2 ∨ j = 3 ∨ j = 4 ∨ j = 5 := by omega
              all_goals simp [go_sem])
          generalize hW6 : W5.alloc (.cells #[.int .i64 (v 0), .int .i64 (v 1), .int .i64 (v 2), .int .i64 (v 3), .int .i64 (v 4), .int .i64 (v 5)] 35) = W6
          have HS6 := Lib.hid (HZ.out W6 hW6.symm)
          clear HZ hW6 HO5 HF5 HS5 b0 b1 b2' b3 b4 b5 hol hrl5
          generalize W5.heap.size = VB at *
          go_wp2_with fail
          go_loopw [12, 61] (fun nv iv wr => ∃ i : Nat, i ≤ n ∧ nv = .bool false ∧ iv = .int .i64 (i : Int) ∧ CtF w w.heap.size RB OB VB n f v (fun j => if j < i then a j else 0) (fun c => v c - rowSum f a i c) wr) (fun _ iv _ => n - (intOf iv).toNat)
          case atStart => exact ⟨0, Nat.zero_le _, rfl, rfl, HS6.out⟩
          case round =>
            obtain ⟨i, hi, rfl, rfl, hS⟩ := hrel
            have HS := Lib.hid hS
            have hvl := hS.vl; have hob := hS.ob; have hvb := hS.vb
            have HGR := Lib.hid hS.r.gr
            have hwl := hS.r.gr.le
            have hwtb := hS.r.base
            clear hS HS6
            obtain ⟨wx, rfl⟩ : ∃ wx : World, wx = wr := ⟨_, rfl⟩
            by_cases hlt : i < n
            · have hlt' : decide ((i : Int) < (n : Int)) = true := decide_eq_true (by omega)
              have hi0 : (0 : Int) ≤ (i : Int) := by omega
              have hi1 : (i : Int) < (n : Int) := by omega
              obtain ⟨b2, off2, rfl, hb2, hsn, q7, q0, q1, q2, q3, q4, q5⟩ := (HA.out.keep HGR.out).seven hlt
              go_upto_region 20 with fail
              have HZ := Lib.hid (show ∀ W, W = wx.alloc (.cells #[.string (nm i), .int .i64 (f i 0), .int .i64 (f i 1), .int .i64 (f i 2), .int .i64 (f i 3), .int .i64 (f i 4), .int .i64 (f i 5)] 64) → (W.cell? ⟨wx.heap.size, 1, none⟩ = some (.int .i64 (f i 0)) ∧ W.cell? ⟨wx.heap.size, 2, none⟩ = some (.int .i64 (f i 1)) ∧ W.cell? ⟨wx.heap.size, 3, none⟩ = some (.int .i64 (f i 2)) ∧ W.cell? ⟨wx.heap.size, 4, none⟩ = some (.int .i64 (f i 3)) ∧ W.cell? ⟨wx.heap.size, 5, none⟩ = some (.int .i64 (f i 4)) ∧ W.cell? ⟨wx.heap.size, 6, none⟩ = some (.int .i64 (f i 5))) ∧ Gr wx W ∧ W.heap.size = wx.heap.size + 1 by
                rintro W rfl
                exact ⟨⟨by simp [go_sem], by simp [go_sem], by simp [go_sem], by simp [go_sem], by simp [go_sem], by simp [go_sem]⟩, (Gr.refl _).alloc _, by simp⟩)
              generalize hWq : wx.alloc (.cells #[.string (nm i), .int .i64 (f i 0), .int .i64 (f i 1), .int .i64 (f i 2), .int .i64 (f i 3), .int .i64 (f i 4), .int .i64 (f i 5)] 64) = wq
              obtain ⟨pp, pg, psz⟩ := HZ.out wq hWq.symm
              have HPP := Lib.hid pp
              clear HZ hWq q7 q0 q1 q2 q3 q4 q5 hsn pp
              have HSq := Lib.hid (HS.out.keep pg)
              generalize hNB : wx.heap.size = NB at *
              have hNq : NB < wq.heap.size := by omega
              have hNR : NB ≠ RB := by omega
              have hNO : NB ≠ OB := by omega
              have hNV : NB ≠ VB := by omega
              have HST := Lib.hid (HSq.out.store hlt v)
              have hfz := HSq.out.r.rows.froz
              obtain ⟨r0, r1, r2, r3, r4, r5⟩ := HSq.out.r.rows.six hlt
              obtain ⟨b0, b1, b2', b3, b4, b5⟩ := (show wq.cell? ⟨w.heap.size, 0, none⟩ = some (.int .i64 (v 0)) ∧ wq.cell? ⟨w.heap.size, 1, none⟩ = some (.int .i64 (v 1)) ∧ wq.cell? ⟨w.heap.size, 2, none⟩ = some (.int .i64 (v 2)) ∧ wq.cell? ⟨w.heap.size, 3, none⟩ = some (.int .i64 (v 3)) ∧ wq.cell? ⟨w.heap.size, 4, none⟩ = some (.int .i64 (v 4)) ∧ wq.cell? ⟨w.heap.size, 5, none⟩ = some (.int .i64 (v 5)) from ⟨HSq.out.r.six 0 (by omega), HSq.out.r.six 1 (by omega), HSq.out.r.six 2 (by omega), HSq.out.r.six 3 (by omega), HSq.out.r.six 4 (by omega), HSq.out.r.six 5 (by omega)⟩)
              have hrlq := HSq.out.r.rows.lt
              clear pg
              go_upto_region 21 with fail
              change Code.wp _ _ _ _ (setR wq RB i (v 0) (v 1) (v 2) (v 3) (v 4) (v 5))
              have HP1 := Lib.hid (show (setR wq RB i (v 0) (v 1) (v 2) (v 3) (v 4) (v 5)).cell? ⟨NB, 1, none⟩ = some (.int .i64 (f i 0)) ∧ (setR wq RB i (v 0) (v 1) (v 2) (v 3) (v 4) (v 5)).cell? ⟨NB, 2, none⟩ = some (.int .i64 (f i 1)) ∧ (setR wq RB i (v 0) (v 1) (v 2) (v 3) (v 4) (v 5)).cell? ⟨NB, 3, none⟩ = some (.int .i64 (f i 2)) ∧ (setR wq RB i (v 0) (v 1) (v 2) (v 3) (v 4) (v 5)).cell? ⟨NB, 4, none⟩ = some (.int .i64 (f i 3)) ∧ (setR wq RB i (v 0) (v 1) (v 2) (v 3) (v 4) (v 5)).cell? ⟨NB, 5, none⟩ = some (.int .i64 (f i 4)) ∧ (setR wq RB i (v 0) (v 1) (v 2) (v 3) (v 4) (v 5)).cell? ⟨NB, 6, none⟩ = some (.int .i64 (f i 5)) from ⟨(setR_other _ _ _ _ _ _ _ _ _ hNR).trans HPP.out.1, (setR_other _ _ _ _ _ _ _ _ _ hNR).trans HPP.out.2.1, (setR_other _ _ _ _ _ _ _ _ _ hNR).trans HPP.out.2.2.1, (setR_other _ _ _ _ _ _ _ _ _ hNR).trans HPP.out.2.2.2.1, (setR_other _ _ _ _ _ _ _ _ _ hNR).trans HPP.out.2.2.2.2.1, (setR_other _ _ _ _ _ _ _ _ _ hNR).trans HPP.out.2.2.2.2.2⟩)
              have hNs : NB < (setR wq RB i (v 0) (v 1) (v 2) (v 3) (v 4) (v 5)).heap.size := by rw [setR_size]; exact hNq
              generalize setR wq RB i (v 0) (v 1) (v 2) (v 3) (v 4) (v 5) = ws at HST HP1 hNs ⊢
              clear hfz r0 r1 r2 r3 r4 r5 b0 b1 b2' b3 b4 b5 hrlq HSq HPP
              have HDE := Lib.hid (HDT.out (setRow f i v) (fun k hk j hj => by
                unfold setRow
                split
                · exact HV48.out j hj
                · exact HBD.out k hk j hj) M hM ws RB HST.out.r.rows)
              rw [HCR.out i hlt, ← HD.out] at HDE
              have hai := HAA.out i hlt
              have hwa : IntKind.i64.wrap (a i) = a i := IntWalk.i64_in _ ⟨by omega, by omega⟩
              have hwn : IntKind.i64.wrap (-(a i)) = -(a i) := IntWalk.i64_in _ ⟨by omega, by omega⟩
              have hrm : (a i * x).tmod x = 0 := Int.mul_tmod_left _ _
              have hqt : (a i * x).tdiv x = a i := Int.mul_tdiv_cancel _ hMD
              generalize a i * x = N1 at HDE hrm hqt
              go_wp2_with fail
              go_at_call 44
              refine HDE.out.mono ?_
              rintro e w7 ⟨rfl, hg7⟩
              have HS7 := Lib.hid (HST.out.keep hg7)
              have hN7 := Nat.lt_of_lt_of_le hNs hg7.le
              obtain ⟨p0, p1, p2, p3, p4, p5⟩ := (show w7.cell? ⟨NB, 1, none⟩ = some (.int .i64 (f i 0)) ∧ w7.cell? ⟨NB, 2, none⟩ = some (.int .i64 (f i 1)) ∧ w7.cell? ⟨NB, 3, none⟩ = some (.int .i64 (f i 2)) ∧ w7.cell? ⟨NB, 4, none⟩ = some (.int .i64 (f i 3)) ∧ w7.cell? ⟨NB, 5, none⟩ = some (.int .i64 (f i 4)) ∧ w7.cell? ⟨NB, 6, none⟩ = some (.int .i64 (f i 5)) from ⟨(Below.cell (p := ⟨NB, 1, none⟩) hg7 hNs).trans HP1.out.1, (Below.cell (p := ⟨NB, 2, none⟩) hg7 hNs).trans HP1.out.2.1, (Below.cell (p := ⟨NB, 3, none⟩) hg7 hNs).trans HP1.out.2.2.1, (Below.cell (p := ⟨NB, 4, none⟩) hg7 hNs).trans HP1.out.2.2.2.1, (Below.cell (p := ⟨NB, 5, none⟩) hg7 hNs).trans HP1.out.2.2.2.2.1, (Below.cell (p := ⟨NB, 6, none⟩) hg7 hNs).trans HP1.out.2.2.2.2.2⟩)
              have HP7 := Lib.hid (And.intro p0 (And.intro p1 (And.intro p2 (And.intro p3 (And.intro p4 p5)))))
              clear hg7 HDE HST HP1
              have HST := Lib.hid ((HS7.out.store hlt (f i)).congr (g' := f) (u' := fun j => if j < i then a j else 0) (z' := fun c => v c - rowSum f a i c) (fun k hk j hj => by rw [setRow_back]) (fun _ _ => rfl) (fun _ _ => rfl))
              have hfz := HS7.out.r.rows.froz
              obtain ⟨r0, r1, r2, r3, r4, r5⟩ := HS7.out.r.rows.six hlt
              have hrlq := HS7.out.r.rows.lt
              go_upto_region 23 with fail
              change Code.wp _ _ _ _ (setR w7 RB i (f i 0) (f i 1) (f i 2) (f i 3) (f i 4) (f i 5))
              have HP8 := Lib.hid (show (setR w7 RB i (f i 0) (f i 1) (f i 2) (f i 3) (f i 4) (f i 5)).cell? ⟨NB, 1, none⟩ = some (.int .i64 (f i 0)) ∧ (setR w7 RB i (f i 0) (f i 1) (f i 2) (f i 3) (f i 4) (f i 5)).cell? ⟨NB, 2, none⟩ = some (.int .i64 (f i 1)) ∧ (setR w7 RB i (f i 0) (f i 1) (f i 2) (f i 3) (f i 4) (f i 5)).cell? ⟨NB, 3, none⟩ = some (.int .i64 (f i 2)) ∧ (setR w7 RB i (f i 0) (f i 1) (f i 2) (f i 3) (f i 4) (f i 5)).cell? ⟨NB, 4, none⟩ = some (.int .i64 (f i 3)) ∧ (setR w7 RB i (f i 0) (f i 1) (f i 2) (f i 3) (f i 4) (f i 5)).cell? ⟨NB, 5, none⟩ = some (.int .i64 (f i 4)) ∧ (setR w7 RB i (f i 0) (f i 1) (f i 2) (f i 3) (f i 4) (f i 5)).cell? ⟨NB, 6, none⟩ = some (.int .i64 (f i 5)) from ⟨(setR_other _ _ _ _ _ _ _ _ _ hNR).trans HP7.out.1, (setR_other _ _ _ _ _ _ _ _ _ hNR).trans HP7.out.2.1, (setR_other _ _ _ _ _ _ _ _ _ hNR).trans HP7.out.2.2.1, (setR_other _ _ _ _ _ _ _ _ _ hNR).trans HP7.out.2.2.2.1, (setR_other _ _ _ _ _ _ _ _ _ hNR).trans HP7.out.2.2.2.2.1, (setR_other _ _ _ _ _ _ _ _ _ hNR).trans HP7.out.2.2.2.2.2⟩)
              have hN8 : NB < (setR w7 RB i (f i 0) (f i 1) (f i 2) (f i 3) (f i 4) (f i 5)).heap.size := by rw [setR_size]; exact hN7
              generalize setR w7 RB i (f i 0) (f i 1) (f i 2) (f i 3) (f i 4) (f i 5) = w8 at HST HP8 hN8 ⊢
              clear hfz r0 r1 r2 r3 r4 r5 p0 p1 p2 p3 p4 p5 hrlq HS7 HP7
              have HPT := Lib.hid (HST.out.put hlt (a i))
              have hoc := HST.out.out i hlt
              rw [if_neg (by omega)] at hoc
              have hof := HST.out.off
              have hvl8 := HST.out.vl
              go_upto_region 25 with fail
              have hP9 := HP8.out
              have hN9 : NB < (w8.setCell ⟨OB, i, none⟩ (.int .i64 (a i))).heap.size := by simpa using hN8
              have HP9 := Lib.hid (show (w8.setCell ⟨OB, i, none⟩ (.int .i64 (a i))).cell? ⟨NB, 1, none⟩ = some (.int .i64 (f i 0)) ∧ (w8.setCell ⟨OB, i, none⟩ (.int .i64 (a i))).cell? ⟨NB, 2, none⟩ = some (.int .i64 (f i 1)) ∧ (w8.setCell ⟨OB, i, none⟩ (.int .i64 (a i))).cell? ⟨NB, 3, none⟩ = some (.int .i64 (f i 2)) ∧ (w8.setCell ⟨OB, i, none⟩ (.int .i64 (a i))).cell? ⟨NB, 4, none⟩ = some (.int .i64 (f i 3)) ∧ (w8.setCell ⟨OB, i, none⟩ (.int .i64 (a i))).cell? ⟨NB, 5, none⟩ = some (.int .i64 (f i 4)) ∧ (w8.setCell ⟨OB, i, none⟩ (.int .i64 (a i))).cell? ⟨NB, 6, none⟩ = some (.int .i64 (f i 5)) from ⟨(World.cell?_setCell_other _ _ _ _ (by intro e; injection e with e1 e2; exact hNO e1.symm)).trans hP9.1, (World.cell?_setCell_other _ _ _ _ (by intro e; injection e with e1 e2; exact hNO e1.symm)).trans hP9.2.1, (World.cell?_setCell_other _ _ _ _ (by intro e; injection e with e1 e2; exact hNO e1.symm)).trans hP9.2.2.1, (World.cell?_setCell_other _ _ _ _ (by intro e; injection e with e1 e2; exact hNO e1.symm)).trans hP9.2.2.2.1, (World.cell?_setCell_other _ _ _ _ (by intro e; injection e with e1 e2; exact hNO e1.symm)).trans hP9.2.2.2.2.1, (World.cell?_setCell_other _ _ _ _ (by intro e; injection e with e1 e2; exact hNO e1.symm)).trans hP9.2.2.2.2.2⟩)
              generalize w8.setCell ⟨OB, i, none⟩ (.int .i64 (a i)) = w9 at HPT HP9 hN9 ⊢
              obtain ⟨p0, p1, p2, p3, p4, p5⟩ := HP9.out
              have hoc9 := HPT.out.out i hlt
              rw [if_pos rfl] at hoc9
              have hvl9 := HPT.out.vl
              have hOV : OB ≠ VB := by omega
              have hol9 : OB < w9.heap.size := by omega
              have HSBI := Lib.hid (HSB.out i hi)
              have HAD := Lib.hid (add_any VB w9.heap.size (fun c => v c - rowSum f a i c) (f i) (-(a i)) w9.drew w9.drew ⟨But.refl _ _ _, by simp, hvl9, fun j hj => by rw [World.cell?_drew]; exact HPT.out.rest j hj, fun j => by rw [World.frozen?_drew]; exact HPT.out.rf j⟩ (fun j hj => by
                have s := HSBI.out j hj
                have s2 := HV48.out j hj
                show -1000000000000 ≤ v j - rowSum f a i j ∧ v j - rowSum f a i j ≤ 1000000000000
                omega) (fun j hj => by
                have z := HBD.out i hlt j hj
                have p1 : (-(a i) * f i j).natAbs ≤ 15 * 48 := by
                  rw [Int.natAbs_mul]
                  exact Nat.mul_le_mul (by omega) (by omega)
                omega))
              clear hoc hof hvl8 hN8 hP9 HP8 HP9 HST HSBI hrm hqt hwa
              refine wp_region_held_drew (S := fun wx => ∀ b o, (⟨min (b + 1) w9.heap.size, 0, none⟩ : Addr) = ⟨b + 1, 0, none⟩ → ¬ (⟨b, 0, none⟩ : Addr) = ⟨VB, 0, none⟩ → wx.cell? ⟨b, o, none⟩ = w9.cell? ⟨b, o, none⟩) (by kernel_rfl) (fun b o _ _ => by rw [World.cell?_drew]) (fun hHeld => ?_)
              refine take_at (i := 0) (oi := _) (d := some 91) (v := ?_) rfl rfl (by kernel_rfl) (by kernel_rfl) (by kernel_rfl) (fun _ _ _ h => h) (Or.inl ⟨by rfl, ?_⟩) hHeld ?_
              rotate_left
              next => (intro w hSw; (try dsimp only at hSw); go_simp; try with_reducible rfl)
              try simp only [Act.put, List.setIfInBounds_toArray, List.set_cons_zero, List.set_cons_succ]
              refine take_at (i := 1) (oi := _) (d := some 92) (v := ?_) rfl rfl (by kernel_rfl) (by kernel_rfl) (by kernel_rfl) (fun _ _ _ h => h) (Or.inl ⟨by rfl, ?_⟩) hHeld ?_
              rotate_left
              next => (intro w hSw; (try dsimp only at hSw); go_simp; try with_reducible rfl)
              try simp only [Act.put, List.setIfInBounds_toArray, List.set_cons_zero, List.set_cons_succ]
              refine take_at (i := 2) (oi := _) (d := some 93) (v := ?_) rfl rfl (by kernel_rfl) (by kernel_rfl) (by kernel_rfl) (fun _ _ _ h => h) (Or.inl ⟨by rfl, ?_⟩) hHeld ?_
              rotate_left
              next => (intro w hSw; (try dsimp only at hSw); go_simp; try with_reducible rfl)
              try simp only [Act.put, List.setIfInBounds_toArray, List.set_cons_zero, List.set_cons_succ]
              refine take_at (i := 3) (oi := _) (d := some 94) (v := ?_) rfl rfl (by kernel_rfl) (by kernel_rfl) (by kernel_rfl) (fun _ _ _ h => h) (Or.inl ⟨by rfl, ?_⟩) hHeld ?_
              rotate_left
              next => (intro w hSw; (try dsimp only at hSw); go_simp; try with_reducible rfl)
              try simp only [Act.put, List.setIfInBounds_toArray, List.set_cons_zero, List.set_cons_succ]
              refine take_at (i := 4) (oi := _) (d := some 95) (v := ?_) rfl rfl (by kernel_rfl) (by kernel_rfl) (by kernel_rfl) (fun _ _ _ h => h) (Or.inl ⟨by rfl, ?_⟩) hHeld ?_
              rotate_left
              next => (intro w hSw; (try dsimp only at hSw); go_simp; try with_reducible rfl)
              try simp only [Act.put, List.setIfInBounds_toArray, List.set_cons_zero, List.set_cons_succ]
              refine take_at (i := 5) (oi := _) (d := some 96) (v := ?_) rfl rfl (by kernel_rfl) (by kernel_rfl) (by kernel_rfl) (fun _ _ _ h => h) (Or.inl ⟨by rfl, ?_⟩) hHeld ?_
              rotate_left
              next => (intro w hSw; (try dsimp only at hSw); go_simp; try with_reducible rfl)
              try simp only [Act.put, List.setIfInBounds_toArray, List.set_cons_zero, List.set_cons_succ]
              refine take_at (i := 6) (oi := _) (d := some 97) (v := ?_) rfl rfl (by kernel_rfl) (by kernel_rfl) (by kernel_rfl) (fun _ _ _ h => h) (Or.inl ⟨by rfl, ?_⟩) hHeld ?_
              rotate_left
              next => (intro w hSw; (try dsimp only at hSw); go_simp; try with_reducible rfl)
              try simp only [Act.put, List.setIfInBounds_toArray, List.set_cons_zero, List.set_cons_succ]
              refine wpAnyH_ready (rs := [7]) (by kernel_rfl) (by simp) (AllReadyH.cons (o := _) rfl (fun K hK => ?_) AllReadyH.nil)
              go_simp
              go_at_call 30
              refine HAD.out.mono ?_
              rintro e w6 ⟨rfl, hA6⟩
              refine hK.out _ _ (fun b o h1 h2 => (hA6.but.cell (p := ⟨b, o, none⟩) (lt_of_addr h1) (fun e => h2 (by rw [show b = VB from e]))).trans (World.cell?_drew _ _)) (fun hHeld => ?_)
              clear hK K
              try simp only [Act.put, List.setIfInBounds_toArray, List.set_cons_zero, List.set_cons_succ]
              refine wpAnyH_done (by kernel_rfl) ?_ _
              have HSN := Lib.hid (((HPT.out.keep (Gr.refl w9).drew).added (W' := w6) (by rw [World.size_drew]; exact hA6)).congr (g' := f) (u' := fun j => if j < i + 1 then a j else 0) (z' := fun c => v c - rowSum f a (i + 1) c) (fun _ _ _ _ => rfl) (fun j hj => by
                show (if j = i then a i else if j < i then a j else 0) = if j < i + 1 then a j else 0
                by_cases e : j = i
                · subst e; rw [if_pos rfl, if_pos (by omega)]
                · rw [if_neg e]
                  by_cases e2 : j < i
                  · rw [if_pos e2, if_pos (by omega)]
                  · rw [if_neg e2, if_neg (by omega)]) (fun j hj => by
                show v j - rowSum f a i j + -(a i) * f i j = v j - (rowSum f a i j + a i * f i j)
                rw [Int.neg_mul]
                omega))
              clear hA6 HAD HPT p0 p1 p2 p3 p4 p5 hoc9 HS HDT HCR HBI
              go_wp2_with fail
              go_roundw
              case rel => exact ⟨i + 1, by omega, rfl, by go_num, HSN.out⟩
              case measure => simp [intOf]; omega
            · obtain rfl : n = i := by omega
              have hlt' : decide ((n : Int) < (n : Int)) = false := decide_eq_false (by omega)
              have HZ0 : Hid (∀ j, j < 6 → wx.cell? ⟨VB, j, none⟩ = some (.int .i64 0)) := Lib.hid (fun j hj => by
                have z := HS.out.rest j hj
                rw [show v j - rowSum f a n j = 0 by rw [HV.out j hj]; omega] at z
                exact z)
              have z0 := HZ0.out 0 (by omega); have z1 := HZ0.out 1 (by omega); have z2 := HZ0.out 2 (by omega); have z3 := HZ0.out 3 (by omega); have z4 := HZ0.out 4 (by omega); have z5 := HZ0.out 5 (by omega)
              have HIA : Hid (IntAt wx (some ⟨OB, 0, none⟩) n a) := Lib.hid (fun _ => ⟨OB, 0, rfl, by omega, fun j hj => by
                have z := HS.out.out j hj
                rw [if_pos hj] at z
                rw [Nat.zero_add]
                exact z⟩)
              have HQ := eq6V_yes 0 0 0 0 0 0
              clear HS HDT HCR HBI HZ0
              go_wp2_with fail
              go_at_call 42
              refine (HAC.out _ HGR.out _ HIA.out n).mono ?_
              rintro e w7 ⟨rfl, hg7⟩
              have HG7 := Lib.hid (HGR.out.trans hg7)
              have HI7 := Lib.hid (HIA.out.keep hg7)
              clear hg7 HQ z0 z1 z2 z3 z4 z5
              go_wp2_with fail
              go_ret2
              exact ⟨_, _, rfl, HI7.out, Nat.le_refl _, HG7.out⟩
end Go.Proofs.YtelhmdhhabgihaaDoor
