/-
  comma.determinant, bits, account and Sum.
-/
import Derived.Test.YtelhmdhhabgihaaDoorDt
import Derived.Test.YtelhmdhhabgihaaDoorSm
namespace Go.Proofs.YtelhmdhhabgihaaDoor
open Go.RowKit

set_option maxRecDepth 100000 in
set_option maxHeartbeats 16000000 in
theorem ddet_any (Ar : Option Addr) (n cr : Nat) (f : Nat → Nat → Int) (M : Nat) (w : World) (hR : RowsAt w 6 Ar n f) (hf : ∀ i, i < n → ∀ j, j < 6 → -48 ≤ f i j ∧ f i j ≤ 48) (hn : n ≤ 6) (hM : M < 64) :
    Calls Tryd.prog 44 #[.slice Ar n cr, .int .i64 (M : Int)] w fun e w' => e = .returned (.int .i64 (detM f 0 n M)) ∧ Gr w w' := by
  have v : ∀ W T1 T2, W = (w.alloc (.cells #[.slice Ar n cr] T1)).alloc (.cells #[.func (.func 58) #[] #[.pointer (some ⟨w.heap.size, 0, none⟩), .pointer (some ⟨w.heap.size + 1, 0, none⟩)]] T2) → W.cell? ⟨w.heap.size, 0, none⟩ = some (.slice Ar n cr) ∧ W.cell? ⟨w.heap.size + 1, 0, none⟩ = some (.func (.func 58) #[] #[.pointer (some ⟨w.heap.size, 0, none⟩), .pointer (some ⟨w.heap.size + 1, 0, none⟩)]) ∧ W.heap.size = w.heap.size + 1 + 1 ∧ Gr w W := by
    rintro W T1 T2 rfl
    exact ⟨by simp [go_sem], by simp [go_sem], by simp, ((Gr.refl _).alloc _).alloc _⟩
  have HE := Lib.hid (fun W (g : Gr w W) (c0 : W.cell? ⟨w.heap.size, 0, none⟩ = some (.slice Ar n cr)) (c1 : W.cell? ⟨w.heap.size + 1, 0, none⟩ = some (.func (.func 58) #[] #[.pointer (some ⟨w.heap.size, 0, none⟩), .pointer (some ⟨w.heap.size + 1, 0, none⟩)])) (l : W.heap.size = w.heap.size + 1 + 1) =>
    dexp_any w.heap.size (w.heap.size + 1) Ar n cr f W (by omega) (by omega) c0 c1 (hR.keep g) hf hn n 0 M W (by omega) hM (Gr.refl _))
  have V := Lib.hid v
  clear v hR hf
  go_enter Tryd.func44, Tryd.ntmps44
  go_wp2_with fail
  generalize hW : (w.alloc (.cells #[.slice Ar n cr] _)).alloc (.cells #[.func (.func 58) #[] #[.pointer (some ⟨w.heap.size, 0, none⟩), .pointer (some ⟨w.heap.size + 1, 0, none⟩)]] _) = W2
  obtain ⟨c0, c1, l, g⟩ := V.out W2 _ _ hW.symm
  have HG := Lib.hid g
  refine (HE.out W2 g c0 c1 l).mono ?_
  rintro e w3 ⟨rfl, hg3⟩
  have HG3 := Lib.hid (HG.out.trans hg3)
  clear hW c0 c1 l g hg3 V HE
  go_wp2_with fail
  go_ret
  exact ⟨rfl, HG3.out⟩
/-- How many of the first k columns a mask has. -/
def popR : Nat → Nat → Nat
  | 0, _ => 0
  | k + 1, M => M % 2 + popR k (M / 2)
theorem popR_step : ∀ r : Nat, r < 64 → popR 6 r = r % 2 + popR 6 (r / 2) := by decide +kernel
theorem popR_le : ∀ r : Nat, r < 64 → popR 6 r ≤ 6 := by decide +kernel
set_option maxRecDepth 100000 in
set_option maxHeartbeats 16000000 in
theorem bits_any (M : Nat) (w : World) (hM : M < 64) : Calls Tryd.prog 43 #[.int .i64 (M : Int)] w fun e w' => e = .returned (.int .i64 (popR 6 M : Int)) ∧ Gr w w' := by
  have HL := Lib.hid (popR_le M hM)
  go_enter Tryd.func43, Tryd.ntmps43
  go_wp2_with fail
  go_loopw [0, 3] (fun mv nv wr => ∃ r c : Nat, r < 64 ∧ c + popR 6 r = popR 6 M ∧ mv = .int .i64 (r : Int) ∧ nv = .int .i64 (c : Int) ∧ Gr w wr) (fun mv _ _ => (intOf mv).toNat)
  case atStart => exact ⟨M, 0, hM, by omega, rfl, rfl, Gr.refl _⟩
  case round =>
    obtain ⟨r, c, hr, hc, rfl, rfl, hg⟩ := hrel
    have HG := Lib.hid hg
    have HST := Lib.hid (popR_step r hr)
    have hl := HL.out
    have hc6 : c ≤ 6 := by omega
    have HC := Lib.hid hc
    obtain ⟨wo, rfl⟩ : ∃ wo : World, wo = wr := ⟨_, rfl⟩
    clear hg hc hl
    by_cases h0 : 0 < r
    · have h0' : decide (0 < (r : Int)) = true := decide_eq_true (by omega)
      have hb : bits .and .i64 (r : Int) 1 = ((r % 2 : Nat) : Int) := and_one r
      have hw1 : IntKind.i64.wrap ((c : Int) + ((r % 2 : Nat) : Int)) = ((c + r % 2 : Nat) : Int) := (IntWalk.i64_in _ ⟨by omega, by omega⟩).trans (by omega)
      have hw1' : IntKind.i64.wrap ((c : Int) + (r : Int) % 2) = ((c + r % 2 : Nat) : Int) := (IntWalk.i64_in _ ⟨by omega, by omega⟩).trans (by omega)
      have HH := Lib.hid (show r / 2 < 64 by omega); have HH2 := Lib.hid (show r / 2 < r by omega)
      go_wp2_with fail
      go_roundw
      case rel => exact ⟨r / 2, c + r % 2, HH.out, by have := HC.out; have := HST.out; omega, by go_num, by go_num, HG.out⟩
      case measure => have := HH2.out; simp [intOf]; omega
    · obtain rfl : r = 0 := by omega
      have e : c = popR 6 M := by have := HC.out; simpa [popR] using this
      subst e
      go_wp2_with fail
      go_ret
      exact ⟨rfl, HG.out⟩
set_option maxRecDepth 100000 in
set_option maxHeartbeats 16000000 in
theorem caccount_ok (A B : Option Addr) (n ca cb : Nat) (nm : Nat → ByteArray) (f : Nat → Nat → Int) (u : Nat → Int) (w : World) (hA : NamedAt w A n nm f) (hB : IntAt w B n u) (hok : commaB nm f n = true) (hu : ∀ j, j < n → -1000 ≤ u j ∧ u j ≤ 1000) :
    Calls Tryd.prog 42 #[.slice A n ca, .slice B n cb] w fun e w' => e = .returned (.bool true) ∧ Gr w w' := by
  have hV := fun W (g : Gr w W) => commaValid_any A n ca nm f W (hA.keep g)
  rw [hok] at hV
  have hn6 := (commaB_parts hok).2.1
  have HV := Lib.hid hV; have HB := Lib.hid hB; have HU := Lib.hid hu
  clear hV hA hB hu hok
  go_enter Tryd.func42, Tryd.ntmps42
  go_wp2_with fail
  go_loopw [9] (fun iv wr => ∃ i : Nat, i ≤ n ∧ iv = .int .i64 (i : Int) ∧ Gr w wr) (fun iv _ => n - (intOf iv).toNat)
  case atStart => exact ⟨0, Nat.zero_le _, rfl, Gr.refl _⟩
  case round =>
    obtain ⟨i, hi, rfl, hg⟩ := hrel
    have HG := Lib.hid hg
    obtain ⟨wo, rfl⟩ : ∃ wo : World, wo = wr := ⟨_, rfl⟩
    by_cases hlt : i < n
    · have hlt' : decide ((i : Int) < (n : Int)) = true := decide_eq_true (by omega)
      obtain ⟨b, off, rfl, hb, hc⟩ := (HB.out.keep hg).one hlt
      have hx := HU.out i hlt
      have d1 : decide (u i < -1000) = false := decide_eq_false (by omega)
      have d2 : decide (1000 < u i) = false := decide_eq_false (by omega)
      clear hg
      go_wp2_with fail
      go_roundw
      case rel => exact ⟨i + 1, by omega, by go_num, HG.out⟩
      case measure => simp [intOf]; omega
    · obtain rfl : n = i := by omega
      have hlt' : decide ((n : Int) < (n : Int)) = false := decide_eq_false (by omega)
      clear hg
      go_wp2_with fail
      go_at_call 28
      refine (HV.out _ HG.out).mono ?_
      rintro e w2 ⟨rfl, hg2⟩
      have HG2 := Lib.hid (HG.out.trans hg2)
      clear hg2
      go_wp2_with fail
      go_ret
      exact ⟨rfl, HG2.out⟩
set_option maxRecDepth 100000 in
set_option maxHeartbeats 16000000 in
theorem csum_ok (A B : Option Addr) (n ca cb : Nat) (nm : Nat → ByteArray) (f : Nat → Nat → Int) (u : Nat → Int) (w : World) (hA : NamedAt w A n nm f) (hB : IntAt w B n u) (hok : commaB nm f n = true) (hu : ∀ j, j < n → -15 ≤ u j ∧ u j ≤ 15) (r0 r1 r2 r3 r4 r5 : Int) (hr : rowSum f u n 0 = r0 ∧ rowSum f u n 1 = r1 ∧ rowSum f u n 2 = r2 ∧ rowSum f u n 3 = r3 ∧ rowSum f u n 4 = r4 ∧ rowSum f u n 5 = r5) (hin : allIn ⟨r0, r1, r2, r3, r4, r5⟩ 48 6 = true) :
    Calls Tryd.prog 25 #[.slice A n ca, .slice B n cb] w fun e w' => e = .returned (.tuple #[.agg #[.int .i64 r0, .int .i64 r1, .int .i64 r2, .int .i64 r3, .int .i64 r4, .int .i64 r5], .int .i64 0]) ∧ Gr w w' := by
  have HAC := Lib.hid (fun W (g : Gr w W) => caccount_ok A B n ca cb nm f u W (hA.keep g) (hB.keep g) hok (fun j hj => by have := hu j hj; omega))
  obtain ⟨-, hn6, -, hrow, -, -⟩ := commaB_parts hok
  have hbd := rowsOk_bd hrow
  have HA := Lib.hid hA; have HB := Lib.hid hB; have HU := Lib.hid hu; have HRR := Lib.hid hr
  have HPI := Lib.hid (fun W => pinterval_any r0 r1 r2 r3 r4 r5 W)
  have HIN := Lib.hid hin
  have HBD := Lib.hid hbd
  have HSB : Hid (∀ m, m ≤ n → ∀ c, c < 6 → -1000 * (m : Int) ≤ rowSum f u m c ∧ rowSum f u m c ≤ 1000 * (m : Int)) := Lib.hid (by
    intro m
    induction m with
    | zero => intro _ c _; simp [rowSum, sumN]
    | succ m ih =>
      intro hm c hc
      have i := ih (by omega) c hc
      have a := hu m (by omega)
      have b := hbd m (by omega) c hc
      have e : rowSum f u (m + 1) c = rowSum f u m c + u m * f m c := rfl
      have p1 : (u m * f m c).natAbs ≤ 15 * 48 := by
        rw [Int.natAbs_mul]
        exact Nat.mul_le_mul (by omega) (by omega)
      rw [e]
      omega)
  clear hA hB hu hr hin hok hrow hbd
  have v0' : ∀ W, W = w.alloc (.cells #[.int .i64 0, .int .i64 0, .int .i64 0, .int .i64 0, .int .i64 0, .int .i64 0] 35) → SixV W w.heap.size (.int .i64 0) (.int .i64 0) (.int .i64 0) (.int .i64 0) (.int .i64 0) (.int .i64 0) ∧ w.heap.size < W.heap.size ∧ Gr w W ∧ ∀ o, W.frozen? ⟨w.heap.size, o, none⟩ = false := by
    rintro W rfl
    exact ⟨⟨by simp [go_sem], by simp [go_sem], by simp [go_sem], by simp [go_sem], by simp [go_sem], by simp [go_sem]⟩, by simp, (Gr.refl _).alloc _, fun o => by simp [go_sem]⟩
  have V0 := Lib.hid v0'
  clear v0'
  go_enter Tryd.func25, Tryd.ntmps25
  go_wp2_with fail
  generalize hW0 : w.alloc (.cells #[.int .i64 0, .int .i64 0, .int .i64 0, .int .i64 0, .int .i64 0, .int .i64 0] 35) = W0
  have HV0 := Lib.hid (V0.out W0 hW0.symm)
  have hFB := HV0.out.2.1
  clear V0 hW0
  go_at_call 42
  refine (HAC.out _ HV0.out.2.2.1).mono ?_
  rintro e w1 ⟨rfl, hg1⟩
  have HG1 := Lib.hid (HV0.out.2.2.1.trans hg1)
  have HS1 := Lib.hid (HV0.out.1.keep hg1 hFB)
  have HF1 : Hid (∀ o, w1.frozen? ⟨w.heap.size, o, none⟩ = false) := Lib.hid (fun o => (Below.frozen (p := ⟨w.heap.size, o, none⟩) hg1 hFB).trans (HV0.out.2.2.2 o))
  have hF1 := Nat.lt_of_lt_of_le hFB hg1.le
  clear hg1 HV0
  have v1' : ∀ W, W = w1.alloc (.cells #[.int .i64 0, .int .i64 0, .int .i64 0, .int .i64 0, .int .i64 0, .int .i64 0] 35) → ArrRel 6 (rowSum f u 0) w1.heap.size W.heap.size W W ∧ Gr w1 W := by
    rintro W rfl
    refine ⟨⟨But.refl _ _ _, Nat.le_refl _, by simp, fun j hj => ?_, fun j => by simp [go_sem]⟩, (Gr.refl _).alloc _⟩
    obtain rfl | rfl | rfl | rfl | rfl | rfl : j = 0 ∨ j = 1 ∨ j = 2 ∨ j = 3 ∨ j = 4 ∨ j = 5 := by omega
    all_goals simp [go_sem, rowSum, sumN]
  have V1 := Lib.hid v1'
  clear v1'
  go_wp2_with fail
  generalize hW2 : w1.alloc (.cells #[.int .i64 0, .int .i64 0, .int .i64 0, .int .i64 0, .int .i64 0, .int .i64 0] 35) = W2
  have HV1 := Lib.hid (V1.out W2 hW2.symm)
  clear V1 hW2
  obtain ⟨VB, hVB⟩ : ∃ VB, w1.heap.size = VB := ⟨_, rfl⟩
  have HG2 := Lib.hid (HG1.out.trans HV1.out.2)
  have HS2 := Lib.hid (HS1.out.keep HV1.out.2 hF1)
  have HF2 : Hid (∀ o, W2.frozen? ⟨w.heap.size, o, none⟩ = false) := Lib.hid (fun o => (Below.frozen (p := ⟨w.heap.size, o, none⟩) HV1.out.2 hF1).trans (HF1.out o))
  have hw2 := HV1.out.2.le
  rw [hVB] at HV1 ⊢
  have hVw : w.heap.size < VB := by omega
  have hWsz : VB ≤ W2.heap.size := by omega
  clear hVB HS1 HF1 HG1 hw2
  go_loopw [16] (fun iv wr => ∃ i : Nat, i ≤ n ∧ iv = .int .i64 (i : Int) ∧ ArrRel 6 (rowSum f u i) VB W2.heap.size W2 wr) (fun iv _ => n - (intOf iv).toNat)
  case atStart => exact ⟨0, Nat.zero_le _, rfl, HV1.out.1⟩
  case round =>
    obtain ⟨i, hi, rfl, hR⟩ := hrel
    have HR := Lib.hid hR
    have hsz := hR.size
    have HGR : Hid (Gr w wr) := Lib.hid (HG2.out.but hR.but (by omega) HG2.out.le)
    obtain ⟨wo, rfl⟩ : ∃ wo : World, wo = wr := ⟨_, rfl⟩
    by_cases hlt : i < n
    · have hlt' : decide ((i : Int) < (n : Int)) = true := decide_eq_true (by omega)
      obtain ⟨b, off, rfl, hb, hc⟩ := (HB.out.keep HGR.out).one hlt
      obtain ⟨b2, off2, rfl, hb2, -, q7, q0, q1, q2, q3, q4, q5⟩ := (HA.out.keep HGR.out).seven hlt
      have hi0 : (0 : Int) ≤ (i : Int) := by omega
      have hi1 : (i : Int) < (n : Int) := by omega
      have hsb := HSB.out i hi
      have hub := HU.out i hlt
      have hfb := HBD.out i hlt
      have HAD := Lib.hid (fun W (h : ArrRel 6 (rowSum f u i) VB W2.heap.size W2 W) => add_any VB W2.heap.size (rowSum f u i) (f i) (u i) W2 W h (fun j hj => by have := hsb j hj; omega) (fun j hj => by
        have b := hfb j hj
        have p1 : (u i * f i j).natAbs ≤ 15 * 48 := by
          rw [Int.natAbs_mul]
          exact Nat.mul_le_mul (by omega) (by omega)
        omega))
      clear hR hsb hub hfb
      go_wp2_with fail
      go_at_call 30
      refine (HAD.out _ HR.out).mono ?_
      rintro e w5 ⟨rfl, hR5⟩
      have HR5 := Lib.hid hR5
      clear hR5
      go_wp2_with fail
      go_roundw
      case rel => exact ⟨i + 1, by omega, by go_num, HR5.out⟩
      case measure => simp [intOf]; omega
    · obtain rfl : n = i := by omega
      have hlt' : decide ((n : Int) < (n : Int)) = false := decide_eq_false (by omega)
      obtain ⟨e0, e1, e2, e3, e4, e5⟩ := HRR.out
      have a0 := hR.cell 0 (by omega); have a1 := hR.cell 1 (by omega); have a2 := hR.cell 2 (by omega); have a3 := hR.cell 3 (by omega); have a4 := hR.cell 4 (by omega); have a5 := hR.cell 5 (by omega)
      rw [e0] at a0; rw [e1] at a1; rw [e2] at a2; rw [e3] at a3; rw [e4] at a4; rw [e5] at a5
      have HSX := Lib.hid (show SixV wo VB (.int .i64 r0) (.int .i64 r1) (.int .i64 r2) (.int .i64 r3) (.int .i64 r4) (.int .i64 r5) from ⟨a0, a1, a2, a3, a4, a5⟩)
      have kb : ∀ o, wo.cell? ⟨w.heap.size, o, none⟩ = W2.cell? ⟨w.heap.size, o, none⟩ := fun o => hR.but.cell (p := ⟨w.heap.size, o, none⟩) (by show w.heap.size < W2.heap.size; omega) (by show w.heap.size ≠ VB; omega)
      obtain ⟨z0, z1, z2, z3, z4, z5⟩ := HS2.out
      have HSZ := Lib.hid (show SixV wo w.heap.size (.int .i64 0) (.int .i64 0) (.int .i64 0) (.int .i64 0) (.int .i64 0) (.int .i64 0) from ⟨(kb 0).trans z0, (kb 1).trans z1, (kb 2).trans z2, (kb 3).trans z3, (kb 4).trans z4, (kb 5).trans z5⟩)
      have HFZ : Hid (∀ o, wo.frozen? ⟨w.heap.size, o, none⟩ = false) := Lib.hid (fun o => (hR.but.frozen (p := ⟨w.heap.size, o, none⟩) (by show w.heap.size < W2.heap.size; omega) (by show w.heap.size ≠ VB; omega)).trans (HF2.out o))
      have hVl : VB < wo.heap.size := by have := hR.lt; omega
      have hwl : w.heap.size < wo.heap.size := by omega
      clear hR e0 e1 e2 e3 e4 e5 kb z0 z1 z2 z3 z4 z5
      go_wp2_with fail
      go_at_call 31
      refine (HPI.out _).mono ?_
      rintro e w6 ⟨rfl, hg6⟩
      rw [HIN.out]
      have HG6 := Lib.hid (HGR.out.trans hg6)
      obtain ⟨c0, c1, c2, c3, c4, c5⟩ := HSX.out.keep hg6 hVl
      obtain ⟨p0, p1, p2, p3, p4, p5⟩ := HSZ.out.keep hg6 hwl
      have pf : ∀ o, w6.frozen? ⟨w.heap.size, o, none⟩ = false := fun o => (Below.frozen (p := ⟨w.heap.size, o, none⟩) hg6 hwl).trans (HFZ.out o)
      have hwl6 := Nat.lt_of_lt_of_le hwl hg6.le
      clear hg6 a0 a1 a2 a3 a4 a5
      go_wp2_with fail
      refine bodyPost_six (by intro j hj; rcases (show j = 0 ∨ j = 1 ∨ j = 2 ∨ j = 3 ∨ j = 4 ∨ j = 5 by omega) with rfl | rfl | rfl | rfl | rfl | rfl <;> simp [p0, p1, p2, p3, p4, p5]) ?_
      intro W' hW' s0 s1 s2 s3 s4 s5
      have hq : Gr w W' := hW' _ HG6.out (Nat.le_refl _)
      clear hW' p0 p1 p2 p3 p4 p5 c0 c1 c2 c3 c4 c5 pf
      exact bodyPost_ret (v := .tuple #[.agg #[.int .i64 r0, .int .i64 r1, .int .i64 r2, .int .i64 r3, .int .i64 r4, .int .i64 r5], .int .i64 0]) (by simp [results, Tryd.results25, go_sem, s0, s1, s2, s3, s4, s5]) rfl ⟨rfl, hq⟩
end Go.Proofs.YtelhmdhhabgihaaDoor
