/-
  schismalaw25.last: the shift of the last section of repeated takes.
-/
import Derived.Test.YtelhmdhhabgihaaDoorDLR
import Derived.Test.YtelhmdhhabgihaaDoorSg
namespace Go.Proofs.YtelhmdhhabgihaaDoor
open Go.RowKit

set_option maxRecDepth 100000 in
set_option maxHeartbeats 16000000 in
theorem last_no (A B : Option Addr) (n ca m d : Nat) (k : Int) (w : World) (L : Nat) (E : Int) (g : Nat → Nat → Int) (N2 : Nat) (E2 : Int) (s2 : Nat → Nat → Int)
    (hT : ∀ W, Gr w W → Calls Tryd.prog 19 #[.slice A n ca, .slice B m d, .int .i64 k] W (TimR L E g W))
    (hK : ∀ W, Gr w W → ∀ D e, RowsAt W 4 D L g → Calls Tryd.prog 11 #[.slice A n ca, .slice D L e] W (WalkR N2 E2 s2 W)) (hb : (E != 0) = true ∨ (E = 0 ∧ (E2 != 0) = true)) :
    Calls Tryd.prog 23 #[.slice A n ca, .slice B m d, .int .i64 k] w fun e w' => e = .returned (.tuple #[.agg #[.int .i64 0, .int .i64 0, .int .i64 0, .int .i64 0, .int .i64 0, .int .i64 0], .bool false]) ∧ Gr w w' := by
  have HT := Lib.hid hT; have HK := Lib.hid hK
  clear hT hK
  rcases hb with hb | ⟨rfl, hb⟩
  · skip
    go_enter Tryd.func23, Tryd.ntmps23
    have v0' : ∀ W, W = w.alloc (.cells #[.int .i64 0, .int .i64 0, .int .i64 0, .int .i64 0, .int .i64 0, .int .i64 0] 32) → SixV W w.heap.size (.int .i64 0) (.int .i64 0) (.int .i64 0) (.int .i64 0) (.int .i64 0) (.int .i64 0) ∧ w.heap.size < W.heap.size ∧ Gr w W ∧ ∀ o, W.frozen? ⟨w.heap.size, o, none⟩ = false := by
      rintro W rfl
      exact ⟨⟨by simp [go_sem], by simp [go_sem], by simp [go_sem], by simp [go_sem], by simp [go_sem], by simp [go_sem]⟩, by simp, (Gr.refl _).alloc _, fun o => by simp [go_sem]⟩
    have V0 := Lib.hid v0'
    clear v0'
    go_wp2_with fail
    generalize hW0 : w.alloc (.cells #[.int .i64 0, .int .i64 0, .int .i64 0, .int .i64 0, .int .i64 0, .int .i64 0] 32) = W0
    have HV0 := Lib.hid (V0.out W0 hW0.symm)
    have hFB := HV0.out.2.1
    clear V0 hW0
    go_at_call 19
    refine (HT.out _ HV0.out.2.2.1).mono ?_
    rintro e w1 ⟨A1, c1, rfl, hr1, hc1, hg1⟩
    have HG1 := Lib.hid (HV0.out.2.2.1.trans hg1); have HR1 := Lib.hid hr1; have HS1 := Lib.hid (HV0.out.1.keep hg1 hFB)
    have hF1 := Nat.lt_of_lt_of_le hFB hg1.le
    have HFZ := Lib.hid (fun o => (Below.frozen (p := ⟨w.heap.size, o, none⟩) hg1 hFB).trans (HV0.out.2.2.2 o))
    clear hg1 hr1
    go_wp2_with fail
    go_at_call 11
    refine (HK.out _ HG1.out A1 c1 HR1.out).mono ?_
    rintro e w2 ⟨A2, c2, rfl, hr2, hg2⟩
    have hgz : Gr w w2 := HG1.out.trans hg2
    have HR2 := Lib.hid hr2
    obtain ⟨m0, m1, m2, m3, m4, m5⟩ := HS1.out.keep hg2 hF1
    have hF2 := Nat.lt_of_lt_of_le hF1 hg2.le
    have hfz : ∀ o, w2.frozen? ⟨w.heap.size, o, none⟩ = false := fun o => (Below.frozen (p := ⟨w.heap.size, o, none⟩) hg2 hF1).trans (HFZ.out o)
    clear hg2 hr2
    go_wp2_with fail
    refine bodyPost_six (by intro j hj; rcases (show j = 0 ∨ j = 1 ∨ j = 2 ∨ j = 3 ∨ j = 4 ∨ j = 5 by omega) with rfl | rfl | rfl | rfl | rfl | rfl <;> simp [m0, m1, m2, m3, m4, m5]) ?_
    intro W' hW' s0 s1 s2' s3 s4 s5
    have hq : Gr w W' := hW' _ hgz (Nat.le_refl _)
    clear hW' hgz m0 m1 m2 m3 m4 m5 hfz HV0 HG1 HR1 HS1 HR2 HFZ HT HK
    exact bodyPost_ret (v := .tuple #[.agg #[.int .i64 0, .int .i64 0, .int .i64 0, .int .i64 0, .int .i64 0, .int .i64 0], .bool false]) (by simp [results, Tryd.results23, go_sem, s0, s1, s2', s3, s4, s5]) rfl ⟨rfl, hq⟩
  · skip
    go_enter Tryd.func23, Tryd.ntmps23
    have v0' : ∀ W, W = w.alloc (.cells #[.int .i64 0, .int .i64 0, .int .i64 0, .int .i64 0, .int .i64 0, .int .i64 0] 32) → SixV W w.heap.size (.int .i64 0) (.int .i64 0) (.int .i64 0) (.int .i64 0) (.int .i64 0) (.int .i64 0) ∧ w.heap.size < W.heap.size ∧ Gr w W ∧ ∀ o, W.frozen? ⟨w.heap.size, o, none⟩ = false := by
      rintro W rfl
      exact ⟨⟨by simp [go_sem], by simp [go_sem], by simp [go_sem], by simp [go_sem], by simp [go_sem], by simp [go_sem]⟩, by simp, (Gr.refl _).alloc _, fun o => by simp [go_sem]⟩
    have V0 := Lib.hid v0'
    clear v0'
    go_wp2_with fail
    generalize hW0 : w.alloc (.cells #[.int .i64 0, .int .i64 0, .int .i64 0, .int .i64 0, .int .i64 0, .int .i64 0] 32) = W0
    have HV0 := Lib.hid (V0.out W0 hW0.symm)
    have hFB := HV0.out.2.1
    clear V0 hW0
    go_at_call 19
    refine (HT.out _ HV0.out.2.2.1).mono ?_
    rintro e w1 ⟨A1, c1, rfl, hr1, hc1, hg1⟩
    have HG1 := Lib.hid (HV0.out.2.2.1.trans hg1); have HR1 := Lib.hid hr1; have HS1 := Lib.hid (HV0.out.1.keep hg1 hFB)
    have hF1 := Nat.lt_of_lt_of_le hFB hg1.le
    have HFZ := Lib.hid (fun o => (Below.frozen (p := ⟨w.heap.size, o, none⟩) hg1 hFB).trans (HV0.out.2.2.2 o))
    clear hg1 hr1
    go_wp2_with fail
    go_at_call 11
    refine (HK.out _ HG1.out A1 c1 HR1.out).mono ?_
    rintro e w2 ⟨A2, c2, rfl, hr2, hg2⟩
    have hgz : Gr w w2 := HG1.out.trans hg2
    have HR2 := Lib.hid hr2
    obtain ⟨m0, m1, m2, m3, m4, m5⟩ := HS1.out.keep hg2 hF1
    have hF2 := Nat.lt_of_lt_of_le hF1 hg2.le
    have hfz : ∀ o, w2.frozen? ⟨w.heap.size, o, none⟩ = false := fun o => (Below.frozen (p := ⟨w.heap.size, o, none⟩) hg2 hF1).trans (HFZ.out o)
    clear hg2 hr2
    go_wp2_with fail
    refine bodyPost_six (by intro j hj; rcases (show j = 0 ∨ j = 1 ∨ j = 2 ∨ j = 3 ∨ j = 4 ∨ j = 5 by omega) with rfl | rfl | rfl | rfl | rfl | rfl <;> simp [m0, m1, m2, m3, m4, m5]) ?_
    intro W' hW' s0 s1 s2' s3 s4 s5
    have hq : Gr w W' := hW' _ hgz (Nat.le_refl _)
    clear hW' hgz m0 m1 m2 m3 m4 m5 hfz HV0 HG1 HR1 HS1 HR2 HFZ HT HK
    exact bodyPost_ret (v := .tuple #[.agg #[.int .i64 0, .int .i64 0, .int .i64 0, .int .i64 0, .int .i64 0, .int .i64 0], .bool false]) (by simp [results, Tryd.results23, go_sem, s0, s1, s2', s3, s4, s5]) rfl ⟨rfl, hq⟩
set_option maxRecDepth 100000 in
set_option maxHeartbeats 16000000 in
theorem last_yes (A B : Option Addr) (n ca m d : Nat) (k : Int) (w : World) (L : Nat) (E : Int) (g : Nat → Nat → Int) (N2 : Nat) (E2 : Int) (s2 : Nat → Nat → Int)
    (hT : ∀ W, Gr w W → Calls Tryd.prog 19 #[.slice A n ca, .slice B m d, .int .i64 k] W (TimR L E g W))
    (hK : ∀ W, Gr w W → ∀ D e, RowsAt W 4 D L g → Calls Tryd.prog 11 #[.slice A n ca, .slice D L e] W (WalkR N2 E2 s2 W)) (hE : E = 0) (hE2 : E2 = 0) (hN : N2 = L + 1) (hL : L ≤ 15) (r0 r1 r2 r3 r4 r5 : Int) (hr : s2 L 0 = r0 ∧ s2 L 1 = r1 ∧ s2 L 2 = r2 ∧ s2 L 3 = r3 ∧ s2 L 4 = r4 ∧ s2 L 5 = r5) (hin : allIn ⟨r0, r1, r2, r3, r4, r5⟩ 48 6 = true) :
    Calls Tryd.prog 23 #[.slice A n ca, .slice B m d, .int .i64 k] w fun e w' => e = .returned (.tuple #[.agg #[.int .i64 (r0 * 12), .int .i64 (r1 * 12), .int .i64 (r2 * 12), .int .i64 (r3 * 12), .int .i64 (r4 * 12), .int .i64 (r5 * 12)], .bool true]) ∧ Gr w w' := by
  have HT := Lib.hid hT; have HK := Lib.hid hK; have HRR := Lib.hid hr
  have HOF := Lib.hid (fun W => pof_ok r0 r1 r2 r3 r4 r5 W hin)
  subst hE; subst hE2
  have hNb : ((N2 : Int) == 0) = false := by simp; omega
  have hNb' : (N2 == 0) = false := by simp; omega
  have z2 : IntKind.i64.wrap ((N2 : Int) - 1) = (L : Int) := (IntWalk.i64_in _ ⟨by omega, by omega⟩).trans (by omega)
  have z3 : (0 : Int) ≤ (L : Int) := by omega
  have z4 : (L : Int) < (N2 : Int) := by omega
  have z5 : L < N2 := by omega
  clear hT hK hr hin
  go_enter Tryd.func23, Tryd.ntmps23
  have v0' : ∀ W, W = w.alloc (.cells #[.int .i64 0, .int .i64 0, .int .i64 0, .int .i64 0, .int .i64 0, .int .i64 0] 32) → SixV W w.heap.size (.int .i64 0) (.int .i64 0) (.int .i64 0) (.int .i64 0) (.int .i64 0) (.int .i64 0) ∧ w.heap.size < W.heap.size ∧ Gr w W ∧ ∀ o, W.frozen? ⟨w.heap.size, o, none⟩ = false := by
    rintro W rfl
    exact ⟨⟨by simp [go_sem], by simp [go_sem], by simp [go_sem], by simp [go_sem], by simp [go_sem], by simp [go_sem]⟩, by simp, (Gr.refl _).alloc _, fun o => by simp [go_sem]⟩
  have V0 := Lib.hid v0'
  clear v0'
  go_wp2_with fail
  generalize hW0 : w.alloc (.cells #[.int .i64 0, .int .i64 0, .int .i64 0, .int .i64 0, .int .i64 0, .int .i64 0] 32) = W0
  have HV0 := Lib.hid (V0.out W0 hW0.symm)
  have hFB := HV0.out.2.1
  clear V0 hW0
  go_at_call 19
  refine (HT.out _ HV0.out.2.2.1).mono ?_
  rintro e w1 ⟨A1, c1, rfl, hr1, hc1, hg1⟩
  have HG1 := Lib.hid (HV0.out.2.2.1.trans hg1); have HR1 := Lib.hid hr1; have HS1 := Lib.hid (HV0.out.1.keep hg1 hFB)
  have hF1 := Nat.lt_of_lt_of_le hFB hg1.le
  have HFZ := Lib.hid (fun o => (Below.frozen (p := ⟨w.heap.size, o, none⟩) hg1 hFB).trans (HV0.out.2.2.2 o))
  clear hg1 hr1
  go_wp2_with fail
  go_at_call 11
  refine (HK.out _ HG1.out A1 c1 HR1.out).mono ?_
  rintro e w2 ⟨A2, c2, rfl, hr2, hg2⟩
  have hgz : Gr w w2 := HG1.out.trans hg2
  have HR2 := Lib.hid hr2
  obtain ⟨m0, m1, m2, m3, m4, m5⟩ := HS1.out.keep hg2 hF1
  have hF2 := Nat.lt_of_lt_of_le hF1 hg2.le
  have hfz : ∀ o, w2.frozen? ⟨w.heap.size, o, none⟩ = false := fun o => (Below.frozen (p := ⟨w.heap.size, o, none⟩) hg2 hF1).trans (HFZ.out o)
  clear hg2 hr2
  obtain ⟨b, off, rfl, hbl, q0, q1, q2, q3, q4, q5⟩ := HR2.out.six z5
  obtain ⟨e0, e1, e2, e3, e4, e5⟩ := HRR.out
  rw [e0] at q0; rw [e1] at q1; rw [e2] at q2; rw [e3] at q3; rw [e4] at q4; rw [e5] at q5
  clear e0 e1 e2 e3 e4 e5 hN
  go_wp2_with fail
  go_at_call 33
  refine (HOF.out _).mono ?_
  rintro e w3 ⟨rfl, hg3⟩
  have HGY := Lib.hid (hgz.trans hg3)
  have HSY := Lib.hid (SixV.keep ⟨m0, m1, m2, m3, m4, m5⟩ hg3 hF2)
  have HFY : Hid (∀ o, w3.frozen? ⟨w.heap.size, o, none⟩ = false) := Lib.hid (fun o => (Below.frozen (p := ⟨w.heap.size, o, none⟩) hg3 hF2).trans (hfz o))
  have hF3 := Nat.lt_of_lt_of_le hF2 hg3.le
  clear hg3 m0 m1 m2 m3 m4 m5 q0 q1 q2 q3 q4 q5 hgz hfz
  have v1' : ∀ W, W = w3.alloc (.cells #[.int .i64 (r0 * 12), .int .i64 (r1 * 12), .int .i64 (r2 * 12), .int .i64 (r3 * 12), .int .i64 (r4 * 12), .int .i64 (r5 * 12)] 32) → SixV W w3.heap.size (.int .i64 (r0 * 12)) (.int .i64 (r1 * 12)) (.int .i64 (r2 * 12)) (.int .i64 (r3 * 12)) (.int .i64 (r4 * 12)) (.int .i64 (r5 * 12)) ∧ w3.heap.size < W.heap.size ∧ Gr w3 W := by
    rintro W rfl
    exact ⟨⟨by simp [go_sem], by simp [go_sem], by simp [go_sem], by simp [go_sem], by simp [go_sem], by simp [go_sem]⟩, by simp, (Gr.refl _).alloc _⟩
  have V1 := Lib.hid v1'
  clear v1'
  go_upto_region 6 with fail
  generalize hW4 : w3.alloc (.cells #[.int .i64 (r0 * 12), .int .i64 (r1 * 12), .int .i64 (r2 * 12), .int .i64 (r3 * 12), .int .i64 (r4 * 12), .int .i64 (r5 * 12)] 32) = w4
  have HV4 := Lib.hid (V1.out w4 hW4.symm)
  clear V1 hW4
  have HF3X : w.heap.size < w3.heap.size := hF3
  generalize w3.heap.size = FC at HV4 ⊢
  obtain ⟨c0, c1', c2', c3, c4, c5⟩ := HV4.out.1
  obtain ⟨p0, p1, p2, p3, p4, p5⟩ := HSY.out.keep HV4.out.2.2 HF3X
  have hfy : ∀ o, w4.frozen? ⟨w.heap.size, o, none⟩ = false := fun o => (Below.frozen (p := ⟨w.heap.size, o, none⟩) HV4.out.2.2 HF3X).trans (HFY.out o)
  have hgy : Gr w w4 := HGY.out.trans HV4.out.2.2
  go_wp2_with fail
  refine bodyPost_six (by intro j hj; rcases (show j = 0 ∨ j = 1 ∨ j = 2 ∨ j = 3 ∨ j = 4 ∨ j = 5 by omega) with rfl | rfl | rfl | rfl | rfl | rfl <;> simp [p0, p1, p2, p3, p4, p5]) ?_
  intro W' hW' s0 s1 s2' s3 s4 s5
  have hq : Gr w W' := hW' _ hgy (Nat.le_refl _)
  clear hW' hgy p0 p1 p2 p3 p4 p5 c0 c1' c2' c3 c4 c5 hfy HV0 HG1 HR1 HS1 HR2 HFZ HT HK HOF HRR
  exact bodyPost_ret (v := .tuple #[.agg #[.int .i64 (r0 * 12), .int .i64 (r1 * 12), .int .i64 (r2 * 12), .int .i64 (r3 * 12), .int .i64 (r4 * 12), .int .i64 (r5 * 12)], .bool true]) (by simp [results, Tryd.results23, go_sem, s0, s1, s2', s3, s4, s5]) rfl ⟨rfl, hq⟩
/-- What last returns. -/
def LastR (f t : Nat → Nat → Int) (m k : Nat) (w : World) (e : Ending) (w' : World) : Prop := ∃ (y0 y1 y2 y3 y4 y5 : Int) (ok : Bool), e = .returned (.tuple #[.agg #[.int .i64 y0, .int .i64 y1, .int .i64 y2, .int .i64 y3, .int .i64 y4, .int .i64 y5], .bool ok]) ∧
  (ok = true → allIn ⟨y0, y1, y2, y3, y4, y5⟩ 576 6 = true ∧ (⟨y0, y1, y2, y3, y4, y5⟩ : V6) = ⟨(k : Int) * (shP f t m 0 * 12), (k : Int) * (shP f t m 1 * 12), (k : Int) * (shP f t m 2 * 12), (k : Int) * (shP f t m 3 * 12), (k : Int) * (shP f t m 4 * 12), (k : Int) * (shP f t m 5 * 12)⟩) ∧ Gr w w'
theorem shP_times {f t : Nat → Nat → Int} {n m : Nat} (h : takesB n t m = true) (k : Nat) (c : Nat) : shP f (tmT t m) (k * m) c = (k : Int) * shP f t m c := by
  rw [shP_acc (takesB_times h k) (k * m) (Nat.le_refl _), shP_acc h m (Nat.le_refl _)]
  unfold rowSum
  rw [← sumN_mul]
  exact sumN_congr n fun j _ => by rw [accP_times0, Int.mul_assoc]
theorem last_any (A B : Option Addr) (n ca m d : Nat) (nm : Nat → ByteArray) (f t : Nat → Nat → Int) (k : Nat) (w : World) (hA : NamedAt w A n nm f) (hB : RowsAt w 4 B m t) (hok : walkOk nm f n t m = true) (hk : k ≤ 15) :
    Calls Tryd.prog 23 #[.slice A n ca, .slice B m d, .int .i64 (k : Int)] w (LastR f t m k w) := by
  have hT := fun W (g : Gr w W) => times_any A B n ca m d nm f t W (hA.keep g) (hB.keep g) (k : Int)
  have hK := fun W (g : Gr w W) D e (hD : RowsAt W 4 D (timN nm f n t m (k : Int)) (tmT t m)) => walk_any A D n ca (timN nm f n t m (k : Int)) e nm f (tmT t m) W (hA.keep g) hD
  have no : ((timE nm f n t m (k : Int) != 0) = true ∨ (timE nm f n t m (k : Int) = 0 ∧ (walkE nm f n (tmT t m) (timN nm f n t m (k : Int)) != 0) = true)) → Calls Tryd.prog 23 #[.slice A n ca, .slice B m d, .int .i64 (k : Int)] w (LastR f t m k w) := fun hb =>
    (last_no A B n ca m d (k : Int) w _ _ _ _ _ _ hT hK hb).mono (by rintro e w' ⟨q1, q2⟩; exact ⟨0, 0, 0, 0, 0, 0, false, q1, fun h => (by cases h), q2⟩)
  by_cases h1 : timE nm f n t m (k : Int) = 0
  · by_cases h2 : walkE nm f n (tmT t m) (timN nm f n t m (k : Int)) = 0
    · have hN : timN nm f n t m (k : Int) = k * m := by
        rw [timN_ok hok hk]
        rw [timE_ok hok hk] at h1
        split at h1
        · rename_i c; rw [if_pos c]
        · omega
      have hkm : k * m ≤ 15 := by
        rw [timE_ok hok hk] at h1
        split at h1
        · assumption
        · omega
      obtain ⟨-, -, k3⟩ := walkOk_parts hok
      have h3 := walkE_cases nm f n (tmT t m) (timN nm f n t m (k : Int))
      rcases h3 with ⟨-, e2, -, e4⟩ | ⟨e1, -⟩
      · have hin := rangeB_at e4 (Nat.le_refl _)
        have hs : ∀ c, shP f (tmT t m) (timN nm f n t m (k : Int)) c = (k : Int) * shP f t m c := fun c => by rw [hN]; exact shP_times k3 k c
        refine (last_yes A B n ca m d (k : Int) w _ _ _ _ _ _ hT hK h1 h2 e2 (by omega) _ _ _ _ _ _ ⟨rfl, rfl, rfl, rfl, rfl, rfl⟩ hin).mono ?_
        rintro e w' ⟨q1, q2⟩
        refine ⟨_, _, _, _, _, _, true, q1, fun _ => ⟨(mul12_in hin).1, ?_⟩, q2⟩
        simp only [hs, Int.mul_assoc]
      · omega
    · exact no (.inr ⟨h1, by simpa using h2⟩)
  · exact no (.inl (by simpa using h1))
end Go.Proofs.YtelhmdhhabgihaaDoor
