/-
  schismalaw14.way: whether a list of indices is a way, the walk.
-/
import Derived.Test.YtiogfohjepobkaaDoorVWayP
namespace Go.Proofs.YtiogfohjepobkaaDoor
open Go.RowKit

set_option maxRecDepth 100000 in
set_option maxHeartbeats 16000000 in
theorem way_any (l0 l1 l2 l3 l4 l5 h0 h1 h2 h3 h4 h5 st br : Int) (A U : Option Addr) (n c m d : Nat) (fr tz : Int) (f : Nat → Nat → Int) (u : Nat → Int) (w : World) (hP : Primes w) (hL : Logs w) (hA : RowsAt w 6 A n f) (hU : IntsAt w U m u) (_hn : n ≤ 9223372036854775807) (hm : m ≤ 4611686018427387904) :
    Calls Tryd.prog 30 #[.agg #[.int .i64 l0, .int .i64 l1, .int .i64 l2, .int .i64 l3, .int .i64 l4, .int .i64 l5, .int .i64 h0, .int .i64 h1, .int .i64 h2, .int .i64 h3, .int .i64 h4, .int .i64 h5, .int .i64 st, .int .i64 br], .slice A n c, .int .i64 fr, .int .i64 tz, .slice U m d] w fun e w' => e = .returned (.bool (wayB (voiceOk ⟨l0, l1, l2, l3, l4, l5⟩ ⟨h0, h1, h2, h3, h4, h5⟩ st br) ⟨l0, l1, l2, l3, l4, l5⟩ ⟨h0, h1, h2, h3, h4, h5⟩ st n f fr tz u m)) ∧ Gr w w' := by
  have HP := Lib.hid hP; have HL := Lib.hid hL; have HA := Lib.hid hA; have HU := Lib.hid hU
  clear hP hL hA hU
  generalize hR : wayB (voiceOk ⟨l0, l1, l2, l3, l4, l5⟩ ⟨h0, h1, h2, h3, h4, h5⟩ st br) ⟨l0, l1, l2, l3, l4, l5⟩ ⟨h0, h1, h2, h3, h4, h5⟩ st n f fr tz u m = R
  have HR := Lib.hid hR
  clear hR
  cases m with
  | zero =>
    go_enter Tryd.func30, Tryd.ntmps30
    go_wp2_with fail
    go_ret
    exact ⟨ret_bool (by rw [← HR.out]; simp [wayB]), (by repeat (first | with_reducible exact Gr.refl _ | with_reducible refine Gr.alloc ?_ _ | with_reducible refine Gr.drew ?_ | with_reducible refine Gr.trans ?_ (by assumption) | with_reducible refine Gr.setCell ?_ (by (try simp); (try omega)) _))⟩
  | succ m =>
    obtain ⟨bu, ou, rfl, hbu, cu0⟩ := HU.out.one (show 0 < m + 1 by omega)
    have cum := HU.out.oneAt (show m < m + 1 by omega)
    rw [Nat.add_zero] at cu0
    have hwr : IntKind.i64.wrap (((m + 1 : Nat) : Int) - 1) = (m : Int) := (IntWalk.i64_in _ ⟨by omega, by omega⟩).trans (by omega)
    have hwr2 : IntKind.i64.wrap ((m : Int) + 1 - 1) = (m : Int) := (IntWalk.i64_in _ ⟨by omega, by omega⟩).trans (by omega)
    by_cases z0 : u 0 = fr
    · have z0b : (u 0 == fr) = true := by simp [z0]
      have z0c : (u 0 != fr) = false := by simp [z0]
      by_cases z1 : u m = tz
      · have z1b : (u m == tz) = true := by simp [z1]
        have z1c : (u m != tz) = false := by simp [z1]
        have HE : Hid (wayB (voiceOk ⟨l0, l1, l2, l3, l4, l5⟩ ⟨h0, h1, h2, h3, h4, h5⟩ st br) ⟨l0, l1, l2, l3, l4, l5⟩ ⟨h0, h1, h2, h3, h4, h5⟩ st n f fr tz u (m + 1) = wAll (voiceOk ⟨l0, l1, l2, l3, l4, l5⟩ ⟨h0, h1, h2, h3, h4, h5⟩ st br) ⟨l0, l1, l2, l3, l4, l5⟩ ⟨h0, h1, h2, h3, h4, h5⟩ st n f u (m + 1)) := Lib.hid (by unfold wayB; rw [show m + 1 - 1 = m from rfl, decide_eq_true (show 0 < m + 1 ∧ u 0 = fr ∧ u m = tz from ⟨by omega, z0, z1⟩), Bool.true_and])
        clear z0 z1
        go_enter Tryd.func30, Tryd.ntmps30
        go_wp2_with fail
        have hgb : Gr w (w.alloc (.cells #[.int .i64 l0, .int .i64 l1, .int .i64 l2, .int .i64 l3, .int .i64 l4, .int .i64 l5, .int .i64 h0, .int .i64 h1, .int .i64 h2, .int .i64 h3, .int .i64 h4, .int .i64 h5, .int .i64 st, .int .i64 br] 25)) := (Gr.refl _).alloc _
        have hxb : (w.alloc (.cells #[.int .i64 l0, .int .i64 l1, .int .i64 l2, .int .i64 l3, .int .i64 l4, .int .i64 l5, .int .i64 h0, .int .i64 h1, .int .i64 h2, .int .i64 h3, .int .i64 h4, .int .i64 h5, .int .i64 st, .int .i64 br] 25)).cell? ⟨w.heap.size, 0, none⟩ = some (.int .i64 l0) ∧ (w.alloc (.cells #[.int .i64 l0, .int .i64 l1, .int .i64 l2, .int .i64 l3, .int .i64 l4, .int .i64 l5, .int .i64 h0, .int .i64 h1, .int .i64 h2, .int .i64 h3, .int .i64 h4, .int .i64 h5, .int .i64 st, .int .i64 br] 25)).cell? ⟨w.heap.size, 1, none⟩ = some (.int .i64 l1) ∧ (w.alloc (.cells #[.int .i64 l0, .int .i64 l1, .int .i64 l2, .int .i64 l3, .int .i64 l4, .int .i64 l5, .int .i64 h0, .int .i64 h1, .int .i64 h2, .int .i64 h3, .int .i64 h4, .int .i64 h5, .int .i64 st, .int .i64 br] 25)).cell? ⟨w.heap.size, 2, none⟩ = some (.int .i64 l2) ∧ (w.alloc (.cells #[.int .i64 l0, .int .i64 l1, .int .i64 l2, .int .i64 l3, .int .i64 l4, .int .i64 l5, .int .i64 h0, .int .i64 h1, .int .i64 h2, .int .i64 h3, .int .i64 h4, .int .i64 h5, .int .i64 st, .int .i64 br] 25)).cell? ⟨w.heap.size, 3, none⟩ = some (.int .i64 l3) ∧ (w.alloc (.cells #[.int .i64 l0, .int .i64 l1, .int .i64 l2, .int .i64 l3, .int .i64 l4, .int .i64 l5, .int .i64 h0, .int .i64 h1, .int .i64 h2, .int .i64 h3, .int .i64 h4, .int .i64 h5, .int .i64 st, .int .i64 br] 25)).cell? ⟨w.heap.size, 4, none⟩ = some (.int .i64 l4) ∧ (w.alloc (.cells #[.int .i64 l0, .int .i64 l1, .int .i64 l2, .int .i64 l3, .int .i64 l4, .int .i64 l5, .int .i64 h0, .int .i64 h1, .int .i64 h2, .int .i64 h3, .int .i64 h4, .int .i64 h5, .int .i64 st, .int .i64 br] 25)).cell? ⟨w.heap.size, 5, none⟩ = some (.int .i64 l5) ∧ (w.alloc (.cells #[.int .i64 l0, .int .i64 l1, .int .i64 l2, .int .i64 l3, .int .i64 l4, .int .i64 l5, .int .i64 h0, .int .i64 h1, .int .i64 h2, .int .i64 h3, .int .i64 h4, .int .i64 h5, .int .i64 st, .int .i64 br] 25)).cell? ⟨w.heap.size, 6, none⟩ = some (.int .i64 h0) ∧ (w.alloc (.cells #[.int .i64 l0, .int .i64 l1, .int .i64 l2, .int .i64 l3, .int .i64 l4, .int .i64 l5, .int .i64 h0, .int .i64 h1, .int .i64 h2, .int .i64 h3, .int .i64 h4, .int .i64 h5, .int .i64 st, .int .i64 br] 25)).cell? ⟨w.heap.size, 7, none⟩ = some (.int .i64 h1) ∧ (w.alloc (.cells #[.int .i64 l0, .int .i64 l1, .int .i64 l2, .int .i64 l3, .int .i64 l4, .int .i64 l5, .int .i64 h0, .int .i64 h1, .int .i64 h2, .int .i64 h3, .int .i64 h4, .int .i64 h5, .int .i64 st, .int .i64 br] 25)).cell? ⟨w.heap.size, 8, none⟩ = some (.int .i64 h2) ∧ (w.alloc (.cells #[.int .i64 l0, .int .i64 l1, .int .i64 l2, .int .i64 l3, .int .i64 l4, .int .i64 l5, .int .i64 h0, .int .i64 h1, .int .i64 h2, .int .i64 h3, .int .i64 h4, .int .i64 h5, .int .i64 st, .int .i64 br] 25)).cell? ⟨w.heap.size, 9, none⟩ = some (.int .i64 h3) ∧ (w.alloc (.cells #[.int .i64 l0, .int .i64 l1, .int .i64 l2, .int .i64 l3, .int .i64 l4, .int .i64 l5, .int .i64 h0, .int .i64 h1, .int .i64 h2, .int .i64 h3, .int .i64 h4, .int .i64 h5, .int .i64 st, .int .i64 br] 25)).cell? ⟨w.heap.size, 10, none⟩ = some (.int .i64 h4) ∧ (w.alloc (.cells #[.int .i64 l0, .int .i64 l1, .int .i64 l2, .int .i64 l3, .int .i64 l4, .int .i64 l5, .int .i64 h0, .int .i64 h1, .int .i64 h2, .int .i64 h3, .int .i64 h4, .int .i64 h5, .int .i64 st, .int .i64 br] 25)).cell? ⟨w.heap.size, 11, none⟩ = some (.int .i64 h5) ∧ (w.alloc (.cells #[.int .i64 l0, .int .i64 l1, .int .i64 l2, .int .i64 l3, .int .i64 l4, .int .i64 l5, .int .i64 h0, .int .i64 h1, .int .i64 h2, .int .i64 h3, .int .i64 h4, .int .i64 h5, .int .i64 st, .int .i64 br] 25)).cell? ⟨w.heap.size, 12, none⟩ = some (.int .i64 st) ∧ (w.alloc (.cells #[.int .i64 l0, .int .i64 l1, .int .i64 l2, .int .i64 l3, .int .i64 l4, .int .i64 l5, .int .i64 h0, .int .i64 h1, .int .i64 h2, .int .i64 h3, .int .i64 h4, .int .i64 h5, .int .i64 st, .int .i64 br] 25)).cell? ⟨w.heap.size, 13, none⟩ = some (.int .i64 br) := ⟨by simp [go_sem], by simp [go_sem], by simp [go_sem], by simp [go_sem], by simp [go_sem], by simp [go_sem], by simp [go_sem], by simp [go_sem], by simp [go_sem], by simp [go_sem], by simp [go_sem], by simp [go_sem], by simp [go_sem], by simp [go_sem]⟩
        have hzb : w.heap.size < (w.alloc (.cells #[.int .i64 l0, .int .i64 l1, .int .i64 l2, .int .i64 l3, .int .i64 l4, .int .i64 l5, .int .i64 h0, .int .i64 h1, .int .i64 h2, .int .i64 h3, .int .i64 h4, .int .i64 h5, .int .i64 st, .int .i64 br] 25)).heap.size := by simp
        generalize w.alloc (.cells #[.int .i64 l0, .int .i64 l1, .int .i64 l2, .int .i64 l3, .int .i64 l4, .int .i64 l5, .int .i64 h0, .int .i64 h1, .int .i64 h2, .int .i64 h3, .int .i64 h4, .int .i64 h5, .int .i64 st, .int .i64 br] 25) = wb at *
        have HGB := Lib.hid hgb; have HXB := Lib.hid hxb
        clear hgb hxb cu0 cum z0b z0c z1b z1c hwr hwr2
        go_loopw [11] (fun iv wr => ∃ i : Nat, i ≤ m + 1 ∧ iv = .int .i64 (i : Int) ∧ wAll (voiceOk ⟨l0, l1, l2, l3, l4, l5⟩ ⟨h0, h1, h2, h3, h4, h5⟩ st br) ⟨l0, l1, l2, l3, l4, l5⟩ ⟨h0, h1, h2, h3, h4, h5⟩ st n f u i = true ∧ Gr wb wr) (fun iv _ => m + 1 - (intOf iv).toNat)
        case atStart => exact ⟨0, Nat.zero_le _, rfl, rfl, Gr.refl _⟩
        case round =>
          obtain ⟨i, hi, rfl, hal, hg⟩ := hrel
          have HAL := Lib.hid hal; have HGW := Lib.hid hg
          have hzr := hg.size
          have HGO := Lib.hid (HGB.out.trans hg)
          clear hal hg
          by_cases hlt : i < m + 1
          · have cu := (HU.out.keep HGO.out).oneAt hlt
            have hbu2 : bu < wr.heap.size := Nat.lt_of_lt_of_le hbu HGO.out.size
            have xb : wr.cell? ⟨w.heap.size, 0, none⟩ = some (.int .i64 l0) ∧ wr.cell? ⟨w.heap.size, 1, none⟩ = some (.int .i64 l1) ∧ wr.cell? ⟨w.heap.size, 2, none⟩ = some (.int .i64 l2) ∧ wr.cell? ⟨w.heap.size, 3, none⟩ = some (.int .i64 l3) ∧ wr.cell? ⟨w.heap.size, 4, none⟩ = some (.int .i64 l4) ∧ wr.cell? ⟨w.heap.size, 5, none⟩ = some (.int .i64 l5) ∧ wr.cell? ⟨w.heap.size, 6, none⟩ = some (.int .i64 h0) ∧ wr.cell? ⟨w.heap.size, 7, none⟩ = some (.int .i64 h1) ∧ wr.cell? ⟨w.heap.size, 8, none⟩ = some (.int .i64 h2) ∧ wr.cell? ⟨w.heap.size, 9, none⟩ = some (.int .i64 h3) ∧ wr.cell? ⟨w.heap.size, 10, none⟩ = some (.int .i64 h4) ∧ wr.cell? ⟨w.heap.size, 11, none⟩ = some (.int .i64 h5) ∧ wr.cell? ⟨w.heap.size, 12, none⟩ = some (.int .i64 st) ∧ wr.cell? ⟨w.heap.size, 13, none⟩ = some (.int .i64 br) := by
              obtain ⟨a0, a1, a2, a3, a4, a5, a6, a7, a8, a9, a10, a11, a12, a13⟩ := HXB.out
              exact ⟨(Below.cell (p := ⟨w.heap.size, 0, none⟩) HGW.out hzb).trans a0, (Below.cell (p := ⟨w.heap.size, 1, none⟩) HGW.out hzb).trans a1, (Below.cell (p := ⟨w.heap.size, 2, none⟩) HGW.out hzb).trans a2, (Below.cell (p := ⟨w.heap.size, 3, none⟩) HGW.out hzb).trans a3, (Below.cell (p := ⟨w.heap.size, 4, none⟩) HGW.out hzb).trans a4, (Below.cell (p := ⟨w.heap.size, 5, none⟩) HGW.out hzb).trans a5, (Below.cell (p := ⟨w.heap.size, 6, none⟩) HGW.out hzb).trans a6, (Below.cell (p := ⟨w.heap.size, 7, none⟩) HGW.out hzb).trans a7, (Below.cell (p := ⟨w.heap.size, 8, none⟩) HGW.out hzb).trans a8, (Below.cell (p := ⟨w.heap.size, 9, none⟩) HGW.out hzb).trans a9, (Below.cell (p := ⟨w.heap.size, 10, none⟩) HGW.out hzb).trans a10, (Below.cell (p := ⟨w.heap.size, 11, none⟩) HGW.out hzb).trans a11, (Below.cell (p := ⟨w.heap.size, 12, none⟩) HGW.out hzb).trans a12, (Below.cell (p := ⟨w.heap.size, 13, none⟩) HGW.out hzb).trans a13⟩
            obtain ⟨x0, x1, x2, x3, x4, x5, x6, x7, x8, x9, x10, x11, x12, x13⟩ := xb
            have hzw : w.heap.size < wr.heap.size := by omega
            obtain ⟨wp, rfl⟩ : ∃ wp : World, wp = wr := ⟨_, rfl⟩
            by_cases hin : 0 ≤ u i ∧ u i < (n : Int)
            · obtain ⟨k, hk⟩ : ∃ k : Nat, u i = (k : Int) := ⟨(u i).toNat, by omega⟩
              have hkn : k < n := by omega
              have HK := Lib.hid hk
              rw [hk] at cu
              clear hin hk
              obtain ⟨b, off, rfl, hbl, c0, c1, c2, c3, c4, c5⟩ := (HA.out.keep HGO.out).six hkn
              have HIN : Hid (wIn n (u i) = true) := Lib.hid (by rw [HK.out]; unfold wIn; exact decide_eq_true (by omega))
              have HT : Hid ((u i).toNat = k) := Lib.hid (by rw [HK.out]; rfl)
              have hH := fun W h => vhas_any l0 l1 l2 l3 l4 l5 h0 h1 h2 h3 h4 h5 st br (f k 0) (f k 1) (f k 2) (f k 3) (f k 4) (f k 5) W h
              rcases tf (voiceOk ⟨l0, l1, l2, l3, l4, l5⟩ ⟨h0, h1, h2, h3, h4, h5⟩ st br && allIn ⟨f k 0, f k 1, f k 2, f k 3, f k 4, f k 5⟩ 48 6) with q1 | q1
              · have q0 : (voiceOk ⟨l0, l1, l2, l3, l4, l5⟩ ⟨h0, h1, h2, h3, h4, h5⟩ st br) = true ∧ allIn ⟨f k 0, f k 1, f k 2, f k 3, f k 4, f k 5⟩ 48 6 = true := by simpa only [Bool.and_eq_true] using q1
                have HQ0 := Lib.hid q0
                rcases tf (hasB ⟨l0, l1, l2, l3, l4, l5⟩ ⟨h0, h1, h2, h3, h4, h5⟩ ⟨f k 0, f k 1, f k 2, f k 3, f k 4, f k 5⟩) with q2 | q2
                · simp only [q0.1, q0.2, q2, Bool.and_self, cond_true] at hH
                  have HH := Lib.hid hH
                  have HHS : Hid (wHas (voiceOk ⟨l0, l1, l2, l3, l4, l5⟩ ⟨h0, h1, h2, h3, h4, h5⟩ st br) ⟨l0, l1, l2, l3, l4, l5⟩ ⟨h0, h1, h2, h3, h4, h5⟩ f (u i).toNat = true) := Lib.hid (by rw [HT.out]; simp only [wHas, q0.1, q0.2, q2, Bool.and_self])
                  clear q0 q1 q2 hH
                  have hdec0 : (i = 0) ∨ ∃ j, i = j + 1 := by cases i with
                    | zero => exact Or.inl rfl
                    | succ j => exact Or.inr ⟨j, rfl⟩
                  rcases hdec0 with hz0 | ⟨j, hj⟩
                  · have HS : Hid (wStep (voiceOk ⟨l0, l1, l2, l3, l4, l5⟩ ⟨h0, h1, h2, h3, h4, h5⟩ st br) ⟨l0, l1, l2, l3, l4, l5⟩ ⟨h0, h1, h2, h3, h4, h5⟩ st n f u i = true) := Lib.hid (by have a := HIN.out; have b := HHS.out; subst hz0; simp only [wStep, a, b, Bool.and_self])
                    have hd0 : decide (0 < (i : Int)) = false := decide_eq_false (by omega)
                    have hd1 : decide (0 < i) = false := decide_eq_false (by omega)
                    clear hz0
                    go_upto_region 8 with fail
                    refine wp_region_held_drew (S := fun wx => (∀ b o, (⟨min (b + 1) wp.heap.size, 0, none⟩ : Addr) = ⟨b + 1, 0, none⟩ → wx.cell? ⟨b, o, none⟩ = wp.cell? ⟨b, o, none⟩) ∧ Gr wp wx) (by kernel_rfl) (held_drew wp) (fun hHeld => ?_)
                    refine take_at (i := 0) (oi := _) (d := some 57) (v := ?_) rfl rfl (by kernel_rfl) (by kernel_rfl) (by kernel_rfl) (fun _ _ _ h => h) (Or.inl ⟨by rfl, ?_⟩) hHeld ?_
                    rotate_left
                    next => (intro w hSw; (try dsimp only at hSw); go_simp; try with_reducible rfl)
                    try simp only [Act.put, List.setIfInBounds_toArray, List.set_cons_zero, List.set_cons_succ]
                    refine take_at (i := 1) (oi := _) (d := some 58) (v := ?_) rfl rfl (by kernel_rfl) (by kernel_rfl) (by kernel_rfl) (fun _ _ _ h => h) (Or.inl ⟨by rfl, ?_⟩) hHeld ?_
                    rotate_left
                    next => (intro w hSw; (try dsimp only at hSw); go_simp; try with_reducible rfl)
                    try simp only [Act.put, List.setIfInBounds_toArray, List.set_cons_zero, List.set_cons_succ]
                    refine take_at (i := 2) (oi := _) (d := some 59) (v := ?_) rfl rfl (by kernel_rfl) (by kernel_rfl) (by kernel_rfl) (fun _ _ _ h => h) (Or.inl ⟨by rfl, ?_⟩) hHeld ?_
                    rotate_left
                    next => (intro w hSw; (try dsimp only at hSw); go_simp; try with_reducible rfl)
                    try simp only [Act.put, List.setIfInBounds_toArray, List.set_cons_zero, List.set_cons_succ]
                    refine take_at (i := 3) (oi := _) (d := some 60) (v := ?_) rfl rfl (by kernel_rfl) (by kernel_rfl) (by kernel_rfl) (fun _ _ _ h => h) (Or.inl ⟨by rfl, ?_⟩) hHeld ?_
                    rotate_left
                    next => (intro w hSw; (try dsimp only at hSw); go_simp; try with_reducible rfl)
                    try simp only [Act.put, List.setIfInBounds_toArray, List.set_cons_zero, List.set_cons_succ]
                    refine take_at (i := 4) (oi := _) (d := some 61) (v := ?_) rfl rfl (by kernel_rfl) (by kernel_rfl) (by kernel_rfl) (fun _ _ _ h => h) (Or.inl ⟨by rfl, ?_⟩) hHeld ?_
                    rotate_left
                    next => (intro w hSw; (try dsimp only at hSw); go_simp; try with_reducible rfl)
                    try simp only [Act.put, List.setIfInBounds_toArray, List.set_cons_zero, List.set_cons_succ]
                    refine take_at (i := 5) (oi := _) (d := some 62) (v := ?_) rfl rfl (by kernel_rfl) (by kernel_rfl) (by kernel_rfl) (fun _ _ _ h => h) (Or.inl ⟨by rfl, ?_⟩) hHeld ?_
                    rotate_left
                    next => (intro w hSw; (try dsimp only at hSw); go_simp; try with_reducible rfl)
                    try simp only [Act.put, List.setIfInBounds_toArray, List.set_cons_zero, List.set_cons_succ]
                    refine take_at (i := 6) (oi := _) (d := some 63) (v := ?_) rfl rfl (by kernel_rfl) (by kernel_rfl) (by kernel_rfl) (fun _ _ _ h => h) (Or.inl ⟨by rfl, ?_⟩) hHeld ?_
                    rotate_left
                    next => (intro w hSw; (try dsimp only at hSw); go_simp; try with_reducible rfl)
                    try simp only [Act.put, List.setIfInBounds_toArray, List.set_cons_zero, List.set_cons_succ]
                    refine take_at (i := 7) (oi := _) (d := some 64) (v := ?_) rfl rfl (by kernel_rfl) (by kernel_rfl) (by kernel_rfl) (fun _ _ _ h => h) (Or.inl ⟨by rfl, ?_⟩) hHeld ?_
                    rotate_left
                    next => (intro w hSw; (try dsimp only at hSw); go_simp; try with_reducible rfl)
                    try simp only [Act.put, List.setIfInBounds_toArray, List.set_cons_zero, List.set_cons_succ]
                    refine wpAnyH_ready (rs := [8]) (by kernel_rfl) (by simp) (AllReadyH.cons (o := _) rfl (fun K hK => ?_) AllReadyH.nil)
                    go_simp
                    go_at_call 13
                    refine (HH.out _ (HP.out.keep (HGO.out.trans hHeld.2))).mono ?_
                    rintro e w' ⟨rfl, hb⟩
                    refine hK.out _ _ (held_call hHeld hb) (fun hHeld => ?_)
                    clear hK K hb
                    try simp only [Act.put, List.setIfInBounds_toArray, List.set_cons_zero, List.set_cons_succ]
                    refine take_at (i := 9) (oi := _) (d := some 56) (v := ?_) rfl rfl (by kernel_rfl) (by kernel_rfl) (by kernel_rfl) (fun _ _ _ h => h) (Or.inl ⟨by rfl, ?_⟩) hHeld ?_
                    rotate_left
                    next => (intro w hSw; (try dsimp only at hSw); go_simp; try with_reducible rfl)
                    try simp only [Act.put, List.setIfInBounds_toArray, List.set_cons_zero, List.set_cons_succ]
                    refine take_at (i := 10) (oi := _) (d := some 66) (v := ?_) rfl rfl (by kernel_rfl) (by kernel_rfl) (by kernel_rfl) (fun _ _ _ h => h) (Or.inl ⟨by rfl, ?_⟩) hHeld ?_
                    rotate_left
                    next => (intro w hSw; (try dsimp only at hSw); go_simp; try with_reducible rfl)
                    try simp only [Act.put, List.setIfInBounds_toArray, List.set_cons_zero, List.set_cons_succ]
                    refine take_at (i := 11) (oi := _) (d := some 67) (v := ?_) rfl rfl (by kernel_rfl) (by kernel_rfl) (by kernel_rfl) (fun _ _ _ h => h) (Or.inl ⟨by rfl, ?_⟩) hHeld ?_
                    rotate_left
                    next => (intro w hSw; (try dsimp only at hSw); go_simp; try with_reducible rfl)
                    try simp only [Act.put, List.setIfInBounds_toArray, List.set_cons_zero, List.set_cons_succ]
                    refine take_at (i := 12) (oi := _) (d := some 12) (v := ?_) rfl rfl (by kernel_rfl) (by kernel_rfl) (by kernel_rfl) (fun _ _ _ h => h) (Or.inl ⟨by rfl, ?_⟩) hHeld ?_
                    rotate_left
                    next => (intro w hSw; (try dsimp only at hSw); go_simp; try with_reducible rfl)
                    try simp only [Act.put, List.setIfInBounds_toArray, List.set_cons_zero, List.set_cons_succ]
                    refine take_at (i := 13) (oi := _) (d := some 13) (v := ?_) rfl rfl (by kernel_rfl) (by kernel_rfl) (by kernel_rfl) (fun _ _ _ h => h) (Or.inl ⟨by rfl, ?_⟩) hHeld ?_
                    rotate_left
                    next => (intro w hSw; (try dsimp only at hSw); go_simp; try with_reducible rfl)
                    try simp only [Act.put, List.setIfInBounds_toArray, List.set_cons_zero, List.set_cons_succ]
                    refine wpAnyH_done (by kernel_rfl) ?_ _

                    go_wp2_with fail
                    go_roundw
                    case rel => ((repeat apply Exists.intro); exact ⟨⟨i + 1, by omega, by first | rfl | go_num, by simp only [wAll, HAL.out, HS.out, Bool.and_self], HGW.out.trans (hHeld.2.trans (by repeat (first | with_reducible exact Gr.refl _ | with_reducible refine Gr.alloc ?_ _ | with_reducible refine Gr.drew ?_ | with_reducible refine Gr.trans ?_ (by assumption) | with_reducible refine Gr.setCell ?_ (by (try simp); (try omega)) _)))⟩, rfl⟩)
                    case measure => simp [intOf]; omega
                  · have hp := wStep_in (wAll_at HAL.out j (by omega))
                    have hpin : 0 ≤ u j ∧ u j < (n : Int) := by have := hp.1; unfold wIn at this; exact of_decide_eq_true this
                    obtain ⟨kp, hkp⟩ : ∃ k : Nat, u j = (k : Int) := ⟨(u j).toNat, by omega⟩
                    have hkpn : kp < n := by omega
                    have HKP := Lib.hid hkp
                    have hpok : allIn ⟨f kp 0, f kp 1, f kp 2, f kp 3, f kp 4, f kp 5⟩ 48 6 = true := by
                      have := hp.2
                      rw [hkp] at this
                      simp only [wHas, Int.toNat_natCast, Bool.and_eq_true] at this
                      exact this.2.1
                    have cp := (HU.out.keep HGO.out).oneAt (show j < m + 1 by omega)
                    rw [hkp] at cp
                    obtain ⟨d0, d1, d2, d3, d4, d5⟩ := (HA.out.keep HGO.out).sixAt hkpn
                    have hF := fun W h h' => vfinds_any l0 l1 l2 l3 l4 l5 h0 h1 h2 h3 h4 h5 st br (f kp 0) (f kp 1) (f kp 2) (f kp 3) (f kp 4) (f kp 5) (f k 0) (f k 1) (f k 2) (f k 3) (f k 4) (f k 5) W h h'
                    simp only [HQ0.out.1, HQ0.out.2, hpok, Bool.true_and, Bool.and_self, cond_true] at hF
                    have hd0 : decide (0 < (i : Int)) = true := decide_eq_true (by omega)
                    have hd1 : decide (0 < i) = true := decide_eq_true (by omega)
                    have hwj : IntKind.i64.wrap ((i : Int) - 1) = (j : Int) := (IntWalk.i64_in _ ⟨by omega, by omega⟩).trans (by omega)
                    have hjm : (j : Int) < (m : Int) + 1 := by omega
                    have hjm' : j < m + 1 := by omega
                    have HJ := Lib.hid hj
                    clear hp hpin hkp hpok hj
                    rcases tf (findsB st ⟨f kp 0, f kp 1, f kp 2, f kp 3, f kp 4, f kp 5⟩ ⟨f k 0, f k 1, f k 2, f k 3, f k 4, f k 5⟩) with q3 | q3
                    all_goals
                      have HQ3 := Lib.hid q3
                      simp only [q3] at hF
                      have HF := Lib.hid hF
                      clear hF q3
                      go_upto_region 8 with fail
                      refine wp_region_held_drew (S := fun wx => (∀ b o, (⟨min (b + 1) wp.heap.size, 0, none⟩ : Addr) = ⟨b + 1, 0, none⟩ → wx.cell? ⟨b, o, none⟩ = wp.cell? ⟨b, o, none⟩) ∧ Gr wp wx) (by kernel_rfl) (held_drew wp) (fun hHeld => ?_)
                      refine take_at (i := 0) (oi := _) (d := some 57) (v := ?_) rfl rfl (by kernel_rfl) (by kernel_rfl) (by kernel_rfl) (fun _ _ _ h => h) (Or.inl ⟨by rfl, ?_⟩) hHeld ?_
                      rotate_left
                      next => (intro w hSw; (try dsimp only at hSw); go_simp; try with_reducible rfl)
                      try simp only [Act.put, List.setIfInBounds_toArray, List.set_cons_zero, List.set_cons_succ]
                      refine take_at (i := 1) (oi := _) (d := some 58) (v := ?_) rfl rfl (by kernel_rfl) (by kernel_rfl) (by kernel_rfl) (fun _ _ _ h => h) (Or.inl ⟨by rfl, ?_⟩) hHeld ?_
                      rotate_left
                      next => (intro w hSw; (try dsimp only at hSw); go_simp; try with_reducible rfl)
                      try simp only [Act.put, List.setIfInBounds_toArray, List.set_cons_zero, List.set_cons_succ]
                      refine take_at (i := 2) (oi := _) (d := some 59) (v := ?_) rfl rfl (by kernel_rfl) (by kernel_rfl) (by kernel_rfl) (fun _ _ _ h => h) (Or.inl ⟨by rfl, ?_⟩) hHeld ?_
                      rotate_left
                      next => (intro w hSw; (try dsimp only at hSw); go_simp; try with_reducible rfl)
                      try simp only [Act.put, List.setIfInBounds_toArray, List.set_cons_zero, List.set_cons_succ]
                      refine take_at (i := 3) (oi := _) (d := some 60) (v := ?_) rfl rfl (by kernel_rfl) (by kernel_rfl) (by kernel_rfl) (fun _ _ _ h => h) (Or.inl ⟨by rfl, ?_⟩) hHeld ?_
                      rotate_left
                      next => (intro w hSw; (try dsimp only at hSw); go_simp; try with_reducible rfl)
                      try simp only [Act.put, List.setIfInBounds_toArray, List.set_cons_zero, List.set_cons_succ]
                      refine take_at (i := 4) (oi := _) (d := some 61) (v := ?_) rfl rfl (by kernel_rfl) (by kernel_rfl) (by kernel_rfl) (fun _ _ _ h => h) (Or.inl ⟨by rfl, ?_⟩) hHeld ?_
                      rotate_left
                      next => (intro w hSw; (try dsimp only at hSw); go_simp; try with_reducible rfl)
                      try simp only [Act.put, List.setIfInBounds_toArray, List.set_cons_zero, List.set_cons_succ]
                      refine take_at (i := 5) (oi := _) (d := some 62) (v := ?_) rfl rfl (by kernel_rfl) (by kernel_rfl) (by kernel_rfl) (fun _ _ _ h => h) (Or.inl ⟨by rfl, ?_⟩) hHeld ?_
                      rotate_left
                      next => (intro w hSw; (try dsimp only at hSw); go_simp; try with_reducible rfl)
                      try simp only [Act.put, List.setIfInBounds_toArray, List.set_cons_zero, List.set_cons_succ]
                      refine take_at (i := 6) (oi := _) (d := some 63) (v := ?_) rfl rfl (by kernel_rfl) (by kernel_rfl) (by kernel_rfl) (fun _ _ _ h => h) (Or.inl ⟨by rfl, ?_⟩) hHeld ?_
                      rotate_left
                      next => (intro w hSw; (try dsimp only at hSw); go_simp; try with_reducible rfl)
                      try simp only [Act.put, List.setIfInBounds_toArray, List.set_cons_zero, List.set_cons_succ]
                      refine take_at (i := 7) (oi := _) (d := some 64) (v := ?_) rfl rfl (by kernel_rfl) (by kernel_rfl) (by kernel_rfl) (fun _ _ _ h => h) (Or.inl ⟨by rfl, ?_⟩) hHeld ?_
                      rotate_left
                      next => (intro w hSw; (try dsimp only at hSw); go_simp; try with_reducible rfl)
                      try simp only [Act.put, List.setIfInBounds_toArray, List.set_cons_zero, List.set_cons_succ]
                      refine wpAnyH_ready (rs := [8]) (by kernel_rfl) (by simp) (AllReadyH.cons (o := _) rfl (fun K hK => ?_) AllReadyH.nil)
                      go_simp
                      go_at_call 13
                      refine (HH.out _ (HP.out.keep (HGO.out.trans hHeld.2))).mono ?_
                      rintro e w' ⟨rfl, hb⟩
                      refine hK.out _ _ (held_call hHeld hb) (fun hHeld => ?_)
                      clear hK K hb
                      try simp only [Act.put, List.setIfInBounds_toArray, List.set_cons_zero, List.set_cons_succ]
                      refine take_at (i := 9) (oi := _) (d := some 56) (v := ?_) rfl rfl (by kernel_rfl) (by kernel_rfl) (by kernel_rfl) (fun _ _ _ h => h) (Or.inl ⟨by rfl, ?_⟩) hHeld ?_
                      rotate_left
                      next => (intro w hSw; (try dsimp only at hSw); go_simp; try with_reducible rfl)
                      try simp only [Act.put, List.setIfInBounds_toArray, List.set_cons_zero, List.set_cons_succ]
                      refine take_at (i := 10) (oi := _) (d := some 66) (v := ?_) rfl rfl (by kernel_rfl) (by kernel_rfl) (by kernel_rfl) (fun _ _ _ h => h) (Or.inl ⟨by rfl, ?_⟩) hHeld ?_
                      rotate_left
                      next => (intro w hSw; (try dsimp only at hSw); go_simp; try with_reducible rfl)
                      try simp only [Act.put, List.setIfInBounds_toArray, List.set_cons_zero, List.set_cons_succ]
                      refine take_at (i := 11) (oi := _) (d := some 67) (v := ?_) rfl rfl (by kernel_rfl) (by kernel_rfl) (by kernel_rfl) (fun _ _ _ h => h) (Or.inl ⟨by rfl, ?_⟩) hHeld ?_
                      rotate_left
                      next => (intro w hSw; (try dsimp only at hSw); go_simp; try with_reducible rfl)
                      try simp only [Act.put, List.setIfInBounds_toArray, List.set_cons_zero, List.set_cons_succ]
                      refine take_at (i := 12) (oi := _) (d := some 12) (v := ?_) rfl rfl (by kernel_rfl) (by kernel_rfl) (by kernel_rfl) (fun _ _ _ h => h) (Or.inl ⟨by rfl, ?_⟩) hHeld ?_
                      rotate_left
                      next => (intro w hSw; (try dsimp only at hSw); go_simp; try with_reducible rfl)
                      try simp only [Act.put, List.setIfInBounds_toArray, List.set_cons_zero, List.set_cons_succ]
                      refine take_at (i := 13) (oi := _) (d := some 13) (v := ?_) rfl rfl (by kernel_rfl) (by kernel_rfl) (by kernel_rfl) (fun _ _ _ h => h) (Or.inl ⟨by rfl, ?_⟩) hHeld ?_
                      rotate_left
                      next => (intro w hSw; (try dsimp only at hSw); go_simp; try with_reducible rfl)
                      try simp only [Act.put, List.setIfInBounds_toArray, List.set_cons_zero, List.set_cons_succ]
                      refine wpAnyH_done (by kernel_rfl) ?_ _

                      obtain ⟨w8, rfl⟩ : ∃ x : World, x = w' := ⟨_, rfl⟩
                      have HG8 := Lib.hid hHeld.2
                      have y_ : w8.cell? ⟨w.heap.size, 0, none⟩ = some (.int .i64 l0) ∧ w8.cell? ⟨w.heap.size, 1, none⟩ = some (.int .i64 l1) ∧ w8.cell? ⟨w.heap.size, 2, none⟩ = some (.int .i64 l2) ∧ w8.cell? ⟨w.heap.size, 3, none⟩ = some (.int .i64 l3) ∧ w8.cell? ⟨w.heap.size, 4, none⟩ = some (.int .i64 l4) ∧ w8.cell? ⟨w.heap.size, 5, none⟩ = some (.int .i64 l5) ∧ w8.cell? ⟨w.heap.size, 6, none⟩ = some (.int .i64 h0) ∧ w8.cell? ⟨w.heap.size, 7, none⟩ = some (.int .i64 h1) ∧ w8.cell? ⟨w.heap.size, 8, none⟩ = some (.int .i64 h2) ∧ w8.cell? ⟨w.heap.size, 9, none⟩ = some (.int .i64 h3) ∧ w8.cell? ⟨w.heap.size, 10, none⟩ = some (.int .i64 h4) ∧ w8.cell? ⟨w.heap.size, 11, none⟩ = some (.int .i64 h5) ∧ w8.cell? ⟨w.heap.size, 12, none⟩ = some (.int .i64 st) ∧ w8.cell? ⟨w.heap.size, 13, none⟩ = some (.int .i64 br) := ⟨(Below.cell (p := ⟨w.heap.size, 0, none⟩) HG8.out hzw).trans x0, (Below.cell (p := ⟨w.heap.size, 1, none⟩) HG8.out hzw).trans x1, (Below.cell (p := ⟨w.heap.size, 2, none⟩) HG8.out hzw).trans x2, (Below.cell (p := ⟨w.heap.size, 3, none⟩) HG8.out hzw).trans x3, (Below.cell (p := ⟨w.heap.size, 4, none⟩) HG8.out hzw).trans x4, (Below.cell (p := ⟨w.heap.size, 5, none⟩) HG8.out hzw).trans x5, (Below.cell (p := ⟨w.heap.size, 6, none⟩) HG8.out hzw).trans x6, (Below.cell (p := ⟨w.heap.size, 7, none⟩) HG8.out hzw).trans x7, (Below.cell (p := ⟨w.heap.size, 8, none⟩) HG8.out hzw).trans x8, (Below.cell (p := ⟨w.heap.size, 9, none⟩) HG8.out hzw).trans x9, (Below.cell (p := ⟨w.heap.size, 10, none⟩) HG8.out hzw).trans x10, (Below.cell (p := ⟨w.heap.size, 11, none⟩) HG8.out hzw).trans x11, (Below.cell (p := ⟨w.heap.size, 12, none⟩) HG8.out hzw).trans x12, (Below.cell (p := ⟨w.heap.size, 13, none⟩) HG8.out hzw).trans x13⟩
                      have z_ : w8.cell? ⟨b, off + k * 6, none⟩ = some (.int .i64 (f k 0)) ∧ w8.cell? ⟨b, off + k * 6 + 1, none⟩ = some (.int .i64 (f k 1)) ∧ w8.cell? ⟨b, off + k * 6 + 2, none⟩ = some (.int .i64 (f k 2)) ∧ w8.cell? ⟨b, off + k * 6 + 3, none⟩ = some (.int .i64 (f k 3)) ∧ w8.cell? ⟨b, off + k * 6 + 4, none⟩ = some (.int .i64 (f k 4)) ∧ w8.cell? ⟨b, off + k * 6 + 5, none⟩ = some (.int .i64 (f k 5)) ∧ w8.cell? ⟨b, off + kp * 6, none⟩ = some (.int .i64 (f kp 0)) ∧ w8.cell? ⟨b, off + kp * 6 + 1, none⟩ = some (.int .i64 (f kp 1)) ∧ w8.cell? ⟨b, off + kp * 6 + 2, none⟩ = some (.int .i64 (f kp 2)) ∧ w8.cell? ⟨b, off + kp * 6 + 3, none⟩ = some (.int .i64 (f kp 3)) ∧ w8.cell? ⟨b, off + kp * 6 + 4, none⟩ = some (.int .i64 (f kp 4)) ∧ w8.cell? ⟨b, off + kp * 6 + 5, none⟩ = some (.int .i64 (f kp 5)) := ⟨(Below.cell (p := ⟨b, off + k * 6, none⟩) HG8.out hbl).trans c0, (Below.cell (p := ⟨b, off + k * 6 + 1, none⟩) HG8.out hbl).trans c1, (Below.cell (p := ⟨b, off + k * 6 + 2, none⟩) HG8.out hbl).trans c2, (Below.cell (p := ⟨b, off + k * 6 + 3, none⟩) HG8.out hbl).trans c3, (Below.cell (p := ⟨b, off + k * 6 + 4, none⟩) HG8.out hbl).trans c4, (Below.cell (p := ⟨b, off + k * 6 + 5, none⟩) HG8.out hbl).trans c5, (Below.cell (p := ⟨b, off + kp * 6, none⟩) HG8.out hbl).trans d0, (Below.cell (p := ⟨b, off + kp * 6 + 1, none⟩) HG8.out hbl).trans d1, (Below.cell (p := ⟨b, off + kp * 6 + 2, none⟩) HG8.out hbl).trans d2, (Below.cell (p := ⟨b, off + kp * 6 + 3, none⟩) HG8.out hbl).trans d3, (Below.cell (p := ⟨b, off + kp * 6 + 4, none⟩) HG8.out hbl).trans d4, (Below.cell (p := ⟨b, off + kp * 6 + 5, none⟩) HG8.out hbl).trans d5⟩
                      have t1 := (Below.cell (p := ⟨bu, ou + i, none⟩) HG8.out hbu2).trans cu
                      have t2 := (Below.cell (p := ⟨bu, ou + j, none⟩) HG8.out hbu2).trans cp
                      have hz8 := HG8.out.size
                      have hb8 : bu < w8.heap.size := by omega
                      have hb9 : b < w8.heap.size := by omega
                      have hb10 : w.heap.size < w8.heap.size := by omega
                      clear hHeld cu cp x0 x1 x2 x3 x4 x5 x6 x7 x8 x9 x10 x11 x12 x13 c0 c1 c2 c3 c4 c5 d0 d1 d2 d3 d4 d5
                      obtain ⟨x0, x1, x2, x3, x4, x5, x6, x7, x8, x9, x10, x11, x12, x13⟩ := y_
                      obtain ⟨c0, c1, c2, c3, c4, c5, d0, d1, d2, d3, d4, d5⟩ := z_
                      go_upto_region 12 with fail
                      refine wp_region_held_drew (S := fun wx => (∀ b o, (⟨min (b + 1) w8.heap.size, 0, none⟩ : Addr) = ⟨b + 1, 0, none⟩ → wx.cell? ⟨b, o, none⟩ = w8.cell? ⟨b, o, none⟩) ∧ Gr w8 wx) (by kernel_rfl) (held_drew w8) (fun hHeld => ?_)
                      refine take_at (i := 0) (oi := _) (d := some 77) (v := ?_) rfl rfl (by kernel_rfl) (by kernel_rfl) (by kernel_rfl) (fun _ _ _ h => h) (Or.inl ⟨by rfl, ?_⟩) hHeld ?_
                      rotate_left
                      next => (intro w hSw; (try dsimp only at hSw); go_simp; try with_reducible rfl)
                      try simp only [Act.put, List.setIfInBounds_toArray, List.set_cons_zero, List.set_cons_succ]
                      refine take_at (i := 1) (oi := _) (d := some 78) (v := ?_) rfl rfl (by kernel_rfl) (by kernel_rfl) (by kernel_rfl) (fun _ _ _ h => h) (Or.inl ⟨by rfl, ?_⟩) hHeld ?_
                      rotate_left
                      next => (intro w hSw; (try dsimp only at hSw); go_simp; try with_reducible rfl)
                      try simp only [Act.put, List.setIfInBounds_toArray, List.set_cons_zero, List.set_cons_succ]
                      refine take_at (i := 2) (oi := _) (d := some 79) (v := ?_) rfl rfl (by kernel_rfl) (by kernel_rfl) (by kernel_rfl) (fun _ _ _ h => h) (Or.inl ⟨by rfl, ?_⟩) hHeld ?_
                      rotate_left
                      next => (intro w hSw; (try dsimp only at hSw); go_simp; try with_reducible rfl)
                      try simp only [Act.put, List.setIfInBounds_toArray, List.set_cons_zero, List.set_cons_succ]
                      refine take_at (i := 3) (oi := _) (d := some 80) (v := ?_) rfl rfl (by kernel_rfl) (by kernel_rfl) (by kernel_rfl) (fun _ _ _ h => h) (Or.inl ⟨by rfl, ?_⟩) hHeld ?_
                      rotate_left
                      next => (intro w hSw; (try dsimp only at hSw); go_simp; try with_reducible rfl)
                      try simp only [Act.put, List.setIfInBounds_toArray, List.set_cons_zero, List.set_cons_succ]
                      refine take_at (i := 4) (oi := _) (d := some 81) (v := ?_) rfl rfl (by kernel_rfl) (by kernel_rfl) (by kernel_rfl) (fun _ _ _ h => h) (Or.inl ⟨by rfl, ?_⟩) hHeld ?_
                      rotate_left
                      next => (intro w hSw; (try dsimp only at hSw); go_simp; try with_reducible rfl)
                      try simp only [Act.put, List.setIfInBounds_toArray, List.set_cons_zero, List.set_cons_succ]
                      refine take_at (i := 5) (oi := _) (d := some 82) (v := ?_) rfl rfl (by kernel_rfl) (by kernel_rfl) (by kernel_rfl) (fun _ _ _ h => h) (Or.inl ⟨by rfl, ?_⟩) hHeld ?_
                      rotate_left
                      next => (intro w hSw; (try dsimp only at hSw); go_simp; try with_reducible rfl)
                      try simp only [Act.put, List.setIfInBounds_toArray, List.set_cons_zero, List.set_cons_succ]
                      refine take_at (i := 6) (oi := _) (d := some 83) (v := ?_) rfl rfl (by kernel_rfl) (by kernel_rfl) (by kernel_rfl) (fun _ _ _ h => h) (Or.inl ⟨by rfl, ?_⟩) hHeld ?_
                      rotate_left
                      next => (intro w hSw; (try dsimp only at hSw); go_simp; try with_reducible rfl)
                      try simp only [Act.put, List.setIfInBounds_toArray, List.set_cons_zero, List.set_cons_succ]
                      refine take_at (i := 7) (oi := _) (d := some 84) (v := ?_) rfl rfl (by kernel_rfl) (by kernel_rfl) (by kernel_rfl) (fun _ _ _ h => h) (Or.inl ⟨by rfl, ?_⟩) hHeld ?_
                      rotate_left
                      next => (intro w hSw; (try dsimp only at hSw); go_simp; try with_reducible rfl)
                      try simp only [Act.put, List.setIfInBounds_toArray, List.set_cons_zero, List.set_cons_succ]
                      refine take_at (i := 8) (oi := _) (d := some 85) (v := ?_) rfl rfl (by kernel_rfl) (by kernel_rfl) (by kernel_rfl) (fun _ _ _ h => h) (Or.inl ⟨by rfl, ?_⟩) hHeld ?_
                      rotate_left
                      next => (intro w hSw; (try dsimp only at hSw); go_simp; try with_reducible rfl)
                      try simp only [Act.put, List.setIfInBounds_toArray, List.set_cons_zero, List.set_cons_succ]
                      refine take_at (i := 9) (oi := _) (d := some 86) (v := ?_) rfl rfl (by kernel_rfl) (by kernel_rfl) (by kernel_rfl) (fun _ _ _ h => h) (Or.inl ⟨by rfl, ?_⟩) hHeld ?_
                      rotate_left
                      next => (intro w hSw; (try dsimp only at hSw); go_simp; try with_reducible rfl)
                      try simp only [Act.put, List.setIfInBounds_toArray, List.set_cons_zero, List.set_cons_succ]
                      refine take_at (i := 10) (oi := _) (d := some 87) (v := ?_) rfl rfl (by kernel_rfl) (by kernel_rfl) (by kernel_rfl) (fun _ _ _ h => h) (Or.inl ⟨by rfl, ?_⟩) hHeld ?_
                      rotate_left
                      next => (intro w hSw; (try dsimp only at hSw); go_simp; try with_reducible rfl)
                      try simp only [Act.put, List.setIfInBounds_toArray, List.set_cons_zero, List.set_cons_succ]
                      refine take_at (i := 11) (oi := _) (d := some 88) (v := ?_) rfl rfl (by kernel_rfl) (by kernel_rfl) (by kernel_rfl) (fun _ _ _ h => h) (Or.inl ⟨by rfl, ?_⟩) hHeld ?_
                      rotate_left
                      next => (intro w hSw; (try dsimp only at hSw); go_simp; try with_reducible rfl)
                      try simp only [Act.put, List.setIfInBounds_toArray, List.set_cons_zero, List.set_cons_succ]
                      refine take_at (i := 12) (oi := _) (d := some 89) (v := ?_) rfl rfl (by kernel_rfl) (by kernel_rfl) (by kernel_rfl) (fun _ _ _ h => h) (Or.inl ⟨by rfl, ?_⟩) hHeld ?_
                      rotate_left
                      next => (intro w hSw; (try dsimp only at hSw); go_simp; try with_reducible rfl)
                      try simp only [Act.put, List.setIfInBounds_toArray, List.set_cons_zero, List.set_cons_succ]
                      refine take_at (i := 13) (oi := _) (d := some 90) (v := ?_) rfl rfl (by kernel_rfl) (by kernel_rfl) (by kernel_rfl) (fun _ _ _ h => h) (Or.inl ⟨by rfl, ?_⟩) hHeld ?_
                      rotate_left
                      next => (intro w hSw; (try dsimp only at hSw); go_simp; try with_reducible rfl)
                      try simp only [Act.put, List.setIfInBounds_toArray, List.set_cons_zero, List.set_cons_succ]
                      refine take_at (i := 14) (oi := _) (d := some 91) (v := ?_) rfl rfl (by kernel_rfl) (by kernel_rfl) (by kernel_rfl) (fun _ _ _ h => h) (Or.inl ⟨by rfl, ?_⟩) hHeld ?_
                      rotate_left
                      next => (intro w hSw; (try dsimp only at hSw); go_simp; try with_reducible rfl)
                      try simp only [Act.put, List.setIfInBounds_toArray, List.set_cons_zero, List.set_cons_succ]
                      refine take_at (i := 15) (oi := _) (d := some 92) (v := ?_) rfl rfl (by kernel_rfl) (by kernel_rfl) (by kernel_rfl) (fun _ _ _ h => h) (Or.inl ⟨by rfl, ?_⟩) hHeld ?_
                      rotate_left
                      next => (intro w hSw; (try dsimp only at hSw); go_simp; try with_reducible rfl)
                      try simp only [Act.put, List.setIfInBounds_toArray, List.set_cons_zero, List.set_cons_succ]
                      refine wpAnyH_ready (rs := [16]) (by kernel_rfl) (by simp) (AllReadyH.cons (o := _) rfl (fun K hK => ?_) AllReadyH.nil)
                      go_simp
                      go_at_call 15
                      refine (HF.out _ (HP.out.keep (HGO.out.trans (HG8.out.trans hHeld.2))) (HL.out.keep (HGO.out.trans (HG8.out.trans hHeld.2)))).mono ?_
                      rintro e w' ⟨rfl, hb⟩
                      refine hK.out _ _ (held_call hHeld hb) (fun hHeld => ?_)
                      clear hK K hb
                      try simp only [Act.put, List.setIfInBounds_toArray, List.set_cons_zero, List.set_cons_succ]
                      refine take_at (i := 17) (oi := _) (d := some 76) (v := ?_) rfl rfl (by kernel_rfl) (by kernel_rfl) (by kernel_rfl) (fun _ _ _ h => h) (Or.inl ⟨by rfl, ?_⟩) hHeld ?_
                      rotate_left
                      next => (intro w hSw; (try dsimp only at hSw); go_simp; try with_reducible rfl)
                      try simp only [Act.put, List.setIfInBounds_toArray, List.set_cons_zero, List.set_cons_succ]
                      refine take_at (i := 18) (oi := _) (d := some 94) (v := ?_) rfl rfl (by kernel_rfl) (by kernel_rfl) (by kernel_rfl) (fun _ _ _ h => h) (Or.inl ⟨by rfl, ?_⟩) hHeld ?_
                      rotate_left
                      next => (intro w hSw; (try dsimp only at hSw); go_simp; try with_reducible rfl)
                      try simp only [Act.put, List.setIfInBounds_toArray, List.set_cons_zero, List.set_cons_succ]
                      refine take_at (i := 19) (oi := _) (d := some 95) (v := ?_) rfl rfl (by kernel_rfl) (by kernel_rfl) (by kernel_rfl) (fun _ _ _ h => h) (Or.inl ⟨by rfl, ?_⟩) hHeld ?_
                      rotate_left
                      next => (intro w hSw; (try dsimp only at hSw); go_simp; try with_reducible rfl)
                      try simp only [Act.put, List.setIfInBounds_toArray, List.set_cons_zero, List.set_cons_succ]
                      refine take_at (i := 20) (oi := _) (d := some 14) (v := ?_) rfl rfl (by kernel_rfl) (by kernel_rfl) (by kernel_rfl) (fun _ _ _ h => h) (Or.inl ⟨by rfl, ?_⟩) hHeld ?_
                      rotate_left
                      next => (intro w hSw; (try dsimp only at hSw); go_simp; try with_reducible rfl)
                      try simp only [Act.put, List.setIfInBounds_toArray, List.set_cons_zero, List.set_cons_succ]
                      refine take_at (i := 21) (oi := _) (d := some 15) (v := ?_) rfl rfl (by kernel_rfl) (by kernel_rfl) (by kernel_rfl) (fun _ _ _ h => h) (Or.inl ⟨by rfl, ?_⟩) hHeld ?_
                      rotate_left
                      next => (intro w hSw; (try dsimp only at hSw); go_simp; try with_reducible rfl)
                      try simp only [Act.put, List.setIfInBounds_toArray, List.set_cons_zero, List.set_cons_succ]
                      refine wpAnyH_done (by kernel_rfl) ?_ _

                      go_wp2_with fail
                    · have HS : Hid (wStep (voiceOk ⟨l0, l1, l2, l3, l4, l5⟩ ⟨h0, h1, h2, h3, h4, h5⟩ st br) ⟨l0, l1, l2, l3, l4, l5⟩ ⟨h0, h1, h2, h3, h4, h5⟩ st n f u i = true) := Lib.hid (by have a := HIN.out; have b := HHS.out; have e := HJ.out; have g := HQ3.out; have e1 := HT.out; have e2 := HKP.out; subst e; rw [e1] at b; simp only [wStep, a, b, e1, e2, Int.toNat_natCast, g, Bool.and_self])
                      go_roundw
                      case rel => ((repeat apply Exists.intro); exact ⟨⟨i + 1, by omega, by first | rfl | go_num, by simp only [wAll, HAL.out, HS.out, Bool.and_self], HGW.out.trans (HG8.out.trans (hHeld.2.trans (by repeat (first | with_reducible exact Gr.refl _ | with_reducible refine Gr.alloc ?_ _ | with_reducible refine Gr.drew ?_ | with_reducible refine Gr.trans ?_ (by assumption) | with_reducible refine Gr.setCell ?_ (by (try simp); (try omega)) _))))⟩, rfl⟩)
                      case measure => simp [intOf]; omega
                    · have HS : Hid (wStep (voiceOk ⟨l0, l1, l2, l3, l4, l5⟩ ⟨h0, h1, h2, h3, h4, h5⟩ st br) ⟨l0, l1, l2, l3, l4, l5⟩ ⟨h0, h1, h2, h3, h4, h5⟩ st n f u i = false) := Lib.hid (by have e := HJ.out; have g := HQ3.out; have e1 := HT.out; have e2 := HKP.out; subst e; simp only [wStep, e1, e2, Int.toNat_natCast, g, Bool.and_false])
                      go_ret
                      exact ⟨ret_bool (by rw [← HR.out, HE.out, wAll_no hlt HS.out]), HGO.out.trans (HG8.out.trans (hHeld.2.trans (by repeat (first | with_reducible exact Gr.refl _ | with_reducible refine Gr.alloc ?_ _ | with_reducible refine Gr.drew ?_ | with_reducible refine Gr.trans ?_ (by assumption) | with_reducible refine Gr.setCell ?_ (by (try simp); (try omega)) _))))⟩
                · simp only [q0.1, q0.2, q2, Bool.and_self, Bool.and_false, cond_true] at hH
                  have HH := Lib.hid hH
                  have HS : Hid (wStep (voiceOk ⟨l0, l1, l2, l3, l4, l5⟩ ⟨h0, h1, h2, h3, h4, h5⟩ st br) ⟨l0, l1, l2, l3, l4, l5⟩ ⟨h0, h1, h2, h3, h4, h5⟩ st n f u i = false) := Lib.hid (by
                    have e1 := HT.out
                    have e : wHas (voiceOk ⟨l0, l1, l2, l3, l4, l5⟩ ⟨h0, h1, h2, h3, h4, h5⟩ st br) ⟨l0, l1, l2, l3, l4, l5⟩ ⟨h0, h1, h2, h3, h4, h5⟩ f (u i).toNat = false := by rw [e1]; simp only [wHas, q2, Bool.and_false]
                    cases e3 : wStep (voiceOk ⟨l0, l1, l2, l3, l4, l5⟩ ⟨h0, h1, h2, h3, h4, h5⟩ st br) ⟨l0, l1, l2, l3, l4, l5⟩ ⟨h0, h1, h2, h3, h4, h5⟩ st n f u i with
                    | false => rfl
                    | true => rw [(wStep_in e3).2] at e; cases e)
                  clear q0 q1 q2 hH
                  go_upto_region 8 with fail
                  refine wp_region_held_drew (S := fun wx => (∀ b o, (⟨min (b + 1) wp.heap.size, 0, none⟩ : Addr) = ⟨b + 1, 0, none⟩ → wx.cell? ⟨b, o, none⟩ = wp.cell? ⟨b, o, none⟩) ∧ Gr wp wx) (by kernel_rfl) (held_drew wp) (fun hHeld => ?_)
                  refine take_at (i := 0) (oi := _) (d := some 57) (v := ?_) rfl rfl (by kernel_rfl) (by kernel_rfl) (by kernel_rfl) (fun _ _ _ h => h) (Or.inl ⟨by rfl, ?_⟩) hHeld ?_
                  rotate_left
                  next => (intro w hSw; (try dsimp only at hSw); go_simp; try with_reducible rfl)
                  try simp only [Act.put, List.setIfInBounds_toArray, List.set_cons_zero, List.set_cons_succ]
                  refine take_at (i := 1) (oi := _) (d := some 58) (v := ?_) rfl rfl (by kernel_rfl) (by kernel_rfl) (by kernel_rfl) (fun _ _ _ h => h) (Or.inl ⟨by rfl, ?_⟩) hHeld ?_
                  rotate_left
                  next => (intro w hSw; (try dsimp only at hSw); go_simp; try with_reducible rfl)
                  try simp only [Act.put, List.setIfInBounds_toArray, List.set_cons_zero, List.set_cons_succ]
                  refine take_at (i := 2) (oi := _) (d := some 59) (v := ?_) rfl rfl (by kernel_rfl) (by kernel_rfl) (by kernel_rfl) (fun _ _ _ h => h) (Or.inl ⟨by rfl, ?_⟩) hHeld ?_
                  rotate_left
                  next => (intro w hSw; (try dsimp only at hSw); go_simp; try with_reducible rfl)
                  try simp only [Act.put, List.setIfInBounds_toArray, List.set_cons_zero, List.set_cons_succ]
                  refine take_at (i := 3) (oi := _) (d := some 60) (v := ?_) rfl rfl (by kernel_rfl) (by kernel_rfl) (by kernel_rfl) (fun _ _ _ h => h) (Or.inl ⟨by rfl, ?_⟩) hHeld ?_
                  rotate_left
                  next => (intro w hSw; (try dsimp only at hSw); go_simp; try with_reducible rfl)
                  try simp only [Act.put, List.setIfInBounds_toArray, List.set_cons_zero, List.set_cons_succ]
                  refine take_at (i := 4) (oi := _) (d := some 61) (v := ?_) rfl rfl (by kernel_rfl) (by kernel_rfl) (by kernel_rfl) (fun _ _ _ h => h) (Or.inl ⟨by rfl, ?_⟩) hHeld ?_
                  rotate_left
                  next => (intro w hSw; (try dsimp only at hSw); go_simp; try with_reducible rfl)
                  try simp only [Act.put, List.setIfInBounds_toArray, List.set_cons_zero, List.set_cons_succ]
                  refine take_at (i := 5) (oi := _) (d := some 62) (v := ?_) rfl rfl (by kernel_rfl) (by kernel_rfl) (by kernel_rfl) (fun _ _ _ h => h) (Or.inl ⟨by rfl, ?_⟩) hHeld ?_
                  rotate_left
                  next => (intro w hSw; (try dsimp only at hSw); go_simp; try with_reducible rfl)
                  try simp only [Act.put, List.setIfInBounds_toArray, List.set_cons_zero, List.set_cons_succ]
                  refine take_at (i := 6) (oi := _) (d := some 63) (v := ?_) rfl rfl (by kernel_rfl) (by kernel_rfl) (by kernel_rfl) (fun _ _ _ h => h) (Or.inl ⟨by rfl, ?_⟩) hHeld ?_
                  rotate_left
                  next => (intro w hSw; (try dsimp only at hSw); go_simp; try with_reducible rfl)
                  try simp only [Act.put, List.setIfInBounds_toArray, List.set_cons_zero, List.set_cons_succ]
                  refine take_at (i := 7) (oi := _) (d := some 64) (v := ?_) rfl rfl (by kernel_rfl) (by kernel_rfl) (by kernel_rfl) (fun _ _ _ h => h) (Or.inl ⟨by rfl, ?_⟩) hHeld ?_
                  rotate_left
                  next => (intro w hSw; (try dsimp only at hSw); go_simp; try with_reducible rfl)
                  try simp only [Act.put, List.setIfInBounds_toArray, List.set_cons_zero, List.set_cons_succ]
                  refine wpAnyH_ready (rs := [8]) (by kernel_rfl) (by simp) (AllReadyH.cons (o := _) rfl (fun K hK => ?_) AllReadyH.nil)
                  go_simp
                  go_at_call 13
                  refine (HH.out _ (HP.out.keep (HGO.out.trans hHeld.2))).mono ?_
                  rintro e w' ⟨rfl, hb⟩
                  refine hK.out _ _ (held_call hHeld hb) (fun hHeld => ?_)
                  clear hK K hb
                  try simp only [Act.put, List.setIfInBounds_toArray, List.set_cons_zero, List.set_cons_succ]
                  refine take_at (i := 9) (oi := _) (d := some 56) (v := ?_) rfl rfl (by kernel_rfl) (by kernel_rfl) (by kernel_rfl) (fun _ _ _ h => h) (Or.inl ⟨by rfl, ?_⟩) hHeld ?_
                  rotate_left
                  next => (intro w hSw; (try dsimp only at hSw); go_simp; try with_reducible rfl)
                  try simp only [Act.put, List.setIfInBounds_toArray, List.set_cons_zero, List.set_cons_succ]
                  refine take_at (i := 10) (oi := _) (d := some 66) (v := ?_) rfl rfl (by kernel_rfl) (by kernel_rfl) (by kernel_rfl) (fun _ _ _ h => h) (Or.inl ⟨by rfl, ?_⟩) hHeld ?_
                  rotate_left
                  next => (intro w hSw; (try dsimp only at hSw); go_simp; try with_reducible rfl)
                  try simp only [Act.put, List.setIfInBounds_toArray, List.set_cons_zero, List.set_cons_succ]
                  refine take_at (i := 11) (oi := _) (d := some 67) (v := ?_) rfl rfl (by kernel_rfl) (by kernel_rfl) (by kernel_rfl) (fun _ _ _ h => h) (Or.inl ⟨by rfl, ?_⟩) hHeld ?_
                  rotate_left
                  next => (intro w hSw; (try dsimp only at hSw); go_simp; try with_reducible rfl)
                  try simp only [Act.put, List.setIfInBounds_toArray, List.set_cons_zero, List.set_cons_succ]
                  refine take_at (i := 12) (oi := _) (d := some 12) (v := ?_) rfl rfl (by kernel_rfl) (by kernel_rfl) (by kernel_rfl) (fun _ _ _ h => h) (Or.inl ⟨by rfl, ?_⟩) hHeld ?_
                  rotate_left
                  next => (intro w hSw; (try dsimp only at hSw); go_simp; try with_reducible rfl)
                  try simp only [Act.put, List.setIfInBounds_toArray, List.set_cons_zero, List.set_cons_succ]
                  refine take_at (i := 13) (oi := _) (d := some 13) (v := ?_) rfl rfl (by kernel_rfl) (by kernel_rfl) (by kernel_rfl) (fun _ _ _ h => h) (Or.inl ⟨by rfl, ?_⟩) hHeld ?_
                  rotate_left
                  next => (intro w hSw; (try dsimp only at hSw); go_simp; try with_reducible rfl)
                  try simp only [Act.put, List.setIfInBounds_toArray, List.set_cons_zero, List.set_cons_succ]
                  refine wpAnyH_done (by kernel_rfl) ?_ _

                  go_wp2_with fail
                  go_ret
                  exact ⟨ret_bool (by rw [← HR.out, HE.out, wAll_no hlt HS.out]), HGO.out.trans (hHeld.2.trans (by repeat (first | with_reducible exact Gr.refl _ | with_reducible refine Gr.alloc ?_ _ | with_reducible refine Gr.drew ?_ | with_reducible refine Gr.trans ?_ (by assumption) | with_reducible refine Gr.setCell ?_ (by (try simp); (try omega)) _)))⟩
              · have q0 : ∀ x, (voiceOk ⟨l0, l1, l2, l3, l4, l5⟩ ⟨h0, h1, h2, h3, h4, h5⟩ st br && (allIn ⟨f k 0, f k 1, f k 2, f k 3, f k 4, f k 5⟩ 48 6 && x)) = false := fun x => by rw [← Bool.and_assoc, q1, Bool.false_and]
                simp only [q0, q1, cond_false] at hH
                have HH := Lib.hid hH
                have HS : Hid (wStep (voiceOk ⟨l0, l1, l2, l3, l4, l5⟩ ⟨h0, h1, h2, h3, h4, h5⟩ st br) ⟨l0, l1, l2, l3, l4, l5⟩ ⟨h0, h1, h2, h3, h4, h5⟩ st n f u i = false) := Lib.hid (by
                  have e1 := HT.out
                  have e : wHas (voiceOk ⟨l0, l1, l2, l3, l4, l5⟩ ⟨h0, h1, h2, h3, h4, h5⟩ st br) ⟨l0, l1, l2, l3, l4, l5⟩ ⟨h0, h1, h2, h3, h4, h5⟩ f (u i).toNat = false := by rw [e1]; simp only [wHas, q0]
                  cases e3 : wStep (voiceOk ⟨l0, l1, l2, l3, l4, l5⟩ ⟨h0, h1, h2, h3, h4, h5⟩ st br) ⟨l0, l1, l2, l3, l4, l5⟩ ⟨h0, h1, h2, h3, h4, h5⟩ st n f u i with
                  | false => rfl
                  | true => rw [(wStep_in e3).2] at e; cases e)
                clear q0 q1 hH
                go_upto_region 8 with fail
                refine wp_region_held_drew (S := fun wx => (∀ b o, (⟨min (b + 1) wp.heap.size, 0, none⟩ : Addr) = ⟨b + 1, 0, none⟩ → wx.cell? ⟨b, o, none⟩ = wp.cell? ⟨b, o, none⟩) ∧ Gr wp wx) (by kernel_rfl) (held_drew wp) (fun hHeld => ?_)
                refine take_at (i := 0) (oi := _) (d := some 57) (v := ?_) rfl rfl (by kernel_rfl) (by kernel_rfl) (by kernel_rfl) (fun _ _ _ h => h) (Or.inl ⟨by rfl, ?_⟩) hHeld ?_
                rotate_left
                next => (intro w hSw; (try dsimp only at hSw); go_simp; try with_reducible rfl)
                try simp only [Act.put, List.setIfInBounds_toArray, List.set_cons_zero, List.set_cons_succ]
                refine take_at (i := 1) (oi := _) (d := some 58) (v := ?_) rfl rfl (by kernel_rfl) (by kernel_rfl) (by kernel_rfl) (fun _ _ _ h => h) (Or.inl ⟨by rfl, ?_⟩) hHeld ?_
                rotate_left
                next => (intro w hSw; (try dsimp only at hSw); go_simp; try with_reducible rfl)
                try simp only [Act.put, List.setIfInBounds_toArray, List.set_cons_zero, List.set_cons_succ]
                refine take_at (i := 2) (oi := _) (d := some 59) (v := ?_) rfl rfl (by kernel_rfl) (by kernel_rfl) (by kernel_rfl) (fun _ _ _ h => h) (Or.inl ⟨by rfl, ?_⟩) hHeld ?_
                rotate_left
                next => (intro w hSw; (try dsimp only at hSw); go_simp; try with_reducible rfl)
                try simp only [Act.put, List.setIfInBounds_toArray, List.set_cons_zero, List.set_cons_succ]
                refine take_at (i := 3) (oi := _) (d := some 60) (v := ?_) rfl rfl (by kernel_rfl) (by kernel_rfl) (by kernel_rfl) (fun _ _ _ h => h) (Or.inl ⟨by rfl, ?_⟩) hHeld ?_
                rotate_left
                next => (intro w hSw; (try dsimp only at hSw); go_simp; try with_reducible rfl)
                try simp only [Act.put, List.setIfInBounds_toArray, List.set_cons_zero, List.set_cons_succ]
                refine take_at (i := 4) (oi := _) (d := some 61) (v := ?_) rfl rfl (by kernel_rfl) (by kernel_rfl) (by kernel_rfl) (fun _ _ _ h => h) (Or.inl ⟨by rfl, ?_⟩) hHeld ?_
                rotate_left
                next => (intro w hSw; (try dsimp only at hSw); go_simp; try with_reducible rfl)
                try simp only [Act.put, List.setIfInBounds_toArray, List.set_cons_zero, List.set_cons_succ]
                refine take_at (i := 5) (oi := _) (d := some 62) (v := ?_) rfl rfl (by kernel_rfl) (by kernel_rfl) (by kernel_rfl) (fun _ _ _ h => h) (Or.inl ⟨by rfl, ?_⟩) hHeld ?_
                rotate_left
                next => (intro w hSw; (try dsimp only at hSw); go_simp; try with_reducible rfl)
                try simp only [Act.put, List.setIfInBounds_toArray, List.set_cons_zero, List.set_cons_succ]
                refine take_at (i := 6) (oi := _) (d := some 63) (v := ?_) rfl rfl (by kernel_rfl) (by kernel_rfl) (by kernel_rfl) (fun _ _ _ h => h) (Or.inl ⟨by rfl, ?_⟩) hHeld ?_
                rotate_left
                next => (intro w hSw; (try dsimp only at hSw); go_simp; try with_reducible rfl)
                try simp only [Act.put, List.setIfInBounds_toArray, List.set_cons_zero, List.set_cons_succ]
                refine take_at (i := 7) (oi := _) (d := some 64) (v := ?_) rfl rfl (by kernel_rfl) (by kernel_rfl) (by kernel_rfl) (fun _ _ _ h => h) (Or.inl ⟨by rfl, ?_⟩) hHeld ?_
                rotate_left
                next => (intro w hSw; (try dsimp only at hSw); go_simp; try with_reducible rfl)
                try simp only [Act.put, List.setIfInBounds_toArray, List.set_cons_zero, List.set_cons_succ]
                refine wpAnyH_ready (rs := [8]) (by kernel_rfl) (by simp) (AllReadyH.cons (o := _) rfl (fun K hK => ?_) AllReadyH.nil)
                go_simp
                go_at_call 13
                refine (HH.out _ (HP.out.keep (HGO.out.trans hHeld.2))).mono ?_
                rintro e w' ⟨rfl, hb⟩
                refine hK.out _ _ (held_call hHeld hb) (fun hHeld => ?_)
                clear hK K hb
                try simp only [Act.put, List.setIfInBounds_toArray, List.set_cons_zero, List.set_cons_succ]
                refine take_at (i := 9) (oi := _) (d := some 56) (v := ?_) rfl rfl (by kernel_rfl) (by kernel_rfl) (by kernel_rfl) (fun _ _ _ h => h) (Or.inl ⟨by rfl, ?_⟩) hHeld ?_
                rotate_left
                next => (intro w hSw; (try dsimp only at hSw); go_simp; try with_reducible rfl)
                try simp only [Act.put, List.setIfInBounds_toArray, List.set_cons_zero, List.set_cons_succ]
                refine take_at (i := 10) (oi := _) (d := some 66) (v := ?_) rfl rfl (by kernel_rfl) (by kernel_rfl) (by kernel_rfl) (fun _ _ _ h => h) (Or.inl ⟨by rfl, ?_⟩) hHeld ?_
                rotate_left
                next => (intro w hSw; (try dsimp only at hSw); go_simp; try with_reducible rfl)
                try simp only [Act.put, List.setIfInBounds_toArray, List.set_cons_zero, List.set_cons_succ]
                refine take_at (i := 11) (oi := _) (d := some 67) (v := ?_) rfl rfl (by kernel_rfl) (by kernel_rfl) (by kernel_rfl) (fun _ _ _ h => h) (Or.inl ⟨by rfl, ?_⟩) hHeld ?_
                rotate_left
                next => (intro w hSw; (try dsimp only at hSw); go_simp; try with_reducible rfl)
                try simp only [Act.put, List.setIfInBounds_toArray, List.set_cons_zero, List.set_cons_succ]
                refine take_at (i := 12) (oi := _) (d := some 12) (v := ?_) rfl rfl (by kernel_rfl) (by kernel_rfl) (by kernel_rfl) (fun _ _ _ h => h) (Or.inl ⟨by rfl, ?_⟩) hHeld ?_
                rotate_left
                next => (intro w hSw; (try dsimp only at hSw); go_simp; try with_reducible rfl)
                try simp only [Act.put, List.setIfInBounds_toArray, List.set_cons_zero, List.set_cons_succ]
                refine take_at (i := 13) (oi := _) (d := some 13) (v := ?_) rfl rfl (by kernel_rfl) (by kernel_rfl) (by kernel_rfl) (fun _ _ _ h => h) (Or.inl ⟨by rfl, ?_⟩) hHeld ?_
                rotate_left
                next => (intro w hSw; (try dsimp only at hSw); go_simp; try with_reducible rfl)
                try simp only [Act.put, List.setIfInBounds_toArray, List.set_cons_zero, List.set_cons_succ]
                refine wpAnyH_done (by kernel_rfl) ?_ _

                go_wp2_with fail
                go_ret
                exact ⟨ret_bool (by rw [← HR.out, HE.out, wAll_no hlt HS.out]), HGO.out.trans (hHeld.2.trans (by repeat (first | with_reducible exact Gr.refl _ | with_reducible refine Gr.alloc ?_ _ | with_reducible refine Gr.drew ?_ | with_reducible refine Gr.trans ?_ (by assumption) | with_reducible refine Gr.setCell ?_ (by (try simp); (try omega)) _)))⟩
            · have HS : Hid (wStep (voiceOk ⟨l0, l1, l2, l3, l4, l5⟩ ⟨h0, h1, h2, h3, h4, h5⟩ st br) ⟨l0, l1, l2, l3, l4, l5⟩ ⟨h0, h1, h2, h3, h4, h5⟩ st n f u i = false) := Lib.hid (by
                have e : wIn n (u i) = false := decide_eq_false hin
                cases e3 : wStep (voiceOk ⟨l0, l1, l2, l3, l4, l5⟩ ⟨h0, h1, h2, h3, h4, h5⟩ st br) ⟨l0, l1, l2, l3, l4, l5⟩ ⟨h0, h1, h2, h3, h4, h5⟩ st n f u i with
                | false => rfl
                | true => rw [(wStep_in e3).1] at e; cases e)
              rcases (by omega : u i < 0 ∨ (0 ≤ u i ∧ (n : Int) ≤ u i)) with h | ⟨h, h'⟩
              all_goals
                clear hin
                go_wp2_with fail
                go_ret
                exact ⟨ret_bool (by rw [← HR.out, HE.out, wAll_no hlt HS.out]), HGO.out⟩
          · obtain rfl : i = m + 1 := by omega
            obtain ⟨wp, rfl⟩ : ∃ wp : World, wp = wr := ⟨_, rfl⟩
            go_wp2_with fail
            go_ret
            exact ⟨ret_bool (by rw [← HR.out, HE.out, HAL.out]), HGO.out⟩
      · have z1b : (u m == tz) = false := by simp [z1]
        have z1c : (u m != tz) = true := by simp [z1]
        have HE : Hid (wayB (voiceOk ⟨l0, l1, l2, l3, l4, l5⟩ ⟨h0, h1, h2, h3, h4, h5⟩ st br) ⟨l0, l1, l2, l3, l4, l5⟩ ⟨h0, h1, h2, h3, h4, h5⟩ st n f fr tz u (m + 1) = false) := Lib.hid (by unfold wayB; rw [show m + 1 - 1 = m from rfl, decide_eq_false (show ¬ (0 < m + 1 ∧ u 0 = fr ∧ u m = tz) from fun h => z1 h.2.2), Bool.false_and])
        clear z0 z1
        go_enter Tryd.func30, Tryd.ntmps30
        go_wp2_with fail
        go_ret
        exact ⟨ret_bool (by rw [← HR.out, HE.out]), (by repeat (first | with_reducible exact Gr.refl _ | with_reducible refine Gr.alloc ?_ _ | with_reducible refine Gr.drew ?_ | with_reducible refine Gr.trans ?_ (by assumption) | with_reducible refine Gr.setCell ?_ (by (try simp); (try omega)) _))⟩
    · have z0b : (u 0 == fr) = false := by simp [z0]
      have z0c : (u 0 != fr) = true := by simp [z0]
      have HE : Hid (wayB (voiceOk ⟨l0, l1, l2, l3, l4, l5⟩ ⟨h0, h1, h2, h3, h4, h5⟩ st br) ⟨l0, l1, l2, l3, l4, l5⟩ ⟨h0, h1, h2, h3, h4, h5⟩ st n f fr tz u (m + 1) = false) := Lib.hid (by unfold wayB; rw [decide_eq_false (show ¬ (0 < m + 1 ∧ u 0 = fr ∧ u (m + 1 - 1) = tz) from fun h => z0 h.2.1), Bool.false_and])
      clear z0
      go_enter Tryd.func30, Tryd.ntmps30
      go_wp2_with fail
      go_ret
      exact ⟨ret_bool (by rw [← HR.out, HE.out]), (by repeat (first | with_reducible exact Gr.refl _ | with_reducible refine Gr.alloc ?_ _ | with_reducible refine Gr.drew ?_ | with_reducible refine Gr.trans ?_ (by assumption) | with_reducible refine Gr.setCell ?_ (by (try simp); (try omega)) _))⟩
end Go.Proofs.YtiogfohjepobkaaDoor
