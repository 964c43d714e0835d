/-
  schismaref03: Valid, Interval, Prime.
-/
import Derived.Test.YtelhmdhhabgihaaGreatDoorPitch
namespace Go.Proofs.YtelhmdhhabgihaaGreatDoor
open Go.RowKit

set_option maxHeartbeats 1000000 in
theorem r3valid_any (p0 p1 p2 p3 p4 p5 : Int) (w : World) :
    Calls Tryz.prog 37 #[.agg #[.int .i64 p0, .int .i64 p1, .int .i64 p2, .int .i64 p3, .int .i64 p4, .int .i64 p5]] w fun e w' => e = .returned (.bool (allIn ⟨p0, p1, p2, p3, p4, p5⟩ 576 6)) ∧ Gr w w' := by
  go_enter Tryz.func37, Tryz.ntmps37
  go_wp2
  go_loop [3] (fun i => ∃ k : Nat, k ≤ 6 ∧ i = .int .i64 k ∧ Hid (allIn ⟨p0, p1, p2, p3, p4, p5⟩ 576 k = true)) (fun i => 6 - (intOf i).toNat)
  case atStart => exact ⟨0, by omega, rfl, rfl⟩
  case round =>
    obtain ⟨k, hk, rfl, hall⟩ := hrel
    by_cases hlt : k < 6
    · have hx : (w.alloc (.cells #[.int .i64 p0, .int .i64 p1, .int .i64 p2, .int .i64 p3, .int .i64 p4, .int .i64 p5] 54)).cell? ⟨w.heap.size, k, none⟩ = some (.int .i64 (V6.get ⟨p0, p1, p2, p3, p4, p5⟩ k)) := by
        obtain rfl | rfl | rfl | rfl | rfl | rfl : k = 0 ∨ k = 1 ∨ k = 2 ∨ k = 3 ∨ k = 4 ∨ k = 5 := by omega
        all_goals simp [go_sem, V6.get]
      generalize hwx : w.alloc (.cells #[.int .i64 p0, .int .i64 p1, .int .i64 p2, .int .i64 p3, .int .i64 p4, .int .i64 p5] 54) = wx at hx ⊢
      have hg : Gr w wx := hwx ▸ Gr.alloc (Gr.refl w) _
      clear hwx
      generalize hv : V6.get ⟨p0, p1, p2, p3, p4, p5⟩ k = x at hx
      have HV := Lib.hid hv; clear hv
      go_wp2
      · go_ret
        exact ⟨ret_bool (allIn_no ⟨p0, p1, p2, p3, p4, p5⟩ 576 k hlt (by rw [HV.out]; assumption)).symm, (by repeat (first | with_reducible exact Gr.refl _ | with_reducible refine Gr.alloc ?_ _ | with_reducible refine Gr.drew ?_ | with_reducible refine Gr.trans ?_ (by assumption) | with_reducible refine Gr.setCell ?_ (by (try simp); (try omega)) _))⟩
      · go_round
        case rel => exact ⟨k + 1, by omega, by go_num, allIn_next ⟨p0, p1, p2, p3, p4, p5⟩ 576 k hall.out (by rw [HV.out]; omega) (by rw [HV.out]; omega)⟩
        case measure => simp [intOf]; omega
      · go_ret
        exact ⟨ret_bool (allIn_no ⟨p0, p1, p2, p3, p4, p5⟩ 576 k hlt (by rw [HV.out]; omega)).symm, (by repeat (first | with_reducible exact Gr.refl _ | with_reducible refine Gr.alloc ?_ _ | with_reducible refine Gr.drew ?_ | with_reducible refine Gr.trans ?_ (by assumption) | with_reducible refine Gr.setCell ?_ (by (try simp); (try omega)) _))⟩
    · obtain rfl : k = 6 := by omega
      go_wp2
      go_ret
      exact ⟨ret_bool hall.out.symm, (by repeat (first | with_reducible exact Gr.refl _ | with_reducible refine Gr.alloc ?_ _ | with_reducible refine Gr.drew ?_ | with_reducible refine Gr.trans ?_ (by assumption) | with_reducible refine Gr.setCell ?_ (by (try simp); (try omega)) _))⟩
end Go.Proofs.YtelhmdhhabgihaaGreatDoor
