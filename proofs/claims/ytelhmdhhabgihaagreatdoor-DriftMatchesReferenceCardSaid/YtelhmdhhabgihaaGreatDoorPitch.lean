import Derived.Test.YtelhmdhhabgihaaGreatDoorBase
namespace Go.Proofs.YtelhmdhhabgihaaGreatDoor
open Go.RowKit

theorem allIn_of (v : V6) (b : Int) (n m : Nat) (h : n ≤ m) (hf : allIn v b n = false) : allIn v b m = false := by
  induction m with
  | zero => obtain rfl : n = 0 := by omega
            exact hf
  | succ m ih =>
    rcases Nat.lt_or_ge n (m + 1) with h' | h'
    · simp [allIn, ih (by omega)]
    · obtain rfl : n = m + 1 := by omega
      exact hf
theorem allIn_no (v : V6) (b : Int) (k : Nat) (hk : k < 6) (h : v.get k < -b ∨ b < v.get k) : allIn v b 6 = false := by
  refine allIn_of v b (k + 1) 6 hk ?_
  rcases h with h | h
  · simp [allIn]; omega
  · simp [allIn]; omega
theorem allIn_next (v : V6) (b : Int) (k : Nat) (h : allIn v b k = true) (h1 : -b ≤ v.get k) (h2 : v.get k ≤ b) : allIn v b (k + 1) = true := by
  simp [allIn, h, h1, h2]

set_option maxHeartbeats 400000 in
theorem within_any (a0 a1 a2 a3 a4 a5 b : Int) (hb : 0 ≤ b) (hb2 : b ≤ 1000000) (w : World) :
    Calls Tryz.prog 53 #[.agg #[.int .i64 a0, .int .i64 a1, .int .i64 a2, .int .i64 a3, .int .i64 a4, .int .i64 a5], .int .i64 b] w
      fun e w' => e = .returned (.bool (allIn ⟨a0, a1, a2, a3, a4, a5⟩ b 6)) ∧ Gr w w' := by
  go_enter Tryz.func53, Tryz.ntmps53
  go_wp2
  go_loop [8] (fun i => ∃ k : Nat, k ≤ 6 ∧ i = .int .i64 k ∧ Hid (allIn ⟨a0, a1, a2, a3, a4, a5⟩ b k = true)) (fun i => 6 - (intOf i).toNat)
  case atStart => exact ⟨0, by omega, rfl, rfl⟩
  case round =>
    obtain ⟨k, hk, rfl, hall⟩ := hrel
    by_cases hlt : k < 6
    · have hx := run_index6 a0 a1 a2 a3 a4 a5 k hlt
      generalize hg : (⟨a0, a1, a2, a3, a4, a5⟩ : V6) = v at hx hall ⊢
      have HG := Lib.hid hg; clear hg
      generalize hv : v.get k = x at hx
      have HV := Lib.hid hv; clear hv
      have HX : Hid _ := hx
      go_wp2
      · go_ret
        exact ⟨ret_bool (by rw [HG.out]; exact (allIn_no v b k hlt (by rw [HV.out]; assumption)).symm), (by repeat (first | exact Gr.refl _ | refine Gr.alloc ?_ _ | refine Gr.drew ?_ | refine Gr.trans ?_ (by assumption) | refine Gr.setCell ?_ (by (try simp); (try omega)) _))⟩
      · go_round
        case rel => exact ⟨k + 1, by omega, by go_num, allIn_next v b k hall.out (by rw [HV.out]; assumption) (by rw [HV.out]; omega)⟩
        case measure => simp [intOf]; omega
      · go_ret
        exact ⟨ret_bool (by rw [HG.out]; exact (allIn_no v b k hlt (by rw [HV.out]; omega)).symm), (by repeat (first | exact Gr.refl _ | refine Gr.alloc ?_ _ | refine Gr.drew ?_ | refine Gr.trans ?_ (by assumption) | refine Gr.setCell ?_ (by (try simp); (try omega)) _))⟩
    · obtain rfl : k = 6 := by omega
      have HA : Hid (allIn ⟨a0, a1, a2, a3, a4, a5⟩ b 6 = true) := hall
      go_wp2
      go_ret
      exact ⟨ret_bool HA.out.symm, (by repeat (first | exact Gr.refl _ | refine Gr.alloc ?_ _ | refine Gr.drew ?_ | refine Gr.trans ?_ (by assumption) | refine Gr.setCell ?_ (by (try simp); (try omega)) _))⟩

theorem pitchValid_any (a0 a1 a2 a3 a4 a5 : Int) (w : World) :
    Calls Tryz.prog 34 #[.agg #[.int .i64 a0, .int .i64 a1, .int .i64 a2, .int .i64 a3, .int .i64 a4, .int .i64 a5]] w
      fun e w' => e = .returned (.bool (allIn ⟨a0, a1, a2, a3, a4, a5⟩ 576 6)) ∧ Gr w w' := by
  go_enter Tryz.func34, Tryz.ntmps34
  go_wp2_with (go_at_call 53; refine (within_any _ _ _ _ _ _ _ (by omega) (by omega) _).mono ?_; rintro e w' ⟨rfl, hb⟩)
  go_ret
  exact ⟨rfl, (by repeat (first | exact Gr.refl _ | refine Gr.alloc ?_ _ | refine Gr.drew ?_ | refine Gr.trans ?_ (by assumption) | refine Gr.setCell ?_ (by (try simp); (try omega)) _))⟩
end Go.Proofs.YtelhmdhhabgihaaGreatDoor
