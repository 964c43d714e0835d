/-
  schismalaw13.swap.
-/
import Derived.Test.YtbaopniofhbjdaaDoorBPlain
import Derived.Test.YtbaopniofhbjdaaDoorHeld
import Derived.BigQuiet
import Derived.Deep.QuietTactic
namespace Go.Proofs.YtbaopniofhbjdaaDoor
open Go.RowKit

/-- A set of valves with two bits exchanged. -/
def swapI (s : Int) (i k : Nat) : Int := s - s / 2 ^ i % 2 * 2 ^ i - s / 2 ^ k % 2 * 2 ^ k + s / 2 ^ i % 2 * 2 ^ k + s / 2 ^ k % 2 * 2 ^ i

set_option maxRecDepth 100000 in
set_option maxHeartbeats 16000000 in
theorem swap_any (s : Int) (i k : Nat) (hs0 : 0 ≤ s) (hs : s ≤ 16) (hi : i < 4) (hk : k < 4) (w : World) :
    Calls Tryd.prog 29 #[.int .i64 s, .int .i64 (i : Int), .int .i64 (k : Int)] w fun e w' => e = .returned (.int .i64 (swapI s i k)) ∧ Gr w w' := by
  rcases (show i = 0 ∨ i = 1 ∨ i = 2 ∨ i = 3 by omega) with rfl | rfl | rfl | rfl <;> rcases (show k = 0 ∨ k = 1 ∨ k = 2 ∨ k = 3 by omega) with rfl | rfl | rfl | rfl
  all_goals
    clear hi hk
    simp only [swapI, Int.reducePow, Int.cast_ofNat_Int]
    go_enter Tryd.func29, Tryd.ntmps29
    go_wp2_with fail
    go_quiet (fail)
    go_wp2_with fail
    go_ret
    exact ⟨ret_int (by omega), (Gr.refl w).drewN _⟩
end Go.Proofs.YtbaopniofhbjdaaDoor
