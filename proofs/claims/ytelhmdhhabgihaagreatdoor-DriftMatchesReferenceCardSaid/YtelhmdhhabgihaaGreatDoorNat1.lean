import Derived.Test.YtelhmdhhabgihaaGreatDoorMore
import Derived.Test.YtelhmdhhabgihaaGreatDoorPrime
namespace Go.Proofs.YtelhmdhhabgihaaGreatDoor
open Go.RowKit

theorem ret_slice {a : Option Addr} {j k : Nat} (h : j = k) : Ending.returned (.slice a j j) = .returned (.slice a k k) := by rw [h]

set_option maxRecDepth 100000 in
set_option maxHeartbeats 1000000 in
theorem form_any (b n c : Nat) (l : Nat → Int) (w : World) (_hn : n ≤ 2000) (hnc : n ≤ c) (hc : c ≤ 100000)
    (hcell : ∀ i, i < n → w.cell? ⟨b, i, none⟩ = some (.int .u32 (l i))) (hlim : stripF l n ≤ 640) :
    Calls Tryz.prog 77 #[.slice (some ⟨b, 0, none⟩) n c] w
      fun e w' => e = .returned (.slice (some ⟨b, 0, none⟩) (stripF l n) (stripF l n)) ∧ Gr w w' := by
  have HC := Lib.hid hcell
  clear hcell
  go_enter Tryz.func77, Tryz.ntmps77
  go_wp2
  go_loop [3] (fun v => ∃ k : Nat, k ≤ n ∧ v = .int .i64 k ∧ Hid (stripF l k = stripF l n)) (fun v => (intOf v).toNat)
  case atStart => exact ⟨n, Nat.le_refl _, rfl, rfl⟩
  case round =>
    obtain ⟨k, hk, rfl, hs⟩ := hrel
    have hkl : k ≤ 640 ∨ 640 < k := by omega
    rcases Nat.eq_zero_or_pos k with rfl | hpos
    · go_wp2
      go_ret
      exact ⟨ret_slice (by rw [← hs.out]; rfl), (by repeat (first | with_reducible exact Gr.refl _ | with_reducible refine Gr.alloc ?_ _ | with_reducible refine Gr.drew ?_ | with_reducible refine Gr.trans ?_ (by assumption) | with_reducible refine Gr.setCell ?_ (by (try simp); (try omega)) _))⟩
    · obtain ⟨j, rfl⟩ : ∃ j, k = j + 1 := ⟨k - 1, by omega⟩
      have hx := HC.out j (by omega)
      by_cases h0 : l j = 0
      · have hs2 := (strip_zero h0).symm.trans hs.out
        have HS := Lib.hid hs2
        clear hs2
        rw [h0] at hx
        go_wp2
        go_round
        case rel => exact ⟨j, by omega, by go_num, HS⟩
        case measure => simp [intOf]
      · have hs2 := (strip_stop h0).symm.trans hs.out
        have hj : j + 1 ≤ 640 := by omega
        have HS := Lib.hid hs2
        clear hs2
        have hb : (l j == 0) = false := by simpa using h0
        generalize l j = x at hx hb
        clear h0
        go_wp2
        go_ret
        exact ⟨ret_slice HS.out, (by repeat (first | with_reducible exact Gr.refl _ | with_reducible refine Gr.alloc ?_ _ | with_reducible refine Gr.drew ?_ | with_reducible refine Gr.trans ?_ (by assumption) | with_reducible refine Gr.setCell ?_ (by (try simp); (try omega)) _))⟩
end Go.Proofs.YtelhmdhhabgihaaGreatDoor
