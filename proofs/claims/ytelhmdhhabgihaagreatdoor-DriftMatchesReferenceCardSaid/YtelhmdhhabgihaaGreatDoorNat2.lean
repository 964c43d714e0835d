import Derived.Test.YtelhmdhhabgihaaGreatDoorNat1
import Derived.Deep.RegionHeld3
namespace Go.Proofs.YtelhmdhhabgihaaGreatDoor
open Go.RowKit

theorem cmpInt_any (x y : Int) (w : World) :
    Calls Tryz.prog 79 #[.int .i64 x, .int .i64 y] w fun e w' => e = .returned (.int .i64 (cmpZ x y)) ∧ Gr w w' := by
  go_enter Tryz.func79, Tryz.ntmps79
  go_wp2_with go_in
  all_goals go_ret
  all_goals refine ⟨ret_int ?_, (by repeat (first | with_reducible exact Gr.refl _ | with_reducible refine Gr.alloc ?_ _ | with_reducible refine Gr.drew ?_ | with_reducible refine Gr.trans ?_ (by assumption) | with_reducible refine Gr.setCell ?_ (by (try simp); (try omega)) _))⟩
  all_goals first | (rw [cmpZ, if_pos (by omega)]; done) | (rw [cmpZ, if_neg (by omega), if_pos (by omega)]; done) | (rw [cmpZ, if_neg (by omega), if_neg (by omega)]; done)
theorem cmpU32_any (x y : Int) (w : World) :
    Calls Tryz.prog 80 #[.int .u32 x, .int .u32 y] w fun e w' => e = .returned (.int .i64 (cmpZ x y)) ∧ Gr w w' := by
  go_enter Tryz.func80, Tryz.ntmps80
  go_wp2_with go_in
  all_goals go_ret
  all_goals refine ⟨ret_int ?_, (by repeat (first | with_reducible exact Gr.refl _ | with_reducible refine Gr.alloc ?_ _ | with_reducible refine Gr.drew ?_ | with_reducible refine Gr.trans ?_ (by assumption) | with_reducible refine Gr.setCell ?_ (by (try simp); (try omega)) _))⟩
  all_goals first | (rw [cmpZ, if_pos (by omega)]; done) | (rw [cmpZ, if_neg (by omega), if_pos (by omega)]; done) | (rw [cmpZ, if_neg (by omega), if_neg (by omega)]; done)

theorem cmpU32_same (x y : Int) (w : World) :
    Calls Tryz.prog 80 #[.int .u32 x, .int .u32 y] w fun e w' => e = .returned (.int .i64 (cmpZ x y)) ∧ w' = w := by
  go_enter Tryz.func80, Tryz.ntmps80
  go_wp2_with go_in
  all_goals go_ret
  all_goals refine ⟨ret_int ?_, rfl⟩
  all_goals first | (rw [cmpZ, if_pos (by omega)]; done) | (rw [cmpZ, if_neg (by omega), if_pos (by omega)]; done) | (rw [cmpZ, if_neg (by omega), if_neg (by omega)]; done)

set_option maxRecDepth 100000 in
set_option maxHeartbeats 1000000 in
theorem compare_ne (b n c b' n' c' : Nat) (w : World) (_hn : n ≤ 2000) (_hn' : n' ≤ 2000) (_h : ((n : Int) == (n' : Int)) = false) (h2 : ((n : Int) != (n' : Int)) = true) (h3 : n ≠ n') (l m : Nat → Int) :
    Calls Tryz.prog 59 #[.slice (some ⟨b, 0, none⟩) n c, .slice (some ⟨b', 0, none⟩) n' c'] w
      fun e w' => e = .returned (.int .i64 (cmpN n l n' m)) ∧ Gr w w' := by
  rw [cmpN, if_neg h3]
  clear h3
  go_enter Tryz.func59, Tryz.ntmps59
  go_wp2_with (go_at_call 79; with_reducible refine (cmpInt_any _ _ _).mono ?_; rintro e w' ⟨rfl, hb⟩; have hz := hb.le; obtain ⟨hc, hf⟩ := hb.cells; have hn := hb.cellsN; (try simp only [World.size_alloc] at hc hf hz hn); (try simp only [World.size_setCell] at hc hf hz hn); (try simp only [World.size_drew] at hc hf hz hn))
  go_ret
  exact ⟨rfl, (by repeat (first | with_reducible exact Gr.refl _ | with_reducible refine Gr.alloc ?_ _ | with_reducible refine Gr.drew ?_ | with_reducible refine Gr.trans ?_ (by assumption) | with_reducible refine Gr.setCell ?_ (by (try simp); (try omega)) _))⟩
theorem hdr {w : World} (q : Nat) : Gr w (w.drewN q) := by
  induction q with
  | zero => exact Gr.refl w
  | succ q ih => exact ih.drew

set_option maxRecDepth 100000 in
set_option maxHeartbeats 1000000 in
theorem compare_eq (b n c b' c' : Nat) (l m : Nat → Int) (w : World) (hn : n ≤ 2000)
    (hcell : ∀ i, i < n → w.cell? ⟨b, i, none⟩ = some (.int .u32 (l i))) (hcell' : ∀ i, i < n → w.cell? ⟨b', i, none⟩ = some (.int .u32 (m i))) :
    Calls Tryz.prog 59 #[.slice (some ⟨b, 0, none⟩) n c, .slice (some ⟨b', 0, none⟩) n c'] w
      fun e w' => e = .returned (.int .i64 (cmpN n l n m)) ∧ Gr w w' := by
  rw [cmpN, if_pos rfl]
  have HC := Lib.hid hcell; have HC' := Lib.hid hcell'
  clear hcell hcell'
  go_enter Tryz.func59, Tryz.ntmps59
  go_wp2
  go_loopw [5] (fun v wr => ∃ k : Nat, k ≤ n ∧ v = .int .i64 ((k : Int) - 1) ∧ Hid (cmpL l m k = cmpL l m n) ∧ Hid (∃ q, wr = w.drewN q)) (fun v _ => (intOf v + 1).toNat)
  case atStart => exact ⟨n, Nat.le_refl _, rfl, rfl, ⟨0, rfl⟩⟩
  case round =>
    obtain ⟨k, hk, rfl, hs, hq⟩ := hrel
    obtain ⟨q, rfl⟩ := hq.out
    rcases Nat.eq_zero_or_pos k with rfl | hpos
    · rw [show (((0 : Nat) : Int) - 1) = -1 by omega]
      go_wp2
      go_ret
      exact ⟨ret_int hs.out, hdr q⟩
    · obtain ⟨j, rfl⟩ : ∃ j, k = j + 1 := ⟨k - 1, by omega⟩
      rw [show (((j + 1 : Nat) : Int) - 1) = (j : Int) by omega]
      have hx := HC.out j (by omega)
      have hy := HC'.out j (by omega)
      by_cases h0 : l j = m j
      · have hs2 := (cmpL_same h0).symm.trans hs.out
        have HS := Lib.hid hs2
        clear hs2
        rw [← h0] at hy
        generalize l j = x at hx hy
        go_wp2
        go_region
        go_wp2
        go_roundw
        case rel => exact ⟨j, by omega, by go_num, HS, ⟨q + 1, rfl⟩⟩
        case measure => simp [intOf]
      · have hs2 := (cmpL_stop h0).symm.trans hs.out
        have HS := Lib.hid hs2
        clear hs2
        have hb : (l j != m j) = true := by simpa using h0
        generalize l j = x at hx hb HS
        generalize m j = y at hy hb HS
        clear h0
        have hj0 : (0 : Int) ≤ (j : Int) := by omega
        have hjn : (j : Int) < (n : Int) := by omega
        go_wp2
        go_region
        go_wp2
        go_region_held3 (fun wx => wx.cell? ⟨b, j, none⟩ = some (.int .u32 x) ∧ wx.cell? ⟨b', j, none⟩ = some (.int .u32 y) ∧ Gr w wx) ((exact ⟨hx, hy, (hdr q).drew.drew⟩))
          (first | (go_at_call 80; refine (cmpU32_same _ _ _).mono ?_; rintro e w' ⟨rfl, rfl⟩))
        all_goals
          go_wp2
          go_ret
          exact ⟨ret_int HS.out, (hdr q).drew.drew⟩
end Go.Proofs.YtelhmdhhabgihaaGreatDoor
