/-
  The law BrassExchanged: the walk of the good case.
-/
import Derived.Test.YtbaopniofhbjdaaDoorBExch
import Derived.Test.YtbaopniofhbjdaaDoorExPlain
import Derived.Test.YtbaopniofhbjdaaDoorRowW
import Derived.Test.YtbaopniofhbjdaaDoorHas
import Derived.Test.YtbaopniofhbjdaaDoorEq6
import Derived.Deep.RegionLawGrows
import Derived.Deep.AppendLies
namespace Go.Proofs.YtbaopniofhbjdaaDoor
open Go.RowKit

/-- A list of N pairs is returned. -/
def FindN (N : Nat) (g : Nat → Nat → Int) (w : World) (e : Ending) (w' : World) : Prop :=
  ∃ A c, e = .returned (.tuple #[.slice A N c, .int .i64 0]) ∧ RowsAt w' 2 A N g ∧ N ≤ 9223372036854775807 ∧ Gr w w'
theorem infoPitch : (Tryd.prog.info? 23).map (fun i => (i.zero, i.size, i.bytes)) = some (some (.agg #[.int .i64 0, .int .i64 0, .int .i64 0, .int .i64 0, .int .i64 0, .int .i64 0]), 6, 48) := by kernel_rfl

set_option maxRecDepth 100000 in
set_option maxHeartbeats 16000000 in
theorem exch_good (b0 b1 b2 b3 b4 b5 most tol v0 v1 v2 v3 v4 v5 x z0 z1 z2 z3 z4 z5 ez : Int) (N : Nat) (G1 G2 : Nat → Nat → Int) (s i k : Nat) (A : Option Addr) (n c : Nat) (f : Nat → Nat → Int) (w : World) (hn : n ≤ 4) (hT : Tabs w) (hR : RowsAt w 6 A n f) (hi : i < n) (hk : k < n) (hne : i ≠ k) (hs : s < 2 ^ n)
    (hV : ∀ W, Gr w W → Calls Tryd.prog 13 #[.agg #[.int .i64 b0, .int .i64 b1, .int .i64 b2, .int .i64 b3, .int .i64 b4, .int .i64 b5, .slice A n c, .int .i64 most, .int .i64 tol]] W fun e w' => e = .returned (.bool true) ∧ Gr W w')
    (hI : ∀ W, Calls Tryd.prog 22 #[.agg #[.int .i64 v0, .int .i64 v1, .int .i64 v2, .int .i64 v3, .int .i64 v4, .int .i64 v5]] W fun e w' => e = .returned (.bool true) ∧ Gr W w')
    (hS1 : ∀ W, Gr w W → Calls Tryd.prog 15 #[.agg #[.int .i64 b0, .int .i64 b1, .int .i64 b2, .int .i64 b3, .int .i64 b4, .int .i64 b5, .slice A n c, .int .i64 most, .int .i64 tol], .agg #[.int .i64 x, .int .i64 (s : Int)]] W fun e w' => e = .returned (.tuple #[.agg #[.int .i64 z0, .int .i64 z1, .int .i64 z2, .int .i64 z3, .int .i64 z4, .int .i64 z5], .int .i64 ez]) ∧ Gr W w')
    (hS2 : ∀ W A' c', Gr w W → RowsAt W 6 A' n (exF f i k) → Calls Tryd.prog 15 #[.agg #[.int .i64 b0, .int .i64 b1, .int .i64 b2, .int .i64 b3, .int .i64 b4, .int .i64 b5, .slice A' n c', .int .i64 most, .int .i64 tol], .agg #[.int .i64 x, .int .i64 (swapI s i k)]] W fun e w' => e = .returned (.tuple #[.agg #[.int .i64 z0, .int .i64 z1, .int .i64 z2, .int .i64 z3, .int .i64 z4, .int .i64 z5], .int .i64 ez]) ∧ Gr W w')
    (hF1 : ∀ W, Gr w W → Calls Tryd.prog 17 #[.agg #[.int .i64 b0, .int .i64 b1, .int .i64 b2, .int .i64 b3, .int .i64 b4, .int .i64 b5, .slice A n c, .int .i64 most, .int .i64 tol], .agg #[.int .i64 v0, .int .i64 v1, .int .i64 v2, .int .i64 v3, .int .i64 v4, .int .i64 v5]] W (FindN N G1 W))
    (hF2 : ∀ W A' c', Gr w W → RowsAt W 6 A' n (exF f i k) → Calls Tryd.prog 17 #[.agg #[.int .i64 b0, .int .i64 b1, .int .i64 b2, .int .i64 b3, .int .i64 b4, .int .i64 b5, .slice A' n c', .int .i64 most, .int .i64 tol], .agg #[.int .i64 v0, .int .i64 v1, .int .i64 v2, .int .i64 v3, .int .i64 v4, .int .i64 v5]] W (FindN N G2 W))
    (hH : hasR G2 x (swapI s i k) N = hasR G1 x (s : Int) N) :
    Calls Tryd.prog 8 #[.agg #[.int .i64 b0, .int .i64 b1, .int .i64 b2, .int .i64 b3, .int .i64 b4, .int .i64 b5, .slice A n c, .int .i64 most, .int .i64 tol], .agg #[.int .i64 v0, .int .i64 v1, .int .i64 v2, .int .i64 v3, .int .i64 v4, .int .i64 v5], .agg #[.int .i64 x, .int .i64 (s : Int)], .int .i64 (i : Int), .int .i64 (k : Int)] w fun e w' => e = .returned (.bool true) ∧ Gr w w' := by
  have HT := Lib.hid hT; have HV := Lib.hid hV; have HI := Lib.hid hI; have HR := Lib.hid hR; have HS1 := Lib.hid hS1; have HS2 := Lib.hid hS2; have HF1 := Lib.hid hF1; have HF2 := Lib.hid hF2; have HHAS := Lib.hid hH
  clear hT hV hI hR hS1 hS2 hF1 hF2 hH
  have HQ := eq6P_yes z0 z1 z2 z3 z4 z5
  have hez : (ez == ez) = true := by simp
  go_enter Tryd.func8, Tryd.ntmps8
  go_upto_region 3 with (go_at_call 12; with_reducible refine (bhead_any _ (HT.out.keep (by repeat (first | with_reducible exact Gr.refl _ | with_reducible refine Gr.alloc ?_ _ | with_reducible refine Gr.drew ?_ | with_reducible refine Gr.trans ?_ (by assumption) | with_reducible refine Gr.setCell ?_ (by (try simp); (try omega)) _)))).mono ?_; rintro e w1 ⟨rfl, hb1⟩; have hz1 := hb1.le; obtain ⟨hc1, hf1⟩ := hb1.cells; (try simp only [World.size_alloc] at hc1 hf1 hz1))
  have k1 : HornAt w1 w.heap.size b0 b1 b2 b3 b4 b5 (.slice A n c) most tol := ⟨by simp [go_sem, *], by simp [go_sem, *], by simp [go_sem, *], by simp [go_sem, *], by simp [go_sem, *], by simp [go_sem, *], by simp [go_sem, *], by simp [go_sem, *], by simp [go_sem, *]⟩
  have k2 : SixV w1 (w.heap.size + 1) (.int .i64 v0) (.int .i64 v1) (.int .i64 v2) (.int .i64 v3) (.int .i64 v4) (.int .i64 v5) := ⟨by simp [go_sem, *], by simp [go_sem, *], by simp [go_sem, *], by simp [go_sem, *], by simp [go_sem, *], by simp [go_sem, *]⟩
  have k3 : w1.cell? ⟨w.heap.size + 1 + 1, 0, none⟩ = some (.int .i64 x) := by simp [go_sem, *]
  have k4 : w1.cell? ⟨w.heap.size + 1 + 1, 1, none⟩ = some (.int .i64 (s : Int)) := by simp [go_sem, *]
  have hzW : w.heap.size + 3 ≤ w1.heap.size := by omega
  have g1 : Gr w w1 := (by repeat (first | with_reducible exact Gr.refl _ | with_reducible refine Gr.alloc ?_ _ | with_reducible refine Gr.drew ?_ | with_reducible refine Gr.trans ?_ (by assumption) | with_reducible refine Gr.setCell ?_ (by (try simp); (try omega)) _))
  have HG := Lib.hid g1; have HK1 := Lib.hid k1; have HK2 := Lib.hid k2; have HK3 := Lib.hid (And.intro k3 k4)
  obtain ⟨p0, p1, p2, p3, p4, p5, p6, p7, p8⟩ := k1
  obtain ⟨u0, u1, u2, u3, u4, u5⟩ := k2
  clear hb1 hz1 hc1 hf1 g1
  have hw0 : IntKind.i64.wrap (2 ^ n) = 2 ^ n := IntWalk.i64_in _ (by have h1 : (1 : Int) ≤ 2 ^ n := (by have := Int.pow_pos (n := 2) (m := n) (by omega); omega); have h2 : (2 : Int) ^ n ≤ 16 := (by rcases (show n = 0 ∨ n = 1 ∨ n = 2 ∨ n = 3 ∨ n = 4 by omega) with rfl | rfl | rfl | rfl | rfl <;> decide); omega)
  have hp16 := pow_le16 hn
  have hmn : min n 64 = n := by omega
  have f1 : decide ((i : Int) < 0) = false := by simp
  have f2 : decide (n ≤ i) = false := by simp; omega
  have f2' : decide ((n : Int) ≤ (i : Int)) = false := by simp; omega
  have f3 : decide ((k : Int) < 0) = false := by simp
  have f4 : decide (n ≤ k) = false := by simp; omega
  have f4' : decide ((n : Int) ≤ (k : Int)) = false := by simp; omega
  have f5 : ((i : Int) == (k : Int)) = false := by rw [beq_eq_false_iff_ne]; omega
  have f5' : (i == k) = false := by rw [beq_eq_false_iff_ne]; exact hne
  have f6 : decide ((s : Int) < 0) = false := by simp
  have f7 : decide ((2 : Int) ^ n ≤ (s : Int)) = false := by
    have : ((2 ^ n : Nat) : Int) = (2 : Int) ^ n := by simp
    simp; omega
  go_cut [69] (fun s69 wx => s69 = .bool false ∧ Gr w1 wx)
  case first =>
    refine wp_region_held_drew (S := fun wx => (∀ b o, (⟨min (b + 1) w1.heap.size, 0, none⟩ : Addr) = ⟨b + 1, 0, none⟩ → wx.cell? ⟨b, o, none⟩ = w1.cell? ⟨b, o, none⟩) ∧ Gr w1 wx) (by kernel_rfl) (held_drew w1) (fun hHeld => ?_)
    first | (refine take_at (i := 0) (oi := _) (d := some 27) (v := undef) rfl rfl (by kernel_rfl) (by kernel_rfl) (by kernel_rfl) (fun _ _ _ h => h) (Or.inr ⟨by rfl, rfl⟩) hHeld ?_) | (refine take_at (i := 0) (oi := _) (d := some 27) (v := ?_) rfl rfl (by kernel_rfl) (by kernel_rfl) (by kernel_rfl) (fun _ _ _ h => h) (Or.inl ⟨by rfl, ?_⟩) hHeld ?_; rotate_left; next => (intro w hSw; (try dsimp only at hSw); go_simp; try with_reducible rfl))
    try simp only [Act.put, List.setIfInBounds_toArray, List.set_cons_zero, List.set_cons_succ]
    first | (refine take_at (i := 1) (oi := _) (d := some 28) (v := undef) rfl rfl (by kernel_rfl) (by kernel_rfl) (by kernel_rfl) (fun _ _ _ h => h) (Or.inr ⟨by rfl, rfl⟩) hHeld ?_) | (refine wpAnyH_ready (rs := [1]) (by kernel_rfl) (by simp) (AllReadyH.cons (o := _) rfl (fun K hK => ?_) AllReadyH.nil); go_simp; go_at_call 13; refine (HV.out _ (HG.out.trans (held_gr hHeld))).mono ?_; rintro e w' ⟨rfl, hb⟩; refine hK.out _ _ (held_call hHeld hb) (fun hHeld => ?_); clear hK K hb)
    try simp only [Act.put, List.setIfInBounds_toArray, List.set_cons_zero, List.set_cons_succ]
    first | (refine take_at (i := 2) (oi := _) (d := some 29) (v := undef) rfl rfl (by kernel_rfl) (by kernel_rfl) (by kernel_rfl) (fun _ _ _ h => h) (Or.inr ⟨by rfl, rfl⟩) hHeld ?_) | (refine take_at (i := 2) (oi := _) (d := some 29) (v := ?_) rfl rfl (by kernel_rfl) (by kernel_rfl) (by kernel_rfl) (fun _ _ _ h => h) (Or.inl ⟨by rfl, ?_⟩) hHeld ?_; rotate_left; next => (intro w hSw; (try dsimp only at hSw); go_simp; try with_reducible rfl))
    try simp only [Act.put, List.setIfInBounds_toArray, List.set_cons_zero, List.set_cons_succ]
    first | (refine take_at (i := 3) (oi := _) (d := some 30) (v := undef) rfl rfl (by kernel_rfl) (by kernel_rfl) (by kernel_rfl) (fun _ _ _ h => h) (Or.inr ⟨by rfl, rfl⟩) hHeld ?_) | (refine take_at (i := 3) (oi := _) (d := some 30) (v := ?_) rfl rfl (by kernel_rfl) (by kernel_rfl) (by kernel_rfl) (fun _ _ _ h => h) (Or.inl ⟨by rfl, ?_⟩) hHeld ?_; rotate_left; next => (intro w hSw; (try dsimp only at hSw); go_simp; try with_reducible rfl))
    try simp only [Act.put, List.setIfInBounds_toArray, List.set_cons_zero, List.set_cons_succ]
    first | (refine take_at (i := 4) (oi := _) (d := some 31) (v := undef) rfl rfl (by kernel_rfl) (by kernel_rfl) (by kernel_rfl) (fun _ _ _ h => h) (Or.inr ⟨by rfl, rfl⟩) hHeld ?_) | (refine take_at (i := 4) (oi := _) (d := some 31) (v := ?_) rfl rfl (by kernel_rfl) (by kernel_rfl) (by kernel_rfl) (fun _ _ _ h => h) (Or.inl ⟨by rfl, ?_⟩) hHeld ?_; rotate_left; next => (intro w hSw; (try dsimp only at hSw); go_simp; try with_reducible rfl))
    try simp only [Act.put, List.setIfInBounds_toArray, List.set_cons_zero, List.set_cons_succ]
    first | (refine take_at (i := 5) (oi := _) (d := some 32) (v := undef) rfl rfl (by kernel_rfl) (by kernel_rfl) (by kernel_rfl) (fun _ _ _ h => h) (Or.inr ⟨by rfl, rfl⟩) hHeld ?_) | (refine wpAnyH_ready (rs := [5]) (by kernel_rfl) (by simp) (AllReadyH.cons (o := _) rfl (fun K hK => ?_) AllReadyH.nil); go_simp; go_at_call 22; refine (HI.out _).mono ?_; rintro e w' ⟨rfl, hb⟩; refine hK.out _ _ (held_call hHeld hb) (fun hHeld => ?_); clear hK K hb)
    try simp only [Act.put, List.setIfInBounds_toArray, List.set_cons_zero, List.set_cons_succ]
    first | (refine take_at (i := 6) (oi := _) (d := some 33) (v := undef) rfl rfl (by kernel_rfl) (by kernel_rfl) (by kernel_rfl) (fun _ _ _ h => h) (Or.inr ⟨by rfl, rfl⟩) hHeld ?_) | (refine take_at (i := 6) (oi := _) (d := some 33) (v := ?_) rfl rfl (by kernel_rfl) (by kernel_rfl) (by kernel_rfl) (fun _ _ _ h => h) (Or.inl ⟨by rfl, ?_⟩) hHeld ?_; rotate_left; next => (intro w hSw; (try dsimp only at hSw); go_simp; try with_reducible rfl))
    try simp only [Act.put, List.setIfInBounds_toArray, List.set_cons_zero, List.set_cons_succ]
    first | (refine take_at (i := 7) (oi := _) (d := some 34) (v := undef) rfl rfl (by kernel_rfl) (by kernel_rfl) (by kernel_rfl) (fun _ _ _ h => h) (Or.inr ⟨by rfl, rfl⟩) hHeld ?_) | (refine take_at (i := 7) (oi := _) (d := some 34) (v := ?_) rfl rfl (by kernel_rfl) (by kernel_rfl) (by kernel_rfl) (fun _ _ _ h => h) (Or.inl ⟨by rfl, ?_⟩) hHeld ?_; rotate_left; next => (intro w hSw; (try dsimp only at hSw); go_simp; try with_reducible rfl))
    try simp only [Act.put, List.setIfInBounds_toArray, List.set_cons_zero, List.set_cons_succ]
    first | (refine take_at (i := 8) (oi := _) (d := some 35) (v := undef) rfl rfl (by kernel_rfl) (by kernel_rfl) (by kernel_rfl) (fun _ _ _ h => h) (Or.inr ⟨by rfl, rfl⟩) hHeld ?_) | (refine take_at (i := 8) (oi := _) (d := some 35) (v := ?_) rfl rfl (by kernel_rfl) (by kernel_rfl) (by kernel_rfl) (fun _ _ _ h => h) (Or.inl ⟨by rfl, ?_⟩) hHeld ?_; rotate_left; next => (intro w hSw; (try dsimp only at hSw); go_simp; try with_reducible rfl))
    try simp only [Act.put, List.setIfInBounds_toArray, List.set_cons_zero, List.set_cons_succ]
    first | (refine take_at (i := 9) (oi := _) (d := some 36) (v := undef) rfl rfl (by kernel_rfl) (by kernel_rfl) (by kernel_rfl) (fun _ _ _ h => h) (Or.inr ⟨by rfl, rfl⟩) hHeld ?_) | (refine take_at (i := 9) (oi := _) (d := some 36) (v := ?_) rfl rfl (by kernel_rfl) (by kernel_rfl) (by kernel_rfl) (fun _ _ _ h => h) (Or.inl ⟨by rfl, ?_⟩) hHeld ?_; rotate_left; next => (intro w hSw; (try dsimp only at hSw); go_simp; try with_reducible rfl))
    try simp only [Act.put, List.setIfInBounds_toArray, List.set_cons_zero, List.set_cons_succ]
    first | (refine take_at (i := 10) (oi := _) (d := some 37) (v := undef) rfl rfl (by kernel_rfl) (by kernel_rfl) (by kernel_rfl) (fun _ _ _ h => h) (Or.inr ⟨by rfl, rfl⟩) hHeld ?_) | (refine take_at (i := 10) (oi := _) (d := some 37) (v := ?_) rfl rfl (by kernel_rfl) (by kernel_rfl) (by kernel_rfl) (fun _ _ _ h => h) (Or.inl ⟨by rfl, ?_⟩) hHeld ?_; rotate_left; next => (intro w hSw; (try dsimp only at hSw); go_simp; try with_reducible rfl))
    try simp only [Act.put, List.setIfInBounds_toArray, List.set_cons_zero, List.set_cons_succ]
    first | (refine take_at (i := 11) (oi := _) (d := some 38) (v := undef) rfl rfl (by kernel_rfl) (by kernel_rfl) (by kernel_rfl) (fun _ _ _ h => h) (Or.inr ⟨by rfl, rfl⟩) hHeld ?_) | (refine take_at (i := 11) (oi := _) (d := some 38) (v := ?_) rfl rfl (by kernel_rfl) (by kernel_rfl) (by kernel_rfl) (fun _ _ _ h => h) (Or.inl ⟨by rfl, ?_⟩) hHeld ?_; rotate_left; next => (intro w hSw; (try dsimp only at hSw); go_simp; try with_reducible rfl))
    try simp only [Act.put, List.setIfInBounds_toArray, List.set_cons_zero, List.set_cons_succ]
    first | (refine take_at (i := 12) (oi := _) (d := some 39) (v := undef) rfl rfl (by kernel_rfl) (by kernel_rfl) (by kernel_rfl) (fun _ _ _ h => h) (Or.inr ⟨by rfl, rfl⟩) hHeld ?_) | (refine take_at (i := 12) (oi := _) (d := some 39) (v := ?_) rfl rfl (by kernel_rfl) (by kernel_rfl) (by kernel_rfl) (fun _ _ _ h => h) (Or.inl ⟨by rfl, ?_⟩) hHeld ?_; rotate_left; next => (intro w hSw; (try dsimp only at hSw); go_simp; try with_reducible rfl))
    try simp only [Act.put, List.setIfInBounds_toArray, List.set_cons_zero, List.set_cons_succ]
    first | (refine take_at (i := 13) (oi := _) (d := some 40) (v := undef) rfl rfl (by kernel_rfl) (by kernel_rfl) (by kernel_rfl) (fun _ _ _ h => h) (Or.inr ⟨by rfl, rfl⟩) hHeld ?_) | (refine take_at (i := 13) (oi := _) (d := some 40) (v := ?_) rfl rfl (by kernel_rfl) (by kernel_rfl) (by kernel_rfl) (fun _ _ _ h => h) (Or.inl ⟨by rfl, ?_⟩) hHeld ?_; rotate_left; next => (intro w hSw; (try dsimp only at hSw); go_simp; try with_reducible rfl))
    try simp only [Act.put, List.setIfInBounds_toArray, List.set_cons_zero, List.set_cons_succ]
    first | (refine take_at (i := 14) (oi := _) (d := some 41) (v := undef) rfl rfl (by kernel_rfl) (by kernel_rfl) (by kernel_rfl) (fun _ _ _ h => h) (Or.inr ⟨by rfl, rfl⟩) hHeld ?_) | (refine take_at (i := 14) (oi := _) (d := some 41) (v := ?_) rfl rfl (by kernel_rfl) (by kernel_rfl) (by kernel_rfl) (fun _ _ _ h => h) (Or.inl ⟨by rfl, ?_⟩) hHeld ?_; rotate_left; next => (intro w hSw; (try dsimp only at hSw); go_simp; try with_reducible rfl))
    try simp only [Act.put, List.setIfInBounds_toArray, List.set_cons_zero, List.set_cons_succ]
    first | (refine take_at (i := 15) (oi := _) (d := some 42) (v := undef) rfl rfl (by kernel_rfl) (by kernel_rfl) (by kernel_rfl) (fun _ _ _ h => h) (Or.inr ⟨by rfl, rfl⟩) hHeld ?_) | (refine take_at (i := 15) (oi := _) (d := some 42) (v := ?_) rfl rfl (by kernel_rfl) (by kernel_rfl) (by kernel_rfl) (fun _ _ _ h => h) (Or.inl ⟨by rfl, ?_⟩) hHeld ?_; rotate_left; next => (intro w hSw; (try dsimp only at hSw); go_simp; try with_reducible rfl))
    try simp only [Act.put, List.setIfInBounds_toArray, List.set_cons_zero, List.set_cons_succ]
    first | (refine take_at (i := 16) (oi := _) (d := some 43) (v := undef) rfl rfl (by kernel_rfl) (by kernel_rfl) (by kernel_rfl) (fun _ _ _ h => h) (Or.inr ⟨by rfl, rfl⟩) hHeld ?_) | (refine take_at (i := 16) (oi := _) (d := some 43) (v := ?_) rfl rfl (by kernel_rfl) (by kernel_rfl) (by kernel_rfl) (fun _ _ _ h => h) (Or.inl ⟨by rfl, ?_⟩) hHeld ?_; rotate_left; next => (intro w hSw; (try dsimp only at hSw); go_simp; try with_reducible rfl))
    try simp only [Act.put, List.setIfInBounds_toArray, List.set_cons_zero, List.set_cons_succ]
    first | (refine take_at (i := 17) (oi := _) (d := some 44) (v := undef) rfl rfl (by kernel_rfl) (by kernel_rfl) (by kernel_rfl) (fun _ _ _ h => h) (Or.inr ⟨by rfl, rfl⟩) hHeld ?_) | (refine take_at (i := 17) (oi := _) (d := some 44) (v := ?_) rfl rfl (by kernel_rfl) (by kernel_rfl) (by kernel_rfl) (fun _ _ _ h => h) (Or.inl ⟨by rfl, ?_⟩) hHeld ?_; rotate_left; next => (intro w hSw; (try dsimp only at hSw); go_simp; try with_reducible rfl))
    try simp only [Act.put, List.setIfInBounds_toArray, List.set_cons_zero, List.set_cons_succ]
    first | (refine take_at (i := 18) (oi := _) (d := some 45) (v := undef) rfl rfl (by kernel_rfl) (by kernel_rfl) (by kernel_rfl) (fun _ _ _ h => h) (Or.inr ⟨by rfl, rfl⟩) hHeld ?_) | (refine take_at (i := 18) (oi := _) (d := some 45) (v := ?_) rfl rfl (by kernel_rfl) (by kernel_rfl) (by kernel_rfl) (fun _ _ _ h => h) (Or.inl ⟨by rfl, ?_⟩) hHeld ?_; rotate_left; next => (intro w hSw; (try dsimp only at hSw); go_simp; try with_reducible rfl))
    try simp only [Act.put, List.setIfInBounds_toArray, List.set_cons_zero, List.set_cons_succ]
    first | (refine take_at (i := 19) (oi := _) (d := some 46) (v := undef) rfl rfl (by kernel_rfl) (by kernel_rfl) (by kernel_rfl) (fun _ _ _ h => h) (Or.inr ⟨by rfl, rfl⟩) hHeld ?_) | (refine take_at (i := 19) (oi := _) (d := some 46) (v := ?_) rfl rfl (by kernel_rfl) (by kernel_rfl) (by kernel_rfl) (fun _ _ _ h => h) (Or.inl ⟨by rfl, ?_⟩) hHeld ?_; rotate_left; next => (intro w hSw; (try dsimp only at hSw); go_simp; try with_reducible rfl))
    try simp only [Act.put, List.setIfInBounds_toArray, List.set_cons_zero, List.set_cons_succ]
    first | (refine take_at (i := 20) (oi := _) (d := some 47) (v := undef) rfl rfl (by kernel_rfl) (by kernel_rfl) (by kernel_rfl) (fun _ _ _ h => h) (Or.inr ⟨by rfl, rfl⟩) hHeld ?_) | (refine take_at (i := 20) (oi := _) (d := some 47) (v := ?_) rfl rfl (by kernel_rfl) (by kernel_rfl) (by kernel_rfl) (fun _ _ _ h => h) (Or.inl ⟨by rfl, ?_⟩) hHeld ?_; rotate_left; next => (intro w hSw; (try dsimp only at hSw); go_simp; try with_reducible rfl))
    try simp only [Act.put, List.setIfInBounds_toArray, List.set_cons_zero, List.set_cons_succ]
    first | (refine take_at (i := 21) (oi := _) (d := some 48) (v := undef) rfl rfl (by kernel_rfl) (by kernel_rfl) (by kernel_rfl) (fun _ _ _ h => h) (Or.inr ⟨by rfl, rfl⟩) hHeld ?_) | (refine take_at (i := 21) (oi := _) (d := some 48) (v := ?_) rfl rfl (by kernel_rfl) (by kernel_rfl) (by kernel_rfl) (fun _ _ _ h => h) (Or.inl ⟨by rfl, ?_⟩) hHeld ?_; rotate_left; next => (intro w hSw; (try dsimp only at hSw); go_simp; try with_reducible rfl))
    try simp only [Act.put, List.setIfInBounds_toArray, List.set_cons_zero, List.set_cons_succ]
    first | (refine take_at (i := 22) (oi := _) (d := some 49) (v := undef) rfl rfl (by kernel_rfl) (by kernel_rfl) (by kernel_rfl) (fun _ _ _ h => h) (Or.inr ⟨by rfl, rfl⟩) hHeld ?_) | (refine take_at (i := 22) (oi := _) (d := some 49) (v := ?_) rfl rfl (by kernel_rfl) (by kernel_rfl) (by kernel_rfl) (fun _ _ _ h => h) (Or.inl ⟨by rfl, ?_⟩) hHeld ?_; rotate_left; next => (intro w hSw; (try dsimp only at hSw); go_simp; try with_reducible rfl))
    try simp only [Act.put, List.setIfInBounds_toArray, List.set_cons_zero, List.set_cons_succ]
    first | (refine take_at (i := 23) (oi := _) (d := some 50) (v := undef) rfl rfl (by kernel_rfl) (by kernel_rfl) (by kernel_rfl) (fun _ _ _ h => h) (Or.inr ⟨by rfl, rfl⟩) hHeld ?_) | (refine take_at (i := 23) (oi := _) (d := some 50) (v := ?_) rfl rfl (by kernel_rfl) (by kernel_rfl) (by kernel_rfl) (fun _ _ _ h => h) (Or.inl ⟨by rfl, ?_⟩) hHeld ?_; rotate_left; next => (intro w hSw; (try dsimp only at hSw); go_simp; try with_reducible rfl))
    try simp only [Act.put, List.setIfInBounds_toArray, List.set_cons_zero, List.set_cons_succ]
    first | (refine take_at (i := 24) (oi := _) (d := some 51) (v := undef) rfl rfl (by kernel_rfl) (by kernel_rfl) (by kernel_rfl) (fun _ _ _ h => h) (Or.inr ⟨by rfl, rfl⟩) hHeld ?_) | (refine take_at (i := 24) (oi := _) (d := some 51) (v := ?_) rfl rfl (by kernel_rfl) (by kernel_rfl) (by kernel_rfl) (fun _ _ _ h => h) (Or.inl ⟨by rfl, ?_⟩) hHeld ?_; rotate_left; next => (intro w hSw; (try dsimp only at hSw); go_simp; try with_reducible rfl))
    try simp only [Act.put, List.setIfInBounds_toArray, List.set_cons_zero, List.set_cons_succ]
    first | (refine take_at (i := 25) (oi := _) (d := some 52) (v := undef) rfl rfl (by kernel_rfl) (by kernel_rfl) (by kernel_rfl) (fun _ _ _ h => h) (Or.inr ⟨by rfl, rfl⟩) hHeld ?_) | (refine take_at (i := 25) (oi := _) (d := some 52) (v := ?_) rfl rfl (by kernel_rfl) (by kernel_rfl) (by kernel_rfl) (fun _ _ _ h => h) (Or.inl ⟨by rfl, ?_⟩) hHeld ?_; rotate_left; next => (intro w hSw; (try dsimp only at hSw); go_simp; try with_reducible rfl))
    try simp only [Act.put, List.setIfInBounds_toArray, List.set_cons_zero, List.set_cons_succ]
    first | (refine take_at (i := 26) (oi := _) (d := some 53) (v := undef) rfl rfl (by kernel_rfl) (by kernel_rfl) (by kernel_rfl) (fun _ _ _ h => h) (Or.inr ⟨by rfl, rfl⟩) hHeld ?_) | (refine take_at (i := 26) (oi := _) (d := some 53) (v := ?_) rfl rfl (by kernel_rfl) (by kernel_rfl) (by kernel_rfl) (fun _ _ _ h => h) (Or.inl ⟨by rfl, ?_⟩) hHeld ?_; rotate_left; next => (intro w hSw; (try dsimp only at hSw); go_simp; try with_reducible rfl))
    try simp only [Act.put, List.setIfInBounds_toArray, List.set_cons_zero, List.set_cons_succ]
    first | (refine take_at (i := 27) (oi := _) (d := some 54) (v := undef) rfl rfl (by kernel_rfl) (by kernel_rfl) (by kernel_rfl) (fun _ _ _ h => h) (Or.inr ⟨by rfl, rfl⟩) hHeld ?_) | (refine take_at (i := 27) (oi := _) (d := some 54) (v := ?_) rfl rfl (by kernel_rfl) (by kernel_rfl) (by kernel_rfl) (fun _ _ _ h => h) (Or.inl ⟨by rfl, ?_⟩) hHeld ?_; rotate_left; next => (intro w hSw; (try dsimp only at hSw); go_simp; try with_reducible rfl))
    try simp only [Act.put, List.setIfInBounds_toArray, List.set_cons_zero, List.set_cons_succ]
    first | (refine take_at (i := 28) (oi := _) (d := some 55) (v := undef) rfl rfl (by kernel_rfl) (by kernel_rfl) (by kernel_rfl) (fun _ _ _ h => h) (Or.inr ⟨by rfl, rfl⟩) hHeld ?_) | (refine take_at (i := 28) (oi := _) (d := some 55) (v := ?_) rfl rfl (by kernel_rfl) (by kernel_rfl) (by kernel_rfl) (fun _ _ _ h => h) (Or.inl ⟨by rfl, ?_⟩) hHeld ?_; rotate_left; next => (intro w hSw; (try dsimp only at hSw); go_simp; try with_reducible rfl))
    try simp only [Act.put, List.setIfInBounds_toArray, List.set_cons_zero, List.set_cons_succ]
    first | (refine take_at (i := 29) (oi := _) (d := some 56) (v := undef) rfl rfl (by kernel_rfl) (by kernel_rfl) (by kernel_rfl) (fun _ _ _ h => h) (Or.inr ⟨by rfl, rfl⟩) hHeld ?_) | (refine take_at (i := 29) (oi := _) (d := some 56) (v := ?_) rfl rfl (by kernel_rfl) (by kernel_rfl) (by kernel_rfl) (fun _ _ _ h => h) (Or.inl ⟨by rfl, ?_⟩) hHeld ?_; rotate_left; next => (intro w hSw; (try dsimp only at hSw); go_simp; try with_reducible rfl))
    try simp only [Act.put, List.setIfInBounds_toArray, List.set_cons_zero, List.set_cons_succ]
    first | (refine take_at (i := 30) (oi := _) (d := some 57) (v := undef) rfl rfl (by kernel_rfl) (by kernel_rfl) (by kernel_rfl) (fun _ _ _ h => h) (Or.inr ⟨by rfl, rfl⟩) hHeld ?_) | (refine take_at (i := 30) (oi := _) (d := some 57) (v := ?_) rfl rfl (by kernel_rfl) (by kernel_rfl) (by kernel_rfl) (fun _ _ _ h => h) (Or.inl ⟨by rfl, ?_⟩) hHeld ?_; rotate_left; next => (intro w hSw; (try dsimp only at hSw); go_simp; try with_reducible rfl))
    try simp only [Act.put, List.setIfInBounds_toArray, List.set_cons_zero, List.set_cons_succ]
    first | (refine take_at (i := 31) (oi := _) (d := some 58) (v := undef) rfl rfl (by kernel_rfl) (by kernel_rfl) (by kernel_rfl) (fun _ _ _ h => h) (Or.inr ⟨by rfl, rfl⟩) hHeld ?_) | (refine take_at (i := 31) (oi := _) (d := some 58) (v := ?_) rfl rfl (by kernel_rfl) (by kernel_rfl) (by kernel_rfl) (fun _ _ _ h => h) (Or.inl ⟨by rfl, ?_⟩) hHeld ?_; rotate_left; next => (intro w hSw; (try dsimp only at hSw); go_simp; try with_reducible rfl))
    try simp only [Act.put, List.setIfInBounds_toArray, List.set_cons_zero, List.set_cons_succ]
    first | (refine take_at (i := 32) (oi := _) (d := some 59) (v := undef) rfl rfl (by kernel_rfl) (by kernel_rfl) (by kernel_rfl) (fun _ _ _ h => h) (Or.inr ⟨by rfl, rfl⟩) hHeld ?_) | (refine take_at (i := 32) (oi := _) (d := some 59) (v := ?_) rfl rfl (by kernel_rfl) (by kernel_rfl) (by kernel_rfl) (fun _ _ _ h => h) (Or.inl ⟨by rfl, ?_⟩) hHeld ?_; rotate_left; next => (intro w hSw; (try dsimp only at hSw); go_simp; try with_reducible rfl))
    try simp only [Act.put, List.setIfInBounds_toArray, List.set_cons_zero, List.set_cons_succ]
    first | (refine take_at (i := 33) (oi := _) (d := some 60) (v := undef) rfl rfl (by kernel_rfl) (by kernel_rfl) (by kernel_rfl) (fun _ _ _ h => h) (Or.inr ⟨by rfl, rfl⟩) hHeld ?_) | (refine take_at (i := 33) (oi := _) (d := some 60) (v := ?_) rfl rfl (by kernel_rfl) (by kernel_rfl) (by kernel_rfl) (fun _ _ _ h => h) (Or.inl ⟨by rfl, ?_⟩) hHeld ?_; rotate_left; next => (intro w hSw; (try dsimp only at hSw); go_simp; try with_reducible rfl))
    try simp only [Act.put, List.setIfInBounds_toArray, List.set_cons_zero, List.set_cons_succ]
    first | (refine take_at (i := 34) (oi := _) (d := some 61) (v := undef) rfl rfl (by kernel_rfl) (by kernel_rfl) (by kernel_rfl) (fun _ _ _ h => h) (Or.inr ⟨by rfl, rfl⟩) hHeld ?_) | (refine take_at (i := 34) (oi := _) (d := some 61) (v := ?_) rfl rfl (by kernel_rfl) (by kernel_rfl) (by kernel_rfl) (fun _ _ _ h => h) (Or.inl ⟨by rfl, ?_⟩) hHeld ?_; rotate_left; next => (intro w hSw; (try dsimp only at hSw); go_simp; try with_reducible rfl))
    try simp only [Act.put, List.setIfInBounds_toArray, List.set_cons_zero, List.set_cons_succ]
    first | (refine take_at (i := 35) (oi := _) (d := some 62) (v := undef) rfl rfl (by kernel_rfl) (by kernel_rfl) (by kernel_rfl) (fun _ _ _ h => h) (Or.inr ⟨by rfl, rfl⟩) hHeld ?_) | (refine take_at (i := 35) (oi := _) (d := some 62) (v := ?_) rfl rfl (by kernel_rfl) (by kernel_rfl) (by kernel_rfl) (fun _ _ _ h => h) (Or.inl ⟨by rfl, ?_⟩) hHeld ?_; rotate_left; next => (intro w hSw; (try dsimp only at hSw); go_simp; try with_reducible rfl))
    try simp only [Act.put, List.setIfInBounds_toArray, List.set_cons_zero, List.set_cons_succ]
    first | (refine take_at (i := 36) (oi := _) (d := some 63) (v := undef) rfl rfl (by kernel_rfl) (by kernel_rfl) (by kernel_rfl) (fun _ _ _ h => h) (Or.inr ⟨by rfl, rfl⟩) hHeld ?_) | (refine take_at (i := 36) (oi := _) (d := some 63) (v := ?_) rfl rfl (by kernel_rfl) (by kernel_rfl) (by kernel_rfl) (fun _ _ _ h => h) (Or.inl ⟨by rfl, ?_⟩) hHeld ?_; rotate_left; next => (intro w hSw; (try dsimp only at hSw); go_simp; try with_reducible rfl))
    try simp only [Act.put, List.setIfInBounds_toArray, List.set_cons_zero, List.set_cons_succ]
    first | (refine take_at (i := 37) (oi := _) (d := some 64) (v := undef) rfl rfl (by kernel_rfl) (by kernel_rfl) (by kernel_rfl) (fun _ _ _ h => h) (Or.inr ⟨by rfl, rfl⟩) hHeld ?_) | (refine take_at (i := 37) (oi := _) (d := some 64) (v := ?_) rfl rfl (by kernel_rfl) (by kernel_rfl) (by kernel_rfl) (fun _ _ _ h => h) (Or.inl ⟨by rfl, ?_⟩) hHeld ?_; rotate_left; next => (intro w hSw; (try dsimp only at hSw); go_simp; try with_reducible rfl))
    try simp only [Act.put, List.setIfInBounds_toArray, List.set_cons_zero, List.set_cons_succ]
    first | (refine take_at (i := 38) (oi := _) (d := some 65) (v := undef) rfl rfl (by kernel_rfl) (by kernel_rfl) (by kernel_rfl) (fun _ _ _ h => h) (Or.inr ⟨by rfl, rfl⟩) hHeld ?_) | (refine take_at (i := 38) (oi := _) (d := some 65) (v := ?_) rfl rfl (by kernel_rfl) (by kernel_rfl) (by kernel_rfl) (fun _ _ _ h => h) (Or.inl ⟨by rfl, ?_⟩) hHeld ?_; rotate_left; next => (intro w hSw; (try dsimp only at hSw); go_simp; try with_reducible rfl))
    try simp only [Act.put, List.setIfInBounds_toArray, List.set_cons_zero, List.set_cons_succ]
    first | (refine take_at (i := 39) (oi := _) (d := some 66) (v := undef) rfl rfl (by kernel_rfl) (by kernel_rfl) (by kernel_rfl) (fun _ _ _ h => h) (Or.inr ⟨by rfl, rfl⟩) hHeld ?_) | (refine take_at (i := 39) (oi := _) (d := some 66) (v := ?_) rfl rfl (by kernel_rfl) (by kernel_rfl) (by kernel_rfl) (fun _ _ _ h => h) (Or.inl ⟨by rfl, ?_⟩) hHeld ?_; rotate_left; next => (intro w hSw; (try dsimp only at hSw); go_simp; try with_reducible rfl))
    try simp only [Act.put, List.setIfInBounds_toArray, List.set_cons_zero, List.set_cons_succ]
    first | (refine take_at (i := 40) (oi := _) (d := some 67) (v := undef) rfl rfl (by kernel_rfl) (by kernel_rfl) (by kernel_rfl) (fun _ _ _ h => h) (Or.inr ⟨by rfl, rfl⟩) hHeld ?_) | (refine take_at (i := 40) (oi := _) (d := some 67) (v := ?_) rfl rfl (by kernel_rfl) (by kernel_rfl) (by kernel_rfl) (fun _ _ _ h => h) (Or.inl ⟨by rfl, ?_⟩) hHeld ?_; rotate_left; next => (intro w hSw; (try dsimp only at hSw); go_simp; try with_reducible rfl))
    try simp only [Act.put, List.setIfInBounds_toArray, List.set_cons_zero, List.set_cons_succ]
    first | (refine take_at (i := 41) (oi := _) (d := some 68) (v := undef) rfl rfl (by kernel_rfl) (by kernel_rfl) (by kernel_rfl) (fun _ _ _ h => h) (Or.inr ⟨by rfl, rfl⟩) hHeld ?_) | (refine take_at (i := 41) (oi := _) (d := some 68) (v := ?_) rfl rfl (by kernel_rfl) (by kernel_rfl) (by kernel_rfl) (fun _ _ _ h => h) (Or.inl ⟨by rfl, ?_⟩) hHeld ?_; rotate_left; next => (intro w hSw; (try dsimp only at hSw); go_simp; try with_reducible rfl))
    try simp only [Act.put, List.setIfInBounds_toArray, List.set_cons_zero, List.set_cons_succ]
    first | (refine take_at (i := 42) (oi := _) (d := some 69) (v := undef) rfl rfl (by kernel_rfl) (by kernel_rfl) (by kernel_rfl) (fun _ _ _ h => h) (Or.inr ⟨by rfl, rfl⟩) hHeld ?_) | (refine take_at (i := 42) (oi := _) (d := some 69) (v := ?_) rfl rfl (by kernel_rfl) (by kernel_rfl) (by kernel_rfl) (fun _ _ _ h => h) (Or.inl ⟨by rfl, ?_⟩) hHeld ?_; rotate_left; next => (intro w hSw; (try dsimp only at hSw); go_simp; try with_reducible rfl))
    try simp only [Act.put, List.setIfInBounds_toArray, List.set_cons_zero, List.set_cons_succ]
    refine wpAnyH_done (by kernel_rfl) ?_ _
    go_wp2_with fail
    go_meet
    exact ⟨rfl, held_gr hHeld⟩
  case rest =>
    obtain ⟨rfl, hg⟩ := hcut
    have HG2 := Lib.hid hg
    obtain ⟨b, off, rfl, hbl, -⟩ := HR.out.at_ hi
    have hh := HK1.out.keep hg (by omega)
    have HHC := Lib.hid hh
    obtain ⟨q0, q1, q2, q3, q4, q5, q6, q7, q8⟩ := hh
    have hle := hg.le
    have HRW := Lib.hid (HR.out.keep (HG.out.trans hg))
    have HGW := Lib.hid (HG.out.trans hg)
    clear hg p0 p1 p2 p3 p4 p5 p6 p7 p8 u0 u1 u2 u3 u4 u5 k3 k4 f1 f2 f2' f3 f4 f4' f5 f5' f6 f7 hw0 hmn hp16
    go_upto_region 5 with fail
    obtain ⟨i0, hi1, hz0, hz1, hz2⟩ := info_parts infoPitch
    obtain ⟨wo, rfl⟩ : ∃ wo : World, wo = wc := ⟨_, rfl⟩
    have hs0 : w.heap.size < wo.heap.size := by omega
    have hn1 : 0 < n := by omega
    have hN0 := cellsN_new_drew wo #[.int .i64 0, .int .i64 0, .int .i64 0, .int .i64 0, .int .i64 0, .int .i64 0, .slice none 0 0, .int .i64 0, .int .i64 0] 26
    have hN1 := cellsN_new_drew (wo.alloc (.cells #[] 23)) #[.int .i64 0, .int .i64 0, .int .i64 0, .int .i64 0, .int .i64 0, .int .i64 0, .slice none 0 0, .int .i64 0, .int .i64 0] 26
    rw [World.size_alloc] at hN1
    go_cut [13] (fun s13 wx => ∃ B13 g cap : Nat, s13 = .pointer (some ⟨B13, 0, none⟩) ∧ HornAt wx B13 b0 b1 b2 b3 b4 b5 (.slice (some ⟨g, 0, none⟩) n cap) most tol ∧ RowW wx g n f ∧ g ≠ B13 ∧ wo.heap.size ≤ g ∧ wo.heap.size ≤ B13 ∧ B13 < wx.heap.size ∧ Gr wo wx)
    case first =>
      go_region_held3 (fun wx => (∀ b o, (⟨min (b + 1) wo.heap.size, 0, none⟩ : Addr) = ⟨b + 1, 0, none⟩ → wx.cell? ⟨b, o, none⟩ = wo.cell? ⟨b, o, none⟩) ∧ Gr wo wx) (first | with_reducible exact held_drew _ | with_reducible exact held_call (by assumption) (by assumption) | with_reducible exact held_alloc (by assumption) _ | with_reducible exact held_alloc0 _ _ | with_reducible exact held_allocd (by assumption) _ | with_reducible exact held_anew (by assumption) _ (by omega) | ((repeat (with_reducible refine held_set ?_ (by (try simp); (try omega)) _)); (first | with_reducible assumption | with_reducible exact held_call (by assumption) (by assumption)))) ((refine step_append_grows (by rfl) (.tmp 73) (.tmp 75) 24 (by rfl) 23 i0 (.agg #[.int .i64 0, .int .i64 0, .int .i64 0, .int .i64 0, .int .i64 0, .int .i64 0]) 6 48 Tryd.underlying24 hi1 hz0 hz1 hz2 (by rfl) (by decide) _ 0 0 [] (by rfl) (by intro h; cases h) (by rfl) (by intro b hb j u hu; simp at hu) ⟨b, off, none⟩ n c (rowCells f n) (by rfl) (rowCells_len f n) (rows_news (HRW.out.keep (held_gr (by assumption)))) (rowCells_one f n) (by omega) (by unfold maxLen; omega) (by omega) ?_; intro v' w' hown hgrow; simp only [Nat.zero_add, List.nil_append] at hown; obtain ⟨g, cap, rfl, hgb, hgl⟩ := hown.form (by omega); have hb := gr_of_grown hgrow; have HROW := Lib.hid (rowW_of_own hown); clear hown hgrow; have hzz := ((held_gr (by assumption)).trans hb).le; have hz := hb.le; obtain ⟨hcx, hfx⟩ := hb.cells; have hn := hb.cellsN; (try simp only [World.size_drew] at hcx hfx hz hn hgb); (try simp only [World.size_setCell] at hcx hfx hz hn hgb); (try simp only [World.size_alloc] at hcx hfx hz hn hgb)))
      · go_wp2_with fail
        go_meet
        exact ⟨w'.heap.size, g, cap, rfl, ⟨by simp [go_sem], by simp [go_sem], by simp [go_sem], by simp [go_sem], by simp [go_sem], by simp [go_sem], by simp [go_sem], by simp [go_sem], by simp [go_sem]⟩, HROW.out.keep ((Gr.refl _).alloc _), by omega, by omega, by omega, by simp, held_gr (by assumption)⟩
      · go_wp2_with fail
        go_meet
        have hcn : cellsN w' (wo.heap.size + 1) = 9 := (hn _ (by simp)).trans hN1
        obtain ⟨c0, c1, c2, c3, c4, c5, c6, c7, c8⟩ := set9_cells w' (wo.heap.size + 1) (.int .i64 b0) (.int .i64 b1) (.int .i64 b2) (.int .i64 b3) (.int .i64 b4) (.int .i64 b5) (.slice (some ⟨g, 0, none⟩) n cap) (.int .i64 most) (.int .i64 tol) hcn
        have hrw := set9_row HROW.out (B := wo.heap.size + 1) (by omega) (.int .i64 b0) (.int .i64 b1) (.int .i64 b2) (.int .i64 b3) (.int .i64 b4) (.int .i64 b5) (.slice (some ⟨g, 0, none⟩) n cap) (.int .i64 most) (.int .i64 tol)
        exact ⟨wo.heap.size + 1, g, cap, rfl, ⟨c0, c1, c2, c3, c4, c5, c6, c7, c8⟩, hrw, by omega, by omega, by omega, by simp only [World.size_setCell]; omega, held_gr (by assumption)⟩
      · go_wp2_with fail
        go_meet
        have hcn : cellsN w' wo.heap.size = 9 := (hn _ (by simp)).trans (by simp [go_sem])
        obtain ⟨c0, c1, c2, c3, c4, c5, c6, c7, c8⟩ := set9_cells w' wo.heap.size (.int .i64 b0) (.int .i64 b1) (.int .i64 b2) (.int .i64 b3) (.int .i64 b4) (.int .i64 b5) (.slice (some ⟨g, 0, none⟩) n cap) (.int .i64 most) (.int .i64 tol) hcn
        have hrw := set9_row HROW.out (B := wo.heap.size) (by omega) (.int .i64 b0) (.int .i64 b1) (.int .i64 b2) (.int .i64 b3) (.int .i64 b4) (.int .i64 b5) (.slice (some ⟨g, 0, none⟩) n cap) (.int .i64 most) (.int .i64 tol)
        exact ⟨wo.heap.size, g, cap, rfl, ⟨c0, c1, c2, c3, c4, c5, c6, c7, c8⟩, hrw, by omega, by omega, by omega, by simp only [World.size_setCell]; omega, held_gr (by assumption)⟩
    case rest =>
      obtain ⟨B13, g, cap, rfl, hh13, hrow, hgne, hgo, hB13, hB13l, hgc⟩ := hcut
      have hle5 := hgc.le
      have HG5 := Lib.hid hgc
      have HH13 := Lib.hid hh13
      have HROW5 := Lib.hid hrow
      have e6 := (HHC.out.keep hgc hs0).c6
      have d6 := hh13.c6
      obtain ⟨r0, r1, r2, r3, r4, r5⟩ := hrow.six hi
      have rf := hrow.froz
      obtain ⟨b', off', heq, hbl', c0, c1, c2, c3, c4, c5⟩ := (HRW.out.keep hgc).six hk
      cases heq
      have hi0 : (0 : Int) ≤ (i : Int) := by omega
      have hin : (i : Int) < (n : Int) := by omega
      have hk0 : (0 : Int) ≤ (k : Int) := by omega
      have hkn : (k : Int) < (n : Int) := by omega
      clear hgc hh13 hrow q0 q1 q2 q3 q4 q5 q6 q7 q8 hN0 hN1
      go_upto_region 6 with fail
      go_region
      change Exit.then _ _ _ _ (setR wc g i (f k 0) (f k 1) (f k 2) (f k 3) (f k 4) (f k 5)).drew
      have a1 := (setR_row HROW5.out hi (f k)).drew
      have a2 : Gr wo (setR wc g i (f k 0) (f k 1) (f k 2) (f k 3) (f k 4) (f k 5)).drew := (setR_gr HG5.out hgo i _ _ _ _ _ _).drew
      have a3 : ∀ o, (setR wc g i (f k 0) (f k 1) (f k 2) (f k 3) (f k 4) (f k 5)).drew.cell? ⟨B13, o, none⟩ = wc.cell? ⟨B13, o, none⟩ := fun o => setRd_other wc g i _ _ _ _ _ _ (p := ⟨B13, o, none⟩) (fun h => hgne h.symm)
      have a4 : (setR wc g i (f k 0) (f k 1) (f k 2) (f k 3) (f k 4) (f k 5)).drew.heap.size = wc.heap.size := setRd_size _ _ _ _ _ _ _ _ _
      clear e6 d6 r0 r1 r2 r3 r4 r5 rf c0 c1 c2 c3 c4 c5
      generalize (setR wc g i (f k 0) (f k 1) (f k 2) (f k 3) (f k 4) (f k 5)).drew = W6 at a1 a2 a3 a4 ⊢
      have HROW6 := Lib.hid a1; have HG6 := Lib.hid a2
      have e6 := (HHC.out.keep a2 hs0).c6
      have d6 := (a3 6).trans HH13.out.c6
      have HA3 := Lib.hid a3
      obtain ⟨r0, r1, r2, r3, r4, r5⟩ := a1.six hk
      have rf := a1.froz
      obtain ⟨b', off', heq, hbl6, c0, c1, c2, c3, c4, c5⟩ := (HRW.out.keep a2).six hi
      cases heq
      clear a1 a2 a3
      go_wp2_with fail
      go_region
      change Exit.then _ _ _ _ (setR W6 g k (f i 0) (f i 1) (f i 2) (f i 3) (f i 4) (f i 5)).drew
      have a1 := ((setR_row HROW6.out hk (f i)).drew).congr (f' := exF f i k) (fun r hr j hj => by
        unfold setRow exF permK
        by_cases h1 : r = k
        · subst h1; rw [if_pos rfl, if_neg (by omega), if_pos rfl]
        · rw [if_neg h1]
          by_cases h2 : r = i
          · rw [if_pos h2, if_pos h2]
          · rw [if_neg h2, if_neg h2, if_neg h1])
      have a2 : Gr wo (setR W6 g k (f i 0) (f i 1) (f i 2) (f i 3) (f i 4) (f i 5)).drew := (setR_gr HG6.out hgo k _ _ _ _ _ _).drew
      have a3 : ∀ o, (setR W6 g k (f i 0) (f i 1) (f i 2) (f i 3) (f i 4) (f i 5)).drew.cell? ⟨B13, o, none⟩ = wc.cell? ⟨B13, o, none⟩ := fun o => (setRd_other W6 g k _ _ _ _ _ _ (p := ⟨B13, o, none⟩) (fun h => hgne h.symm)).trans (HA3.out o)
      have a5 : (setR W6 g k (f i 0) (f i 1) (f i 2) (f i 3) (f i 4) (f i 5)).drew.heap.size = wc.heap.size := (setRd_size _ _ _ _ _ _ _ _ _).trans a4
      clear e6 d6 r0 r1 r2 r3 r4 r5 rf c0 c1 c2 c3 c4 c5 HROW6 HG6 HA3
      generalize (setR W6 g k (f i 0) (f i 1) (f i 2) (f i 3) (f i 4) (f i 5)).drew = W7 at a1 a2 a3 a5 ⊢
      have HR7 := Lib.hid a1.rows
      have HG7 := Lib.hid a2
      have hh7 := HH13.out
      have HH7 : Hid (HornAt W7 B13 b0 b1 b2 b3 b4 b5 (.slice (some ⟨g, 0, none⟩) n cap) most tol) := Lib.hid ⟨(a3 _).trans hh7.c0, (a3 _).trans hh7.c1, (a3 _).trans hh7.c2, (a3 _).trans hh7.c3, (a3 _).trans hh7.c4, (a3 _).trans hh7.c5, (a3 _).trans hh7.c6, (a3 _).trans hh7.c7, (a3 _).trans hh7.c8⟩
      have HHO := Lib.hid (HHC.out.keep a2 hs0)
      have y0 := (Below.cell (p := ⟨w.heap.size + 1 + 1, 0, none⟩) (HG2.out.trans a2) (by show w.heap.size + 1 + 1 < _; omega)).trans HK3.out.1
      have y1 := (Below.cell (p := ⟨w.heap.size + 1 + 1, 1, none⟩) (HG2.out.trans a2) (by show w.heap.size + 1 + 1 < _; omega)).trans HK3.out.2
      have HY := Lib.hid (And.intro y0 y1)
      have HK2' := Lib.hid (HK2.out.keep (HG2.out.trans a2) (by omega))
      have hs7 : w.heap.size + 1 + 1 < W7.heap.size := by have := a2.le; omega
      have hB7 : B13 < W7.heap.size := by omega
      have HGW7 := Lib.hid (HGW.out.trans a2)
      have HSW := Lib.hid (fun W => swap_any (s : Int) i k (by omega) (by have := pow_le16 hn; omega) (by omega) (by omega) W)
      have hN0 := cellsN_new_drew W7 #[.int .i64 0, .int .i64 0] 28
      clear a1 a2 a3 a4 a5 hh7
      go_wp2_with fail
      go_cut [14] (fun s14 wx => ∃ B14 : Nat, s14 = .pointer (some ⟨B14, 0, none⟩) ∧ wx.cell? ⟨B14, 0, none⟩ = some (.int .i64 x) ∧ wx.cell? ⟨B14, 1, none⟩ = some (.int .i64 (swapI s i k)) ∧ B14 < wx.heap.size ∧ Gr W7 wx)
      case first =>
        go_region_held3 (fun wx => (∀ b o, (⟨min (b + 1) W7.heap.size, 0, none⟩ : Addr) = ⟨b + 1, 0, none⟩ → wx.cell? ⟨b, o, none⟩ = W7.cell? ⟨b, o, none⟩) ∧ Gr W7 wx) (first | with_reducible exact held_drew _ | with_reducible exact held_call (by assumption) (by assumption) | with_reducible exact held_alloc (by assumption) _ | with_reducible exact held_alloc0 _ _ | with_reducible exact held_anew (by assumption) _ (by omega) | ((repeat (with_reducible refine held_set ?_ (by (try simp); (try omega)) _)); (first | with_reducible assumption | with_reducible exact held_call (by assumption) (by assumption)))) (first | (go_at_call 29; with_reducible refine (HSW.out _).mono ?_; rintro e w' ⟨rfl, hb⟩; have hzz := ((held_gr (by assumption)).trans hb).le; have hz := hb.le; obtain ⟨hcx, hfx⟩ := hb.cells; have hn := hb.cellsN; (try simp only [World.size_drew] at hcx hfx hz hn); (try simp only [World.size_setCell] at hcx hfx hz hn); (try simp only [World.size_alloc] at hcx hfx hz hn)))
        all_goals
          go_wp2_with fail
          go_meet
          exact ⟨_, rfl, by simp [go_sem, *], by simp [go_sem, *], by (try simp); (try omega), held_gr (by assumption)⟩
      case rest =>
        obtain ⟨B14, rfl, b14a, b14b, hB14, hg⟩ := hcut
        have hle8 := hg.le
        have HR8 := Lib.hid (HR7.out.keep hg)
        have HG8 := Lib.hid (HGW7.out.trans hg)
        obtain ⟨q0, q1, q2, q3, q4, q5, q6, q7, q8⟩ := HHO.out.keep hg (by omega)
        obtain ⟨p0, p1, p2, p3, p4, p5, p6, p7, p8⟩ := HH7.out.keep hg hB7
        obtain ⟨u0, u1, u2, u3, u4, u5⟩ := HK2'.out.keep hg (by omega)
        have y0 := (Below.cell (p := ⟨w.heap.size + 1 + 1, 0, none⟩) hg (by show w.heap.size + 1 + 1 < _; omega)).trans HY.out.1
        have y1 := (Below.cell (p := ⟨w.heap.size + 1 + 1, 1, none⟩) hg (by show w.heap.size + 1 + 1 < _; omega)).trans HY.out.2
        have hs8 : w.heap.size + 1 + 1 < wc.heap.size := by omega
        have hB8 : B13 < wc.heap.size := by omega
        clear hg hN0
        generalize swapI (s : Int) i k = t at *
        obtain ⟨wp, rfl⟩ : ∃ wp : World, wp = wc := ⟨_, rfl⟩
        go_upto_region 15 with (first
          | (go_at_call 15; with_reducible refine (HS1.out _ (HG8.out.trans (by repeat (first | with_reducible exact Gr.refl _ | with_reducible refine Gr.alloc ?_ _ | with_reducible refine Gr.drew ?_ | with_reducible refine Gr.trans ?_ (by assumption) | with_reducible refine Gr.setCell ?_ (by (try simp); (try omega)) _)))).mono ?_; rintro e wa ⟨rfl, hbwa⟩; have hzwa := hbwa.le; obtain ⟨hcwa, hfwa⟩ := hbwa.cells; (try simp only [World.size_alloc] at hcwa hfwa hzwa))
          | (go_at_call 15; with_reducible refine (HS2.out _ _ _ (HG8.out.trans (by repeat (first | with_reducible exact Gr.refl _ | with_reducible refine Gr.alloc ?_ _ | with_reducible refine Gr.drew ?_ | with_reducible refine Gr.trans ?_ (by assumption) | with_reducible refine Gr.setCell ?_ (by (try simp); (try omega)) _))) (HR8.out.keep (by repeat (first | with_reducible exact Gr.refl _ | with_reducible refine Gr.alloc ?_ _ | with_reducible refine Gr.drew ?_ | with_reducible refine Gr.trans ?_ (by assumption) | with_reducible refine Gr.setCell ?_ (by (try simp); (try omega)) _)))).mono ?_; rintro e wb ⟨rfl, hbwb⟩; have hzwb := hbwb.le; obtain ⟨hcwb, hfwb⟩ := hbwb.cells; (try simp only [World.size_alloc] at hcwb hfwb hzwb))
          | (go_at_call 17; (with_reducible refine (HF1.out _ (HG8.out.trans (by repeat (first | with_reducible exact Gr.refl _ | with_reducible refine Gr.alloc ?_ _ | with_reducible refine Gr.drew ?_ | with_reducible refine Gr.trans ?_ (by assumption) | with_reducible refine Gr.setCell ?_ (by (try simp); (try omega)) _)))).mono ?_); rintro e w5 ⟨A5, c5, rfl, hr5, hl5, hb5⟩; have HR5 := Lib.hid hr5; have HL5 := Lib.hid hl5; clear hr5 hl5; have hz5 := hb5.le; obtain ⟨hc5, hf5⟩ := hb5.cells; (try simp only [World.size_alloc] at hc5 hf5 hz5))
          | (go_at_call 17; (with_reducible refine (HF2.out _ _ _ (HG8.out.trans (by repeat (first | with_reducible exact Gr.refl _ | with_reducible refine Gr.alloc ?_ _ | with_reducible refine Gr.drew ?_ | with_reducible refine Gr.trans ?_ (by assumption) | with_reducible refine Gr.setCell ?_ (by (try simp); (try omega)) _))) (HR8.out.keep (by repeat (first | with_reducible exact Gr.refl _ | with_reducible refine Gr.alloc ?_ _ | with_reducible refine Gr.drew ?_ | with_reducible refine Gr.trans ?_ (by assumption) | with_reducible refine Gr.setCell ?_ (by (try simp); (try omega)) _)))).mono ?_); rintro e w6 ⟨A6, c6, rfl, hr6, hl6, hb6⟩; have HR6 := Lib.hid hr6; clear hr6 hl6; have hz6 := hb6.le; obtain ⟨hc6, hf6⟩ := hb6.cells; (try simp only [World.size_alloc] at hc6 hf6 hz6)))
        have k1 : SixV w6 wa.heap.size (.int .i64 z0) (.int .i64 z1) (.int .i64 z2) (.int .i64 z3) (.int .i64 z4) (.int .i64 z5) := ⟨by simp [go_sem, *], by simp [go_sem, *], by simp [go_sem, *], by simp [go_sem, *], by simp [go_sem, *], by simp [go_sem, *]⟩
        have k2 : SixV w6 wb.heap.size (.int .i64 z0) (.int .i64 z1) (.int .i64 z2) (.int .i64 z3) (.int .i64 z4) (.int .i64 z5) := ⟨by simp [go_sem, *], by simp [go_sem, *], by simp [go_sem, *], by simp [go_sem, *], by simp [go_sem, *], by simp [go_sem, *]⟩
        have k3 : w6.cell? ⟨w.heap.size + 1 + 1, 0, none⟩ = some (.int .i64 x) := by simp [go_sem, *]
        have k4 : w6.cell? ⟨w.heap.size + 1 + 1, 1, none⟩ = some (.int .i64 (s : Int)) := by simp [go_sem, *]
        have k5 : w6.cell? ⟨B14, 0, none⟩ = some (.int .i64 x) := by simp [go_sem, *]
        have k6 : w6.cell? ⟨B14, 1, none⟩ = some (.int .i64 t) := by simp [go_sem, *]
        have m1 : wa.heap.size < w6.heap.size := by omega
        have m2 : wb.heap.size < w6.heap.size := by omega
        have m3 : w.heap.size + 1 + 1 < w6.heap.size := by omega
        have m4 : B14 < w6.heap.size := by omega
        have HR5' := Lib.hid (HR5.out.keep hb6)
        have HGZ := Lib.hid (HG8.out.trans (show Gr wp w6 from (by repeat (first | with_reducible exact Gr.refl _ | with_reducible refine Gr.alloc ?_ _ | with_reducible refine Gr.drew ?_ | with_reducible refine Gr.trans ?_ (by assumption) | with_reducible refine Gr.setCell ?_ (by (try simp); (try omega)) _))))
        have HH1 := Lib.hid (fun W (h : RowsAt W 2 A5 N G1) => has_any A5 N c5 G1 x (s : Int) W h HL5.out)
        have HH2 : Hid (∀ W, RowsAt W 2 A6 N G2 → Calls Tryd.prog 24 #[.slice A6 N c6, .agg #[.int .i64 x, .int .i64 t]] W fun e w' => e = .returned (.bool (hasR G1 x (s : Int) N)) ∧ Gr W w') := Lib.hid fun W h => by
          have h2 := has_any A6 N c6 G2 x t W h HL5.out
          rwa [HHAS.out] at h2
        obtain ⟨a0, a1, a2, a3, a4, a5⟩ := k1
        obtain ⟨d0, d1, d2, d3, d4, d5⟩ := k2
        generalize hasR G1 x (s : Int) N = BH at HH1 HH2
        have hBB : (BH == BH) = true := by simp
        clear hbwa hzwa hcwa hfwa hbwb hzwb hcwb hfwb hb5 hz5 hc5 hf5 hb6 hz6 hc6 hf6 q0 q1 q2 q3 q4 q5 q6 q7 q8 p0 p1 p2 p3 p4 p5 p6 p7 p8 u0 u1 u2 u3 u4 u5 y0 y1 b14a b14b
        go_region_held3 (fun wx => (∀ b o, (⟨min (b + 1) w6.heap.size, 0, none⟩ : Addr) = ⟨b + 1, 0, none⟩ → wx.cell? ⟨b, o, none⟩ = w6.cell? ⟨b, o, none⟩) ∧ Gr w6 wx) (first | with_reducible exact held_drew _ | with_reducible exact held_call (by assumption) (by assumption) | with_reducible exact held_alloc (by assumption) _ | with_reducible exact held_alloc0 _ _ | with_reducible exact held_anew (by assumption) _ (by omega) | ((repeat (with_reducible refine held_set ?_ (by (try simp); (try omega)) _)); (first | with_reducible assumption | with_reducible exact held_call (by assumption) (by assumption)))) (first
          | (go_at_call 24; with_reducible refine (HH1.out _ (HR5'.out.keep (held_gr (by assumption)))).mono ?_; rintro e w' ⟨rfl, hb⟩; have hzz := ((held_gr (by assumption)).trans hb).le; have hz := hb.le; obtain ⟨hcx, hfx⟩ := hb.cells; have hn := hb.cellsN; (try simp only [World.size_drew] at hcx hfx hz hn); (try simp only [World.size_setCell] at hcx hfx hz hn); (try simp only [World.size_alloc] at hcx hfx hz hn))
          | (go_at_call 24; with_reducible refine (HH2.out _ (HR6.out.keep (held_gr (by assumption)))).mono ?_; rintro e w' ⟨rfl, hb⟩; have hzz := ((held_gr (by assumption)).trans hb).le; have hz := hb.le; obtain ⟨hcx, hfx⟩ := hb.cells; have hn := hb.cellsN; (try simp only [World.size_drew] at hcx hfx hz hn); (try simp only [World.size_setCell] at hcx hfx hz hn); (try simp only [World.size_alloc] at hcx hfx hz hn)))
        all_goals
          have HGF := Lib.hid (show Gr w6 w' from held_gr (by assumption))
          go_wp2_with fail
          go_ret
          exact ⟨by first | rfl | simp, HGZ.out.trans HGF.out⟩
end Go.Proofs.YtbaopniofhbjdaaDoor
