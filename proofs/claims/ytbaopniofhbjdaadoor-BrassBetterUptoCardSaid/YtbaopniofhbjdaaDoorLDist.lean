/-
  schismalaw13.distance.
-/
import Derived.Test.YtbaopniofhbjdaaDoorBrassAll
namespace Go.Proofs.YtbaopniofhbjdaaDoor
open Go.RowKit

theorem pof_all (v0 v1 v2 v3 v4 v5 : Int) : ∃ q0 q1 q2 q3 q4 q5 E : Int, (∀ w, Calls Tryd.prog 23 #[.agg #[.int .i64 v0, .int .i64 v1, .int .i64 v2, .int .i64 v3, .int .i64 v4, .int .i64 v5]] w fun e w' => e = .returned (.tuple #[.agg #[.int .i64 q0, .int .i64 q1, .int .i64 q2, .int .i64 q3, .int .i64 q4, .int .i64 q5], .int .i64 E]) ∧ Gr w w') ∧
    ((allIn ⟨v0, v1, v2, v3, v4, v5⟩ 48 6 = true ∧ (⟨q0, q1, q2, q3, q4, q5⟩ : V6) = atV ⟨v0, v1, v2, v3, v4, v5⟩ ∧ E = 0) ∨ (allIn ⟨v0, v1, v2, v3, v4, v5⟩ 48 6 = false ∧ (⟨q0, q1, q2, q3, q4, q5⟩ : V6) = ⟨0, 0, 0, 0, 0, 0⟩ ∧ E = 1)) := by
  cases hv : allIn ⟨v0, v1, v2, v3, v4, v5⟩ 48 6 with
  | true => exact ⟨_, _, _, _, _, _, 0, fun w => pof_ok _ _ _ _ _ _ w hv, .inl ⟨rfl, rfl, rfl⟩⟩
  | false => exact ⟨_, _, _, _, _, _, 1, fun w => pof_bad _ _ _ _ _ _ w hv, .inr ⟨rfl, rfl, rfl⟩⟩
theorem zero_in : allIn ⟨0, 0, 0, 0, 0, 0⟩ 576 6 = true := by decide +kernel
theorem sndAll_in {base : V6} {f : Nat → Nat → Int} {n : Nat} {most tol x s : Int} {z : V6} {ez : Int} (h : SndAll base f n most tol x s z ez) : allIn z 576 6 = true := by
  rcases h with ⟨-, rfl, -⟩ | ⟨-, -, rfl, -⟩ | ⟨-, -, h, rfl, -⟩ | ⟨-, -, -, rfl, -⟩
  · exact zero_in
  · exact zero_in
  · exact h
  · exact zero_in

set_option maxRecDepth 100000 in
set_option maxHeartbeats 16000000 in
theorem ldist_bad (b0 b1 b2 b3 b4 b5 most tol x s v0 v1 v2 v3 v4 v5 z0 z1 z2 z3 z4 z5 ez q0 q1 q2 q3 q4 q5 ef C : Int) (A : Option Addr) (n c : Nat) (w : World)
    (hs : ∀ W, Gr w W → Calls Tryd.prog 15 #[.agg #[.int .i64 b0, .int .i64 b1, .int .i64 b2, .int .i64 b3, .int .i64 b4, .int .i64 b5, .slice A n c, .int .i64 most, .int .i64 tol], .agg #[.int .i64 x, .int .i64 s]] W fun e w' => e = .returned (.tuple #[.agg #[.int .i64 z0, .int .i64 z1, .int .i64 z2, .int .i64 z3, .int .i64 z4, .int .i64 z5], .int .i64 ez]) ∧ Gr W w')
    (ho : ∀ W, Calls Tryd.prog 23 #[.agg #[.int .i64 v0, .int .i64 v1, .int .i64 v2, .int .i64 v3, .int .i64 v4, .int .i64 v5]] W fun e w' => e = .returned (.tuple #[.agg #[.int .i64 q0, .int .i64 q1, .int .i64 q2, .int .i64 q3, .int .i64 q4, .int .i64 q5], .int .i64 ef]) ∧ Gr W w')
    (hc : ∀ W, Gr w W → Calls Tryd.prog 27 #[.agg #[.int .i64 z0, .int .i64 z1, .int .i64 z2, .int .i64 z3, .int .i64 z4, .int .i64 z5], .agg #[.int .i64 q0, .int .i64 q1, .int .i64 q2, .int .i64 q3, .int .i64 q4, .int .i64 q5]] W fun e w' => e = .returned (.tuple #[.int .i64 C, .int .i64 0]) ∧ Gr W w')
    (hb : ez ≠ 0 ∨ (ez = 0 ∧ ef ≠ 0)) :
    Calls Tryd.prog 26 #[.agg #[.int .i64 b0, .int .i64 b1, .int .i64 b2, .int .i64 b3, .int .i64 b4, .int .i64 b5, .slice A n c, .int .i64 most, .int .i64 tol], .agg #[.int .i64 x, .int .i64 s], .agg #[.int .i64 v0, .int .i64 v1, .int .i64 v2, .int .i64 v3, .int .i64 v4, .int .i64 v5]] w
      fun e w' => e = .returned (.tuple #[.agg #[.int .i64 0, .int .i64 0, .int .i64 0, .int .i64 0, .int .i64 0, .int .i64 0], .bool false]) ∧ Gr w w' := by
  have HS := Lib.hid hs; have HO := Lib.hid ho; have HC := Lib.hid hc
  clear hs ho hc
  rcases hb with hb | ⟨rfl, hb⟩
  all_goals
    go_enter Tryd.func26, Tryd.ntmps26
    go_wp2_with (first | (go_at_call 15; with_reducible refine (HS.out _ (by repeat (first | with_reducible exact Gr.refl _ | with_reducible refine Gr.alloc ?_ _ | with_reducible refine Gr.drew ?_ | with_reducible refine Gr.trans ?_ (by assumption) | with_reducible refine Gr.setCell ?_ (by (try simp); (try omega)) _))).mono ?_; rintro e w' ⟨rfl, hb⟩; have hz := hb.le; obtain ⟨hc, hf⟩ := hb.cells; have hn := hb.cellsN; (try simp only [World.size_alloc] at hc hf hz hn); (try simp only [World.size_setCell] at hc hf hz hn); (try simp only [World.size_drew] at hc hf hz hn)) | (go_at_call 23; with_reducible refine (HO.out _).mono ?_; rintro e w' ⟨rfl, hb⟩; have hz := hb.le; obtain ⟨hc, hf⟩ := hb.cells; have hn := hb.cellsN; (try simp only [World.size_alloc] at hc hf hz hn); (try simp only [World.size_setCell] at hc hf hz hn); (try simp only [World.size_drew] at hc hf hz hn)) | (go_at_call 27; with_reducible refine (HC.out _ (by repeat (first | with_reducible exact Gr.refl _ | with_reducible refine Gr.alloc ?_ _ | with_reducible refine Gr.drew ?_ | with_reducible refine Gr.trans ?_ (by assumption) | with_reducible refine Gr.setCell ?_ (by (try simp); (try omega)) _))).mono ?_; rintro e w' ⟨rfl, hb⟩; have hz := hb.le; obtain ⟨hc, hf⟩ := hb.cells; have hn := hb.cellsN; (try simp only [World.size_alloc] at hc hf hz hn); (try simp only [World.size_setCell] at hc hf hz hn); (try simp only [World.size_drew] at hc hf hz hn)))
    refine bodyPost_six (by intro j hj; rcases (show j = 0 ∨ j = 1 ∨ j = 2 ∨ j = 3 ∨ j = 4 ∨ j = 5 by omega) with rfl | rfl | rfl | rfl | rfl | rfl <;> simp [go_sem, *]) ?_
    intro W' hW' s0 s1 s2 s3 s4 s5
    exact bodyPost_ret (v := .tuple #[.agg #[.int .i64 0, .int .i64 0, .int .i64 0, .int .i64 0, .int .i64 0, .int .i64 0], .bool false]) (by simp [results, Tryd.results26, go_sem, s0, s1, s2, s3, s4, s5]) rfl ⟨rfl, hW' _ (by repeat (first | with_reducible exact Gr.refl _ | with_reducible refine Gr.alloc ?_ _ | with_reducible refine Gr.drew ?_ | with_reducible refine Gr.trans ?_ (by assumption) | with_reducible refine Gr.setCell ?_ (by (try simp); (try omega)) _)) (by (try simp); (try omega))⟩
set_option maxRecDepth 100000 in
set_option maxHeartbeats 16000000 in
theorem ldist_good (b0 b1 b2 b3 b4 b5 most tol x s v0 v1 v2 v3 v4 v5 z0 z1 z2 z3 z4 z5 q0 q1 q2 q3 q4 q5 C y0 y1 y2 y3 y4 y5 E : Int) (r : Bool) (A : Option Addr) (n c : Nat) (w : World)
    (hs : ∀ W, Gr w W → Calls Tryd.prog 15 #[.agg #[.int .i64 b0, .int .i64 b1, .int .i64 b2, .int .i64 b3, .int .i64 b4, .int .i64 b5, .slice A n c, .int .i64 most, .int .i64 tol], .agg #[.int .i64 x, .int .i64 s]] W fun e w' => e = .returned (.tuple #[.agg #[.int .i64 z0, .int .i64 z1, .int .i64 z2, .int .i64 z3, .int .i64 z4, .int .i64 z5], .int .i64 0]) ∧ Gr W w')
    (ho : ∀ W, Calls Tryd.prog 23 #[.agg #[.int .i64 v0, .int .i64 v1, .int .i64 v2, .int .i64 v3, .int .i64 v4, .int .i64 v5]] W fun e w' => e = .returned (.tuple #[.agg #[.int .i64 q0, .int .i64 q1, .int .i64 q2, .int .i64 q3, .int .i64 q4, .int .i64 q5], .int .i64 0]) ∧ Gr W w')
    (hc : ∀ W, Gr w W → Calls Tryd.prog 27 #[.agg #[.int .i64 z0, .int .i64 z1, .int .i64 z2, .int .i64 z3, .int .i64 z4, .int .i64 z5], .agg #[.int .i64 q0, .int .i64 q1, .int .i64 q2, .int .i64 q3, .int .i64 q4, .int .i64 q5]] W fun e w' => e = .returned (.tuple #[.int .i64 C, .int .i64 0]) ∧ Gr W w')
    (hd : (C < 0 ∧ ∀ W, Calls Tryd.prog 32 #[.agg #[.int .i64 q0, .int .i64 q1, .int .i64 q2, .int .i64 q3, .int .i64 q4, .int .i64 q5], .agg #[.int .i64 z0, .int .i64 z1, .int .i64 z2, .int .i64 z3, .int .i64 z4, .int .i64 z5]] W fun e w' => e = .returned (.tuple #[.agg #[.int .i64 y0, .int .i64 y1, .int .i64 y2, .int .i64 y3, .int .i64 y4, .int .i64 y5], .int .i64 E]) ∧ Gr W w') ∨
      (¬ C < 0 ∧ ∀ W, Calls Tryd.prog 32 #[.agg #[.int .i64 z0, .int .i64 z1, .int .i64 z2, .int .i64 z3, .int .i64 z4, .int .i64 z5], .agg #[.int .i64 q0, .int .i64 q1, .int .i64 q2, .int .i64 q3, .int .i64 q4, .int .i64 q5]] W fun e w' => e = .returned (.tuple #[.agg #[.int .i64 y0, .int .i64 y1, .int .i64 y2, .int .i64 y3, .int .i64 y4, .int .i64 y5], .int .i64 E]) ∧ Gr W w'))
    (hr : (E = 0 ∧ r = true) ∨ (E = 3 ∧ r = false)) :
    Calls Tryd.prog 26 #[.agg #[.int .i64 b0, .int .i64 b1, .int .i64 b2, .int .i64 b3, .int .i64 b4, .int .i64 b5, .slice A n c, .int .i64 most, .int .i64 tol], .agg #[.int .i64 x, .int .i64 s], .agg #[.int .i64 v0, .int .i64 v1, .int .i64 v2, .int .i64 v3, .int .i64 v4, .int .i64 v5]] w
      fun e w' => e = .returned (.tuple #[.agg #[.int .i64 y0, .int .i64 y1, .int .i64 y2, .int .i64 y3, .int .i64 y4, .int .i64 y5], .bool r]) ∧ Gr w w' := by
  have HS := Lib.hid hs; have HO := Lib.hid ho; have HC := Lib.hid hc
  clear hs ho hc
  rcases hd with ⟨hC, hd⟩ | ⟨hC, hd⟩
  all_goals
    have HD := Lib.hid hd
    clear hd
    rcases hr with ⟨rfl, rfl⟩ | ⟨rfl, rfl⟩
    · go_enter Tryd.func26, Tryd.ntmps26
      go_wp2_with (first | (go_at_call 15; with_reducible refine (HS.out _ (by repeat (first | with_reducible exact Gr.refl _ | with_reducible refine Gr.alloc ?_ _ | with_reducible refine Gr.drew ?_ | with_reducible refine Gr.trans ?_ (by assumption) | with_reducible refine Gr.setCell ?_ (by (try simp); (try omega)) _))).mono ?_; rintro e w' ⟨rfl, hb⟩; have hz := hb.le; obtain ⟨hc, hf⟩ := hb.cells; have hn := hb.cellsN; (try simp only [World.size_alloc] at hc hf hz hn); (try simp only [World.size_setCell] at hc hf hz hn); (try simp only [World.size_drew] at hc hf hz hn)) | (go_at_call 23; with_reducible refine (HO.out _).mono ?_; rintro e w' ⟨rfl, hb⟩; have hz := hb.le; obtain ⟨hc, hf⟩ := hb.cells; have hn := hb.cellsN; (try simp only [World.size_alloc] at hc hf hz hn); (try simp only [World.size_setCell] at hc hf hz hn); (try simp only [World.size_drew] at hc hf hz hn)) | (go_at_call 27; with_reducible refine (HC.out _ (by repeat (first | with_reducible exact Gr.refl _ | with_reducible refine Gr.alloc ?_ _ | with_reducible refine Gr.drew ?_ | with_reducible refine Gr.trans ?_ (by assumption) | with_reducible refine Gr.setCell ?_ (by (try simp); (try omega)) _))).mono ?_; rintro e w' ⟨rfl, hb⟩; have hz := hb.le; obtain ⟨hc, hf⟩ := hb.cells; have hn := hb.cellsN; (try simp only [World.size_alloc] at hc hf hz hn); (try simp only [World.size_setCell] at hc hf hz hn); (try simp only [World.size_drew] at hc hf hz hn)) | (go_at_call 32; with_reducible refine (HD.out _).mono ?_; rintro e w' ⟨rfl, hb⟩; have hz := hb.le; obtain ⟨hc, hf⟩ := hb.cells; have hn := hb.cellsN; (try simp only [World.size_alloc] at hc hf hz hn); (try simp only [World.size_setCell] at hc hf hz hn); (try simp only [World.size_drew] at hc hf hz hn)))
      refine bodyPost_six (by intro j hj; rcases (show j = 0 ∨ j = 1 ∨ j = 2 ∨ j = 3 ∨ j = 4 ∨ j = 5 by omega) with rfl | rfl | rfl | rfl | rfl | rfl <;> simp [go_sem, *]) ?_
      intro W' hW' s0 s1 s2 s3 s4 s5
      exact bodyPost_ret (v := .tuple #[.agg #[.int .i64 y0, .int .i64 y1, .int .i64 y2, .int .i64 y3, .int .i64 y4, .int .i64 y5], .bool true]) (by simp [results, Tryd.results26, go_sem, s0, s1, s2, s3, s4, s5]) rfl ⟨rfl, hW' _ (by repeat (first | with_reducible exact Gr.refl _ | with_reducible refine Gr.alloc ?_ _ | with_reducible refine Gr.drew ?_ | with_reducible refine Gr.trans ?_ (by assumption) | with_reducible refine Gr.setCell ?_ (by (try simp); (try omega)) _)) (by (try simp); (try omega))⟩
    · go_enter Tryd.func26, Tryd.ntmps26
      go_wp2_with (first | (go_at_call 15; with_reducible refine (HS.out _ (by repeat (first | with_reducible exact Gr.refl _ | with_reducible refine Gr.alloc ?_ _ | with_reducible refine Gr.drew ?_ | with_reducible refine Gr.trans ?_ (by assumption) | with_reducible refine Gr.setCell ?_ (by (try simp); (try omega)) _))).mono ?_; rintro e w' ⟨rfl, hb⟩; have hz := hb.le; obtain ⟨hc, hf⟩ := hb.cells; have hn := hb.cellsN; (try simp only [World.size_alloc] at hc hf hz hn); (try simp only [World.size_setCell] at hc hf hz hn); (try simp only [World.size_drew] at hc hf hz hn)) | (go_at_call 23; with_reducible refine (HO.out _).mono ?_; rintro e w' ⟨rfl, hb⟩; have hz := hb.le; obtain ⟨hc, hf⟩ := hb.cells; have hn := hb.cellsN; (try simp only [World.size_alloc] at hc hf hz hn); (try simp only [World.size_setCell] at hc hf hz hn); (try simp only [World.size_drew] at hc hf hz hn)) | (go_at_call 27; with_reducible refine (HC.out _ (by repeat (first | with_reducible exact Gr.refl _ | with_reducible refine Gr.alloc ?_ _ | with_reducible refine Gr.drew ?_ | with_reducible refine Gr.trans ?_ (by assumption) | with_reducible refine Gr.setCell ?_ (by (try simp); (try omega)) _))).mono ?_; rintro e w' ⟨rfl, hb⟩; have hz := hb.le; obtain ⟨hc, hf⟩ := hb.cells; have hn := hb.cellsN; (try simp only [World.size_alloc] at hc hf hz hn); (try simp only [World.size_setCell] at hc hf hz hn); (try simp only [World.size_drew] at hc hf hz hn)) | (go_at_call 32; with_reducible refine (HD.out _).mono ?_; rintro e w' ⟨rfl, hb⟩; have hz := hb.le; obtain ⟨hc, hf⟩ := hb.cells; have hn := hb.cellsN; (try simp only [World.size_alloc] at hc hf hz hn); (try simp only [World.size_setCell] at hc hf hz hn); (try simp only [World.size_drew] at hc hf hz hn)))
      refine bodyPost_six (by intro j hj; rcases (show j = 0 ∨ j = 1 ∨ j = 2 ∨ j = 3 ∨ j = 4 ∨ j = 5 by omega) with rfl | rfl | rfl | rfl | rfl | rfl <;> simp [go_sem, *]) ?_
      intro W' hW' s0 s1 s2 s3 s4 s5
      exact bodyPost_ret (v := .tuple #[.agg #[.int .i64 y0, .int .i64 y1, .int .i64 y2, .int .i64 y3, .int .i64 y4, .int .i64 y5], .bool false]) (by simp [results, Tryd.results26, go_sem, s0, s1, s2, s3, s4, s5]) rfl ⟨rfl, hW' _ (by repeat (first | with_reducible exact Gr.refl _ | with_reducible refine Gr.alloc ?_ _ | with_reducible refine Gr.drew ?_ | with_reducible refine Gr.trans ?_ (by assumption) | with_reducible refine Gr.setCell ?_ (by (try simp); (try omega)) _)) (by (try simp); (try omega))⟩

/-- What the law's own distance returns. -/
def LDAll (base : V6) (f : Nat → Nat → Int) (n : Nat) (most tol x s : Int) (v d : V6) (r : Bool) : Prop :=
  (r = true ∧ hornOk base n f most tol = true ∧ isBlow n most x s ∧ allIn (soundV base f n x.toNat s.toNat) 576 6 = true ∧ allIn v 48 6 = true ∧ allIn (distV (soundV base f n x.toNat s.toNat) (atV v)) 576 6 = true ∧ d = distV (soundV base f n x.toNat s.toNat) (atV v)) ∨
  (r = false ∧ ¬ (hornOk base n f most tol = true ∧ isBlow n most x s ∧ allIn (soundV base f n x.toNat s.toNat) 576 6 = true ∧ allIn v 48 6 = true ∧ allIn (distV (soundV base f n x.toNat s.toNat) (atV v)) 576 6 = true))
theorem ldist_all (b0 b1 b2 b3 b4 b5 most tol x s v0 v1 v2 v3 v4 v5 : Int) (A : Option Addr) (n c : Nat) (f : Nat → Nat → Int) (hn : n ≤ 9223372036854775807) :
    ∃ (d0 d1 d2 d3 d4 d5 : Int) (r : Bool), (∀ w, Tabs w → RowsAt w 6 A n f → Calls Tryd.prog 26 #[.agg #[.int .i64 b0, .int .i64 b1, .int .i64 b2, .int .i64 b3, .int .i64 b4, .int .i64 b5, .slice A n c, .int .i64 most, .int .i64 tol], .agg #[.int .i64 x, .int .i64 s], .agg #[.int .i64 v0, .int .i64 v1, .int .i64 v2, .int .i64 v3, .int .i64 v4, .int .i64 v5]] w
      fun e w' => e = .returned (.tuple #[.agg #[.int .i64 d0, .int .i64 d1, .int .i64 d2, .int .i64 d3, .int .i64 d4, .int .i64 d5], .bool r]) ∧ Gr w w') ∧ LDAll ⟨b0, b1, b2, b3, b4, b5⟩ f n most tol x s ⟨v0, v1, v2, v3, v4, v5⟩ ⟨d0, d1, d2, d3, d4, d5⟩ r := by
  obtain ⟨z0, z1, z2, z3, z4, z5, ez, hs, hsa⟩ := Sound_all b0 b1 b2 b3 b4 b5 most tol x s A n c f hn
  obtain ⟨q0, q1, q2, q3, q4, q5, ef, ho, hoa⟩ := pof_all v0 v1 v2 v3 v4 v5
  have hzi := sndAll_in hsa
  have hqi : allIn ⟨q0, q1, q2, q3, q4, q5⟩ 576 6 = true := by
    rcases hoa with ⟨hv, e, -⟩ | ⟨-, e, -⟩
    · rw [e]; exact atV_in hv
    · rw [e]; exact zero_in
  have hc := fun W (hP : Primes W) => pcmp_ok z0 z1 z2 z3 z4 z5 q0 q1 q2 q3 q4 q5 W hP hzi hqi
  have bad : (ez ≠ 0 ∨ (ez = 0 ∧ ef ≠ 0)) → ∀ w, Tabs w → RowsAt w 6 A n f → Calls Tryd.prog 26 #[.agg #[.int .i64 b0, .int .i64 b1, .int .i64 b2, .int .i64 b3, .int .i64 b4, .int .i64 b5, .slice A n c, .int .i64 most, .int .i64 tol], .agg #[.int .i64 x, .int .i64 s], .agg #[.int .i64 v0, .int .i64 v1, .int .i64 v2, .int .i64 v3, .int .i64 v4, .int .i64 v5]] w
      fun e w' => e = .returned (.tuple #[.agg #[.int .i64 0, .int .i64 0, .int .i64 0, .int .i64 0, .int .i64 0, .int .i64 0], .bool false]) ∧ Gr w w' :=
    fun hb w hT hV => ldist_bad _ _ _ _ _ _ _ _ _ _ _ _ _ _ _ _ _ _ _ _ _ _ _ _ _ _ _ _ _ _ _ A n c w (fun W g => hs W (hT.keep g) (hV.keep g)) ho (fun W g => hc W (hT.keep g).primes) hb
  have nope : ez ≠ 0 → ¬ (hornOk ⟨b0, b1, b2, b3, b4, b5⟩ n f most tol = true ∧ isBlow n most x s ∧ allIn (soundV ⟨b0, b1, b2, b3, b4, b5⟩ f n x.toNat s.toNat) 576 6 = true ∧ allIn ⟨v0, v1, v2, v3, v4, v5⟩ 48 6 = true ∧ allIn (distV (soundV ⟨b0, b1, b2, b3, b4, b5⟩ f n x.toNat s.toNat) (atV ⟨v0, v1, v2, v3, v4, v5⟩)) 576 6 = true) := by
    rintro hez ⟨h1, h2, h3, -, -⟩
    rcases hsa with ⟨h, -⟩ | ⟨-, h, -⟩ | ⟨-, -, -, -, h⟩ | ⟨-, -, h, -⟩
    · rw [h] at h1; cases h1
    · exact h h2
    · exact hez h
    · rw [h] at h3; cases h3
  by_cases hez : ez = 0
  · subst hez
    obtain ⟨hok, hB, hS, hz⟩ : hornOk ⟨b0, b1, b2, b3, b4, b5⟩ n f most tol = true ∧ isBlow n most x s ∧ allIn (soundV ⟨b0, b1, b2, b3, b4, b5⟩ f n x.toNat s.toNat) 576 6 = true ∧ (⟨z0, z1, z2, z3, z4, z5⟩ : V6) = soundV ⟨b0, b1, b2, b3, b4, b5⟩ f n x.toNat s.toNat := by
      rcases hsa with ⟨-, -, h⟩ | ⟨-, -, -, h⟩ | ⟨h1, h2, h3, h4, -⟩ | ⟨-, -, -, -, h⟩
      · omega
      · omega
      · exact ⟨h1, h2, h3, h4⟩
      · omega
    rcases hoa with ⟨hv, hq, rfl⟩ | ⟨hv, hq, rfl⟩
    · by_cases hC : cmpP (V6.sub ⟨z0, z1, z2, z3, z4, z5⟩ ⟨q0, q1, q2, q3, q4, q5⟩) < 0
      · obtain ⟨y0, y1, y2, y3, y4, y5, E, hd, hde⟩ := div_any q0 q1 q2 q3 q4 q5 z0 z1 z2 z3 z4 z5 hqi hzi
        have e : distV ⟨z0, z1, z2, z3, z4, z5⟩ ⟨q0, q1, q2, q3, q4, q5⟩ = ⟨q0 - z0, q1 - z1, q2 - z2, q3 - z3, q4 - z4, q5 - z5⟩ := by rw [distV, if_pos hC]; rfl
        refine ⟨y0, y1, y2, y3, y4, y5, E == 0, fun w hT hV => ldist_good _ _ _ _ _ _ _ _ _ _ _ _ _ _ _ _ _ _ _ _ _ _ _ _ _ _ _ _ _ _ _ _ _ _ _ E _ A n c w (fun W g => hs W (hT.keep g) (hV.keep g)) ho (fun W g => hc W (hT.keep g).primes) (.inl ⟨hC, hd⟩) ?_, ?_⟩
        · rcases hde with ⟨-, rfl, -⟩ | ⟨-, rfl⟩
          · exact .inl ⟨rfl, rfl⟩
          · exact .inr ⟨rfl, rfl⟩
        · rw [LDAll, ← hz, ← hq, e]
          rcases hde with ⟨h1, rfl, h2⟩ | ⟨h1, rfl⟩
          · exact .inl ⟨rfl, hok, hB, hz ▸ hS, hv, h1, h2⟩
          · exact .inr ⟨rfl, fun h => by rw [h.2.2.2.2] at h1; cases h1⟩
      · obtain ⟨y0, y1, y2, y3, y4, y5, E, hd, hde⟩ := div_any z0 z1 z2 z3 z4 z5 q0 q1 q2 q3 q4 q5 hzi hqi
        have e : distV ⟨z0, z1, z2, z3, z4, z5⟩ ⟨q0, q1, q2, q3, q4, q5⟩ = ⟨z0 - q0, z1 - q1, z2 - q2, z3 - q3, z4 - q4, z5 - q5⟩ := by rw [distV, if_neg hC]; rfl
        refine ⟨y0, y1, y2, y3, y4, y5, E == 0, fun w hT hV => ldist_good _ _ _ _ _ _ _ _ _ _ _ _ _ _ _ _ _ _ _ _ _ _ _ _ _ _ _ _ _ _ _ _ _ _ _ E _ A n c w (fun W g => hs W (hT.keep g) (hV.keep g)) ho (fun W g => hc W (hT.keep g).primes) (.inr ⟨hC, hd⟩) ?_, ?_⟩
        · rcases hde with ⟨-, rfl, -⟩ | ⟨-, rfl⟩
          · exact .inl ⟨rfl, rfl⟩
          · exact .inr ⟨rfl, rfl⟩
        · rw [LDAll, ← hz, ← hq, e]
          rcases hde with ⟨h1, rfl, h2⟩ | ⟨h1, rfl⟩
          · exact .inl ⟨rfl, hok, hB, hz ▸ hS, hv, h1, h2⟩
          · exact .inr ⟨rfl, fun h => by rw [h.2.2.2.2] at h1; cases h1⟩
    · exact ⟨0, 0, 0, 0, 0, 0, false, bad (.inr ⟨rfl, by omega⟩), .inr ⟨rfl, fun h => by rw [hv] at h; cases h.2.2.2.1⟩⟩
  · exact ⟨0, 0, 0, 0, 0, 0, false, bad (.inl hez), .inr ⟨rfl, nope hez⟩⟩
end Go.Proofs.YtbaopniofhbjdaaDoor
