import Derived.Test.YtmealmnjeoehiaaDoorNear
import Derived.Test.YtmealmnjeoehiaaDoorTimes
namespace Go.Proofs.YtmealmnjeoehiaaDoor
open Go.RowKit

theorem six_lit {x y : Int} (h : x = y) : Value.int .i64 x = .int .i64 y := by rw [h]

theorem h_of1 (w : World) (hL : Logs w) : Calls Tryd.prog 23 #[.agg #[.int .i64 (-12), .int .i64 12, .int .i64 0, .int .i64 0, .int .i64 0, .int .i64 0]] w
    fun e w' => e = .returned (.tuple #[.agg #[.int .i64 7019550000, .int .i64 7019550012], .int .i64 0]) ∧ Gr w w' := by
  have h1 : sumLo ⟨-12, 12, 0, 0, 0, 0⟩ 6 = 7019550000 := by decide +kernel
  have h2 : sumHi ⟨-12, 12, 0, 0, 0, 0⟩ 6 = 7019550012 := by decide +kernel
  have := of_ok (-12) 12 0 0 0 0 w hL (by decide +kernel)
  rwa [h1, h2] at this
theorem h_of2 (w : World) (hL : Logs w) : Calls Tryd.prog 23 #[.agg #[.int .i64 (-48), .int .i64 48, .int .i64 (-12), .int .i64 0, .int .i64 0, .int .i64 0]] w
    fun e w' => e = .returned (.tuple #[.agg #[.int .i64 215062860, .int .i64 215062920], .int .i64 0]) ∧ Gr w w' := by
  have h1 : sumLo ⟨-48, 48, -12, 0, 0, 0⟩ 6 = 215062860 := by decide +kernel
  have h2 : sumHi ⟨-48, 48, -12, 0, 0, 0⟩ 6 = 215062920 := by decide +kernel
  have := of_ok (-48) 48 (-12) 0 0 0 w hL (by decide +kernel)
  rwa [h1, h2] at this
theorem h_near1 (w : World) (hL : Logs w) : Calls Tryd.prog 21 #[.agg #[.int .i64 (-48), .int .i64 48, .int .i64 (-12), .int .i64 0, .int .i64 0, .int .i64 0], .agg #[.int .i64 0, .int .i64 0, .int .i64 0, .int .i64 0, .int .i64 0, .int .i64 0], .int .i64 21506] w
    fun e w' => e = .returned (.tuple #[.int .i64 (-1), .int .i64 0]) ∧ Gr w w' := by
  have := near_ok (-48) 48 (-12) 0 0 0 0 0 0 0 0 0 21506 w hL (by decide +kernel) (by decide +kernel) (by decide) (by decide)
  have h1 : surelyI (sumLo ⟨-48 - 0, 48 - 0, -12 - 0, 0 - 0, 0 - 0, 0 - 0⟩ 6) (sumHi ⟨-48 - 0, 48 - 0, -12 - 0, 0 - 0, 0 - 0, 0 - 0⟩ 6) (-10000 * 21506) (10000 * 21506) = -1 := by decide +kernel
  rwa [h1] at this
theorem h_near2 (w : World) (hL : Logs w) : Calls Tryd.prog 21 #[.agg #[.int .i64 (-48), .int .i64 48, .int .i64 (-12), .int .i64 0, .int .i64 0, .int .i64 0], .agg #[.int .i64 0, .int .i64 0, .int .i64 0, .int .i64 0, .int .i64 0, .int .i64 0], .int .i64 21507] w
    fun e w' => e = .returned (.tuple #[.int .i64 1, .int .i64 0]) ∧ Gr w w' := by
  have := near_ok (-48) 48 (-12) 0 0 0 0 0 0 0 0 0 21507 w hL (by decide +kernel) (by decide +kernel) (by decide) (by decide)
  have h1 : surelyI (sumLo ⟨-48 - 0, 48 - 0, -12 - 0, 0 - 0, 0 - 0, 0 - 0⟩ 6) (sumHi ⟨-48 - 0, 48 - 0, -12 - 0, 0 - 0, 0 - 0, 0 - 0⟩ 6) (-10000 * 21507) (10000 * 21507) = 1 := by decide +kernel
  rwa [h1] at this
theorem h_within (w : World) : Calls Tryd.prog 17 #[.agg #[.int .i64 7019550000, .int .i64 7019550012], .int .i64 7019550000, .int .i64 7019550011] w
    fun e w' => e = .returned (.tuple #[.int .i64 0, .int .i64 0]) ∧ Gr w w' := by
  have := within_ok 7019550000 7019550012 7019550000 7019550011 w (by decide +kernel) (by decide)
  have h1 : surelyI 7019550000 7019550012 7019550000 7019550011 = 0 := by decide +kernel
  rwa [h1] at this
theorem h_times1 (w : World) : Calls Tryd.prog 24 #[.agg #[.int .i64 1, .int .i64 3], .int .i64 (-2)] w
    fun e w' => e = .returned (.tuple #[.agg #[.int .i64 (-6), .int .i64 (-2)], .int .i64 0]) ∧ Gr w w' :=
  times_ok 1 3 (-2) w (by decide +kernel) (by decide +kernel) (by decide +kernel)
theorem h_times2 (w : World) : Calls Tryd.prog 24 #[.agg #[.int .i64 0, .int .i64 1], .int .i64 100000000000001] w
    fun e w' => e = .returned (.tuple #[.agg #[.int .i64 0, .int .i64 0], .int .i64 3]) ∧ Gr w w' :=
  times_out 0 1 100000000000001 w (by decide +kernel) (by decide +kernel)
theorem h_meet1 (w : World) : Calls Tryd.prog 16 #[.agg #[.int .i64 1, .int .i64 3], .agg #[.int .i64 3, .int .i64 9]] w
    fun e w' => e = .returned (.tuple #[.agg #[.int .i64 3, .int .i64 3], .int .i64 0]) ∧ Gr w w' :=
  meet_some 1 3 3 9 w (by decide +kernel) (by decide +kernel) (by decide +kernel)
theorem h_meet2 (w : World) : Calls Tryd.prog 16 #[.agg #[.int .i64 1, .int .i64 3], .agg #[.int .i64 4, .int .i64 9]] w
    fun e w' => e = .returned (.tuple #[.agg #[.int .i64 0, .int .i64 0], .int .i64 4]) ∧ Gr w w' :=
  meet_none 1 3 4 9 w (by decide +kernel) (by decide +kernel) (by decide +kernel)
theorem h_valid (w : World) : Calls Tryd.prog 14 #[.agg #[.int .i64 1, .int .i64 0]] w
    fun e w' => e = .returned (.bool false) ∧ Gr w w' :=
  valid_any 1 0 w

set_option maxRecDepth 100000 in
set_option maxHeartbeats 2000000 in
theorem head_any (w : World) (hL : Logs w) : Calls Tryd.prog 12 #[] w fun e w' => e = .returned (.bool true) ∧ Gr w w' := by
  have HL := Lib.hid hL
  clear hL
  go_enter Tryd.func12, Tryd.ntmps12
  go_wp2_with (first | (go_at_call 23; with_reducible refine (h_of1 _ (HL.out.keep (by repeat (first | exact Gr.refl _ | refine Gr.alloc ?_ _ | refine Gr.drew ?_ | refine Gr.trans ?_ (by assumption) | refine Gr.setCell ?_ (by (try simp); (try omega)) _)))).mono ?_; rintro e w' ⟨rfl, hb⟩; have hz := hb.le; obtain ⟨hc, hf⟩ := hb.cells; (try simp only [World.size_alloc] at hc hf hz); (try simp only [World.size_setCell] at hc hf hz); (try simp only [World.size_drew] at hc hf hz)) | (go_at_call 23; with_reducible refine (h_of2 _ (HL.out.keep (by repeat (first | exact Gr.refl _ | refine Gr.alloc ?_ _ | refine Gr.drew ?_ | refine Gr.trans ?_ (by assumption) | refine Gr.setCell ?_ (by (try simp); (try omega)) _)))).mono ?_; rintro e w' ⟨rfl, hb⟩; have hz := hb.le; obtain ⟨hc, hf⟩ := hb.cells; (try simp only [World.size_alloc] at hc hf hz); (try simp only [World.size_setCell] at hc hf hz); (try simp only [World.size_drew] at hc hf hz)) | (go_at_call 21; with_reducible refine (h_near1 _ (HL.out.keep (by repeat (first | exact Gr.refl _ | refine Gr.alloc ?_ _ | refine Gr.drew ?_ | refine Gr.trans ?_ (by assumption) | refine Gr.setCell ?_ (by (try simp); (try omega)) _)))).mono ?_; rintro e w' ⟨rfl, hb⟩; have hz := hb.le; obtain ⟨hc, hf⟩ := hb.cells; (try simp only [World.size_alloc] at hc hf hz); (try simp only [World.size_setCell] at hc hf hz); (try simp only [World.size_drew] at hc hf hz)) | (go_at_call 21; with_reducible refine (h_near2 _ (HL.out.keep (by repeat (first | exact Gr.refl _ | refine Gr.alloc ?_ _ | refine Gr.drew ?_ | refine Gr.trans ?_ (by assumption) | refine Gr.setCell ?_ (by (try simp); (try omega)) _)))).mono ?_; rintro e w' ⟨rfl, hb⟩; have hz := hb.le; obtain ⟨hc, hf⟩ := hb.cells; (try simp only [World.size_alloc] at hc hf hz); (try simp only [World.size_setCell] at hc hf hz); (try simp only [World.size_drew] at hc hf hz)) | (go_at_call 17; with_reducible refine (h_within _).mono ?_; rintro e w' ⟨rfl, hb⟩; have hz := hb.le; obtain ⟨hc, hf⟩ := hb.cells; (try simp only [World.size_alloc] at hc hf hz); (try simp only [World.size_setCell] at hc hf hz); (try simp only [World.size_drew] at hc hf hz)) | (go_at_call 24; with_reducible refine (h_times1 _).mono ?_; rintro e w' ⟨rfl, hb⟩; have hz := hb.le; obtain ⟨hc, hf⟩ := hb.cells; (try simp only [World.size_alloc] at hc hf hz); (try simp only [World.size_setCell] at hc hf hz); (try simp only [World.size_drew] at hc hf hz)) | (go_at_call 24; with_reducible refine (h_times2 _).mono ?_; rintro e w' ⟨rfl, hb⟩; have hz := hb.le; obtain ⟨hc, hf⟩ := hb.cells; (try simp only [World.size_alloc] at hc hf hz); (try simp only [World.size_setCell] at hc hf hz); (try simp only [World.size_drew] at hc hf hz)) | (go_at_call 16; with_reducible refine (h_meet1 _).mono ?_; rintro e w' ⟨rfl, hb⟩; have hz := hb.le; obtain ⟨hc, hf⟩ := hb.cells; (try simp only [World.size_alloc] at hc hf hz); (try simp only [World.size_setCell] at hc hf hz); (try simp only [World.size_drew] at hc hf hz)) | (go_at_call 16; with_reducible refine (h_meet2 _).mono ?_; rintro e w' ⟨rfl, hb⟩; have hz := hb.le; obtain ⟨hc, hf⟩ := hb.cells; (try simp only [World.size_alloc] at hc hf hz); (try simp only [World.size_setCell] at hc hf hz); (try simp only [World.size_drew] at hc hf hz)) | (go_at_call 14; with_reducible refine (h_valid _).mono ?_; rintro e w' ⟨rfl, hb⟩; have hz := hb.le; obtain ⟨hc, hf⟩ := hb.cells; (try simp only [World.size_alloc] at hc hf hz); (try simp only [World.size_setCell] at hc hf hz); (try simp only [World.size_drew] at hc hf hz)))
  go_ret
  exact ⟨rfl, (by repeat (first | exact Gr.refl _ | refine Gr.alloc ?_ _ | refine Gr.drew ?_ | refine Gr.trans ?_ (by assumption) | refine Gr.setCell ?_ (by (try simp); (try omega)) _))⟩
end Go.Proofs.YtmealmnjeoehiaaDoor
