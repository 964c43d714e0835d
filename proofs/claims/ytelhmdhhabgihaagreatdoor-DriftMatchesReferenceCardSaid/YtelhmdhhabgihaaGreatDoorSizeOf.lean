import Derived.Test.YtelhmdhhabgihaaGreatDoorNear
namespace Go.Proofs.YtelhmdhhabgihaaGreatDoor
open Go.RowKit

set_option maxHeartbeats 1000000 in
theorem of_ok (a0 a1 a2 a3 a4 a5 : Int) (w : World) (hL : Logs w) (hva : allIn ⟨a0, a1, a2, a3, a4, a5⟩ 576 6 = true) :
    Calls Tryz.prog 25 #[.agg #[.int .i64 a0, .int .i64 a1, .int .i64 a2, .int .i64 a3, .int .i64 a4, .int .i64 a5]] w
      fun e w' => e = .returned (.tuple #[.agg #[.int .i64 (sumLo ⟨a0, a1, a2, a3, a4, a5⟩ 6), .int .i64 (sumHi ⟨a0, a1, a2, a3, a4, a5⟩ 6)], .int .i64 0]) ∧ Gr w w' := by
  have hv2 := Lib.hid (allIn_mono hva (show (576 : Int) ≤ 1152 by omega))
  have HL := Lib.hid hL
  clear hL
  go_enter Tryz.func25, Tryz.ntmps25
  go_wp2_with (go_at_call 34; with_reducible refine (pitchValid_any _ _ _ _ _ _ _).mono ?_; rintro e w' ⟨rfl, hb⟩; have hz := hb.le; obtain ⟨hc, hf⟩ := hb.cells; (try simp only [World.size_alloc] at hc hf hz); (try simp only [World.size_setCell] at hc hf hz); (try simp only [World.size_drew] at hc hf hz))
  go_wp2_with (go_at_call 41; with_reducible refine (exponents_any _ _ _ _ _ _ _ (HL.out.keep (by repeat (first | exact Gr.refl _ | refine Gr.alloc ?_ _ | refine Gr.drew ?_ | refine Gr.trans ?_ (by assumption) | refine Gr.setCell ?_ (by (try simp); (try omega)) _))) hv2.out).mono ?_; rintro e w' ⟨rfl, hb⟩; have hz := hb.le; obtain ⟨hc, hf⟩ := hb.cells; (try simp only [World.size_alloc] at hc hf hz); (try simp only [World.size_setCell] at hc hf hz); (try simp only [World.size_drew] at hc hf hz))
  exact bodyPost_ret (v := .tuple #[.agg #[.int .i64 (sumLo ⟨a0, a1, a2, a3, a4, a5⟩ 6), .int .i64 (sumHi ⟨a0, a1, a2, a3, a4, a5⟩ 6)], .int .i64 0]) (by simp [results, Tryz.results25, go_sem, *]) rfl ⟨rfl, (by repeat (first | exact Gr.refl _ | refine Gr.alloc ?_ _ | refine Gr.drew ?_ | refine Gr.trans ?_ (by assumption) | refine Gr.setCell ?_ (by (try simp); (try omega)) _))⟩
set_option maxHeartbeats 1000000 in
theorem of_bad (a0 a1 a2 a3 a4 a5 : Int) (w : World) (hva : allIn ⟨a0, a1, a2, a3, a4, a5⟩ 576 6 = false) :
    Calls Tryz.prog 25 #[.agg #[.int .i64 a0, .int .i64 a1, .int .i64 a2, .int .i64 a3, .int .i64 a4, .int .i64 a5]] w
      fun e w' => e = .returned (.tuple #[.agg #[.int .i64 0, .int .i64 0], .int .i64 1]) ∧ Gr w w' := by
  go_enter Tryz.func25, Tryz.ntmps25
  go_wp2_with (go_at_call 34; with_reducible refine (pitchValid_any _ _ _ _ _ _ _).mono ?_; rintro e w' ⟨rfl, hb⟩; have hz := hb.le; obtain ⟨hc, hf⟩ := hb.cells; (try simp only [World.size_alloc] at hc hf hz); (try simp only [World.size_setCell] at hc hf hz); (try simp only [World.size_drew] at hc hf hz))
  exact bodyPost_ret (v := .tuple #[.agg #[.int .i64 0, .int .i64 0], .int .i64 1]) (by simp [results, Tryz.results25, go_sem, *]) rfl ⟨rfl, (by repeat (first | exact Gr.refl _ | refine Gr.alloc ?_ _ | refine Gr.drew ?_ | refine Gr.trans ?_ (by assumption) | refine Gr.setCell ?_ (by (try simp); (try omega)) _))⟩
end Go.Proofs.YtelhmdhhabgihaaGreatDoor
