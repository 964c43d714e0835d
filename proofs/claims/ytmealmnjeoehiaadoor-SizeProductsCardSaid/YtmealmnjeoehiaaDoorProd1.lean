import Derived.Test.YtmealmnjeoehiaaDoorNearPlain
import Derived.Test.YtmealmnjeoehiaaDoorMultiples
import Derived.Test.YtmealmnjeoehiaaDoorSurely
namespace Go.Proofs.YtmealmnjeoehiaaDoor
open Go.RowKit

/-- Among the first n primes one has exponents of opposite signs. -/
def oppB (u v : V6) : Nat → Bool
  | 0 => false
  | n + 1 => oppB u v n || ((decide (u.get n < 0) && decide (0 < v.get n)) || (decide (0 < u.get n) && decide (v.get n < 0)))

theorem oppB_succ (u v : V6) (n : Nat) : oppB u v (n + 1) = (oppB u v n || ((decide (u.get n < 0) && decide (0 < v.get n)) || (decide (0 < u.get n) && decide (v.get n < 0)))) := rfl

theorem of_is {p0 p1 p2 p3 p4 p5 a b : Int} (w : World) (hL : Logs w) (hva : allIn ⟨p0, p1, p2, p3, p4, p5⟩ 576 6 = true) (ha : sumLo ⟨p0, p1, p2, p3, p4, p5⟩ 6 = a) (hb : sumHi ⟨p0, p1, p2, p3, p4, p5⟩ 6 = b) :
    Calls Tryd.prog 23 #[.agg #[.int .i64 p0, .int .i64 p1, .int .i64 p2, .int .i64 p3, .int .i64 p4, .int .i64 p5]] w fun e w' => e = .returned (.tuple #[.agg #[.int .i64 a, .int .i64 b], .int .i64 0]) ∧ Gr w w' := by
  subst ha hb; exact of_ok p0 p1 p2 p3 p4 p5 w hL hva
theorem gap_is {p0 p1 p2 p3 p4 p5 q0 q1 q2 q3 q4 q5 a b : Int} (w : World) (hL : Logs w) (hva : allIn ⟨p0, p1, p2, p3, p4, p5⟩ 576 6 = true) (hvb : allIn ⟨q0, q1, q2, q3, q4, q5⟩ 576 6 = true) (ha : sumLo ⟨p0 - q0, p1 - q1, p2 - q2, p3 - q3, p4 - q4, p5 - q5⟩ 6 = a) (hb : sumHi ⟨p0 - q0, p1 - q1, p2 - q2, p3 - q3, p4 - q4, p5 - q5⟩ 6 = b) :
    Calls Tryd.prog 28 #[.agg #[.int .i64 p0, .int .i64 p1, .int .i64 p2, .int .i64 p3, .int .i64 p4, .int .i64 p5], .agg #[.int .i64 q0, .int .i64 q1, .int .i64 q2, .int .i64 q3, .int .i64 q4, .int .i64 q5]] w fun e w' => e = .returned (.tuple #[.agg #[.int .i64 a, .int .i64 b], .int .i64 0]) ∧ Gr w w' := by
  subst ha hb; exact gap_ok p0 p1 p2 p3 p4 p5 q0 q1 q2 q3 q4 q5 w hL hva hvb

set_option maxRecDepth 100000 in
set_option maxHeartbeats 4000000 in
theorem products_bad1 (p0 p1 p2 p3 p4 p5 q0 q1 q2 q3 q4 q5 : Int) (w : World) (hL : Logs w) (hp : allIn ⟨p0, p1, p2, p3, p4, p5⟩ 576 6 = false) :
    Calls Tryd.prog 9 #[.agg #[.int .i64 p0, .int .i64 p1, .int .i64 p2, .int .i64 p3, .int .i64 p4, .int .i64 p5], .agg #[.int .i64 q0, .int .i64 q1, .int .i64 q2, .int .i64 q3, .int .i64 q4, .int .i64 q5]] w fun e w' => e = .returned (.bool true) ∧ Gr w w' := by
  have HL := Lib.hid hL
  clear hL
  go_enter Tryd.func9, Tryd.ntmps9
  go_wp2_with (first | (go_at_call 12; with_reducible refine (head_any _ (HL.out.keep (by repeat (first | with_reducible exact Gr.refl _ | with_reducible refine Gr.alloc ?_ _ | with_reducible refine Gr.drew ?_ | with_reducible refine Gr.trans ?_ (by assumption) | with_reducible refine Gr.setCell ?_ (by (try simp); (try omega)) _)))).mono ?_; rintro e w' ⟨rfl, hb⟩; have hz := hb.le; obtain ⟨hc, hf⟩ := hb.cells; (try simp only [World.size_alloc] at hc hf hz); (try simp only [World.size_setCell] at hc hf hz); (try simp only [World.size_drew] at hc hf hz)) | (go_at_call 20; with_reducible refine (pitchValid_any _ _ _ _ _ _ _).mono ?_; rintro e w' ⟨rfl, hb⟩; have hz := hb.le; obtain ⟨hc, hf⟩ := hb.cells; (try simp only [World.size_alloc] at hc hf hz); (try simp only [World.size_setCell] at hc hf hz); (try simp only [World.size_drew] at hc hf hz)))
  all_goals go_ret
  all_goals exact ⟨rfl, (by repeat (first | exact Gr.refl _ | refine Gr.alloc ?_ _ | refine Gr.drew ?_ | refine Gr.trans ?_ (by assumption) | refine Gr.setCell ?_ (by (try simp); (try omega)) _))⟩

set_option maxRecDepth 100000 in
set_option maxHeartbeats 4000000 in
theorem products_bad2 (p0 p1 p2 p3 p4 p5 q0 q1 q2 q3 q4 q5 : Int) (w : World) (hL : Logs w) (hp : allIn ⟨p0, p1, p2, p3, p4, p5⟩ 576 6 = true) (hq : allIn ⟨q0, q1, q2, q3, q4, q5⟩ 576 6 = false) :
    Calls Tryd.prog 9 #[.agg #[.int .i64 p0, .int .i64 p1, .int .i64 p2, .int .i64 p3, .int .i64 p4, .int .i64 p5], .agg #[.int .i64 q0, .int .i64 q1, .int .i64 q2, .int .i64 q3, .int .i64 q4, .int .i64 q5]] w fun e w' => e = .returned (.bool true) ∧ Gr w w' := by
  have HL := Lib.hid hL
  clear hL
  go_enter Tryd.func9, Tryd.ntmps9
  go_wp2_with (first | (go_at_call 12; with_reducible refine (head_any _ (HL.out.keep (by repeat (first | with_reducible exact Gr.refl _ | with_reducible refine Gr.alloc ?_ _ | with_reducible refine Gr.drew ?_ | with_reducible refine Gr.trans ?_ (by assumption) | with_reducible refine Gr.setCell ?_ (by (try simp); (try omega)) _)))).mono ?_; rintro e w' ⟨rfl, hb⟩; have hz := hb.le; obtain ⟨hc, hf⟩ := hb.cells; (try simp only [World.size_alloc] at hc hf hz); (try simp only [World.size_setCell] at hc hf hz); (try simp only [World.size_drew] at hc hf hz)) | (go_at_call 20; with_reducible refine (pitchValid_any _ _ _ _ _ _ _).mono ?_; rintro e w' ⟨rfl, hb⟩; have hz := hb.le; obtain ⟨hc, hf⟩ := hb.cells; (try simp only [World.size_alloc] at hc hf hz); (try simp only [World.size_setCell] at hc hf hz); (try simp only [World.size_drew] at hc hf hz)))
  all_goals go_ret
  all_goals exact ⟨rfl, (by repeat (first | exact Gr.refl _ | refine Gr.alloc ?_ _ | refine Gr.drew ?_ | refine Gr.trans ?_ (by assumption) | refine Gr.setCell ?_ (by (try simp); (try omega)) _))⟩
end Go.Proofs.YtmealmnjeoehiaaDoor
