/-
  The law SizeOrder of schismalaw04 returns true for every input.
-/
import Derived.Test.YtmealmnjeoehiaaDoorOrderPlain
import Derived.Test.YtmealmnjeoehiaaDoorHead
namespace Go.Proofs.YtmealmnjeoehiaaDoor
open Go.RowKit

theorem of_valid {p0 p1 p2 p3 p4 p5 : Int} (hva : allIn ⟨p0, p1, p2, p3, p4, p5⟩ 576 6 = true) : validS (sumLo ⟨p0, p1, p2, p3, p4, p5⟩ 6) (sumHi ⟨p0, p1, p2, p3, p4, p5⟩ 6) = true := by
  have hb := sum_bd (allIn_mono hva (show (576 : Int) ≤ 1152 by omega)) 6 (by omega)
  exact validS_mk ⟨by omega, sum_le _ 6 (by omega), by omega⟩

set_option maxRecDepth 100000 in
set_option maxHeartbeats 4000000 in
theorem order_bad (p0 p1 p2 p3 p4 p5 q0 q1 q2 q3 q4 q5 : Int) (w : World) (hL : Logs w) (h : allIn ⟨p0, p1, p2, p3, p4, p5⟩ 576 6 = false ∨ (allIn ⟨p0, p1, p2, p3, p4, p5⟩ 576 6 = true ∧ allIn ⟨q0, q1, q2, q3, q4, q5⟩ 576 6 = false)) :
    Calls Tryd.prog 10 #[.agg #[.int .i64 p0, .int .i64 p1, .int .i64 p2, .int .i64 p3, .int .i64 p4, .int .i64 p5], .agg #[.int .i64 q0, .int .i64 q1, .int .i64 q2, .int .i64 q3, .int .i64 q4, .int .i64 q5]] w fun e w' => e = .returned (.bool true) ∧ Gr w w' := by
  have HL := Lib.hid hL
  clear hL
  rcases h with hva | ⟨hva, hvb⟩
  all_goals
    go_enter Tryd.func10, Tryd.ntmps10
    go_wp2_with (first | (go_at_call 12; with_reducible refine (head_any _ (HL.out.keep (by repeat (first | exact Gr.refl _ | refine Gr.alloc ?_ _ | refine Gr.drew ?_ | refine Gr.trans ?_ (by assumption) | refine Gr.setCell ?_ (by (try simp); (try omega)) _)))).mono ?_; rintro e w' ⟨rfl, hb⟩; have hz := hb.le; obtain ⟨hc, hf⟩ := hb.cells; (try simp only [World.size_alloc] at hc hf hz); (try simp only [World.size_setCell] at hc hf hz); (try simp only [World.size_drew] at hc hf hz)) | (go_at_call 20; with_reducible refine (pitchValid_any _ _ _ _ _ _ _).mono ?_; rintro e w' ⟨rfl, hb⟩; have hz := hb.le; obtain ⟨hc, hf⟩ := hb.cells; (try simp only [World.size_alloc] at hc hf hz); (try simp only [World.size_setCell] at hc hf hz); (try simp only [World.size_drew] at hc hf hz)))
    go_ret
    exact ⟨rfl, (by repeat (first | exact Gr.refl _ | refine Gr.alloc ?_ _ | refine Gr.drew ?_ | refine Gr.trans ?_ (by assumption) | refine Gr.setCell ?_ (by (try simp); (try omega)) _))⟩

set_option maxRecDepth 100000 in
set_option maxHeartbeats 8000000 in
theorem order_walk (p0 p1 p2 p3 p4 p5 q0 q1 q2 q3 q4 q5 : Int) (al ah bl bh x y : Int) (w : World) (hL : Logs w) (hP : Primes w) (hva : allIn ⟨p0, p1, p2, p3, p4, p5⟩ 576 6 = true) (hvb : allIn ⟨q0, q1, q2, q3, q4, q5⟩ 576 6 = true)
    (hp : ∀ w, Logs w → Calls Tryd.prog 23 #[.agg #[.int .i64 p0, .int .i64 p1, .int .i64 p2, .int .i64 p3, .int .i64 p4, .int .i64 p5]] w fun e w' => e = .returned (.tuple #[.agg #[.int .i64 al, .int .i64 ah], .int .i64 0]) ∧ Gr w w')
    (hq : ∀ w, Logs w → Calls Tryd.prog 23 #[.agg #[.int .i64 q0, .int .i64 q1, .int .i64 q2, .int .i64 q3, .int .i64 q4, .int .i64 q5]] w fun e w' => e = .returned (.tuple #[.agg #[.int .i64 bl, .int .i64 bh], .int .i64 0]) ∧ Gr w w')
    (hs : ∀ w, Calls Tryd.prog 15 #[.agg #[.int .i64 al, .int .i64 ah], .agg #[.int .i64 bl, .int .i64 bh]] w fun e w' => e = .returned (.tuple #[.int .i64 x, .int .i64 0]) ∧ Gr w w')
    (hc : ∀ w, Primes w → Calls Tryd.prog 38 #[.agg #[.int .i64 p0, .int .i64 p1, .int .i64 p2, .int .i64 p3, .int .i64 p4, .int .i64 p5], .agg #[.int .i64 q0, .int .i64 q1, .int .i64 q2, .int .i64 q3, .int .i64 q4, .int .i64 q5]] w fun e w' => e = .returned (.tuple #[.int .i64 y, .int .i64 0]) ∧ Gr w w')
    (hxy : x = 0 ∨ (x = -1 ∧ y = -1) ∨ (x = 1 ∧ y = 1)) :
    Calls Tryd.prog 10 #[.agg #[.int .i64 p0, .int .i64 p1, .int .i64 p2, .int .i64 p3, .int .i64 p4, .int .i64 p5], .agg #[.int .i64 q0, .int .i64 q1, .int .i64 q2, .int .i64 q3, .int .i64 q4, .int .i64 q5]] w fun e w' => e = .returned (.bool true) ∧ Gr w w' := by
  have HL := Lib.hid hL; have HP := Lib.hid hP
  have H1 := Lib.hid hp; have H2 := Lib.hid hq; have H3 := Lib.hid hs; have H4 := Lib.hid hc
  clear hL hP hp hq hs hc
  rcases hxy with rfl | ⟨rfl, rfl⟩ | ⟨rfl, rfl⟩
  all_goals
    go_enter Tryd.func10, Tryd.ntmps10
    go_wp2_with (first | (go_at_call 12; with_reducible refine (head_any _ (HL.out.keep (by repeat (first | exact Gr.refl _ | refine Gr.alloc ?_ _ | refine Gr.drew ?_ | refine Gr.trans ?_ (by assumption) | refine Gr.setCell ?_ (by (try simp); (try omega)) _)))).mono ?_; rintro e w' ⟨rfl, hb⟩; have hz := hb.le; obtain ⟨hc, hf⟩ := hb.cells; (try simp only [World.size_alloc] at hc hf hz); (try simp only [World.size_setCell] at hc hf hz); (try simp only [World.size_drew] at hc hf hz)) | (go_at_call 20; with_reducible refine (pitchValid_any _ _ _ _ _ _ _).mono ?_; rintro e w' ⟨rfl, hb⟩; have hz := hb.le; obtain ⟨hc, hf⟩ := hb.cells; (try simp only [World.size_alloc] at hc hf hz); (try simp only [World.size_setCell] at hc hf hz); (try simp only [World.size_drew] at hc hf hz)) | (go_at_call 23; with_reducible refine (H1.out _ (HL.out.keep (by repeat (first | exact Gr.refl _ | refine Gr.alloc ?_ _ | refine Gr.drew ?_ | refine Gr.trans ?_ (by assumption) | refine Gr.setCell ?_ (by (try simp); (try omega)) _)))).mono ?_; rintro e w' ⟨rfl, hb⟩; have hz := hb.le; obtain ⟨hc, hf⟩ := hb.cells; (try simp only [World.size_alloc] at hc hf hz); (try simp only [World.size_setCell] at hc hf hz); (try simp only [World.size_drew] at hc hf hz)) | (go_at_call 23; with_reducible refine (H2.out _ (HL.out.keep (by repeat (first | exact Gr.refl _ | refine Gr.alloc ?_ _ | refine Gr.drew ?_ | refine Gr.trans ?_ (by assumption) | refine Gr.setCell ?_ (by (try simp); (try omega)) _)))).mono ?_; rintro e w' ⟨rfl, hb⟩; have hz := hb.le; obtain ⟨hc, hf⟩ := hb.cells; (try simp only [World.size_alloc] at hc hf hz); (try simp only [World.size_setCell] at hc hf hz); (try simp only [World.size_drew] at hc hf hz)) | (go_at_call 15; with_reducible refine (H3.out _).mono ?_; rintro e w' ⟨rfl, hb⟩; have hz := hb.le; obtain ⟨hc, hf⟩ := hb.cells; (try simp only [World.size_alloc] at hc hf hz); (try simp only [World.size_setCell] at hc hf hz); (try simp only [World.size_drew] at hc hf hz)) | (go_at_call 38; with_reducible refine (H4.out _ (HP.out.keep (by repeat (first | exact Gr.refl _ | refine Gr.alloc ?_ _ | refine Gr.drew ?_ | refine Gr.trans ?_ (by assumption) | refine Gr.setCell ?_ (by (try simp); (try omega)) _)))).mono ?_; rintro e w' ⟨rfl, hb⟩; have hz := hb.le; obtain ⟨hc, hf⟩ := hb.cells; (try simp only [World.size_alloc] at hc hf hz); (try simp only [World.size_setCell] at hc hf hz); (try simp only [World.size_drew] at hc hf hz)))
    go_ret
    exact ⟨rfl, (by repeat (first | exact Gr.refl _ | refine Gr.alloc ?_ _ | refine Gr.drew ?_ | refine Gr.trans ?_ (by assumption) | refine Gr.setCell ?_ (by (try simp); (try omega)) _))⟩
theorem order_law (p0 p1 p2 p3 p4 p5 q0 q1 q2 q3 q4 q5 : Int) (w : World) (hL : Logs w) (hP : Primes w) :
    Calls Tryd.prog 10 #[.agg #[.int .i64 p0, .int .i64 p1, .int .i64 p2, .int .i64 p3, .int .i64 p4, .int .i64 p5], .agg #[.int .i64 q0, .int .i64 q1, .int .i64 q2, .int .i64 q3, .int .i64 q4, .int .i64 q5]] w fun e w' => e = .returned (.bool true) ∧ Gr w w' := by
  cases hva : allIn ⟨p0, p1, p2, p3, p4, p5⟩ 576 6 with
  | false => exact order_bad p0 p1 p2 p3 p4 p5 q0 q1 q2 q3 q4 q5 w hL (.inl hva)
  | true =>
    cases hvb : allIn ⟨q0, q1, q2, q3, q4, q5⟩ 576 6 with
    | false => exact order_bad p0 p1 p2 p3 p4 p5 q0 q1 q2 q3 q4 q5 w hL (.inr ⟨hva, hvb⟩)
    | true =>
      refine order_walk p0 p1 p2 p3 p4 p5 q0 q1 q2 q3 q4 q5 _ _ _ _ _ _ w hL hP hva hvb (fun w h => of_ok _ _ _ _ _ _ w h hva) (fun w h => of_ok _ _ _ _ _ _ w h hvb)
        (fun w => cmp_ok _ _ _ _ w (of_valid hva) (of_valid hvb)) (fun w h => pcmp_ok _ _ _ _ _ _ _ _ _ _ _ _ w h hva hvb) ?_
      have h := order_cases ⟨p0, p1, p2, p3, p4, p5⟩ ⟨q0, q1, q2, q3, q4, q5⟩
      have r := cmpP_range (V6.sub ⟨p0, p1, p2, p3, p4, p5⟩ ⟨q0, q1, q2, q3, q4, q5⟩)
      omega
end Go.Proofs.YtmealmnjeoehiaaDoor
