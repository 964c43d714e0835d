import Derived.Test.YtmealmnjeoehiaaDoorRef5
namespace Go.Proofs.YtmealmnjeoehiaaDoor
open Go.RowKit
set_option maxHeartbeats 1000000 in
theorem rnear_ok (p0 p1 p2 p3 p4 p5 q0 q1 q2 q3 q4 q5 n : Int) (w : World) (hva : allIn ⟨p0, p1, p2, p3, p4, p5⟩ 576 6 = true) (hvb : allIn ⟨q0, q1, q2, q3, q4, q5⟩ 576 6 = true) (hn1 : 0 ≤ n) (hn2 : n ≤ 2400000) :
    Calls Tryd.prog 36 #[.agg #[.int .i64 p0, .int .i64 p1, .int .i64 p2, .int .i64 p3, .int .i64 p4, .int .i64 p5], .agg #[.int .i64 q0, .int .i64 q1, .int .i64 q2, .int .i64 q3, .int .i64 q4, .int .i64 q5], .int .i64 n] w fun e w' => e = .returned (.tuple #[.int .i64 (surelyI (sumLo ⟨p0 - q0, p1 - q1, p2 - q2, p3 - q3, p4 - q4, p5 - q5⟩ 6) (sumHi ⟨p0 - q0, p1 - q1, p2 - q2, p3 - q3, p4 - q4, p5 - q5⟩ 6) (-10000 * n) (10000 * n)), .int .i64 0]) ∧ Gr w w' := by
  have HA := Lib.hid hva
  have HB := Lib.hid hvb
  clear hva hvb
  go_enter Tryd.func36, Tryd.ntmps36
  go_wp2_with (first | (go_at_call 29; with_reducible refine (rgap_ok _ _ _ _ _ _ _ _ _ _ _ _ _ HA.out HB.out).mono ?_; rintro e w' ⟨rfl, hb⟩; have hz := hb.le; obtain ⟨hc, hf⟩ := hb.cells; (try simp only [World.size_alloc] at hc hf hz); (try simp only [World.size_setCell] at hc hf hz); (try simp only [World.size_drew] at hc hf hz)) | (go_at_call 51; with_reducible refine (rsurely_any _ _ _ _ _).mono ?_; rintro e w' ⟨rfl, hb⟩; have hz := hb.le; obtain ⟨hc, hf⟩ := hb.cells; (try simp only [World.size_alloc] at hc hf hz); (try simp only [World.size_setCell] at hc hf hz); (try simp only [World.size_drew] at hc hf hz)))
  go_ret2
  exact ⟨rfl, (by repeat (first | with_reducible exact Gr.refl _ | with_reducible refine Gr.alloc ?_ _ | with_reducible refine Gr.drew ?_ | with_reducible refine Gr.trans ?_ (by assumption) | with_reducible refine Gr.setCell ?_ (by (try simp); (try omega)) _))⟩
set_option maxHeartbeats 1000000 in
theorem rnear_bad1 (p0 p1 p2 p3 p4 p5 q0 q1 q2 q3 q4 q5 n : Int) (w : World) (hva : allIn ⟨p0, p1, p2, p3, p4, p5⟩ 576 6 = false) :
    Calls Tryd.prog 36 #[.agg #[.int .i64 p0, .int .i64 p1, .int .i64 p2, .int .i64 p3, .int .i64 p4, .int .i64 p5], .agg #[.int .i64 q0, .int .i64 q1, .int .i64 q2, .int .i64 q3, .int .i64 q4, .int .i64 q5], .int .i64 n] w fun e w' => e = .returned (.tuple #[.int .i64 0, .int .i64 1]) ∧ Gr w w' := by
  have HA := Lib.hid hva
  clear hva
  go_enter Tryd.func36, Tryd.ntmps36
  go_wp2_with (first | (go_at_call 29; with_reducible refine (rgap_bad1 _ _ _ _ _ _ _ _ _ _ _ _ _ HA.out).mono ?_; rintro e w' ⟨rfl, hb⟩; have hz := hb.le; obtain ⟨hc, hf⟩ := hb.cells; (try simp only [World.size_alloc] at hc hf hz); (try simp only [World.size_setCell] at hc hf hz); (try simp only [World.size_drew] at hc hf hz)) | (go_at_call 51; with_reducible refine (rsurely_any _ _ _ _ _).mono ?_; rintro e w' ⟨rfl, hb⟩; have hz := hb.le; obtain ⟨hc, hf⟩ := hb.cells; (try simp only [World.size_alloc] at hc hf hz); (try simp only [World.size_setCell] at hc hf hz); (try simp only [World.size_drew] at hc hf hz)))
  go_ret2
  exact ⟨rfl, (by repeat (first | with_reducible exact Gr.refl _ | with_reducible refine Gr.alloc ?_ _ | with_reducible refine Gr.drew ?_ | with_reducible refine Gr.trans ?_ (by assumption) | with_reducible refine Gr.setCell ?_ (by (try simp); (try omega)) _))⟩
set_option maxHeartbeats 1000000 in
theorem rnear_bad2 (p0 p1 p2 p3 p4 p5 q0 q1 q2 q3 q4 q5 n : Int) (w : World) (hva : allIn ⟨p0, p1, p2, p3, p4, p5⟩ 576 6 = true) (hvb : allIn ⟨q0, q1, q2, q3, q4, q5⟩ 576 6 = false) :
    Calls Tryd.prog 36 #[.agg #[.int .i64 p0, .int .i64 p1, .int .i64 p2, .int .i64 p3, .int .i64 p4, .int .i64 p5], .agg #[.int .i64 q0, .int .i64 q1, .int .i64 q2, .int .i64 q3, .int .i64 q4, .int .i64 q5], .int .i64 n] w fun e w' => e = .returned (.tuple #[.int .i64 0, .int .i64 1]) ∧ Gr w w' := by
  have HA := Lib.hid hva
  have HB := Lib.hid hvb
  clear hva hvb
  go_enter Tryd.func36, Tryd.ntmps36
  go_wp2_with (first | (go_at_call 29; with_reducible refine (rgap_bad2 _ _ _ _ _ _ _ _ _ _ _ _ _ HA.out HB.out).mono ?_; rintro e w' ⟨rfl, hb⟩; have hz := hb.le; obtain ⟨hc, hf⟩ := hb.cells; (try simp only [World.size_alloc] at hc hf hz); (try simp only [World.size_setCell] at hc hf hz); (try simp only [World.size_drew] at hc hf hz)) | (go_at_call 51; with_reducible refine (rsurely_any _ _ _ _ _).mono ?_; rintro e w' ⟨rfl, hb⟩; have hz := hb.le; obtain ⟨hc, hf⟩ := hb.cells; (try simp only [World.size_alloc] at hc hf hz); (try simp only [World.size_setCell] at hc hf hz); (try simp only [World.size_drew] at hc hf hz)))
  go_ret2
  exact ⟨rfl, (by repeat (first | with_reducible exact Gr.refl _ | with_reducible refine Gr.alloc ?_ _ | with_reducible refine Gr.drew ?_ | with_reducible refine Gr.trans ?_ (by assumption) | with_reducible refine Gr.setCell ?_ (by (try simp); (try omega)) _))⟩
set_option maxHeartbeats 1000000 in
theorem rnear_bad3 (p0 p1 p2 p3 p4 p5 q0 q1 q2 q3 q4 q5 n : Int) (w : World) (hva : allIn ⟨p0, p1, p2, p3, p4, p5⟩ 576 6 = true) (hvb : allIn ⟨q0, q1, q2, q3, q4, q5⟩ 576 6 = true) (hn : n < 0) :
    Calls Tryd.prog 36 #[.agg #[.int .i64 p0, .int .i64 p1, .int .i64 p2, .int .i64 p3, .int .i64 p4, .int .i64 p5], .agg #[.int .i64 q0, .int .i64 q1, .int .i64 q2, .int .i64 q3, .int .i64 q4, .int .i64 q5], .int .i64 n] w fun e w' => e = .returned (.tuple #[.int .i64 0, .int .i64 1]) ∧ Gr w w' := by
  have HA := Lib.hid hva
  have HB := Lib.hid hvb
  clear hva hvb
  go_enter Tryd.func36, Tryd.ntmps36
  go_wp2_with (first | (go_at_call 29; with_reducible refine (rgap_ok _ _ _ _ _ _ _ _ _ _ _ _ _ HA.out HB.out).mono ?_; rintro e w' ⟨rfl, hb⟩; have hz := hb.le; obtain ⟨hc, hf⟩ := hb.cells; (try simp only [World.size_alloc] at hc hf hz); (try simp only [World.size_setCell] at hc hf hz); (try simp only [World.size_drew] at hc hf hz)) | (go_at_call 51; with_reducible refine (rsurely_any _ _ _ _ _).mono ?_; rintro e w' ⟨rfl, hb⟩; have hz := hb.le; obtain ⟨hc, hf⟩ := hb.cells; (try simp only [World.size_alloc] at hc hf hz); (try simp only [World.size_setCell] at hc hf hz); (try simp only [World.size_drew] at hc hf hz)))
  go_ret2
  exact ⟨rfl, (by repeat (first | with_reducible exact Gr.refl _ | with_reducible refine Gr.alloc ?_ _ | with_reducible refine Gr.drew ?_ | with_reducible refine Gr.trans ?_ (by assumption) | with_reducible refine Gr.setCell ?_ (by (try simp); (try omega)) _))⟩
set_option maxHeartbeats 1000000 in
theorem rnear_bad4 (p0 p1 p2 p3 p4 p5 q0 q1 q2 q3 q4 q5 n : Int) (w : World) (hva : allIn ⟨p0, p1, p2, p3, p4, p5⟩ 576 6 = true) (hvb : allIn ⟨q0, q1, q2, q3, q4, q5⟩ 576 6 = true) (hn : 2400000 < n) :
    Calls Tryd.prog 36 #[.agg #[.int .i64 p0, .int .i64 p1, .int .i64 p2, .int .i64 p3, .int .i64 p4, .int .i64 p5], .agg #[.int .i64 q0, .int .i64 q1, .int .i64 q2, .int .i64 q3, .int .i64 q4, .int .i64 q5], .int .i64 n] w fun e w' => e = .returned (.tuple #[.int .i64 0, .int .i64 1]) ∧ Gr w w' := by
  have HA := Lib.hid hva
  have HB := Lib.hid hvb
  clear hva hvb
  go_enter Tryd.func36, Tryd.ntmps36
  go_wp2_with (first | (go_at_call 29; with_reducible refine (rgap_ok _ _ _ _ _ _ _ _ _ _ _ _ _ HA.out HB.out).mono ?_; rintro e w' ⟨rfl, hb⟩; have hz := hb.le; obtain ⟨hc, hf⟩ := hb.cells; (try simp only [World.size_alloc] at hc hf hz); (try simp only [World.size_setCell] at hc hf hz); (try simp only [World.size_drew] at hc hf hz)) | (go_at_call 51; with_reducible refine (rsurely_any _ _ _ _ _).mono ?_; rintro e w' ⟨rfl, hb⟩; have hz := hb.le; obtain ⟨hc, hf⟩ := hb.cells; (try simp only [World.size_alloc] at hc hf hz); (try simp only [World.size_setCell] at hc hf hz); (try simp only [World.size_drew] at hc hf hz)))
  go_ret2
  exact ⟨rfl, (by repeat (first | with_reducible exact Gr.refl _ | with_reducible refine Gr.alloc ?_ _ | with_reducible refine Gr.drew ?_ | with_reducible refine Gr.trans ?_ (by assumption) | with_reducible refine Gr.setCell ?_ (by (try simp); (try omega)) _))⟩

theorem of_pair (p0 p1 p2 p3 p4 p5 : Int) : ∃ x y z : Int, (∀ w, Logs w → Calls Tryd.prog 23 #[.agg #[.int .i64 p0, .int .i64 p1, .int .i64 p2, .int .i64 p3, .int .i64 p4, .int .i64 p5]] w fun e w' => e = .returned (.tuple #[.agg #[.int .i64 x, .int .i64 y], .int .i64 z]) ∧ Gr w w') ∧ (∀ w, Calls Tryd.prog 27 #[.agg #[.int .i64 p0, .int .i64 p1, .int .i64 p2, .int .i64 p3, .int .i64 p4, .int .i64 p5]] w fun e w' => e = .returned (.tuple #[.agg #[.int .i64 x, .int .i64 y], .int .i64 z]) ∧ Gr w w') := by
  cases h : allIn ⟨p0, p1, p2, p3, p4, p5⟩ 576 6
  · exact ⟨_, _, _, fun w _ => of_bad p0 p1 p2 p3 p4 p5 w h, fun w => rof_bad p0 p1 p2 p3 p4 p5 w h⟩
  · exact ⟨_, _, _, fun w hL => of_ok p0 p1 p2 p3 p4 p5 w hL h, fun w => rof_ok p0 p1 p2 p3 p4 p5 w h⟩

theorem gap_pair (p0 p1 p2 p3 p4 p5 q0 q1 q2 q3 q4 q5 : Int) : ∃ x y z : Int, (∀ w, Logs w → Calls Tryd.prog 28 #[.agg #[.int .i64 p0, .int .i64 p1, .int .i64 p2, .int .i64 p3, .int .i64 p4, .int .i64 p5], .agg #[.int .i64 q0, .int .i64 q1, .int .i64 q2, .int .i64 q3, .int .i64 q4, .int .i64 q5]] w fun e w' => e = .returned (.tuple #[.agg #[.int .i64 x, .int .i64 y], .int .i64 z]) ∧ Gr w w') ∧ (∀ w, Calls Tryd.prog 29 #[.agg #[.int .i64 p0, .int .i64 p1, .int .i64 p2, .int .i64 p3, .int .i64 p4, .int .i64 p5], .agg #[.int .i64 q0, .int .i64 q1, .int .i64 q2, .int .i64 q3, .int .i64 q4, .int .i64 q5]] w fun e w' => e = .returned (.tuple #[.agg #[.int .i64 x, .int .i64 y], .int .i64 z]) ∧ Gr w w') := by
  cases h : allIn ⟨p0, p1, p2, p3, p4, p5⟩ 576 6
  · exact ⟨_, _, _, fun w _ => gap_bad1 p0 p1 p2 p3 p4 p5 q0 q1 q2 q3 q4 q5 w h, fun w => rgap_bad1 p0 p1 p2 p3 p4 p5 q0 q1 q2 q3 q4 q5 w h⟩
  cases h' : allIn ⟨q0, q1, q2, q3, q4, q5⟩ 576 6
  · exact ⟨_, _, _, fun w _ => gap_bad2 p0 p1 p2 p3 p4 p5 q0 q1 q2 q3 q4 q5 w h h', fun w => rgap_bad2 p0 p1 p2 p3 p4 p5 q0 q1 q2 q3 q4 q5 w h h'⟩
  · exact ⟨_, _, _, fun w hL => gap_ok p0 p1 p2 p3 p4 p5 q0 q1 q2 q3 q4 q5 w hL h h', fun w => rgap_ok p0 p1 p2 p3 p4 p5 q0 q1 q2 q3 q4 q5 w h h'⟩

theorem add_pair (al ah bl bh : Int) : ∃ x y z : Int, (∀ w, Calls Tryd.prog 19 #[.agg #[.int .i64 al, .int .i64 ah], .agg #[.int .i64 bl, .int .i64 bh]] w fun e w' => e = .returned (.tuple #[.agg #[.int .i64 x, .int .i64 y], .int .i64 z]) ∧ Gr w w') ∧ (∀ w, Calls Tryd.prog 30 #[.agg #[.int .i64 al, .int .i64 ah], .agg #[.int .i64 bl, .int .i64 bh]] w fun e w' => e = .returned (.tuple #[.agg #[.int .i64 x, .int .i64 y], .int .i64 z]) ∧ Gr w w') := by
  cases h1 : validS al ah
  · exact ⟨_, _, _, fun w => add_bad1 al ah bl bh w h1, fun w => radd_bad al ah bl bh w (by rw [h1]; rfl)⟩
  cases h2 : validS bl bh
  · exact ⟨_, _, _, fun w => add_bad2 al ah bl bh w h1 h2, fun w => radd_bad al ah bl bh w (by rw [h1, h2]; rfl)⟩
  cases h : validS (al + bl) (ah + bh)
  · exact ⟨_, _, _, fun w => add_out al ah bl bh w h1 h2 h, fun w => radd_out al ah bl bh w (by rw [h1, h2]; rfl) h⟩
  · exact ⟨_, _, _, fun w => add_ok al ah bl bh w h1 h2 h, fun w => radd_ok al ah bl bh w (by rw [h1, h2]; rfl) h⟩

theorem sub_pair (al ah bl bh : Int) : ∃ x y z : Int, (∀ w, Calls Tryd.prog 25 #[.agg #[.int .i64 al, .int .i64 ah], .agg #[.int .i64 bl, .int .i64 bh]] w fun e w' => e = .returned (.tuple #[.agg #[.int .i64 x, .int .i64 y], .int .i64 z]) ∧ Gr w w') ∧ (∀ w, Calls Tryd.prog 31 #[.agg #[.int .i64 al, .int .i64 ah], .agg #[.int .i64 bl, .int .i64 bh]] w fun e w' => e = .returned (.tuple #[.agg #[.int .i64 x, .int .i64 y], .int .i64 z]) ∧ Gr w w') := by
  cases h1 : validS al ah
  · exact ⟨_, _, _, fun w => sub_bad1 al ah bl bh w h1, fun w => rsub_bad al ah bl bh w (by rw [h1]; rfl)⟩
  cases h2 : validS bl bh
  · exact ⟨_, _, _, fun w => sub_bad2 al ah bl bh w h1 h2, fun w => rsub_bad al ah bl bh w (by rw [h1, h2]; rfl)⟩
  cases h : validS (al - bh) (ah - bl)
  · exact ⟨_, _, _, fun w => sub_out al ah bl bh w h1 h2 h, fun w => rsub_out al ah bl bh w (by rw [h1, h2]; rfl) h⟩
  · exact ⟨_, _, _, fun w => sub_ok al ah bl bh w h1 h2 h, fun w => rsub_ok al ah bl bh w (by rw [h1, h2]; rfl) h⟩

theorem meet_pair (al ah bl bh : Int) : ∃ x y z : Int, (∀ w, Calls Tryd.prog 16 #[.agg #[.int .i64 al, .int .i64 ah], .agg #[.int .i64 bl, .int .i64 bh]] w fun e w' => e = .returned (.tuple #[.agg #[.int .i64 x, .int .i64 y], .int .i64 z]) ∧ Gr w w') ∧ (∀ w, Calls Tryd.prog 33 #[.agg #[.int .i64 al, .int .i64 ah], .agg #[.int .i64 bl, .int .i64 bh]] w fun e w' => e = .returned (.tuple #[.agg #[.int .i64 x, .int .i64 y], .int .i64 z]) ∧ Gr w w') := by
  cases h1 : validS al ah
  · exact ⟨_, _, _, fun w => meet_bad1 al ah bl bh w h1, fun w => rmeet_bad al ah bl bh w (by rw [h1]; rfl)⟩
  cases h2 : validS bl bh
  · exact ⟨_, _, _, fun w => meet_bad2 al ah bl bh w h1 h2, fun w => rmeet_bad al ah bl bh w (by rw [h1, h2]; rfl)⟩
  by_cases h : mx al bl ≤ mn ah bh
  · exact ⟨_, _, _, fun w => meet_some al ah bl bh w h1 h2 h, fun w => rmeet_some al ah bl bh w (by rw [h1, h2]; rfl) h⟩
  · exact ⟨_, _, _, fun w => meet_none al ah bl bh w h1 h2 (by omega), fun w => rmeet_none al ah bl bh w (by rw [h1, h2]; rfl) (by omega)⟩

theorem times_pair (lo hi n : Int) : ∃ x y z : Int, (∀ w, Calls Tryd.prog 24 #[.agg #[.int .i64 lo, .int .i64 hi], .int .i64 n] w fun e w' => e = .returned (.tuple #[.agg #[.int .i64 x, .int .i64 y], .int .i64 z]) ∧ Gr w w') ∧ (∀ w, Calls Tryd.prog 32 #[.agg #[.int .i64 lo, .int .i64 hi], .int .i64 n] w fun e w' => e = .returned (.tuple #[.agg #[.int .i64 x, .int .i64 y], .int .i64 z]) ∧ Gr w w') := by
  cases h1 : validS lo hi
  · exact ⟨_, _, _, fun w => times_bad lo hi n w h1, fun w => rtimes_bad lo hi n w h1⟩
  cases f1 : fits lo n
  · exact ⟨_, _, _, fun w => times_out lo hi n w h1 (by rw [f1]; rfl), fun w => rtimes_out1 lo hi n w h1 f1⟩
  cases f2 : fits hi n
  · exact ⟨_, _, _, fun w => times_out lo hi n w h1 (by rw [f1, f2]; rfl), fun w => rtimes_out2 lo hi n w h1 f1 f2⟩
  · exact ⟨_, _, _, fun w => times_ok lo hi n w h1 f1 f2, fun w => rtimes_ok lo hi n w h1 f1 f2⟩

theorem cmp_pair (al ah bl bh : Int) : ∃ x z : Int, (∀ w, Calls Tryd.prog 15 #[.agg #[.int .i64 al, .int .i64 ah], .agg #[.int .i64 bl, .int .i64 bh]] w fun e w' => e = .returned (.tuple #[.int .i64 x, .int .i64 z]) ∧ Gr w w') ∧ (∀ w, Calls Tryd.prog 34 #[.agg #[.int .i64 al, .int .i64 ah], .agg #[.int .i64 bl, .int .i64 bh]] w fun e w' => e = .returned (.tuple #[.int .i64 x, .int .i64 z]) ∧ Gr w w') := by
  cases h1 : validS al ah
  · exact ⟨_, _, fun w => cmp_bad1 al ah bl bh w h1, fun w => rcmp_bad al ah bl bh w (by rw [h1]; rfl)⟩
  cases h2 : validS bl bh
  · exact ⟨_, _, fun w => cmp_bad2 al ah bl bh w h1 h2, fun w => rcmp_bad al ah bl bh w (by rw [h1, h2]; rfl)⟩
  · exact ⟨_, _, fun w => cmp_ok al ah bl bh w h1 h2, fun w => rcmp_ok al ah bl bh w (by rw [h1, h2]; rfl)⟩

theorem within_pair (lo hi low high : Int) : ∃ x z : Int, (∀ w, Calls Tryd.prog 17 #[.agg #[.int .i64 lo, .int .i64 hi], .int .i64 low, .int .i64 high] w fun e w' => e = .returned (.tuple #[.int .i64 x, .int .i64 z]) ∧ Gr w w') ∧ (∀ w, Calls Tryd.prog 35 #[.agg #[.int .i64 lo, .int .i64 hi], .int .i64 low, .int .i64 high] w fun e w' => e = .returned (.tuple #[.int .i64 x, .int .i64 z]) ∧ Gr w w') := by
  cases h1 : validS lo hi
  · exact ⟨_, _, fun w => within_bad1 lo hi low high w h1, fun w => rwithin_bad1 lo hi low high w h1⟩
  by_cases h2 : low ≤ high
  · exact ⟨_, _, fun w => within_ok lo hi low high w h1 h2, fun w => rwithin_ok lo hi low high w h1 h2⟩
  · exact ⟨_, _, fun w => within_bad2 lo hi low high w h1 (by omega), fun w => rwithin_bad2 lo hi low high w h1 (by omega)⟩

theorem near_pair (p0 p1 p2 p3 p4 p5 q0 q1 q2 q3 q4 q5 n : Int) : ∃ x z : Int, (∀ w, Logs w → Calls Tryd.prog 21 #[.agg #[.int .i64 p0, .int .i64 p1, .int .i64 p2, .int .i64 p3, .int .i64 p4, .int .i64 p5], .agg #[.int .i64 q0, .int .i64 q1, .int .i64 q2, .int .i64 q3, .int .i64 q4, .int .i64 q5], .int .i64 n] w fun e w' => e = .returned (.tuple #[.int .i64 x, .int .i64 z]) ∧ Gr w w') ∧ (∀ w, Calls Tryd.prog 36 #[.agg #[.int .i64 p0, .int .i64 p1, .int .i64 p2, .int .i64 p3, .int .i64 p4, .int .i64 p5], .agg #[.int .i64 q0, .int .i64 q1, .int .i64 q2, .int .i64 q3, .int .i64 q4, .int .i64 q5], .int .i64 n] w fun e w' => e = .returned (.tuple #[.int .i64 x, .int .i64 z]) ∧ Gr w w') := by
  cases h : allIn ⟨p0, p1, p2, p3, p4, p5⟩ 576 6
  · exact ⟨_, _, fun w _ => near_bad1 p0 p1 p2 p3 p4 p5 q0 q1 q2 q3 q4 q5 n w h, fun w => rnear_bad1 p0 p1 p2 p3 p4 p5 q0 q1 q2 q3 q4 q5 n w h⟩
  cases h' : allIn ⟨q0, q1, q2, q3, q4, q5⟩ 576 6
  · exact ⟨_, _, fun w _ => near_bad2 p0 p1 p2 p3 p4 p5 q0 q1 q2 q3 q4 q5 n w h h', fun w => rnear_bad2 p0 p1 p2 p3 p4 p5 q0 q1 q2 q3 q4 q5 n w h h'⟩
  by_cases h1 : n < 0
  · exact ⟨_, _, fun w hL => near_bad3 p0 p1 p2 p3 p4 p5 q0 q1 q2 q3 q4 q5 n w hL h h' h1, fun w => rnear_bad3 p0 p1 p2 p3 p4 p5 q0 q1 q2 q3 q4 q5 n w h h' h1⟩
  by_cases h2 : 2400000 < n
  · exact ⟨_, _, fun w hL => near_bad4 p0 p1 p2 p3 p4 p5 q0 q1 q2 q3 q4 q5 n w hL h h' h2, fun w => rnear_bad4 p0 p1 p2 p3 p4 p5 q0 q1 q2 q3 q4 q5 n w h h' h2⟩
  · exact ⟨_, _, fun w hL => near_ok p0 p1 p2 p3 p4 p5 q0 q1 q2 q3 q4 q5 n w hL h h' (by omega) (by omega), fun w => rnear_ok p0 p1 p2 p3 p4 p5 q0 q1 q2 q3 q4 q5 n w h h' (by omega) (by omega)⟩
end Go.Proofs.YtmealmnjeoehiaaDoor
