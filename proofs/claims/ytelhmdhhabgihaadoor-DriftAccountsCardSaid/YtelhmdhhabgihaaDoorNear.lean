import Derived.Test.YtelhmdhhabgihaaDoorGap
namespace Go.Proofs.YtelhmdhhabgihaaDoor
open Go.RowKit

theorem allIn_mono {v : V6} {b c : Int} (h : allIn v b 6 = true) (hb : b ≤ c) : allIn v c 6 = true := by
  have g := allIn_get h
  have g0 := g 0 (by omega); have g1 := g 1 (by omega); have g2 := g 2 (by omega); have g3 := g 3 (by omega); have g4 := g 4 (by omega); have g5 := g 5 (by omega)
  simp only [V6.get] at *
  simp only [allIn, V6.get, Bool.and_eq_true, decide_eq_true_eq, true_and]
  refine ⟨⟨⟨⟨⟨⟨⟨⟨⟨⟨⟨?_, ?_⟩, ?_⟩, ?_⟩, ?_⟩, ?_⟩, ?_⟩, ?_⟩, ?_⟩, ?_⟩, ?_⟩, ?_⟩ <;> omega

set_option maxHeartbeats 1000000 in
theorem gap_bad1 (a0 a1 a2 a3 a4 a5 b0 b1 b2 b3 b4 b5 : Int) (w : World) (hva : allIn ⟨a0, a1, a2, a3, a4, a5⟩ 576 6 = false) :
    Calls Tryd.prog 40 #[.agg #[.int .i64 a0, .int .i64 a1, .int .i64 a2, .int .i64 a3, .int .i64 a4, .int .i64 a5], .agg #[.int .i64 b0, .int .i64 b1, .int .i64 b2, .int .i64 b3, .int .i64 b4, .int .i64 b5]] w
      fun e w' => e = .returned (.tuple #[.agg #[.int .i64 0, .int .i64 0], .int .i64 1]) ∧ Gr w w' := by
  go_enter Tryd.func40, Tryd.ntmps40
  go_wp2_with (go_at_call 35; with_reducible refine (pitchValid_any _ _ _ _ _ _ _).mono ?_; rintro e w' ⟨rfl, hb⟩; have hz := hb.le; obtain ⟨hc, hf⟩ := hb.cells; (try simp only [World.size_alloc] at hc hf hz); (try simp only [World.size_setCell] at hc hf hz); (try simp only [World.size_drew] at hc hf hz))
  exact bodyPost_ret (v := .tuple #[.agg #[.int .i64 0, .int .i64 0], .int .i64 1]) (by simp [results, Tryd.results40, go_sem, *]) rfl ⟨rfl, (by repeat (first | exact Gr.refl _ | refine Gr.alloc ?_ _ | refine Gr.drew ?_ | refine Gr.trans ?_ (by assumption) | refine Gr.setCell ?_ (by (try simp); (try omega)) _))⟩
set_option maxHeartbeats 1000000 in
theorem gap_bad2 (a0 a1 a2 a3 a4 a5 b0 b1 b2 b3 b4 b5 : Int) (w : World) (hva : allIn ⟨a0, a1, a2, a3, a4, a5⟩ 576 6 = true) (hvb : allIn ⟨b0, b1, b2, b3, b4, b5⟩ 576 6 = false) :
    Calls Tryd.prog 40 #[.agg #[.int .i64 a0, .int .i64 a1, .int .i64 a2, .int .i64 a3, .int .i64 a4, .int .i64 a5], .agg #[.int .i64 b0, .int .i64 b1, .int .i64 b2, .int .i64 b3, .int .i64 b4, .int .i64 b5]] w
      fun e w' => e = .returned (.tuple #[.agg #[.int .i64 0, .int .i64 0], .int .i64 1]) ∧ Gr w w' := by
  go_enter Tryd.func40, Tryd.ntmps40
  go_wp2_with (go_at_call 35; with_reducible refine (pitchValid_any _ _ _ _ _ _ _).mono ?_; rintro e w' ⟨rfl, hb⟩; have hz := hb.le; obtain ⟨hc, hf⟩ := hb.cells; (try simp only [World.size_alloc] at hc hf hz); (try simp only [World.size_setCell] at hc hf hz); (try simp only [World.size_drew] at hc hf hz))
  exact bodyPost_ret (v := .tuple #[.agg #[.int .i64 0, .int .i64 0], .int .i64 1]) (by simp [results, Tryd.results40, go_sem, *]) rfl ⟨rfl, (by repeat (first | exact Gr.refl _ | refine Gr.alloc ?_ _ | refine Gr.drew ?_ | refine Gr.trans ?_ (by assumption) | refine Gr.setCell ?_ (by (try simp); (try omega)) _))⟩
set_option maxHeartbeats 1000000 in
theorem near_ok (a0 a1 a2 a3 a4 a5 b0 b1 b2 b3 b4 b5 n : Int) (w : World) (hL : Logs w) (hva : allIn ⟨a0, a1, a2, a3, a4, a5⟩ 576 6 = true) (hvb : allIn ⟨b0, b1, b2, b3, b4, b5⟩ 576 6 = true) (hn1 : 0 ≤ n) (hn2 : n ≤ 2400000) :
    Calls Tryd.prog 24 #[.agg #[.int .i64 a0, .int .i64 a1, .int .i64 a2, .int .i64 a3, .int .i64 a4, .int .i64 a5], .agg #[.int .i64 b0, .int .i64 b1, .int .i64 b2, .int .i64 b3, .int .i64 b4, .int .i64 b5], .int .i64 n] w
      fun e w' => e = .returned (.tuple #[.int .i64 (surelyI (sumLo ⟨a0 - b0, a1 - b1, a2 - b2, a3 - b3, a4 - b4, a5 - b5⟩ 6) (sumHi ⟨a0 - b0, a1 - b1, a2 - b2, a3 - b3, a4 - b4, a5 - b5⟩ 6) (-10000 * n) (10000 * n)), .int .i64 0]) ∧ Gr w w' := by
  have HL := Lib.hid hL
  clear hL
  have HA := Lib.hid hva; have HB := Lib.hid hvb; clear hva hvb
  go_enter Tryd.func24, Tryd.ntmps24
  go_wp2_with (first | (go_at_call 40; with_reducible refine (gap_ok _ _ _ _ _ _ _ _ _ _ _ _ _ (HL.out.keep (by repeat (first | exact Gr.refl _ | refine Gr.alloc ?_ _ | refine Gr.drew ?_ | refine Gr.trans ?_ (by assumption) | refine Gr.setCell ?_ (by (try simp); (try omega)) _))) HA.out HB.out).mono ?_; rintro e w' ⟨rfl, hb⟩; have hz := hb.le; obtain ⟨hc, hf⟩ := hb.cells; (try simp only [World.size_alloc] at hc hf hz); (try simp only [World.size_setCell] at hc hf hz); (try simp only [World.size_drew] at hc hf hz)) | (go_at_call 41; with_reducible refine (surely_any _ _ _ _ _).mono ?_; rintro e w' ⟨rfl, hb⟩; have hz := hb.le; obtain ⟨hc, hf⟩ := hb.cells; (try simp only [World.size_alloc] at hc hf hz); (try simp only [World.size_setCell] at hc hf hz); (try simp only [World.size_drew] at hc hf hz)))
  go_ret2
  exact ⟨rfl, (by repeat (first | exact Gr.refl _ | refine Gr.alloc ?_ _ | refine Gr.drew ?_ | refine Gr.trans ?_ (by assumption) | refine Gr.setCell ?_ (by (try simp); (try omega)) _))⟩
set_option maxHeartbeats 1000000 in
theorem near_bad1 (a0 a1 a2 a3 a4 a5 b0 b1 b2 b3 b4 b5 n : Int) (w : World) (hva : allIn ⟨a0, a1, a2, a3, a4, a5⟩ 576 6 = false) :
    Calls Tryd.prog 24 #[.agg #[.int .i64 a0, .int .i64 a1, .int .i64 a2, .int .i64 a3, .int .i64 a4, .int .i64 a5], .agg #[.int .i64 b0, .int .i64 b1, .int .i64 b2, .int .i64 b3, .int .i64 b4, .int .i64 b5], .int .i64 n] w
      fun e w' => e = .returned (.tuple #[.int .i64 0, .int .i64 1]) ∧ Gr w w' := by
  have HA := Lib.hid hva
  clear hva
  go_enter Tryd.func24, Tryd.ntmps24
  go_wp2_with (go_at_call 40; with_reducible refine (gap_bad1 _ _ _ _ _ _ _ _ _ _ _ _ _ HA.out).mono ?_; rintro e w' ⟨rfl, hb⟩; have hz := hb.le; obtain ⟨hc, hf⟩ := hb.cells; (try simp only [World.size_alloc] at hc hf hz); (try simp only [World.size_setCell] at hc hf hz); (try simp only [World.size_drew] at hc hf hz))
  go_ret2
  exact ⟨rfl, (by repeat (first | exact Gr.refl _ | refine Gr.alloc ?_ _ | refine Gr.drew ?_ | refine Gr.trans ?_ (by assumption) | refine Gr.setCell ?_ (by (try simp); (try omega)) _))⟩
set_option maxHeartbeats 1000000 in
theorem near_bad2 (a0 a1 a2 a3 a4 a5 b0 b1 b2 b3 b4 b5 n : Int) (w : World) (hva : allIn ⟨a0, a1, a2, a3, a4, a5⟩ 576 6 = true) (hvb : allIn ⟨b0, b1, b2, b3, b4, b5⟩ 576 6 = false) :
    Calls Tryd.prog 24 #[.agg #[.int .i64 a0, .int .i64 a1, .int .i64 a2, .int .i64 a3, .int .i64 a4, .int .i64 a5], .agg #[.int .i64 b0, .int .i64 b1, .int .i64 b2, .int .i64 b3, .int .i64 b4, .int .i64 b5], .int .i64 n] w
      fun e w' => e = .returned (.tuple #[.int .i64 0, .int .i64 1]) ∧ Gr w w' := by
  have HA := Lib.hid hva
  have HB := Lib.hid hvb
  clear hvb
  clear hva
  go_enter Tryd.func24, Tryd.ntmps24
  go_wp2_with (go_at_call 40; with_reducible refine (gap_bad2 _ _ _ _ _ _ _ _ _ _ _ _ _ HA.out HB.out).mono ?_; rintro e w' ⟨rfl, hb⟩; have hz := hb.le; obtain ⟨hc, hf⟩ := hb.cells; (try simp only [World.size_alloc] at hc hf hz); (try simp only [World.size_setCell] at hc hf hz); (try simp only [World.size_drew] at hc hf hz))
  go_ret2
  exact ⟨rfl, (by repeat (first | exact Gr.refl _ | refine Gr.alloc ?_ _ | refine Gr.drew ?_ | refine Gr.trans ?_ (by assumption) | refine Gr.setCell ?_ (by (try simp); (try omega)) _))⟩
set_option maxHeartbeats 1000000 in
theorem near_bad3 (a0 a1 a2 a3 a4 a5 b0 b1 b2 b3 b4 b5 n : Int) (w : World) (hL : Logs w) (hva : allIn ⟨a0, a1, a2, a3, a4, a5⟩ 576 6 = true) (hvb : allIn ⟨b0, b1, b2, b3, b4, b5⟩ 576 6 = true) (hn : n < 0) :
    Calls Tryd.prog 24 #[.agg #[.int .i64 a0, .int .i64 a1, .int .i64 a2, .int .i64 a3, .int .i64 a4, .int .i64 a5], .agg #[.int .i64 b0, .int .i64 b1, .int .i64 b2, .int .i64 b3, .int .i64 b4, .int .i64 b5], .int .i64 n] w
      fun e w' => e = .returned (.tuple #[.int .i64 0, .int .i64 1]) ∧ Gr w w' := by
  have HA := Lib.hid hva
  have HB := Lib.hid hvb
  clear hvb
  have HL := Lib.hid hL
  clear hL
  clear hva
  go_enter Tryd.func24, Tryd.ntmps24
  go_wp2_with (go_at_call 40; with_reducible refine (gap_ok _ _ _ _ _ _ _ _ _ _ _ _ _ (HL.out.keep (by repeat (first | exact Gr.refl _ | refine Gr.alloc ?_ _ | refine Gr.drew ?_ | refine Gr.trans ?_ (by assumption) | refine Gr.setCell ?_ (by (try simp); (try omega)) _))) HA.out HB.out).mono ?_; rintro e w' ⟨rfl, hb⟩; have hz := hb.le; obtain ⟨hc, hf⟩ := hb.cells; (try simp only [World.size_alloc] at hc hf hz); (try simp only [World.size_setCell] at hc hf hz); (try simp only [World.size_drew] at hc hf hz))
  go_ret2
  exact ⟨rfl, (by repeat (first | exact Gr.refl _ | refine Gr.alloc ?_ _ | refine Gr.drew ?_ | refine Gr.trans ?_ (by assumption) | refine Gr.setCell ?_ (by (try simp); (try omega)) _))⟩
set_option maxHeartbeats 1000000 in
theorem near_bad4 (a0 a1 a2 a3 a4 a5 b0 b1 b2 b3 b4 b5 n : Int) (w : World) (hL : Logs w) (hva : allIn ⟨a0, a1, a2, a3, a4, a5⟩ 576 6 = true) (hvb : allIn ⟨b0, b1, b2, b3, b4, b5⟩ 576 6 = true) (hn : 2400000 < n) :
    Calls Tryd.prog 24 #[.agg #[.int .i64 a0, .int .i64 a1, .int .i64 a2, .int .i64 a3, .int .i64 a4, .int .i64 a5], .agg #[.int .i64 b0, .int .i64 b1, .int .i64 b2, .int .i64 b3, .int .i64 b4, .int .i64 b5], .int .i64 n] w
      fun e w' => e = .returned (.tuple #[.int .i64 0, .int .i64 1]) ∧ Gr w w' := by
  have HA := Lib.hid hva
  have HB := Lib.hid hvb
  clear hvb
  have HL := Lib.hid hL
  clear hL
  clear hva
  go_enter Tryd.func24, Tryd.ntmps24
  go_wp2_with (go_at_call 40; with_reducible refine (gap_ok _ _ _ _ _ _ _ _ _ _ _ _ _ (HL.out.keep (by repeat (first | exact Gr.refl _ | refine Gr.alloc ?_ _ | refine Gr.drew ?_ | refine Gr.trans ?_ (by assumption) | refine Gr.setCell ?_ (by (try simp); (try omega)) _))) HA.out HB.out).mono ?_; rintro e w' ⟨rfl, hb⟩; have hz := hb.le; obtain ⟨hc, hf⟩ := hb.cells; (try simp only [World.size_alloc] at hc hf hz); (try simp only [World.size_setCell] at hc hf hz); (try simp only [World.size_drew] at hc hf hz))
  go_ret2
  exact ⟨rfl, (by repeat (first | exact Gr.refl _ | refine Gr.alloc ?_ _ | refine Gr.drew ?_ | refine Gr.trans ?_ (by assumption) | refine Gr.setCell ?_ (by (try simp); (try omega)) _))⟩
end Go.Proofs.YtelhmdhhabgihaaDoor
