import Derived.Test.YtmealmnjeoehiaaDoorNearPlain
namespace Go.Proofs.YtmealmnjeoehiaaDoor
open Go.RowKit

theorem mul12_ok (p0 p1 p2 p3 p4 p5 : Int) (w : World) (hva : allIn ⟨p0, p1, p2, p3, p4, p5⟩ 576 6 = true) (hres : allIn ⟨p0 + 12, p1, p2, p3, p4, p5⟩ 576 6 = true) :
    Calls Tryd.prog 22 #[.agg #[.int .i64 p0, .int .i64 p1, .int .i64 p2, .int .i64 p3, .int .i64 p4, .int .i64 p5], .agg #[.int .i64 12, .int .i64 0, .int .i64 0, .int .i64 0, .int .i64 0, .int .i64 0]] w fun e w' => e = .returned (.tuple #[.agg #[.int .i64 (p0 + 12), .int .i64 p1, .int .i64 p2, .int .i64 p3, .int .i64 p4, .int .i64 p5], .int .i64 0]) ∧ Gr w w' := by
  have h := mul_ok p0 p1 p2 p3 p4 p5 12 0 0 0 0 0 w hva (by decide +kernel) (by simpa only [Int.add_zero] using hres)
  simpa only [Int.add_zero] using h
theorem mul12_out (p0 p1 p2 p3 p4 p5 : Int) (w : World) (hva : allIn ⟨p0, p1, p2, p3, p4, p5⟩ 576 6 = true) (hres : allIn ⟨p0 + 12, p1, p2, p3, p4, p5⟩ 576 6 = false) :
    Calls Tryd.prog 22 #[.agg #[.int .i64 p0, .int .i64 p1, .int .i64 p2, .int .i64 p3, .int .i64 p4, .int .i64 p5], .agg #[.int .i64 12, .int .i64 0, .int .i64 0, .int .i64 0, .int .i64 0, .int .i64 0]] w fun e w' => e = .returned (.tuple #[.agg #[.int .i64 0, .int .i64 0, .int .i64 0, .int .i64 0, .int .i64 0, .int .i64 0], .int .i64 3]) ∧ Gr w w' :=
  mul_out p0 p1 p2 p3 p4 p5 12 0 0 0 0 0 w hva (by decide +kernel) (by simpa only [Int.add_zero] using hres)

theorem wide_one (k : Nat) (e : Int) (hd : logHi k = logLo k + 1) : hiE k e - loE k e = mx e (-e) := by
  unfold hiE loE mx
  by_cases h : e < 0
  · rw [if_pos h, if_pos h, if_pos (by omega), hd, Int.mul_add]; omega
  · rw [if_neg h, if_neg h, if_neg (by omega), hd, Int.mul_add]; omega
theorem wide_six (p0 p1 p2 p3 p4 p5 : Int) : sumHi ⟨p0, p1, p2, p3, p4, p5⟩ 6 = sumLo ⟨p0, p1, p2, p3, p4, p5⟩ 6 + (mx p1 (-p1) + mx p2 (-p2) + mx p3 (-p3) + mx p4 (-p4) + mx p5 (-p5)) := by
  have h1 := wide_one 1 p1 rfl
  have h2 := wide_one 2 p2 rfl
  have h3 := wide_one 3 p3 rfl
  have h4 := wide_one 4 p4 rfl
  have h5 := wide_one 5 p5 rfl
  have h0 : hiE 0 p0 = loE 0 p0 := by unfold hiE loE; split <;> rfl
  rw [sumLo_succ, sumLo_succ, sumLo_succ, sumLo_succ, sumLo_succ, sumLo_succ, sumHi_succ, sumHi_succ, sumHi_succ, sumHi_succ, sumHi_succ, sumHi_succ]
  simp only [V6.get, sumLo, sumHi]
  omega
theorem octave (p0 p1 p2 p3 p4 p5 : Int) : sumLo ⟨p0 + 12, p1, p2, p3, p4, p5⟩ 6 = sumLo ⟨p0, p1, p2, p3, p4, p5⟩ 6 + 12000000000 ∧ sumHi ⟨p0 + 12, p1, p2, p3, p4, p5⟩ 6 = sumHi ⟨p0, p1, p2, p3, p4, p5⟩ 6 + 12000000000 := by
  have h0 : ∀ e, loE 0 e = e * 1000000000 := fun e => by unfold loE; split <;> rfl
  have h1 : ∀ e, hiE 0 e = e * 1000000000 := fun e => by unfold hiE; split <;> rfl
  rw [sumLo_succ, sumLo_succ, sumLo_succ, sumLo_succ, sumLo_succ, sumLo_succ, sumHi_succ, sumHi_succ, sumHi_succ, sumHi_succ, sumHi_succ, sumHi_succ]
  rw [sumLo_succ, sumLo_succ, sumLo_succ, sumLo_succ, sumLo_succ, sumLo_succ, sumHi_succ, sumHi_succ, sumHi_succ, sumHi_succ, sumHi_succ, sumHi_succ]
  simp only [V6.get, sumLo, sumHi, h0, h1]
  omega
theorem mx_pos (x : Int) (b : Int) (h1 : -b ≤ x) (h2 : x ≤ b) : 0 ≤ mx x (-x) ∧ mx x (-x) ≤ b := by unfold mx; split <;> omega

set_option maxRecDepth 100000 in
set_option maxHeartbeats 4000000 in
theorem width_bad (p0 p1 p2 p3 p4 p5 : Int) (w : World) (hL : Logs w) (hva : allIn ⟨p0, p1, p2, p3, p4, p5⟩ 576 6 = false) :
    Calls Tryd.prog 6 #[.agg #[.int .i64 p0, .int .i64 p1, .int .i64 p2, .int .i64 p3, .int .i64 p4, .int .i64 p5]] w fun e w' => e = .returned (.bool true) ∧ Gr w w' := by
  have HL := Lib.hid hL
  clear hL
  go_enter Tryd.func6, Tryd.ntmps6
  go_wp2_with (first | (go_at_call 12; with_reducible refine (head_any _ (HL.out.keep (by repeat (first | exact Gr.refl _ | refine Gr.alloc ?_ _ | refine Gr.drew ?_ | refine Gr.trans ?_ (by assumption) | refine Gr.setCell ?_ (by (try simp); (try omega)) _)))).mono ?_; rintro e w' ⟨rfl, hb⟩; have hz := hb.le; obtain ⟨hc, hf⟩ := hb.cells; (try simp only [World.size_alloc] at hc hf hz); (try simp only [World.size_setCell] at hc hf hz); (try simp only [World.size_drew] at hc hf hz)) | (go_at_call 20; with_reducible refine (pitchValid_any _ _ _ _ _ _ _).mono ?_; rintro e w' ⟨rfl, hb⟩; have hz := hb.le; obtain ⟨hc, hf⟩ := hb.cells; (try simp only [World.size_alloc] at hc hf hz); (try simp only [World.size_setCell] at hc hf hz); (try simp only [World.size_drew] at hc hf hz)))
  go_ret
  exact ⟨rfl, (by repeat (first | exact Gr.refl _ | refine Gr.alloc ?_ _ | refine Gr.drew ?_ | refine Gr.trans ?_ (by assumption) | refine Gr.setCell ?_ (by (try simp); (try omega)) _))⟩

set_option maxRecDepth 100000 in
set_option maxHeartbeats 8000000 in
theorem width_ok (p0 p1 p2 p3 p4 p5 : Int) (w : World) (hL : Logs w) (hva : allIn ⟨p0, p1, p2, p3, p4, p5⟩ 576 6 = true) (hs : allIn ⟨p0 + 12, p1, p2, p3, p4, p5⟩ 576 6 = true) :
    Calls Tryd.prog 6 #[.agg #[.int .i64 p0, .int .i64 p1, .int .i64 p2, .int .i64 p3, .int .i64 p4, .int .i64 p5]] w fun e w' => e = .returned (.bool true) ∧ Gr w w' := by
  have HL := Lib.hid hL
  have HA := Lib.hid hva
  have HS := Lib.hid hs
  have hw := wide_six p0 p1 p2 p3 p4 p5
  have ho := octave p0 p1 p2 p3 p4 p5
  have hb := sum_bd (allIn_mono hva (show (576 : Int) ≤ 1152 by omega)) 6 (by omega)
  have hvs : validS (sumLo ⟨p0, p1, p2, p3, p4, p5⟩ 6) (sumHi ⟨p0, p1, p2, p3, p4, p5⟩ 6) = true := validS_mk ⟨by omega, sum_le _ 6 (by omega), by omega⟩
  have w1 : sumHi ⟨p0, p1, p2, p3, p4, p5⟩ 6 - sumLo ⟨p0, p1, p2, p3, p4, p5⟩ 6 ≤ mx p1 (-p1) + mx p2 (-p2) + mx p3 (-p3) + mx p4 (-p4) + mx p5 (-p5) := by omega
  have w2 : mx p1 (-p1) + mx p2 (-p2) + mx p3 (-p3) + mx p4 (-p4) + mx p5 (-p5) ≤ sumHi ⟨p0, p1, p2, p3, p4, p5⟩ 6 - sumLo ⟨p0, p1, p2, p3, p4, p5⟩ 6 := by omega
  have o1 : sumLo ⟨p0 + 12, p1, p2, p3, p4, p5⟩ 6 ≤ sumLo ⟨p0, p1, p2, p3, p4, p5⟩ 6 + 12000000000 := by omega
  have o2 : sumLo ⟨p0, p1, p2, p3, p4, p5⟩ 6 + 12000000000 ≤ sumLo ⟨p0 + 12, p1, p2, p3, p4, p5⟩ 6 := by omega
  have o3 : sumHi ⟨p0 + 12, p1, p2, p3, p4, p5⟩ 6 ≤ sumHi ⟨p0, p1, p2, p3, p4, p5⟩ 6 + 12000000000 := by omega
  have o4 : sumHi ⟨p0, p1, p2, p3, p4, p5⟩ 6 + 12000000000 ≤ sumHi ⟨p0 + 12, p1, p2, p3, p4, p5⟩ 6 := by omega
  have ga := allIn_get hva
  have g1 := mx_pos p1 576 (ga 1 (by omega)).1 (ga 1 (by omega)).2
  have g2 := mx_pos p2 576 (ga 2 (by omega)).1 (ga 2 (by omega)).2
  have g3 := mx_pos p3 576 (ga 3 (by omega)).1 (ga 3 (by omega)).2
  have g4 := mx_pos p4 576 (ga 4 (by omega)).1 (ga 4 (by omega)).2
  have g5 := mx_pos p5 576 (ga 5 (by omega)).1 (ga 5 (by omega)).2
  have b1 := ga 1 (by omega); have b2 := ga 2 (by omega); have b3 := ga 3 (by omega); have b4 := ga 4 (by omega); have b5 := ga 5 (by omega)
  simp only [V6.get] at b1 b2 b3 b4 b5
  have m1 : (if p1 < -p1 then -p1 else p1) = mx p1 (-p1) := rfl
  have m2 : (if p2 < -p2 then -p2 else p2) = mx p2 (-p2) := rfl
  have m3 : (if p3 < -p3 then -p3 else p3) = mx p3 (-p3) := rfl
  have m4 : (if p4 < -p4 then -p4 else p4) = mx p4 (-p4) := rfl
  have m5 : (if p5 < -p5 then -p5 else p5) = mx p5 (-p5) := rfl
  clear hL ga hw ho hs
  go_enter Tryd.func6, Tryd.ntmps6
  go_wp2_with (first | (go_at_call 12; with_reducible refine (head_any _ (HL.out.keep (by repeat (first | exact Gr.refl _ | refine Gr.alloc ?_ _ | refine Gr.drew ?_ | refine Gr.trans ?_ (by assumption) | refine Gr.setCell ?_ (by (try simp); (try omega)) _)))).mono ?_; rintro e w' ⟨rfl, hb⟩; have hz := hb.le; obtain ⟨hc, hf⟩ := hb.cells; (try simp only [World.size_alloc] at hc hf hz); (try simp only [World.size_setCell] at hc hf hz); (try simp only [World.size_drew] at hc hf hz)) | (go_at_call 20; with_reducible refine (pitchValid_any _ _ _ _ _ _ _).mono ?_; rintro e w' ⟨rfl, hb⟩; have hz := hb.le; obtain ⟨hc, hf⟩ := hb.cells; (try simp only [World.size_alloc] at hc hf hz); (try simp only [World.size_setCell] at hc hf hz); (try simp only [World.size_drew] at hc hf hz)) | (go_at_call 14; with_reducible refine (valid_any _ _ _).mono ?_; rintro e w' ⟨rfl, hb⟩; have hz := hb.le; obtain ⟨hc, hf⟩ := hb.cells; (try simp only [World.size_alloc] at hc hf hz); (try simp only [World.size_setCell] at hc hf hz); (try simp only [World.size_drew] at hc hf hz)) | (go_at_call 22; with_reducible refine (mul12_ok _ _ _ _ _ _ _ HA.out HS.out).mono ?_; rintro e w' ⟨rfl, hb⟩; have hz := hb.le; obtain ⟨hc, hf⟩ := hb.cells; (try simp only [World.size_alloc] at hc hf hz); (try simp only [World.size_setCell] at hc hf hz); (try simp only [World.size_drew] at hc hf hz)) | (go_at_call 23; with_reducible refine (of_ok _ _ _ _ _ _ _ (HL.out.keep (by repeat (first | exact Gr.refl _ | refine Gr.alloc ?_ _ | refine Gr.drew ?_ | refine Gr.trans ?_ (by assumption) | refine Gr.setCell ?_ (by (try simp); (try omega)) _))) HA.out).mono ?_; rintro e w' ⟨rfl, hb⟩; have hz := hb.le; obtain ⟨hc, hf⟩ := hb.cells; (try simp only [World.size_alloc] at hc hf hz); (try simp only [World.size_setCell] at hc hf hz); (try simp only [World.size_drew] at hc hf hz)) | (go_at_call 23; with_reducible refine (of_ok _ _ _ _ _ _ _ (HL.out.keep (by repeat (first | exact Gr.refl _ | refine Gr.alloc ?_ _ | refine Gr.drew ?_ | refine Gr.trans ?_ (by assumption) | refine Gr.setCell ?_ (by (try simp); (try omega)) _))) HS.out).mono ?_; rintro e w' ⟨rfl, hb⟩; have hz := hb.le; obtain ⟨hc, hf⟩ := hb.cells; (try simp only [World.size_alloc] at hc hf hz); (try simp only [World.size_setCell] at hc hf hz); (try simp only [World.size_drew] at hc hf hz)))
  refine wp_loop_rounds 6 ?_
  rw [rounds_succ]; go_wp2; go_region; go_wp2
  rw [rounds_succ]; go_wp2; go_region; go_wp2
  rw [rounds_succ]; go_wp2; go_region; go_wp2
  rw [rounds_succ]; go_wp2; go_region; go_wp2
  rw [rounds_succ]; go_wp2; go_region; go_wp2
  rw [rounds_succ]
  go_wp2_with (first | (go_at_call 12; with_reducible refine (head_any _ (HL.out.keep (by repeat (first | exact Gr.refl _ | refine Gr.alloc ?_ _ | refine Gr.drew ?_ | refine Gr.trans ?_ (by assumption) | refine Gr.setCell ?_ (by (try simp); (try omega)) _)))).mono ?_; rintro e w' ⟨rfl, hb⟩; have hz := hb.le; obtain ⟨hc, hf⟩ := hb.cells; (try simp only [World.size_alloc] at hc hf hz); (try simp only [World.size_setCell] at hc hf hz); (try simp only [World.size_drew] at hc hf hz)) | (go_at_call 20; with_reducible refine (pitchValid_any _ _ _ _ _ _ _).mono ?_; rintro e w' ⟨rfl, hb⟩; have hz := hb.le; obtain ⟨hc, hf⟩ := hb.cells; (try simp only [World.size_alloc] at hc hf hz); (try simp only [World.size_setCell] at hc hf hz); (try simp only [World.size_drew] at hc hf hz)) | (go_at_call 14; with_reducible refine (valid_any _ _ _).mono ?_; rintro e w' ⟨rfl, hb⟩; have hz := hb.le; obtain ⟨hc, hf⟩ := hb.cells; (try simp only [World.size_alloc] at hc hf hz); (try simp only [World.size_setCell] at hc hf hz); (try simp only [World.size_drew] at hc hf hz)) | (go_at_call 22; with_reducible refine (mul12_ok _ _ _ _ _ _ _ HA.out HS.out).mono ?_; rintro e w' ⟨rfl, hb⟩; have hz := hb.le; obtain ⟨hc, hf⟩ := hb.cells; (try simp only [World.size_alloc] at hc hf hz); (try simp only [World.size_setCell] at hc hf hz); (try simp only [World.size_drew] at hc hf hz)) | (go_at_call 23; with_reducible refine (of_ok _ _ _ _ _ _ _ (HL.out.keep (by repeat (first | exact Gr.refl _ | refine Gr.alloc ?_ _ | refine Gr.drew ?_ | refine Gr.trans ?_ (by assumption) | refine Gr.setCell ?_ (by (try simp); (try omega)) _))) HA.out).mono ?_; rintro e w' ⟨rfl, hb⟩; have hz := hb.le; obtain ⟨hc, hf⟩ := hb.cells; (try simp only [World.size_alloc] at hc hf hz); (try simp only [World.size_setCell] at hc hf hz); (try simp only [World.size_drew] at hc hf hz)) | (go_at_call 23; with_reducible refine (of_ok _ _ _ _ _ _ _ (HL.out.keep (by repeat (first | exact Gr.refl _ | refine Gr.alloc ?_ _ | refine Gr.drew ?_ | refine Gr.trans ?_ (by assumption) | refine Gr.setCell ?_ (by (try simp); (try omega)) _))) HS.out).mono ?_; rintro e w' ⟨rfl, hb⟩; have hz := hb.le; obtain ⟨hc, hf⟩ := hb.cells; (try simp only [World.size_alloc] at hc hf hz); (try simp only [World.size_setCell] at hc hf hz); (try simp only [World.size_drew] at hc hf hz)))
  all_goals
    go_ret
    refine ⟨ret_bool ?_, (by repeat (first | exact Gr.refl _ | refine Gr.alloc ?_ _ | refine Gr.drew ?_ | refine Gr.trans ?_ (by assumption) | refine Gr.setCell ?_ (by (try simp); (try omega)) _))⟩
    first | rfl | (simp; omega) | simp | omega

set_option maxRecDepth 100000 in
set_option maxHeartbeats 8000000 in
theorem width_out (p0 p1 p2 p3 p4 p5 : Int) (w : World) (hL : Logs w) (hva : allIn ⟨p0, p1, p2, p3, p4, p5⟩ 576 6 = true) (hs : allIn ⟨p0 + 12, p1, p2, p3, p4, p5⟩ 576 6 = false) :
    Calls Tryd.prog 6 #[.agg #[.int .i64 p0, .int .i64 p1, .int .i64 p2, .int .i64 p3, .int .i64 p4, .int .i64 p5]] w fun e w' => e = .returned (.bool true) ∧ Gr w w' := by
  have HL := Lib.hid hL
  have HA := Lib.hid hva
  have HS := Lib.hid hs
  have hw := wide_six p0 p1 p2 p3 p4 p5
  have ho := octave p0 p1 p2 p3 p4 p5
  have hb := sum_bd (allIn_mono hva (show (576 : Int) ≤ 1152 by omega)) 6 (by omega)
  have hvs : validS (sumLo ⟨p0, p1, p2, p3, p4, p5⟩ 6) (sumHi ⟨p0, p1, p2, p3, p4, p5⟩ 6) = true := validS_mk ⟨by omega, sum_le _ 6 (by omega), by omega⟩
  have w1 : sumHi ⟨p0, p1, p2, p3, p4, p5⟩ 6 - sumLo ⟨p0, p1, p2, p3, p4, p5⟩ 6 ≤ mx p1 (-p1) + mx p2 (-p2) + mx p3 (-p3) + mx p4 (-p4) + mx p5 (-p5) := by omega
  have w2 : mx p1 (-p1) + mx p2 (-p2) + mx p3 (-p3) + mx p4 (-p4) + mx p5 (-p5) ≤ sumHi ⟨p0, p1, p2, p3, p4, p5⟩ 6 - sumLo ⟨p0, p1, p2, p3, p4, p5⟩ 6 := by omega
  have o1 : sumLo ⟨p0 + 12, p1, p2, p3, p4, p5⟩ 6 ≤ sumLo ⟨p0, p1, p2, p3, p4, p5⟩ 6 + 12000000000 := by omega
  have o2 : sumLo ⟨p0, p1, p2, p3, p4, p5⟩ 6 + 12000000000 ≤ sumLo ⟨p0 + 12, p1, p2, p3, p4, p5⟩ 6 := by omega
  have o3 : sumHi ⟨p0 + 12, p1, p2, p3, p4, p5⟩ 6 ≤ sumHi ⟨p0, p1, p2, p3, p4, p5⟩ 6 + 12000000000 := by omega
  have o4 : sumHi ⟨p0, p1, p2, p3, p4, p5⟩ 6 + 12000000000 ≤ sumHi ⟨p0 + 12, p1, p2, p3, p4, p5⟩ 6 := by omega
  have ga := allIn_get hva
  have g1 := mx_pos p1 576 (ga 1 (by omega)).1 (ga 1 (by omega)).2
  have g2 := mx_pos p2 576 (ga 2 (by omega)).1 (ga 2 (by omega)).2
  have g3 := mx_pos p3 576 (ga 3 (by omega)).1 (ga 3 (by omega)).2
  have g4 := mx_pos p4 576 (ga 4 (by omega)).1 (ga 4 (by omega)).2
  have g5 := mx_pos p5 576 (ga 5 (by omega)).1 (ga 5 (by omega)).2
  have b1 := ga 1 (by omega); have b2 := ga 2 (by omega); have b3 := ga 3 (by omega); have b4 := ga 4 (by omega); have b5 := ga 5 (by omega)
  simp only [V6.get] at b1 b2 b3 b4 b5
  have m1 : (if p1 < -p1 then -p1 else p1) = mx p1 (-p1) := rfl
  have m2 : (if p2 < -p2 then -p2 else p2) = mx p2 (-p2) := rfl
  have m3 : (if p3 < -p3 then -p3 else p3) = mx p3 (-p3) := rfl
  have m4 : (if p4 < -p4 then -p4 else p4) = mx p4 (-p4) := rfl
  have m5 : (if p5 < -p5 then -p5 else p5) = mx p5 (-p5) := rfl
  clear hL ga hw ho hs
  go_enter Tryd.func6, Tryd.ntmps6
  go_wp2_with (first | (go_at_call 12; with_reducible refine (head_any _ (HL.out.keep (by repeat (first | exact Gr.refl _ | refine Gr.alloc ?_ _ | refine Gr.drew ?_ | refine Gr.trans ?_ (by assumption) | refine Gr.setCell ?_ (by (try simp); (try omega)) _)))).mono ?_; rintro e w' ⟨rfl, hb⟩; have hz := hb.le; obtain ⟨hc, hf⟩ := hb.cells; (try simp only [World.size_alloc] at hc hf hz); (try simp only [World.size_setCell] at hc hf hz); (try simp only [World.size_drew] at hc hf hz)) | (go_at_call 20; with_reducible refine (pitchValid_any _ _ _ _ _ _ _).mono ?_; rintro e w' ⟨rfl, hb⟩; have hz := hb.le; obtain ⟨hc, hf⟩ := hb.cells; (try simp only [World.size_alloc] at hc hf hz); (try simp only [World.size_setCell] at hc hf hz); (try simp only [World.size_drew] at hc hf hz)) | (go_at_call 14; with_reducible refine (valid_any _ _ _).mono ?_; rintro e w' ⟨rfl, hb⟩; have hz := hb.le; obtain ⟨hc, hf⟩ := hb.cells; (try simp only [World.size_alloc] at hc hf hz); (try simp only [World.size_setCell] at hc hf hz); (try simp only [World.size_drew] at hc hf hz)) | (go_at_call 22; with_reducible refine (mul12_out _ _ _ _ _ _ _ HA.out HS.out).mono ?_; rintro e w' ⟨rfl, hb⟩; have hz := hb.le; obtain ⟨hc, hf⟩ := hb.cells; (try simp only [World.size_alloc] at hc hf hz); (try simp only [World.size_setCell] at hc hf hz); (try simp only [World.size_drew] at hc hf hz)) | (go_at_call 23; with_reducible refine (of_ok _ _ _ _ _ _ _ (HL.out.keep (by repeat (first | exact Gr.refl _ | refine Gr.alloc ?_ _ | refine Gr.drew ?_ | refine Gr.trans ?_ (by assumption) | refine Gr.setCell ?_ (by (try simp); (try omega)) _))) HA.out).mono ?_; rintro e w' ⟨rfl, hb⟩; have hz := hb.le; obtain ⟨hc, hf⟩ := hb.cells; (try simp only [World.size_alloc] at hc hf hz); (try simp only [World.size_setCell] at hc hf hz); (try simp only [World.size_drew] at hc hf hz)))
  refine wp_loop_rounds 6 ?_
  rw [rounds_succ]; go_wp2; go_region; go_wp2
  rw [rounds_succ]; go_wp2; go_region; go_wp2
  rw [rounds_succ]; go_wp2; go_region; go_wp2
  rw [rounds_succ]; go_wp2; go_region; go_wp2
  rw [rounds_succ]; go_wp2; go_region; go_wp2
  rw [rounds_succ]
  go_wp2_with (first | (go_at_call 12; with_reducible refine (head_any _ (HL.out.keep (by repeat (first | exact Gr.refl _ | refine Gr.alloc ?_ _ | refine Gr.drew ?_ | refine Gr.trans ?_ (by assumption) | refine Gr.setCell ?_ (by (try simp); (try omega)) _)))).mono ?_; rintro e w' ⟨rfl, hb⟩; have hz := hb.le; obtain ⟨hc, hf⟩ := hb.cells; (try simp only [World.size_alloc] at hc hf hz); (try simp only [World.size_setCell] at hc hf hz); (try simp only [World.size_drew] at hc hf hz)) | (go_at_call 20; with_reducible refine (pitchValid_any _ _ _ _ _ _ _).mono ?_; rintro e w' ⟨rfl, hb⟩; have hz := hb.le; obtain ⟨hc, hf⟩ := hb.cells; (try simp only [World.size_alloc] at hc hf hz); (try simp only [World.size_setCell] at hc hf hz); (try simp only [World.size_drew] at hc hf hz)) | (go_at_call 14; with_reducible refine (valid_any _ _ _).mono ?_; rintro e w' ⟨rfl, hb⟩; have hz := hb.le; obtain ⟨hc, hf⟩ := hb.cells; (try simp only [World.size_alloc] at hc hf hz); (try simp only [World.size_setCell] at hc hf hz); (try simp only [World.size_drew] at hc hf hz)) | (go_at_call 22; with_reducible refine (mul12_out _ _ _ _ _ _ _ HA.out HS.out).mono ?_; rintro e w' ⟨rfl, hb⟩; have hz := hb.le; obtain ⟨hc, hf⟩ := hb.cells; (try simp only [World.size_alloc] at hc hf hz); (try simp only [World.size_setCell] at hc hf hz); (try simp only [World.size_drew] at hc hf hz)) | (go_at_call 23; with_reducible refine (of_ok _ _ _ _ _ _ _ (HL.out.keep (by repeat (first | exact Gr.refl _ | refine Gr.alloc ?_ _ | refine Gr.drew ?_ | refine Gr.trans ?_ (by assumption) | refine Gr.setCell ?_ (by (try simp); (try omega)) _))) HA.out).mono ?_; rintro e w' ⟨rfl, hb⟩; have hz := hb.le; obtain ⟨hc, hf⟩ := hb.cells; (try simp only [World.size_alloc] at hc hf hz); (try simp only [World.size_setCell] at hc hf hz); (try simp only [World.size_drew] at hc hf hz)))
  all_goals
    go_ret
    refine ⟨ret_bool ?_, (by repeat (first | exact Gr.refl _ | refine Gr.alloc ?_ _ | refine Gr.drew ?_ | refine Gr.trans ?_ (by assumption) | refine Gr.setCell ?_ (by (try simp); (try omega)) _))⟩
    first | rfl | (simp; omega) | simp | omega

theorem width_law (p0 p1 p2 p3 p4 p5 : Int) (w : World) (hL : Logs w) :
    Calls Tryd.prog 6 #[.agg #[.int .i64 p0, .int .i64 p1, .int .i64 p2, .int .i64 p3, .int .i64 p4, .int .i64 p5]] w fun e w' => e = .returned (.bool true) ∧ Gr w w' := by
  cases hp : allIn ⟨p0, p1, p2, p3, p4, p5⟩ 576 6
  · exact width_bad p0 p1 p2 p3 p4 p5 w hL hp
  cases hs : allIn ⟨p0 + 12, p1, p2, p3, p4, p5⟩ 576 6
  · exact width_out p0 p1 p2 p3 p4 p5 w hL hp hs
  · exact width_ok p0 p1 p2 p3 p4 p5 w hL hp hs
end Go.Proofs.YtmealmnjeoehiaaDoor
