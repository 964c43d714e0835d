import Derived.Test.YtmealmnjeoehiaaDoorMultiples
import Derived.Test.YtmealmnjeoehiaaDoorNearPlain
import Derived.Test.YtmealmnjeoehiaaDoorSurely
namespace Go.Proofs.YtmealmnjeoehiaaDoor
open Go.RowKit

set_option maxHeartbeats 400000 in
theorem rvalid_any (lo hi : Int) (w : World) :
    Calls Tryd.prog 26 #[.agg #[.int .i64 lo, .int .i64 hi]] w fun e w' => e = .returned (.bool (validS lo hi)) ∧ Gr w w' := by
  go_enter Tryd.func26, Tryd.ntmps26
  go_wp2
  all_goals go_ret
  · exact ⟨ret_bool (by have : -100000000000000 ≤ lo := by assumption
                        have : lo ≤ hi := by assumption
                        simp [validS, *]), (by repeat (first | exact Gr.refl _ | refine Gr.alloc ?_ _ | refine Gr.drew ?_ | refine Gr.trans ?_ (by assumption) | refine Gr.setCell ?_ (by (try simp); (try omega)) _))⟩
  · exact ⟨ret_bool (by rw [validS_no (by omega)]), (by repeat (first | exact Gr.refl _ | refine Gr.alloc ?_ _ | refine Gr.drew ?_ | refine Gr.trans ?_ (by assumption) | refine Gr.setCell ?_ (by (try simp); (try omega)) _))⟩
  · exact ⟨ret_bool (by rw [validS_no (by omega)]), (by repeat (first | exact Gr.refl _ | refine Gr.alloc ?_ _ | refine Gr.drew ?_ | refine Gr.trans ?_ (by assumption) | refine Gr.setCell ?_ (by (try simp); (try omega)) _))⟩
set_option maxHeartbeats 400000 in
theorem rboth_any (al ah bl bh : Int) (w : World) :
    Calls Tryd.prog 48 #[.agg #[.int .i64 al, .int .i64 ah], .agg #[.int .i64 bl, .int .i64 bh]] w
      fun e w' => e = .returned (.bool (validS al ah && validS bl bh)) ∧ Gr w w' := by
  cases h1 : validS al ah
  all_goals
    go_enter Tryd.func48, Tryd.ntmps48
    go_wp2_with (go_at_call 26; with_reducible refine (rvalid_any _ _ _).mono ?_; rintro e w' ⟨rfl, hb⟩; have hz := hb.le; obtain ⟨hc, hf⟩ := hb.cells; (try simp only [World.size_alloc] at hc hf hz); (try simp only [World.size_setCell] at hc hf hz); (try simp only [World.size_drew] at hc hf hz))
    go_ret
    exact ⟨rfl, (by repeat (first | exact Gr.refl _ | refine Gr.alloc ?_ _ | refine Gr.drew ?_ | refine Gr.trans ?_ (by assumption) | refine Gr.setCell ?_ (by (try simp); (try omega)) _))⟩
theorem rsurely_any (lo hi low high : Int) (w : World) :
    Calls Tryd.prog 51 #[.agg #[.int .i64 lo, .int .i64 hi], .int .i64 low, .int .i64 high] w
      fun e w' => e = .returned (.int .i64 (surelyI lo hi low high)) ∧ Gr w w' := by
  go_enter Tryd.func51, Tryd.ntmps51
  go_wp2
  all_goals go_ret
  all_goals refine ⟨ret_int ?_, (by repeat (first | exact Gr.refl _ | refine Gr.alloc ?_ _ | refine Gr.drew ?_ | refine Gr.trans ?_ (by assumption) | refine Gr.setCell ?_ (by (try simp); (try omega)) _))⟩
  all_goals first | (rw [surelyI, if_pos (by omega)]; done) | (rw [surelyI, if_neg (by omega), if_pos (by omega)]; done) | (rw [surelyI, if_neg (by omega), if_neg (by omega)]; done)
set_option maxHeartbeats 400000 in
theorem rbounded_ok (lo hi : Int) (w : World) (h : validS lo hi = true) :
    Calls Tryd.prog 49 #[.agg #[.int .i64 lo, .int .i64 hi]] w fun e w' => e = .returned (.tuple #[.agg #[.int .i64 lo, .int .i64 hi], .int .i64 0]) ∧ Gr w w' := by
  go_enter Tryd.func49, Tryd.ntmps49
  go_wp2_with (go_at_call 26; with_reducible refine (rvalid_any _ _ _).mono ?_; rintro e w' ⟨rfl, hb⟩; have hz := hb.le; obtain ⟨hc, hf⟩ := hb.cells; (try simp only [World.size_alloc] at hc hf hz); (try simp only [World.size_setCell] at hc hf hz); (try simp only [World.size_drew] at hc hf hz))
  exact bodyPost_ret (v := .tuple #[.agg #[.int .i64 lo, .int .i64 hi], .int .i64 0]) (by simp [results, Tryd.results49, go_sem, *]) rfl ⟨rfl, (by repeat (first | exact Gr.refl _ | refine Gr.alloc ?_ _ | refine Gr.drew ?_ | refine Gr.trans ?_ (by assumption) | refine Gr.setCell ?_ (by (try simp); (try omega)) _))⟩
set_option maxHeartbeats 400000 in
theorem rbounded_out (lo hi : Int) (w : World) (h : validS lo hi = false) :
    Calls Tryd.prog 49 #[.agg #[.int .i64 lo, .int .i64 hi]] w fun e w' => e = .returned (.tuple #[.agg #[.int .i64 0, .int .i64 0], .int .i64 3]) ∧ Gr w w' := by
  go_enter Tryd.func49, Tryd.ntmps49
  go_wp2_with (go_at_call 26; with_reducible refine (rvalid_any _ _ _).mono ?_; rintro e w' ⟨rfl, hb⟩; have hz := hb.le; obtain ⟨hc, hf⟩ := hb.cells; (try simp only [World.size_alloc] at hc hf hz); (try simp only [World.size_setCell] at hc hf hz); (try simp only [World.size_drew] at hc hf hz))
  exact bodyPost_ret (v := .tuple #[.agg #[.int .i64 0, .int .i64 0], .int .i64 3]) (by simp [results, Tryd.results49, go_sem, *]) rfl ⟨rfl, (by repeat (first | exact Gr.refl _ | refine Gr.alloc ?_ _ | refine Gr.drew ?_ | refine Gr.trans ?_ (by assumption) | refine Gr.setCell ?_ (by (try simp); (try omega)) _))⟩
set_option maxHeartbeats 1000000 in
theorem radd_bad (al ah bl bh : Int) (w : World) (h12 : (validS al ah && validS bl bh) = false) :
    Calls Tryd.prog 30 #[.agg #[.int .i64 al, .int .i64 ah], .agg #[.int .i64 bl, .int .i64 bh]] w fun e w' => e = .returned (.tuple #[.agg #[.int .i64 0, .int .i64 0], .int .i64 1]) ∧ Gr w w' := by
  go_enter Tryd.func30, Tryd.ntmps30
  go_wp2_with (first | (go_at_call 48; with_reducible refine (rboth_any _ _ _ _ _).mono ?_; rintro e w' ⟨rfl, hb⟩; have hz := hb.le; obtain ⟨hc, hf⟩ := hb.cells; (try simp only [World.size_alloc] at hc hf hz); (try simp only [World.size_setCell] at hc hf hz); (try simp only [World.size_drew] at hc hf hz)))
  exact bodyPost_ret (v := .tuple #[.agg #[.int .i64 0, .int .i64 0], .int .i64 1]) (by simp [results, Tryd.results30, go_sem, *]) rfl ⟨rfl, (by repeat (first | exact Gr.refl _ | refine Gr.alloc ?_ _ | refine Gr.drew ?_ | refine Gr.trans ?_ (by assumption) | refine Gr.setCell ?_ (by (try simp); (try omega)) _))⟩
set_option maxHeartbeats 1000000 in
theorem radd_ok (al ah bl bh : Int) (w : World) (h12 : (validS al ah && validS bl bh) = true) (h : validS (al + bl) (ah + bh) = true) :
    Calls Tryd.prog 30 #[.agg #[.int .i64 al, .int .i64 ah], .agg #[.int .i64 bl, .int .i64 bh]] w fun e w' => e = .returned (.tuple #[.agg #[.int .i64 (al + bl), .int .i64 (ah + bh)], .int .i64 0]) ∧ Gr w w' := by
  have v1 := (validS_true (Bool.and_eq_true_iff.1 h12).1)
  have v2 := (validS_true (Bool.and_eq_true_iff.1 h12).2)
  obtain ⟨a1, a2, a3⟩ := v1
  obtain ⟨b1, b2, b3⟩ := v2
  go_enter Tryd.func30, Tryd.ntmps30
  go_wp2_with (first | (go_at_call 48; with_reducible refine (rboth_any _ _ _ _ _).mono ?_; rintro e w' ⟨rfl, hb⟩; have hz := hb.le; obtain ⟨hc, hf⟩ := hb.cells; (try simp only [World.size_alloc] at hc hf hz); (try simp only [World.size_setCell] at hc hf hz); (try simp only [World.size_drew] at hc hf hz)) | (go_at_call 49; with_reducible refine (rbounded_ok _ _ _ h).mono ?_; rintro e w' ⟨rfl, hb⟩; have hz := hb.le; obtain ⟨hc, hf⟩ := hb.cells; (try simp only [World.size_alloc] at hc hf hz); (try simp only [World.size_setCell] at hc hf hz); (try simp only [World.size_drew] at hc hf hz)))
  exact bodyPost_ret (v := .tuple #[.agg #[.int .i64 (al + bl), .int .i64 (ah + bh)], .int .i64 0]) (by simp [results, Tryd.results30, go_sem, *]) rfl ⟨rfl, (by repeat (first | exact Gr.refl _ | refine Gr.alloc ?_ _ | refine Gr.drew ?_ | refine Gr.trans ?_ (by assumption) | refine Gr.setCell ?_ (by (try simp); (try omega)) _))⟩
set_option maxHeartbeats 1000000 in
theorem radd_out (al ah bl bh : Int) (w : World) (h12 : (validS al ah && validS bl bh) = true) (h : validS (al + bl) (ah + bh) = false) :
    Calls Tryd.prog 30 #[.agg #[.int .i64 al, .int .i64 ah], .agg #[.int .i64 bl, .int .i64 bh]] w fun e w' => e = .returned (.tuple #[.agg #[.int .i64 0, .int .i64 0], .int .i64 3]) ∧ Gr w w' := by
  have v1 := (validS_true (Bool.and_eq_true_iff.1 h12).1)
  have v2 := (validS_true (Bool.and_eq_true_iff.1 h12).2)
  obtain ⟨a1, a2, a3⟩ := v1
  obtain ⟨b1, b2, b3⟩ := v2
  go_enter Tryd.func30, Tryd.ntmps30
  go_wp2_with (first | (go_at_call 48; with_reducible refine (rboth_any _ _ _ _ _).mono ?_; rintro e w' ⟨rfl, hb⟩; have hz := hb.le; obtain ⟨hc, hf⟩ := hb.cells; (try simp only [World.size_alloc] at hc hf hz); (try simp only [World.size_setCell] at hc hf hz); (try simp only [World.size_drew] at hc hf hz)) | (go_at_call 49; with_reducible refine (rbounded_out _ _ _ h).mono ?_; rintro e w' ⟨rfl, hb⟩; have hz := hb.le; obtain ⟨hc, hf⟩ := hb.cells; (try simp only [World.size_alloc] at hc hf hz); (try simp only [World.size_setCell] at hc hf hz); (try simp only [World.size_drew] at hc hf hz)))
  exact bodyPost_ret (v := .tuple #[.agg #[.int .i64 0, .int .i64 0], .int .i64 3]) (by simp [results, Tryd.results30, go_sem, *]) rfl ⟨rfl, (by repeat (first | exact Gr.refl _ | refine Gr.alloc ?_ _ | refine Gr.drew ?_ | refine Gr.trans ?_ (by assumption) | refine Gr.setCell ?_ (by (try simp); (try omega)) _))⟩
set_option maxHeartbeats 1000000 in
theorem rsub_bad (al ah bl bh : Int) (w : World) (h12 : (validS al ah && validS bl bh) = false) :
    Calls Tryd.prog 31 #[.agg #[.int .i64 al, .int .i64 ah], .agg #[.int .i64 bl, .int .i64 bh]] w fun e w' => e = .returned (.tuple #[.agg #[.int .i64 0, .int .i64 0], .int .i64 1]) ∧ Gr w w' := by
  go_enter Tryd.func31, Tryd.ntmps31
  go_wp2_with (first | (go_at_call 48; with_reducible refine (rboth_any _ _ _ _ _).mono ?_; rintro e w' ⟨rfl, hb⟩; have hz := hb.le; obtain ⟨hc, hf⟩ := hb.cells; (try simp only [World.size_alloc] at hc hf hz); (try simp only [World.size_setCell] at hc hf hz); (try simp only [World.size_drew] at hc hf hz)))
  exact bodyPost_ret (v := .tuple #[.agg #[.int .i64 0, .int .i64 0], .int .i64 1]) (by simp [results, Tryd.results31, go_sem, *]) rfl ⟨rfl, (by repeat (first | exact Gr.refl _ | refine Gr.alloc ?_ _ | refine Gr.drew ?_ | refine Gr.trans ?_ (by assumption) | refine Gr.setCell ?_ (by (try simp); (try omega)) _))⟩
set_option maxHeartbeats 1000000 in
theorem rsub_ok (al ah bl bh : Int) (w : World) (h12 : (validS al ah && validS bl bh) = true) (h : validS (al - bh) (ah - bl) = true) :
    Calls Tryd.prog 31 #[.agg #[.int .i64 al, .int .i64 ah], .agg #[.int .i64 bl, .int .i64 bh]] w fun e w' => e = .returned (.tuple #[.agg #[.int .i64 (al - bh), .int .i64 (ah - bl)], .int .i64 0]) ∧ Gr w w' := by
  have v1 := (validS_true (Bool.and_eq_true_iff.1 h12).1)
  have v2 := (validS_true (Bool.and_eq_true_iff.1 h12).2)
  obtain ⟨a1, a2, a3⟩ := v1
  obtain ⟨b1, b2, b3⟩ := v2
  go_enter Tryd.func31, Tryd.ntmps31
  go_wp2_with (first | (go_at_call 48; with_reducible refine (rboth_any _ _ _ _ _).mono ?_; rintro e w' ⟨rfl, hb⟩; have hz := hb.le; obtain ⟨hc, hf⟩ := hb.cells; (try simp only [World.size_alloc] at hc hf hz); (try simp only [World.size_setCell] at hc hf hz); (try simp only [World.size_drew] at hc hf hz)) | (go_at_call 49; with_reducible refine (rbounded_ok _ _ _ h).mono ?_; rintro e w' ⟨rfl, hb⟩; have hz := hb.le; obtain ⟨hc, hf⟩ := hb.cells; (try simp only [World.size_alloc] at hc hf hz); (try simp only [World.size_setCell] at hc hf hz); (try simp only [World.size_drew] at hc hf hz)))
  exact bodyPost_ret (v := .tuple #[.agg #[.int .i64 (al - bh), .int .i64 (ah - bl)], .int .i64 0]) (by simp [results, Tryd.results31, go_sem, *]) rfl ⟨rfl, (by repeat (first | exact Gr.refl _ | refine Gr.alloc ?_ _ | refine Gr.drew ?_ | refine Gr.trans ?_ (by assumption) | refine Gr.setCell ?_ (by (try simp); (try omega)) _))⟩
set_option maxHeartbeats 1000000 in
theorem rsub_out (al ah bl bh : Int) (w : World) (h12 : (validS al ah && validS bl bh) = true) (h : validS (al - bh) (ah - bl) = false) :
    Calls Tryd.prog 31 #[.agg #[.int .i64 al, .int .i64 ah], .agg #[.int .i64 bl, .int .i64 bh]] w fun e w' => e = .returned (.tuple #[.agg #[.int .i64 0, .int .i64 0], .int .i64 3]) ∧ Gr w w' := by
  have v1 := (validS_true (Bool.and_eq_true_iff.1 h12).1)
  have v2 := (validS_true (Bool.and_eq_true_iff.1 h12).2)
  obtain ⟨a1, a2, a3⟩ := v1
  obtain ⟨b1, b2, b3⟩ := v2
  go_enter Tryd.func31, Tryd.ntmps31
  go_wp2_with (first | (go_at_call 48; with_reducible refine (rboth_any _ _ _ _ _).mono ?_; rintro e w' ⟨rfl, hb⟩; have hz := hb.le; obtain ⟨hc, hf⟩ := hb.cells; (try simp only [World.size_alloc] at hc hf hz); (try simp only [World.size_setCell] at hc hf hz); (try simp only [World.size_drew] at hc hf hz)) | (go_at_call 49; with_reducible refine (rbounded_out _ _ _ h).mono ?_; rintro e w' ⟨rfl, hb⟩; have hz := hb.le; obtain ⟨hc, hf⟩ := hb.cells; (try simp only [World.size_alloc] at hc hf hz); (try simp only [World.size_setCell] at hc hf hz); (try simp only [World.size_drew] at hc hf hz)))
  exact bodyPost_ret (v := .tuple #[.agg #[.int .i64 0, .int .i64 0], .int .i64 3]) (by simp [results, Tryd.results31, go_sem, *]) rfl ⟨rfl, (by repeat (first | exact Gr.refl _ | refine Gr.alloc ?_ _ | refine Gr.drew ?_ | refine Gr.trans ?_ (by assumption) | refine Gr.setCell ?_ (by (try simp); (try omega)) _))⟩
set_option maxHeartbeats 1000000 in
theorem rmeet_bad (al ah bl bh : Int) (w : World) (h12 : (validS al ah && validS bl bh) = false) :
    Calls Tryd.prog 33 #[.agg #[.int .i64 al, .int .i64 ah], .agg #[.int .i64 bl, .int .i64 bh]] w fun e w' => e = .returned (.tuple #[.agg #[.int .i64 0, .int .i64 0], .int .i64 1]) ∧ Gr w w' := by
  go_enter Tryd.func33, Tryd.ntmps33
  go_wp2_with (first | (go_at_call 48; with_reducible refine (rboth_any _ _ _ _ _).mono ?_; rintro e w' ⟨rfl, hb⟩; have hz := hb.le; obtain ⟨hc, hf⟩ := hb.cells; (try simp only [World.size_alloc] at hc hf hz); (try simp only [World.size_setCell] at hc hf hz); (try simp only [World.size_drew] at hc hf hz)))
  exact bodyPost_ret (v := .tuple #[.agg #[.int .i64 0, .int .i64 0], .int .i64 1]) (by simp [results, Tryd.results33, go_sem, *]) rfl ⟨rfl, (by repeat (first | exact Gr.refl _ | refine Gr.alloc ?_ _ | refine Gr.drew ?_ | refine Gr.trans ?_ (by assumption) | refine Gr.setCell ?_ (by (try simp); (try omega)) _))⟩
set_option maxHeartbeats 1000000 in
theorem rmeet_none (al ah bl bh : Int) (w : World) (h12 : (validS al ah && validS bl bh) = true) (h : mn ah bh < mx al bl) :
    Calls Tryd.prog 33 #[.agg #[.int .i64 al, .int .i64 ah], .agg #[.int .i64 bl, .int .i64 bh]] w fun e w' => e = .returned (.tuple #[.agg #[.int .i64 0, .int .i64 0], .int .i64 4]) ∧ Gr w w' := by
  have hm1 : (if al < bl then bl else al) = mx al bl := rfl
  have hm2 : (if bh < ah then bh else ah) = mn ah bh := rfl
  go_enter Tryd.func33, Tryd.ntmps33
  go_wp2_with (first | (go_at_call 48; with_reducible refine (rboth_any _ _ _ _ _).mono ?_; rintro e w' ⟨rfl, hb⟩; have hz := hb.le; obtain ⟨hc, hf⟩ := hb.cells; (try simp only [World.size_alloc] at hc hf hz); (try simp only [World.size_setCell] at hc hf hz); (try simp only [World.size_drew] at hc hf hz)))
  exact bodyPost_ret (v := .tuple #[.agg #[.int .i64 0, .int .i64 0], .int .i64 4]) (by simp [results, Tryd.results33, go_sem, *]) rfl ⟨rfl, (by repeat (first | exact Gr.refl _ | refine Gr.alloc ?_ _ | refine Gr.drew ?_ | refine Gr.trans ?_ (by assumption) | refine Gr.setCell ?_ (by (try simp); (try omega)) _))⟩
set_option maxHeartbeats 1000000 in
theorem rmeet_some (al ah bl bh : Int) (w : World) (h12 : (validS al ah && validS bl bh) = true) (h : mx al bl ≤ mn ah bh) :
    Calls Tryd.prog 33 #[.agg #[.int .i64 al, .int .i64 ah], .agg #[.int .i64 bl, .int .i64 bh]] w fun e w' => e = .returned (.tuple #[.agg #[.int .i64 (mx al bl), .int .i64 (mn ah bh)], .int .i64 0]) ∧ Gr w w' := by
  have hm1 : (if al < bl then bl else al) = mx al bl := rfl
  have hm2 : (if bh < ah then bh else ah) = mn ah bh := rfl
  go_enter Tryd.func33, Tryd.ntmps33
  go_wp2_with (first | (go_at_call 48; with_reducible refine (rboth_any _ _ _ _ _).mono ?_; rintro e w' ⟨rfl, hb⟩; have hz := hb.le; obtain ⟨hc, hf⟩ := hb.cells; (try simp only [World.size_alloc] at hc hf hz); (try simp only [World.size_setCell] at hc hf hz); (try simp only [World.size_drew] at hc hf hz)))
  exact bodyPost_ret (v := .tuple #[.agg #[.int .i64 (mx al bl), .int .i64 (mn ah bh)], .int .i64 0]) (by simp [results, Tryd.results33, go_sem, *]) rfl ⟨rfl, (by repeat (first | exact Gr.refl _ | refine Gr.alloc ?_ _ | refine Gr.drew ?_ | refine Gr.trans ?_ (by assumption) | refine Gr.setCell ?_ (by (try simp); (try omega)) _))⟩
set_option maxHeartbeats 1000000 in
theorem rcmp_ok (al ah bl bh : Int) (w : World) (h12 : (validS al ah && validS bl bh) = true) :
    Calls Tryd.prog 34 #[.agg #[.int .i64 al, .int .i64 ah], .agg #[.int .i64 bl, .int .i64 bh]] w fun e w' => e = .returned (.tuple #[.int .i64 (cmpI al ah bl bh), .int .i64 0]) ∧ Gr w w' := by
  go_enter Tryd.func34, Tryd.ntmps34
  go_wp2_with (go_at_call 48; with_reducible refine (rboth_any _ _ _ _ _).mono ?_; rintro e w' ⟨rfl, hb⟩; have hz := hb.le; obtain ⟨hc, hf⟩ := hb.cells; (try simp only [World.size_alloc] at hc hf hz); (try simp only [World.size_setCell] at hc hf hz); (try simp only [World.size_drew] at hc hf hz))
  all_goals go_ret2
  · exact ⟨ret_pair (by rw [cmpI, if_pos (by assumption)]) rfl, (by repeat (first | exact Gr.refl _ | refine Gr.alloc ?_ _ | refine Gr.drew ?_ | refine Gr.trans ?_ (by assumption) | refine Gr.setCell ?_ (by (try simp); (try omega)) _))⟩
  · exact ⟨ret_pair (by rw [cmpI, if_neg (by omega), if_pos (by assumption)]) rfl, (by repeat (first | exact Gr.refl _ | refine Gr.alloc ?_ _ | refine Gr.drew ?_ | refine Gr.trans ?_ (by assumption) | refine Gr.setCell ?_ (by (try simp); (try omega)) _))⟩
  · exact ⟨ret_pair (by rw [cmpI, if_neg (by omega), if_neg (by omega)]) rfl, (by repeat (first | exact Gr.refl _ | refine Gr.alloc ?_ _ | refine Gr.drew ?_ | refine Gr.trans ?_ (by assumption) | refine Gr.setCell ?_ (by (try simp); (try omega)) _))⟩
set_option maxHeartbeats 1000000 in
theorem rcmp_bad (al ah bl bh : Int) (w : World) (h12 : (validS al ah && validS bl bh) = false) :
    Calls Tryd.prog 34 #[.agg #[.int .i64 al, .int .i64 ah], .agg #[.int .i64 bl, .int .i64 bh]] w fun e w' => e = .returned (.tuple #[.int .i64 0, .int .i64 1]) ∧ Gr w w' := by
  go_enter Tryd.func34, Tryd.ntmps34
  go_wp2_with (go_at_call 48; with_reducible refine (rboth_any _ _ _ _ _).mono ?_; rintro e w' ⟨rfl, hb⟩; have hz := hb.le; obtain ⟨hc, hf⟩ := hb.cells; (try simp only [World.size_alloc] at hc hf hz); (try simp only [World.size_setCell] at hc hf hz); (try simp only [World.size_drew] at hc hf hz))
  go_ret2
  exact ⟨rfl, (by repeat (first | exact Gr.refl _ | refine Gr.alloc ?_ _ | refine Gr.drew ?_ | refine Gr.trans ?_ (by assumption) | refine Gr.setCell ?_ (by (try simp); (try omega)) _))⟩
set_option maxHeartbeats 1000000 in
theorem rwithin_ok (lo hi low high : Int) (w : World) (h1 : validS lo hi = true) (h2 : low ≤ high) :
    Calls Tryd.prog 35 #[.agg #[.int .i64 lo, .int .i64 hi], .int .i64 low, .int .i64 high] w
      fun e w' => e = .returned (.tuple #[.int .i64 (surelyI lo hi low high), .int .i64 0]) ∧ Gr w w' := by
  go_enter Tryd.func35, Tryd.ntmps35
  go_wp2_with (first | (go_at_call 26; with_reducible refine (rvalid_any _ _ _).mono ?_; rintro e w' ⟨rfl, hb⟩; have hz := hb.le; obtain ⟨hc, hf⟩ := hb.cells; (try simp only [World.size_alloc] at hc hf hz); (try simp only [World.size_setCell] at hc hf hz); (try simp only [World.size_drew] at hc hf hz)) | (go_at_call 51; with_reducible refine (rsurely_any _ _ _ _ _).mono ?_; rintro e w' ⟨rfl, hb⟩; have hz := hb.le; obtain ⟨hc, hf⟩ := hb.cells; (try simp only [World.size_alloc] at hc hf hz); (try simp only [World.size_setCell] at hc hf hz); (try simp only [World.size_drew] at hc hf hz)))
  go_ret2
  exact ⟨rfl, (by repeat (first | exact Gr.refl _ | refine Gr.alloc ?_ _ | refine Gr.drew ?_ | refine Gr.trans ?_ (by assumption) | refine Gr.setCell ?_ (by (try simp); (try omega)) _))⟩
set_option maxHeartbeats 1000000 in
theorem rwithin_bad1 (lo hi low high : Int) (w : World) (h1 : validS lo hi = false) :
    Calls Tryd.prog 35 #[.agg #[.int .i64 lo, .int .i64 hi], .int .i64 low, .int .i64 high] w
      fun e w' => e = .returned (.tuple #[.int .i64 0, .int .i64 1]) ∧ Gr w w' := by
  go_enter Tryd.func35, Tryd.ntmps35
  go_wp2_with (first | (go_at_call 26; with_reducible refine (rvalid_any _ _ _).mono ?_; rintro e w' ⟨rfl, hb⟩; have hz := hb.le; obtain ⟨hc, hf⟩ := hb.cells; (try simp only [World.size_alloc] at hc hf hz); (try simp only [World.size_setCell] at hc hf hz); (try simp only [World.size_drew] at hc hf hz)) | (go_at_call 51; with_reducible refine (rsurely_any _ _ _ _ _).mono ?_; rintro e w' ⟨rfl, hb⟩; have hz := hb.le; obtain ⟨hc, hf⟩ := hb.cells; (try simp only [World.size_alloc] at hc hf hz); (try simp only [World.size_setCell] at hc hf hz); (try simp only [World.size_drew] at hc hf hz)))
  go_ret2
  exact ⟨rfl, (by repeat (first | exact Gr.refl _ | refine Gr.alloc ?_ _ | refine Gr.drew ?_ | refine Gr.trans ?_ (by assumption) | refine Gr.setCell ?_ (by (try simp); (try omega)) _))⟩
set_option maxHeartbeats 1000000 in
theorem rwithin_bad2 (lo hi low high : Int) (w : World) (h1 : validS lo hi = true) (h2 : high < low) :
    Calls Tryd.prog 35 #[.agg #[.int .i64 lo, .int .i64 hi], .int .i64 low, .int .i64 high] w
      fun e w' => e = .returned (.tuple #[.int .i64 0, .int .i64 1]) ∧ Gr w w' := by
  go_enter Tryd.func35, Tryd.ntmps35
  go_wp2_with (first | (go_at_call 26; with_reducible refine (rvalid_any _ _ _).mono ?_; rintro e w' ⟨rfl, hb⟩; have hz := hb.le; obtain ⟨hc, hf⟩ := hb.cells; (try simp only [World.size_alloc] at hc hf hz); (try simp only [World.size_setCell] at hc hf hz); (try simp only [World.size_drew] at hc hf hz)) | (go_at_call 51; with_reducible refine (rsurely_any _ _ _ _ _).mono ?_; rintro e w' ⟨rfl, hb⟩; have hz := hb.le; obtain ⟨hc, hf⟩ := hb.cells; (try simp only [World.size_alloc] at hc hf hz); (try simp only [World.size_setCell] at hc hf hz); (try simp only [World.size_drew] at hc hf hz)))
  go_ret2
  exact ⟨rfl, (by repeat (first | exact Gr.refl _ | refine Gr.alloc ?_ _ | refine Gr.drew ?_ | refine Gr.trans ?_ (by assumption) | refine Gr.setCell ?_ (by (try simp); (try omega)) _))⟩

set_option maxRecDepth 100000 in
set_option maxHeartbeats 1000000 in
theorem rfits0 (n : Int) (w : World) : Calls Tryd.prog 50 #[.int .i64 0, .int .i64 n] w fun e w' => e = .returned (.bool true) ∧ Gr w w' := by
  go_enter Tryd.func50, Tryd.ntmps50
  go_wp2
  go_ret
  exact ⟨rfl, (by repeat (first | exact Gr.refl _ | refine Gr.alloc ?_ _ | refine Gr.drew ?_ | refine Gr.trans ?_ (by assumption) | refine Gr.setCell ?_ (by (try simp); (try omega)) _))⟩
set_option maxRecDepth 100000 in
set_option maxHeartbeats 1000000 in
theorem rfits1 (x n : Int) (w : World) (u1 : -100000000000000 ≤ x) (u2 : x ≤ 100000000000000) (e1 : (x == 0) = false) (g1 : x ≠ 0) :
    Calls Tryd.prog 50 #[.int .i64 x, .int .i64 n] w fun e w' => e = .returned (.bool (decide (-mq x ≤ n) && decide (n ≤ mq x))) ∧ Gr w w' := by
  have q1 : 100000000000000 / mx x (-x) = mq x := rfl
  have r1 : (if x < -x then -x else x) = mx x (-x) := rfl
  have a1 := mx_abs g1
  have b1 := mx_bd (x := x) (by omega) (by omega)
  obtain ⟨k1, j1⟩ := mq_bd (x := x) g1 (by omega) (by omega)
  clear g1
  go_enter Tryd.func50, Tryd.ntmps50
  go_wp2
  all_goals go_ret
  all_goals exact ⟨ret_bool (by first | rfl | (simp; omega) | (simp [*]; done)), (by repeat (first | exact Gr.refl _ | refine Gr.alloc ?_ _ | refine Gr.drew ?_ | refine Gr.trans ?_ (by assumption) | refine Gr.setCell ?_ (by (try simp); (try omega)) _))⟩
theorem rfits_any (x n : Int) (w : World) (u1 : -100000000000000 ≤ x) (u2 : x ≤ 100000000000000) :
    Calls Tryd.prog 50 #[.int .i64 x, .int .i64 n] w fun e w' => e = .returned (.bool (fits x n)) ∧ Gr w w' := by
  by_cases h : x = 0
  · subst h
    have e : fits 0 n = true := by simp [fits]
    rw [e]; exact rfits0 n w
  · have e : fits x n = (decide (-mq x ≤ n) && decide (n ≤ mq x)) := by simp [fits, h]
    rw [e]; exact rfits1 x n w u1 u2 (by simpa using h) h

set_option maxRecDepth 100000 in
set_option maxHeartbeats 1000000 in
theorem rtimes_bad (lo hi n : Int) (w : World) (h1 : validS lo hi = false) :
    Calls Tryd.prog 32 #[.agg #[.int .i64 lo, .int .i64 hi], .int .i64 n] w fun e w' => e = .returned (.tuple #[.agg #[.int .i64 0, .int .i64 0], .int .i64 1]) ∧ Gr w w' := by
  go_enter Tryd.func32, Tryd.ntmps32
  go_wp2_with (go_at_call 26; with_reducible refine (rvalid_any _ _ _).mono ?_; rintro e w' ⟨rfl, hb⟩; have hz := hb.le; obtain ⟨hc, hf⟩ := hb.cells; (try simp only [World.size_alloc] at hc hf hz); (try simp only [World.size_setCell] at hc hf hz); (try simp only [World.size_drew] at hc hf hz))
  exact bodyPost_ret (v := .tuple #[.agg #[.int .i64 0, .int .i64 0], .int .i64 1]) (by simp [results, Tryd.results32, go_sem, *]) rfl ⟨rfl, (by repeat (first | exact Gr.refl _ | refine Gr.alloc ?_ _ | refine Gr.drew ?_ | refine Gr.trans ?_ (by assumption) | refine Gr.setCell ?_ (by (try simp); (try omega)) _))⟩
set_option maxRecDepth 100000 in
set_option maxHeartbeats 1000000 in
theorem rtimes_out1 (lo hi n : Int) (w : World) (h1 : validS lo hi = true) (f1 : fits lo n = false) :
    Calls Tryd.prog 32 #[.agg #[.int .i64 lo, .int .i64 hi], .int .i64 n] w fun e w' => e = .returned (.tuple #[.agg #[.int .i64 0, .int .i64 0], .int .i64 3]) ∧ Gr w w' := by
  obtain ⟨v1, v2, v3⟩ := validS_true h1
  go_enter Tryd.func32, Tryd.ntmps32
  go_wp2_with (first | (go_at_call 26; with_reducible refine (rvalid_any _ _ _).mono ?_; rintro e w' ⟨rfl, hb⟩; have hz := hb.le; obtain ⟨hc, hf⟩ := hb.cells; (try simp only [World.size_alloc] at hc hf hz); (try simp only [World.size_setCell] at hc hf hz); (try simp only [World.size_drew] at hc hf hz)) | (go_at_call 50; with_reducible refine (rfits_any _ _ _ (by omega) (by omega)).mono ?_; rintro e w' ⟨rfl, hb⟩; have hz := hb.le; obtain ⟨hc, hf⟩ := hb.cells; (try simp only [World.size_alloc] at hc hf hz); (try simp only [World.size_setCell] at hc hf hz); (try simp only [World.size_drew] at hc hf hz)))
  exact bodyPost_ret (v := .tuple #[.agg #[.int .i64 0, .int .i64 0], .int .i64 3]) (by simp [results, Tryd.results32, go_sem, *]) rfl ⟨rfl, (by repeat (first | exact Gr.refl _ | refine Gr.alloc ?_ _ | refine Gr.drew ?_ | refine Gr.trans ?_ (by assumption) | refine Gr.setCell ?_ (by (try simp); (try omega)) _))⟩
set_option maxRecDepth 100000 in
set_option maxHeartbeats 1000000 in
theorem rtimes_out2 (lo hi n : Int) (w : World) (h1 : validS lo hi = true) (f1 : fits lo n = true) (f2 : fits hi n = false) :
    Calls Tryd.prog 32 #[.agg #[.int .i64 lo, .int .i64 hi], .int .i64 n] w fun e w' => e = .returned (.tuple #[.agg #[.int .i64 0, .int .i64 0], .int .i64 3]) ∧ Gr w w' := by
  obtain ⟨v1, v2, v3⟩ := validS_true h1
  go_enter Tryd.func32, Tryd.ntmps32
  go_wp2_with (first | (go_at_call 26; with_reducible refine (rvalid_any _ _ _).mono ?_; rintro e w' ⟨rfl, hb⟩; have hz := hb.le; obtain ⟨hc, hf⟩ := hb.cells; (try simp only [World.size_alloc] at hc hf hz); (try simp only [World.size_setCell] at hc hf hz); (try simp only [World.size_drew] at hc hf hz)) | (go_at_call 50; with_reducible refine (rfits_any _ _ _ (by omega) (by omega)).mono ?_; rintro e w' ⟨rfl, hb⟩; have hz := hb.le; obtain ⟨hc, hf⟩ := hb.cells; (try simp only [World.size_alloc] at hc hf hz); (try simp only [World.size_setCell] at hc hf hz); (try simp only [World.size_drew] at hc hf hz)))
  exact bodyPost_ret (v := .tuple #[.agg #[.int .i64 0, .int .i64 0], .int .i64 3]) (by simp [results, Tryd.results32, go_sem, *]) rfl ⟨rfl, (by repeat (first | exact Gr.refl _ | refine Gr.alloc ?_ _ | refine Gr.drew ?_ | refine Gr.trans ?_ (by assumption) | refine Gr.setCell ?_ (by (try simp); (try omega)) _))⟩
theorem mn_mx_times (lo hi n : Int) (h : lo ≤ hi) : mn (n * lo) (n * hi) = timesLo lo hi n ∧ mx (n * lo) (n * hi) = timesHi lo hi n := by
  unfold mn mx timesLo timesHi
  by_cases hn : n < 0
  · have := Int.mul_le_mul_of_nonpos_left (a := n) (by omega) h
    rw [if_pos hn, if_pos hn]
    constructor <;> split <;> omega
  · have := Int.mul_le_mul_of_nonneg_left h (show 0 ≤ n by omega)
    rw [if_neg hn, if_neg hn]
    constructor <;> split <;> omega
set_option maxRecDepth 100000 in
set_option maxHeartbeats 1000000 in
theorem rtimes_ok (lo hi n : Int) (w : World) (h1 : validS lo hi = true) (f1 : fits lo n = true) (f2 : fits hi n = true) :
    Calls Tryd.prog 32 #[.agg #[.int .i64 lo, .int .i64 hi], .int .i64 n] w fun e w' => e = .returned (.tuple #[.agg #[.int .i64 (timesLo lo hi n), .int .i64 (timesHi lo hi n)], .int .i64 0]) ∧ Gr w w' := by
  obtain ⟨v1, v2, v3⟩ := validS_true h1
  obtain ⟨t1, t2⟩ := mn_mx_times lo hi n v2
  rw [← t1, ← t2]
  have m1 := mul_in f1
  have m2 := mul_in f2
  have u1 : lo ≤ 100000000000000 := by omega
  have u2 : -100000000000000 ≤ hi := by omega
  clear t1 t2 v2
  have hm1 : (if n * hi < n * lo then n * hi else n * lo) = mn (n * lo) (n * hi) := rfl
  have hm2 : (if n * lo < n * hi then n * hi else n * lo) = mx (n * lo) (n * hi) := rfl
  go_enter Tryd.func32, Tryd.ntmps32
  go_wp2_with (first | (go_at_call 26; with_reducible refine (rvalid_any _ _ _).mono ?_; rintro e w' ⟨rfl, hb⟩; have hz := hb.le; obtain ⟨hc, hf⟩ := hb.cells; (try simp only [World.size_alloc] at hc hf hz); (try simp only [World.size_setCell] at hc hf hz); (try simp only [World.size_drew] at hc hf hz)) | (go_at_call 50; with_reducible refine (rfits_any _ _ _ (by omega) (by omega)).mono ?_; rintro e w' ⟨rfl, hb⟩; have hz := hb.le; obtain ⟨hc, hf⟩ := hb.cells; (try simp only [World.size_alloc] at hc hf hz); (try simp only [World.size_setCell] at hc hf hz); (try simp only [World.size_drew] at hc hf hz)))
  exact bodyPost_ret (v := .tuple #[.agg #[.int .i64 (mn (n * lo) (n * hi)), .int .i64 (mx (n * lo) (n * hi))], .int .i64 0]) (by simp [results, Tryd.results32, go_sem, *]) rfl ⟨rfl, (by repeat (first | exact Gr.refl _ | refine Gr.alloc ?_ _ | refine Gr.drew ?_ | refine Gr.trans ?_ (by assumption) | refine Gr.setCell ?_ (by (try simp); (try omega)) _))⟩
end Go.Proofs.YtmealmnjeoehiaaDoor
