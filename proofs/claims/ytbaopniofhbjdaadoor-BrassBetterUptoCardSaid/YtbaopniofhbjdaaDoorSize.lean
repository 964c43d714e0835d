import Derived.Test.YtbaopniofhbjdaaDoorPitch
namespace Go.Proofs.YtbaopniofhbjdaaDoor
open Go.RowKit

/-- A size is valid. -/
def validS (lo hi : Int) : Bool := decide (-100000000000000 ≤ lo) && (decide (lo ≤ hi) && decide (hi ≤ 100000000000000))
theorem validS_true {lo hi : Int} (h : validS lo hi = true) : -100000000000000 ≤ lo ∧ lo ≤ hi ∧ hi ≤ 100000000000000 := by
  simpa [validS] using h
theorem validS_mk {lo hi : Int} (h : -100000000000000 ≤ lo ∧ lo ≤ hi ∧ hi ≤ 100000000000000) : validS lo hi = true := by
  simpa [validS] using h
theorem validS_no {lo hi : Int} (h : ¬ (-100000000000000 ≤ lo ∧ lo ≤ hi ∧ hi ≤ 100000000000000)) : validS lo hi = false := by
  rw [← Bool.not_eq_true]; exact fun h' => h (validS_true h')

set_option maxHeartbeats 400000 in
theorem valid_any (lo hi : Int) (w : World) :
    Calls Tryd.prog 34 #[.agg #[.int .i64 lo, .int .i64 hi]] w fun e w' => e = .returned (.bool (validS lo hi)) ∧ Gr w w' := by
  go_enter Tryd.func34, Tryd.ntmps34
  go_wp2
  all_goals go_ret
  · exact ⟨ret_bool (by have : -100000000000000 ≤ lo := by assumption
                        have : lo ≤ hi := by assumption
                        simp [validS, *]), (by repeat (first | exact Gr.refl _ | refine Gr.alloc ?_ _ | refine Gr.drew ?_ | refine Gr.trans ?_ (by assumption) | refine Gr.setCell ?_ (by (try simp); (try omega)) _))⟩
  · exact ⟨ret_bool (by rw [validS_no (by omega)]), (by repeat (first | exact Gr.refl _ | refine Gr.alloc ?_ _ | refine Gr.drew ?_ | refine Gr.trans ?_ (by assumption) | refine Gr.setCell ?_ (by (try simp); (try omega)) _))⟩
  · exact ⟨ret_bool (by rw [validS_no (by omega)]), (by repeat (first | exact Gr.refl _ | refine Gr.alloc ?_ _ | refine Gr.drew ?_ | refine Gr.trans ?_ (by assumption) | refine Gr.setCell ?_ (by (try simp); (try omega)) _))⟩

/-- How two sizes lie to each other. -/
def cmpI (al ah bl bh : Int) : Int := if ah < bl then -1 else if bh < al then 1 else 0

theorem ret_pair {k k' : IntKind} {a a' b b' : Int} (h : a = a') (h' : b = b') : Ending.returned (.tuple #[.int k a, .int k' b]) = .returned (.tuple #[.int k a', .int k' b']) := by rw [h, h']

set_option maxHeartbeats 400000 in
theorem cmp_ok (al ah bl bh : Int) (w : World) (h1 : validS al ah = true) (h2 : validS bl bh = true) :
    Calls Tryd.prog 48 #[.agg #[.int .i64 al, .int .i64 ah], .agg #[.int .i64 bl, .int .i64 bh]] w
      fun e w' => e = .returned (.tuple #[.int .i64 (cmpI al ah bl bh), .int .i64 0]) ∧ Gr w w' := by
  go_enter Tryd.func48, Tryd.ntmps48
  go_wp2_with (go_at_call 34; with_reducible refine (valid_any _ _ _).mono ?_; rintro e w' ⟨rfl, hb⟩; have hz := hb.le; obtain ⟨hc, hf⟩ := hb.cells; (try simp only [World.size_alloc] at hc hf hz); (try simp only [World.size_setCell] at hc hf hz); (try simp only [World.size_drew] at hc hf hz))
  all_goals go_ret2
  · exact ⟨ret_pair (by rw [cmpI, if_pos (by assumption)]) rfl, (by repeat (first | exact Gr.refl _ | refine Gr.alloc ?_ _ | refine Gr.drew ?_ | refine Gr.trans ?_ (by assumption) | refine Gr.setCell ?_ (by (try simp); (try omega)) _))⟩
  · exact ⟨ret_pair (by rw [cmpI, if_neg (by omega), if_pos (by assumption)]) rfl, (by repeat (first | exact Gr.refl _ | refine Gr.alloc ?_ _ | refine Gr.drew ?_ | refine Gr.trans ?_ (by assumption) | refine Gr.setCell ?_ (by (try simp); (try omega)) _))⟩
  · exact ⟨ret_pair (by rw [cmpI, if_neg (by omega), if_neg (by omega)]) rfl, (by repeat (first | exact Gr.refl _ | refine Gr.alloc ?_ _ | refine Gr.drew ?_ | refine Gr.trans ?_ (by assumption) | refine Gr.setCell ?_ (by (try simp); (try omega)) _))⟩

/-- The greater, and the lesser, of two numbers, as Go's built-ins compute them. -/
def mx (a b : Int) : Int := if a < b then b else a
def mn (a b : Int) : Int := if b < a then b else a

set_option maxHeartbeats 400000 in
theorem meet_none (al ah bl bh : Int) (w : World) (h1 : validS al ah = true) (h2 : validS bl bh = true) (h : mn ah bh < mx al bl) :
    Calls Tryd.prog 46 #[.agg #[.int .i64 al, .int .i64 ah], .agg #[.int .i64 bl, .int .i64 bh]] w
      fun e w' => e = .returned (.tuple #[.agg #[.int .i64 0, .int .i64 0], .int .i64 4]) ∧ Gr w w' := by
  have hm1 : (if al < bl then bl else al) = mx al bl := rfl
  have hm2 : (if bh < ah then bh else ah) = mn ah bh := rfl
  go_enter Tryd.func46, Tryd.ntmps46
  go_wp2_with (go_at_call 34; with_reducible refine (valid_any _ _ _).mono ?_; rintro e w' ⟨rfl, hb⟩; have hz := hb.le; obtain ⟨hc, hf⟩ := hb.cells; (try simp only [World.size_alloc] at hc hf hz); (try simp only [World.size_setCell] at hc hf hz); (try simp only [World.size_drew] at hc hf hz))
  exact bodyPost_ret (v := .tuple #[.agg #[.int .i64 0, .int .i64 0], .int .i64 4]) (by simp [results, Tryd.results46, go_sem, *]) rfl ⟨rfl, (by repeat (first | exact Gr.refl _ | refine Gr.alloc ?_ _ | refine Gr.drew ?_ | refine Gr.trans ?_ (by assumption) | refine Gr.setCell ?_ (by (try simp); (try omega)) _))⟩
set_option maxHeartbeats 400000 in
theorem meet_some (al ah bl bh : Int) (w : World) (h1 : validS al ah = true) (h2 : validS bl bh = true) (h : mx al bl ≤ mn ah bh) :
    Calls Tryd.prog 46 #[.agg #[.int .i64 al, .int .i64 ah], .agg #[.int .i64 bl, .int .i64 bh]] w
      fun e w' => e = .returned (.tuple #[.agg #[.int .i64 (mx al bl), .int .i64 (mn ah bh)], .int .i64 0]) ∧ Gr w w' := by
  have hm1 : (if al < bl then bl else al) = mx al bl := rfl
  have hm2 : (if bh < ah then bh else ah) = mn ah bh := rfl
  go_enter Tryd.func46, Tryd.ntmps46
  go_wp2_with (go_at_call 34; with_reducible refine (valid_any _ _ _).mono ?_; rintro e w' ⟨rfl, hb⟩; have hz := hb.le; obtain ⟨hc, hf⟩ := hb.cells; (try simp only [World.size_alloc] at hc hf hz); (try simp only [World.size_setCell] at hc hf hz); (try simp only [World.size_drew] at hc hf hz))
  exact bodyPost_ret (v := .tuple #[.agg #[.int .i64 (mx al bl), .int .i64 (mn ah bh)], .int .i64 0]) (by simp [results, Tryd.results46, go_sem, *]) rfl ⟨rfl, (by repeat (first | exact Gr.refl _ | refine Gr.alloc ?_ _ | refine Gr.drew ?_ | refine Gr.trans ?_ (by assumption) | refine Gr.setCell ?_ (by (try simp); (try omega)) _))⟩
/-- Whether a size is surely within a range. -/
def surelyI (lo hi low high : Int) : Int := if low ≤ lo ∧ hi ≤ high then 1 else if hi < low ∨ high < lo then -1 else 0
theorem surely_any (lo hi low high : Int) (w : World) :
    Calls Tryd.prog 67 #[.agg #[.int .i64 lo, .int .i64 hi], .int .i64 low, .int .i64 high] w
      fun e w' => e = .returned (.int .i64 (surelyI lo hi low high)) ∧ Gr w w' := by
  go_enter Tryd.func67, Tryd.ntmps67
  go_wp2
  all_goals go_ret
  all_goals refine ⟨ret_int ?_, (by repeat (first | exact Gr.refl _ | refine Gr.alloc ?_ _ | refine Gr.drew ?_ | refine Gr.trans ?_ (by assumption) | refine Gr.setCell ?_ (by (try simp); (try omega)) _))⟩
  all_goals first | (rw [surelyI, if_pos (by omega)]; done) | (rw [surelyI, if_neg (by omega), if_pos (by omega)]; done) | (rw [surelyI, if_neg (by omega), if_neg (by omega)]; done)
theorem plus_any (al ah bl bh : Int) (w : World) (h1 : validS al ah = true) (h2 : validS bl bh = true) :
    Calls Tryd.prog 74 #[.agg #[.int .i64 al, .int .i64 ah], .agg #[.int .i64 bl, .int .i64 bh]] w
      fun e w' => e = .returned (.agg #[.int .i64 (al + bl), .int .i64 (ah + bh)]) ∧ Gr w w' := by
  obtain ⟨a1, a2, a3⟩ := validS_true h1
  obtain ⟨b1, b2, b3⟩ := validS_true h2
  go_enter Tryd.func74, Tryd.ntmps74
  go_wp2
  exact bodyPost_ret (v := .agg #[.int .i64 (al + bl), .int .i64 (ah + bh)]) (by simp [results, Tryd.results74, go_sem, *]) rfl ⟨rfl, (by repeat (first | exact Gr.refl _ | refine Gr.alloc ?_ _ | refine Gr.drew ?_ | refine Gr.trans ?_ (by assumption) | refine Gr.setCell ?_ (by (try simp); (try omega)) _))⟩
theorem minus_any (al ah bl bh : Int) (w : World) (h1 : validS al ah = true) (h2 : validS bl bh = true) :
    Calls Tryd.prog 77 #[.agg #[.int .i64 al, .int .i64 ah], .agg #[.int .i64 bl, .int .i64 bh]] w
      fun e w' => e = .returned (.agg #[.int .i64 (al - bh), .int .i64 (ah - bl)]) ∧ Gr w w' := by
  obtain ⟨a1, a2, a3⟩ := validS_true h1
  obtain ⟨b1, b2, b3⟩ := validS_true h2
  go_enter Tryd.func77, Tryd.ntmps77
  go_wp2
  exact bodyPost_ret (v := .agg #[.int .i64 (al - bh), .int .i64 (ah - bl)]) (by simp [results, Tryd.results77, go_sem, *]) rfl ⟨rfl, (by repeat (first | exact Gr.refl _ | refine Gr.alloc ?_ _ | refine Gr.drew ?_ | refine Gr.trans ?_ (by assumption) | refine Gr.setCell ?_ (by (try simp); (try omega)) _))⟩
set_option maxHeartbeats 400000 in
theorem combine_plus (al ah bl bh : Int) (w : World) (h1 : validS al ah = true) (h2 : validS bl bh = true) (h : validS (al + bl) (ah + bh) = true) :
    Calls Tryd.prog 73 #[.func (.func 74) #[] #[], .agg #[.int .i64 al, .int .i64 ah], .agg #[.int .i64 bl, .int .i64 bh]] w
      fun e w' => e = .returned (.tuple #[.agg #[.int .i64 (al + bl), .int .i64 (ah + bh)], .int .i64 0]) ∧ Gr w w' := by
  go_enter Tryd.func73, Tryd.ntmps73
  go_wp2_with (first | (go_at_call 34; with_reducible refine (valid_any _ _ _).mono ?_; rintro e w' ⟨rfl, hb⟩; have hz := hb.le; obtain ⟨hc, hf⟩ := hb.cells; (try simp only [World.size_alloc] at hc hf hz); (try simp only [World.size_setCell] at hc hf hz); (try simp only [World.size_drew] at hc hf hz)) | (go_at_call 74; with_reducible refine (plus_any _ _ _ _ _ h1 h2).mono ?_; rintro e w' ⟨rfl, hb⟩; have hz := hb.le; obtain ⟨hc, hf⟩ := hb.cells; (try simp only [World.size_alloc] at hc hf hz); (try simp only [World.size_setCell] at hc hf hz); (try simp only [World.size_drew] at hc hf hz)))
  exact bodyPost_ret (v := .tuple #[.agg #[.int .i64 (al + bl), .int .i64 (ah + bh)], .int .i64 0]) (by simp [results, Tryd.results73, go_sem, *]) rfl ⟨rfl, (by repeat (first | exact Gr.refl _ | refine Gr.alloc ?_ _ | refine Gr.drew ?_ | refine Gr.trans ?_ (by assumption) | refine Gr.setCell ?_ (by (try simp); (try omega)) _))⟩
set_option maxHeartbeats 400000 in
theorem combine_plus_out (al ah bl bh : Int) (w : World) (h1 : validS al ah = true) (h2 : validS bl bh = true) (h : validS (al + bl) (ah + bh) = false) :
    Calls Tryd.prog 73 #[.func (.func 74) #[] #[], .agg #[.int .i64 al, .int .i64 ah], .agg #[.int .i64 bl, .int .i64 bh]] w
      fun e w' => e = .returned (.tuple #[.agg #[.int .i64 0, .int .i64 0], .int .i64 3]) ∧ Gr w w' := by
  go_enter Tryd.func73, Tryd.ntmps73
  go_wp2_with (first | (go_at_call 34; with_reducible refine (valid_any _ _ _).mono ?_; rintro e w' ⟨rfl, hb⟩; have hz := hb.le; obtain ⟨hc, hf⟩ := hb.cells; (try simp only [World.size_alloc] at hc hf hz); (try simp only [World.size_setCell] at hc hf hz); (try simp only [World.size_drew] at hc hf hz)) | (go_at_call 74; with_reducible refine (plus_any _ _ _ _ _ h1 h2).mono ?_; rintro e w' ⟨rfl, hb⟩; have hz := hb.le; obtain ⟨hc, hf⟩ := hb.cells; (try simp only [World.size_alloc] at hc hf hz); (try simp only [World.size_setCell] at hc hf hz); (try simp only [World.size_drew] at hc hf hz)))
  exact bodyPost_ret (v := .tuple #[.agg #[.int .i64 0, .int .i64 0], .int .i64 3]) (by simp [results, Tryd.results73, go_sem, *]) rfl ⟨rfl, (by repeat (first | exact Gr.refl _ | refine Gr.alloc ?_ _ | refine Gr.drew ?_ | refine Gr.trans ?_ (by assumption) | refine Gr.setCell ?_ (by (try simp); (try omega)) _))⟩
set_option maxHeartbeats 400000 in
theorem add_ok (al ah bl bh : Int) (w : World) (h1 : validS al ah = true) (h2 : validS bl bh = true) (h : validS (al + bl) (ah + bh) = true) :
    Calls Tryd.prog 40 #[.agg #[.int .i64 al, .int .i64 ah], .agg #[.int .i64 bl, .int .i64 bh]] w
      fun e w' => e = .returned (.tuple #[.agg #[.int .i64 (al + bl), .int .i64 (ah + bh)], .int .i64 0]) ∧ Gr w w' := by
  go_enter Tryd.func40, Tryd.ntmps40
  go_wp2_with (go_at_call 73; with_reducible refine (combine_plus _ _ _ _ _ h1 h2 h).mono ?_; rintro e w' ⟨rfl, hb⟩; have hz := hb.le; obtain ⟨hc, hf⟩ := hb.cells; (try simp only [World.size_alloc] at hc hf hz); (try simp only [World.size_setCell] at hc hf hz); (try simp only [World.size_drew] at hc hf hz))
  exact bodyPost_ret (v := .tuple #[.agg #[.int .i64 (al + bl), .int .i64 (ah + bh)], .int .i64 0]) (by simp [results, Tryd.results40, go_sem, *]) rfl ⟨rfl, (by repeat (first | exact Gr.refl _ | refine Gr.alloc ?_ _ | refine Gr.drew ?_ | refine Gr.trans ?_ (by assumption) | refine Gr.setCell ?_ (by (try simp); (try omega)) _))⟩
set_option maxHeartbeats 400000 in
theorem combine_minus (al ah bl bh : Int) (w : World) (h1 : validS al ah = true) (h2 : validS bl bh = true) (h : validS (al - bh) (ah - bl) = true) :
    Calls Tryd.prog 73 #[.func (.func 77) #[] #[], .agg #[.int .i64 al, .int .i64 ah], .agg #[.int .i64 bl, .int .i64 bh]] w
      fun e w' => e = .returned (.tuple #[.agg #[.int .i64 (al - bh), .int .i64 (ah - bl)], .int .i64 0]) ∧ Gr w w' := by
  go_enter Tryd.func73, Tryd.ntmps73
  go_wp2_with (first | (go_at_call 34; with_reducible refine (valid_any _ _ _).mono ?_; rintro e w' ⟨rfl, hb⟩; have hz := hb.le; obtain ⟨hc, hf⟩ := hb.cells; (try simp only [World.size_alloc] at hc hf hz); (try simp only [World.size_setCell] at hc hf hz); (try simp only [World.size_drew] at hc hf hz)) | (go_at_call 77; with_reducible refine (minus_any _ _ _ _ _ h1 h2).mono ?_; rintro e w' ⟨rfl, hb⟩; have hz := hb.le; obtain ⟨hc, hf⟩ := hb.cells; (try simp only [World.size_alloc] at hc hf hz); (try simp only [World.size_setCell] at hc hf hz); (try simp only [World.size_drew] at hc hf hz)))
  exact bodyPost_ret (v := .tuple #[.agg #[.int .i64 (al - bh), .int .i64 (ah - bl)], .int .i64 0]) (by simp [results, Tryd.results73, go_sem, *]) rfl ⟨rfl, (by repeat (first | exact Gr.refl _ | refine Gr.alloc ?_ _ | refine Gr.drew ?_ | refine Gr.trans ?_ (by assumption) | refine Gr.setCell ?_ (by (try simp); (try omega)) _))⟩
set_option maxHeartbeats 400000 in
theorem combine_minus_out (al ah bl bh : Int) (w : World) (h1 : validS al ah = true) (h2 : validS bl bh = true) (h : validS (al - bh) (ah - bl) = false) :
    Calls Tryd.prog 73 #[.func (.func 77) #[] #[], .agg #[.int .i64 al, .int .i64 ah], .agg #[.int .i64 bl, .int .i64 bh]] w
      fun e w' => e = .returned (.tuple #[.agg #[.int .i64 0, .int .i64 0], .int .i64 3]) ∧ Gr w w' := by
  go_enter Tryd.func73, Tryd.ntmps73
  go_wp2_with (first | (go_at_call 34; with_reducible refine (valid_any _ _ _).mono ?_; rintro e w' ⟨rfl, hb⟩; have hz := hb.le; obtain ⟨hc, hf⟩ := hb.cells; (try simp only [World.size_alloc] at hc hf hz); (try simp only [World.size_setCell] at hc hf hz); (try simp only [World.size_drew] at hc hf hz)) | (go_at_call 77; with_reducible refine (minus_any _ _ _ _ _ h1 h2).mono ?_; rintro e w' ⟨rfl, hb⟩; have hz := hb.le; obtain ⟨hc, hf⟩ := hb.cells; (try simp only [World.size_alloc] at hc hf hz); (try simp only [World.size_setCell] at hc hf hz); (try simp only [World.size_drew] at hc hf hz)))
  exact bodyPost_ret (v := .tuple #[.agg #[.int .i64 0, .int .i64 0], .int .i64 3]) (by simp [results, Tryd.results73, go_sem, *]) rfl ⟨rfl, (by repeat (first | exact Gr.refl _ | refine Gr.alloc ?_ _ | refine Gr.drew ?_ | refine Gr.trans ?_ (by assumption) | refine Gr.setCell ?_ (by (try simp); (try omega)) _))⟩
set_option maxHeartbeats 400000 in
theorem sub_ok (al ah bl bh : Int) (w : World) (h1 : validS al ah = true) (h2 : validS bl bh = true) (h : validS (al - bh) (ah - bl) = true) :
    Calls Tryd.prog 42 #[.agg #[.int .i64 al, .int .i64 ah], .agg #[.int .i64 bl, .int .i64 bh]] w
      fun e w' => e = .returned (.tuple #[.agg #[.int .i64 (al - bh), .int .i64 (ah - bl)], .int .i64 0]) ∧ Gr w w' := by
  go_enter Tryd.func42, Tryd.ntmps42
  go_wp2_with (go_at_call 73; with_reducible refine (combine_minus _ _ _ _ _ h1 h2 h).mono ?_; rintro e w' ⟨rfl, hb⟩; have hz := hb.le; obtain ⟨hc, hf⟩ := hb.cells; (try simp only [World.size_alloc] at hc hf hz); (try simp only [World.size_setCell] at hc hf hz); (try simp only [World.size_drew] at hc hf hz))
  exact bodyPost_ret (v := .tuple #[.agg #[.int .i64 (al - bh), .int .i64 (ah - bl)], .int .i64 0]) (by simp [results, Tryd.results42, go_sem, *]) rfl ⟨rfl, (by repeat (first | exact Gr.refl _ | refine Gr.alloc ?_ _ | refine Gr.drew ?_ | refine Gr.trans ?_ (by assumption) | refine Gr.setCell ?_ (by (try simp); (try omega)) _))⟩
set_option maxHeartbeats 400000 in
theorem cmp_bad1 (al ah bl bh : Int) (w : World) (h1 : validS al ah = false) :
    Calls Tryd.prog 48 #[.agg #[.int .i64 al, .int .i64 ah], .agg #[.int .i64 bl, .int .i64 bh]] w
      fun e w' => e = .returned (.tuple #[.int .i64 0, .int .i64 1]) ∧ Gr w w' := by
  go_enter Tryd.func48, Tryd.ntmps48
  go_wp2_with (go_at_call 34; with_reducible refine (valid_any _ _ _).mono ?_; rintro e w' ⟨rfl, hb⟩; have hz := hb.le; obtain ⟨hc, hf⟩ := hb.cells; (try simp only [World.size_alloc] at hc hf hz); (try simp only [World.size_setCell] at hc hf hz); (try simp only [World.size_drew] at hc hf hz))
  exact bodyPost_ret (v := .tuple #[.int .i64 0, .int .i64 1]) (by simp [results, Tryd.results48, go_sem, *]) rfl ⟨rfl, (by repeat (first | exact Gr.refl _ | refine Gr.alloc ?_ _ | refine Gr.drew ?_ | refine Gr.trans ?_ (by assumption) | refine Gr.setCell ?_ (by (try simp); (try omega)) _))⟩
set_option maxHeartbeats 400000 in
theorem cmp_bad2 (al ah bl bh : Int) (w : World) (h1 : validS al ah = true) (h2 : validS bl bh = false) :
    Calls Tryd.prog 48 #[.agg #[.int .i64 al, .int .i64 ah], .agg #[.int .i64 bl, .int .i64 bh]] w
      fun e w' => e = .returned (.tuple #[.int .i64 0, .int .i64 1]) ∧ Gr w w' := by
  go_enter Tryd.func48, Tryd.ntmps48
  go_wp2_with (go_at_call 34; with_reducible refine (valid_any _ _ _).mono ?_; rintro e w' ⟨rfl, hb⟩; have hz := hb.le; obtain ⟨hc, hf⟩ := hb.cells; (try simp only [World.size_alloc] at hc hf hz); (try simp only [World.size_setCell] at hc hf hz); (try simp only [World.size_drew] at hc hf hz))
  exact bodyPost_ret (v := .tuple #[.int .i64 0, .int .i64 1]) (by simp [results, Tryd.results48, go_sem, *]) rfl ⟨rfl, (by repeat (first | exact Gr.refl _ | refine Gr.alloc ?_ _ | refine Gr.drew ?_ | refine Gr.trans ?_ (by assumption) | refine Gr.setCell ?_ (by (try simp); (try omega)) _))⟩
set_option maxHeartbeats 400000 in
theorem meet_bad1 (al ah bl bh : Int) (w : World) (h1 : validS al ah = false) :
    Calls Tryd.prog 46 #[.agg #[.int .i64 al, .int .i64 ah], .agg #[.int .i64 bl, .int .i64 bh]] w
      fun e w' => e = .returned (.tuple #[.agg #[.int .i64 0, .int .i64 0], .int .i64 1]) ∧ Gr w w' := by
  go_enter Tryd.func46, Tryd.ntmps46
  go_wp2_with (go_at_call 34; with_reducible refine (valid_any _ _ _).mono ?_; rintro e w' ⟨rfl, hb⟩; have hz := hb.le; obtain ⟨hc, hf⟩ := hb.cells; (try simp only [World.size_alloc] at hc hf hz); (try simp only [World.size_setCell] at hc hf hz); (try simp only [World.size_drew] at hc hf hz))
  exact bodyPost_ret (v := .tuple #[.agg #[.int .i64 0, .int .i64 0], .int .i64 1]) (by simp [results, Tryd.results46, go_sem, *]) rfl ⟨rfl, (by repeat (first | exact Gr.refl _ | refine Gr.alloc ?_ _ | refine Gr.drew ?_ | refine Gr.trans ?_ (by assumption) | refine Gr.setCell ?_ (by (try simp); (try omega)) _))⟩
set_option maxHeartbeats 400000 in
theorem meet_bad2 (al ah bl bh : Int) (w : World) (h1 : validS al ah = true) (h2 : validS bl bh = false) :
    Calls Tryd.prog 46 #[.agg #[.int .i64 al, .int .i64 ah], .agg #[.int .i64 bl, .int .i64 bh]] w
      fun e w' => e = .returned (.tuple #[.agg #[.int .i64 0, .int .i64 0], .int .i64 1]) ∧ Gr w w' := by
  go_enter Tryd.func46, Tryd.ntmps46
  go_wp2_with (go_at_call 34; with_reducible refine (valid_any _ _ _).mono ?_; rintro e w' ⟨rfl, hb⟩; have hz := hb.le; obtain ⟨hc, hf⟩ := hb.cells; (try simp only [World.size_alloc] at hc hf hz); (try simp only [World.size_setCell] at hc hf hz); (try simp only [World.size_drew] at hc hf hz))
  exact bodyPost_ret (v := .tuple #[.agg #[.int .i64 0, .int .i64 0], .int .i64 1]) (by simp [results, Tryd.results46, go_sem, *]) rfl ⟨rfl, (by repeat (first | exact Gr.refl _ | refine Gr.alloc ?_ _ | refine Gr.drew ?_ | refine Gr.trans ?_ (by assumption) | refine Gr.setCell ?_ (by (try simp); (try omega)) _))⟩
set_option maxHeartbeats 400000 in
theorem combine_plus_bad1 (al ah bl bh : Int) (w : World) (h1 : validS al ah = false) :
    Calls Tryd.prog 73 #[.func (.func 74) #[] #[], .agg #[.int .i64 al, .int .i64 ah], .agg #[.int .i64 bl, .int .i64 bh]] w
      fun e w' => e = .returned (.tuple #[.agg #[.int .i64 0, .int .i64 0], .int .i64 1]) ∧ Gr w w' := by
  go_enter Tryd.func73, Tryd.ntmps73
  go_wp2_with (go_at_call 34; with_reducible refine (valid_any _ _ _).mono ?_; rintro e w' ⟨rfl, hb⟩; have hz := hb.le; obtain ⟨hc, hf⟩ := hb.cells; (try simp only [World.size_alloc] at hc hf hz); (try simp only [World.size_setCell] at hc hf hz); (try simp only [World.size_drew] at hc hf hz))
  exact bodyPost_ret (v := .tuple #[.agg #[.int .i64 0, .int .i64 0], .int .i64 1]) (by simp [results, Tryd.results73, go_sem, *]) rfl ⟨rfl, (by repeat (first | exact Gr.refl _ | refine Gr.alloc ?_ _ | refine Gr.drew ?_ | refine Gr.trans ?_ (by assumption) | refine Gr.setCell ?_ (by (try simp); (try omega)) _))⟩
set_option maxHeartbeats 400000 in
theorem combine_plus_bad2 (al ah bl bh : Int) (w : World) (h1 : validS al ah = true) (h2 : validS bl bh = false) :
    Calls Tryd.prog 73 #[.func (.func 74) #[] #[], .agg #[.int .i64 al, .int .i64 ah], .agg #[.int .i64 bl, .int .i64 bh]] w
      fun e w' => e = .returned (.tuple #[.agg #[.int .i64 0, .int .i64 0], .int .i64 1]) ∧ Gr w w' := by
  go_enter Tryd.func73, Tryd.ntmps73
  go_wp2_with (go_at_call 34; with_reducible refine (valid_any _ _ _).mono ?_; rintro e w' ⟨rfl, hb⟩; have hz := hb.le; obtain ⟨hc, hf⟩ := hb.cells; (try simp only [World.size_alloc] at hc hf hz); (try simp only [World.size_setCell] at hc hf hz); (try simp only [World.size_drew] at hc hf hz))
  exact bodyPost_ret (v := .tuple #[.agg #[.int .i64 0, .int .i64 0], .int .i64 1]) (by simp [results, Tryd.results73, go_sem, *]) rfl ⟨rfl, (by repeat (first | exact Gr.refl _ | refine Gr.alloc ?_ _ | refine Gr.drew ?_ | refine Gr.trans ?_ (by assumption) | refine Gr.setCell ?_ (by (try simp); (try omega)) _))⟩
set_option maxHeartbeats 400000 in
theorem combine_minus_bad1 (al ah bl bh : Int) (w : World) (h1 : validS al ah = false) :
    Calls Tryd.prog 73 #[.func (.func 77) #[] #[], .agg #[.int .i64 al, .int .i64 ah], .agg #[.int .i64 bl, .int .i64 bh]] w
      fun e w' => e = .returned (.tuple #[.agg #[.int .i64 0, .int .i64 0], .int .i64 1]) ∧ Gr w w' := by
  go_enter Tryd.func73, Tryd.ntmps73
  go_wp2_with (go_at_call 34; with_reducible refine (valid_any _ _ _).mono ?_; rintro e w' ⟨rfl, hb⟩; have hz := hb.le; obtain ⟨hc, hf⟩ := hb.cells; (try simp only [World.size_alloc] at hc hf hz); (try simp only [World.size_setCell] at hc hf hz); (try simp only [World.size_drew] at hc hf hz))
  exact bodyPost_ret (v := .tuple #[.agg #[.int .i64 0, .int .i64 0], .int .i64 1]) (by simp [results, Tryd.results73, go_sem, *]) rfl ⟨rfl, (by repeat (first | exact Gr.refl _ | refine Gr.alloc ?_ _ | refine Gr.drew ?_ | refine Gr.trans ?_ (by assumption) | refine Gr.setCell ?_ (by (try simp); (try omega)) _))⟩
set_option maxHeartbeats 400000 in
theorem combine_minus_bad2 (al ah bl bh : Int) (w : World) (h1 : validS al ah = true) (h2 : validS bl bh = false) :
    Calls Tryd.prog 73 #[.func (.func 77) #[] #[], .agg #[.int .i64 al, .int .i64 ah], .agg #[.int .i64 bl, .int .i64 bh]] w
      fun e w' => e = .returned (.tuple #[.agg #[.int .i64 0, .int .i64 0], .int .i64 1]) ∧ Gr w w' := by
  go_enter Tryd.func73, Tryd.ntmps73
  go_wp2_with (go_at_call 34; with_reducible refine (valid_any _ _ _).mono ?_; rintro e w' ⟨rfl, hb⟩; have hz := hb.le; obtain ⟨hc, hf⟩ := hb.cells; (try simp only [World.size_alloc] at hc hf hz); (try simp only [World.size_setCell] at hc hf hz); (try simp only [World.size_drew] at hc hf hz))
  exact bodyPost_ret (v := .tuple #[.agg #[.int .i64 0, .int .i64 0], .int .i64 1]) (by simp [results, Tryd.results73, go_sem, *]) rfl ⟨rfl, (by repeat (first | exact Gr.refl _ | refine Gr.alloc ?_ _ | refine Gr.drew ?_ | refine Gr.trans ?_ (by assumption) | refine Gr.setCell ?_ (by (try simp); (try omega)) _))⟩
set_option maxHeartbeats 400000 in
theorem add_bad1 (al ah bl bh : Int) (w : World) (h1 : validS al ah = false) :
    Calls Tryd.prog 40 #[.agg #[.int .i64 al, .int .i64 ah], .agg #[.int .i64 bl, .int .i64 bh]] w
      fun e w' => e = .returned (.tuple #[.agg #[.int .i64 0, .int .i64 0], .int .i64 1]) ∧ Gr w w' := by
  go_enter Tryd.func40, Tryd.ntmps40
  go_wp2_with (go_at_call 73; with_reducible refine (combine_plus_bad1 _ _ _ _ _ h1).mono ?_; rintro e w' ⟨rfl, hb⟩; have hz := hb.le; obtain ⟨hc, hf⟩ := hb.cells; (try simp only [World.size_alloc] at hc hf hz); (try simp only [World.size_setCell] at hc hf hz); (try simp only [World.size_drew] at hc hf hz))
  exact bodyPost_ret (v := .tuple #[.agg #[.int .i64 0, .int .i64 0], .int .i64 1]) (by simp [results, Tryd.results40, go_sem, *]) rfl ⟨rfl, (by repeat (first | exact Gr.refl _ | refine Gr.alloc ?_ _ | refine Gr.drew ?_ | refine Gr.trans ?_ (by assumption) | refine Gr.setCell ?_ (by (try simp); (try omega)) _))⟩
set_option maxHeartbeats 400000 in
theorem add_bad2 (al ah bl bh : Int) (w : World) (h1 : validS al ah = true) (h2 : validS bl bh = false) :
    Calls Tryd.prog 40 #[.agg #[.int .i64 al, .int .i64 ah], .agg #[.int .i64 bl, .int .i64 bh]] w
      fun e w' => e = .returned (.tuple #[.agg #[.int .i64 0, .int .i64 0], .int .i64 1]) ∧ Gr w w' := by
  go_enter Tryd.func40, Tryd.ntmps40
  go_wp2_with (go_at_call 73; with_reducible refine (combine_plus_bad2 _ _ _ _ _ h1 h2).mono ?_; rintro e w' ⟨rfl, hb⟩; have hz := hb.le; obtain ⟨hc, hf⟩ := hb.cells; (try simp only [World.size_alloc] at hc hf hz); (try simp only [World.size_setCell] at hc hf hz); (try simp only [World.size_drew] at hc hf hz))
  exact bodyPost_ret (v := .tuple #[.agg #[.int .i64 0, .int .i64 0], .int .i64 1]) (by simp [results, Tryd.results40, go_sem, *]) rfl ⟨rfl, (by repeat (first | exact Gr.refl _ | refine Gr.alloc ?_ _ | refine Gr.drew ?_ | refine Gr.trans ?_ (by assumption) | refine Gr.setCell ?_ (by (try simp); (try omega)) _))⟩
set_option maxHeartbeats 400000 in
theorem add_out (al ah bl bh : Int) (w : World) (h1 : validS al ah = true) (h2 : validS bl bh = true) (h : validS (al + bl) (ah + bh) = false) :
    Calls Tryd.prog 40 #[.agg #[.int .i64 al, .int .i64 ah], .agg #[.int .i64 bl, .int .i64 bh]] w
      fun e w' => e = .returned (.tuple #[.agg #[.int .i64 0, .int .i64 0], .int .i64 3]) ∧ Gr w w' := by
  go_enter Tryd.func40, Tryd.ntmps40
  go_wp2_with (go_at_call 73; with_reducible refine (combine_plus_out _ _ _ _ _ h1 h2 h).mono ?_; rintro e w' ⟨rfl, hb⟩; have hz := hb.le; obtain ⟨hc, hf⟩ := hb.cells; (try simp only [World.size_alloc] at hc hf hz); (try simp only [World.size_setCell] at hc hf hz); (try simp only [World.size_drew] at hc hf hz))
  exact bodyPost_ret (v := .tuple #[.agg #[.int .i64 0, .int .i64 0], .int .i64 3]) (by simp [results, Tryd.results40, go_sem, *]) rfl ⟨rfl, (by repeat (first | exact Gr.refl _ | refine Gr.alloc ?_ _ | refine Gr.drew ?_ | refine Gr.trans ?_ (by assumption) | refine Gr.setCell ?_ (by (try simp); (try omega)) _))⟩
set_option maxHeartbeats 400000 in
theorem sub_bad1 (al ah bl bh : Int) (w : World) (h1 : validS al ah = false) :
    Calls Tryd.prog 42 #[.agg #[.int .i64 al, .int .i64 ah], .agg #[.int .i64 bl, .int .i64 bh]] w
      fun e w' => e = .returned (.tuple #[.agg #[.int .i64 0, .int .i64 0], .int .i64 1]) ∧ Gr w w' := by
  go_enter Tryd.func42, Tryd.ntmps42
  go_wp2_with (go_at_call 73; with_reducible refine (combine_minus_bad1 _ _ _ _ _ h1).mono ?_; rintro e w' ⟨rfl, hb⟩; have hz := hb.le; obtain ⟨hc, hf⟩ := hb.cells; (try simp only [World.size_alloc] at hc hf hz); (try simp only [World.size_setCell] at hc hf hz); (try simp only [World.size_drew] at hc hf hz))
  exact bodyPost_ret (v := .tuple #[.agg #[.int .i64 0, .int .i64 0], .int .i64 1]) (by simp [results, Tryd.results42, go_sem, *]) rfl ⟨rfl, (by repeat (first | exact Gr.refl _ | refine Gr.alloc ?_ _ | refine Gr.drew ?_ | refine Gr.trans ?_ (by assumption) | refine Gr.setCell ?_ (by (try simp); (try omega)) _))⟩
set_option maxHeartbeats 400000 in
theorem sub_bad2 (al ah bl bh : Int) (w : World) (h1 : validS al ah = true) (h2 : validS bl bh = false) :
    Calls Tryd.prog 42 #[.agg #[.int .i64 al, .int .i64 ah], .agg #[.int .i64 bl, .int .i64 bh]] w
      fun e w' => e = .returned (.tuple #[.agg #[.int .i64 0, .int .i64 0], .int .i64 1]) ∧ Gr w w' := by
  go_enter Tryd.func42, Tryd.ntmps42
  go_wp2_with (go_at_call 73; with_reducible refine (combine_minus_bad2 _ _ _ _ _ h1 h2).mono ?_; rintro e w' ⟨rfl, hb⟩; have hz := hb.le; obtain ⟨hc, hf⟩ := hb.cells; (try simp only [World.size_alloc] at hc hf hz); (try simp only [World.size_setCell] at hc hf hz); (try simp only [World.size_drew] at hc hf hz))
  exact bodyPost_ret (v := .tuple #[.agg #[.int .i64 0, .int .i64 0], .int .i64 1]) (by simp [results, Tryd.results42, go_sem, *]) rfl ⟨rfl, (by repeat (first | exact Gr.refl _ | refine Gr.alloc ?_ _ | refine Gr.drew ?_ | refine Gr.trans ?_ (by assumption) | refine Gr.setCell ?_ (by (try simp); (try omega)) _))⟩
set_option maxHeartbeats 400000 in
theorem sub_out (al ah bl bh : Int) (w : World) (h1 : validS al ah = true) (h2 : validS bl bh = true) (h : validS (al - bh) (ah - bl) = false) :
    Calls Tryd.prog 42 #[.agg #[.int .i64 al, .int .i64 ah], .agg #[.int .i64 bl, .int .i64 bh]] w
      fun e w' => e = .returned (.tuple #[.agg #[.int .i64 0, .int .i64 0], .int .i64 3]) ∧ Gr w w' := by
  go_enter Tryd.func42, Tryd.ntmps42
  go_wp2_with (go_at_call 73; with_reducible refine (combine_minus_out _ _ _ _ _ h1 h2 h).mono ?_; rintro e w' ⟨rfl, hb⟩; have hz := hb.le; obtain ⟨hc, hf⟩ := hb.cells; (try simp only [World.size_alloc] at hc hf hz); (try simp only [World.size_setCell] at hc hf hz); (try simp only [World.size_drew] at hc hf hz))
  exact bodyPost_ret (v := .tuple #[.agg #[.int .i64 0, .int .i64 0], .int .i64 3]) (by simp [results, Tryd.results42, go_sem, *]) rfl ⟨rfl, (by repeat (first | exact Gr.refl _ | refine Gr.alloc ?_ _ | refine Gr.drew ?_ | refine Gr.trans ?_ (by assumption) | refine Gr.setCell ?_ (by (try simp); (try omega)) _))⟩

set_option maxHeartbeats 400000 in
theorem within_ok (lo hi low high : Int) (w : World) (h1 : validS lo hi = true) (h2 : low ≤ high) :
    Calls Tryd.prog 50 #[.agg #[.int .i64 lo, .int .i64 hi], .int .i64 low, .int .i64 high] w
      fun e w' => e = .returned (.tuple #[.int .i64 (surelyI lo hi low high), .int .i64 0]) ∧ Gr w w' := by
  go_enter Tryd.func50, Tryd.ntmps50
  go_wp2_with (first | (go_at_call 34; with_reducible refine (valid_any _ _ _).mono ?_; rintro e w' ⟨rfl, hb⟩; have hz := hb.le; obtain ⟨hc, hf⟩ := hb.cells; (try simp only [World.size_alloc] at hc hf hz); (try simp only [World.size_setCell] at hc hf hz); (try simp only [World.size_drew] at hc hf hz)) | (go_at_call 67; with_reducible refine (surely_any _ _ _ _ _).mono ?_; rintro e w' ⟨rfl, hb⟩; have hz := hb.le; obtain ⟨hc, hf⟩ := hb.cells; (try simp only [World.size_alloc] at hc hf hz); (try simp only [World.size_setCell] at hc hf hz); (try simp only [World.size_drew] at hc hf hz)))
  exact bodyPost_ret (v := .tuple #[.int .i64 (surelyI lo hi low high), .int .i64 0]) (by simp [results, Tryd.results50, go_sem, *]) rfl ⟨rfl, (by repeat (first | exact Gr.refl _ | refine Gr.alloc ?_ _ | refine Gr.drew ?_ | refine Gr.trans ?_ (by assumption) | refine Gr.setCell ?_ (by (try simp); (try omega)) _))⟩
set_option maxHeartbeats 400000 in
theorem within_bad1 (lo hi low high : Int) (w : World) (h1 : validS lo hi = false) :
    Calls Tryd.prog 50 #[.agg #[.int .i64 lo, .int .i64 hi], .int .i64 low, .int .i64 high] w
      fun e w' => e = .returned (.tuple #[.int .i64 0, .int .i64 1]) ∧ Gr w w' := by
  go_enter Tryd.func50, Tryd.ntmps50
  go_wp2_with (first | (go_at_call 34; with_reducible refine (valid_any _ _ _).mono ?_; rintro e w' ⟨rfl, hb⟩; have hz := hb.le; obtain ⟨hc, hf⟩ := hb.cells; (try simp only [World.size_alloc] at hc hf hz); (try simp only [World.size_setCell] at hc hf hz); (try simp only [World.size_drew] at hc hf hz)) | (go_at_call 67; with_reducible refine (surely_any _ _ _ _ _).mono ?_; rintro e w' ⟨rfl, hb⟩; have hz := hb.le; obtain ⟨hc, hf⟩ := hb.cells; (try simp only [World.size_alloc] at hc hf hz); (try simp only [World.size_setCell] at hc hf hz); (try simp only [World.size_drew] at hc hf hz)))
  exact bodyPost_ret (v := .tuple #[.int .i64 0, .int .i64 1]) (by simp [results, Tryd.results50, go_sem, *]) rfl ⟨rfl, (by repeat (first | exact Gr.refl _ | refine Gr.alloc ?_ _ | refine Gr.drew ?_ | refine Gr.trans ?_ (by assumption) | refine Gr.setCell ?_ (by (try simp); (try omega)) _))⟩
set_option maxHeartbeats 400000 in
theorem within_bad2 (lo hi low high : Int) (w : World) (h1 : validS lo hi = true) (h2 : high < low) :
    Calls Tryd.prog 50 #[.agg #[.int .i64 lo, .int .i64 hi], .int .i64 low, .int .i64 high] w
      fun e w' => e = .returned (.tuple #[.int .i64 0, .int .i64 1]) ∧ Gr w w' := by
  go_enter Tryd.func50, Tryd.ntmps50
  go_wp2_with (first | (go_at_call 34; with_reducible refine (valid_any _ _ _).mono ?_; rintro e w' ⟨rfl, hb⟩; have hz := hb.le; obtain ⟨hc, hf⟩ := hb.cells; (try simp only [World.size_alloc] at hc hf hz); (try simp only [World.size_setCell] at hc hf hz); (try simp only [World.size_drew] at hc hf hz)) | (go_at_call 67; with_reducible refine (surely_any _ _ _ _ _).mono ?_; rintro e w' ⟨rfl, hb⟩; have hz := hb.le; obtain ⟨hc, hf⟩ := hb.cells; (try simp only [World.size_alloc] at hc hf hz); (try simp only [World.size_setCell] at hc hf hz); (try simp only [World.size_drew] at hc hf hz)))
  exact bodyPost_ret (v := .tuple #[.int .i64 0, .int .i64 1]) (by simp [results, Tryd.results50, go_sem, *]) rfl ⟨rfl, (by repeat (first | exact Gr.refl _ | refine Gr.alloc ?_ _ | refine Gr.drew ?_ | refine Gr.trans ?_ (by assumption) | refine Gr.setCell ?_ (by (try simp); (try omega)) _))⟩
end Go.Proofs.YtbaopniofhbjdaaDoor
