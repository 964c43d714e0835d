import Derived.Test.YtmealmnjeoehiaaDoorHead
namespace Go.Proofs.YtmealmnjeoehiaaDoor
open Go.RowKit

set_option maxHeartbeats 400000 in
theorem both_any (al ah bl bh : Int) (w : World) :
    Calls Tryd.prog 13 #[.agg #[.int .i64 al, .int .i64 ah], .agg #[.int .i64 bl, .int .i64 bh]] w
      fun e w' => e = .returned (.bool (validS al ah && validS bl bh)) ∧ Gr w w' := by
  cases h1 : validS al ah
  · go_enter Tryd.func13, Tryd.ntmps13
    go_wp2_with (go_at_call 14; with_reducible refine (valid_any _ _ _).mono ?_; rintro e w' ⟨rfl, hb⟩; have hz := hb.le; obtain ⟨hc, hf⟩ := hb.cells; (try simp only [World.size_alloc] at hc hf hz); (try simp only [World.size_setCell] at hc hf hz); (try simp only [World.size_drew] at hc hf hz))
    go_ret
    exact ⟨rfl, (by repeat (first | exact Gr.refl _ | refine Gr.alloc ?_ _ | refine Gr.drew ?_ | refine Gr.trans ?_ (by assumption) | refine Gr.setCell ?_ (by (try simp); (try omega)) _))⟩
  · go_enter Tryd.func13, Tryd.ntmps13
    go_wp2_with (go_at_call 14; with_reducible refine (valid_any _ _ _).mono ?_; rintro e w' ⟨rfl, hb⟩; have hz := hb.le; obtain ⟨hc, hf⟩ := hb.cells; (try simp only [World.size_alloc] at hc hf hz); (try simp only [World.size_setCell] at hc hf hz); (try simp only [World.size_drew] at hc hf hz))
    go_ret
    exact ⟨rfl, (by repeat (first | exact Gr.refl _ | refine Gr.alloc ?_ _ | refine Gr.drew ?_ | refine Gr.trans ?_ (by assumption) | refine Gr.setCell ?_ (by (try simp); (try omega)) _))⟩

theorem cmp_is {al ah bl bh x : Int} (w : World) (h1 : validS al ah = true) (h2 : validS bl bh = true) (hx : cmpI al ah bl bh = x) :
    Calls Tryd.prog 15 #[.agg #[.int .i64 al, .int .i64 ah], .agg #[.int .i64 bl, .int .i64 bh]] w
      fun e w' => e = .returned (.tuple #[.int .i64 x, .int .i64 0]) ∧ Gr w w' := hx ▸ cmp_ok al ah bl bh w h1 h2
theorem meet_is {al ah bl bh p q : Int} (w : World) (h1 : validS al ah = true) (h2 : validS bl bh = true) (hp : mx al bl = p) (hq : mn ah bh = q) (h : p ≤ q) :
    Calls Tryd.prog 16 #[.agg #[.int .i64 al, .int .i64 ah], .agg #[.int .i64 bl, .int .i64 bh]] w
      fun e w' => e = .returned (.tuple #[.agg #[.int .i64 p, .int .i64 q], .int .i64 0]) ∧ Gr w w' := by
  subst hp hq; exact meet_some al ah bl bh w h1 h2 h

set_option maxRecDepth 100000 in
set_option maxHeartbeats 2000000 in
theorem common_bad1 (al ah bl bh cl ch n : Int) (w : World) (hL : Logs w) (h : (validS al ah && validS bl bh) = false) :
    Calls Tryd.prog 3 #[.agg #[.int .i64 al, .int .i64 ah], .agg #[.int .i64 bl, .int .i64 bh], .agg #[.int .i64 cl, .int .i64 ch], .int .i64 n] w
      fun e w' => e = .returned (.bool true) ∧ Gr w w' := by
  have HL := Lib.hid hL
  clear hL
  go_enter Tryd.func3, Tryd.ntmps3
  go_wp2_with (first | (go_at_call 12; with_reducible refine (head_any _ (HL.out.keep (by repeat (first | exact Gr.refl _ | refine Gr.alloc ?_ _ | refine Gr.drew ?_ | refine Gr.trans ?_ (by assumption) | refine Gr.setCell ?_ (by (try simp); (try omega)) _)))).mono ?_; rintro e w' ⟨rfl, hb⟩; have hz := hb.le; obtain ⟨hc, hf⟩ := hb.cells; (try simp only [World.size_alloc] at hc hf hz); (try simp only [World.size_setCell] at hc hf hz); (try simp only [World.size_drew] at hc hf hz)) | (go_at_call 13; with_reducible refine (both_any _ _ _ _ _).mono ?_; rintro e w' ⟨rfl, hb⟩; have hz := hb.le; obtain ⟨hc, hf⟩ := hb.cells; (try simp only [World.size_alloc] at hc hf hz); (try simp only [World.size_setCell] at hc hf hz); (try simp only [World.size_drew] at hc hf hz)) | (go_at_call 14; with_reducible refine (valid_any _ _ _).mono ?_; rintro e w' ⟨rfl, hb⟩; have hz := hb.le; obtain ⟨hc, hf⟩ := hb.cells; (try simp only [World.size_alloc] at hc hf hz); (try simp only [World.size_setCell] at hc hf hz); (try simp only [World.size_drew] at hc hf hz)))
  go_ret
  exact ⟨rfl, (by repeat (first | exact Gr.refl _ | refine Gr.alloc ?_ _ | refine Gr.drew ?_ | refine Gr.trans ?_ (by assumption) | refine Gr.setCell ?_ (by (try simp); (try omega)) _))⟩
set_option maxRecDepth 100000 in
set_option maxHeartbeats 2000000 in
theorem common_bad2 (al ah bl bh cl ch n : Int) (w : World) (hL : Logs w) (h : (validS al ah && validS bl bh) = true) (h' : validS cl ch = false) :
    Calls Tryd.prog 3 #[.agg #[.int .i64 al, .int .i64 ah], .agg #[.int .i64 bl, .int .i64 bh], .agg #[.int .i64 cl, .int .i64 ch], .int .i64 n] w
      fun e w' => e = .returned (.bool true) ∧ Gr w w' := by
  have HL := Lib.hid hL
  clear hL
  go_enter Tryd.func3, Tryd.ntmps3
  go_wp2_with (first | (go_at_call 12; with_reducible refine (head_any _ (HL.out.keep (by repeat (first | exact Gr.refl _ | refine Gr.alloc ?_ _ | refine Gr.drew ?_ | refine Gr.trans ?_ (by assumption) | refine Gr.setCell ?_ (by (try simp); (try omega)) _)))).mono ?_; rintro e w' ⟨rfl, hb⟩; have hz := hb.le; obtain ⟨hc, hf⟩ := hb.cells; (try simp only [World.size_alloc] at hc hf hz); (try simp only [World.size_setCell] at hc hf hz); (try simp only [World.size_drew] at hc hf hz)) | (go_at_call 13; with_reducible refine (both_any _ _ _ _ _).mono ?_; rintro e w' ⟨rfl, hb⟩; have hz := hb.le; obtain ⟨hc, hf⟩ := hb.cells; (try simp only [World.size_alloc] at hc hf hz); (try simp only [World.size_setCell] at hc hf hz); (try simp only [World.size_drew] at hc hf hz)) | (go_at_call 14; with_reducible refine (valid_any _ _ _).mono ?_; rintro e w' ⟨rfl, hb⟩; have hz := hb.le; obtain ⟨hc, hf⟩ := hb.cells; (try simp only [World.size_alloc] at hc hf hz); (try simp only [World.size_setCell] at hc hf hz); (try simp only [World.size_drew] at hc hf hz)))
  go_ret
  exact ⟨rfl, (by repeat (first | exact Gr.refl _ | refine Gr.alloc ?_ _ | refine Gr.drew ?_ | refine Gr.trans ?_ (by assumption) | refine Gr.setCell ?_ (by (try simp); (try omega)) _))⟩

set_option maxRecDepth 100000 in
set_option maxHeartbeats 4000000 in
theorem common_meet (al ah bl bh cl ch n u v p q : Int) (w : World) (hL : Logs w) (h1 : validS al ah = true) (h2 : validS bl bh = true) (h3 : validS cl ch = true)
    (c1 : cmpI al ah bl bh = 0) (c2 : cmpI bl bh al ah = 0) (c3 : cmpI bl bh cl ch = u) (c4 : cmpI al ah cl ch = v)
    (m1 : mx al bl = p) (m2 : mn ah bh = q) (m3 : mx bl al = p) (m4 : mn bh ah = q) (hpq : p ≤ q) (hv : validS p q = true)
    (_b1 : al ≤ p) (_b2 : bl ≤ p) (b3 : p = al ∨ p = bl) (_b4 : q ≤ ah) (_b5 : q ≤ bh) (b6 : q = ah ∨ q = bh) :
    Calls Tryd.prog 3 #[.agg #[.int .i64 al, .int .i64 ah], .agg #[.int .i64 bl, .int .i64 bh], .agg #[.int .i64 cl, .int .i64 ch], .int .i64 n] w
      fun e w' => e = .returned (.bool true) ∧ Gr w w' := by
  have HL := Lib.hid hL
  have C1 := Lib.hid c1; have C2 := Lib.hid c2; have C3 := Lib.hid c3; have C4 := Lib.hid c4
  have M1 := Lib.hid m1; have M2 := Lib.hid m2; have M3 := Lib.hid m3; have M4 := Lib.hid m4
  have B3 := Lib.hid b3; have B6 := Lib.hid b6
  clear hL c1 c2 c3 c4 m1 m2 m3 m4 b3 b6
  go_enter Tryd.func3, Tryd.ntmps3
  go_wp2_with (first | (go_at_call 12; with_reducible refine (head_any _ (HL.out.keep (by repeat (first | exact Gr.refl _ | refine Gr.alloc ?_ _ | refine Gr.drew ?_ | refine Gr.trans ?_ (by assumption) | refine Gr.setCell ?_ (by (try simp); (try omega)) _)))).mono ?_; rintro e w' ⟨rfl, hb⟩; have hz := hb.le; obtain ⟨hc, hf⟩ := hb.cells; (try simp only [World.size_alloc] at hc hf hz); (try simp only [World.size_setCell] at hc hf hz); (try simp only [World.size_drew] at hc hf hz)) | (go_at_call 13; with_reducible refine (both_any _ _ _ _ _).mono ?_; rintro e w' ⟨rfl, hb⟩; have hz := hb.le; obtain ⟨hc, hf⟩ := hb.cells; (try simp only [World.size_alloc] at hc hf hz); (try simp only [World.size_setCell] at hc hf hz); (try simp only [World.size_drew] at hc hf hz)) | (go_at_call 14; with_reducible refine (valid_any _ _ _).mono ?_; rintro e w' ⟨rfl, hb⟩; have hz := hb.le; obtain ⟨hc, hf⟩ := hb.cells; (try simp only [World.size_alloc] at hc hf hz); (try simp only [World.size_setCell] at hc hf hz); (try simp only [World.size_drew] at hc hf hz)) | (go_at_call 15; with_reducible refine (cmp_is _ h1 h2 C1.out).mono ?_; rintro e w' ⟨rfl, hb⟩; have hz := hb.le; obtain ⟨hc, hf⟩ := hb.cells; (try simp only [World.size_alloc] at hc hf hz); (try simp only [World.size_setCell] at hc hf hz); (try simp only [World.size_drew] at hc hf hz)) | (go_at_call 15; with_reducible refine (cmp_is _ h2 h1 C2.out).mono ?_; rintro e w' ⟨rfl, hb⟩; have hz := hb.le; obtain ⟨hc, hf⟩ := hb.cells; (try simp only [World.size_alloc] at hc hf hz); (try simp only [World.size_setCell] at hc hf hz); (try simp only [World.size_drew] at hc hf hz)) | (go_at_call 15; with_reducible refine (cmp_is _ h2 h3 C3.out).mono ?_; rintro e w' ⟨rfl, hb⟩; have hz := hb.le; obtain ⟨hc, hf⟩ := hb.cells; (try simp only [World.size_alloc] at hc hf hz); (try simp only [World.size_setCell] at hc hf hz); (try simp only [World.size_drew] at hc hf hz)) | (go_at_call 15; with_reducible refine (cmp_is _ h1 h3 C4.out).mono ?_; rintro e w' ⟨rfl, hb⟩; have hz := hb.le; obtain ⟨hc, hf⟩ := hb.cells; (try simp only [World.size_alloc] at hc hf hz); (try simp only [World.size_setCell] at hc hf hz); (try simp only [World.size_drew] at hc hf hz)) | (go_at_call 16; with_reducible refine (meet_is _ h1 h2 M1.out M2.out hpq).mono ?_; rintro e w' ⟨rfl, hb⟩; have hz := hb.le; obtain ⟨hc, hf⟩ := hb.cells; (try simp only [World.size_alloc] at hc hf hz); (try simp only [World.size_setCell] at hc hf hz); (try simp only [World.size_drew] at hc hf hz)) | (go_at_call 16; with_reducible refine (meet_is _ h2 h1 M3.out M4.out hpq).mono ?_; rintro e w' ⟨rfl, hb⟩; have hz := hb.le; obtain ⟨hc, hf⟩ := hb.cells; (try simp only [World.size_alloc] at hc hf hz); (try simp only [World.size_setCell] at hc hf hz); (try simp only [World.size_drew] at hc hf hz)))
  all_goals
    go_ret
    refine ⟨ret_bool ?_, (by repeat (first | exact Gr.refl _ | refine Gr.alloc ?_ _ | refine Gr.drew ?_ | refine Gr.trans ?_ (by assumption) | refine Gr.setCell ?_ (by (try simp); (try omega)) _))⟩
    have hb3 := B3.out
    have hb6 := B6.out
    first | rfl | (simp; omega) | simp | omega

theorem meet_no {al ah bl bh p q : Int} (w : World) (h1 : validS al ah = true) (h2 : validS bl bh = true) (hp : mx al bl = p) (hq : mn ah bh = q) (h : q < p) :
    Calls Tryd.prog 16 #[.agg #[.int .i64 al, .int .i64 ah], .agg #[.int .i64 bl, .int .i64 bh]] w
      fun e w' => e = .returned (.tuple #[.agg #[.int .i64 0, .int .i64 0], .int .i64 4]) ∧ Gr w w' := by
  subst hp hq; exact meet_none al ah bl bh w h1 h2 h

set_option maxRecDepth 100000 in
set_option maxHeartbeats 4000000 in
theorem common_above (al ah bl bh cl ch n u v p q : Int) (w : World) (hL : Logs w) (h1 : validS al ah = true) (h2 : validS bl bh = true) (h3 : validS cl ch = true)
    (c1 : cmpI al ah bl bh = 1) (c2 : cmpI bl bh al ah = -1) (c3 : cmpI bl bh cl ch = u) (c4 : cmpI al ah cl ch = v)
    (m1 : mx al bl = p) (m2 : mn ah bh = q) (m3 : mx bl al = p) (m4 : mn bh ah = q) (hpq : q < p)
    (b3 : p = al ∨ p = bl) (b6 : q = ah ∨ q = bh) (_b1 : al ≤ p) (_b2 : bl ≤ p) (_b4 : q ≤ ah) (_b5 : q ≤ bh) :
    Calls Tryd.prog 3 #[.agg #[.int .i64 al, .int .i64 ah], .agg #[.int .i64 bl, .int .i64 bh], .agg #[.int .i64 cl, .int .i64 ch], .int .i64 n] w
      fun e w' => e = .returned (.bool true) ∧ Gr w w' := by
  have HL := Lib.hid hL
  have C1 := Lib.hid c1; have C2 := Lib.hid c2; have C3 := Lib.hid c3; have C4 := Lib.hid c4
  have M1 := Lib.hid m1; have M2 := Lib.hid m2; have M3 := Lib.hid m3; have M4 := Lib.hid m4
  have B3 := Lib.hid b3; have B6 := Lib.hid b6
  clear hL c1 c2 c3 c4 m1 m2 m3 m4 b3 b6
  go_enter Tryd.func3, Tryd.ntmps3
  go_wp2_with (first | (go_at_call 12; with_reducible refine (head_any _ (HL.out.keep (by repeat (first | exact Gr.refl _ | refine Gr.alloc ?_ _ | refine Gr.drew ?_ | refine Gr.trans ?_ (by assumption) | refine Gr.setCell ?_ (by (try simp); (try omega)) _)))).mono ?_; rintro e w' ⟨rfl, hb⟩; have hz := hb.le; obtain ⟨hc, hf⟩ := hb.cells; (try simp only [World.size_alloc] at hc hf hz); (try simp only [World.size_setCell] at hc hf hz); (try simp only [World.size_drew] at hc hf hz)) | (go_at_call 13; with_reducible refine (both_any _ _ _ _ _).mono ?_; rintro e w' ⟨rfl, hb⟩; have hz := hb.le; obtain ⟨hc, hf⟩ := hb.cells; (try simp only [World.size_alloc] at hc hf hz); (try simp only [World.size_setCell] at hc hf hz); (try simp only [World.size_drew] at hc hf hz)) | (go_at_call 14; with_reducible refine (valid_any _ _ _).mono ?_; rintro e w' ⟨rfl, hb⟩; have hz := hb.le; obtain ⟨hc, hf⟩ := hb.cells; (try simp only [World.size_alloc] at hc hf hz); (try simp only [World.size_setCell] at hc hf hz); (try simp only [World.size_drew] at hc hf hz)) | (go_at_call 15; with_reducible refine (cmp_is _ h1 h2 C1.out).mono ?_; rintro e w' ⟨rfl, hb⟩; have hz := hb.le; obtain ⟨hc, hf⟩ := hb.cells; (try simp only [World.size_alloc] at hc hf hz); (try simp only [World.size_setCell] at hc hf hz); (try simp only [World.size_drew] at hc hf hz)) | (go_at_call 15; with_reducible refine (cmp_is _ h2 h1 C2.out).mono ?_; rintro e w' ⟨rfl, hb⟩; have hz := hb.le; obtain ⟨hc, hf⟩ := hb.cells; (try simp only [World.size_alloc] at hc hf hz); (try simp only [World.size_setCell] at hc hf hz); (try simp only [World.size_drew] at hc hf hz)) | (go_at_call 15; with_reducible refine (cmp_is _ h2 h3 C3.out).mono ?_; rintro e w' ⟨rfl, hb⟩; have hz := hb.le; obtain ⟨hc, hf⟩ := hb.cells; (try simp only [World.size_alloc] at hc hf hz); (try simp only [World.size_setCell] at hc hf hz); (try simp only [World.size_drew] at hc hf hz)) | (go_at_call 15; with_reducible refine (cmp_is _ h1 h3 C4.out).mono ?_; rintro e w' ⟨rfl, hb⟩; have hz := hb.le; obtain ⟨hc, hf⟩ := hb.cells; (try simp only [World.size_alloc] at hc hf hz); (try simp only [World.size_setCell] at hc hf hz); (try simp only [World.size_drew] at hc hf hz)) | (go_at_call 16; with_reducible refine (meet_no _ h1 h2 M1.out M2.out hpq).mono ?_; rintro e w' ⟨rfl, hb⟩; have hz := hb.le; obtain ⟨hc, hf⟩ := hb.cells; (try simp only [World.size_alloc] at hc hf hz); (try simp only [World.size_setCell] at hc hf hz); (try simp only [World.size_drew] at hc hf hz)) | (go_at_call 16; with_reducible refine (meet_no _ h2 h1 M3.out M4.out hpq).mono ?_; rintro e w' ⟨rfl, hb⟩; have hz := hb.le; obtain ⟨hc, hf⟩ := hb.cells; (try simp only [World.size_alloc] at hc hf hz); (try simp only [World.size_setCell] at hc hf hz); (try simp only [World.size_drew] at hc hf hz)))
  all_goals
    go_ret
    refine ⟨ret_bool ?_, (by repeat (first | exact Gr.refl _ | refine Gr.alloc ?_ _ | refine Gr.drew ?_ | refine Gr.trans ?_ (by assumption) | refine Gr.setCell ?_ (by (try simp); (try omega)) _))⟩
    have hb3 := B3.out
    have hb6 := B6.out
    first | rfl | (simp; omega) | simp | omega

set_option maxRecDepth 100000 in
set_option maxHeartbeats 4000000 in
theorem common_below1 (al ah bl bh cl ch n u v p q : Int) (w : World) (hL : Logs w) (h1 : validS al ah = true) (h2 : validS bl bh = true) (h3 : validS cl ch = true)
    (c1 : cmpI al ah bl bh = -1) (c2 : cmpI bl bh al ah = 1) (c3 : cmpI bl bh cl ch = u) (c4 : cmpI al ah cl ch = v) (hu : (u == -1) = false)
    (m1 : mx al bl = p) (m2 : mn ah bh = q) (m3 : mx bl al = p) (m4 : mn bh ah = q) (hpq : q < p)
    (b3 : p = al ∨ p = bl) (b6 : q = ah ∨ q = bh) (_b1 : al ≤ p) (_b2 : bl ≤ p) (_b4 : q ≤ ah) (_b5 : q ≤ bh) :
    Calls Tryd.prog 3 #[.agg #[.int .i64 al, .int .i64 ah], .agg #[.int .i64 bl, .int .i64 bh], .agg #[.int .i64 cl, .int .i64 ch], .int .i64 n] w
      fun e w' => e = .returned (.bool true) ∧ Gr w w' := by
  have HL := Lib.hid hL
  have C1 := Lib.hid c1; have C2 := Lib.hid c2; have C3 := Lib.hid c3; have C4 := Lib.hid c4
  have M1 := Lib.hid m1; have M2 := Lib.hid m2; have M3 := Lib.hid m3; have M4 := Lib.hid m4
  have B3 := Lib.hid b3; have B6 := Lib.hid b6
  clear hL c1 c2 c3 c4 m1 m2 m3 m4 b3 b6
  go_enter Tryd.func3, Tryd.ntmps3
  go_wp2_with (first | (go_at_call 12; with_reducible refine (head_any _ (HL.out.keep (by repeat (first | exact Gr.refl _ | refine Gr.alloc ?_ _ | refine Gr.drew ?_ | refine Gr.trans ?_ (by assumption) | refine Gr.setCell ?_ (by (try simp); (try omega)) _)))).mono ?_; rintro e w' ⟨rfl, hb⟩; have hz := hb.le; obtain ⟨hc, hf⟩ := hb.cells; (try simp only [World.size_alloc] at hc hf hz); (try simp only [World.size_setCell] at hc hf hz); (try simp only [World.size_drew] at hc hf hz)) | (go_at_call 13; with_reducible refine (both_any _ _ _ _ _).mono ?_; rintro e w' ⟨rfl, hb⟩; have hz := hb.le; obtain ⟨hc, hf⟩ := hb.cells; (try simp only [World.size_alloc] at hc hf hz); (try simp only [World.size_setCell] at hc hf hz); (try simp only [World.size_drew] at hc hf hz)) | (go_at_call 14; with_reducible refine (valid_any _ _ _).mono ?_; rintro e w' ⟨rfl, hb⟩; have hz := hb.le; obtain ⟨hc, hf⟩ := hb.cells; (try simp only [World.size_alloc] at hc hf hz); (try simp only [World.size_setCell] at hc hf hz); (try simp only [World.size_drew] at hc hf hz)) | (go_at_call 15; with_reducible refine (cmp_is _ h1 h2 C1.out).mono ?_; rintro e w' ⟨rfl, hb⟩; have hz := hb.le; obtain ⟨hc, hf⟩ := hb.cells; (try simp only [World.size_alloc] at hc hf hz); (try simp only [World.size_setCell] at hc hf hz); (try simp only [World.size_drew] at hc hf hz)) | (go_at_call 15; with_reducible refine (cmp_is _ h2 h1 C2.out).mono ?_; rintro e w' ⟨rfl, hb⟩; have hz := hb.le; obtain ⟨hc, hf⟩ := hb.cells; (try simp only [World.size_alloc] at hc hf hz); (try simp only [World.size_setCell] at hc hf hz); (try simp only [World.size_drew] at hc hf hz)) | (go_at_call 15; with_reducible refine (cmp_is _ h2 h3 C3.out).mono ?_; rintro e w' ⟨rfl, hb⟩; have hz := hb.le; obtain ⟨hc, hf⟩ := hb.cells; (try simp only [World.size_alloc] at hc hf hz); (try simp only [World.size_setCell] at hc hf hz); (try simp only [World.size_drew] at hc hf hz)) | (go_at_call 15; with_reducible refine (cmp_is _ h1 h3 C4.out).mono ?_; rintro e w' ⟨rfl, hb⟩; have hz := hb.le; obtain ⟨hc, hf⟩ := hb.cells; (try simp only [World.size_alloc] at hc hf hz); (try simp only [World.size_setCell] at hc hf hz); (try simp only [World.size_drew] at hc hf hz)) | (go_at_call 16; with_reducible refine (meet_no _ h1 h2 M1.out M2.out hpq).mono ?_; rintro e w' ⟨rfl, hb⟩; have hz := hb.le; obtain ⟨hc, hf⟩ := hb.cells; (try simp only [World.size_alloc] at hc hf hz); (try simp only [World.size_setCell] at hc hf hz); (try simp only [World.size_drew] at hc hf hz)) | (go_at_call 16; with_reducible refine (meet_no _ h2 h1 M3.out M4.out hpq).mono ?_; rintro e w' ⟨rfl, hb⟩; have hz := hb.le; obtain ⟨hc, hf⟩ := hb.cells; (try simp only [World.size_alloc] at hc hf hz); (try simp only [World.size_setCell] at hc hf hz); (try simp only [World.size_drew] at hc hf hz)))
  all_goals
    go_ret
    refine ⟨ret_bool ?_, (by repeat (first | exact Gr.refl _ | refine Gr.alloc ?_ _ | refine Gr.drew ?_ | refine Gr.trans ?_ (by assumption) | refine Gr.setCell ?_ (by (try simp); (try omega)) _))⟩
    have hb3 := B3.out
    have hb6 := B6.out
    first | rfl | (simp; omega) | simp | omega

set_option maxRecDepth 100000 in
set_option maxHeartbeats 4000000 in
theorem common_below2 (al ah bl bh cl ch n p q : Int) (w : World) (hL : Logs w) (h1 : validS al ah = true) (h2 : validS bl bh = true) (h3 : validS cl ch = true)
    (c1 : cmpI al ah bl bh = -1) (c2 : cmpI bl bh al ah = 1) (c3 : cmpI bl bh cl ch = -1) (c4 : cmpI al ah cl ch = -1)
    (m1 : mx al bl = p) (m2 : mn ah bh = q) (m3 : mx bl al = p) (m4 : mn bh ah = q) (hpq : q < p)
    (b3 : p = al ∨ p = bl) (b6 : q = ah ∨ q = bh) (_b1 : al ≤ p) (_b2 : bl ≤ p) (_b4 : q ≤ ah) (_b5 : q ≤ bh) :
    Calls Tryd.prog 3 #[.agg #[.int .i64 al, .int .i64 ah], .agg #[.int .i64 bl, .int .i64 bh], .agg #[.int .i64 cl, .int .i64 ch], .int .i64 n] w
      fun e w' => e = .returned (.bool true) ∧ Gr w w' := by
  have HL := Lib.hid hL
  have C1 := Lib.hid c1; have C2 := Lib.hid c2; have C3 := Lib.hid c3; have C4 := Lib.hid c4
  have M1 := Lib.hid m1; have M2 := Lib.hid m2; have M3 := Lib.hid m3; have M4 := Lib.hid m4
  have B3 := Lib.hid b3; have B6 := Lib.hid b6
  clear hL c1 c2 c3 c4 m1 m2 m3 m4 b3 b6
  go_enter Tryd.func3, Tryd.ntmps3
  go_wp2_with (first | (go_at_call 12; with_reducible refine (head_any _ (HL.out.keep (by repeat (first | exact Gr.refl _ | refine Gr.alloc ?_ _ | refine Gr.drew ?_ | refine Gr.trans ?_ (by assumption) | refine Gr.setCell ?_ (by (try simp); (try omega)) _)))).mono ?_; rintro e w' ⟨rfl, hb⟩; have hz := hb.le; obtain ⟨hc, hf⟩ := hb.cells; (try simp only [World.size_alloc] at hc hf hz); (try simp only [World.size_setCell] at hc hf hz); (try simp only [World.size_drew] at hc hf hz)) | (go_at_call 13; with_reducible refine (both_any _ _ _ _ _).mono ?_; rintro e w' ⟨rfl, hb⟩; have hz := hb.le; obtain ⟨hc, hf⟩ := hb.cells; (try simp only [World.size_alloc] at hc hf hz); (try simp only [World.size_setCell] at hc hf hz); (try simp only [World.size_drew] at hc hf hz)) | (go_at_call 14; with_reducible refine (valid_any _ _ _).mono ?_; rintro e w' ⟨rfl, hb⟩; have hz := hb.le; obtain ⟨hc, hf⟩ := hb.cells; (try simp only [World.size_alloc] at hc hf hz); (try simp only [World.size_setCell] at hc hf hz); (try simp only [World.size_drew] at hc hf hz)) | (go_at_call 15; with_reducible refine (cmp_is _ h1 h2 C1.out).mono ?_; rintro e w' ⟨rfl, hb⟩; have hz := hb.le; obtain ⟨hc, hf⟩ := hb.cells; (try simp only [World.size_alloc] at hc hf hz); (try simp only [World.size_setCell] at hc hf hz); (try simp only [World.size_drew] at hc hf hz)) | (go_at_call 15; with_reducible refine (cmp_is _ h2 h1 C2.out).mono ?_; rintro e w' ⟨rfl, hb⟩; have hz := hb.le; obtain ⟨hc, hf⟩ := hb.cells; (try simp only [World.size_alloc] at hc hf hz); (try simp only [World.size_setCell] at hc hf hz); (try simp only [World.size_drew] at hc hf hz)) | (go_at_call 15; with_reducible refine (cmp_is _ h2 h3 C3.out).mono ?_; rintro e w' ⟨rfl, hb⟩; have hz := hb.le; obtain ⟨hc, hf⟩ := hb.cells; (try simp only [World.size_alloc] at hc hf hz); (try simp only [World.size_setCell] at hc hf hz); (try simp only [World.size_drew] at hc hf hz)) | (go_at_call 15; with_reducible refine (cmp_is _ h1 h3 C4.out).mono ?_; rintro e w' ⟨rfl, hb⟩; have hz := hb.le; obtain ⟨hc, hf⟩ := hb.cells; (try simp only [World.size_alloc] at hc hf hz); (try simp only [World.size_setCell] at hc hf hz); (try simp only [World.size_drew] at hc hf hz)) | (go_at_call 16; with_reducible refine (meet_no _ h1 h2 M1.out M2.out hpq).mono ?_; rintro e w' ⟨rfl, hb⟩; have hz := hb.le; obtain ⟨hc, hf⟩ := hb.cells; (try simp only [World.size_alloc] at hc hf hz); (try simp only [World.size_setCell] at hc hf hz); (try simp only [World.size_drew] at hc hf hz)) | (go_at_call 16; with_reducible refine (meet_no _ h2 h1 M3.out M4.out hpq).mono ?_; rintro e w' ⟨rfl, hb⟩; have hz := hb.le; obtain ⟨hc, hf⟩ := hb.cells; (try simp only [World.size_alloc] at hc hf hz); (try simp only [World.size_setCell] at hc hf hz); (try simp only [World.size_drew] at hc hf hz)))
  all_goals
    go_ret
    refine ⟨ret_bool ?_, (by repeat (first | exact Gr.refl _ | refine Gr.alloc ?_ _ | refine Gr.drew ?_ | refine Gr.trans ?_ (by assumption) | refine Gr.setCell ?_ (by (try simp); (try omega)) _))⟩
    have hb3 := B3.out
    have hb6 := B6.out
    first | rfl | (simp; omega) | simp | omega

theorem mx_facts (a b : Int) : a ≤ mx a b ∧ b ≤ mx a b ∧ (mx a b = a ∨ mx a b = b) ∧ mx b a = mx a b := by
  unfold mx
  split <;> split <;> omega
theorem mn_facts (a b : Int) : mn a b ≤ a ∧ mn a b ≤ b ∧ (mn a b = a ∨ mn a b = b) ∧ mn b a = mn a b := by
  unfold mn
  split <;> split <;> omega
theorem cmp_cases {al ah bl bh : Int} (h1 : validS al ah = true) (h2 : validS bl bh = true) :
    (cmpI al ah bl bh = 0 ∧ cmpI bl bh al ah = 0 ∧ mx al bl ≤ mn ah bh) ∨ (cmpI al ah bl bh = 1 ∧ cmpI bl bh al ah = -1 ∧ mn ah bh < mx al bl) ∨ (ah < bl ∧ cmpI al ah bl bh = -1 ∧ cmpI bl bh al ah = 1 ∧ mn ah bh < mx al bl) := by
  have a := validS_true h1
  have b := validS_true h2
  have f := mx_facts al bl
  have g := mn_facts ah bh
  unfold cmpI
  by_cases c : ah < bl
  · rw [if_pos c, if_neg (by omega), if_pos c]; omega
  · by_cases d : bh < al
    · rw [if_neg c, if_pos d, if_pos d]; omega
    · rw [if_neg c, if_neg d, if_neg d, if_neg c]; omega

theorem common_any (al ah bl bh cl ch n : Int) (w : World) (hL : Logs w) :
    Calls Tryd.prog 3 #[.agg #[.int .i64 al, .int .i64 ah], .agg #[.int .i64 bl, .int .i64 bh], .agg #[.int .i64 cl, .int .i64 ch], .int .i64 n] w
      fun e w' => e = .returned (.bool true) ∧ Gr w w' := by
  cases h12 : (validS al ah && validS bl bh)
  · exact common_bad1 al ah bl bh cl ch n w hL h12
  cases h3 : validS cl ch
  · exact common_bad2 al ah bl bh cl ch n w hL h12 h3
  rw [Bool.and_eq_true] at h12
  obtain ⟨h1, h2⟩ := h12
  obtain ⟨x1, x2, x3, x4⟩ := mx_facts al bl
  obtain ⟨y1, y2, y3, y4⟩ := mn_facts ah bh
  have v1 := validS_true h1
  have v2 := validS_true h2
  have v3 := validS_true h3
  rcases cmp_cases h1 h2 with ⟨c1, c2, c3⟩ | ⟨c1, c2, c3⟩ | ⟨c0, c1, c2, c3⟩
  · exact common_meet al ah bl bh cl ch n _ _ _ _ w hL h1 h2 h3 c1 c2 rfl rfl rfl rfl x4 y4 c3 (validS_mk (by omega)) x1 x2 x3 y1 y2 y3
  · exact common_above al ah bl bh cl ch n _ _ _ _ w hL h1 h2 h3 c1 c2 rfl rfl rfl rfl x4 y4 c3 x3 y3 x1 x2 y1 y2
  · by_cases hu : cmpI bl bh cl ch = -1
    · have hlt : bh < cl := by
        unfold cmpI at hu
        split at hu
        · assumption
        · split at hu <;> omega
      have hv : cmpI al ah cl ch = -1 := by rw [cmpI, if_pos (by omega)]
      exact common_below2 al ah bl bh cl ch n _ _ w hL h1 h2 h3 c1 c2 hu hv rfl rfl x4 y4 c3 x3 y3 x1 x2 y1 y2
    · exact common_below1 al ah bl bh cl ch n _ _ _ _ w hL h1 h2 h3 c1 c2 rfl rfl (by simpa using hu) rfl rfl x4 y4 c3 x3 y3 x1 x2 y1 y2
end Go.Proofs.YtmealmnjeoehiaaDoor
