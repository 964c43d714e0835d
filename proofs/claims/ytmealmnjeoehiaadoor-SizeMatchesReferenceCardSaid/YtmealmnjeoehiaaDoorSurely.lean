import Derived.Test.YtmealmnjeoehiaaDoorCommon
namespace Go.Proofs.YtmealmnjeoehiaaDoor
open Go.RowKit

set_option maxHeartbeats 400000 in
theorem in_any (al ah bl bh : Int) (w : World) :
    Calls Tryd.prog 18 #[.agg #[.int .i64 al, .int .i64 ah], .agg #[.int .i64 bl, .int .i64 bh]] w
      fun e w' => e = .returned (.bool (decide (bl ≤ al) && decide (ah ≤ bh))) ∧ Gr w w' := by
  go_enter Tryd.func18, Tryd.ntmps18
  go_wp2
  all_goals go_ret
  all_goals exact ⟨ret_bool (by first | (simp [*]; done) | (simp; omega)), (by repeat (first | exact Gr.refl _ | refine Gr.alloc ?_ _ | refine Gr.drew ?_ | refine Gr.trans ?_ (by assumption) | refine Gr.setCell ?_ (by (try simp); (try omega)) _))⟩
theorem in_is {al ah bl bh : Int} {i : Bool} (w : World) (h : (decide (bl ≤ al) && decide (ah ≤ bh)) = i) :
    Calls Tryd.prog 18 #[.agg #[.int .i64 al, .int .i64 ah], .agg #[.int .i64 bl, .int .i64 bh]] w
      fun e w' => e = .returned (.bool i) ∧ Gr w w' := h ▸ in_any al ah bl bh w
theorem within_is {lo hi low high x : Int} (w : World) (h1 : validS lo hi = true) (h2 : low ≤ high) (hx : surelyI lo hi low high = x) :
    Calls Tryd.prog 17 #[.agg #[.int .i64 lo, .int .i64 hi], .int .i64 low, .int .i64 high] w
      fun e w' => e = .returned (.tuple #[.int .i64 x, .int .i64 0]) ∧ Gr w w' := hx ▸ within_ok lo hi low high w h1 h2

set_option maxRecDepth 100000 in
set_option maxHeartbeats 2000000 in
theorem surely_bad1 (al ah bl bh low high low2 high2 : Int) (w : World) (hL : Logs w) (h : (validS al ah && validS bl bh) = false) :
    Calls Tryd.prog 4 #[.agg #[.int .i64 al, .int .i64 ah], .agg #[.int .i64 bl, .int .i64 bh], .int .i64 low, .int .i64 high, .int .i64 low2, .int .i64 high2] w
      fun e w' => e = .returned (.bool true) ∧ Gr w w' := by
  have HL := Lib.hid hL
  clear hL
  go_enter Tryd.func4, Tryd.ntmps4
  go_wp2_with (first | (go_at_call 12; with_reducible refine (head_any _ (HL.out.keep (by repeat (first | exact Gr.refl _ | refine Gr.alloc ?_ _ | refine Gr.drew ?_ | refine Gr.trans ?_ (by assumption) | refine Gr.setCell ?_ (by (try simp); (try omega)) _)))).mono ?_; rintro e w' ⟨rfl, hb⟩; have hz := hb.le; obtain ⟨hc, hf⟩ := hb.cells; (try simp only [World.size_alloc] at hc hf hz); (try simp only [World.size_setCell] at hc hf hz); (try simp only [World.size_drew] at hc hf hz)) | (go_at_call 13; with_reducible refine (both_any _ _ _ _ _).mono ?_; rintro e w' ⟨rfl, hb⟩; have hz := hb.le; obtain ⟨hc, hf⟩ := hb.cells; (try simp only [World.size_alloc] at hc hf hz); (try simp only [World.size_setCell] at hc hf hz); (try simp only [World.size_drew] at hc hf hz)))
  go_ret
  exact ⟨rfl, (by repeat (first | exact Gr.refl _ | refine Gr.alloc ?_ _ | refine Gr.drew ?_ | refine Gr.trans ?_ (by assumption) | refine Gr.setCell ?_ (by (try simp); (try omega)) _))⟩
set_option maxRecDepth 100000 in
set_option maxHeartbeats 2000000 in
theorem surely_bad2 (al ah bl bh low high low2 high2 : Int) (w : World) (hL : Logs w) (h : (validS al ah && validS bl bh) = true)
    (hbad : ¬ (-1000000000000000 ≤ low ∧ high ≤ 1000000000000000 ∧ -1000000000000000 ≤ low2 ∧ high2 ≤ 1000000000000000 ∧ low ≤ high ∧ low2 ≤ high2)) :
    Calls Tryd.prog 4 #[.agg #[.int .i64 al, .int .i64 ah], .agg #[.int .i64 bl, .int .i64 bh], .int .i64 low, .int .i64 high, .int .i64 low2, .int .i64 high2] w
      fun e w' => e = .returned (.bool true) ∧ Gr w w' := by
  have HL := Lib.hid hL
  clear hL
  go_enter Tryd.func4, Tryd.ntmps4
  go_wp2_with (first | (go_at_call 12; with_reducible refine (head_any _ (HL.out.keep (by repeat (first | exact Gr.refl _ | refine Gr.alloc ?_ _ | refine Gr.drew ?_ | refine Gr.trans ?_ (by assumption) | refine Gr.setCell ?_ (by (try simp); (try omega)) _)))).mono ?_; rintro e w' ⟨rfl, hb⟩; have hz := hb.le; obtain ⟨hc, hf⟩ := hb.cells; (try simp only [World.size_alloc] at hc hf hz); (try simp only [World.size_setCell] at hc hf hz); (try simp only [World.size_drew] at hc hf hz)) | (go_at_call 13; with_reducible refine (both_any _ _ _ _ _).mono ?_; rintro e w' ⟨rfl, hb⟩; have hz := hb.le; obtain ⟨hc, hf⟩ := hb.cells; (try simp only [World.size_alloc] at hc hf hz); (try simp only [World.size_setCell] at hc hf hz); (try simp only [World.size_drew] at hc hf hz)))
  all_goals go_ret
  all_goals exact ⟨rfl, (by repeat (first | exact Gr.refl _ | refine Gr.alloc ?_ _ | refine Gr.drew ?_ | refine Gr.trans ?_ (by assumption) | refine Gr.setCell ?_ (by (try simp); (try omega)) _))⟩

set_option maxRecDepth 100000 in
set_option maxHeartbeats 4000000 in
theorem surely_mf_out (al ah bl bh low high low2 high2 y z : Int) (w : World) (hL : Logs w) (h1 : validS al ah = true) (h2 : validS bl bh = true) (hr : (-1000000000000000 ≤ low ∧ high ≤ 1000000000000000 ∧ -1000000000000000 ≤ low2 ∧ high2 ≤ 1000000000000000 ∧ low ≤ high ∧ low2 ≤ high2))
    (x1 : surelyI al ah low high = -1) (x2 : surelyI bl bh low high = y) (x3 : surelyI bl bh low2 high2 = z) (hin : (decide (al ≤ bl) && decide (bh ≤ ah)) = false) (hs : validS (al + bl) (ah + bh) = false) :
    Calls Tryd.prog 4 #[.agg #[.int .i64 al, .int .i64 ah], .agg #[.int .i64 bl, .int .i64 bh], .int .i64 low, .int .i64 high, .int .i64 low2, .int .i64 high2] w
      fun e w' => e = .returned (.bool true) ∧ Gr w w' := by
  have HL := Lib.hid hL
  have X1 := Lib.hid x1; have X2 := Lib.hid x2; have X3 := Lib.hid x3; have HI := Lib.hid hin; have HS := Lib.hid hs
  clear hL x1 x2 x3 hin hs
  obtain ⟨k1, k2, k3, k4, k5, k6⟩ := hr
  go_enter Tryd.func4, Tryd.ntmps4
  go_wp2_with (first | (go_at_call 12; with_reducible refine (head_any _ (HL.out.keep (by repeat (first | exact Gr.refl _ | refine Gr.alloc ?_ _ | refine Gr.drew ?_ | refine Gr.trans ?_ (by assumption) | refine Gr.setCell ?_ (by (try simp); (try omega)) _)))).mono ?_; rintro e w' ⟨rfl, hb⟩; have hz := hb.le; obtain ⟨hc, hf⟩ := hb.cells; (try simp only [World.size_alloc] at hc hf hz); (try simp only [World.size_setCell] at hc hf hz); (try simp only [World.size_drew] at hc hf hz)) | (go_at_call 13; with_reducible refine (both_any _ _ _ _ _).mono ?_; rintro e w' ⟨rfl, hb⟩; have hz := hb.le; obtain ⟨hc, hf⟩ := hb.cells; (try simp only [World.size_alloc] at hc hf hz); (try simp only [World.size_setCell] at hc hf hz); (try simp only [World.size_drew] at hc hf hz)) | (go_at_call 17; with_reducible refine (within_is _ h1 (by omega) X1.out).mono ?_; rintro e w' ⟨rfl, hb⟩; have hz := hb.le; obtain ⟨hc, hf⟩ := hb.cells; (try simp only [World.size_alloc] at hc hf hz); (try simp only [World.size_setCell] at hc hf hz); (try simp only [World.size_drew] at hc hf hz)) | (go_at_call 17; with_reducible refine (within_is _ h2 (by omega) X2.out).mono ?_; rintro e w' ⟨rfl, hb⟩; have hz := hb.le; obtain ⟨hc, hf⟩ := hb.cells; (try simp only [World.size_alloc] at hc hf hz); (try simp only [World.size_setCell] at hc hf hz); (try simp only [World.size_drew] at hc hf hz)) | (go_at_call 17; with_reducible refine (within_is _ h2 (by omega) X3.out).mono ?_; rintro e w' ⟨rfl, hb⟩; have hz := hb.le; obtain ⟨hc, hf⟩ := hb.cells; (try simp only [World.size_alloc] at hc hf hz); (try simp only [World.size_setCell] at hc hf hz); (try simp only [World.size_drew] at hc hf hz)) | (go_at_call 18; with_reducible refine (in_is _ HI.out).mono ?_; rintro e w' ⟨rfl, hb⟩; have hz := hb.le; obtain ⟨hc, hf⟩ := hb.cells; (try simp only [World.size_alloc] at hc hf hz); (try simp only [World.size_setCell] at hc hf hz); (try simp only [World.size_drew] at hc hf hz)) | (go_at_call 19; with_reducible refine (add_out _ _ _ _ _ h1 h2 HS.out).mono ?_; rintro e w' ⟨rfl, hb⟩; have hz := hb.le; obtain ⟨hc, hf⟩ := hb.cells; (try simp only [World.size_alloc] at hc hf hz); (try simp only [World.size_setCell] at hc hf hz); (try simp only [World.size_drew] at hc hf hz)))
  all_goals
    go_ret
    refine ⟨ret_bool ?_, (by repeat (first | exact Gr.refl _ | refine Gr.alloc ?_ _ | refine Gr.drew ?_ | refine Gr.trans ?_ (by assumption) | refine Gr.setCell ?_ (by (try simp); (try omega)) _))⟩
    first | rfl | (simp; omega) | simp | omega

set_option maxRecDepth 100000 in
set_option maxHeartbeats 4000000 in
theorem surely_mf_ok (al ah bl bh low high low2 high2 y z : Int) (w : World) (hL : Logs w) (h1 : validS al ah = true) (h2 : validS bl bh = true) (hr : (-1000000000000000 ≤ low ∧ high ≤ 1000000000000000 ∧ -1000000000000000 ≤ low2 ∧ high2 ≤ 1000000000000000 ∧ low ≤ high ∧ low2 ≤ high2))
    (x1 : surelyI al ah low high = -1) (x2 : surelyI bl bh low high = y) (x3 : surelyI bl bh low2 high2 = z) (hin : (decide (al ≤ bl) && decide (bh ≤ ah)) = false) (hs : validS (al + bl) (ah + bh) = true) :
    Calls Tryd.prog 4 #[.agg #[.int .i64 al, .int .i64 ah], .agg #[.int .i64 bl, .int .i64 bh], .int .i64 low, .int .i64 high, .int .i64 low2, .int .i64 high2] w
      fun e w' => e = .returned (.bool true) ∧ Gr w w' := by
  have HL := Lib.hid hL
  have X1 := Lib.hid x1; have X2 := Lib.hid x2; have X3 := Lib.hid x3; have HI := Lib.hid hin; have HS := Lib.hid hs
  clear hL x1 x2 x3 hin hs
  obtain ⟨k1, k2, k3, k4, k5, k6⟩ := hr
  go_enter Tryd.func4, Tryd.ntmps4
  go_wp2_with (first | (go_at_call 12; with_reducible refine (head_any _ (HL.out.keep (by repeat (first | exact Gr.refl _ | refine Gr.alloc ?_ _ | refine Gr.drew ?_ | refine Gr.trans ?_ (by assumption) | refine Gr.setCell ?_ (by (try simp); (try omega)) _)))).mono ?_; rintro e w' ⟨rfl, hb⟩; have hz := hb.le; obtain ⟨hc, hf⟩ := hb.cells; (try simp only [World.size_alloc] at hc hf hz); (try simp only [World.size_setCell] at hc hf hz); (try simp only [World.size_drew] at hc hf hz)) | (go_at_call 13; with_reducible refine (both_any _ _ _ _ _).mono ?_; rintro e w' ⟨rfl, hb⟩; have hz := hb.le; obtain ⟨hc, hf⟩ := hb.cells; (try simp only [World.size_alloc] at hc hf hz); (try simp only [World.size_setCell] at hc hf hz); (try simp only [World.size_drew] at hc hf hz)) | (go_at_call 17; with_reducible refine (within_is _ h1 (by omega) X1.out).mono ?_; rintro e w' ⟨rfl, hb⟩; have hz := hb.le; obtain ⟨hc, hf⟩ := hb.cells; (try simp only [World.size_alloc] at hc hf hz); (try simp only [World.size_setCell] at hc hf hz); (try simp only [World.size_drew] at hc hf hz)) | (go_at_call 17; with_reducible refine (within_is _ h2 (by omega) X2.out).mono ?_; rintro e w' ⟨rfl, hb⟩; have hz := hb.le; obtain ⟨hc, hf⟩ := hb.cells; (try simp only [World.size_alloc] at hc hf hz); (try simp only [World.size_setCell] at hc hf hz); (try simp only [World.size_drew] at hc hf hz)) | (go_at_call 17; with_reducible refine (within_is _ h2 (by omega) X3.out).mono ?_; rintro e w' ⟨rfl, hb⟩; have hz := hb.le; obtain ⟨hc, hf⟩ := hb.cells; (try simp only [World.size_alloc] at hc hf hz); (try simp only [World.size_setCell] at hc hf hz); (try simp only [World.size_drew] at hc hf hz)) | (go_at_call 18; with_reducible refine (in_is _ HI.out).mono ?_; rintro e w' ⟨rfl, hb⟩; have hz := hb.le; obtain ⟨hc, hf⟩ := hb.cells; (try simp only [World.size_alloc] at hc hf hz); (try simp only [World.size_setCell] at hc hf hz); (try simp only [World.size_drew] at hc hf hz)) | (go_at_call 19; with_reducible refine (add_ok _ _ _ _ _ h1 h2 HS.out).mono ?_; rintro e w' ⟨rfl, hb⟩; have hz := hb.le; obtain ⟨hc, hf⟩ := hb.cells; (try simp only [World.size_alloc] at hc hf hz); (try simp only [World.size_setCell] at hc hf hz); (try simp only [World.size_drew] at hc hf hz)))
  all_goals
    go_ret
    refine ⟨ret_bool ?_, (by repeat (first | exact Gr.refl _ | refine Gr.alloc ?_ _ | refine Gr.drew ?_ | refine Gr.trans ?_ (by assumption) | refine Gr.setCell ?_ (by (try simp); (try omega)) _))⟩
    first | rfl | (simp; omega) | simp | omega

set_option maxRecDepth 100000 in
set_option maxHeartbeats 4000000 in
theorem surely_mt_out (al ah bl bh low high low2 high2 z : Int) (w : World) (hL : Logs w) (h1 : validS al ah = true) (h2 : validS bl bh = true) (hr : (-1000000000000000 ≤ low ∧ high ≤ 1000000000000000 ∧ -1000000000000000 ≤ low2 ∧ high2 ≤ 1000000000000000 ∧ low ≤ high ∧ low2 ≤ high2))
    (x1 : surelyI al ah low high = -1) (x2 : surelyI bl bh low high = -1) (x3 : surelyI bl bh low2 high2 = z) (hin : (decide (al ≤ bl) && decide (bh ≤ ah)) = true) (hs : validS (al + bl) (ah + bh) = false) :
    Calls Tryd.prog 4 #[.agg #[.int .i64 al, .int .i64 ah], .agg #[.int .i64 bl, .int .i64 bh], .int .i64 low, .int .i64 high, .int .i64 low2, .int .i64 high2] w
      fun e w' => e = .returned (.bool true) ∧ Gr w w' := by
  have HL := Lib.hid hL
  have X1 := Lib.hid x1; have X2 := Lib.hid x2; have X3 := Lib.hid x3; have HI := Lib.hid hin; have HS := Lib.hid hs
  clear hL x1 x2 x3 hin hs
  obtain ⟨k1, k2, k3, k4, k5, k6⟩ := hr
  go_enter Tryd.func4, Tryd.ntmps4
  go_wp2_with (first | (go_at_call 12; with_reducible refine (head_any _ (HL.out.keep (by repeat (first | exact Gr.refl _ | refine Gr.alloc ?_ _ | refine Gr.drew ?_ | refine Gr.trans ?_ (by assumption) | refine Gr.setCell ?_ (by (try simp); (try omega)) _)))).mono ?_; rintro e w' ⟨rfl, hb⟩; have hz := hb.le; obtain ⟨hc, hf⟩ := hb.cells; (try simp only [World.size_alloc] at hc hf hz); (try simp only [World.size_setCell] at hc hf hz); (try simp only [World.size_drew] at hc hf hz)) | (go_at_call 13; with_reducible refine (both_any _ _ _ _ _).mono ?_; rintro e w' ⟨rfl, hb⟩; have hz := hb.le; obtain ⟨hc, hf⟩ := hb.cells; (try simp only [World.size_alloc] at hc hf hz); (try simp only [World.size_setCell] at hc hf hz); (try simp only [World.size_drew] at hc hf hz)) | (go_at_call 17; with_reducible refine (within_is _ h1 (by omega) X1.out).mono ?_; rintro e w' ⟨rfl, hb⟩; have hz := hb.le; obtain ⟨hc, hf⟩ := hb.cells; (try simp only [World.size_alloc] at hc hf hz); (try simp only [World.size_setCell] at hc hf hz); (try simp only [World.size_drew] at hc hf hz)) | (go_at_call 17; with_reducible refine (within_is _ h2 (by omega) X2.out).mono ?_; rintro e w' ⟨rfl, hb⟩; have hz := hb.le; obtain ⟨hc, hf⟩ := hb.cells; (try simp only [World.size_alloc] at hc hf hz); (try simp only [World.size_setCell] at hc hf hz); (try simp only [World.size_drew] at hc hf hz)) | (go_at_call 17; with_reducible refine (within_is _ h2 (by omega) X3.out).mono ?_; rintro e w' ⟨rfl, hb⟩; have hz := hb.le; obtain ⟨hc, hf⟩ := hb.cells; (try simp only [World.size_alloc] at hc hf hz); (try simp only [World.size_setCell] at hc hf hz); (try simp only [World.size_drew] at hc hf hz)) | (go_at_call 18; with_reducible refine (in_is _ HI.out).mono ?_; rintro e w' ⟨rfl, hb⟩; have hz := hb.le; obtain ⟨hc, hf⟩ := hb.cells; (try simp only [World.size_alloc] at hc hf hz); (try simp only [World.size_setCell] at hc hf hz); (try simp only [World.size_drew] at hc hf hz)) | (go_at_call 19; with_reducible refine (add_out _ _ _ _ _ h1 h2 HS.out).mono ?_; rintro e w' ⟨rfl, hb⟩; have hz := hb.le; obtain ⟨hc, hf⟩ := hb.cells; (try simp only [World.size_alloc] at hc hf hz); (try simp only [World.size_setCell] at hc hf hz); (try simp only [World.size_drew] at hc hf hz)))
  all_goals
    go_ret
    refine ⟨ret_bool ?_, (by repeat (first | exact Gr.refl _ | refine Gr.alloc ?_ _ | refine Gr.drew ?_ | refine Gr.trans ?_ (by assumption) | refine Gr.setCell ?_ (by (try simp); (try omega)) _))⟩
    first | rfl | (simp; omega) | simp | omega

set_option maxRecDepth 100000 in
set_option maxHeartbeats 4000000 in
theorem surely_mt_ok (al ah bl bh low high low2 high2 z : Int) (w : World) (hL : Logs w) (h1 : validS al ah = true) (h2 : validS bl bh = true) (hr : (-1000000000000000 ≤ low ∧ high ≤ 1000000000000000 ∧ -1000000000000000 ≤ low2 ∧ high2 ≤ 1000000000000000 ∧ low ≤ high ∧ low2 ≤ high2))
    (x1 : surelyI al ah low high = -1) (x2 : surelyI bl bh low high = -1) (x3 : surelyI bl bh low2 high2 = z) (hin : (decide (al ≤ bl) && decide (bh ≤ ah)) = true) (hs : validS (al + bl) (ah + bh) = true) :
    Calls Tryd.prog 4 #[.agg #[.int .i64 al, .int .i64 ah], .agg #[.int .i64 bl, .int .i64 bh], .int .i64 low, .int .i64 high, .int .i64 low2, .int .i64 high2] w
      fun e w' => e = .returned (.bool true) ∧ Gr w w' := by
  have HL := Lib.hid hL
  have X1 := Lib.hid x1; have X2 := Lib.hid x2; have X3 := Lib.hid x3; have HI := Lib.hid hin; have HS := Lib.hid hs
  clear hL x1 x2 x3 hin hs
  obtain ⟨k1, k2, k3, k4, k5, k6⟩ := hr
  go_enter Tryd.func4, Tryd.ntmps4
  go_wp2_with (first | (go_at_call 12; with_reducible refine (head_any _ (HL.out.keep (by repeat (first | exact Gr.refl _ | refine Gr.alloc ?_ _ | refine Gr.drew ?_ | refine Gr.trans ?_ (by assumption) | refine Gr.setCell ?_ (by (try simp); (try omega)) _)))).mono ?_; rintro e w' ⟨rfl, hb⟩; have hz := hb.le; obtain ⟨hc, hf⟩ := hb.cells; (try simp only [World.size_alloc] at hc hf hz); (try simp only [World.size_setCell] at hc hf hz); (try simp only [World.size_drew] at hc hf hz)) | (go_at_call 13; with_reducible refine (both_any _ _ _ _ _).mono ?_; rintro e w' ⟨rfl, hb⟩; have hz := hb.le; obtain ⟨hc, hf⟩ := hb.cells; (try simp only [World.size_alloc] at hc hf hz); (try simp only [World.size_setCell] at hc hf hz); (try simp only [World.size_drew] at hc hf hz)) | (go_at_call 17; with_reducible refine (within_is _ h1 (by omega) X1.out).mono ?_; rintro e w' ⟨rfl, hb⟩; have hz := hb.le; obtain ⟨hc, hf⟩ := hb.cells; (try simp only [World.size_alloc] at hc hf hz); (try simp only [World.size_setCell] at hc hf hz); (try simp only [World.size_drew] at hc hf hz)) | (go_at_call 17; with_reducible refine (within_is _ h2 (by omega) X2.out).mono ?_; rintro e w' ⟨rfl, hb⟩; have hz := hb.le; obtain ⟨hc, hf⟩ := hb.cells; (try simp only [World.size_alloc] at hc hf hz); (try simp only [World.size_setCell] at hc hf hz); (try simp only [World.size_drew] at hc hf hz)) | (go_at_call 17; with_reducible refine (within_is _ h2 (by omega) X3.out).mono ?_; rintro e w' ⟨rfl, hb⟩; have hz := hb.le; obtain ⟨hc, hf⟩ := hb.cells; (try simp only [World.size_alloc] at hc hf hz); (try simp only [World.size_setCell] at hc hf hz); (try simp only [World.size_drew] at hc hf hz)) | (go_at_call 18; with_reducible refine (in_is _ HI.out).mono ?_; rintro e w' ⟨rfl, hb⟩; have hz := hb.le; obtain ⟨hc, hf⟩ := hb.cells; (try simp only [World.size_alloc] at hc hf hz); (try simp only [World.size_setCell] at hc hf hz); (try simp only [World.size_drew] at hc hf hz)) | (go_at_call 19; with_reducible refine (add_ok _ _ _ _ _ h1 h2 HS.out).mono ?_; rintro e w' ⟨rfl, hb⟩; have hz := hb.le; obtain ⟨hc, hf⟩ := hb.cells; (try simp only [World.size_alloc] at hc hf hz); (try simp only [World.size_setCell] at hc hf hz); (try simp only [World.size_drew] at hc hf hz)))
  all_goals
    go_ret
    refine ⟨ret_bool ?_, (by repeat (first | exact Gr.refl _ | refine Gr.alloc ?_ _ | refine Gr.drew ?_ | refine Gr.trans ?_ (by assumption) | refine Gr.setCell ?_ (by (try simp); (try omega)) _))⟩
    first | rfl | (simp; omega) | simp | omega

set_option maxRecDepth 100000 in
set_option maxHeartbeats 4000000 in
theorem surely_of_out (al ah bl bh low high low2 high2 y z : Int) (w : World) (hL : Logs w) (h1 : validS al ah = true) (h2 : validS bl bh = true) (hr : (-1000000000000000 ≤ low ∧ high ≤ 1000000000000000 ∧ -1000000000000000 ≤ low2 ∧ high2 ≤ 1000000000000000 ∧ low ≤ high ∧ low2 ≤ high2))
    (x1 : surelyI al ah low high = 0) (x2 : surelyI bl bh low high = y) (x3 : surelyI bl bh low2 high2 = z) (hin : (decide (al ≤ bl) && decide (bh ≤ ah)) = false) (hs : validS (al + bl) (ah + bh) = false) :
    Calls Tryd.prog 4 #[.agg #[.int .i64 al, .int .i64 ah], .agg #[.int .i64 bl, .int .i64 bh], .int .i64 low, .int .i64 high, .int .i64 low2, .int .i64 high2] w
      fun e w' => e = .returned (.bool true) ∧ Gr w w' := by
  have HL := Lib.hid hL
  have X1 := Lib.hid x1; have X2 := Lib.hid x2; have X3 := Lib.hid x3; have HI := Lib.hid hin; have HS := Lib.hid hs
  clear hL x1 x2 x3 hin hs
  obtain ⟨k1, k2, k3, k4, k5, k6⟩ := hr
  go_enter Tryd.func4, Tryd.ntmps4
  go_wp2_with (first | (go_at_call 12; with_reducible refine (head_any _ (HL.out.keep (by repeat (first | exact Gr.refl _ | refine Gr.alloc ?_ _ | refine Gr.drew ?_ | refine Gr.trans ?_ (by assumption) | refine Gr.setCell ?_ (by (try simp); (try omega)) _)))).mono ?_; rintro e w' ⟨rfl, hb⟩; have hz := hb.le; obtain ⟨hc, hf⟩ := hb.cells; (try simp only [World.size_alloc] at hc hf hz); (try simp only [World.size_setCell] at hc hf hz); (try simp only [World.size_drew] at hc hf hz)) | (go_at_call 13; with_reducible refine (both_any _ _ _ _ _).mono ?_; rintro e w' ⟨rfl, hb⟩; have hz := hb.le; obtain ⟨hc, hf⟩ := hb.cells; (try simp only [World.size_alloc] at hc hf hz); (try simp only [World.size_setCell] at hc hf hz); (try simp only [World.size_drew] at hc hf hz)) | (go_at_call 17; with_reducible refine (within_is _ h1 (by omega) X1.out).mono ?_; rintro e w' ⟨rfl, hb⟩; have hz := hb.le; obtain ⟨hc, hf⟩ := hb.cells; (try simp only [World.size_alloc] at hc hf hz); (try simp only [World.size_setCell] at hc hf hz); (try simp only [World.size_drew] at hc hf hz)) | (go_at_call 17; with_reducible refine (within_is _ h2 (by omega) X2.out).mono ?_; rintro e w' ⟨rfl, hb⟩; have hz := hb.le; obtain ⟨hc, hf⟩ := hb.cells; (try simp only [World.size_alloc] at hc hf hz); (try simp only [World.size_setCell] at hc hf hz); (try simp only [World.size_drew] at hc hf hz)) | (go_at_call 17; with_reducible refine (within_is _ h2 (by omega) X3.out).mono ?_; rintro e w' ⟨rfl, hb⟩; have hz := hb.le; obtain ⟨hc, hf⟩ := hb.cells; (try simp only [World.size_alloc] at hc hf hz); (try simp only [World.size_setCell] at hc hf hz); (try simp only [World.size_drew] at hc hf hz)) | (go_at_call 18; with_reducible refine (in_is _ HI.out).mono ?_; rintro e w' ⟨rfl, hb⟩; have hz := hb.le; obtain ⟨hc, hf⟩ := hb.cells; (try simp only [World.size_alloc] at hc hf hz); (try simp only [World.size_setCell] at hc hf hz); (try simp only [World.size_drew] at hc hf hz)) | (go_at_call 19; with_reducible refine (add_out _ _ _ _ _ h1 h2 HS.out).mono ?_; rintro e w' ⟨rfl, hb⟩; have hz := hb.le; obtain ⟨hc, hf⟩ := hb.cells; (try simp only [World.size_alloc] at hc hf hz); (try simp only [World.size_setCell] at hc hf hz); (try simp only [World.size_drew] at hc hf hz)))
  all_goals
    go_ret
    refine ⟨ret_bool ?_, (by repeat (first | exact Gr.refl _ | refine Gr.alloc ?_ _ | refine Gr.drew ?_ | refine Gr.trans ?_ (by assumption) | refine Gr.setCell ?_ (by (try simp); (try omega)) _))⟩
    first | rfl | (simp; omega) | simp | omega

set_option maxRecDepth 100000 in
set_option maxHeartbeats 4000000 in
theorem surely_of_ok (al ah bl bh low high low2 high2 y z : Int) (w : World) (hL : Logs w) (h1 : validS al ah = true) (h2 : validS bl bh = true) (hr : (-1000000000000000 ≤ low ∧ high ≤ 1000000000000000 ∧ -1000000000000000 ≤ low2 ∧ high2 ≤ 1000000000000000 ∧ low ≤ high ∧ low2 ≤ high2))
    (x1 : surelyI al ah low high = 0) (x2 : surelyI bl bh low high = y) (x3 : surelyI bl bh low2 high2 = z) (hin : (decide (al ≤ bl) && decide (bh ≤ ah)) = false) (hs : validS (al + bl) (ah + bh) = true) :
    Calls Tryd.prog 4 #[.agg #[.int .i64 al, .int .i64 ah], .agg #[.int .i64 bl, .int .i64 bh], .int .i64 low, .int .i64 high, .int .i64 low2, .int .i64 high2] w
      fun e w' => e = .returned (.bool true) ∧ Gr w w' := by
  have HL := Lib.hid hL
  have X1 := Lib.hid x1; have X2 := Lib.hid x2; have X3 := Lib.hid x3; have HI := Lib.hid hin; have HS := Lib.hid hs
  clear hL x1 x2 x3 hin hs
  obtain ⟨k1, k2, k3, k4, k5, k6⟩ := hr
  go_enter Tryd.func4, Tryd.ntmps4
  go_wp2_with (first | (go_at_call 12; with_reducible refine (head_any _ (HL.out.keep (by repeat (first | exact Gr.refl _ | refine Gr.alloc ?_ _ | refine Gr.drew ?_ | refine Gr.trans ?_ (by assumption) | refine Gr.setCell ?_ (by (try simp); (try omega)) _)))).mono ?_; rintro e w' ⟨rfl, hb⟩; have hz := hb.le; obtain ⟨hc, hf⟩ := hb.cells; (try simp only [World.size_alloc] at hc hf hz); (try simp only [World.size_setCell] at hc hf hz); (try simp only [World.size_drew] at hc hf hz)) | (go_at_call 13; with_reducible refine (both_any _ _ _ _ _).mono ?_; rintro e w' ⟨rfl, hb⟩; have hz := hb.le; obtain ⟨hc, hf⟩ := hb.cells; (try simp only [World.size_alloc] at hc hf hz); (try simp only [World.size_setCell] at hc hf hz); (try simp only [World.size_drew] at hc hf hz)) | (go_at_call 17; with_reducible refine (within_is _ h1 (by omega) X1.out).mono ?_; rintro e w' ⟨rfl, hb⟩; have hz := hb.le; obtain ⟨hc, hf⟩ := hb.cells; (try simp only [World.size_alloc] at hc hf hz); (try simp only [World.size_setCell] at hc hf hz); (try simp only [World.size_drew] at hc hf hz)) | (go_at_call 17; with_reducible refine (within_is _ h2 (by omega) X2.out).mono ?_; rintro e w' ⟨rfl, hb⟩; have hz := hb.le; obtain ⟨hc, hf⟩ := hb.cells; (try simp only [World.size_alloc] at hc hf hz); (try simp only [World.size_setCell] at hc hf hz); (try simp only [World.size_drew] at hc hf hz)) | (go_at_call 17; with_reducible refine (within_is _ h2 (by omega) X3.out).mono ?_; rintro e w' ⟨rfl, hb⟩; have hz := hb.le; obtain ⟨hc, hf⟩ := hb.cells; (try simp only [World.size_alloc] at hc hf hz); (try simp only [World.size_setCell] at hc hf hz); (try simp only [World.size_drew] at hc hf hz)) | (go_at_call 18; with_reducible refine (in_is _ HI.out).mono ?_; rintro e w' ⟨rfl, hb⟩; have hz := hb.le; obtain ⟨hc, hf⟩ := hb.cells; (try simp only [World.size_alloc] at hc hf hz); (try simp only [World.size_setCell] at hc hf hz); (try simp only [World.size_drew] at hc hf hz)) | (go_at_call 19; with_reducible refine (add_ok _ _ _ _ _ h1 h2 HS.out).mono ?_; rintro e w' ⟨rfl, hb⟩; have hz := hb.le; obtain ⟨hc, hf⟩ := hb.cells; (try simp only [World.size_alloc] at hc hf hz); (try simp only [World.size_setCell] at hc hf hz); (try simp only [World.size_drew] at hc hf hz)))
  all_goals
    go_ret
    refine ⟨ret_bool ?_, (by repeat (first | exact Gr.refl _ | refine Gr.alloc ?_ _ | refine Gr.drew ?_ | refine Gr.trans ?_ (by assumption) | refine Gr.setCell ?_ (by (try simp); (try omega)) _))⟩
    first | rfl | (simp; omega) | simp | omega

set_option maxRecDepth 100000 in
set_option maxHeartbeats 4000000 in
theorem surely_ot_out (al ah bl bh low high low2 high2 y z : Int) (w : World) (hL : Logs w) (h1 : validS al ah = true) (h2 : validS bl bh = true) (hr : (-1000000000000000 ≤ low ∧ high ≤ 1000000000000000 ∧ -1000000000000000 ≤ low2 ∧ high2 ≤ 1000000000000000 ∧ low ≤ high ∧ low2 ≤ high2))
    (x1 : surelyI al ah low high = 0) (x2 : surelyI bl bh low high = y) (x3 : surelyI bl bh low2 high2 = z) (hin : (decide (al ≤ bl) && decide (bh ≤ ah)) = true) (hs : validS (al + bl) (ah + bh) = false) :
    Calls Tryd.prog 4 #[.agg #[.int .i64 al, .int .i64 ah], .agg #[.int .i64 bl, .int .i64 bh], .int .i64 low, .int .i64 high, .int .i64 low2, .int .i64 high2] w
      fun e w' => e = .returned (.bool true) ∧ Gr w w' := by
  have HL := Lib.hid hL
  have X1 := Lib.hid x1; have X2 := Lib.hid x2; have X3 := Lib.hid x3; have HI := Lib.hid hin; have HS := Lib.hid hs
  clear hL x1 x2 x3 hin hs
  obtain ⟨k1, k2, k3, k4, k5, k6⟩ := hr
  go_enter Tryd.func4, Tryd.ntmps4
  go_wp2_with (first | (go_at_call 12; with_reducible refine (head_any _ (HL.out.keep (by repeat (first | exact Gr.refl _ | refine Gr.alloc ?_ _ | refine Gr.drew ?_ | refine Gr.trans ?_ (by assumption) | refine Gr.setCell ?_ (by (try simp); (try omega)) _)))).mono ?_; rintro e w' ⟨rfl, hb⟩; have hz := hb.le; obtain ⟨hc, hf⟩ := hb.cells; (try simp only [World.size_alloc] at hc hf hz); (try simp only [World.size_setCell] at hc hf hz); (try simp only [World.size_drew] at hc hf hz)) | (go_at_call 13; with_reducible refine (both_any _ _ _ _ _).mono ?_; rintro e w' ⟨rfl, hb⟩; have hz := hb.le; obtain ⟨hc, hf⟩ := hb.cells; (try simp only [World.size_alloc] at hc hf hz); (try simp only [World.size_setCell] at hc hf hz); (try simp only [World.size_drew] at hc hf hz)) | (go_at_call 17; with_reducible refine (within_is _ h1 (by omega) X1.out).mono ?_; rintro e w' ⟨rfl, hb⟩; have hz := hb.le; obtain ⟨hc, hf⟩ := hb.cells; (try simp only [World.size_alloc] at hc hf hz); (try simp only [World.size_setCell] at hc hf hz); (try simp only [World.size_drew] at hc hf hz)) | (go_at_call 17; with_reducible refine (within_is _ h2 (by omega) X2.out).mono ?_; rintro e w' ⟨rfl, hb⟩; have hz := hb.le; obtain ⟨hc, hf⟩ := hb.cells; (try simp only [World.size_alloc] at hc hf hz); (try simp only [World.size_setCell] at hc hf hz); (try simp only [World.size_drew] at hc hf hz)) | (go_at_call 17; with_reducible refine (within_is _ h2 (by omega) X3.out).mono ?_; rintro e w' ⟨rfl, hb⟩; have hz := hb.le; obtain ⟨hc, hf⟩ := hb.cells; (try simp only [World.size_alloc] at hc hf hz); (try simp only [World.size_setCell] at hc hf hz); (try simp only [World.size_drew] at hc hf hz)) | (go_at_call 18; with_reducible refine (in_is _ HI.out).mono ?_; rintro e w' ⟨rfl, hb⟩; have hz := hb.le; obtain ⟨hc, hf⟩ := hb.cells; (try simp only [World.size_alloc] at hc hf hz); (try simp only [World.size_setCell] at hc hf hz); (try simp only [World.size_drew] at hc hf hz)) | (go_at_call 19; with_reducible refine (add_out _ _ _ _ _ h1 h2 HS.out).mono ?_; rintro e w' ⟨rfl, hb⟩; have hz := hb.le; obtain ⟨hc, hf⟩ := hb.cells; (try simp only [World.size_alloc] at hc hf hz); (try simp only [World.size_setCell] at hc hf hz); (try simp only [World.size_drew] at hc hf hz)))
  all_goals
    go_ret
    refine ⟨ret_bool ?_, (by repeat (first | exact Gr.refl _ | refine Gr.alloc ?_ _ | refine Gr.drew ?_ | refine Gr.trans ?_ (by assumption) | refine Gr.setCell ?_ (by (try simp); (try omega)) _))⟩
    first | rfl | (simp; omega) | simp | omega

set_option maxRecDepth 100000 in
set_option maxHeartbeats 4000000 in
theorem surely_ot_ok (al ah bl bh low high low2 high2 y z : Int) (w : World) (hL : Logs w) (h1 : validS al ah = true) (h2 : validS bl bh = true) (hr : (-1000000000000000 ≤ low ∧ high ≤ 1000000000000000 ∧ -1000000000000000 ≤ low2 ∧ high2 ≤ 1000000000000000 ∧ low ≤ high ∧ low2 ≤ high2))
    (x1 : surelyI al ah low high = 0) (x2 : surelyI bl bh low high = y) (x3 : surelyI bl bh low2 high2 = z) (hin : (decide (al ≤ bl) && decide (bh ≤ ah)) = true) (hs : validS (al + bl) (ah + bh) = true) :
    Calls Tryd.prog 4 #[.agg #[.int .i64 al, .int .i64 ah], .agg #[.int .i64 bl, .int .i64 bh], .int .i64 low, .int .i64 high, .int .i64 low2, .int .i64 high2] w
      fun e w' => e = .returned (.bool true) ∧ Gr w w' := by
  have HL := Lib.hid hL
  have X1 := Lib.hid x1; have X2 := Lib.hid x2; have X3 := Lib.hid x3; have HI := Lib.hid hin; have HS := Lib.hid hs
  clear hL x1 x2 x3 hin hs
  obtain ⟨k1, k2, k3, k4, k5, k6⟩ := hr
  go_enter Tryd.func4, Tryd.ntmps4
  go_wp2_with (first | (go_at_call 12; with_reducible refine (head_any _ (HL.out.keep (by repeat (first | exact Gr.refl _ | refine Gr.alloc ?_ _ | refine Gr.drew ?_ | refine Gr.trans ?_ (by assumption) | refine Gr.setCell ?_ (by (try simp); (try omega)) _)))).mono ?_; rintro e w' ⟨rfl, hb⟩; have hz := hb.le; obtain ⟨hc, hf⟩ := hb.cells; (try simp only [World.size_alloc] at hc hf hz); (try simp only [World.size_setCell] at hc hf hz); (try simp only [World.size_drew] at hc hf hz)) | (go_at_call 13; with_reducible refine (both_any _ _ _ _ _).mono ?_; rintro e w' ⟨rfl, hb⟩; have hz := hb.le; obtain ⟨hc, hf⟩ := hb.cells; (try simp only [World.size_alloc] at hc hf hz); (try simp only [World.size_setCell] at hc hf hz); (try simp only [World.size_drew] at hc hf hz)) | (go_at_call 17; with_reducible refine (within_is _ h1 (by omega) X1.out).mono ?_; rintro e w' ⟨rfl, hb⟩; have hz := hb.le; obtain ⟨hc, hf⟩ := hb.cells; (try simp only [World.size_alloc] at hc hf hz); (try simp only [World.size_setCell] at hc hf hz); (try simp only [World.size_drew] at hc hf hz)) | (go_at_call 17; with_reducible refine (within_is _ h2 (by omega) X2.out).mono ?_; rintro e w' ⟨rfl, hb⟩; have hz := hb.le; obtain ⟨hc, hf⟩ := hb.cells; (try simp only [World.size_alloc] at hc hf hz); (try simp only [World.size_setCell] at hc hf hz); (try simp only [World.size_drew] at hc hf hz)) | (go_at_call 17; with_reducible refine (within_is _ h2 (by omega) X3.out).mono ?_; rintro e w' ⟨rfl, hb⟩; have hz := hb.le; obtain ⟨hc, hf⟩ := hb.cells; (try simp only [World.size_alloc] at hc hf hz); (try simp only [World.size_setCell] at hc hf hz); (try simp only [World.size_drew] at hc hf hz)) | (go_at_call 18; with_reducible refine (in_is _ HI.out).mono ?_; rintro e w' ⟨rfl, hb⟩; have hz := hb.le; obtain ⟨hc, hf⟩ := hb.cells; (try simp only [World.size_alloc] at hc hf hz); (try simp only [World.size_setCell] at hc hf hz); (try simp only [World.size_drew] at hc hf hz)) | (go_at_call 19; with_reducible refine (add_ok _ _ _ _ _ h1 h2 HS.out).mono ?_; rintro e w' ⟨rfl, hb⟩; have hz := hb.le; obtain ⟨hc, hf⟩ := hb.cells; (try simp only [World.size_alloc] at hc hf hz); (try simp only [World.size_setCell] at hc hf hz); (try simp only [World.size_drew] at hc hf hz)))
  all_goals
    go_ret
    refine ⟨ret_bool ?_, (by repeat (first | exact Gr.refl _ | refine Gr.alloc ?_ _ | refine Gr.drew ?_ | refine Gr.trans ?_ (by assumption) | refine Gr.setCell ?_ (by (try simp); (try omega)) _))⟩
    first | rfl | (simp; omega) | simp | omega

set_option maxRecDepth 100000 in
set_option maxHeartbeats 4000000 in
theorem surely_pf_out (al ah bl bh low high low2 high2 y z : Int) (w : World) (hL : Logs w) (h1 : validS al ah = true) (h2 : validS bl bh = true) (hr : (-1000000000000000 ≤ low ∧ high ≤ 1000000000000000 ∧ -1000000000000000 ≤ low2 ∧ high2 ≤ 1000000000000000 ∧ low ≤ high ∧ low2 ≤ high2))
    (x1 : surelyI al ah low high = 1) (x2 : surelyI bl bh low high = y) (x3 : surelyI bl bh low2 high2 = z) (hin : (decide (al ≤ bl) && decide (bh ≤ ah)) = false) (hs : validS (al + bl) (ah + bh) = false) :
    Calls Tryd.prog 4 #[.agg #[.int .i64 al, .int .i64 ah], .agg #[.int .i64 bl, .int .i64 bh], .int .i64 low, .int .i64 high, .int .i64 low2, .int .i64 high2] w
      fun e w' => e = .returned (.bool true) ∧ Gr w w' := by
  have HL := Lib.hid hL
  have X1 := Lib.hid x1; have X2 := Lib.hid x2; have X3 := Lib.hid x3; have HI := Lib.hid hin; have HS := Lib.hid hs
  clear hL x1 x2 x3 hin hs
  obtain ⟨k1, k2, k3, k4, k5, k6⟩ := hr
  go_enter Tryd.func4, Tryd.ntmps4
  go_wp2_with (first | (go_at_call 12; with_reducible refine (head_any _ (HL.out.keep (by repeat (first | exact Gr.refl _ | refine Gr.alloc ?_ _ | refine Gr.drew ?_ | refine Gr.trans ?_ (by assumption) | refine Gr.setCell ?_ (by (try simp); (try omega)) _)))).mono ?_; rintro e w' ⟨rfl, hb⟩; have hz := hb.le; obtain ⟨hc, hf⟩ := hb.cells; (try simp only [World.size_alloc] at hc hf hz); (try simp only [World.size_setCell] at hc hf hz); (try simp only [World.size_drew] at hc hf hz)) | (go_at_call 13; with_reducible refine (both_any _ _ _ _ _).mono ?_; rintro e w' ⟨rfl, hb⟩; have hz := hb.le; obtain ⟨hc, hf⟩ := hb.cells; (try simp only [World.size_alloc] at hc hf hz); (try simp only [World.size_setCell] at hc hf hz); (try simp only [World.size_drew] at hc hf hz)) | (go_at_call 17; with_reducible refine (within_is _ h1 (by omega) X1.out).mono ?_; rintro e w' ⟨rfl, hb⟩; have hz := hb.le; obtain ⟨hc, hf⟩ := hb.cells; (try simp only [World.size_alloc] at hc hf hz); (try simp only [World.size_setCell] at hc hf hz); (try simp only [World.size_drew] at hc hf hz)) | (go_at_call 17; with_reducible refine (within_is _ h2 (by omega) X2.out).mono ?_; rintro e w' ⟨rfl, hb⟩; have hz := hb.le; obtain ⟨hc, hf⟩ := hb.cells; (try simp only [World.size_alloc] at hc hf hz); (try simp only [World.size_setCell] at hc hf hz); (try simp only [World.size_drew] at hc hf hz)) | (go_at_call 17; with_reducible refine (within_is _ h2 (by omega) X3.out).mono ?_; rintro e w' ⟨rfl, hb⟩; have hz := hb.le; obtain ⟨hc, hf⟩ := hb.cells; (try simp only [World.size_alloc] at hc hf hz); (try simp only [World.size_setCell] at hc hf hz); (try simp only [World.size_drew] at hc hf hz)) | (go_at_call 18; with_reducible refine (in_is _ HI.out).mono ?_; rintro e w' ⟨rfl, hb⟩; have hz := hb.le; obtain ⟨hc, hf⟩ := hb.cells; (try simp only [World.size_alloc] at hc hf hz); (try simp only [World.size_setCell] at hc hf hz); (try simp only [World.size_drew] at hc hf hz)) | (go_at_call 19; with_reducible refine (add_out _ _ _ _ _ h1 h2 HS.out).mono ?_; rintro e w' ⟨rfl, hb⟩; have hz := hb.le; obtain ⟨hc, hf⟩ := hb.cells; (try simp only [World.size_alloc] at hc hf hz); (try simp only [World.size_setCell] at hc hf hz); (try simp only [World.size_drew] at hc hf hz)))
  all_goals
    go_ret
    refine ⟨ret_bool ?_, (by repeat (first | exact Gr.refl _ | refine Gr.alloc ?_ _ | refine Gr.drew ?_ | refine Gr.trans ?_ (by assumption) | refine Gr.setCell ?_ (by (try simp); (try omega)) _))⟩
    first | rfl | (simp; omega) | simp | omega

set_option maxRecDepth 100000 in
set_option maxHeartbeats 4000000 in
theorem surely_pf_zn (al ah bl bh low high low2 high2 y z : Int) (w : World) (hL : Logs w) (h1 : validS al ah = true) (h2 : validS bl bh = true) (hr : (-1000000000000000 ≤ low ∧ high ≤ 1000000000000000 ∧ -1000000000000000 ≤ low2 ∧ high2 ≤ 1000000000000000 ∧ low ≤ high ∧ low2 ≤ high2))
    (x1 : surelyI al ah low high = 1) (x2 : surelyI bl bh low high = y) (x3 : surelyI bl bh low2 high2 = z) (hin : (decide (al ≤ bl) && decide (bh ≤ ah)) = false) (hs : validS (al + bl) (ah + bh) = true) (hzn : (z != 1) = true) :
    Calls Tryd.prog 4 #[.agg #[.int .i64 al, .int .i64 ah], .agg #[.int .i64 bl, .int .i64 bh], .int .i64 low, .int .i64 high, .int .i64 low2, .int .i64 high2] w
      fun e w' => e = .returned (.bool true) ∧ Gr w w' := by
  have HL := Lib.hid hL
  have X1 := Lib.hid x1; have X2 := Lib.hid x2; have X3 := Lib.hid x3; have HI := Lib.hid hin; have HS := Lib.hid hs
  clear hL x1 x2 x3 hin hs
  obtain ⟨k1, k2, k3, k4, k5, k6⟩ := hr
  go_enter Tryd.func4, Tryd.ntmps4
  go_wp2_with (first | (go_at_call 12; with_reducible refine (head_any _ (HL.out.keep (by repeat (first | exact Gr.refl _ | refine Gr.alloc ?_ _ | refine Gr.drew ?_ | refine Gr.trans ?_ (by assumption) | refine Gr.setCell ?_ (by (try simp); (try omega)) _)))).mono ?_; rintro e w' ⟨rfl, hb⟩; have hz := hb.le; obtain ⟨hc, hf⟩ := hb.cells; (try simp only [World.size_alloc] at hc hf hz); (try simp only [World.size_setCell] at hc hf hz); (try simp only [World.size_drew] at hc hf hz)) | (go_at_call 13; with_reducible refine (both_any _ _ _ _ _).mono ?_; rintro e w' ⟨rfl, hb⟩; have hz := hb.le; obtain ⟨hc, hf⟩ := hb.cells; (try simp only [World.size_alloc] at hc hf hz); (try simp only [World.size_setCell] at hc hf hz); (try simp only [World.size_drew] at hc hf hz)) | (go_at_call 17; with_reducible refine (within_is _ h1 (by omega) X1.out).mono ?_; rintro e w' ⟨rfl, hb⟩; have hz := hb.le; obtain ⟨hc, hf⟩ := hb.cells; (try simp only [World.size_alloc] at hc hf hz); (try simp only [World.size_setCell] at hc hf hz); (try simp only [World.size_drew] at hc hf hz)) | (go_at_call 17; with_reducible refine (within_is _ h2 (by omega) X2.out).mono ?_; rintro e w' ⟨rfl, hb⟩; have hz := hb.le; obtain ⟨hc, hf⟩ := hb.cells; (try simp only [World.size_alloc] at hc hf hz); (try simp only [World.size_setCell] at hc hf hz); (try simp only [World.size_drew] at hc hf hz)) | (go_at_call 17; with_reducible refine (within_is _ h2 (by omega) X3.out).mono ?_; rintro e w' ⟨rfl, hb⟩; have hz := hb.le; obtain ⟨hc, hf⟩ := hb.cells; (try simp only [World.size_alloc] at hc hf hz); (try simp only [World.size_setCell] at hc hf hz); (try simp only [World.size_drew] at hc hf hz)) | (go_at_call 18; with_reducible refine (in_is _ HI.out).mono ?_; rintro e w' ⟨rfl, hb⟩; have hz := hb.le; obtain ⟨hc, hf⟩ := hb.cells; (try simp only [World.size_alloc] at hc hf hz); (try simp only [World.size_setCell] at hc hf hz); (try simp only [World.size_drew] at hc hf hz)) | (go_at_call 19; with_reducible refine (add_ok _ _ _ _ _ h1 h2 HS.out).mono ?_; rintro e w' ⟨rfl, hb⟩; have hz := hb.le; obtain ⟨hc, hf⟩ := hb.cells; (try simp only [World.size_alloc] at hc hf hz); (try simp only [World.size_setCell] at hc hf hz); (try simp only [World.size_drew] at hc hf hz)))
  all_goals
    go_ret
    refine ⟨ret_bool ?_, (by repeat (first | exact Gr.refl _ | refine Gr.alloc ?_ _ | refine Gr.drew ?_ | refine Gr.trans ?_ (by assumption) | refine Gr.setCell ?_ (by (try simp); (try omega)) _))⟩
    first | rfl | (simp; omega) | simp | omega

set_option maxRecDepth 100000 in
set_option maxHeartbeats 4000000 in
theorem surely_pf_z1 (al ah bl bh low high low2 high2 y : Int) (w : World) (hL : Logs w) (h1 : validS al ah = true) (h2 : validS bl bh = true) (hr : (-1000000000000000 ≤ low ∧ high ≤ 1000000000000000 ∧ -1000000000000000 ≤ low2 ∧ high2 ≤ 1000000000000000 ∧ low ≤ high ∧ low2 ≤ high2))
    (x1 : surelyI al ah low high = 1) (x2 : surelyI bl bh low high = y) (x3 : surelyI bl bh low2 high2 = 1) (hin : (decide (al ≤ bl) && decide (bh ≤ ah)) = false) (hs : validS (al + bl) (ah + bh) = true) (hw : surelyI (al + bl) (ah + bh) (low + low2) (high + high2) = 1) :
    Calls Tryd.prog 4 #[.agg #[.int .i64 al, .int .i64 ah], .agg #[.int .i64 bl, .int .i64 bh], .int .i64 low, .int .i64 high, .int .i64 low2, .int .i64 high2] w
      fun e w' => e = .returned (.bool true) ∧ Gr w w' := by
  have HL := Lib.hid hL
  have X1 := Lib.hid x1; have X2 := Lib.hid x2; have X3 := Lib.hid x3; have HI := Lib.hid hin; have HS := Lib.hid hs
  have HW := Lib.hid hw
  clear hw
  clear hL x1 x2 x3 hin hs
  obtain ⟨k1, k2, k3, k4, k5, k6⟩ := hr
  go_enter Tryd.func4, Tryd.ntmps4
  go_wp2_with (first | (go_at_call 12; with_reducible refine (head_any _ (HL.out.keep (by repeat (first | exact Gr.refl _ | refine Gr.alloc ?_ _ | refine Gr.drew ?_ | refine Gr.trans ?_ (by assumption) | refine Gr.setCell ?_ (by (try simp); (try omega)) _)))).mono ?_; rintro e w' ⟨rfl, hb⟩; have hz := hb.le; obtain ⟨hc, hf⟩ := hb.cells; (try simp only [World.size_alloc] at hc hf hz); (try simp only [World.size_setCell] at hc hf hz); (try simp only [World.size_drew] at hc hf hz)) | (go_at_call 13; with_reducible refine (both_any _ _ _ _ _).mono ?_; rintro e w' ⟨rfl, hb⟩; have hz := hb.le; obtain ⟨hc, hf⟩ := hb.cells; (try simp only [World.size_alloc] at hc hf hz); (try simp only [World.size_setCell] at hc hf hz); (try simp only [World.size_drew] at hc hf hz)) | (go_at_call 17; with_reducible refine (within_is _ h1 (by omega) X1.out).mono ?_; rintro e w' ⟨rfl, hb⟩; have hz := hb.le; obtain ⟨hc, hf⟩ := hb.cells; (try simp only [World.size_alloc] at hc hf hz); (try simp only [World.size_setCell] at hc hf hz); (try simp only [World.size_drew] at hc hf hz)) | (go_at_call 17; with_reducible refine (within_is _ h2 (by omega) X2.out).mono ?_; rintro e w' ⟨rfl, hb⟩; have hz := hb.le; obtain ⟨hc, hf⟩ := hb.cells; (try simp only [World.size_alloc] at hc hf hz); (try simp only [World.size_setCell] at hc hf hz); (try simp only [World.size_drew] at hc hf hz)) | (go_at_call 17; with_reducible refine (within_is _ h2 (by omega) X3.out).mono ?_; rintro e w' ⟨rfl, hb⟩; have hz := hb.le; obtain ⟨hc, hf⟩ := hb.cells; (try simp only [World.size_alloc] at hc hf hz); (try simp only [World.size_setCell] at hc hf hz); (try simp only [World.size_drew] at hc hf hz)) | (go_at_call 18; with_reducible refine (in_is _ HI.out).mono ?_; rintro e w' ⟨rfl, hb⟩; have hz := hb.le; obtain ⟨hc, hf⟩ := hb.cells; (try simp only [World.size_alloc] at hc hf hz); (try simp only [World.size_setCell] at hc hf hz); (try simp only [World.size_drew] at hc hf hz)) | (go_at_call 19; with_reducible refine (add_ok _ _ _ _ _ h1 h2 HS.out).mono ?_; rintro e w' ⟨rfl, hb⟩; have hz := hb.le; obtain ⟨hc, hf⟩ := hb.cells; (try simp only [World.size_alloc] at hc hf hz); (try simp only [World.size_setCell] at hc hf hz); (try simp only [World.size_drew] at hc hf hz)) | (go_at_call 17; with_reducible refine (within_is _ HS.out (by omega) HW.out).mono ?_; rintro e w' ⟨rfl, hb⟩; have hz := hb.le; obtain ⟨hc, hf⟩ := hb.cells; (try simp only [World.size_alloc] at hc hf hz); (try simp only [World.size_setCell] at hc hf hz); (try simp only [World.size_drew] at hc hf hz)))
  all_goals
    go_ret
    refine ⟨ret_bool ?_, (by repeat (first | exact Gr.refl _ | refine Gr.alloc ?_ _ | refine Gr.drew ?_ | refine Gr.trans ?_ (by assumption) | refine Gr.setCell ?_ (by (try simp); (try omega)) _))⟩
    first | rfl | (simp; omega) | simp | omega

set_option maxRecDepth 100000 in
set_option maxHeartbeats 4000000 in
theorem surely_pt_out (al ah bl bh low high low2 high2 z : Int) (w : World) (hL : Logs w) (h1 : validS al ah = true) (h2 : validS bl bh = true) (hr : (-1000000000000000 ≤ low ∧ high ≤ 1000000000000000 ∧ -1000000000000000 ≤ low2 ∧ high2 ≤ 1000000000000000 ∧ low ≤ high ∧ low2 ≤ high2))
    (x1 : surelyI al ah low high = 1) (x2 : surelyI bl bh low high = 1) (x3 : surelyI bl bh low2 high2 = z) (hin : (decide (al ≤ bl) && decide (bh ≤ ah)) = true) (hs : validS (al + bl) (ah + bh) = false) :
    Calls Tryd.prog 4 #[.agg #[.int .i64 al, .int .i64 ah], .agg #[.int .i64 bl, .int .i64 bh], .int .i64 low, .int .i64 high, .int .i64 low2, .int .i64 high2] w
      fun e w' => e = .returned (.bool true) ∧ Gr w w' := by
  have HL := Lib.hid hL
  have X1 := Lib.hid x1; have X2 := Lib.hid x2; have X3 := Lib.hid x3; have HI := Lib.hid hin; have HS := Lib.hid hs
  clear hL x1 x2 x3 hin hs
  obtain ⟨k1, k2, k3, k4, k5, k6⟩ := hr
  go_enter Tryd.func4, Tryd.ntmps4
  go_wp2_with (first | (go_at_call 12; with_reducible refine (head_any _ (HL.out.keep (by repeat (first | exact Gr.refl _ | refine Gr.alloc ?_ _ | refine Gr.drew ?_ | refine Gr.trans ?_ (by assumption) | refine Gr.setCell ?_ (by (try simp); (try omega)) _)))).mono ?_; rintro e w' ⟨rfl, hb⟩; have hz := hb.le; obtain ⟨hc, hf⟩ := hb.cells; (try simp only [World.size_alloc] at hc hf hz); (try simp only [World.size_setCell] at hc hf hz); (try simp only [World.size_drew] at hc hf hz)) | (go_at_call 13; with_reducible refine (both_any _ _ _ _ _).mono ?_; rintro e w' ⟨rfl, hb⟩; have hz := hb.le; obtain ⟨hc, hf⟩ := hb.cells; (try simp only [World.size_alloc] at hc hf hz); (try simp only [World.size_setCell] at hc hf hz); (try simp only [World.size_drew] at hc hf hz)) | (go_at_call 17; with_reducible refine (within_is _ h1 (by omega) X1.out).mono ?_; rintro e w' ⟨rfl, hb⟩; have hz := hb.le; obtain ⟨hc, hf⟩ := hb.cells; (try simp only [World.size_alloc] at hc hf hz); (try simp only [World.size_setCell] at hc hf hz); (try simp only [World.size_drew] at hc hf hz)) | (go_at_call 17; with_reducible refine (within_is _ h2 (by omega) X2.out).mono ?_; rintro e w' ⟨rfl, hb⟩; have hz := hb.le; obtain ⟨hc, hf⟩ := hb.cells; (try simp only [World.size_alloc] at hc hf hz); (try simp only [World.size_setCell] at hc hf hz); (try simp only [World.size_drew] at hc hf hz)) | (go_at_call 17; with_reducible refine (within_is _ h2 (by omega) X3.out).mono ?_; rintro e w' ⟨rfl, hb⟩; have hz := hb.le; obtain ⟨hc, hf⟩ := hb.cells; (try simp only [World.size_alloc] at hc hf hz); (try simp only [World.size_setCell] at hc hf hz); (try simp only [World.size_drew] at hc hf hz)) | (go_at_call 18; with_reducible refine (in_is _ HI.out).mono ?_; rintro e w' ⟨rfl, hb⟩; have hz := hb.le; obtain ⟨hc, hf⟩ := hb.cells; (try simp only [World.size_alloc] at hc hf hz); (try simp only [World.size_setCell] at hc hf hz); (try simp only [World.size_drew] at hc hf hz)) | (go_at_call 19; with_reducible refine (add_out _ _ _ _ _ h1 h2 HS.out).mono ?_; rintro e w' ⟨rfl, hb⟩; have hz := hb.le; obtain ⟨hc, hf⟩ := hb.cells; (try simp only [World.size_alloc] at hc hf hz); (try simp only [World.size_setCell] at hc hf hz); (try simp only [World.size_drew] at hc hf hz)))
  all_goals
    go_ret
    refine ⟨ret_bool ?_, (by repeat (first | exact Gr.refl _ | refine Gr.alloc ?_ _ | refine Gr.drew ?_ | refine Gr.trans ?_ (by assumption) | refine Gr.setCell ?_ (by (try simp); (try omega)) _))⟩
    first | rfl | (simp; omega) | simp | omega

set_option maxRecDepth 100000 in
set_option maxHeartbeats 4000000 in
theorem surely_pt_zn (al ah bl bh low high low2 high2 z : Int) (w : World) (hL : Logs w) (h1 : validS al ah = true) (h2 : validS bl bh = true) (hr : (-1000000000000000 ≤ low ∧ high ≤ 1000000000000000 ∧ -1000000000000000 ≤ low2 ∧ high2 ≤ 1000000000000000 ∧ low ≤ high ∧ low2 ≤ high2))
    (x1 : surelyI al ah low high = 1) (x2 : surelyI bl bh low high = 1) (x3 : surelyI bl bh low2 high2 = z) (hin : (decide (al ≤ bl) && decide (bh ≤ ah)) = true) (hs : validS (al + bl) (ah + bh) = true) (hzn : (z != 1) = true) :
    Calls Tryd.prog 4 #[.agg #[.int .i64 al, .int .i64 ah], .agg #[.int .i64 bl, .int .i64 bh], .int .i64 low, .int .i64 high, .int .i64 low2, .int .i64 high2] w
      fun e w' => e = .returned (.bool true) ∧ Gr w w' := by
  have HL := Lib.hid hL
  have X1 := Lib.hid x1; have X2 := Lib.hid x2; have X3 := Lib.hid x3; have HI := Lib.hid hin; have HS := Lib.hid hs
  clear hL x1 x2 x3 hin hs
  obtain ⟨k1, k2, k3, k4, k5, k6⟩ := hr
  go_enter Tryd.func4, Tryd.ntmps4
  go_wp2_with (first | (go_at_call 12; with_reducible refine (head_any _ (HL.out.keep (by repeat (first | exact Gr.refl _ | refine Gr.alloc ?_ _ | refine Gr.drew ?_ | refine Gr.trans ?_ (by assumption) | refine Gr.setCell ?_ (by (try simp); (try omega)) _)))).mono ?_; rintro e w' ⟨rfl, hb⟩; have hz := hb.le; obtain ⟨hc, hf⟩ := hb.cells; (try simp only [World.size_alloc] at hc hf hz); (try simp only [World.size_setCell] at hc hf hz); (try simp only [World.size_drew] at hc hf hz)) | (go_at_call 13; with_reducible refine (both_any _ _ _ _ _).mono ?_; rintro e w' ⟨rfl, hb⟩; have hz := hb.le; obtain ⟨hc, hf⟩ := hb.cells; (try simp only [World.size_alloc] at hc hf hz); (try simp only [World.size_setCell] at hc hf hz); (try simp only [World.size_drew] at hc hf hz)) | (go_at_call 17; with_reducible refine (within_is _ h1 (by omega) X1.out).mono ?_; rintro e w' ⟨rfl, hb⟩; have hz := hb.le; obtain ⟨hc, hf⟩ := hb.cells; (try simp only [World.size_alloc] at hc hf hz); (try simp only [World.size_setCell] at hc hf hz); (try simp only [World.size_drew] at hc hf hz)) | (go_at_call 17; with_reducible refine (within_is _ h2 (by omega) X2.out).mono ?_; rintro e w' ⟨rfl, hb⟩; have hz := hb.le; obtain ⟨hc, hf⟩ := hb.cells; (try simp only [World.size_alloc] at hc hf hz); (try simp only [World.size_setCell] at hc hf hz); (try simp only [World.size_drew] at hc hf hz)) | (go_at_call 17; with_reducible refine (within_is _ h2 (by omega) X3.out).mono ?_; rintro e w' ⟨rfl, hb⟩; have hz := hb.le; obtain ⟨hc, hf⟩ := hb.cells; (try simp only [World.size_alloc] at hc hf hz); (try simp only [World.size_setCell] at hc hf hz); (try simp only [World.size_drew] at hc hf hz)) | (go_at_call 18; with_reducible refine (in_is _ HI.out).mono ?_; rintro e w' ⟨rfl, hb⟩; have hz := hb.le; obtain ⟨hc, hf⟩ := hb.cells; (try simp only [World.size_alloc] at hc hf hz); (try simp only [World.size_setCell] at hc hf hz); (try simp only [World.size_drew] at hc hf hz)) | (go_at_call 19; with_reducible refine (add_ok _ _ _ _ _ h1 h2 HS.out).mono ?_; rintro e w' ⟨rfl, hb⟩; have hz := hb.le; obtain ⟨hc, hf⟩ := hb.cells; (try simp only [World.size_alloc] at hc hf hz); (try simp only [World.size_setCell] at hc hf hz); (try simp only [World.size_drew] at hc hf hz)))
  all_goals
    go_ret
    refine ⟨ret_bool ?_, (by repeat (first | exact Gr.refl _ | refine Gr.alloc ?_ _ | refine Gr.drew ?_ | refine Gr.trans ?_ (by assumption) | refine Gr.setCell ?_ (by (try simp); (try omega)) _))⟩
    first | rfl | (simp; omega) | simp | omega

set_option maxRecDepth 100000 in
set_option maxHeartbeats 4000000 in
theorem surely_pt_z1 (al ah bl bh low high low2 high2 : Int) (w : World) (hL : Logs w) (h1 : validS al ah = true) (h2 : validS bl bh = true) (hr : (-1000000000000000 ≤ low ∧ high ≤ 1000000000000000 ∧ -1000000000000000 ≤ low2 ∧ high2 ≤ 1000000000000000 ∧ low ≤ high ∧ low2 ≤ high2))
    (x1 : surelyI al ah low high = 1) (x2 : surelyI bl bh low high = 1) (x3 : surelyI bl bh low2 high2 = 1) (hin : (decide (al ≤ bl) && decide (bh ≤ ah)) = true) (hs : validS (al + bl) (ah + bh) = true) (hw : surelyI (al + bl) (ah + bh) (low + low2) (high + high2) = 1) :
    Calls Tryd.prog 4 #[.agg #[.int .i64 al, .int .i64 ah], .agg #[.int .i64 bl, .int .i64 bh], .int .i64 low, .int .i64 high, .int .i64 low2, .int .i64 high2] w
      fun e w' => e = .returned (.bool true) ∧ Gr w w' := by
  have HL := Lib.hid hL
  have X1 := Lib.hid x1; have X2 := Lib.hid x2; have X3 := Lib.hid x3; have HI := Lib.hid hin; have HS := Lib.hid hs
  have HW := Lib.hid hw
  clear hw
  clear hL x1 x2 x3 hin hs
  obtain ⟨k1, k2, k3, k4, k5, k6⟩ := hr
  go_enter Tryd.func4, Tryd.ntmps4
  go_wp2_with (first | (go_at_call 12; with_reducible refine (head_any _ (HL.out.keep (by repeat (first | exact Gr.refl _ | refine Gr.alloc ?_ _ | refine Gr.drew ?_ | refine Gr.trans ?_ (by assumption) | refine Gr.setCell ?_ (by (try simp); (try omega)) _)))).mono ?_; rintro e w' ⟨rfl, hb⟩; have hz := hb.le; obtain ⟨hc, hf⟩ := hb.cells; (try simp only [World.size_alloc] at hc hf hz); (try simp only [World.size_setCell] at hc hf hz); (try simp only [World.size_drew] at hc hf hz)) | (go_at_call 13; with_reducible refine (both_any _ _ _ _ _).mono ?_; rintro e w' ⟨rfl, hb⟩; have hz := hb.le; obtain ⟨hc, hf⟩ := hb.cells; (try simp only [World.size_alloc] at hc hf hz); (try simp only [World.size_setCell] at hc hf hz); (try simp only [World.size_drew] at hc hf hz)) | (go_at_call 17; with_reducible refine (within_is _ h1 (by omega) X1.out).mono ?_; rintro e w' ⟨rfl, hb⟩; have hz := hb.le; obtain ⟨hc, hf⟩ := hb.cells; (try simp only [World.size_alloc] at hc hf hz); (try simp only [World.size_setCell] at hc hf hz); (try simp only [World.size_drew] at hc hf hz)) | (go_at_call 17; with_reducible refine (within_is _ h2 (by omega) X2.out).mono ?_; rintro e w' ⟨rfl, hb⟩; have hz := hb.le; obtain ⟨hc, hf⟩ := hb.cells; (try simp only [World.size_alloc] at hc hf hz); (try simp only [World.size_setCell] at hc hf hz); (try simp only [World.size_drew] at hc hf hz)) | (go_at_call 17; with_reducible refine (within_is _ h2 (by omega) X3.out).mono ?_; rintro e w' ⟨rfl, hb⟩; have hz := hb.le; obtain ⟨hc, hf⟩ := hb.cells; (try simp only [World.size_alloc] at hc hf hz); (try simp only [World.size_setCell] at hc hf hz); (try simp only [World.size_drew] at hc hf hz)) | (go_at_call 18; with_reducible refine (in_is _ HI.out).mono ?_; rintro e w' ⟨rfl, hb⟩; have hz := hb.le; obtain ⟨hc, hf⟩ := hb.cells; (try simp only [World.size_alloc] at hc hf hz); (try simp only [World.size_setCell] at hc hf hz); (try simp only [World.size_drew] at hc hf hz)) | (go_at_call 19; with_reducible refine (add_ok _ _ _ _ _ h1 h2 HS.out).mono ?_; rintro e w' ⟨rfl, hb⟩; have hz := hb.le; obtain ⟨hc, hf⟩ := hb.cells; (try simp only [World.size_alloc] at hc hf hz); (try simp only [World.size_setCell] at hc hf hz); (try simp only [World.size_drew] at hc hf hz)) | (go_at_call 17; with_reducible refine (within_is _ HS.out (by omega) HW.out).mono ?_; rintro e w' ⟨rfl, hb⟩; have hz := hb.le; obtain ⟨hc, hf⟩ := hb.cells; (try simp only [World.size_alloc] at hc hf hz); (try simp only [World.size_setCell] at hc hf hz); (try simp only [World.size_drew] at hc hf hz)))
  all_goals
    go_ret
    refine ⟨ret_bool ?_, (by repeat (first | exact Gr.refl _ | refine Gr.alloc ?_ _ | refine Gr.drew ?_ | refine Gr.trans ?_ (by assumption) | refine Gr.setCell ?_ (by (try simp); (try omega)) _))⟩
    first | rfl | (simp; omega) | simp | omega

theorem surely_vals (lo hi low high : Int) : surelyI lo hi low high = -1 ∨ surelyI lo hi low high = 0 ∨ surelyI lo hi low high = 1 := by
  unfold surelyI
  split
  · simp
  · split <;> simp
theorem surely_in {al ah bl bh low high x : Int} (h1 : validS al ah = true) (h2 : validS bl bh = true) (hi : (decide (al ≤ bl) && decide (bh ≤ ah)) = true) (hx : x ≠ 0) (h : surelyI al ah low high = x) : surelyI bl bh low high = x := by
  have a := validS_true h1
  have b := validS_true h2
  simp only [Bool.and_eq_true, decide_eq_true_eq] at hi
  unfold surelyI at *
  by_cases c : low ≤ al ∧ ah ≤ high
  · rw [if_pos c] at h; rw [if_pos (by omega)]; exact h
  · rw [if_neg c] at h
    by_cases d : ah < low ∨ high < al
    · rw [if_pos d] at h; rw [if_neg (by omega), if_pos (by omega)]; exact h
    · rw [if_neg d] at h; exact absurd h.symm hx
theorem surely_sum {al ah bl bh low high low2 high2 : Int} (h1 : surelyI al ah low high = 1) (h2 : surelyI bl bh low2 high2 = 1) : surelyI (al + bl) (ah + bh) (low + low2) (high + high2) = 1 := by
  have a : low ≤ al ∧ ah ≤ high := by
    unfold surelyI at h1
    split at h1
    · assumption
    · split at h1 <;> omega
  have b : low2 ≤ bl ∧ bh ≤ high2 := by
    unfold surelyI at h2
    split at h2
    · assumption
    · split at h2 <;> omega
  rw [surelyI, if_pos (by omega)]

theorem surely_law (al ah bl bh low high low2 high2 : Int) (w : World) (hL : Logs w) :
    Calls Tryd.prog 4 #[.agg #[.int .i64 al, .int .i64 ah], .agg #[.int .i64 bl, .int .i64 bh], .int .i64 low, .int .i64 high, .int .i64 low2, .int .i64 high2] w
      fun e w' => e = .returned (.bool true) ∧ Gr w w' := by
  cases h12 : (validS al ah && validS bl bh)
  · exact surely_bad1 al ah bl bh low high low2 high2 w hL h12
  by_cases hr : (-1000000000000000 ≤ low ∧ high ≤ 1000000000000000 ∧ -1000000000000000 ≤ low2 ∧ high2 ≤ 1000000000000000 ∧ low ≤ high ∧ low2 ≤ high2)
  case neg => exact surely_bad2 al ah bl bh low high low2 high2 w hL h12 hr
  rw [Bool.and_eq_true] at h12
  obtain ⟨h1, h2⟩ := h12
  cases hs : validS (al + bl) (ah + bh) <;> cases hi : (decide (al ≤ bl) && decide (bh ≤ ah)) <;> rcases surely_vals al ah low high with x1 | x1 | x1
  · exact surely_mf_out al ah bl bh low high low2 high2 _ _ w hL h1 h2 hr x1 rfl rfl hi hs
  · exact surely_of_out al ah bl bh low high low2 high2 _ _ w hL h1 h2 hr x1 rfl rfl hi hs
  · exact surely_pf_out al ah bl bh low high low2 high2 _ _ w hL h1 h2 hr x1 rfl rfl hi hs
  · exact surely_mt_out al ah bl bh low high low2 high2 _ w hL h1 h2 hr x1 (surely_in h1 h2 hi (by omega) x1) rfl hi hs
  · exact surely_ot_out al ah bl bh low high low2 high2 _ _ w hL h1 h2 hr x1 rfl rfl hi hs
  · exact surely_pt_out al ah bl bh low high low2 high2 _ w hL h1 h2 hr x1 (surely_in h1 h2 hi (by omega) x1) rfl hi hs
  · exact surely_mf_ok al ah bl bh low high low2 high2 _ _ w hL h1 h2 hr x1 rfl rfl hi hs
  · exact surely_of_ok al ah bl bh low high low2 high2 _ _ w hL h1 h2 hr x1 rfl rfl hi hs
  · by_cases hz : surelyI bl bh low2 high2 = 1
    · exact surely_pf_z1 al ah bl bh low high low2 high2 _ w hL h1 h2 hr x1 rfl hz hi hs (surely_sum x1 hz)
    · exact surely_pf_zn al ah bl bh low high low2 high2 _ _ w hL h1 h2 hr x1 rfl rfl hi hs (by simpa using hz)
  · exact surely_mt_ok al ah bl bh low high low2 high2 _ w hL h1 h2 hr x1 (surely_in h1 h2 hi (by omega) x1) rfl hi hs
  · exact surely_ot_ok al ah bl bh low high low2 high2 _ _ w hL h1 h2 hr x1 rfl rfl hi hs
  · by_cases hz : surelyI bl bh low2 high2 = 1
    · exact surely_pt_z1 al ah bl bh low high low2 high2 w hL h1 h2 hr x1 (surely_in h1 h2 hi (by omega) x1) hz hi hs (surely_sum x1 hz)
    · exact surely_pt_zn al ah bl bh low high low2 high2 _ w hL h1 h2 hr x1 (surely_in h1 h2 hi (by omega) x1) rfl hi hs (by simpa using hz)
end Go.Proofs.YtmealmnjeoehiaaDoor
