import Derived.Test.YtmealmnjeoehiaaDoorCommon
namespace Go.Proofs.YtmealmnjeoehiaaDoor
open Go.RowKit

theorem fits_iff (x n : Int) : fits x n = true ↔ (-100000000000000 ≤ n * x ∧ n * x ≤ 100000000000000) := by
  constructor
  · exact mul_in
  · intro h
    by_cases hx : x = 0
    · subst hx; simp [fits]
    · have a := mx_abs hx
      have hm : mx x (-x) = (x.natAbs : Int) := by unfold mx; split <;> omega
      have key : (n.natAbs : Int) ≤ mq x := by
        unfold mq
        rw [Int.le_ediv_iff_mul_le (by omega), hm]
        have : (n * x).natAbs = n.natAbs * x.natAbs := Int.natAbs_mul _ _
        have e : ((n.natAbs : Int) * (x.natAbs : Int)) = ((n * x).natAbs : Int) := by rw [this]; simp
        omega
      simp only [fits, hx, decide_false, Bool.false_or, Bool.and_eq_true, decide_eq_true_eq]
      omega
theorem fits_false {x n : Int} (h : fits x n = false) : ¬ (-100000000000000 ≤ n * x ∧ n * x ≤ 100000000000000) := by
  rw [← fits_iff, h]; simp

theorem times_is {lo hi n a b : Int} (w : World) (h1 : validS lo hi = true) (f : (fits lo n && fits hi n) = true) (ha : timesLo lo hi n = a) (hb : timesHi lo hi n = b) :
    Calls Tryd.prog 24 #[.agg #[.int .i64 lo, .int .i64 hi], .int .i64 n] w
      fun e w' => e = .returned (.tuple #[.agg #[.int .i64 a, .int .i64 b], .int .i64 0]) ∧ Gr w w' := by
  rw [Bool.and_eq_true] at f
  exact ha ▸ hb ▸ times_ok lo hi n w h1 f.1 f.2
theorem add_is {al ah bl bh a b : Int} (w : World) (h1 : validS al ah = true) (h2 : validS bl bh = true) (h : validS a b = true) (ha : al + bl = a) (hb : ah + bh = b) :
    Calls Tryd.prog 19 #[.agg #[.int .i64 al, .int .i64 ah], .agg #[.int .i64 bl, .int .i64 bh]] w
      fun e w' => e = .returned (.tuple #[.agg #[.int .i64 a, .int .i64 b], .int .i64 0]) ∧ Gr w w' := by
  subst ha hb; exact add_ok al ah bl bh w h1 h2 h
theorem add_no {al ah bl bh a b : Int} (w : World) (h1 : validS al ah = true) (h2 : validS bl bh = true) (h : validS a b = false) (ha : al + bl = a) (hb : ah + bh = b) :
    Calls Tryd.prog 19 #[.agg #[.int .i64 al, .int .i64 ah], .agg #[.int .i64 bl, .int .i64 bh]] w
      fun e w' => e = .returned (.tuple #[.agg #[.int .i64 0, .int .i64 0], .int .i64 3]) ∧ Gr w w' := by
  subst ha hb; exact add_out al ah bl bh w h1 h2 h
theorem sub_is {al ah bl bh a b : Int} (w : World) (h1 : validS al ah = true) (h2 : validS bl bh = true) (h : validS a b = true) (ha : al - bh = a) (hb : ah - bl = b) :
    Calls Tryd.prog 25 #[.agg #[.int .i64 al, .int .i64 ah], .agg #[.int .i64 bl, .int .i64 bh]] w
      fun e w' => e = .returned (.tuple #[.agg #[.int .i64 a, .int .i64 b], .int .i64 0]) ∧ Gr w w' := by
  subst ha hb; exact sub_ok al ah bl bh w h1 h2 h

set_option maxRecDepth 100000 in
set_option maxHeartbeats 4000000 in
theorem multiples_bad1 (lo hi m n : Int) (w : World) (hL : Logs w) (h1 : validS lo hi = false) :
    Calls Tryd.prog 7 #[.agg #[.int .i64 lo, .int .i64 hi], .int .i64 m, .int .i64 n] w fun e w' => e = .returned (.bool true) ∧ Gr w w' := by
  have HL := Lib.hid hL
  clear hL
  go_enter Tryd.func7, Tryd.ntmps7
  go_wp2_with (first | (go_at_call 12; with_reducible refine (head_any _ (HL.out.keep (by repeat (first | exact Gr.refl _ | refine Gr.alloc ?_ _ | refine Gr.drew ?_ | refine Gr.trans ?_ (by assumption) | refine Gr.setCell ?_ (by (try simp); (try omega)) _)))).mono ?_; rintro e w' ⟨rfl, hb⟩; have hz := hb.le; obtain ⟨hc, hf⟩ := hb.cells; (try simp only [World.size_alloc] at hc hf hz); (try simp only [World.size_setCell] at hc hf hz); (try simp only [World.size_drew] at hc hf hz)) | (go_at_call 14; with_reducible refine (valid_any _ _ _).mono ?_; rintro e w' ⟨rfl, hb⟩; have hz := hb.le; obtain ⟨hc, hf⟩ := hb.cells; (try simp only [World.size_alloc] at hc hf hz); (try simp only [World.size_setCell] at hc hf hz); (try simp only [World.size_drew] at hc hf hz)))
  all_goals go_ret
  all_goals exact ⟨rfl, (by repeat (first | exact Gr.refl _ | refine Gr.alloc ?_ _ | refine Gr.drew ?_ | refine Gr.trans ?_ (by assumption) | refine Gr.setCell ?_ (by (try simp); (try omega)) _))⟩

set_option maxRecDepth 100000 in
set_option maxHeartbeats 4000000 in
theorem multiples_bad2 (lo hi m n : Int) (w : World) (hL : Logs w) (h1 : validS lo hi = true) (h : ¬ (-1000000 ≤ m ∧ m ≤ 1000000 ∧ -1000000 ≤ n ∧ n ≤ 1000000)) :
    Calls Tryd.prog 7 #[.agg #[.int .i64 lo, .int .i64 hi], .int .i64 m, .int .i64 n] w fun e w' => e = .returned (.bool true) ∧ Gr w w' := by
  have HL := Lib.hid hL
  clear hL
  go_enter Tryd.func7, Tryd.ntmps7
  go_wp2_with (first | (go_at_call 12; with_reducible refine (head_any _ (HL.out.keep (by repeat (first | exact Gr.refl _ | refine Gr.alloc ?_ _ | refine Gr.drew ?_ | refine Gr.trans ?_ (by assumption) | refine Gr.setCell ?_ (by (try simp); (try omega)) _)))).mono ?_; rintro e w' ⟨rfl, hb⟩; have hz := hb.le; obtain ⟨hc, hf⟩ := hb.cells; (try simp only [World.size_alloc] at hc hf hz); (try simp only [World.size_setCell] at hc hf hz); (try simp only [World.size_drew] at hc hf hz)) | (go_at_call 14; with_reducible refine (valid_any _ _ _).mono ?_; rintro e w' ⟨rfl, hb⟩; have hz := hb.le; obtain ⟨hc, hf⟩ := hb.cells; (try simp only [World.size_alloc] at hc hf hz); (try simp only [World.size_setCell] at hc hf hz); (try simp only [World.size_drew] at hc hf hz)))
  all_goals go_ret
  all_goals exact ⟨rfl, (by repeat (first | exact Gr.refl _ | refine Gr.alloc ?_ _ | refine Gr.drew ?_ | refine Gr.trans ?_ (by assumption) | refine Gr.setCell ?_ (by (try simp); (try omega)) _))⟩

set_option maxRecDepth 100000 in
set_option maxHeartbeats 8000000 in
theorem multiples_eo (lo hi m n ul uh yl yh : Int) (w : World) (hL : Logs w) (h1 : validS lo hi = true) (hr : (-1000000 ≤ m ∧ m ≤ 1000000 ∧ -1000000 ≤ n ∧ n ≤ 1000000)) (_hmul : -1000000000000 ≤ m * n ∧ m * n ≤ 1000000000000) (e1 : (fits lo m && fits hi m) = false) (f1 : (fits lo n && fits hi n) = true) (yv : validS yl yh = true) (y1 : timesLo lo hi n = yl) (y2 : timesHi lo hi n = yh) (uf : (fits lo (-1) && fits hi (-1)) = true) (u1 : timesLo lo hi (-1) = ul) (u2 : timesHi lo hi (-1) = uh) (uv : validS ul uh = true) (u3 : 0 - hi = ul) (u4 : 0 - lo = uh) (zero : validS 0 0 = true) :
    Calls Tryd.prog 7 #[.agg #[.int .i64 lo, .int .i64 hi], .int .i64 m, .int .i64 n] w fun e w' => e = .returned (.bool true) ∧ Gr w w' := by
  have HL := Lib.hid hL
  obtain ⟨k1, k2, k3, k4⟩ := hr
  have He1 := Lib.hid e1
  have Hf1 := Lib.hid f1
  have Hyv := Lib.hid yv
  have Hy1 := Lib.hid y1
  have Hy2 := Lib.hid y2
  have Huf := Lib.hid uf
  have Hu1 := Lib.hid u1
  have Hu2 := Lib.hid u2
  have Huv := Lib.hid uv
  have Hu3 := Lib.hid u3
  have Hu4 := Lib.hid u4
  have Hzero := Lib.hid zero
  clear hL e1 f1 yv y1 y2 uf u1 u2 uv u3 u4 zero
  go_enter Tryd.func7, Tryd.ntmps7
  go_wp2_with (first | (go_at_call 12; with_reducible refine (head_any _ (HL.out.keep (by repeat (first | exact Gr.refl _ | refine Gr.alloc ?_ _ | refine Gr.drew ?_ | refine Gr.trans ?_ (by assumption) | refine Gr.setCell ?_ (by (try simp); (try omega)) _)))).mono ?_; rintro e w' ⟨rfl, hb⟩; have hz := hb.le; obtain ⟨hc, hf⟩ := hb.cells; (try simp only [World.size_alloc] at hc hf hz); (try simp only [World.size_setCell] at hc hf hz); (try simp only [World.size_drew] at hc hf hz)) | (go_at_call 14; with_reducible refine (valid_any _ _ _).mono ?_; rintro e w' ⟨rfl, hb⟩; have hz := hb.le; obtain ⟨hc, hf⟩ := hb.cells; (try simp only [World.size_alloc] at hc hf hz); (try simp only [World.size_setCell] at hc hf hz); (try simp only [World.size_drew] at hc hf hz)) | (go_at_call 24; with_reducible refine (times_out _ _ _ _ h1 He1.out).mono ?_; rintro e w' ⟨rfl, hb⟩; have hz := hb.le; obtain ⟨hc, hf⟩ := hb.cells; (try simp only [World.size_alloc] at hc hf hz); (try simp only [World.size_setCell] at hc hf hz); (try simp only [World.size_drew] at hc hf hz)) | (go_at_call 24; with_reducible refine (times_is _ h1 Hf1.out Hy1.out Hy2.out).mono ?_; rintro e w' ⟨rfl, hb⟩; have hz := hb.le; obtain ⟨hc, hf⟩ := hb.cells; (try simp only [World.size_alloc] at hc hf hz); (try simp only [World.size_setCell] at hc hf hz); (try simp only [World.size_drew] at hc hf hz)) | (go_at_call 24; with_reducible refine (times_is _ h1 Huf.out Hu1.out Hu2.out).mono ?_; rintro e w' ⟨rfl, hb⟩; have hz := hb.le; obtain ⟨hc, hf⟩ := hb.cells; (try simp only [World.size_alloc] at hc hf hz); (try simp only [World.size_setCell] at hc hf hz); (try simp only [World.size_drew] at hc hf hz)) | (go_at_call 25; with_reducible refine (sub_is _ Hzero.out h1 Huv.out Hu3.out Hu4.out).mono ?_; rintro e w' ⟨rfl, hb⟩; have hz := hb.le; obtain ⟨hc, hf⟩ := hb.cells; (try simp only [World.size_alloc] at hc hf hz); (try simp only [World.size_setCell] at hc hf hz); (try simp only [World.size_drew] at hc hf hz)))
  all_goals
    go_ret
    refine ⟨ret_bool ?_, (by repeat (first | exact Gr.refl _ | refine Gr.alloc ?_ _ | refine Gr.drew ?_ | refine Gr.trans ?_ (by assumption) | refine Gr.setCell ?_ (by (try simp); (try omega)) _))⟩
    first | rfl | (simp; omega) | simp | omega

set_option maxRecDepth 100000 in
set_option maxHeartbeats 8000000 in
theorem multiples_oo (lo hi m n ul uh : Int) (w : World) (hL : Logs w) (h1 : validS lo hi = true) (hr : (-1000000 ≤ m ∧ m ≤ 1000000 ∧ -1000000 ≤ n ∧ n ≤ 1000000)) (_hmul : -1000000000000 ≤ m * n ∧ m * n ≤ 1000000000000) (e1 : (fits lo m && fits hi m) = false) (f1 : (fits lo n && fits hi n) = false) (uf : (fits lo (-1) && fits hi (-1)) = true) (u1 : timesLo lo hi (-1) = ul) (u2 : timesHi lo hi (-1) = uh) (uv : validS ul uh = true) (u3 : 0 - hi = ul) (u4 : 0 - lo = uh) (zero : validS 0 0 = true) :
    Calls Tryd.prog 7 #[.agg #[.int .i64 lo, .int .i64 hi], .int .i64 m, .int .i64 n] w fun e w' => e = .returned (.bool true) ∧ Gr w w' := by
  have HL := Lib.hid hL
  obtain ⟨k1, k2, k3, k4⟩ := hr
  have He1 := Lib.hid e1
  have Hf1 := Lib.hid f1
  have Huf := Lib.hid uf
  have Hu1 := Lib.hid u1
  have Hu2 := Lib.hid u2
  have Huv := Lib.hid uv
  have Hu3 := Lib.hid u3
  have Hu4 := Lib.hid u4
  have Hzero := Lib.hid zero
  clear hL e1 f1 uf u1 u2 uv u3 u4 zero
  go_enter Tryd.func7, Tryd.ntmps7
  go_wp2_with (first | (go_at_call 12; with_reducible refine (head_any _ (HL.out.keep (by repeat (first | exact Gr.refl _ | refine Gr.alloc ?_ _ | refine Gr.drew ?_ | refine Gr.trans ?_ (by assumption) | refine Gr.setCell ?_ (by (try simp); (try omega)) _)))).mono ?_; rintro e w' ⟨rfl, hb⟩; have hz := hb.le; obtain ⟨hc, hf⟩ := hb.cells; (try simp only [World.size_alloc] at hc hf hz); (try simp only [World.size_setCell] at hc hf hz); (try simp only [World.size_drew] at hc hf hz)) | (go_at_call 14; with_reducible refine (valid_any _ _ _).mono ?_; rintro e w' ⟨rfl, hb⟩; have hz := hb.le; obtain ⟨hc, hf⟩ := hb.cells; (try simp only [World.size_alloc] at hc hf hz); (try simp only [World.size_setCell] at hc hf hz); (try simp only [World.size_drew] at hc hf hz)) | (go_at_call 24; with_reducible refine (times_out _ _ _ _ h1 He1.out).mono ?_; rintro e w' ⟨rfl, hb⟩; have hz := hb.le; obtain ⟨hc, hf⟩ := hb.cells; (try simp only [World.size_alloc] at hc hf hz); (try simp only [World.size_setCell] at hc hf hz); (try simp only [World.size_drew] at hc hf hz)) | (go_at_call 24; with_reducible refine (times_out _ _ _ _ h1 Hf1.out).mono ?_; rintro e w' ⟨rfl, hb⟩; have hz := hb.le; obtain ⟨hc, hf⟩ := hb.cells; (try simp only [World.size_alloc] at hc hf hz); (try simp only [World.size_setCell] at hc hf hz); (try simp only [World.size_drew] at hc hf hz)) | (go_at_call 24; with_reducible refine (times_is _ h1 Huf.out Hu1.out Hu2.out).mono ?_; rintro e w' ⟨rfl, hb⟩; have hz := hb.le; obtain ⟨hc, hf⟩ := hb.cells; (try simp only [World.size_alloc] at hc hf hz); (try simp only [World.size_setCell] at hc hf hz); (try simp only [World.size_drew] at hc hf hz)) | (go_at_call 25; with_reducible refine (sub_is _ Hzero.out h1 Huv.out Hu3.out Hu4.out).mono ?_; rintro e w' ⟨rfl, hb⟩; have hz := hb.le; obtain ⟨hc, hf⟩ := hb.cells; (try simp only [World.size_alloc] at hc hf hz); (try simp only [World.size_setCell] at hc hf hz); (try simp only [World.size_drew] at hc hf hz)))
  all_goals
    go_ret
    refine ⟨ret_bool ?_, (by repeat (first | exact Gr.refl _ | refine Gr.alloc ?_ _ | refine Gr.drew ?_ | refine Gr.trans ?_ (by assumption) | refine Gr.setCell ?_ (by (try simp); (try omega)) _))⟩
    first | rfl | (simp; omega) | simp | omega
end Go.Proofs.YtmealmnjeoehiaaDoor
