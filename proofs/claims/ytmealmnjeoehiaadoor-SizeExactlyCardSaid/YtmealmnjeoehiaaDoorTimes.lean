import Derived.Test.YtmealmnjeoehiaaDoorSize
namespace Go.Proofs.YtmealmnjeoehiaaDoor
open Go.RowKit

/-- How many times a number can be taken. -/
def mq (x : Int) : Int := 100000000000000 / mx x (-x)
def fits (x n : Int) : Bool := decide (x = 0) || (decide (-mq x ≤ n) && decide (n ≤ mq x))
theorem mx_abs {x : Int} (h : x ≠ 0) : 1 ≤ mx x (-x) ∧ x ≤ mx x (-x) ∧ -x ≤ mx x (-x) := by unfold mx; split <;> omega
theorem mx_bd {x : Int} (h1 : -100000000000000 ≤ x) (h2 : x ≤ 100000000000000) : mx x (-x) ≤ 100000000000000 := by unfold mx; split <;> omega
theorem mq_bd {x : Int} (h : x ≠ 0) (h1 : -100000000000000 ≤ x) (h2 : x ≤ 100000000000000) : 1 ≤ mq x ∧ mq x ≤ 100000000000000 := by
  have a := mx_abs h
  have b := mx_bd h1 h2
  unfold mq
  generalize mx x (-x) = y at *
  refine ⟨?_, Int.ediv_le_self _ (by omega)⟩
  rw [Int.le_ediv_iff_mul_le (by omega)]
  omega
theorem mul_in {x n : Int} (h : fits x n = true) : -100000000000000 ≤ n * x ∧ n * x ≤ 100000000000000 := by
  by_cases hx : x = 0
  · subst hx; simp
  · simp only [fits, hx, decide_false, Bool.false_or, Bool.and_eq_true, decide_eq_true_eq] at h
    obtain ⟨h1, h2⟩ := h
    have a := mx_abs hx
    have hm : mq x * mx x (-x) ≤ 100000000000000 := by
      unfold mq
      exact Int.ediv_mul_le _ (by omega)
    generalize mx x (-x) = y at *
    generalize mq x = q at *
    have hq : 0 ≤ q := by omega
    have k1 : (n * x).natAbs ≤ (q * y).natAbs := by
      rw [Int.natAbs_mul, Int.natAbs_mul]
      exact Nat.mul_le_mul (by omega) (by omega)
    have k2 : 0 ≤ q * y := Int.mul_nonneg hq (by omega)
    omega

/-- The ends of a size n times. -/
def timesLo (lo hi n : Int) : Int := if n < 0 then n * hi else n * lo
def timesHi (lo hi n : Int) : Int := if n < 0 then n * lo else n * hi

theorem fits_cases {x n : Int} (h : fits x n = true) : x = 0 ∨ ((x == 0) = false ∧ x ≠ 0 ∧ -mq x ≤ n ∧ n ≤ mq x) := by
  by_cases hx : x = 0
  · exact Or.inl hx
  · simp only [fits, hx, decide_false, Bool.false_or, Bool.and_eq_true, decide_eq_true_eq] at h
    exact Or.inr ⟨by simpa using hx, hx, h.1, h.2⟩
theorem fits_no {x n : Int} (h : fits x n = false) : (x == 0) = false ∧ x ≠ 0 ∧ (n < -mq x ∨ mq x < n) := by
  have hx : x ≠ 0 := by rintro rfl; simp [fits] at h
  refine ⟨by simpa using hx, hx, ?_⟩
  simp only [fits, hx, decide_false, Bool.false_or, Bool.and_eq_false_iff, decide_eq_false_iff_not] at h
  omega

theorem run_index2a (x y : Int) (w : World) : (Instr.index 58 (.agg #[.int .i64 x, .int .i64 y]) (.int .i64 0)).run Tryd.prog w = .ok (.int .i64 x) w := by kernel_rfl
theorem run_index2b (x y : Int) (w : World) : (Instr.index 58 (.agg #[.int .i64 x, .int .i64 y]) (.int .i64 1)).run Tryd.prog w = .ok (.int .i64 y) w := by kernel_rfl


set_option maxRecDepth 100000 in
set_option maxHeartbeats 1000000 in
theorem times_000 (lo hi n : Int) (w : World) (h1 : validS lo hi = true) (hn : ¬ n < 0) (e1 : (lo == 0) = false) (g1 : lo ≠ 0) (c1 : -mq lo ≤ n) (d1 : n ≤ mq lo) (m1 : -100000000000000 ≤ n * lo ∧ n * lo ≤ 100000000000000) (e2 : (hi == 0) = false) (g2 : hi ≠ 0) (c2 : -mq hi ≤ n) (d2 : n ≤ mq hi) (m2 : -100000000000000 ≤ n * hi ∧ n * hi ≤ 100000000000000) :
    Calls Tryd.prog 24 #[.agg #[.int .i64 lo, .int .i64 hi], .int .i64 n] w
      fun e w' => e = .returned (.tuple #[.agg #[.int .i64 (n * lo), .int .i64 (n * hi)], .int .i64 0]) ∧ Gr w w' := by
  obtain ⟨v1, v2, v3⟩ := validS_true h1
  have ulo1 : -100000000000000 ≤ lo := by omega
  have ulo2 : lo ≤ 100000000000000 := by omega
  have uhi1 : -100000000000000 ≤ hi := by omega
  have uhi2 : hi ≤ 100000000000000 := by omega
  clear v1 v2 v3
  have i0 := run_index2a lo hi
  have i1 := run_index2b lo hi
  have q1 : 100000000000000 / mx lo (-lo) = mq lo := rfl
  have r1 : (if lo < -lo then -lo else lo) = mx lo (-lo) := rfl
  have a1 := mx_abs g1
  have b1 := mx_bd (x := lo) (by omega) (by omega)
  obtain ⟨k1, j1⟩ := mq_bd (x := lo) g1 (by omega) (by omega)
  clear g1
  have q2 : 100000000000000 / mx hi (-hi) = mq hi := rfl
  have r2 : (if hi < -hi then -hi else hi) = mx hi (-hi) := rfl
  have a2 := mx_abs g2
  have b2 := mx_bd (x := hi) (by omega) (by omega)
  obtain ⟨k2, j2⟩ := mq_bd (x := hi) g2 (by omega) (by omega)
  clear g2
  go_enter Tryd.func24, Tryd.ntmps24
  go_wp2_with (go_at_call 14; with_reducible refine (valid_any _ _ _).mono ?_; rintro e w' ⟨rfl, hb⟩; have hz := hb.le; obtain ⟨hc, hf⟩ := hb.cells; (try simp only [World.size_alloc] at hc hf hz); (try simp only [World.size_setCell] at hc hf hz); (try simp only [World.size_drew] at hc hf hz))
  refine wp_loop_rounds 3 ?_
  rw [rounds_succ]; go_wp2
  rw [rounds_succ]; go_wp2
  rw [rounds_succ]; go_wp2
  exact bodyPost_ret (v := .tuple #[.agg #[.int .i64 (n * lo), .int .i64 (n * hi)], .int .i64 0]) (by simp [results, Tryd.results24, go_sem, *]) rfl ⟨rfl, (by repeat (first | exact Gr.refl _ | refine Gr.alloc ?_ _ | refine Gr.drew ?_ | refine Gr.trans ?_ (by assumption) | refine Gr.setCell ?_ (by (try simp); (try omega)) _))⟩

set_option maxRecDepth 100000 in
set_option maxHeartbeats 1000000 in
theorem times_001 (lo hi n : Int) (w : World) (h1 : validS lo hi = true) (hn : n < 0) (e1 : (lo == 0) = false) (g1 : lo ≠ 0) (c1 : -mq lo ≤ n) (d1 : n ≤ mq lo) (m1 : -100000000000000 ≤ n * lo ∧ n * lo ≤ 100000000000000) (e2 : (hi == 0) = false) (g2 : hi ≠ 0) (c2 : -mq hi ≤ n) (d2 : n ≤ mq hi) (m2 : -100000000000000 ≤ n * hi ∧ n * hi ≤ 100000000000000) :
    Calls Tryd.prog 24 #[.agg #[.int .i64 lo, .int .i64 hi], .int .i64 n] w
      fun e w' => e = .returned (.tuple #[.agg #[.int .i64 (n * hi), .int .i64 (n * lo)], .int .i64 0]) ∧ Gr w w' := by
  obtain ⟨v1, v2, v3⟩ := validS_true h1
  have ulo1 : -100000000000000 ≤ lo := by omega
  have ulo2 : lo ≤ 100000000000000 := by omega
  have uhi1 : -100000000000000 ≤ hi := by omega
  have uhi2 : hi ≤ 100000000000000 := by omega
  clear v1 v2 v3
  have i0 := run_index2a lo hi
  have i1 := run_index2b lo hi
  have q1 : 100000000000000 / mx lo (-lo) = mq lo := rfl
  have r1 : (if lo < -lo then -lo else lo) = mx lo (-lo) := rfl
  have a1 := mx_abs g1
  have b1 := mx_bd (x := lo) (by omega) (by omega)
  obtain ⟨k1, j1⟩ := mq_bd (x := lo) g1 (by omega) (by omega)
  clear g1
  have q2 : 100000000000000 / mx hi (-hi) = mq hi := rfl
  have r2 : (if hi < -hi then -hi else hi) = mx hi (-hi) := rfl
  have a2 := mx_abs g2
  have b2 := mx_bd (x := hi) (by omega) (by omega)
  obtain ⟨k2, j2⟩ := mq_bd (x := hi) g2 (by omega) (by omega)
  clear g2
  go_enter Tryd.func24, Tryd.ntmps24
  go_wp2_with (go_at_call 14; with_reducible refine (valid_any _ _ _).mono ?_; rintro e w' ⟨rfl, hb⟩; have hz := hb.le; obtain ⟨hc, hf⟩ := hb.cells; (try simp only [World.size_alloc] at hc hf hz); (try simp only [World.size_setCell] at hc hf hz); (try simp only [World.size_drew] at hc hf hz))
  refine wp_loop_rounds 3 ?_
  rw [rounds_succ]; go_wp2
  rw [rounds_succ]; go_wp2
  rw [rounds_succ]; go_wp2
  exact bodyPost_ret (v := .tuple #[.agg #[.int .i64 (n * hi), .int .i64 (n * lo)], .int .i64 0]) (by simp [results, Tryd.results24, go_sem, *]) rfl ⟨rfl, (by repeat (first | exact Gr.refl _ | refine Gr.alloc ?_ _ | refine Gr.drew ?_ | refine Gr.trans ?_ (by assumption) | refine Gr.setCell ?_ (by (try simp); (try omega)) _))⟩

set_option maxRecDepth 100000 in
set_option maxHeartbeats 1000000 in
theorem times_010 (lo n : Int) (w : World) (h1 : validS lo 0 = true) (hn : ¬ n < 0) (e1 : (lo == 0) = false) (g1 : lo ≠ 0) (c1 : -mq lo ≤ n) (d1 : n ≤ mq lo) (m1 : -100000000000000 ≤ n * lo ∧ n * lo ≤ 100000000000000) :
    Calls Tryd.prog 24 #[.agg #[.int .i64 lo, .int .i64 0], .int .i64 n] w
      fun e w' => e = .returned (.tuple #[.agg #[.int .i64 (n * lo), .int .i64 (0)], .int .i64 0]) ∧ Gr w w' := by
  obtain ⟨v1, v2, v3⟩ := validS_true h1
  have ulo1 : -100000000000000 ≤ lo := by omega
  have ulo2 : lo ≤ 100000000000000 := by omega
  clear v1 v2 v3
  have i0 := run_index2a lo 0
  have i1 := run_index2b lo 0
  have q1 : 100000000000000 / mx lo (-lo) = mq lo := rfl
  have r1 : (if lo < -lo then -lo else lo) = mx lo (-lo) := rfl
  have a1 := mx_abs g1
  have b1 := mx_bd (x := lo) (by omega) (by omega)
  obtain ⟨k1, j1⟩ := mq_bd (x := lo) g1 (by omega) (by omega)
  clear g1
  go_enter Tryd.func24, Tryd.ntmps24
  go_wp2_with (go_at_call 14; with_reducible refine (valid_any _ _ _).mono ?_; rintro e w' ⟨rfl, hb⟩; have hz := hb.le; obtain ⟨hc, hf⟩ := hb.cells; (try simp only [World.size_alloc] at hc hf hz); (try simp only [World.size_setCell] at hc hf hz); (try simp only [World.size_drew] at hc hf hz))
  refine wp_loop_rounds 3 ?_
  rw [rounds_succ]; go_wp2
  rw [rounds_succ]; go_wp2
  rw [rounds_succ]; go_wp2
  exact bodyPost_ret (v := .tuple #[.agg #[.int .i64 (n * lo), .int .i64 (0)], .int .i64 0]) (by simp [results, Tryd.results24, go_sem, *]) rfl ⟨rfl, (by repeat (first | exact Gr.refl _ | refine Gr.alloc ?_ _ | refine Gr.drew ?_ | refine Gr.trans ?_ (by assumption) | refine Gr.setCell ?_ (by (try simp); (try omega)) _))⟩

set_option maxRecDepth 100000 in
set_option maxHeartbeats 1000000 in
theorem times_011 (lo n : Int) (w : World) (h1 : validS lo 0 = true) (hn : n < 0) (e1 : (lo == 0) = false) (g1 : lo ≠ 0) (c1 : -mq lo ≤ n) (d1 : n ≤ mq lo) (m1 : -100000000000000 ≤ n * lo ∧ n * lo ≤ 100000000000000) :
    Calls Tryd.prog 24 #[.agg #[.int .i64 lo, .int .i64 0], .int .i64 n] w
      fun e w' => e = .returned (.tuple #[.agg #[.int .i64 (0), .int .i64 (n * lo)], .int .i64 0]) ∧ Gr w w' := by
  obtain ⟨v1, v2, v3⟩ := validS_true h1
  have ulo1 : -100000000000000 ≤ lo := by omega
  have ulo2 : lo ≤ 100000000000000 := by omega
  clear v1 v2 v3
  have i0 := run_index2a lo 0
  have i1 := run_index2b lo 0
  have q1 : 100000000000000 / mx lo (-lo) = mq lo := rfl
  have r1 : (if lo < -lo then -lo else lo) = mx lo (-lo) := rfl
  have a1 := mx_abs g1
  have b1 := mx_bd (x := lo) (by omega) (by omega)
  obtain ⟨k1, j1⟩ := mq_bd (x := lo) g1 (by omega) (by omega)
  clear g1
  go_enter Tryd.func24, Tryd.ntmps24
  go_wp2_with (go_at_call 14; with_reducible refine (valid_any _ _ _).mono ?_; rintro e w' ⟨rfl, hb⟩; have hz := hb.le; obtain ⟨hc, hf⟩ := hb.cells; (try simp only [World.size_alloc] at hc hf hz); (try simp only [World.size_setCell] at hc hf hz); (try simp only [World.size_drew] at hc hf hz))
  refine wp_loop_rounds 3 ?_
  rw [rounds_succ]; go_wp2
  rw [rounds_succ]; go_wp2
  rw [rounds_succ]; go_wp2
  exact bodyPost_ret (v := .tuple #[.agg #[.int .i64 (0), .int .i64 (n * lo)], .int .i64 0]) (by simp [results, Tryd.results24, go_sem, *]) rfl ⟨rfl, (by repeat (first | exact Gr.refl _ | refine Gr.alloc ?_ _ | refine Gr.drew ?_ | refine Gr.trans ?_ (by assumption) | refine Gr.setCell ?_ (by (try simp); (try omega)) _))⟩

set_option maxRecDepth 100000 in
set_option maxHeartbeats 1000000 in
theorem times_100 (hi n : Int) (w : World) (h1 : validS 0 hi = true) (hn : ¬ n < 0) (e2 : (hi == 0) = false) (g2 : hi ≠ 0) (c2 : -mq hi ≤ n) (d2 : n ≤ mq hi) (m2 : -100000000000000 ≤ n * hi ∧ n * hi ≤ 100000000000000) :
    Calls Tryd.prog 24 #[.agg #[.int .i64 0, .int .i64 hi], .int .i64 n] w
      fun e w' => e = .returned (.tuple #[.agg #[.int .i64 (0), .int .i64 (n * hi)], .int .i64 0]) ∧ Gr w w' := by
  obtain ⟨v1, v2, v3⟩ := validS_true h1
  have uhi1 : -100000000000000 ≤ hi := by omega
  have uhi2 : hi ≤ 100000000000000 := by omega
  clear v1 v2 v3
  have i0 := run_index2a 0 hi
  have i1 := run_index2b 0 hi
  have q2 : 100000000000000 / mx hi (-hi) = mq hi := rfl
  have r2 : (if hi < -hi then -hi else hi) = mx hi (-hi) := rfl
  have a2 := mx_abs g2
  have b2 := mx_bd (x := hi) (by omega) (by omega)
  obtain ⟨k2, j2⟩ := mq_bd (x := hi) g2 (by omega) (by omega)
  clear g2
  go_enter Tryd.func24, Tryd.ntmps24
  go_wp2_with (go_at_call 14; with_reducible refine (valid_any _ _ _).mono ?_; rintro e w' ⟨rfl, hb⟩; have hz := hb.le; obtain ⟨hc, hf⟩ := hb.cells; (try simp only [World.size_alloc] at hc hf hz); (try simp only [World.size_setCell] at hc hf hz); (try simp only [World.size_drew] at hc hf hz))
  refine wp_loop_rounds 3 ?_
  rw [rounds_succ]; go_wp2
  rw [rounds_succ]; go_wp2
  rw [rounds_succ]; go_wp2
  exact bodyPost_ret (v := .tuple #[.agg #[.int .i64 (0), .int .i64 (n * hi)], .int .i64 0]) (by simp [results, Tryd.results24, go_sem, *]) rfl ⟨rfl, (by repeat (first | exact Gr.refl _ | refine Gr.alloc ?_ _ | refine Gr.drew ?_ | refine Gr.trans ?_ (by assumption) | refine Gr.setCell ?_ (by (try simp); (try omega)) _))⟩

set_option maxRecDepth 100000 in
set_option maxHeartbeats 1000000 in
theorem times_101 (hi n : Int) (w : World) (h1 : validS 0 hi = true) (hn : n < 0) (e2 : (hi == 0) = false) (g2 : hi ≠ 0) (c2 : -mq hi ≤ n) (d2 : n ≤ mq hi) (m2 : -100000000000000 ≤ n * hi ∧ n * hi ≤ 100000000000000) :
    Calls Tryd.prog 24 #[.agg #[.int .i64 0, .int .i64 hi], .int .i64 n] w
      fun e w' => e = .returned (.tuple #[.agg #[.int .i64 (n * hi), .int .i64 (0)], .int .i64 0]) ∧ Gr w w' := by
  obtain ⟨v1, v2, v3⟩ := validS_true h1
  have uhi1 : -100000000000000 ≤ hi := by omega
  have uhi2 : hi ≤ 100000000000000 := by omega
  clear v1 v2 v3
  have i0 := run_index2a 0 hi
  have i1 := run_index2b 0 hi
  have q2 : 100000000000000 / mx hi (-hi) = mq hi := rfl
  have r2 : (if hi < -hi then -hi else hi) = mx hi (-hi) := rfl
  have a2 := mx_abs g2
  have b2 := mx_bd (x := hi) (by omega) (by omega)
  obtain ⟨k2, j2⟩ := mq_bd (x := hi) g2 (by omega) (by omega)
  clear g2
  go_enter Tryd.func24, Tryd.ntmps24
  go_wp2_with (go_at_call 14; with_reducible refine (valid_any _ _ _).mono ?_; rintro e w' ⟨rfl, hb⟩; have hz := hb.le; obtain ⟨hc, hf⟩ := hb.cells; (try simp only [World.size_alloc] at hc hf hz); (try simp only [World.size_setCell] at hc hf hz); (try simp only [World.size_drew] at hc hf hz))
  refine wp_loop_rounds 3 ?_
  rw [rounds_succ]; go_wp2
  rw [rounds_succ]; go_wp2
  rw [rounds_succ]; go_wp2
  exact bodyPost_ret (v := .tuple #[.agg #[.int .i64 (n * hi), .int .i64 (0)], .int .i64 0]) (by simp [results, Tryd.results24, go_sem, *]) rfl ⟨rfl, (by repeat (first | exact Gr.refl _ | refine Gr.alloc ?_ _ | refine Gr.drew ?_ | refine Gr.trans ?_ (by assumption) | refine Gr.setCell ?_ (by (try simp); (try omega)) _))⟩

set_option maxRecDepth 100000 in
set_option maxHeartbeats 1000000 in
theorem times_110 (n : Int) (w : World) (h1 : validS 0 0 = true) (hn : ¬ n < 0) :
    Calls Tryd.prog 24 #[.agg #[.int .i64 0, .int .i64 0], .int .i64 n] w
      fun e w' => e = .returned (.tuple #[.agg #[.int .i64 (0), .int .i64 (0)], .int .i64 0]) ∧ Gr w w' := by
  obtain ⟨v1, v2, v3⟩ := validS_true h1
  have i0 := run_index2a 0 0
  have i1 := run_index2b 0 0
  go_enter Tryd.func24, Tryd.ntmps24
  go_wp2_with (go_at_call 14; with_reducible refine (valid_any _ _ _).mono ?_; rintro e w' ⟨rfl, hb⟩; have hz := hb.le; obtain ⟨hc, hf⟩ := hb.cells; (try simp only [World.size_alloc] at hc hf hz); (try simp only [World.size_setCell] at hc hf hz); (try simp only [World.size_drew] at hc hf hz))
  refine wp_loop_rounds 3 ?_
  rw [rounds_succ]; go_wp2
  rw [rounds_succ]; go_wp2
  rw [rounds_succ]; go_wp2
  exact bodyPost_ret (v := .tuple #[.agg #[.int .i64 (0), .int .i64 (0)], .int .i64 0]) (by simp [results, Tryd.results24, go_sem, *]) rfl ⟨rfl, (by repeat (first | exact Gr.refl _ | refine Gr.alloc ?_ _ | refine Gr.drew ?_ | refine Gr.trans ?_ (by assumption) | refine Gr.setCell ?_ (by (try simp); (try omega)) _))⟩

set_option maxRecDepth 100000 in
set_option maxHeartbeats 1000000 in
theorem times_111 (n : Int) (w : World) (h1 : validS 0 0 = true) (hn : n < 0) :
    Calls Tryd.prog 24 #[.agg #[.int .i64 0, .int .i64 0], .int .i64 n] w
      fun e w' => e = .returned (.tuple #[.agg #[.int .i64 (0), .int .i64 (0)], .int .i64 0]) ∧ Gr w w' := by
  obtain ⟨v1, v2, v3⟩ := validS_true h1
  have i0 := run_index2a 0 0
  have i1 := run_index2b 0 0
  go_enter Tryd.func24, Tryd.ntmps24
  go_wp2_with (go_at_call 14; with_reducible refine (valid_any _ _ _).mono ?_; rintro e w' ⟨rfl, hb⟩; have hz := hb.le; obtain ⟨hc, hf⟩ := hb.cells; (try simp only [World.size_alloc] at hc hf hz); (try simp only [World.size_setCell] at hc hf hz); (try simp only [World.size_drew] at hc hf hz))
  refine wp_loop_rounds 3 ?_
  rw [rounds_succ]; go_wp2
  rw [rounds_succ]; go_wp2
  rw [rounds_succ]; go_wp2
  exact bodyPost_ret (v := .tuple #[.agg #[.int .i64 (0), .int .i64 (0)], .int .i64 0]) (by simp [results, Tryd.results24, go_sem, *]) rfl ⟨rfl, (by repeat (first | exact Gr.refl _ | refine Gr.alloc ?_ _ | refine Gr.drew ?_ | refine Gr.trans ?_ (by assumption) | refine Gr.setCell ?_ (by (try simp); (try omega)) _))⟩

theorem times_ok (lo hi n : Int) (w : World) (h1 : validS lo hi = true) (f1 : fits lo n = true) (f2 : fits hi n = true) :
    Calls Tryd.prog 24 #[.agg #[.int .i64 lo, .int .i64 hi], .int .i64 n] w
      fun e w' => e = .returned (.tuple #[.agg #[.int .i64 (timesLo lo hi n), .int .i64 (timesHi lo hi n)], .int .i64 0]) ∧ Gr w w' := by
  have m1 := mul_in f1
  have m2 := mul_in f2
  unfold timesLo timesHi
  rcases fits_cases f1 with rfl | ⟨e1, g1, c1, d1⟩ <;> rcases fits_cases f2 with rfl | ⟨e2, g2, c2, d2⟩ <;> by_cases hn : n < 0
  · rw [if_pos hn]; simp only [Int.mul_zero]; exact times_111 n w h1 hn
  · rw [if_neg hn]; simp only [Int.mul_zero]; exact times_110 n w h1 hn
  · rw [if_pos hn, if_pos hn]; simp only [Int.mul_zero]; exact times_101 hi n w h1 hn e2 g2 c2 d2 m2
  · rw [if_neg hn, if_neg hn]; simp only [Int.mul_zero]; exact times_100 hi n w h1 hn e2 g2 c2 d2 m2
  · rw [if_pos hn, if_pos hn]; simp only [Int.mul_zero]; exact times_011 lo n w h1 hn e1 g1 c1 d1 m1
  · rw [if_neg hn, if_neg hn]; simp only [Int.mul_zero]; exact times_010 lo n w h1 hn e1 g1 c1 d1 m1
  · rw [if_pos hn, if_pos hn]; exact times_001 lo hi n w h1 hn e1 g1 c1 d1 m1 e2 g2 c2 d2 m2
  · rw [if_neg hn, if_neg hn]; exact times_000 lo hi n w h1 hn e1 g1 c1 d1 m1 e2 g2 c2 d2 m2

set_option maxRecDepth 100000 in
set_option maxHeartbeats 1000000 in
theorem times_bad (lo hi n : Int) (w : World) (h1 : validS lo hi = false) :
    Calls Tryd.prog 24 #[.agg #[.int .i64 lo, .int .i64 hi], .int .i64 n] w
      fun e w' => e = .returned (.tuple #[.agg #[.int .i64 0, .int .i64 0], .int .i64 1]) ∧ Gr w w' := by
  go_enter Tryd.func24, Tryd.ntmps24
  go_wp2_with (go_at_call 14; with_reducible refine (valid_any _ _ _).mono ?_; rintro e w' ⟨rfl, hb⟩; have hz := hb.le; obtain ⟨hc, hf⟩ := hb.cells; (try simp only [World.size_alloc] at hc hf hz); (try simp only [World.size_setCell] at hc hf hz); (try simp only [World.size_drew] at hc hf hz))
  exact bodyPost_ret (v := .tuple #[.agg #[.int .i64 0, .int .i64 0], .int .i64 1]) (by simp [results, Tryd.results24, go_sem, *]) rfl ⟨rfl, (by repeat (first | exact Gr.refl _ | refine Gr.alloc ?_ _ | refine Gr.drew ?_ | refine Gr.trans ?_ (by assumption) | refine Gr.setCell ?_ (by (try simp); (try omega)) _))⟩

set_option maxRecDepth 100000 in
set_option maxHeartbeats 1000000 in
theorem times_outlo_n (lo hi n : Int) (w : World) (h1 : validS lo hi = true) (e1 : (lo == 0) = false) (g1 : lo ≠ 0) (c1 : n < -mq lo) :
    Calls Tryd.prog 24 #[.agg #[.int .i64 lo, .int .i64 hi], .int .i64 n] w
      fun e w' => e = .returned (.tuple #[.agg #[.int .i64 0, .int .i64 0], .int .i64 3]) ∧ Gr w w' := by
  obtain ⟨v1, v2, v3⟩ := validS_true h1
  have ulo1 : -100000000000000 ≤ lo := by omega
  have ulo2 : lo ≤ 100000000000000 := by omega
  clear v1 v2 v3
  have i0 := run_index2a lo hi
  have i1 := run_index2b lo hi
  have q1 : 100000000000000 / mx lo (-lo) = mq lo := rfl
  have r1 : (if lo < -lo then -lo else lo) = mx lo (-lo) := rfl
  have a1 := mx_abs g1
  have b1 := mx_bd (x := lo) (by omega) (by omega)
  obtain ⟨k1, j1⟩ := mq_bd (x := lo) g1 (by omega) (by omega)
  clear g1
  go_enter Tryd.func24, Tryd.ntmps24
  go_wp2_with (go_at_call 14; with_reducible refine (valid_any _ _ _).mono ?_; rintro e w' ⟨rfl, hb⟩; have hz := hb.le; obtain ⟨hc, hf⟩ := hb.cells; (try simp only [World.size_alloc] at hc hf hz); (try simp only [World.size_setCell] at hc hf hz); (try simp only [World.size_drew] at hc hf hz))
  refine wp_loop_rounds 3 ?_
  rw [rounds_succ]; go_wp2
  all_goals exact bodyPost_ret (v := .tuple #[.agg #[.int .i64 0, .int .i64 0], .int .i64 3]) (by simp [results, Tryd.results24, go_sem, *]) rfl ⟨rfl, (by repeat (first | exact Gr.refl _ | refine Gr.alloc ?_ _ | refine Gr.drew ?_ | refine Gr.trans ?_ (by assumption) | refine Gr.setCell ?_ (by (try simp); (try omega)) _))⟩

set_option maxRecDepth 100000 in
set_option maxHeartbeats 1000000 in
theorem times_outlo_p (lo hi n : Int) (w : World) (h1 : validS lo hi = true) (e1 : (lo == 0) = false) (g1 : lo ≠ 0) (c1 : mq lo < n) :
    Calls Tryd.prog 24 #[.agg #[.int .i64 lo, .int .i64 hi], .int .i64 n] w
      fun e w' => e = .returned (.tuple #[.agg #[.int .i64 0, .int .i64 0], .int .i64 3]) ∧ Gr w w' := by
  obtain ⟨v1, v2, v3⟩ := validS_true h1
  have ulo1 : -100000000000000 ≤ lo := by omega
  have ulo2 : lo ≤ 100000000000000 := by omega
  clear v1 v2 v3
  have i0 := run_index2a lo hi
  have i1 := run_index2b lo hi
  have q1 : 100000000000000 / mx lo (-lo) = mq lo := rfl
  have r1 : (if lo < -lo then -lo else lo) = mx lo (-lo) := rfl
  have a1 := mx_abs g1
  have b1 := mx_bd (x := lo) (by omega) (by omega)
  obtain ⟨k1, j1⟩ := mq_bd (x := lo) g1 (by omega) (by omega)
  clear g1
  go_enter Tryd.func24, Tryd.ntmps24
  go_wp2_with (go_at_call 14; with_reducible refine (valid_any _ _ _).mono ?_; rintro e w' ⟨rfl, hb⟩; have hz := hb.le; obtain ⟨hc, hf⟩ := hb.cells; (try simp only [World.size_alloc] at hc hf hz); (try simp only [World.size_setCell] at hc hf hz); (try simp only [World.size_drew] at hc hf hz))
  refine wp_loop_rounds 3 ?_
  rw [rounds_succ]; go_wp2
  all_goals exact bodyPost_ret (v := .tuple #[.agg #[.int .i64 0, .int .i64 0], .int .i64 3]) (by simp [results, Tryd.results24, go_sem, *]) rfl ⟨rfl, (by repeat (first | exact Gr.refl _ | refine Gr.alloc ?_ _ | refine Gr.drew ?_ | refine Gr.trans ?_ (by assumption) | refine Gr.setCell ?_ (by (try simp); (try omega)) _))⟩

set_option maxRecDepth 100000 in
set_option maxHeartbeats 1000000 in
theorem times_outhi_n (lo hi n : Int) (w : World) (h1 : validS lo hi = true) (e1 : (lo == 0) = false) (g1 : lo ≠ 0) (c1 : -mq lo ≤ n) (d1 : n ≤ mq lo) (e2 : (hi == 0) = false) (g2 : hi ≠ 0) (c2 : n < -mq hi) :
    Calls Tryd.prog 24 #[.agg #[.int .i64 lo, .int .i64 hi], .int .i64 n] w
      fun e w' => e = .returned (.tuple #[.agg #[.int .i64 0, .int .i64 0], .int .i64 3]) ∧ Gr w w' := by
  obtain ⟨v1, v2, v3⟩ := validS_true h1
  have ulo1 : -100000000000000 ≤ lo := by omega
  have ulo2 : lo ≤ 100000000000000 := by omega
  have uhi1 : -100000000000000 ≤ hi := by omega
  have uhi2 : hi ≤ 100000000000000 := by omega
  clear v1 v2 v3
  have i0 := run_index2a lo hi
  have i1 := run_index2b lo hi
  have q1 : 100000000000000 / mx lo (-lo) = mq lo := rfl
  have r1 : (if lo < -lo then -lo else lo) = mx lo (-lo) := rfl
  have a1 := mx_abs g1
  have b1 := mx_bd (x := lo) (by omega) (by omega)
  obtain ⟨k1, j1⟩ := mq_bd (x := lo) g1 (by omega) (by omega)
  clear g1
  have q2 : 100000000000000 / mx hi (-hi) = mq hi := rfl
  have r2 : (if hi < -hi then -hi else hi) = mx hi (-hi) := rfl
  have a2 := mx_abs g2
  have b2 := mx_bd (x := hi) (by omega) (by omega)
  obtain ⟨k2, j2⟩ := mq_bd (x := hi) g2 (by omega) (by omega)
  clear g2
  go_enter Tryd.func24, Tryd.ntmps24
  go_wp2_with (go_at_call 14; with_reducible refine (valid_any _ _ _).mono ?_; rintro e w' ⟨rfl, hb⟩; have hz := hb.le; obtain ⟨hc, hf⟩ := hb.cells; (try simp only [World.size_alloc] at hc hf hz); (try simp only [World.size_setCell] at hc hf hz); (try simp only [World.size_drew] at hc hf hz))
  refine wp_loop_rounds 3 ?_
  rw [rounds_succ]; go_wp2
  rw [rounds_succ]; go_wp2
  all_goals exact bodyPost_ret (v := .tuple #[.agg #[.int .i64 0, .int .i64 0], .int .i64 3]) (by simp [results, Tryd.results24, go_sem, *]) rfl ⟨rfl, (by repeat (first | exact Gr.refl _ | refine Gr.alloc ?_ _ | refine Gr.drew ?_ | refine Gr.trans ?_ (by assumption) | refine Gr.setCell ?_ (by (try simp); (try omega)) _))⟩

set_option maxRecDepth 100000 in
set_option maxHeartbeats 1000000 in
theorem times_outhi0_n (hi n : Int) (w : World) (h1 : validS 0 hi = true) (e2 : (hi == 0) = false) (g2 : hi ≠ 0) (c2 : n < -mq hi) :
    Calls Tryd.prog 24 #[.agg #[.int .i64 0, .int .i64 hi], .int .i64 n] w
      fun e w' => e = .returned (.tuple #[.agg #[.int .i64 0, .int .i64 0], .int .i64 3]) ∧ Gr w w' := by
  obtain ⟨v1, v2, v3⟩ := validS_true h1
  have uhi1 : -100000000000000 ≤ hi := by omega
  have uhi2 : hi ≤ 100000000000000 := by omega
  clear v1 v2 v3
  have i0 := run_index2a 0 hi
  have i1 := run_index2b 0 hi
  have q2 : 100000000000000 / mx hi (-hi) = mq hi := rfl
  have r2 : (if hi < -hi then -hi else hi) = mx hi (-hi) := rfl
  have a2 := mx_abs g2
  have b2 := mx_bd (x := hi) (by omega) (by omega)
  obtain ⟨k2, j2⟩ := mq_bd (x := hi) g2 (by omega) (by omega)
  clear g2
  go_enter Tryd.func24, Tryd.ntmps24
  go_wp2_with (go_at_call 14; with_reducible refine (valid_any _ _ _).mono ?_; rintro e w' ⟨rfl, hb⟩; have hz := hb.le; obtain ⟨hc, hf⟩ := hb.cells; (try simp only [World.size_alloc] at hc hf hz); (try simp only [World.size_setCell] at hc hf hz); (try simp only [World.size_drew] at hc hf hz))
  refine wp_loop_rounds 3 ?_
  rw [rounds_succ]; go_wp2
  rw [rounds_succ]; go_wp2
  all_goals exact bodyPost_ret (v := .tuple #[.agg #[.int .i64 0, .int .i64 0], .int .i64 3]) (by simp [results, Tryd.results24, go_sem, *]) rfl ⟨rfl, (by repeat (first | exact Gr.refl _ | refine Gr.alloc ?_ _ | refine Gr.drew ?_ | refine Gr.trans ?_ (by assumption) | refine Gr.setCell ?_ (by (try simp); (try omega)) _))⟩

set_option maxRecDepth 100000 in
set_option maxHeartbeats 1000000 in
theorem times_outhi_p (lo hi n : Int) (w : World) (h1 : validS lo hi = true) (e1 : (lo == 0) = false) (g1 : lo ≠ 0) (c1 : -mq lo ≤ n) (d1 : n ≤ mq lo) (e2 : (hi == 0) = false) (g2 : hi ≠ 0) (c2 : mq hi < n) :
    Calls Tryd.prog 24 #[.agg #[.int .i64 lo, .int .i64 hi], .int .i64 n] w
      fun e w' => e = .returned (.tuple #[.agg #[.int .i64 0, .int .i64 0], .int .i64 3]) ∧ Gr w w' := by
  obtain ⟨v1, v2, v3⟩ := validS_true h1
  have ulo1 : -100000000000000 ≤ lo := by omega
  have ulo2 : lo ≤ 100000000000000 := by omega
  have uhi1 : -100000000000000 ≤ hi := by omega
  have uhi2 : hi ≤ 100000000000000 := by omega
  clear v1 v2 v3
  have i0 := run_index2a lo hi
  have i1 := run_index2b lo hi
  have q1 : 100000000000000 / mx lo (-lo) = mq lo := rfl
  have r1 : (if lo < -lo then -lo else lo) = mx lo (-lo) := rfl
  have a1 := mx_abs g1
  have b1 := mx_bd (x := lo) (by omega) (by omega)
  obtain ⟨k1, j1⟩ := mq_bd (x := lo) g1 (by omega) (by omega)
  clear g1
  have q2 : 100000000000000 / mx hi (-hi) = mq hi := rfl
  have r2 : (if hi < -hi then -hi else hi) = mx hi (-hi) := rfl
  have a2 := mx_abs g2
  have b2 := mx_bd (x := hi) (by omega) (by omega)
  obtain ⟨k2, j2⟩ := mq_bd (x := hi) g2 (by omega) (by omega)
  clear g2
  go_enter Tryd.func24, Tryd.ntmps24
  go_wp2_with (go_at_call 14; with_reducible refine (valid_any _ _ _).mono ?_; rintro e w' ⟨rfl, hb⟩; have hz := hb.le; obtain ⟨hc, hf⟩ := hb.cells; (try simp only [World.size_alloc] at hc hf hz); (try simp only [World.size_setCell] at hc hf hz); (try simp only [World.size_drew] at hc hf hz))
  refine wp_loop_rounds 3 ?_
  rw [rounds_succ]; go_wp2
  rw [rounds_succ]; go_wp2
  all_goals exact bodyPost_ret (v := .tuple #[.agg #[.int .i64 0, .int .i64 0], .int .i64 3]) (by simp [results, Tryd.results24, go_sem, *]) rfl ⟨rfl, (by repeat (first | exact Gr.refl _ | refine Gr.alloc ?_ _ | refine Gr.drew ?_ | refine Gr.trans ?_ (by assumption) | refine Gr.setCell ?_ (by (try simp); (try omega)) _))⟩

set_option maxRecDepth 100000 in
set_option maxHeartbeats 1000000 in
theorem times_outhi0_p (hi n : Int) (w : World) (h1 : validS 0 hi = true) (e2 : (hi == 0) = false) (g2 : hi ≠ 0) (c2 : mq hi < n) :
    Calls Tryd.prog 24 #[.agg #[.int .i64 0, .int .i64 hi], .int .i64 n] w
      fun e w' => e = .returned (.tuple #[.agg #[.int .i64 0, .int .i64 0], .int .i64 3]) ∧ Gr w w' := by
  obtain ⟨v1, v2, v3⟩ := validS_true h1
  have uhi1 : -100000000000000 ≤ hi := by omega
  have uhi2 : hi ≤ 100000000000000 := by omega
  clear v1 v2 v3
  have i0 := run_index2a 0 hi
  have i1 := run_index2b 0 hi
  have q2 : 100000000000000 / mx hi (-hi) = mq hi := rfl
  have r2 : (if hi < -hi then -hi else hi) = mx hi (-hi) := rfl
  have a2 := mx_abs g2
  have b2 := mx_bd (x := hi) (by omega) (by omega)
  obtain ⟨k2, j2⟩ := mq_bd (x := hi) g2 (by omega) (by omega)
  clear g2
  go_enter Tryd.func24, Tryd.ntmps24
  go_wp2_with (go_at_call 14; with_reducible refine (valid_any _ _ _).mono ?_; rintro e w' ⟨rfl, hb⟩; have hz := hb.le; obtain ⟨hc, hf⟩ := hb.cells; (try simp only [World.size_alloc] at hc hf hz); (try simp only [World.size_setCell] at hc hf hz); (try simp only [World.size_drew] at hc hf hz))
  refine wp_loop_rounds 3 ?_
  rw [rounds_succ]; go_wp2
  rw [rounds_succ]; go_wp2
  all_goals exact bodyPost_ret (v := .tuple #[.agg #[.int .i64 0, .int .i64 0], .int .i64 3]) (by simp [results, Tryd.results24, go_sem, *]) rfl ⟨rfl, (by repeat (first | exact Gr.refl _ | refine Gr.alloc ?_ _ | refine Gr.drew ?_ | refine Gr.trans ?_ (by assumption) | refine Gr.setCell ?_ (by (try simp); (try omega)) _))⟩

theorem times_out (lo hi n : Int) (w : World) (h1 : validS lo hi = true) (f : (fits lo n && fits hi n) = false) :
    Calls Tryd.prog 24 #[.agg #[.int .i64 lo, .int .i64 hi], .int .i64 n] w
      fun e w' => e = .returned (.tuple #[.agg #[.int .i64 0, .int .i64 0], .int .i64 3]) ∧ Gr w w' := by
  cases f1 : fits lo n
  · obtain ⟨e1, g1, c1 | c1⟩ := fits_no f1
    · exact times_outlo_n lo hi n w h1 e1 g1 c1
    · exact times_outlo_p lo hi n w h1 e1 g1 c1
  · have f2 : fits hi n = false := by simpa [f1] using f
    obtain ⟨e2, g2, c2⟩ := fits_no f2
    rcases fits_cases f1 with rfl | ⟨e1, g1, c1, d1⟩
    · rcases c2 with c2 | c2
      · exact times_outhi0_n hi n w h1 e2 g2 c2
      · exact times_outhi0_p hi n w h1 e2 g2 c2
    · rcases c2 with c2 | c2
      · exact times_outhi_n lo hi n w h1 e1 g1 c1 d1 e2 g2 c2
      · exact times_outhi_p lo hi n w h1 e1 g1 c1 d1 e2 g2 c2
end Go.Proofs.YtmealmnjeoehiaaDoor
