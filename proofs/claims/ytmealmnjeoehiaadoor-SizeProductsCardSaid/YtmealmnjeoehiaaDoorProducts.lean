import Derived.Test.YtmealmnjeoehiaaDoorProd2
import Derived.Test.YtmealmnjeoehiaaDoorProd3
import Derived.Test.YtmealmnjeoehiaaDoorProd4
namespace Go.Proofs.YtmealmnjeoehiaaDoor
open Go.RowKit

theorem loE_same (k : Nat) (x y : Int) (h : ((decide (x < 0) && decide (0 < y)) || (decide (0 < x) && decide (y < 0))) = false) : loE k (x + y) = loE k x + loE k y ∧ hiE k (x + y) = hiE k x + hiE k y := by
  simp only [Bool.or_eq_false_iff, Bool.and_eq_false_iff, decide_eq_false_iff_not] at h
  unfold loE hiE
  by_cases h0 : x = 0
  · subst h0; simp
  by_cases h1 : y = 0
  · subst h1; simp
  by_cases hx : x < 0
  · rw [if_pos (by omega), if_pos hx, if_pos (by omega), if_pos (by omega), if_pos hx, if_pos (by omega), Int.add_mul, Int.add_mul]; exact ⟨rfl, rfl⟩
  · rw [if_neg (by omega), if_neg hx, if_neg (by omega), if_neg (by omega), if_neg hx, if_neg (by omega), Int.add_mul, Int.add_mul]; exact ⟨rfl, rfl⟩
theorem sum_same (u v : V6) (n : Nat) (hn : n ≤ 6) (h : oppB u v n = false) : sumLo (u.add v) n = sumLo u n + sumLo v n ∧ sumHi (u.add v) n = sumHi u n + sumHi v n := by
  induction n with
  | zero => simp [sumLo, sumHi]
  | succ n ih =>
    rw [oppB_succ, Bool.or_eq_false_iff] at h
    obtain ⟨i1, i2⟩ := ih (by omega) h.1
    obtain ⟨a, b⟩ := loE_same n _ _ h.2
    simp only [sumLo_succ, sumHi_succ]
    rw [get_add u v n (by omega), a, b]
    omega
theorem sum_sub (u v : V6) (n : Nat) (hn : n ≤ 6) : sumLo u n - sumHi v n ≤ sumLo (u.sub v) n ∧ sumHi (u.sub v) n ≤ sumHi u n - sumLo v n := by
  induction n with
  | zero => simp [sumLo, sumHi]
  | succ n ih =>
    obtain ⟨i1, i2⟩ := ih (by omega)
    have a := loE_add n (by omega) (u.get n) (-v.get n)
    have b := hiE_add n (by omega) (u.get n) (-v.get n)
    obtain ⟨c, d⟩ := loE_neg n (v.get n)
    simp only [sumLo_succ, sumHi_succ]
    rw [get_sub u v n (by omega)]
    rw [show u.get n + -v.get n = u.get n - v.get n by omega] at a b
    omega

theorem products_law (p0 p1 p2 p3 p4 p5 q0 q1 q2 q3 q4 q5 : Int) (w : World) (hL : Logs w) :
    Calls Tryd.prog 9 #[.agg #[.int .i64 p0, .int .i64 p1, .int .i64 p2, .int .i64 p3, .int .i64 p4, .int .i64 p5], .agg #[.int .i64 q0, .int .i64 q1, .int .i64 q2, .int .i64 q3, .int .i64 q4, .int .i64 q5]] w fun e w' => e = .returned (.bool true) ∧ Gr w w' := by
  cases hp : allIn ⟨p0, p1, p2, p3, p4, p5⟩ 576 6
  · exact products_bad1 p0 p1 p2 p3 p4 p5 q0 q1 q2 q3 q4 q5 w hL hp
  cases hq : allIn ⟨q0, q1, q2, q3, q4, q5⟩ 576 6
  · exact products_bad2 p0 p1 p2 p3 p4 p5 q0 q1 q2 q3 q4 q5 w hL hp hq
  have bp := sum_bd (allIn_mono hp (show (576 : Int) ≤ 1152 by omega)) 6 (by omega)
  have bq := sum_bd (allIn_mono hq (show (576 : Int) ≤ 1152 by omega)) 6 (by omega)
  have lp := sum_le ⟨p0, p1, p2, p3, p4, p5⟩ 6 (by omega)
  have lq := sum_le ⟨q0, q1, q2, q3, q4, q5⟩ 6 (by omega)
  have av : validS (sumLo ⟨p0, p1, p2, p3, p4, p5⟩ 6) (sumHi ⟨p0, p1, p2, p3, p4, p5⟩ 6) = true := validS_mk (by omega)
  have bv : validS (sumLo ⟨q0, q1, q2, q3, q4, q5⟩ 6) (sumHi ⟨q0, q1, q2, q3, q4, q5⟩ 6) = true := validS_mk (by omega)
  have sv : validS (sumLo ⟨p0, p1, p2, p3, p4, p5⟩ 6 + sumLo ⟨q0, q1, q2, q3, q4, q5⟩ 6) (sumHi ⟨p0, p1, p2, p3, p4, p5⟩ 6 + sumHi ⟨q0, q1, q2, q3, q4, q5⟩ 6) = true := validS_mk (by omega)
  have dv : validS (sumLo ⟨p0, p1, p2, p3, p4, p5⟩ 6 - sumHi ⟨q0, q1, q2, q3, q4, q5⟩ 6) (sumHi ⟨p0, p1, p2, p3, p4, p5⟩ 6 - sumLo ⟨q0, q1, q2, q3, q4, q5⟩ 6) = true := validS_mk (by omega)
  have sw := sum_swap ⟨p0, p1, p2, p3, p4, p5⟩ ⟨q0, q1, q2, q3, q4, q5⟩ 6 (by omega)
  have e1 : sumLo ⟨q0 - p0, q1 - p1, q2 - p2, q3 - p3, q4 - p4, q5 - p5⟩ 6 = -sumHi ⟨p0 - q0, p1 - q1, p2 - q2, p3 - q3, p4 - q4, p5 - q5⟩ 6 := sw.1
  have e2 : sumHi ⟨q0 - p0, q1 - p1, q2 - p2, q3 - p3, q4 - p4, q5 - p5⟩ 6 = -sumLo ⟨p0 - q0, p1 - q1, p2 - q2, p3 - q3, p4 - q4, p5 - q5⟩ 6 := sw.2
  have f : sumLo ⟨p0 - p0, p1 - p1, p2 - p2, p3 - p3, p4 - p4, p5 - p5⟩ 6 = 0 ∧ sumHi ⟨p0 - p0, p1 - p1, p2 - p2, p3 - p3, p4 - p4, p5 - p5⟩ 6 = 0 := by
    have s1 := sum_swap ⟨p0, p1, p2, p3, p4, p5⟩ ⟨p0, p1, p2, p3, p4, p5⟩ 6 (by omega)
    have s2 : sumLo ⟨p0 - p0, p1 - p1, p2 - p2, p3 - p3, p4 - p4, p5 - p5⟩ 6 = -sumHi ⟨p0 - p0, p1 - p1, p2 - p2, p3 - p3, p4 - p4, p5 - p5⟩ 6 := s1.1
    have s3 : sumLo ⟨p0 - p0, p1 - p1, p2 - p2, p3 - p3, p4 - p4, p5 - p5⟩ 6 ≤ sumHi ⟨p0 - p0, p1 - p1, p2 - p2, p3 - p3, p4 - p4, p5 - p5⟩ 6 := sum_le _ 6 (by omega)
    have e : ⟨p0 - p0, p1 - p1, p2 - p2, p3 - p3, p4 - p4, p5 - p5⟩ = (⟨0, 0, 0, 0, 0, 0⟩ : V6) := by simp
    rw [e]; decide +kernel
  have ds := sum_sub ⟨p0, p1, p2, p3, p4, p5⟩ ⟨q0, q1, q2, q3, q4, q5⟩ 6 (by omega)
  have d1 : sumLo ⟨p0, p1, p2, p3, p4, p5⟩ 6 - sumHi ⟨q0, q1, q2, q3, q4, q5⟩ 6 ≤ sumLo ⟨p0 - q0, p1 - q1, p2 - q2, p3 - q3, p4 - q4, p5 - q5⟩ 6 := ds.1
  have d2 : sumHi ⟨p0 - q0, p1 - q1, p2 - q2, p3 - q3, p4 - q4, p5 - q5⟩ 6 ≤ sumHi ⟨p0, p1, p2, p3, p4, p5⟩ 6 - sumLo ⟨q0, q1, q2, q3, q4, q5⟩ 6 := ds.2
  have gl : sumLo ⟨p0 - q0, p1 - q1, p2 - q2, p3 - q3, p4 - q4, p5 - q5⟩ 6 ≤ sumHi ⟨p0 - q0, p1 - q1, p2 - q2, p3 - q3, p4 - q4, p5 - q5⟩ 6 := sum_le _ 6 (by omega)
  have di : (decide (sumLo ⟨p0, p1, p2, p3, p4, p5⟩ 6 - sumHi ⟨q0, q1, q2, q3, q4, q5⟩ 6 ≤ sumLo ⟨p0 - q0, p1 - q1, p2 - q2, p3 - q3, p4 - q4, p5 - q5⟩ 6) && decide (sumHi ⟨p0 - q0, p1 - q1, p2 - q2, p3 - q3, p4 - q4, p5 - q5⟩ 6 ≤ sumHi ⟨p0, p1, p2, p3, p4, p5⟩ 6 - sumLo ⟨q0, q1, q2, q3, q4, q5⟩ 6)) = true := by
    simp only [Bool.and_eq_true, decide_eq_true_eq]; exact ⟨d1, d2⟩
  have gb : -100000000000000 ≤ sumLo ⟨p0 - q0, p1 - q1, p2 - q2, p3 - q3, p4 - q4, p5 - q5⟩ 6 ∧ sumLo ⟨p0 - q0, p1 - q1, p2 - q2, p3 - q3, p4 - q4, p5 - q5⟩ 6 ≤ 100000000000000 ∧ -100000000000000 ≤ sumHi ⟨p0 - q0, p1 - q1, p2 - q2, p3 - q3, p4 - q4, p5 - q5⟩ 6 ∧ sumHi ⟨p0 - q0, p1 - q1, p2 - q2, p3 - q3, p4 - q4, p5 - q5⟩ 6 ≤ 100000000000000 := by omega
  have sa := sum_add ⟨p0, p1, p2, p3, p4, p5⟩ ⟨q0, q1, q2, q3, q4, q5⟩ 6 (by omega)
  have c1 : sumLo ⟨p0, p1, p2, p3, p4, p5⟩ 6 + sumLo ⟨q0, q1, q2, q3, q4, q5⟩ 6 ≤ sumLo ⟨p0 + q0, p1 + q1, p2 + q2, p3 + q3, p4 + q4, p5 + q5⟩ 6 := sa.1
  have c2 : sumHi ⟨p0 + q0, p1 + q1, p2 + q2, p3 + q3, p4 + q4, p5 + q5⟩ 6 ≤ sumHi ⟨p0, p1, p2, p3, p4, p5⟩ 6 + sumHi ⟨q0, q1, q2, q3, q4, q5⟩ 6 := sa.2
  have ci : (decide (sumLo ⟨p0, p1, p2, p3, p4, p5⟩ 6 + sumLo ⟨q0, q1, q2, q3, q4, q5⟩ 6 ≤ sumLo ⟨p0 + q0, p1 + q1, p2 + q2, p3 + q3, p4 + q4, p5 + q5⟩ 6) && decide (sumHi ⟨p0 + q0, p1 + q1, p2 + q2, p3 + q3, p4 + q4, p5 + q5⟩ 6 ≤ sumHi ⟨p0, p1, p2, p3, p4, p5⟩ 6 + sumHi ⟨q0, q1, q2, q3, q4, q5⟩ 6)) = true := by
    simp only [Bool.and_eq_true, decide_eq_true_eq]; exact ⟨c1, c2⟩
  cases qs : allIn ⟨p0 - q0, p1 - q1, p2 - q2, p3 - q3, p4 - q4, p5 - q5⟩ 576 6 <;> cases ms : allIn ⟨p0 + q0, p1 + q1, p2 + q2, p3 + q3, p4 + q4, p5 + q5⟩ 576 6
  · exact products_ff p0 p1 p2 p3 p4 p5 q0 q1 q2 q3 q4 q5 _ _ _ _ _ _ _ _ _ _ w hL hp hq rfl rfl rfl rfl av bv rfl rfl sv rfl rfl dv rfl rfl e1 e2 f.1 f.2 ms qs gb
  · cases ho : oppB ⟨p0, p1, p2, p3, p4, p5⟩ ⟨q0, q1, q2, q3, q4, q5⟩ 6
    · have sm := sum_same ⟨p0, p1, p2, p3, p4, p5⟩ ⟨q0, q1, q2, q3, q4, q5⟩ 6 (by omega) ho
      have sm1 : sumLo ⟨p0 + q0, p1 + q1, p2 + q2, p3 + q3, p4 + q4, p5 + q5⟩ 6 = sumLo ⟨p0, p1, p2, p3, p4, p5⟩ 6 + sumLo ⟨q0, q1, q2, q3, q4, q5⟩ 6 := sm.1
      have sm2 : sumHi ⟨p0 + q0, p1 + q1, p2 + q2, p3 + q3, p4 + q4, p5 + q5⟩ 6 = sumHi ⟨p0, p1, p2, p3, p4, p5⟩ 6 + sumHi ⟨q0, q1, q2, q3, q4, q5⟩ 6 := sm.2
      rw [sm1, sm2] at ci
      exact products_tff p0 p1 p2 p3 p4 p5 q0 q1 q2 q3 q4 q5 _ _ _ _ _ _ _ _ _ _ w hL hp hq rfl rfl rfl rfl av bv rfl rfl sv rfl rfl dv rfl rfl e1 e2 f.1 f.2 ms sm1 sm2 ci qs ho gb
    · exact products_ttf p0 p1 p2 p3 p4 p5 q0 q1 q2 q3 q4 q5 _ _ _ _ _ _ _ _ _ _ _ _ w hL hp hq rfl rfl rfl rfl av bv rfl rfl sv rfl rfl dv rfl rfl e1 e2 f.1 f.2 ms rfl rfl ci qs ho gb
  · exact products_ft p0 p1 p2 p3 p4 p5 q0 q1 q2 q3 q4 q5 _ _ _ _ _ _ _ _ _ _ w hL hp hq rfl rfl rfl rfl av bv rfl rfl sv rfl rfl dv rfl rfl e1 e2 f.1 f.2 ms qs di gb
  · cases ho : oppB ⟨p0, p1, p2, p3, p4, p5⟩ ⟨q0, q1, q2, q3, q4, q5⟩ 6
    · have sm := sum_same ⟨p0, p1, p2, p3, p4, p5⟩ ⟨q0, q1, q2, q3, q4, q5⟩ 6 (by omega) ho
      have sm1 : sumLo ⟨p0 + q0, p1 + q1, p2 + q2, p3 + q3, p4 + q4, p5 + q5⟩ 6 = sumLo ⟨p0, p1, p2, p3, p4, p5⟩ 6 + sumLo ⟨q0, q1, q2, q3, q4, q5⟩ 6 := sm.1
      have sm2 : sumHi ⟨p0 + q0, p1 + q1, p2 + q2, p3 + q3, p4 + q4, p5 + q5⟩ 6 = sumHi ⟨p0, p1, p2, p3, p4, p5⟩ 6 + sumHi ⟨q0, q1, q2, q3, q4, q5⟩ 6 := sm.2
      rw [sm1, sm2] at ci
      exact products_tft p0 p1 p2 p3 p4 p5 q0 q1 q2 q3 q4 q5 _ _ _ _ _ _ _ _ _ _ w hL hp hq rfl rfl rfl rfl av bv rfl rfl sv rfl rfl dv rfl rfl e1 e2 f.1 f.2 ms sm1 sm2 ci qs di ho gb
    · exact products_ttt p0 p1 p2 p3 p4 p5 q0 q1 q2 q3 q4 q5 _ _ _ _ _ _ _ _ _ _ _ _ w hL hp hq rfl rfl rfl rfl av bv rfl rfl sv rfl rfl dv rfl rfl e1 e2 f.1 f.2 ms rfl rfl ci qs di ho gb
end Go.Proofs.YtmealmnjeoehiaaDoor
