import Derived.Test.YtmealmnjeoehiaaDoorMult2
import Derived.Test.YtmealmnjeoehiaaDoorMult3
import Derived.Test.YtmealmnjeoehiaaDoorMult4
import Derived.Test.YtmealmnjeoehiaaDoorMult5
namespace Go.Proofs.YtmealmnjeoehiaaDoor
open Go.RowKit

theorem prod_bd {m n : Int} (h1 : -1000000 ≤ m) (h2 : m ≤ 1000000) (h3 : -1000000 ≤ n) (h4 : n ≤ 1000000) : -1000000000000 ≤ m * n ∧ m * n ≤ 1000000000000 := by
  have k : (m * n).natAbs ≤ 1000000 * 1000000 := by
    rw [Int.natAbs_mul]
    exact Nat.mul_le_mul (by omega) (by omega)
  omega
/-- Both ends of a size, taken n times, stay within the limits. -/
theorem fits_two (lo hi n : Int) : (fits lo n && fits hi n) = true ↔ (-100000000000000 ≤ n * lo ∧ n * lo ≤ 100000000000000 ∧ -100000000000000 ≤ n * hi ∧ n * hi ≤ 100000000000000) := by
  rw [Bool.and_eq_true, fits_iff, fits_iff]
  constructor
  · intro ⟨⟨a, b⟩, c, d⟩; exact ⟨a, b, c, d⟩
  · intro ⟨a, b, c, d⟩; exact ⟨⟨a, b⟩, c, d⟩
theorem fits_two_eq {lo hi n lo' hi' n' : Int} (h : (-100000000000000 ≤ n * lo ∧ n * lo ≤ 100000000000000 ∧ -100000000000000 ≤ n * hi ∧ n * hi ≤ 100000000000000) ↔ (-100000000000000 ≤ n' * lo' ∧ n' * lo' ≤ 100000000000000 ∧ -100000000000000 ≤ n' * hi' ∧ n' * hi' ≤ 100000000000000)) :
    (fits lo n && fits hi n) = (fits lo' n' && fits hi' n') := by
  rw [Bool.eq_iff_iff, fits_two, fits_two]; exact h
theorem times_valid {lo hi n : Int} (hle : lo ≤ hi) (f : (fits lo n && fits hi n) = true) : validS (timesLo lo hi n) (timesHi lo hi n) = true := by
  rw [fits_two] at f
  apply validS_mk
  unfold timesLo timesHi
  split
  · have := Int.mul_le_mul_of_nonpos_left (a := n) (by omega) hle
    omega
  · have := Int.mul_le_mul_of_nonneg_left hle (show 0 ≤ n by omega)
    omega
/-- Taken m times and then n times: the two products, in one order or the other. -/
theorem times_times (lo hi m n : Int) : timesLo (timesLo lo hi m) (timesHi lo hi m) n = timesLo lo hi (m * n) ∧ timesHi (timesLo lo hi m) (timesHi lo hi m) n = timesHi lo hi (m * n) := by
  have e1 : n * (m * lo) = m * n * lo := by rw [← Int.mul_assoc, Int.mul_comm n m]
  have e2 : n * (m * hi) = m * n * hi := by rw [← Int.mul_assoc, Int.mul_comm n m]
  unfold timesLo timesHi
  by_cases hm : m < 0
  · by_cases hn : n < 0
    · have := Int.mul_pos_of_neg_of_neg hm hn
      rw [if_pos hm, if_pos hm, if_pos hn, if_neg (by omega), if_pos hn, if_neg (by omega), e1, e2]; exact ⟨rfl, rfl⟩
    · by_cases h0 : n = 0
      · subst h0; simp
      · have := Int.mul_neg_of_neg_of_pos hm (show 0 < n by omega)
        rw [if_pos hm, if_pos hm, if_neg hn, if_pos (by omega), if_neg hn, if_pos (by omega), e1, e2]; exact ⟨rfl, rfl⟩
  · by_cases h0 : m = 0
    · subst h0; simp
    · by_cases hn : n < 0
      · have := Int.mul_neg_of_pos_of_neg (show 0 < m by omega) hn
        rw [if_neg hm, if_neg hm, if_pos hn, if_pos (by omega), if_pos hn, if_pos (by omega), e1, e2]; exact ⟨rfl, rfl⟩
      · have := Int.mul_nonneg (show 0 ≤ m by omega) (show 0 ≤ n by omega)
        rw [if_neg hm, if_neg hm, if_neg hn, if_neg (by omega), if_neg hn, if_neg (by omega), e1, e2]; exact ⟨rfl, rfl⟩
theorem times_fit (lo hi m n : Int) : (fits (timesLo lo hi m) n && fits (timesHi lo hi m) n) = (fits lo (m * n) && fits hi (m * n)) := by
  apply fits_two_eq
  have e1 : n * (m * lo) = m * n * lo := by rw [← Int.mul_assoc, Int.mul_comm n m]
  have e2 : n * (m * hi) = m * n * hi := by rw [← Int.mul_assoc, Int.mul_comm n m]
  unfold timesLo timesHi
  split <;> rw [e1, e2]
  constructor <;> (intro h; omega)

theorem multiples_law (lo hi m n : Int) (w : World) (hL : Logs w) :
    Calls Tryd.prog 7 #[.agg #[.int .i64 lo, .int .i64 hi], .int .i64 m, .int .i64 n] w fun e w' => e = .returned (.bool true) ∧ Gr w w' := by
  cases h1 : validS lo hi
  · exact multiples_bad1 lo hi m n w hL h1
  by_cases hr : (-1000000 ≤ m ∧ m ≤ 1000000 ∧ -1000000 ≤ n ∧ n ≤ 1000000)
  case neg => exact multiples_bad2 lo hi m n w hL h1 hr
  have v := validS_true h1
  have hmul := prod_bd hr.1 hr.2.1 hr.2.2.1 hr.2.2.2
  have uf : (fits lo (-1) && fits hi (-1)) = true := by rw [fits_two]; omega
  have u1 : timesLo lo hi (-1) = 0 - hi := by rw [timesLo, if_pos (by omega)]; omega
  have u2 : timesHi lo hi (-1) = 0 - lo := by rw [timesHi, if_pos (by omega)]; omega
  have uv : validS (0 - hi) (0 - lo) = true := validS_mk (by omega)
  have zero : validS 0 0 = true := validS_mk (by omega)
  cases e1 : (fits lo m && fits hi m)
  · cases f1 : (fits lo n && fits hi n)
    · exact multiples_oo lo hi m n _ _ w hL h1 hr hmul e1 f1 uf u1 u2 uv rfl rfl zero
    · exact multiples_eo lo hi m n _ _ _ _ w hL h1 hr hmul e1 f1 (times_valid v.2.1 f1) rfl rfl uf u1 u2 uv rfl rfl zero
  have xv := times_valid v.2.1 e1
  obtain ⟨t1, t2⟩ := times_times lo hi m n
  have tf := times_fit lo hi m n
  cases f1 : (fits lo n && fits hi n)
  · cases qf : (fits lo (m * n) && fits hi (m * n)) <;> rw [qf] at tf
    · exact multiples_fo_f lo hi m n _ _ _ _ w hL h1 hr hmul e1 f1 xv rfl rfl uf u1 u2 uv rfl rfl zero tf qf
    · exact multiples_fo_t lo hi m n _ _ _ _ _ _ w hL h1 hr hmul e1 f1 xv rfl rfl uf u1 u2 uv rfl rfl zero tf qf t1 t2 rfl rfl
  have yv := times_valid v.2.1 f1
  by_cases sg : 0 ≤ m ∧ 0 ≤ n
  case neg =>
    cases qf : (fits lo (m * n) && fits hi (m * n)) <;> rw [qf] at tf
    · exact multiples_ng_f lo hi m n _ _ _ _ _ _ w hL h1 hr hmul e1 f1 xv rfl rfl yv rfl rfl sg uf u1 u2 uv rfl rfl zero tf qf
    · exact multiples_ng_t lo hi m n _ _ _ _ _ _ _ _ w hL h1 hr hmul e1 f1 xv rfl rfl yv rfl rfl sg uf u1 u2 uv rfl rfl zero tf qf t1 t2 rfl rfl
  have z3 : timesLo lo hi (m + n) = timesLo lo hi m + timesLo lo hi n := by
    unfold timesLo
    rw [if_neg (by omega), if_neg (by omega), if_neg (by omega), Int.add_mul]
  have z4 : timesHi lo hi (m + n) = timesHi lo hi m + timesHi lo hi n := by
    unfold timesHi
    rw [if_neg (by omega), if_neg (by omega), if_neg (by omega), Int.add_mul]
  have zf : (fits lo (m + n) && fits hi (m + n)) = validS (timesLo lo hi m + timesLo lo hi n) (timesHi lo hi m + timesHi lo hi n) := by
    have mono := Int.mul_le_mul_of_nonneg_left v.2.1 (show 0 ≤ m + n by omega)
    rw [Bool.eq_iff_iff, fits_two, ← z3, ← z4]
    rw [timesLo, timesHi, if_neg (by omega), if_neg (by omega)]
    constructor
    · intro h; exact validS_mk (by omega)
    · intro h; have := validS_true h; omega
  cases s : validS (timesLo lo hi m + timesLo lo hi n) (timesHi lo hi m + timesHi lo hi n) <;> rw [s] at zf <;> cases qf : (fits lo (m * n) && fits hi (m * n)) <;> rw [qf] at tf
  · exact multiples_ps_ff lo hi m n _ _ _ _ _ _ _ _ w hL h1 hr hmul e1 f1 xv rfl rfl yv rfl rfl sg.1 sg.2 rfl rfl s zf uf u1 u2 uv rfl rfl zero tf qf
  · exact multiples_ps_ft lo hi m n _ _ _ _ _ _ _ _ _ _ w hL h1 hr hmul e1 f1 xv rfl rfl yv rfl rfl sg.1 sg.2 rfl rfl s zf uf u1 u2 uv rfl rfl zero tf qf t1 t2 rfl rfl
  · exact multiples_ps_tf lo hi m n _ _ _ _ _ _ _ _ w hL h1 hr hmul e1 f1 xv rfl rfl yv rfl rfl sg.1 sg.2 rfl rfl s zf z3 z4 uf u1 u2 uv rfl rfl zero tf qf
  · exact multiples_ps_tt lo hi m n _ _ _ _ _ _ _ _ _ _ w hL h1 hr hmul e1 f1 xv rfl rfl yv rfl rfl sg.1 sg.2 rfl rfl s zf z3 z4 uf u1 u2 uv rfl rfl zero tf qf t1 t2 rfl rfl
end Go.Proofs.YtmealmnjeoehiaaDoor
