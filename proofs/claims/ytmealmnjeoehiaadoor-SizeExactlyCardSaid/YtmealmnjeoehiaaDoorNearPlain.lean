import Derived.Test.YtmealmnjeoehiaaDoorCommon
import Derived.Test.YtmealmnjeoehiaaDoorMul
namespace Go.Proofs.YtmealmnjeoehiaaDoor
open Go.RowKit

def loE (k : Nat) (e : Int) : Int := e * (if e < 0 then logHi k else logLo k)
def hiE (k : Nat) (e : Int) : Int := e * (if e < 0 then logLo k else logHi k)
theorem sumLo_succ (v : V6) (n : Nat) : sumLo v (n + 1) = sumLo v n + loE n (v.get n) := rfl
theorem sumHi_succ (v : V6) (n : Nat) : sumHi v (n + 1) = sumHi v n + hiE n (v.get n) := rfl
theorem loE_le (k : Nat) (hk : k < 6) (e : Int) : loE k e ≤ e * logLo k ∧ loE k e ≤ e * logHi k ∧ (loE k e = e * logLo k ∨ loE k e = e * logHi k) := by
  obtain ⟨h1, h2, h3⟩ := log_bd k hk
  unfold loE
  split
  · refine ⟨?_, Int.le_refl _, Or.inr rfl⟩
    exact Int.mul_le_mul_of_nonpos_left (by omega) h2
  · refine ⟨Int.le_refl _, ?_, Or.inl rfl⟩
    exact Int.mul_le_mul_of_nonneg_left h2 (by omega)
theorem hiE_ge (k : Nat) (hk : k < 6) (e : Int) : e * logLo k ≤ hiE k e ∧ e * logHi k ≤ hiE k e ∧ (hiE k e = e * logLo k ∨ hiE k e = e * logHi k) := by
  obtain ⟨h1, h2, h3⟩ := log_bd k hk
  unfold hiE
  split
  · refine ⟨Int.le_refl _, ?_, Or.inl rfl⟩
    exact Int.mul_le_mul_of_nonpos_left (by omega) h2
  · refine ⟨?_, Int.le_refl _, Or.inr rfl⟩
    exact Int.mul_le_mul_of_nonneg_left h2 (by omega)
theorem loE_add (k : Nat) (hk : k < 6) (x y : Int) : loE k x + loE k y ≤ loE k (x + y) := by
  obtain ⟨a1, a2, a3⟩ := loE_le k hk x
  obtain ⟨b1, b2, b3⟩ := loE_le k hk y
  obtain ⟨c1, c2, c3⟩ := loE_le k hk (x + y)
  rw [Int.add_mul, Int.add_mul] at c3
  omega
theorem hiE_add (k : Nat) (hk : k < 6) (x y : Int) : hiE k (x + y) ≤ hiE k x + hiE k y := by
  obtain ⟨a1, a2, a3⟩ := hiE_ge k hk x
  obtain ⟨b1, b2, b3⟩ := hiE_ge k hk y
  obtain ⟨c1, c2, c3⟩ := hiE_ge k hk (x + y)
  rw [Int.add_mul, Int.add_mul] at c3
  omega
theorem loE_neg (k : Nat) (e : Int) : loE k (-e) = -hiE k e ∧ hiE k (-e) = -loE k e := by
  unfold loE hiE
  by_cases h : e < 0
  · rw [if_neg (by omega), if_pos h, if_neg (by omega), if_pos h, Int.neg_mul, Int.neg_mul]; exact ⟨rfl, rfl⟩
  · by_cases h0 : e = 0
    · subst h0; simp
    · rw [if_pos (by omega), if_neg h, if_pos (by omega), if_neg h, Int.neg_mul, Int.neg_mul]; exact ⟨rfl, rfl⟩
theorem get_sub (u v : V6) (k : Nat) (hk : k < 6) : (u.sub v).get k = u.get k - v.get k := by
  obtain rfl | rfl | rfl | rfl | rfl | rfl : k = 0 ∨ k = 1 ∨ k = 2 ∨ k = 3 ∨ k = 4 ∨ k = 5 := by omega
  all_goals rfl
theorem get_add (u v : V6) (k : Nat) (hk : k < 6) : (u.add v).get k = u.get k + v.get k := by
  obtain rfl | rfl | rfl | rfl | rfl | rfl : k = 0 ∨ k = 1 ∨ k = 2 ∨ k = 3 ∨ k = 4 ∨ k = 5 := by omega
  all_goals rfl
theorem sum_add (u v : V6) (n : Nat) (hn : n ≤ 6) : sumLo u n + sumLo v n ≤ sumLo (u.add v) n ∧ sumHi (u.add v) n ≤ sumHi u n + sumHi v n := by
  induction n with
  | zero => simp [sumLo, sumHi]
  | succ n ih =>
    obtain ⟨i1, i2⟩ := ih (by omega)
    have a := loE_add n (by omega) (u.get n) (v.get n)
    have b := hiE_add n (by omega) (u.get n) (v.get n)
    rw [← get_add u v n (by omega)] at a b
    simp only [sumLo_succ, sumHi_succ]
    omega
theorem sum_swap (u v : V6) (n : Nat) (hn : n ≤ 6) : sumLo (v.sub u) n = -sumHi (u.sub v) n ∧ sumHi (v.sub u) n = -sumLo (u.sub v) n := by
  induction n with
  | zero => simp [sumLo, sumHi]
  | succ n ih =>
    obtain ⟨i1, i2⟩ := ih (by omega)
    have e : (v.sub u).get n = -(u.sub v).get n := by rw [get_sub _ _ _ (by omega), get_sub _ _ _ (by omega)]; omega
    obtain ⟨a, b⟩ := loE_neg n ((u.sub v).get n)
    simp only [sumLo_succ, sumHi_succ, e, a, b]
    omega
theorem sum_tri (u v r : V6) : sumLo (u.sub v) 6 + sumLo (v.sub r) 6 ≤ sumLo (u.sub r) 6 ∧ sumHi (u.sub r) 6 ≤ sumHi (u.sub v) 6 + sumHi (v.sub r) 6 := by
  have h := sum_add (u.sub v) (v.sub r) 6 (by omega)
  have e : (u.sub v).add (v.sub r) = u.sub r := by
    simp only [V6.sub, V6.add, V6.mk.injEq]; omega
  rwa [e] at h
theorem sum_le (u : V6) (n : Nat) (hn : n ≤ 6) : sumLo u n ≤ sumHi u n := by
  induction n with
  | zero => simp [sumLo, sumHi]
  | succ n ih =>
    have := ih (by omega)
    have a := loE_le n (by omega) (u.get n)
    have b := hiE_ge n (by omega) (u.get n)
    simp only [sumLo_succ, sumHi_succ]
    omega
theorem surely_swap (lo hi b : Int) : surelyI (-hi) (-lo) (-10000 * b) (10000 * b) = surelyI lo hi (-10000 * b) (10000 * b) := by
  unfold surelyI
  by_cases h : -10000 * b ≤ lo ∧ hi ≤ 10000 * b
  · rw [if_pos h, if_pos (by omega)]
  · rw [if_neg h, if_neg (by omega)]
    by_cases h2 : hi < -10000 * b ∨ 10000 * b < lo
    · rw [if_pos h2, if_pos (by omega)]
    · rw [if_neg h2, if_neg (by omega)]
theorem surely_vals' (lo hi low high : Int) : surelyI lo hi low high = -1 ∨ surelyI lo hi low high = 0 ∨ surelyI lo hi low high = 1 := by
  unfold surelyI
  split
  · simp
  · split <;> simp
theorem surely_one {lo hi low high : Int} (h : surelyI lo hi low high = 1) : low ≤ lo ∧ hi ≤ high := by
  unfold surelyI at h
  split at h
  · assumption
  · split at h <;> omega
theorem surely_neg {lo hi low high : Int} (h : surelyI lo hi low high = -1) : hi < low ∨ high < lo := by
  unfold surelyI at h
  split at h
  · omega
  · split at h
    · assumption
    · omega
theorem surely_mk {lo hi low high : Int} (h : low ≤ lo ∧ hi ≤ high) : surelyI lo hi low high = 1 := if_pos h
theorem surely_mkneg {lo hi low high : Int} (h0 : lo ≤ hi) (h : hi < low ∨ high < lo) : surelyI lo hi low high = -1 := by
  rw [surelyI, if_neg (by omega), if_pos h]
theorem near_self (u : V6) (b : Int) (hb : 0 ≤ b) : surelyI (sumLo (u.sub u) 6) (sumHi (u.sub u) 6) (-10000 * b) (10000 * b) = 1 := by
  have h := sum_swap u u 6 (by omega)
  have h2 := sum_le (u.sub u) 6 (by omega)
  have h3 : sumLo (u.sub u) 6 = 0 ∧ sumHi (u.sub u) 6 = 0 := by
    have e : u.sub u = ⟨0, 0, 0, 0, 0, 0⟩ := by simp only [V6.sub, V6.mk.injEq]; omega
    rw [e]; decide +kernel
  exact surely_mk (by omega)

theorem near_is {p0 p1 p2 p3 p4 p5 q0 q1 q2 q3 q4 q5 n x : Int} (w : World) (hL : Logs w) (hva : allIn ⟨p0, p1, p2, p3, p4, p5⟩ 576 6 = true) (hvb : allIn ⟨q0, q1, q2, q3, q4, q5⟩ 576 6 = true) (hn1 : 0 ≤ n) (hn2 : n ≤ 2400000)
    (hx : surelyI (sumLo ⟨p0 - q0, p1 - q1, p2 - q2, p3 - q3, p4 - q4, p5 - q5⟩ 6) (sumHi ⟨p0 - q0, p1 - q1, p2 - q2, p3 - q3, p4 - q4, p5 - q5⟩ 6) (-10000 * n) (10000 * n) = x) :
    Calls Tryd.prog 21 #[.agg #[.int .i64 p0, .int .i64 p1, .int .i64 p2, .int .i64 p3, .int .i64 p4, .int .i64 p5], .agg #[.int .i64 q0, .int .i64 q1, .int .i64 q2, .int .i64 q3, .int .i64 q4, .int .i64 q5], .int .i64 n] w
      fun e w' => e = .returned (.tuple #[.int .i64 x, .int .i64 0]) ∧ Gr w w' := hx ▸ near_ok p0 p1 p2 p3 p4 p5 q0 q1 q2 q3 q4 q5 n w hL hva hvb hn1 hn2
end Go.Proofs.YtmealmnjeoehiaaDoor
