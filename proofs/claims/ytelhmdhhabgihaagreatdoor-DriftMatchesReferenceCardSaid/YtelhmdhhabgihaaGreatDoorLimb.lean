/-
  Rows of limbs to the base 2^32 and the numbers that they stand for: plain arithmetic.
-/
import Derived.Test.YtelhmdhhabgihaaGreatDoorBase
namespace Go.Proofs.YtelhmdhhabgihaaGreatDoor
/-- The base of the limbs. -/
def BB : Int := 4294967296
/-- The number of the first n limbs. -/
def fval (u : Nat → Int) : Nat → Int
  | 0 => 0
  | n + 1 => fval u n + u n * BB ^ n
/-- The first n limbs are limbs. -/
def InB (u : Nat → Int) (n : Nat) : Prop := ∀ i, i < n → 0 ≤ u i ∧ u i < 4294967296

theorem BB_pos (n : Nat) : 0 < BB ^ n := Int.pow_pos (by decide)
theorem BB_succ (n : Nat) : BB ^ (n + 1) = BB ^ n * 4294967296 := by rw [Int.pow_succ]; rfl
theorem BB_mono {n m : Nat} (h : n ≤ m) : BB ^ n ≤ BB ^ m := by
  induction m with
  | zero => obtain rfl : n = 0 := by omega
            exact Int.le_refl _
  | succ m ih =>
    rcases Nat.lt_or_ge m n with h' | h'
    · obtain rfl : n = m + 1 := by omega
      exact Int.le_refl _
    · have := ih h'; have := BB_pos m; rw [BB_succ]; omega
theorem fval_nonneg {u : Nat → Int} {n : Nat} (h : InB u n) : 0 ≤ fval u n := by
  induction n with
  | zero => exact Int.le_refl _
  | succ n ih =>
    have h1 := ih fun i hi => h i (by omega)
    have h2 := Int.mul_nonneg (h n (by omega)).1 (Int.le_of_lt (BB_pos n))
    unfold fval; omega
theorem fval_lt {u : Nat → Int} {n : Nat} (h : InB u n) : fval u n < BB ^ n := by
  induction n with
  | zero => exact Int.zero_lt_one
  | succ n ih =>
    have h1 := ih fun i hi => h i (by omega)
    have h2 : u n * BB ^ n ≤ 4294967295 * BB ^ n := Int.mul_le_mul_of_nonneg_right (by have := (h n (by omega)).2; omega) (Int.le_of_lt (BB_pos n))
    unfold fval; rw [BB_succ]; omega
theorem fval_congr {u u' : Nat → Int} {n : Nat} (h : ∀ i, i < n → u i = u' i) : fval u n = fval u' n := by
  induction n with
  | zero => rfl
  | succ n ih => unfold fval; rw [ih fun i hi => h i (by omega), h n (by omega)]
theorem fval_zero {u : Nat → Int} {k n : Nat} (hk : k ≤ n) (h : ∀ i, k ≤ i → i < n → u i = 0) : fval u n = fval u k := by
  induction n with
  | zero => obtain rfl : k = 0 := by omega
            rfl
  | succ n ih =>
    rcases Nat.lt_or_ge n k with h' | h'
    · obtain rfl : k = n + 1 := by omega
      rfl
    · rw [← ih h' fun i a b => h i a (by omega)]
      show fval u n + u n * BB ^ n = _
      rw [h n h' (by omega)]; omega
/-- One limb of a row is set. -/
def upd (u : Nat → Int) (k : Nat) (v : Int) : Nat → Int := fun j => if j = k then v else u j
theorem upd_same (u : Nat → Int) (k : Nat) (v : Int) : upd u k v k = v := by simp [upd]
theorem upd_other {u : Nat → Int} {k j : Nat} (v : Int) (h : j ≠ k) : upd u k v j = u j := by simp [upd, h]
theorem fval_upd (u : Nat → Int) (k n : Nat) (v : Int) (hk : k < n) : fval (upd u k v) n = fval u n + (v - u k) * BB ^ k := by
  induction n with
  | zero => omega
  | succ n ih =>
    by_cases e : k = n
    · subst e
      show fval (upd u k v) k + upd u k v k * BB ^ k = fval u k + u k * BB ^ k + _
      rw [upd_same, fval_congr (u' := u) fun i hi => upd_other v (by omega)]
      grind
    · show fval (upd u k v) n + upd u k v n * BB ^ n = fval u n + u n * BB ^ n + _
      rw [ih (by omega), upd_other v (by omega)]
      grind
theorem upd_in {u : Nat → Int} {n k : Nat} {v : Int} (h : InB u n) (h0 : 0 ≤ v) (h1 : v < 4294967296) : InB (upd u k v) n := by
  intro i hi
  by_cases e : i = k
  · subst e; rw [upd_same]; exact ⟨h0, h1⟩
  · rw [upd_other v e]; exact h i hi

/-- How many limbs are left when the zeros at the end of the first k are dropped. -/
def stripF (u : Nat → Int) : Nat → Nat
  | 0 => 0
  | k + 1 => if u k = 0 then stripF u k else k + 1
theorem stripF_le (u : Nat → Int) (k : Nat) : stripF u k ≤ k := by
  induction k with
  | zero => simp [stripF]
  | succ k ih => unfold stripF; split <;> omega
theorem strip_zero {u : Nat → Int} {k : Nat} (h : u k = 0) : stripF u (k + 1) = stripF u k := by rw [stripF, if_pos h]
theorem strip_stop {u : Nat → Int} {k : Nat} (h : ¬ u k = 0) : stripF u (k + 1) = k + 1 := by rw [stripF, if_neg h]
theorem strip_val (u : Nat → Int) (k : Nat) : fval u (stripF u k) = fval u k := by
  induction k with
  | zero => rfl
  | succ k ih =>
    by_cases h : u k = 0
    · rw [strip_zero h, ih]; show _ = fval u k + u k * _; rw [h]; omega
    · rw [strip_stop h]
/-- The highest one of n limbs is not 0. -/
def Norm (u : Nat → Int) (n : Nat) : Prop := ∀ k, n = k + 1 → u k ≠ 0
theorem strip_norm (u : Nat → Int) (k : Nat) : Norm u (stripF u k) := by
  induction k with
  | zero => intro j h; simp [stripF] at h
  | succ k ih =>
    by_cases h : u k = 0
    · rw [strip_zero h]; exact ih
    · rw [strip_stop h]; intro j hj; obtain rfl : k = j := by omega
      exact h
theorem norm_le {u : Nat → Int} {n : Nat} (h : InB u (n + 1)) (hn : Norm u (n + 1)) : BB ^ n ≤ fval u (n + 1) := by
  have h1 := fval_nonneg (u := u) (n := n) fun i hi => h i (by omega)
  have h2 := hn n rfl
  have h3 := (h n (by omega)).1
  have h4 : 1 * BB ^ n ≤ u n * BB ^ n := Int.mul_le_mul_of_nonneg_right (by omega) (Int.le_of_lt (BB_pos n))
  unfold fval; omega
theorem norm_bound {u : Nat → Int} {n m : Nat} (h : InB u n) (hn : Norm u n) (hv : fval u n < BB ^ m) : n ≤ m := by
  rcases n with - | n
  · omega
  · have h1 := norm_le h hn
    rcases Nat.lt_or_ge n m with h' | h'
    · omega
    · have := BB_mono h'; omega
/-- How two numbers lie to each other. -/
def cmpZ (x y : Int) : Int := if x < y then -1 else if y < x then 1 else 0
/-- The order of two rows of limbs of one length. -/
def cmpL (u v : Nat → Int) : Nat → Int
  | 0 => 0
  | k + 1 => if u k = v k then cmpL u v k else cmpZ (u k) (v k)
def cmpN (n : Nat) (u : Nat → Int) (n' : Nat) (v : Nat → Int) : Int := if n = n' then cmpL u v n else cmpZ n n'
theorem cmpL_same {u v : Nat → Int} {k : Nat} (h : u k = v k) : cmpL u v (k + 1) = cmpL u v k := by rw [cmpL, if_pos h]
theorem cmpL_stop {u v : Nat → Int} {k : Nat} (h : ¬ u k = v k) : cmpL u v (k + 1) = cmpZ (u k) (v k) := by rw [cmpL, if_neg h]
theorem cmpZ_lt {x y : Int} (h : x < y) : cmpZ x y = -1 := by rw [cmpZ, if_pos h]
theorem cmpZ_gt {x y : Int} (h : y < x) : cmpZ x y = 1 := by rw [cmpZ, if_neg (by omega), if_pos h]
theorem cmpZ_eq {x y : Int} (h : x = y) : cmpZ x y = 0 := by rw [cmpZ, if_neg (by omega), if_neg (by omega)]
theorem limb_lt {u v : Nat → Int} {k : Nat} (hu : InB u (k + 1)) (hv : InB v (k + 1)) (h : u k < v k) : fval u (k + 1) < fval v (k + 1) := by
  have h1 := fval_lt (u := u) (n := k) fun i hi => hu i (by omega)
  have h2 := fval_nonneg (u := v) (n := k) fun i hi => hv i (by omega)
  have h3 : (u k + 1) * BB ^ k ≤ v k * BB ^ k := Int.mul_le_mul_of_nonneg_right (by omega) (Int.le_of_lt (BB_pos k))
  rw [Int.add_mul] at h3
  unfold fval; omega
theorem cmpZ_shift (a b c : Int) : cmpZ (a + c) (b + c) = cmpZ a b := by
  rcases Int.lt_trichotomy a b with h | h | h
  · rw [cmpZ_lt h, cmpZ_lt (by omega)]
  · rw [cmpZ_eq h, cmpZ_eq (by omega)]
  · rw [cmpZ_gt h, cmpZ_gt (by omega)]
theorem cmpL_val {u v : Nat → Int} {n : Nat} (hu : InB u n) (hv : InB v n) : cmpL u v n = cmpZ (fval u n) (fval v n) := by
  induction n with
  | zero => exact (cmpZ_eq rfl).symm
  | succ n ih =>
    have i := ih (fun i hi => hu i (by omega)) (fun i hi => hv i (by omega))
    by_cases h : u n = v n
    · rw [cmpL_same h, i]
      show _ = cmpZ (fval u n + u n * BB ^ n) (fval v n + v n * BB ^ n)
      rw [h, cmpZ_shift]
    · rw [cmpL_stop h]
      rcases Int.lt_or_gt_of_ne h with h' | h'
      · rw [cmpZ_lt h', cmpZ_lt (limb_lt hu hv h')]
      · rw [cmpZ_gt h', cmpZ_gt (limb_lt hv hu h')]
theorem len_lt {u v : Nat → Int} {n m : Nat} (hu : InB u n) (hv : InB v m) (mv : Norm v m) (h : n < m) : fval u n < fval v m := by
  obtain ⟨m, rfl⟩ : ∃ k, m = k + 1 := ⟨m - 1, by omega⟩
  have h1 := fval_lt hu
  have h2 := norm_le hv mv
  have h3 := BB_mono (show n ≤ m by omega)
  omega
theorem cmpN_val {u v : Nat → Int} {n m : Nat} (hu : InB u n) (hv : InB v m) (nu : Norm u n) (nv : Norm v m) : cmpN n u m v = cmpZ (fval u n) (fval v m) := by
  unfold cmpN
  by_cases h : n = m
  · subst h; rw [if_pos rfl]; exact cmpL_val hu hv
  · rw [if_neg h]
    rcases Nat.lt_or_gt_of_ne h with h' | h'
    · rw [cmpZ_lt (by omega), cmpZ_lt (len_lt hu hv nv h')]
    · rw [cmpZ_gt (by omega), cmpZ_gt (len_lt hv hu nu h')]

/-- One step of a product: the limb that is stored, and the carry. -/
theorem mul_step {u : Nat → Int} {N k : Nat} (hk : k < N) (x y c A : Int) (h : fval u N + c * BB ^ k = A) :
    fval (upd u k ((x * y + u k + c) % 4294967296)) N + (x * y + u k + c) / 4294967296 * BB ^ (k + 1) = A + x * y * BB ^ k := by
  rw [fval_upd _ _ _ _ hk, BB_succ]
  have h1 := Int.emod_add_mul_ediv (x * y + u k + c) 4294967296
  generalize (x * y + u k + c) % 4294967296 = m at h1 ⊢
  generalize (x * y + u k + c) / 4294967296 = q at h1 ⊢
  have h2 : m = x * y + u k + c - 4294967296 * q := by omega
  subst h2
  grind
theorem mul_fit {x y z c : Int} (hx : 0 ≤ x ∧ x < 4294967296) (hy : 0 ≤ y ∧ y < 4294967296) (hz : 0 ≤ z ∧ z < 4294967296) (hc : 0 ≤ c ∧ c < 4294967296) :
    0 ≤ x * y ∧ x * y ≤ 18446744065119617025 ∧ 0 ≤ x * y + z + c ∧ x * y + z + c < 18446744073709551616 := by
  have h0 := Int.mul_nonneg hx.1 hy.1
  have h1 : x * y ≤ 4294967295 * 4294967295 := Int.mul_le_mul (by omega) (by omega) hy.1 (by omega)
  omega
end Go.Proofs.YtelhmdhhabgihaaGreatDoor
