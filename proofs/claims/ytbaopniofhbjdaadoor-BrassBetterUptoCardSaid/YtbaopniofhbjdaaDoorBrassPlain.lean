/-
  The sound of a blow, in plain numbers.
-/
import Derived.Test.YtbaopniofhbjdaaDoorBase
namespace Go.Proofs.YtbaopniofhbjdaaDoor
/-- The primes, as natural numbers. -/
def pN : Nat → Nat
  | 0 => 2
  | 1 => 3
  | 2 => 5
  | 3 => 7
  | 4 => 11
  | _ => 13
theorem pN_two (i : Nat) : 2 ≤ pN i ∧ pN i ≤ 13 := by unfold pN; split <;> omega
/-- How often a number is divisible by q, and what is left. -/
def vp (q : Nat) : Nat → Nat → Nat
  | 0, _ => 0
  | f + 1, n => if n % q = 0 then 1 + vp q f (n / q) else 0
def rm (q : Nat) : Nat → Nat → Nat
  | 0, n => n
  | f + 1, n => if n % q = 0 then rm q f (n / q) else n
/-- What is left of n when the first i primes are divided out, and the exponent of prime i. -/
def remI (n : Nat) : Nat → Nat
  | 0 => n
  | i + 1 => rm (pN i) 5 (remI n i)
def pvI (n i : Nat) : Nat := vp (pN i) 5 (remI n i)
theorem rm_bd {q : Nat} (hq : 2 ≤ q) : ∀ (f n : Nat), 0 < n → 0 < rm q f n ∧ rm q f n ≤ n
  | 0, n, h => ⟨h, Nat.le_refl _⟩
  | f + 1, n, h => by
    unfold rm
    split
    · have h1 : 0 < n / q := Nat.div_pos (Nat.le_of_dvd h (Nat.dvd_of_mod_eq_zero ‹_›)) (by omega)
      have h2 := rm_bd hq f (n / q) h1
      have h3 := Nat.div_le_self n q
      omega
    · exact ⟨h, Nat.le_refl _⟩
theorem remI_bd {n : Nat} (h : 0 < n) (i : Nat) : 0 < remI n i ∧ remI n i ≤ n := by
  induction i with
  | zero => exact ⟨h, Nat.le_refl _⟩
  | succ i ih =>
    have := rm_bd (pN_two i).1 5 (remI n i) ih.1
    unfold remI; omega
/-- One turn of the loop that divides by q. -/
theorem vp_step {q f n : Nat} (h : n % q = 0) : vp q (f + 1) n = 1 + vp q f (n / q) ∧ rm q (f + 1) n = rm q f (n / q) := by
  exact ⟨by rw [vp, if_pos h], by rw [rm, if_pos h]⟩
theorem vp_stop {q f n : Nat} (h : ¬ n % q = 0) : vp q f n = 0 ∧ rm q f n = n := by
  cases f with
  | zero => exact ⟨rfl, rfl⟩
  | succ f => exact ⟨by rw [vp, if_neg h], by rw [rm, if_neg h]⟩
theorem vp_fuel {q f n : Nat} (hq : 2 ≤ q) (h0 : 0 < n) (h : n < 2 ^ f) (hm : n % q = 0) : ∃ g, f = g + 1 ∧ 0 < n / q ∧ n / q < 2 ^ g := by
  cases f with
  | zero => simp at h; omega
  | succ g =>
    have h1 : 0 < n / q := Nat.div_pos (Nat.le_of_dvd h0 (Nat.dvd_of_mod_eq_zero hm)) (by omega)
    refine ⟨g, rfl, h1, ?_⟩
    rw [Nat.pow_succ] at h
    refine Nat.div_lt_of_lt_mul ?_
    have : 2 ^ g * 2 ≤ 2 ^ g * q := Nat.mul_le_mul_left _ hq
    rw [Nat.mul_comm q]
    omega
theorem vp_le (q : Nat) : ∀ (f n : Nat), vp q f n ≤ f
  | 0, _ => Nat.le_refl _
  | f + 1, n => by unfold vp; split; have := vp_le q f (n / q); omega; omega
/-- A valve is pressed. -/
def bitOn (s k : Nat) : Bool := s / 2 ^ k % 2 == 1
/-- The sum of an exponent over the first k valves that are pressed. -/
def vsum (vs : Nat → Nat → Int) (s i : Nat) : Nat → Int
  | 0 => 0
  | k + 1 => vsum vs s i k + if bitOn s k then vs k i else 0
theorem vsum_yes {vs : Nat → Nat → Int} {s i k : Nat} (h : bitOn s k = true) : vsum vs s i (k + 1) = vsum vs s i k + vs k i := by rw [vsum, if_pos h]
theorem vsum_no {vs : Nat → Nat → Int} {s i k : Nat} (h : bitOn s k = false) : vsum vs s i (k + 1) = vsum vs s i k := by rw [vsum, if_neg (by simp [h])]; omega
/-- The sound of a blow: its exponents. -/
def soundF (base : V6) (vs : Nat → Nat → Int) (len n s i : Nat) : Int := base.get i + 12 * pvI n i - vsum vs s i len
def soundV (base : V6) (vs : Nat → Nat → Int) (len n s : Nat) : V6 :=
  ⟨soundF base vs len n s 0, soundF base vs len n s 1, soundF base vs len n s 2, soundF base vs len n s 3, soundF base vs len n s 4, soundF base vs len n s 5⟩
theorem soundV_get (base : V6) (vs : Nat → Nat → Int) (len n s i : Nat) (hi : i < 6) : (soundV base vs len n s).get i = soundF base vs len n s i := by
  obtain rfl | rfl | rfl | rfl | rfl | rfl : i = 0 ∨ i = 1 ∨ i = 2 ∨ i = 3 ∨ i = 4 ∨ i = 5 := by omega
  all_goals rfl
theorem vsum_bd {vs : Nat → Nat → Int} {s i : Nat} {B : Int} {k : Nat} (h : ∀ j, j < k → -B ≤ vs j i ∧ vs j i ≤ B) (hB : 0 ≤ B) : -(B * k) ≤ vsum vs s i k ∧ vsum vs s i k ≤ B * k := by
  induction k with
  | zero => simp [vsum]
  | succ k ih =>
    have i1 := ih fun j hj => h j (by omega)
    have i2 := h k (by omega)
    have e : B * ((k + 1 : Nat) : Int) = B * k + B := by rw [Int.natCast_succ, Int.mul_add, Int.mul_one]
    cases hb : bitOn s k with
    | true => rw [vsum_yes hb]; omega
    | false => rw [vsum_no hb]; omega
/-- The loop that divides by q: m is what is left now, t divisions are done; e and r are what comes of it. -/
def Div5 (q m g t e r : Nat) : Prop := 0 < m ∧ m < 2 ^ g ∧ t + g = 5 ∧ t + vp q g m = e ∧ rm q g m = r
theorem Div5.start {q m : Nat} (h0 : 0 < m) (h : m ≤ 16) : Div5 q m 5 0 (vp q 5 m) (rm q 5 m) := ⟨h0, by omega, rfl, by omega, rfl⟩
theorem Div5.step {q m g t e r : Nat} (h : Div5 q m g t e r) (hq : 2 ≤ q) (hm : m % q = 0) : ∃ g', Div5 q (m / q) g' (t + 1) e r ∧ m / q < m := by
  obtain ⟨h1, h2, h3, h4, h5⟩ := h
  obtain ⟨g', rfl, h6, h7⟩ := vp_fuel hq h1 h2 hm
  obtain ⟨h8, h9⟩ := vp_step (f := g') hm
  exact ⟨g', ⟨h6, h7, by omega, by omega, by omega⟩, Nat.div_lt_self h1 (by omega)⟩
theorem Div5.stop {q m g t e r : Nat} (h : Div5 q m g t e r) (hm : ¬ m % q = 0) : e = t ∧ r = m := by
  obtain ⟨h1, h2, h3, h4, h5⟩ := h
  obtain ⟨h8, h9⟩ := vp_stop (f := g) hm
  omega
theorem pN_get (k : Nat) (hk : k < 6) : V6.get ⟨2, 3, 5, 7, 11, 13⟩ k = (pN k : Int) := by
  obtain rfl | rfl | rfl | rfl | rfl | rfl : k = 0 ∨ k = 1 ∨ k = 2 ∨ k = 3 ∨ k = 4 ∨ k = 5 := by omega
  all_goals rfl
end Go.Proofs.YtbaopniofhbjdaaDoor
