/-
  Products of powers of the first six primes: how they lie to 1, and what their logarithms say of it: plain arithmetic.
-/
import Derived.Test.YtelhmdhhabgihaaGreatDoorLimb
namespace Go.Proofs.YtelhmdhhabgihaaGreatDoor
/-- What a logarithm is multiplied by. -/
def GG : Nat := 1000000000
attribute [irreducible] GG

def stepLo (P : Nat) (b : Bool) (x : Nat × Nat) : Nat × Nat := (x.1 * x.1 * (cond b P 1) / 2 ^ ((x.1 * x.1 * (cond b P 1)).log2 - 64), 2 * x.2 + ((x.1 * x.1 * (cond b P 1)).log2 - 64))
def stepHi (P : Nat) (b : Bool) (x : Nat × Nat) : Nat × Nat := ((x.1 * x.1 * (cond b P 1) + (2 ^ ((x.1 * x.1 * (cond b P 1)).log2 - 64) - 1)) / 2 ^ ((x.1 * x.1 * (cond b P 1)).log2 - 64), 2 * x.2 + ((x.1 * x.1 * (cond b P 1)).log2 - 64))
def bitsOf : List Bool := [true, true, true, false, true, true, true, false, false, true, true, false, true, false, true, true, false, false, true, false, true, false, false, false, false, false, false, false, false, false]
def nOf (bs : List Bool) (n : Nat) : Nat := bs.foldl (fun n b => 2 * n + cond b 1 0) n

theorem pow_step (P n : Nat) (b : Bool) : P ^ (2 * n + cond b 1 0) = P ^ n * P ^ n * cond b P 1 := by
  cases b
  · rw [show 2 * n + cond false 1 0 = n + n by simp; omega, Nat.pow_add]; simp
  · rw [show 2 * n + cond true 1 0 = n + n + 1 by simp; omega, Nat.pow_add, Nat.pow_add]; simp
theorem two_step (s t : Nat) : 2 ^ (2 * s + t) = 2 ^ s * 2 ^ s * 2 ^ t := by rw [show 2 * s + t = s + s + t by omega, Nat.pow_add, Nat.pow_add]
theorem lo_step {P n : Nat} {b : Bool} {x : Nat × Nat} (h : x.1 * 2 ^ x.2 ≤ P ^ n) : (stepLo P b x).1 * 2 ^ (stepLo P b x).2 ≤ P ^ (2 * n + cond b 1 0) := by
  rw [pow_step]
  unfold stepLo
  generalize (x.1 * x.1 * (cond b P 1)).log2 - 64 = t
  simp only
  rw [two_step]
  have h1 := Nat.div_mul_le_self (x.1 * x.1 * cond b P 1) (2 ^ t)
  have h2 := Nat.mul_le_mul h h
  have h3 := Nat.mul_le_mul_right (2 ^ x.2 * 2 ^ x.2) h1
  have h4 := Nat.mul_le_mul_right (cond b P 1) h2
  generalize x.1 * x.1 * cond b P 1 / 2 ^ t = q at h1 h3 ⊢
  refine Nat.le_trans (Nat.le_of_eq ?_) (Nat.le_trans h3 (Nat.le_trans (Nat.le_of_eq ?_) h4))
  · grind
  · grind
theorem hi_step {P n : Nat} {b : Bool} {x : Nat × Nat} (h : P ^ n ≤ x.1 * 2 ^ x.2) : P ^ (2 * n + cond b 1 0) ≤ (stepHi P b x).1 * 2 ^ (stepHi P b x).2 := by
  rw [pow_step]
  unfold stepHi
  generalize (x.1 * x.1 * (cond b P 1)).log2 - 64 = t
  simp only
  rw [two_step]
  have h1 : x.1 * x.1 * cond b P 1 ≤ ((x.1 * x.1 * cond b P 1 + (2 ^ t - 1)) / 2 ^ t) * 2 ^ t := by
    have h5 := Nat.two_pow_pos t
    have h6 := Nat.div_add_mod (x.1 * x.1 * cond b P 1 + (2 ^ t - 1)) (2 ^ t)
    have h7 := Nat.mod_lt (x.1 * x.1 * cond b P 1 + (2 ^ t - 1)) h5
    rw [Nat.mul_comm] at h6
    omega
  have h2 := Nat.mul_le_mul h h
  have h3 := Nat.mul_le_mul_right (2 ^ x.2 * 2 ^ x.2) h1
  have h4 := Nat.mul_le_mul_right (cond b P 1) h2
  generalize (x.1 * x.1 * cond b P 1 + (2 ^ t - 1)) / 2 ^ t = q at h1 h3 ⊢
  refine Nat.le_trans h4 (Nat.le_trans (Nat.le_of_eq ?_) (Nat.le_trans h3 (Nat.le_of_eq ?_)))
  · grind
  · grind
theorem lo_fold (P : Nat) : ∀ (bs : List Bool) (n : Nat) (x : Nat × Nat), x.1 * 2 ^ x.2 ≤ P ^ n → (bs.foldl (fun x b => stepLo P b x) x).1 * 2 ^ (bs.foldl (fun x b => stepLo P b x) x).2 ≤ P ^ nOf bs n
  | [], _, _, h => h
  | _ :: bs, _, _, h => lo_fold P bs _ _ (lo_step h)
theorem hi_fold (P : Nat) : ∀ (bs : List Bool) (n : Nat) (x : Nat × Nat), P ^ n ≤ x.1 * 2 ^ x.2 → P ^ nOf bs n ≤ (bs.foldl (fun x b => stepHi P b x) x).1 * 2 ^ (bs.foldl (fun x b => stepHi P b x) x).2
  | [], _, _, h => h
  | _ :: bs, _, _, h => hi_fold P bs _ _ (hi_step h)
theorem n_bits : nOf bitsOf 0 = GG := by unfold GG; decide +kernel
def rLo (P : Nat) : Nat × Nat := bitsOf.foldl (fun x b => stepLo P b x) (1, 0)
def rHi (P : Nat) : Nat × Nat := bitsOf.foldl (fun x b => stepHi P b x) (1, 0)
def LoB (P lo : Nat) : Prop := 2 ^ lo ≤ P ^ GG
def HiB (P hi : Nat) : Prop := P ^ GG ≤ 2 ^ hi
theorem lo_of {P lo : Nat} (h : (Nat.ble (rLo P).2 lo && Nat.ble (2 ^ (lo - (rLo P).2)) (rLo P).1) = true) : LoB P lo := by
  unfold LoB
  simp only [Bool.and_eq_true, Nat.ble_eq] at h
  have f := lo_fold P bitsOf 0 (1, 0) (by simp)
  rw [n_bits] at f
  refine Nat.le_trans ?_ f
  show 2 ^ lo ≤ (rLo P).1 * 2 ^ (rLo P).2
  generalize rLo P = x at h
  have e : lo = (lo - x.2) + x.2 := by omega
  rw [e, Nat.pow_add]
  have := h.2
  generalize lo - x.2 = k at this ⊢
  exact Nat.mul_le_mul_right _ this
theorem hi_of {P hi : Nat} (h : (Nat.ble (rHi P).2 hi && Nat.ble (rHi P).1 (2 ^ (hi - (rHi P).2))) = true) : HiB P hi := by
  unfold HiB
  simp only [Bool.and_eq_true, Nat.ble_eq] at h
  have f := hi_fold P bitsOf 0 (1, 0) (by simp)
  rw [n_bits] at f
  refine Nat.le_trans f ?_
  show (rHi P).1 * 2 ^ (rHi P).2 ≤ 2 ^ hi
  generalize rHi P = x at h
  have e : hi = (hi - x.2) + x.2 := by omega
  rw [e, Nat.pow_add]
  have := h.2
  generalize hi - x.2 = k at this ⊢
  exact Nat.mul_le_mul_right _ this

/-- The product of the six primes to their exponents. -/
def prodP (a0 a1 a2 a3 a4 a5 : Nat) : Nat := 2 ^ a0 * 3 ^ a1 * 5 ^ a2 * 7 ^ a3 * 11 ^ a4 * 13 ^ a5
theorem prodP_add (a0 a1 a2 a3 a4 a5 b0 b1 b2 b3 b4 b5 : Nat) : prodP (a0 + b0) (a1 + b1) (a2 + b2) (a3 + b3) (a4 + b4) (a5 + b5) = prodP a0 a1 a2 a3 a4 a5 * prodP b0 b1 b2 b3 b4 b5 := by
  unfold prodP
  simp only [Nat.pow_add]
  ac_rfl
theorem prodP_pos (a0 a1 a2 a3 a4 a5 : Nat) : 0 < prodP a0 a1 a2 a3 a4 a5 := by
  unfold prodP
  exact Nat.mul_pos (Nat.mul_pos (Nat.mul_pos (Nat.mul_pos (Nat.mul_pos (Nat.pow_pos (by omega)) (Nat.pow_pos (by omega))) (Nat.pow_pos (by omega))) (Nat.pow_pos (by omega))) (Nat.pow_pos (by omega))) (Nat.pow_pos (by omega))
theorem prodP_mono {a0 a1 a2 a3 a4 a5 b0 b1 b2 b3 b4 b5 : Nat} (h0 : a0 ≤ b0) (h1 : a1 ≤ b1) (h2 : a2 ≤ b2) (h3 : a3 ≤ b3) (h4 : a4 ≤ b4) (h5 : a5 ≤ b5) :
    prodP a0 a1 a2 a3 a4 a5 ≤ prodP b0 b1 b2 b3 b4 b5 := by
  unfold prodP
  exact Nat.mul_le_mul (Nat.mul_le_mul (Nat.mul_le_mul (Nat.mul_le_mul (Nat.mul_le_mul (Nat.pow_le_pow_right (by omega) h0) (Nat.pow_le_pow_right (by omega) h1)) (Nat.pow_le_pow_right (by omega) h2)) (Nat.pow_le_pow_right (by omega) h3)) (Nat.pow_le_pow_right (by omega) h4)) (Nat.pow_le_pow_right (by omega) h5)
/-- The numerator and the denominator of six exponents. -/
def V6.num (v : V6) : Nat := prodP v.x0.toNat v.x1.toNat v.x2.toNat v.x3.toNat v.x4.toNat v.x5.toNat
def V6.den (v : V6) : Nat := prodP (-v.x0).toNat (-v.x1).toNat (-v.x2).toNat (-v.x3).toNat (-v.x4).toNat (-v.x5).toNat
theorem V6.num_pos (v : V6) : 0 < v.num := prodP_pos _ _ _ _ _ _
theorem V6.den_pos (v : V6) : 0 < v.den := prodP_pos _ _ _ _ _ _
theorem toNat_cross (a b : Int) : (a + b).toNat + ((-a).toNat + (-b).toNat) = (-(a + b)).toNat + (a.toNat + b.toNat) := by omega
theorem V6.cross (u v : V6) : (u.add v).num * (u.den * v.den) = (u.add v).den * (u.num * v.num) := by
  unfold V6.num V6.den V6.add
  rw [← prodP_add, ← prodP_add, ← prodP_add, ← prodP_add]
  simp only [toNat_cross]
theorem V6.num_neg (v : V6) : v.neg.num = v.den := rfl
theorem V6.den_neg (v : V6) : v.neg.den = v.num := by unfold V6.den V6.neg V6.num; simp only [Int.neg_neg]
/-- How the product of the powers lies to 1. -/
def cmpP (v : V6) : Int := cmpZ v.num v.den
theorem cmpZ_cases (x y : Int) : (x < y ∧ cmpZ x y = -1) ∨ (x = y ∧ cmpZ x y = 0) ∨ (y < x ∧ cmpZ x y = 1) := by
  unfold cmpZ
  rcases Int.lt_trichotomy x y with h | h | h
  · exact .inl ⟨h, by rw [if_pos h]⟩
  · exact .inr (.inl ⟨h, by rw [if_neg (by omega), if_neg (by omega)]⟩)
  · exact .inr (.inr ⟨h, by rw [if_neg (by omega), if_pos h]⟩)
theorem cmpP_cases (v : V6) : (v.num < v.den ∧ cmpP v = -1) ∨ (v.num = v.den ∧ cmpP v = 0) ∨ (v.den < v.num ∧ cmpP v = 1) := by
  rcases cmpZ_cases v.num v.den with h | h | h
  · exact .inl ⟨by omega, h.2⟩
  · exact .inr (.inl ⟨by omega, h.2⟩)
  · exact .inr (.inr ⟨by omega, h.2⟩)
theorem cmpP_neg (v : V6) : cmpP v.neg = -cmpP v := by
  have h := cmpP_cases v
  have h' := cmpP_cases v.neg
  rw [V6.num_neg, V6.den_neg] at h'
  omega
theorem V6.le_add {u v : V6} (h : u.den ≤ u.num) (k : v.den ≤ v.num) : (u.add v).den ≤ (u.add v).num := by
  have c := V6.cross u v
  have h1 := Nat.mul_le_mul_left (u.add v).den (Nat.mul_le_mul h k)
  rw [← c] at h1
  exact Nat.le_of_mul_le_mul_right h1 (Nat.mul_pos u.den_pos v.den_pos)
theorem V6.lt_add {u v : V6} (h : u.den < u.num) (k : v.den ≤ v.num) : (u.add v).den < (u.add v).num := by
  have c := V6.cross u v
  have h0 : u.den * v.den < u.num * v.num := Nat.lt_of_lt_of_le (Nat.mul_lt_mul_of_pos_right h v.den_pos) (Nat.mul_le_mul_left _ k)
  have h1 := Nat.mul_lt_mul_of_pos_left h0 (u.add v).den_pos
  rw [← c] at h1
  exact Nat.lt_of_mul_lt_mul_right h1
theorem V6.add_comm (u v : V6) : u.add v = v.add u := by unfold V6.add; simp only [Int.add_comm]
/-- The signs of two products of powers, and of their product. -/
theorem cmpP_add (u v : V6) : (0 ≤ cmpP u → 0 ≤ cmpP v → 0 ≤ cmpP (u.add v)) ∧ (0 < cmpP u → 0 ≤ cmpP v → 0 < cmpP (u.add v)) ∧ (0 ≤ cmpP u → 0 < cmpP v → 0 < cmpP (u.add v)) := by
  have h := cmpP_cases u
  have k := cmpP_cases v
  have m := cmpP_cases (u.add v)
  refine ⟨fun a b => ?_, fun a b => ?_, fun a b => ?_⟩
  · have := V6.le_add (u := u) (v := v) (by omega) (by omega); omega
  · have := V6.lt_add (u := u) (v := v) (by omega) (by omega); omega
  · have := V6.lt_add (u := v) (v := u) (by omega) (by omega); rw [V6.add_comm] at this; omega
theorem cmpP_range (v : V6) : -1 ≤ cmpP v ∧ cmpP v ≤ 1 := by have := cmpP_cases v; omega
theorem cmpP_zero : cmpP ⟨0, 0, 0, 0, 0, 0⟩ = 0 := by decide +kernel

/-! The logarithms. -/
theorem lo_pow {P lo : Nat} (h : LoB P lo) (k : Nat) : 2 ^ (k * lo) ≤ (P ^ k) ^ GG := by
  rw [← Nat.pow_mul, Nat.mul_comm k GG, Nat.pow_mul P, Nat.mul_comm k lo, Nat.pow_mul 2]
  exact Nat.pow_le_pow_left h k
theorem hi_pow {P hi : Nat} (h : HiB P hi) (k : Nat) : (P ^ k) ^ GG ≤ 2 ^ (k * hi) := by
  rw [← Nat.pow_mul, Nat.mul_comm k GG, Nat.pow_mul P, Nat.mul_comm k hi, Nat.pow_mul 2]
  exact Nat.pow_le_pow_left h k
/-- The lower and the upper logarithm of six exponents that are not negative. -/
def loL (a0 a1 a2 a3 a4 a5 : Nat) : Nat := a0 * 1000000000 + a1 * 1584962500 + a2 * 2321928094 + a3 * 2807354922 + a4 * 3459431618 + a5 * 3700439718
def hiL (a0 a1 a2 a3 a4 a5 : Nat) : Nat := a0 * 1000000000 + a1 * 1584962501 + a2 * 2321928095 + a3 * 2807354923 + a4 * 3459431619 + a5 * 3700439719
theorem lo2 : LoB 2 1000000000 := lo_of (by decide +kernel)
theorem hi2 : HiB 2 1000000000 := hi_of (by decide +kernel)
theorem lo3 : LoB 3 1584962500 := lo_of (by decide +kernel)
theorem hi3 : HiB 3 1584962501 := hi_of (by decide +kernel)
theorem lo5 : LoB 5 2321928094 := lo_of (by decide +kernel)
theorem hi5 : HiB 5 2321928095 := hi_of (by decide +kernel)
theorem lo7 : LoB 7 2807354922 := lo_of (by decide +kernel)
theorem hi7 : HiB 7 2807354923 := hi_of (by decide +kernel)
theorem lo11 : LoB 11 3459431618 := lo_of (by decide +kernel)
theorem hi11 : HiB 11 3459431619 := hi_of (by decide +kernel)
theorem lo13 : LoB 13 3700439718 := lo_of (by decide +kernel)
theorem hi13 : HiB 13 3700439719 := hi_of (by decide +kernel)
theorem loL_le (a0 a1 a2 a3 a4 a5 : Nat) : 2 ^ loL a0 a1 a2 a3 a4 a5 ≤ prodP a0 a1 a2 a3 a4 a5 ^ GG := by
  have e : prodP a0 a1 a2 a3 a4 a5 ^ GG = (2 ^ a0) ^ GG * (3 ^ a1) ^ GG * (5 ^ a2) ^ GG * (7 ^ a3) ^ GG * (11 ^ a4) ^ GG * (13 ^ a5) ^ GG := by
    unfold prodP; rw [Nat.mul_pow, Nat.mul_pow, Nat.mul_pow, Nat.mul_pow, Nat.mul_pow]
  have e' : 2 ^ loL a0 a1 a2 a3 a4 a5 = 2 ^ (a0 * 1000000000) * 2 ^ (a1 * 1584962500) * 2 ^ (a2 * 2321928094) * 2 ^ (a3 * 2807354922) * 2 ^ (a4 * 3459431618) * 2 ^ (a5 * 3700439718) := by
    unfold loL; rw [Nat.pow_add, Nat.pow_add, Nat.pow_add, Nat.pow_add, Nat.pow_add]
  rw [e, e']
  exact Nat.mul_le_mul (Nat.mul_le_mul (Nat.mul_le_mul (Nat.mul_le_mul (Nat.mul_le_mul (lo_pow lo2 a0) (lo_pow lo3 a1)) (lo_pow lo5 a2)) (lo_pow lo7 a3)) (lo_pow lo11 a4)) (lo_pow lo13 a5)
theorem hiL_le (a0 a1 a2 a3 a4 a5 : Nat) : prodP a0 a1 a2 a3 a4 a5 ^ GG ≤ 2 ^ hiL a0 a1 a2 a3 a4 a5 := by
  have e : prodP a0 a1 a2 a3 a4 a5 ^ GG = (2 ^ a0) ^ GG * (3 ^ a1) ^ GG * (5 ^ a2) ^ GG * (7 ^ a3) ^ GG * (11 ^ a4) ^ GG * (13 ^ a5) ^ GG := by
    unfold prodP; rw [Nat.mul_pow, Nat.mul_pow, Nat.mul_pow, Nat.mul_pow, Nat.mul_pow]
  have e' : 2 ^ hiL a0 a1 a2 a3 a4 a5 = 2 ^ (a0 * 1000000000) * 2 ^ (a1 * 1584962501) * 2 ^ (a2 * 2321928095) * 2 ^ (a3 * 2807354923) * 2 ^ (a4 * 3459431619) * 2 ^ (a5 * 3700439719) := by
    unfold hiL; rw [Nat.pow_add, Nat.pow_add, Nat.pow_add, Nat.pow_add, Nat.pow_add]
  rw [e, e']
  exact Nat.mul_le_mul (Nat.mul_le_mul (Nat.mul_le_mul (Nat.mul_le_mul (Nat.mul_le_mul (hi_pow hi2 a0) (hi_pow hi3 a1)) (hi_pow hi5 a2)) (hi_pow hi7 a3)) (hi_pow hi11 a4)) (hi_pow hi13 a5)
/-- The upper logarithm of one product of powers is below the lower one of another. -/
theorem prod_lt {a0 a1 a2 a3 a4 a5 b0 b1 b2 b3 b4 b5 : Nat} (h : hiL a0 a1 a2 a3 a4 a5 < loL b0 b1 b2 b3 b4 b5) : prodP a0 a1 a2 a3 a4 a5 < prodP b0 b1 b2 b3 b4 b5 := by
  have h1 := hiL_le a0 a1 a2 a3 a4 a5
  have h2 := loL_le b0 b1 b2 b3 b4 b5
  have h3 := Nat.pow_lt_pow_right (a := 2) (by omega) h
  rcases Nat.lt_or_ge (prodP a0 a1 a2 a3 a4 a5) (prodP b0 b1 b2 b3 b4 b5) with g | g
  · exact g
  · have := Nat.pow_le_pow_left g GG
    omega
/-- One term of the upper end of a size. -/
def hiT (e lo hi : Int) : Int := if e < 0 then e * lo else e * hi
def loT (e lo hi : Int) : Int := if e < 0 then e * hi else e * lo
def hiV (v : V6) : Int := hiT v.x0 1000000000 1000000000 + hiT v.x1 1584962500 1584962501 + hiT v.x2 2321928094 2321928095 + hiT v.x3 2807354922 2807354923 + hiT v.x4 3459431618 3459431619 + hiT v.x5 3700439718 3700439719
def loV (v : V6) : Int := loT v.x0 1000000000 1000000000 + loT v.x1 1584962500 1584962501 + loT v.x2 2321928094 2321928095 + loT v.x3 2807354922 2807354923 + loT v.x4 3459431618 3459431619 + loT v.x5 3700439718 3700439719
theorem hiT_eq (e lo hi : Int) : hiT e lo hi = e.toNat * hi - (-e).toNat * lo := by
  unfold hiT; split
  · rw [show e.toNat = 0 by omega, show ((-e).toNat : Int) = -e by omega]; grind
  · rw [show ((-e).toNat : Int) = 0 by omega, show (e.toNat : Int) = e by omega]; grind
theorem hiV_neg {v : V6} (h : hiV v < 0) : cmpP v = -1 := by
  have : v.num < v.den := by
    refine prod_lt ?_
    unfold hiV at h
    simp only [hiT_eq] at h
    unfold hiL loL
    omega
  have := cmpP_cases v
  omega
theorem hiV_sub (v : V6) : hiV v.neg = -loV v := by
  have t : ∀ e lo hi : Int, hiT (-e) lo hi = -loT e lo hi := by
    intro e lo hi; unfold hiT loT
    rcases Int.lt_trichotomy e 0 with h | h | h
    · rw [if_neg (by omega), if_pos h]; grind
    · subst h; simp
    · rw [if_pos (by omega), if_neg (by omega)]; grind
  unfold hiV loV V6.neg
  simp only [t]
  omega
theorem loV_pos {v : V6} (h : 0 < loV v) : cmpP v = 1 := by
  have h1 := hiV_neg (v := v.neg) (by rw [hiV_sub]; omega)
  rw [cmpP_neg] at h1
  omega

/-! A product of powers is 1 only if all exponents are 0. -/
theorem cop_pow {p q : Nat} (h : Nat.Coprime p q) (a b : Nat) : Nat.Coprime (p ^ a) (q ^ b) := Nat.Coprime.pow a b h
end Go.Proofs.YtelhmdhhabgihaaGreatDoor
