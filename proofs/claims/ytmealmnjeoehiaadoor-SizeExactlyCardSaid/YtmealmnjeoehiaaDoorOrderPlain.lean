/-
  What sizes say of the exact order of pitches: plain arithmetic.
-/
import Derived.Test.YtmealmnjeoehiaaDoorNearPlain
import Derived.Test.YtmealmnjeoehiaaDoorPCmp
namespace Go.Proofs.YtmealmnjeoehiaaDoor
open Go.RowKit

theorem sumLo_loV (v : V6) : sumLo v 6 = loV v := by
  simp only [sumLo, V6.get, logLo, logHi, loV, loT]
  have t : ∀ e l h : Int, (e * if e < 0 then h else l) = if e < 0 then e * h else e * l := by intro e l h; split <;> rfl
  simp only [t]
  omega
theorem sumHi_hiV (v : V6) : sumHi v 6 = hiV v := by
  simp only [sumHi, V6.get, logLo, logHi, hiV, hiT]
  have t : ∀ e l h : Int, (e * if e < 0 then l else h) = if e < 0 then e * l else e * h := by intro e l h; split <;> rfl
  simp only [t]
  omega
theorem neg_sub (u v : V6) : (u.sub v).neg = v.sub u := by
  unfold V6.neg V6.sub; simp only [V6.mk.injEq]; omega
/-- The order of two sizes that have no number in common is that of the pitches. -/
theorem order_lt {u v : V6} (h : sumHi u 6 < sumLo v 6) : cmpP (u.sub v) = -1 := by
  refine hiV_neg ?_
  rw [← sumHi_hiV]
  have h1 := (sum_add u v.neg 6 (by omega)).2
  have h2 : sumHi v.neg 6 = -sumLo v 6 := by rw [sumHi_hiV, sumLo_loV]; exact hiV_sub v
  have h3 : u.add v.neg = u.sub v := by unfold V6.add V6.neg V6.sub; simp only [V6.mk.injEq]; omega
  rw [h3, h2] at h1
  omega
theorem order_gt {u v : V6} (h : sumHi v 6 < sumLo u 6) : cmpP (u.sub v) = 1 := by
  have h1 := order_lt h
  rw [← neg_sub, cmpP_neg] at h1
  omega
theorem order_cases (u v : V6) : cmpI (sumLo u 6) (sumHi u 6) (sumLo v 6) (sumHi v 6) = 0 ∨ cmpI (sumLo u 6) (sumHi u 6) (sumLo v 6) (sumHi v 6) = cmpP (u.sub v) := by
  unfold cmpI
  by_cases h : sumHi u 6 < sumLo v 6
  · rw [if_pos h]; exact .inr (order_lt h).symm
  · rw [if_neg h]
    by_cases h' : sumHi v 6 < sumLo u 6
    · rw [if_pos h']; exact .inr (order_gt h').symm
    · rw [if_neg h']; exact .inl rfl

theorem prod_le {a0 a1 a2 a3 a4 a5 b0 b1 b2 b3 b4 b5 : Nat} (h : hiL a0 a1 a2 a3 a4 a5 ≤ loL b0 b1 b2 b3 b4 b5) : prodP a0 a1 a2 a3 a4 a5 ≤ prodP b0 b1 b2 b3 b4 b5 := by
  have h1 := hiL_le a0 a1 a2 a3 a4 a5
  have h2 := loL_le b0 b1 b2 b3 b4 b5
  have h3 := Nat.pow_le_pow_right (n := 2) (by omega) h
  rcases Nat.lt_or_ge (prodP b0 b1 b2 b3 b4 b5) (prodP a0 a1 a2 a3 a4 a5) with g | g
  · have := Nat.pow_lt_pow_left g (n := GG) (by unfold GG; decide)
    omega
  · exact g
theorem hiV_le {v : V6} (h : hiV v ≤ 0) : cmpP v ≤ 0 := by
  have : v.num ≤ v.den := by
    refine prod_le ?_
    unfold hiV at h
    simp only [hiT_eq] at h
    unfold hiL loL
    omega
  have := cmpP_cases v
  omega
/-- A pitch that is k semitones higher. -/
def up2 (v : V6) (k : Int) : V6 := ⟨v.x0 + k, v.x1, v.x2, v.x3, v.x4, v.x5⟩
theorem hiV_up (u v : V6) (k : Int) : hiV (u.sub (up2 v k)) = hiV (u.sub v) - 1000000000 * k ∧ loV (u.sub (up2 v k)) = loV (u.sub v) - 1000000000 * k := by
  have t : ∀ e : Int, hiT e 1000000000 1000000000 = e * 1000000000 ∧ loT e 1000000000 1000000000 = e * 1000000000 := fun e => by unfold hiT loT; split <;> exact ⟨rfl, rfl⟩
  unfold hiV loV V6.sub up2
  simp only [t]
  omega
theorem surely_cases (lo hi low high : Int) : (surelyI lo hi low high = 1 ∧ low ≤ lo ∧ hi ≤ high) ∨ (surelyI lo hi low high = -1 ∧ (hi < low ∨ high < lo)) ∨ surelyI lo hi low high = 0 := by
  unfold surelyI
  by_cases h : low ≤ lo ∧ hi ≤ high
  · rw [if_pos h]; exact .inl ⟨rfl, h⟩
  · rw [if_neg h]
    by_cases h' : hi < low ∨ high < lo
    · rw [if_pos h']; exact .inr (.inl ⟨rfl, h'⟩)
    · rw [if_neg h']; exact .inr (.inr rfl)
theorem exactly_cases (u v : V6) (k x : Int) (hx : surelyI (sumLo (u.sub v) 6) (sumHi (u.sub v) 6) (-10000 * (100000 * k)) (10000 * (100000 * k)) = x) :
    (x = 1 ∧ cmpP (u.sub (up2 v k)) ≤ 0 ∧ cmpP (v.sub (up2 u k)) ≤ 0) ∨ (x = -1 ∧ (cmpP (u.sub (up2 v k)) = 1 ∨ cmpP (v.sub (up2 u k)) = 1)) ∨ x = 0 := by
  obtain ⟨a1, a2⟩ := hiV_up u v k
  obtain ⟨b1, b2⟩ := hiV_up v u k
  obtain ⟨s1, s2⟩ := sum_swap u v 6 (by omega)
  have e1 := sumLo_loV (u.sub v); have e2 := sumHi_hiV (u.sub v)
  have e3 := sumLo_loV (v.sub u); have e4 := sumHi_hiV (v.sub u)
  rcases surely_cases (sumLo (u.sub v) 6) (sumHi (u.sub v) 6) (-10000 * (100000 * k)) (10000 * (100000 * k)) with ⟨h, h1, h2⟩ | ⟨h, h1⟩ | h
  · exact .inl ⟨by omega, hiV_le (by omega), hiV_le (by omega)⟩
  · refine .inr (.inl ⟨by omega, ?_⟩)
    rcases h1 with h1 | h1
    · exact .inr (loV_pos (by omega))
    · exact .inl (loV_pos (by omega))
  · exact .inr (.inr (by omega))
end Go.Proofs.YtmealmnjeoehiaaDoor
