/-
  Lines of sung notes: of a part at the head of a line, and of a line that begins later (plain words).
-/
import Derived.Test.YtiogfohjepobkaaDoorLine2
import Derived.Test.YtiogfohjepobkaaDoorLater
namespace Go.Proofs.YtiogfohjepobkaaDoor
open Go.RowKit

theorem singAll_le {lo hi : V6} {st br : Int} {f : Nat → Nat → Int} {a b : Nat} (hab : a ≤ b) (hb : singAll lo hi st br f b = true) : singAll lo hi st br f a = true := by
  induction b with
  | zero => obtain rfl : a = 0 := by omega
            exact hb
  | succ b ih =>
    by_cases e : a = b + 1
    · subst e; exact hb
    · simp only [singAll, Bool.and_eq_true] at hb
      exact ih (by omega) hb.1
theorem lineR_prefix {lo hi : V6} {st br : Int} {f : Nat → Nat → Int} {n k : Nat} {r : Int} (h : LineR lo hi st br f n r) (hk : k ≤ n) : LineR lo hi st br f k (if 0 ≤ r ∧ r < (k : Int) then r else -1) := by
  rcases h with ⟨h1, rfl⟩ | ⟨j, h1, h2, h3, rfl⟩
  · rw [if_neg (by omega)]
    exact Or.inl ⟨singAll_le hk h1, rfl⟩
  · by_cases e : j < k
    · rw [if_pos ⟨by omega, by omega⟩]
      exact Or.inr ⟨j, e, h2, h3, rfl⟩
    · rw [if_neg (by omega)]
      exact Or.inl ⟨singAll_le (by omega) h2, rfl⟩
theorem lineR_range {lo hi : V6} {st br : Int} {f : Nat → Nat → Int} {n : Nat} {r : Int} (h : LineR lo hi st br f n r) : -1 ≤ r ∧ r < (n : Int) := by
  rcases h with ⟨h1, rfl⟩ | ⟨j, h1, h2, h3, rfl⟩ <;> omega
theorem lineGood_prefix {f : Nat → Nat → Int} {n k : Nat} (h : lineGood f n = true) (hk : k ≤ n) : lineGood f k = true := by
  induction n with
  | zero => obtain rfl : k = 0 := by omega
            exact h
  | succ n ih =>
    by_cases e : k = n + 1
    · subst e; exact h
    · simp only [lineGood, Bool.and_eq_true] at h
      exact ih h.1 (by omega)
theorem sungOk_parts {e : Int} {r : Nat → Int} (h : sungOk e r = true) : e ≤ r 0 ∧ r 0 < r 1 ∧ r 1 ≤ 100000 ∧ allIn ⟨r 2, r 3, r 4, r 5, r 6, r 7⟩ 48 6 = true := by
  simp only [sungOk, Bool.and_eq_true, decide_eq_true_eq] at h
  exact ⟨h.1.1, h.1.2.1, h.1.2.2, h.2⟩
theorem line_bounds {f : Nat → Nat → Int} {n : Nat} (h : lineGood f n = true) : ∀ j, j < n → 0 ≤ f j 0 ∧ f j 0 < f j 1 ∧ f j 1 ≤ 100000 := by
  intro j
  induction j with
  | zero => intro hj; have := sungOk_parts (lineGood_le h 0 hj); simp only [lineEnd] at this; omega
  | succ j ih => intro hj; have := sungOk_parts (lineGood_le h (j + 1) hj); have := ih (by omega); simp only [lineEnd] at *; omega
theorem line_rises {f : Nat → Nat → Int} {n : Nat} (h : lineGood f n = true) : ∀ i j, i ≤ j → j < n → f i 1 ≤ f j 1 := by
  intro i j hij hj
  induction j with
  | zero => obtain rfl : i = 0 := by omega
            exact Int.le_refl _
  | succ j ih =>
    by_cases e : i = j + 1
    · subst e; exact Int.le_refl _
    · have h1 := ih (by omega) (by omega)
      have h2 := sungOk_parts (lineGood_le h (j + 1) hj)
      simp only [lineEnd] at h2
      omega

theorem latF0 (f : Nat → Nat → Int) (y : Int) {n j : Nat} (hj : j < n) : latF f y n j 0 = f j 0 + y := by simp [latF, hj]
theorem latF1 (f : Nat → Nat → Int) (y : Int) {n j : Nat} (hj : j < n) : latF f y n j 1 = f j 1 + y := by simp [latF, hj]
theorem latF2 (f : Nat → Nat → Int) (y : Int) (n j c : Nat) (hc : 2 ≤ c) : latF f y n j c = f j c := by unfold latF; rw [if_neg (by omega)]
theorem atN_lat (f : Nat → Nat → Int) (y : Int) (n j : Nat) : atN (latF f y n) j = atN f j := by
  simp only [atN, latF2 f y n j _ (show 2 ≤ 2 by omega), latF2 f y n j _ (show 2 ≤ 3 by omega), latF2 f y n j _ (show 2 ≤ 4 by omega), latF2 f y n j _ (show 2 ≤ 5 by omega), latF2 f y n j _ (show 2 ≤ 6 by omega), latF2 f y n j _ (show 2 ≤ 7 by omega)]
theorem brF_lat (f : Nat → Nat → Int) (y : Int) (n : Nat) : ∀ j, j < n → brF (latF f y n) j = brF f j + y := by
  intro j
  induction j with
  | zero => intro hj; simp only [brF, latF0 f y hj]
  | succ j ih =>
    intro hj
    simp only [brF, latF0 f y hj, latF1 f y (show j < n by omega), ih (by omega)]
    by_cases e : f j 1 < f (j + 1) 0
    · rw [if_pos e, if_pos (by omega)]
    · rw [if_neg e, if_neg (by omega)]
theorem singB_lat (lo hi : V6) (st br : Int) (f : Nat → Nat → Int) (y : Int) (n j : Nat) (hj : j < n) : singB lo hi st br (latF f y n) j = singB lo hi st br f j := by
  have e : latF f y n j 1 - brF (latF f y n) j = f j 1 - brF f j := by rw [latF1 f y hj, brF_lat f y n j hj]; omega
  cases j with
  | zero => simp only [singB, e, atN_lat]
  | succ j => simp only [singB, e, atN_lat]
theorem singAll_lat (lo hi : V6) (st br : Int) (f : Nat → Nat → Int) (y : Int) (n : Nat) : ∀ j, j ≤ n → singAll lo hi st br (latF f y n) j = singAll lo hi st br f j := by
  intro j
  induction j with
  | zero => intro _; rfl
  | succ j ih => intro hj; simp only [singAll, ih (by omega), singB_lat lo hi st br f y n j (by omega)]
theorem lineR_lat {lo hi : V6} {st br : Int} {f : Nat → Nat → Int} {n : Nat} {r y : Int} (h : LineR lo hi st br f n r) : LineR lo hi st br (latF f y n) n r := by
  rcases h with ⟨h1, rfl⟩ | ⟨j, h1, h2, h3, rfl⟩
  · exact Or.inl ⟨by rw [singAll_lat _ _ _ _ _ _ _ n (Nat.le_refl n)]; exact h1, rfl⟩
  · exact Or.inr ⟨j, h1, by rw [singAll_lat _ _ _ _ _ _ _ j (by omega)]; exact h2, by rw [singB_lat _ _ _ _ _ _ _ j h1]; exact h3, rfl⟩
theorem lineGood_lat {f : Nat → Nat → Int} {n : Nat} {y : Int} (h : lineGood f n = true) (hy : 0 ≤ y) (hu : ∀ j, j + 1 = n → f j 1 + y ≤ 100000) : lineGood (latF f y n) n = true := by
  have key : ∀ j, j ≤ n → lineGood (latF f y n) j = true := by
    intro j
    induction j with
    | zero => intro _; rfl
    | succ j ih =>
      intro hj
      have hs := sungOk_parts (lineGood_le h j (by omega))
      have hb : f j 1 + y ≤ 100000 := by
        have h1 := line_rises h j (n - 1) (by omega) (by omega)
        have h2 := hu (n - 1) (by omega)
        omega
      have he : lineEnd (latF f y n) j ≤ f j 0 + y := by
        cases j with
        | zero => simp only [lineEnd] at hs ⊢; omega
        | succ j => simp only [lineEnd, latF1 f y (show j < n by omega)] at hs ⊢; omega
      simp only [lineGood, ih (by omega), Bool.true_and, sungOk, latF0 f y (show j < n by omega), latF1 f y (show j < n by omega), latF2 f y n j _ (show 2 ≤ 2 by omega), latF2 f y n j _ (show 2 ≤ 3 by omega), latF2 f y n j _ (show 2 ≤ 4 by omega), latF2 f y n j _ (show 2 ≤ 5 by omega), latF2 f y n j _ (show 2 ≤ 6 by omega), latF2 f y n j _ (show 2 ≤ 7 by omega), hs.2.2.2, Bool.and_true, decide_eq_true_eq]
      omega
  exact key n (Nat.le_refl n)
theorem lineGood_late {f : Nat → Nat → Int} {n j : Nat} {y : Int} (hj : j + 1 = n) (hu : 100000 < f j 1 + y) : lineGood (latF f y n) n = false := by
  cases e : lineGood (latF f y n) n with
  | false => rfl
  | true =>
    have := sungOk_parts (lineGood_le e j (by omega))
    rw [latF1 f y (show j < n by omega)] at this
    omega
end Go.Proofs.YtiogfohjepobkaaDoor
