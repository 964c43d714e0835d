/-
  package voice: Line where all notes are valid: what it returns.
-/
import Derived.Test.YtiogfohjepobkaaDoorLine1
namespace Go.Proofs.YtiogfohjepobkaaDoor
open Go.RowKit

/-- The interval of a sung note. -/
def atN (f : Nat → Nat → Int) (j : Nat) : V6 := ⟨f j 2, f j 3, f j 4, f j 5, f j 6, f j 7⟩
/-- When the singer has breathed last, at note j. -/
def brF (f : Nat → Nat → Int) : Nat → Int
  | 0 => f 0 0
  | j + 1 => if f j 1 < f (j + 1) 0 then f (j + 1) 0 else brF f j
/-- Note j can be sung. -/
def singB (lo hi : V6) (st br : Int) (f : Nat → Nat → Int) : Nat → Bool
  | 0 => decide (f 0 1 - brF f 0 ≤ br) && hasB lo hi (atN f 0)
  | j + 1 => decide (f (j + 1) 1 - brF f (j + 1) ≤ br) && (hasB lo hi (atN f (j + 1)) && findsB st (atN f j) (atN f (j + 1)))
/-- The first j notes can be sung. -/
def singAll (lo hi : V6) (st br : Int) (f : Nat → Nat → Int) : Nat → Bool
  | 0 => true
  | j + 1 => singAll lo hi st br f j && singB lo hi st br f j
/-- What Line returns. -/
def LineR (lo hi : V6) (st br : Int) (f : Nat → Nat → Int) (n : Nat) (r : Int) : Prop :=
  (singAll lo hi st br f n = true ∧ r = -1) ∨ ∃ j : Nat, j < n ∧ singAll lo hi st br f j = true ∧ singB lo hi st br f j = false ∧ r = (j : Int)
theorem lineR_one {lo hi : V6} {st br : Int} {f : Nat → Nat → Int} {n : Nat} {r s : Int} (h : LineR lo hi st br f n r) (k : LineR lo hi st br f n s) : r = s := by
  have mono : ∀ a b, a ≤ b → singAll lo hi st br f b = true → singAll lo hi st br f a = true := by
    intro a b hab hb
    induction b with
    | zero => obtain rfl : a = 0 := by omega
              exact hb
    | succ b ih =>
      by_cases e : a = b + 1
      · subst e; exact hb
      · simp only [singAll, Bool.and_eq_true] at hb
        exact ih (by omega) hb.1
  have stop : ∀ a b, a < b → singB lo hi st br f a = false → singAll lo hi st br f b = true → False := by
    intro a b hab ha hb
    have := mono (a + 1) b hab hb
    simp [singAll, ha] at this
  rcases h with ⟨h1, rfl⟩ | ⟨a, ha, ha1, ha2, rfl⟩ <;> rcases k with ⟨k1, rfl⟩ | ⟨b, hb, hb1, hb2, rfl⟩
  · rfl
  · exact (stop b n hb hb2 h1).elim
  · exact (stop a n ha ha2 k1).elim
  · rcases Nat.lt_trichotomy a b with h | h | h
    · exact (stop a b h ha2 hb1).elim
    · rw [h]
    · exact (stop b a h hb2 ha1).elim
theorem lineGood_le {f : Nat → Nat → Int} {n : Nat} (h : lineGood f n = true) (j : Nat) (hj : j < n) : sungOk (lineEnd f j) (f j) = true := by
  induction n with
  | zero => omega
  | succ n ih =>
    simp only [lineGood, Bool.and_eq_true] at h
    by_cases e : j = n
    · subst e; exact h.2
    · exact ih h.1 (by omega)
end Go.Proofs.YtiogfohjepobkaaDoor
