/-
  Sizes, in plain numbers; size.surely.
-/
import Derived.Test.YtelhmdhhabgihaaGreatDoorPitch
namespace Go.Proofs.YtelhmdhhabgihaaGreatDoor
open Go.RowKit
/-- A size is valid. -/
def validS (lo hi : Int) : Bool := decide (-100000000000000 ≤ lo) && (decide (lo ≤ hi) && decide (hi ≤ 100000000000000))
theorem validS_true {lo hi : Int} (h : validS lo hi = true) : -100000000000000 ≤ lo ∧ lo ≤ hi ∧ hi ≤ 100000000000000 := by
  simpa [validS] using h
theorem validS_mk {lo hi : Int} (h : -100000000000000 ≤ lo ∧ lo ≤ hi ∧ hi ≤ 100000000000000) : validS lo hi = true := by
  simpa [validS] using h
theorem validS_no {lo hi : Int} (h : ¬ (-100000000000000 ≤ lo ∧ lo ≤ hi ∧ hi ≤ 100000000000000)) : validS lo hi = false := by
  rw [← Bool.not_eq_true]; exact fun h' => h (validS_true h')

/-- How two sizes lie to each other. -/
def cmpI (al ah bl bh : Int) : Int := if ah < bl then -1 else if bh < al then 1 else 0

theorem ret_pair {k k' : IntKind} {a a' b b' : Int} (h : a = a') (h' : b = b') : Ending.returned (.tuple #[.int k a, .int k' b]) = .returned (.tuple #[.int k a', .int k' b']) := by rw [h, h']

/-- The greater, and the lesser, of two numbers, as Go's built-ins compute them. -/
def mx (a b : Int) : Int := if a < b then b else a
def mn (a b : Int) : Int := if b < a then b else a

/-- Whether a size is surely within a range. -/
def surelyI (lo hi low high : Int) : Int := if low ≤ lo ∧ hi ≤ high then 1 else if hi < low ∨ high < lo then -1 else 0
end Go.Proofs.YtelhmdhhabgihaaGreatDoor
