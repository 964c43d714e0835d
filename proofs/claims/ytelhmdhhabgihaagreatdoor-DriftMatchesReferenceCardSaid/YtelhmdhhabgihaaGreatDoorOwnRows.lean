/-
  A slice of the call's own, read as rows of integers.
-/
import Derived.Test.YtelhmdhhabgihaaGreatDoorRowsAt
import Derived.Laws.AppendOwn
namespace Go.Proofs.YtelhmdhhabgihaaGreatDoor
open Go.RowKit

theorem rows_of_own {w : World} {base : Nat} {e : TypeId} {sz n : Nat} {v : Value} {xs : List Value} (h : w.ownsRow base e sz v n xs) (f : Nat → Nat → Int) (hf : ∀ i j, i < n → j < sz → xs[i * sz + j]? = some (.int .i64 (f i j))) :
    ∃ A c, v = .slice A n c ∧ RowsAt w sz A n f ∧ n ≤ maxLen := by
  have hc := fun g (hg : v.ownBlock = some g) => h.cells hg
  rcases h.2 with ⟨rfl, rfl⟩ | ⟨g, cap, cur, rfl, hb, hgg, h1, h2, h3, h4⟩
  · exact ⟨none, 0, rfl, RowsAt.nil _ _ _ _, Nat.zero_le _⟩
  · refine ⟨some ⟨g, 0, none⟩, cap, rfl, fun _ => ⟨g, 0, rfl, (Array.getElem?_eq_some_iff.1 hgg).1, fun i hi j hj => ?_⟩, Nat.le_trans h1 h2⟩
    have := hc g rfl (i * sz + j) _ (hf i j hi hj)
    unfold Addr.add at this
    split at this
    · rename_i e0
      rw [Nat.zero_add, e0]; exact this
    · simpa using this
/-- A list of pairs, as rows. -/
def pairF {α : Type} (x y : α → Int) (l : List α) (i j : Nat) : Int := match l[i]? with
  | none => 0
  | some p => if j = 0 then x p else y p
def pairCells {α : Type} (x y : α → Int) (l : List α) : List Value := l.flatMap fun p => [.int .i64 (x p), .int .i64 (y p)]
theorem pairCells_at {α : Type} (x y : α → Int) : ∀ (l : List α) (i j : Nat), i < l.length → j < 2 → (pairCells x y l)[i * 2 + j]? = some (.int .i64 (pairF x y l i j))
  | [], i, j, hi, hj => by simp at hi
  | p :: l, 0, j, hi, hj => by
    obtain rfl | rfl : j = 0 ∨ j = 1 := by omega
    · simp [pairCells, pairF]
    · simp [pairCells, pairF]
  | p :: l, i + 1, j, hi, hj => by
    have ih := pairCells_at x y l i j (by simpa using hi) hj
    have e : (i + 1) * 2 + j = (i * 2 + j) + 2 := by omega
    rw [e]
    have e2 : pairF x y (p :: l) (i + 1) j = pairF x y l i j := by simp [pairF]
    rw [e2, ← ih]
    simp [pairCells]
theorem pairF_0 {α : Type} {x y : α → Int} {l : List α} {i : Nat} {p : α} (h : l[i]? = some p) : pairF x y l i 0 = x p := by simp [pairF, h]
theorem pairF_1 {α : Type} {x y : α → Int} {l : List α} {i : Nat} {p : α} (h : l[i]? = some p) : pairF x y l i 1 = y p := by simp [pairF, h]
end Go.Proofs.YtelhmdhhabgihaaGreatDoor
