/-
  A slice whose elements are rows of integers: what it reads as, in whatever memory.
-/
import Derived.Test.YtelhmdhhabgihaaGreatDoorBase
namespace Go.Proofs.YtelhmdhhabgihaaGreatDoor
open Go.RowKit

/-- n rows of sz integers, f, lie behind an address. -/
def RowsAt (w : World) (sz : Nat) (A : Option Addr) (n : Nat) (f : Nat → Nat → Int) : Prop :=
  0 < n → ∃ b off, A = some ⟨b, off, none⟩ ∧ b < w.heap.size ∧ ∀ i, i < n → ∀ j, j < sz → w.cell? ⟨b, off + i * sz + j, none⟩ = some (.int .i64 (f i j))
theorem RowsAt.keep {w w' : World} {sz n : Nat} {A : Option Addr} {f : Nat → Nat → Int} (h : RowsAt w sz A n f) (g : Gr w w') : RowsAt w' sz A n f := by
  intro hn
  obtain ⟨b, off, rfl, hb, hc⟩ := h hn
  exact ⟨b, off, rfl, Nat.lt_of_lt_of_le hb g.le, fun i hi j hj => (Below.cell (p := ⟨b, off + i * sz + j, none⟩) g hb).trans (hc i hi j hj)⟩
theorem RowsAt.nil (w : World) (sz : Nat) (A : Option Addr) (f : Nat → Nat → Int) : RowsAt w sz A 0 f := fun h => absurd h (by omega)
theorem RowsAt.at_ {w : World} {sz n k : Nat} {A : Option Addr} {f : Nat → Nat → Int} (h : RowsAt w sz A n f) (hk : k < n) : ∃ b off, A = some ⟨b, off, none⟩ ∧ b < w.heap.size ∧ ∀ j, j < sz → w.cell? ⟨b, off + k * sz + j, none⟩ = some (.int .i64 (f k j)) := by
  obtain ⟨b, off, e, hb, hc⟩ := h (by omega)
  exact ⟨b, off, e, hb, hc k hk⟩
/-- The six cells of a pitch among others, as a walk spells their addresses. -/
theorem RowsAt.six {w : World} {n k : Nat} {A : Option Addr} {f : Nat → Nat → Int} (h : RowsAt w 6 A n f) (hk : k < n) : ∃ b off, A = some ⟨b, off, none⟩ ∧ b < w.heap.size ∧
    w.cell? ⟨b, off + k * 6, none⟩ = some (.int .i64 (f k 0)) ∧ w.cell? ⟨b, off + k * 6 + 1, none⟩ = some (.int .i64 (f k 1)) ∧ w.cell? ⟨b, off + k * 6 + 2, none⟩ = some (.int .i64 (f k 2)) ∧
    w.cell? ⟨b, off + k * 6 + 3, none⟩ = some (.int .i64 (f k 3)) ∧ w.cell? ⟨b, off + k * 6 + 4, none⟩ = some (.int .i64 (f k 4)) ∧ w.cell? ⟨b, off + k * 6 + 5, none⟩ = some (.int .i64 (f k 5)) := by
  obtain ⟨b, off, e, hb, hc⟩ := h.at_ hk
  exact ⟨b, off, e, hb, hc 0 (by omega), hc 1 (by omega), hc 2 (by omega), hc 3 (by omega), hc 4 (by omega), hc 5 (by omega)⟩
/-- The two cells of a pair. -/
theorem RowsAt.two {w : World} {n k : Nat} {A : Option Addr} {f : Nat → Nat → Int} (h : RowsAt w 2 A n f) (hk : k < n) : ∃ b off, A = some ⟨b, off, none⟩ ∧ b < w.heap.size ∧
    w.cell? ⟨b, off + k * 2, none⟩ = some (.int .i64 (f k 0)) ∧ w.cell? ⟨b, off + k * 2 + 1, none⟩ = some (.int .i64 (f k 1)) := by
  obtain ⟨b, off, e, hb, hc⟩ := h.at_ hk
  exact ⟨b, off, e, hb, hc 0 (by omega), hc 1 (by omega)⟩
end Go.Proofs.YtelhmdhhabgihaaGreatDoor
