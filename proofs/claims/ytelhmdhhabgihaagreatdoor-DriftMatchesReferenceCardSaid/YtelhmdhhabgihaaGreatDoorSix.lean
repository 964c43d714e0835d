/-
  Six stores into one block.
-/
import Derived.Test.YtelhmdhhabgihaaGreatDoorMore
import Derived.Deep.Cut
namespace Go.Proofs.YtelhmdhhabgihaaGreatDoor
open Go.RowKit

def set6 (W : World) (b : Nat) (x0 x1 x2 x3 x4 x5 : Value) : World :=
  (((((W.setCell ⟨b, 0, none⟩ x0).setCell ⟨b, 1, none⟩ x1).setCell ⟨b, 2, none⟩ x2).setCell ⟨b, 3, none⟩ x3).setCell ⟨b, 4, none⟩ x4).setCell ⟨b, 5, none⟩ x5
theorem set6_size (W : World) (b : Nat) (x0 x1 x2 x3 x4 x5 : Value) : (set6 W b x0 x1 x2 x3 x4 x5).heap.size = W.heap.size := by simp [set6]
theorem set6_other (W : World) (b : Nat) (x0 x1 x2 x3 x4 x5 : Value) {b' : Nat} (h : b' ≠ b) (o : Nat) : (set6 W b x0 x1 x2 x3 x4 x5).cell? ⟨b', o, none⟩ = W.cell? ⟨b', o, none⟩ := by
  have k : ∀ (w : World) (i : Nat) (v : Value), (w.setCell ⟨b, i, none⟩ v).cell? ⟨b', o, none⟩ = w.cell? ⟨b', o, none⟩ := fun w i v => World.cell?_setCell_other _ _ _ _ (fun e => h (by injection e with e; exact e.symm))
  unfold set6
  rw [k, k, k, k, k, k]
theorem set6_frozen (W : World) (b : Nat) (x0 x1 x2 x3 x4 x5 : Value) (p : Addr) : (set6 W b x0 x1 x2 x3 x4 x5).frozen? p = W.frozen? p := by
  unfold set6
  simp only [World.frozen?_setCell]
theorem set6_below {W0 W : World} {N : Nat} (h : Below N W0 W) {b : Nat} (hb : N ≤ b) (x0 x1 x2 x3 x4 x5 : Value) : Below N W0 (set6 W b x0 x1 x2 x3 x4 x5) := by
  unfold set6
  exact Below.setCell (Below.setCell (Below.setCell (Below.setCell (Below.setCell (Below.setCell h hb _) hb _) hb _) hb _) hb _) hb _
/-- Six values in a block. -/
structure SixV (W : World) (B : Nat) (x0 x1 x2 x3 x4 x5 : Value) : Prop where
  c0 : W.cell? ⟨B, 0, none⟩ = some x0
  c1 : W.cell? ⟨B, 1, none⟩ = some x1
  c2 : W.cell? ⟨B, 2, none⟩ = some x2
  c3 : W.cell? ⟨B, 3, none⟩ = some x3
  c4 : W.cell? ⟨B, 4, none⟩ = some x4
  c5 : W.cell? ⟨B, 5, none⟩ = some x5
theorem SixV.some {W : World} {B : Nat} {x0 x1 x2 x3 x4 x5 : Value} (h : SixV W B x0 x1 x2 x3 x4 x5) : ∀ j, j < 6 → (W.cell? ⟨B, j, none⟩).isSome = true := by
  obtain ⟨c0, c1, c2, c3, c4, c5⟩ := h
  intro j hj
  obtain rfl | rfl | rfl | rfl | rfl | rfl : j = 0 ∨ j = 1 ∨ j = 2 ∨ j = 3 ∨ j = 4 ∨ j = 5 := by omega
  all_goals simp [*]
theorem SixV.keep {W W' : World} {B : Nat} {x0 x1 x2 x3 x4 x5 : Value} (h : SixV W B x0 x1 x2 x3 x4 x5) {N : Nat} (g : Below N W W') (hB : B < N) : SixV W' B x0 x1 x2 x3 x4 x5 :=
  have k : ∀ o, W'.cell? ⟨B, o, none⟩ = W.cell? ⟨B, o, none⟩ := fun o => Below.cell (p := ⟨B, o, none⟩) g hB
  ⟨(k _).trans h.c0, (k _).trans h.c1, (k _).trans h.c2, (k _).trans h.c3, (k _).trans h.c4, (k _).trans h.c5⟩
theorem SixV.other {W : World} {B : Nat} {x0 x1 x2 x3 x4 x5 : Value} (h : SixV W B x0 x1 x2 x3 x4 x5) {b : Nat} (hb : B ≠ b) (y0 y1 y2 y3 y4 y5 : Value) : SixV (set6 W b y0 y1 y2 y3 y4 y5) B x0 x1 x2 x3 x4 x5 :=
  have k := fun o => set6_other W b y0 y1 y2 y3 y4 y5 hb o
  ⟨(k _).trans h.c0, (k _).trans h.c1, (k _).trans h.c2, (k _).trans h.c3, (k _).trans h.c4, (k _).trans h.c5⟩
theorem set6_own {W : World} {b : Nat} (h : ∀ j, j < 6 → (W.cell? ⟨b, j, none⟩).isSome = true) (x0 x1 x2 x3 x4 x5 : Value) : SixV (set6 W b x0 x1 x2 x3 x4 x5) b x0 x1 x2 x3 x4 x5 := by
  have hs := six_set W b x0 x1 x2 x3 x4 x5 h
  exact ⟨hs 0 (by omega), hs 1 (by omega), hs 2 (by omega), hs 3 (by omega), hs 4 (by omega), hs 5 (by omega)⟩
end Go.Proofs.YtelhmdhhabgihaaGreatDoor
