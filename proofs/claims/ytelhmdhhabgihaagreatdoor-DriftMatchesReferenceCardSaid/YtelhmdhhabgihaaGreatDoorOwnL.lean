/-
  A slice of the call's own that is appended to in a loop: what the loop's relation says of it.
-/
import Derived.Test.YtelhmdhhabgihaaGreatDoorOwnRows
import Derived.OwnWalk
namespace Go.Proofs.YtelhmdhhabgihaaGreatDoor
open Go.RowKit

theorem own_keep {W W' : World} {base : Nat} {e : TypeId} {sz n : Nat} {v : Value} {xs : List Value} (h : W.ownsRow base e sz v n xs) (g : Gr W W') : W'.ownsRow base e sz v n xs := by
  have k : W.grownBy W' none := ⟨g.os, g.tape, g.output, g.size, fun j hj _ => g.block j hj⟩
  exact h.kept k (by cases hv : v.ownBlock <;> simp)
/-- Below block `base` the world is as it was in W0; above it the slice v owns the cells xs. -/
structure OwnL (base : Nat) (e : TypeId) (sz : Nat) (W0 : World) (v : Value) (n : Nat) (xs : List Value) (W : World) : Prop where
  below : Below base W0 W
  own : W.ownsRow base e sz v n xs
  size : base ≤ W.heap.size
theorem OwnL.gr {base : Nat} {e : TypeId} {sz n : Nat} {W0 W W' : World} {v : Value} {xs : List Value} (h : OwnL base e sz W0 v n xs W) (g : Gr W W') : OwnL base e sz W0 v n xs W' :=
  ⟨h.below.trans (Below.mono g h.size), own_keep h.own g, Nat.le_trans h.size g.le⟩
theorem OwnL.alloc {base : Nat} {e : TypeId} {sz n : Nat} {W0 W : World} {v : Value} {xs : List Value} (h : OwnL base e sz W0 v n xs W) (o : Obj) : OwnL base e sz W0 v n xs (W.alloc o) := h.gr ((Gr.refl _).alloc o)
theorem OwnL.drew {base : Nat} {e : TypeId} {sz n : Nat} {W0 W : World} {v : Value} {xs : List Value} (h : OwnL base e sz W0 v n xs W) : OwnL base e sz W0 v n xs W.drew := h.gr (Gr.refl _).drew
theorem OwnL.grown {base : Nat} {e : TypeId} {sz n n' : Nat} {W0 W W' : World} {v v' : Value} {xs xs' : List Value} (h : OwnL base e sz W0 v n xs W) (hown : W'.ownsRow base e sz v' n' xs') (hg : W.grownBy W' v.ownBlock) : OwnL base e sz W0 v' n' xs' W' :=
  ⟨h.below.grown hg h.size (fun k hk => (h.own.lt k hk).1), hown, Nat.le_trans h.size hg.size⟩
theorem OwnL.cell {base : Nat} {e : TypeId} {sz n : Nat} {W0 W : World} {v : Value} {xs : List Value} (h : OwnL base e sz W0 v n xs W) {b o : Nat} (hb : b < base) : W.cell? ⟨b, o, none⟩ = W0.cell? ⟨b, o, none⟩ := Below.cell (p := ⟨b, o, none⟩) h.below hb
theorem OwnL.toGr {base : Nat} {e : TypeId} {sz n : Nat} {w W0 W : World} {v : Value} {xs : List Value} (h : OwnL base e sz W0 v n xs W) (g : Gr w W0) (hb : W0.heap.size ≤ base) : Gr w W := g.trans (Below.mono h.below hb)
theorem OwnL.start (base : Nat) (e : TypeId) (sz : Nat) (W0 : World) (hb : base ≤ W0.heap.size) : OwnL base e sz W0 (.slice none 0 0) 0 [] W0 :=
  ⟨Below.refl _ _, ⟨by simp, .inl ⟨rfl, rfl⟩⟩, hb⟩
end Go.Proofs.YtelhmdhhabgihaaGreatDoor
