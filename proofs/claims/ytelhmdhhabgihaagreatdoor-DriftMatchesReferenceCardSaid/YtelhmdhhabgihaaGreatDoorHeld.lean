/-
  What a region that draws, calls and allocates leaves alone: all that was there before it.
-/
import Derived.Test.YtelhmdhhabgihaaGreatDoorSix
import Derived.Deep.DeepCutAuto
import Derived.Deep.RegionHeld3
import Derived.WalkSmall
namespace Go.Proofs.YtelhmdhhabgihaaGreatDoor
open Go.RowKit

theorem Gr.drewN {w w' : World} (h : Gr w w') (n : Nat) : Gr w (w'.drewN n) := below_drewN h n
theorem held_gr {W X : World} (h : (∀ b o, (⟨min (b + 1) W.heap.size, 0, none⟩ : Addr) = ⟨b + 1, 0, none⟩ → X.cell? ⟨b, o, none⟩ = W.cell? ⟨b, o, none⟩) ∧ Gr W X) : Gr W X := h.2
theorem held_of {W X : World} (h : Gr W X) : (∀ b o, (⟨min (b + 1) W.heap.size, 0, none⟩ : Addr) = ⟨b + 1, 0, none⟩ → X.cell? ⟨b, o, none⟩ = W.cell? ⟨b, o, none⟩) ∧ Gr W X := ⟨h.cells.1, h⟩
theorem held_drew (W : World) : (∀ b o, (⟨min (b + 1) W.heap.size, 0, none⟩ : Addr) = ⟨b + 1, 0, none⟩ → W.drew.cell? ⟨b, o, none⟩ = W.cell? ⟨b, o, none⟩) ∧ Gr W W.drew := held_of (Gr.refl W).drew
theorem held_call {W X Y : World} (h : (∀ b o, (⟨min (b + 1) W.heap.size, 0, none⟩ : Addr) = ⟨b + 1, 0, none⟩ → X.cell? ⟨b, o, none⟩ = W.cell? ⟨b, o, none⟩) ∧ Gr W X) (g : Gr X Y) : (∀ b o, (⟨min (b + 1) W.heap.size, 0, none⟩ : Addr) = ⟨b + 1, 0, none⟩ → Y.cell? ⟨b, o, none⟩ = W.cell? ⟨b, o, none⟩) ∧ Gr W Y := held_of (h.2.trans g)
theorem held_alloc {W X : World} (h : (∀ b o, (⟨min (b + 1) W.heap.size, 0, none⟩ : Addr) = ⟨b + 1, 0, none⟩ → X.cell? ⟨b, o, none⟩ = W.cell? ⟨b, o, none⟩) ∧ Gr W X) (x : Obj) : (∀ b o, (⟨min (b + 1) W.heap.size, 0, none⟩ : Addr) = ⟨b + 1, 0, none⟩ → (X.alloc x).cell? ⟨b, o, none⟩ = W.cell? ⟨b, o, none⟩) ∧ Gr W (X.alloc x) := held_of (h.2.alloc x)
theorem held_alloc0 (W : World) (x : Obj) : (∀ b o, (⟨min (b + 1) W.heap.size, 0, none⟩ : Addr) = ⟨b + 1, 0, none⟩ → (W.alloc x).drew.cell? ⟨b, o, none⟩ = W.cell? ⟨b, o, none⟩) ∧ Gr W (W.alloc x).drew := held_of ((Gr.refl W).alloc x).drew
theorem held_anew {W X : World} {x : Obj} (h : (∀ b o, (⟨min (b + 1) W.heap.size, 0, none⟩ : Addr) = ⟨b + 1, 0, none⟩ → (X.alloc x).cell? ⟨b, o, none⟩ = W.cell? ⟨b, o, none⟩) ∧ Gr W (X.alloc x)) (y : Obj) (hz : W.heap.size ≤ X.heap.size) : (∀ b o, (⟨min (b + 1) W.heap.size, 0, none⟩ : Addr) = ⟨b + 1, 0, none⟩ → (X.alloc y).cell? ⟨b, o, none⟩ = W.cell? ⟨b, o, none⟩) ∧ Gr W (X.alloc y) :=
  held_of (h.2.below (B := X.heap.size) ⟨rfl, rfl, rfl, by simp, fun k hk => (Below.heap_alloc _ _ _ hk).trans (Below.heap_alloc _ _ _ hk).symm⟩ hz)
theorem held_set {W X : World} (h : (∀ b o, (⟨min (b + 1) W.heap.size, 0, none⟩ : Addr) = ⟨b + 1, 0, none⟩ → X.cell? ⟨b, o, none⟩ = W.cell? ⟨b, o, none⟩) ∧ Gr W X) {p : Addr} (hp : W.heap.size ≤ p.block) (v : Value) : (∀ b o, (⟨min (b + 1) W.heap.size, 0, none⟩ : Addr) = ⟨b + 1, 0, none⟩ → (X.setCell p v).cell? ⟨b, o, none⟩ = W.cell? ⟨b, o, none⟩) ∧ Gr W (X.setCell p v) := held_of (h.2.setCell hp v)
/-- The cells of a block that has just been made, behind a draw. -/
theorem cellsN_new_drew (W : World) (c : Array Value) (t : TypeId) : cellsN (W.alloc (.cells c t)).drew W.heap.size = c.size := cellsN_alloc_new W c t (0, 0)
/-- An operation of a drawing region is taken (or skipped); where it writes is said. -/
theorem take_at {P : Program} {md : Region.Mode} {ops : Array Oper} {Q : Exit → Act → World → Prop} {S : World → Prop} {i : Nat} {oi : Oper} {d : Option Tmp} {v : Value} {fuel : Nat} {listed : Array Bool} {a : Act} {w : World} (hi : ops[i]? = some oi) (hd : oi.dst = d)
    (hs : Region.noSelect ops = true) (hf : Region.free md ops listed i = true) (hr : (Region.ready md ops listed).contains i = true)
    (hQ : ∀ c a w, Q (.panic c) (a.put d v) w → Q (.panic c) a w) (hy : YieldsIf P ops S oi v a) (hS : S w)
    (h : wpAnyH P md ops Q S fuel (listed.setIfInBounds i true) (a.put d v) w) : wpAnyH P md ops Q S (fuel + 1) listed a w := by
  subst hd
  exact wpAnyH_take hi hs hf hr hQ hy hS h
end Go.Proofs.YtelhmdhhabgihaaGreatDoor
