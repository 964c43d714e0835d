/-
  How many cells a block has: a measure that stores do not change. By it the walk finds what a store into an old block left, behind any number of stores and calls.
-/
import Derived.Test.YtelhmdhhabgihaaGreatDoorBase
namespace Go.Proofs.YtelhmdhhabgihaaGreatDoor
open Go.RowKit

def cellsN (w : World) (b : Nat) : Nat := match w.heap[b]? with
  | some (.cells c _ _) => c.size
  | _ => 0
theorem cellsN_of_block {w w' : World} {b : Nat} (h : w'.heap[b]? = w.heap[b]?) : cellsN w' b = cellsN w b := by unfold cellsN; rw [h]
@[go_sem] theorem cellsN_setCell (w : World) (a : Addr) (u : Value) (b : Nat) : cellsN (w.setCell a u) b = cellsN w b := by
  unfold cellsN World.setCell
  simp only [Array.getElem?_modify]
  by_cases h : a.block = b
  · subst h
    rw [if_pos rfl]
    cases e : w.heap[a.block]? with
    | none => rfl
    | some o =>
      cases o <;> simp
      split <;> simp
  · rw [if_neg h]
@[go_sem] theorem cellsN_drew (w : World) (b : Nat) : cellsN w.drew b = cellsN w b := rfl
@[go_sem] theorem cellsN_alloc_addr (w : World) (x : Obj) (b : Nat) (h : (⟨min (b + 1) w.heap.size, 0, none⟩ : Addr) = ⟨b + 1, 0, none⟩) : cellsN (w.alloc x) b = cellsN w b :=
  cellsN_of_block (Below.heap_alloc _ _ _ (lt_of_addr h))
@[go_sem] theorem cellsN_alloc_new (w : World) (c : Array Value) (t : TypeId) (fr : Nat × Nat) : cellsN (w.alloc (.cells c t fr)) w.heap.size = c.size := by
  unfold cellsN World.alloc
  simp
theorem Gr.cellsN {w w' : World} (h : Gr w w') : ∀ b, (⟨min (b + 1) w.heap.size, 0, none⟩ : Addr) = ⟨b + 1, 0, none⟩ → cellsN w' b = YtelhmdhhabgihaaGreatDoor.cellsN w b :=
  fun b hb => cellsN_of_block (Below.block h b (lt_of_addr hb))
@[go_sem high] theorem cell_setCell_n (w : World) (b o : Nat) (v : Value) (h : o < cellsN w b) : (w.setCell ⟨b, o, none⟩ v).cell? ⟨b, o, none⟩ = some v := by
  refine World.cell?_setCell_same' _ _ _ ?_
  unfold cellsN at h
  unfold World.cell?
  cases e : w.heap[b]? with
  | none => rw [e] at h; simp at h
  | some x =>
    rw [e] at h
    cases x <;> simp at h ⊢
    exact h
end Go.Proofs.YtelhmdhhabgihaaGreatDoor
