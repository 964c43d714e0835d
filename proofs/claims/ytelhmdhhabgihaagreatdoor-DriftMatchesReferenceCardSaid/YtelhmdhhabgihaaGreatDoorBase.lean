/-
  Plain definitions that all texts of this seat use: six numbers, their values, small lemmas on them.
-/
import Derived.Test.YtelhmdhhabgihaaGreatDoorRows
import Derived.WalkKit
import Derived.WalkSpells
import Derived.WalkLawsBesides
import Derived.Lib.Hide
namespace Go.Proofs.YtelhmdhhabgihaaGreatDoor
open Go.RowKit

/-- What a call does to the world: what was there before it is as it was. -/
def Gr (w w' : World) : Prop := Below w.heap.size w w'
theorem Gr.refl (w : World) : Gr w w := Below.refl _ _
theorem Gr.alloc {w w' : World} (h : Gr w w') (o : Obj) : Gr w (w'.alloc o) := Below.alloc h h.size o
theorem Gr.drew {w w' : World} (h : Gr w w') : Gr w w'.drew := Below.drew h
theorem Gr.trans {w w' w'' : World} (h : Gr w w') (k : Gr w' w'') : Gr w w'' := Below.trans h (Below.mono k h.size)
theorem Gr.below {w w' w'' : World} (h : Gr w w') {B : Nat} (k : Below B w' w'') (hB : w.heap.size ≤ B) : Gr w w'' := Below.trans h (Below.mono k hB)
theorem Gr.setCell {w w' : World} (h : Gr w w') {p : Addr} (hp : w.heap.size ≤ p.block) (u : Value) : Gr w (w'.setCell p u) := Below.setCell h hp u
/-- 'b < n', said as an equation of two addresses: the walk decides such equations by linear arithmetic. -/
theorem lt_of_addr {b n : Nat} (h : (⟨min (b + 1) n, 0, none⟩ : Addr) = ⟨b + 1, 0, none⟩) : b < n := by
  have := congrArg Addr.block h
  simp only at this
  omega
theorem Gr.cells {w w' : World} (h : Gr w w') : (∀ b o, (⟨min (b + 1) w.heap.size, 0, none⟩ : Addr) = ⟨b + 1, 0, none⟩ → w'.cell? ⟨b, o, none⟩ = w.cell? ⟨b, o, none⟩) ∧ (∀ b o, (⟨min (b + 1) w.heap.size, 0, none⟩ : Addr) = ⟨b + 1, 0, none⟩ → w'.frozen? ⟨b, o, none⟩ = w.frozen? ⟨b, o, none⟩) :=
  ⟨fun b o hb => Below.cell (p := ⟨b, o, none⟩) h (lt_of_addr hb), fun b o hb => Below.frozen (p := ⟨b, o, none⟩) h (lt_of_addr hb)⟩
@[go_sem] theorem cell_alloc_addr (w : World) (x : Obj) (b o : Nat) (h : (⟨min (b + 1) w.heap.size, 0, none⟩ : Addr) = ⟨b + 1, 0, none⟩) : (w.alloc x).cell? ⟨b, o, none⟩ = w.cell? ⟨b, o, none⟩ :=
  World.cell?_of_block (w := w) (Below.heap_alloc _ _ _ (lt_of_addr h))
@[go_sem] theorem frozen_alloc_addr (w : World) (x : Obj) (b o : Nat) (h : (⟨min (b + 1) w.heap.size, 0, none⟩ : Addr) = ⟨b + 1, 0, none⟩) : (w.alloc x).frozen? ⟨b, o, none⟩ = w.frozen? ⟨b, o, none⟩ :=
  World.frozen?_of_block (w := w) (Below.heap_alloc _ _ _ (lt_of_addr h))
theorem Gr.le {w w' : World} (h : Gr w w') : w.heap.size ≤ w'.heap.size := Below.size h
/-- Below block N, and but for block S, the world is as it was. -/
structure But (S N : Nat) (w w' : World) : Prop where
  os : w'.os = w.os
  tape : w'.tape = w.tape
  output : w'.output = w.output
  size : w.heap.size ≤ w'.heap.size
  block : ∀ k, k < N → k ≠ S → w'.heap[k]? = w.heap[k]?
theorem But.refl (S N : Nat) (w : World) : But S N w w := ⟨rfl, rfl, rfl, Nat.le_refl _, fun _ _ _ => rfl⟩
theorem But.drew {S N : Nat} {a w : World} (h : But S N a w) : But S N a w.drew := ⟨h.os, h.tape, h.output, h.size, h.block⟩
theorem But.alloc {S N : Nat} {a w : World} (h : But S N a w) (hN : N ≤ w.heap.size) (o : Obj) : But S N a (w.alloc o) :=
  ⟨h.os, h.tape, h.output, by have := h.size; simp; omega, fun k hk hs => (Below.heap_alloc _ _ _ (by omega)).trans (h.block k hk hs)⟩
theorem But.setCell {S N : Nat} {a w : World} (h : But S N a w) {p : Addr} (hp : p.block = S ∨ N ≤ p.block) (u : Value) : But S N a (w.setCell p u) :=
  ⟨h.os, h.tape, h.output, by have := h.size; simp; omega, fun k hk hs => (Below.heap_setCell _ _ _ _ (by omega)).trans (h.block k hk hs)⟩
theorem But.call {S N : Nat} {a w w' : World} (h : But S N a w) (g : Gr w w') (hN : N ≤ w.heap.size) : But S N a w' :=
  ⟨g.os.trans h.os, g.tape.trans h.tape, g.output.trans h.output, Nat.le_trans h.size g.size, fun k hk hs => (Below.block g k (by omega)).trans (h.block k hk hs)⟩
theorem But.cell {S N : Nat} {w w' : World} (h : But S N w w') {p : Addr} (hp : p.block < N) (hs : p.block ≠ S) : w'.cell? p = w.cell? p := World.cell?_of_block (w := w) (h.block p.block hp hs)
theorem But.frozen {S N : Nat} {w w' : World} (h : But S N w w') {p : Addr} (hp : p.block < N) (hs : p.block ≠ S) : w'.frozen? p = w.frozen? p := World.frozen?_of_block (w := w) (h.block p.block hp hs)
theorem Gr.but {w w' w'' : World} (h : Gr w w') {S N : Nat} (k : But S N w' w'') (hS : w.heap.size ≤ S) (hN : w.heap.size ≤ N) : Gr w w'' :=
  Below.trans h ⟨k.os, k.tape, k.output, k.size, fun i hi => k.block i (by omega) (by omega)⟩

/-- An array of n integers in block S, while all else below N is as it was in W1. -/
structure ArrRel (n : Nat) (u : Nat → Int) (S N : Nat) (W1 wr : World) : Prop where
  but : But S N W1 wr
  size : N ≤ wr.heap.size
  lt : S < N
  cell : ∀ j, j < n → wr.cell? ⟨S, j, none⟩ = some (.int .i64 (u j))
  froz : ∀ j, wr.frozen? ⟨S, j, none⟩ = false
theorem ArrRel.congr {n : Nat} {u u' : Nat → Int} {S N : Nat} {W1 wr : World} (h : ArrRel n u S N W1 wr) (e : ∀ j, j < n → u j = u' j) : ArrRel n u' S N W1 wr :=
  ⟨h.but, h.size, h.lt, fun j hj => by rw [h.cell j hj, e j hj], h.froz⟩
theorem ArrRel.drew {n : Nat} {u : Nat → Int} {S N : Nat} {W1 wr : World} (h : ArrRel n u S N W1 wr) : ArrRel n u S N W1 wr.drew :=
  ⟨h.but.drew, h.size, h.lt, h.cell, h.froz⟩
theorem ArrRel.store {n : Nat} {u : Nat → Int} {S N : Nat} {W1 wr : World} (h : ArrRel n u S N W1 wr) {k : Nat} (hk : k < n) (v : Int) :
    ArrRel n (fun j => if j = k then v else u j) S N W1 (wr.setCell ⟨S, k, none⟩ (.int .i64 v)) := by
  refine ⟨h.but.setCell (Or.inl rfl) _, by have := h.size; simp; omega, h.lt, fun j hj => ?_, fun j => (World.frozen?_setCell _ _ _ _).trans (h.froz j)⟩
  have hc := h.cell k hk
  by_cases e : j = k
  · subst e; simp [go_sem, hc]
  · have := h.cell j hj
    simp [go_sem, e, this]

theorem six_set (W : World) (b : Nat) (x0 x1 x2 x3 x4 x5 : Value) (h : ∀ j, j < 6 → (W.cell? ⟨b, j, none⟩).isSome = true) :
    ∀ j, j < 6 → ((((((W.setCell ⟨b, 0, none⟩ x0).setCell ⟨b, 1, none⟩ x1).setCell ⟨b, 2, none⟩ x2).setCell ⟨b, 3, none⟩ x3).setCell ⟨b, 4, none⟩ x4).setCell ⟨b, 5, none⟩ x5).cell? ⟨b, j, none⟩ = some (match j with | 0 => x0 | 1 => x1 | 2 => x2 | 3 => x3 | 4 => x4 | _ => x5) := by
  have h0 := h 0 (by omega); have h1 := h 1 (by omega); have h2 := h 2 (by omega); have h3 := h 3 (by omega); have h4 := h 4 (by omega); have h5 := h 5 (by omega)
  intro j hj
  obtain rfl | rfl | rfl | rfl | rfl | rfl : j = 0 ∨ j = 1 ∨ j = 2 ∨ j = 3 ∨ j = 4 ∨ j = 5 := by omega
  all_goals simp [go_sem, *]
/-- At the end of a body whose result variable, six cells, has just been stored. -/
theorem bodyPost_six {P : Program} {fn : Func} {R : Ending → World → Prop} {a : Act} {W : World} {b : Nat} {x0 x1 x2 x3 x4 x5 : Value} (h : ∀ j, j < 6 → (W.cell? ⟨b, j, none⟩).isSome = true)
    (k : ∀ W' : World, (∀ w, Gr w W → w.heap.size ≤ b → Gr w W') → W'.cell? ⟨b, 0, none⟩ = some x0 → W'.cell? ⟨b, 1, none⟩ = some x1 → W'.cell? ⟨b, 2, none⟩ = some x2 → W'.cell? ⟨b, 3, none⟩ = some x3 → W'.cell? ⟨b, 4, none⟩ = some x4 → W'.cell? ⟨b, 5, none⟩ = some x5 → bodyPost P fn R .ret a W') :
    bodyPost P fn R .ret a ((((((W.setCell ⟨b, 0, none⟩ x0).setCell ⟨b, 1, none⟩ x1).setCell ⟨b, 2, none⟩ x2).setCell ⟨b, 3, none⟩ x3).setCell ⟨b, 4, none⟩ x4).setCell ⟨b, 5, none⟩ x5) := by
  have hs := six_set W b x0 x1 x2 x3 x4 x5 h
  refine k _ (fun w hw hb => ?_) (hs 0 (by omega)) (hs 1 (by omega)) (hs 2 (by omega)) (hs 3 (by omega)) (hs 4 (by omega)) (hs 5 (by omega))
  exact (((((hw.setCell hb _).setCell hb _).setCell hb _).setCell hb _).setCell hb _).setCell hb _
theorem ret_bool {a b : Bool} (h : a = b) : Ending.returned (.bool a) = .returned (.bool b) := by rw [h]
theorem ret_int {k : IntKind} {a b : Int} (h : a = b) : Ending.returned (.int k a) = .returned (.int k b) := by rw [h]

/-- Six numbers: the exponents of a pitch. -/
structure V6 where
  x0 : Int
  x1 : Int
  x2 : Int
  x3 : Int
  x4 : Int
  x5 : Int

def V6.add (u v : V6) : V6 := ⟨u.x0 + v.x0, u.x1 + v.x1, u.x2 + v.x2, u.x3 + v.x3, u.x4 + v.x4, u.x5 + v.x5⟩
def V6.sub (u v : V6) : V6 := ⟨u.x0 - v.x0, u.x1 - v.x1, u.x2 - v.x2, u.x3 - v.x3, u.x4 - v.x4, u.x5 - v.x5⟩
def V6.neg (u : V6) : V6 := ⟨-u.x0, -u.x1, -u.x2, -u.x3, -u.x4, -u.x5⟩
def V6.get (v : V6) : Nat → Int
  | 0 => v.x0
  | 1 => v.x1
  | 2 => v.x2
  | 3 => v.x3
  | 4 => v.x4
  | 5 => v.x5
  | _ => 0

/-- An array of six numbers, indexed by a counter. -/
theorem run_index6 (a0 a1 a2 a3 a4 a5 : Int) (k : Nat) (hk : k < 6) (w : World) :
    (Instr.index 52 (.agg #[.int .i64 a0, .int .i64 a1, .int .i64 a2, .int .i64 a3, .int .i64 a4, .int .i64 a5]) (.int .i64 (k : Int))).run Tryz.prog w = .ok (.int .i64 (V6.get ⟨a0, a1, a2, a3, a4, a5⟩ k)) w := by
  obtain rfl | rfl | rfl | rfl | rfl | rfl : k = 0 ∨ k = 1 ∨ k = 2 ∨ k = 3 ∨ k = 4 ∨ k = 5 := by omega
  all_goals clear hk; kernel_rfl

/-- An array of six numbers, indexed by a counter. -/
theorem run_index6P (a0 a1 a2 a3 a4 a5 : Int) (k : Nat) (hk : k < 6) (w : World) :
    (Instr.index 54 (.agg #[.int .i64 a0, .int .i64 a1, .int .i64 a2, .int .i64 a3, .int .i64 a4, .int .i64 a5]) (.int .i64 (k : Int))).run Tryz.prog w = .ok (.int .i64 (V6.get ⟨a0, a1, a2, a3, a4, a5⟩ k)) w := by
  obtain rfl | rfl | rfl | rfl | rfl | rfl : k = 0 ∨ k = 1 ∨ k = 2 ∨ k = 3 ∨ k = 4 ∨ k = 5 := by omega
  all_goals clear hk; kernel_rfl

/-- The first n of six numbers are all within the bound. -/
def allIn (v : V6) (b : Int) : Nat → Bool
  | 0 => true
  | n + 1 => allIn v b n && decide (-b ≤ v.get n) && decide (v.get n ≤ b)
end Go.Proofs.YtelhmdhhabgihaaGreatDoor
