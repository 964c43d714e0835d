/-
  comma.Counts: what lies in memory while it reckons.
-/
import Derived.Test.YtelhmdhhabgihaaDoorCp
namespace Go.Proofs.YtelhmdhhabgihaaDoor
open Go.RowKit

theorem made6 (N : Nat) : ∀ i, i < N → (madeCells (Value.agg #[.int .i64 0, .int .i64 0, .int .i64 0, .int .i64 0, .int .i64 0, .int .i64 0]).cells N).toList[i]? = some (.int .i64 0) := by
  intro i hi
  have e : (Value.agg #[.int .i64 0, .int .i64 0, .int .i64 0, .int .i64 0, .int .i64 0, .int .i64 0]).cells = #[.int .i64 0, .int .i64 0, .int .i64 0, .int .i64 0, .int .i64 0, .int .i64 0] := by kernel_rfl
  rw [e]
  unfold madeCells
  have h6 : i % 6 < 6 := Nat.mod_lt _ (by omega)
  have hk : ∀ k, k < 6 → (#[Value.int .i64 0, .int .i64 0, .int .i64 0, .int .i64 0, .int .i64 0, .int .i64 0] : Array Value)[k]! = .int .i64 0 := by
    intro k hk
    obtain rfl | rfl | rfl | rfl | rfl | rfl : k = 0 ∨ k = 1 ∨ k = 2 ∨ k = 3 ∨ k = 4 ∨ k = 5 := by omega
    all_goals rfl
  simp only [Array.getElem?_toList, Array.getElem?_map, Array.getElem?_range, hi, if_pos, Option.map_some]
  rw [show (#[Value.int .i64 0, .int .i64 0, .int .i64 0, .int .i64 0, .int .i64 0, .int .i64 0] : Array Value).size = 6 from rfl, hk _ h6]
/-- The rows, and the box of the interval. -/
structure CtR (w : World) (TB RB n : Nat) (g : Nat → Nat → Int) (v : Nat → Int) (W : World) : Prop where
  gr : Gr w W
  base : w.heap.size ≤ TB
  ne : TB < RB
  rows : RowW W RB n g
  six : ∀ j, j < 6 → W.cell? ⟨TB, j, none⟩ = some (.int .i64 (v j))
theorem CtR.keep {w W W' : World} {TB RB n : Nat} {g : Nat → Nat → Int} {v : Nat → Int} (h : CtR w TB RB n g v W) (k : Gr W W') : CtR w TB RB n g v W' :=
  ⟨h.gr.trans k, h.base, h.ne, h.rows.keep k, fun j hj => (Below.cell (p := ⟨TB, j, none⟩) k (by have := h.ne; have := h.rows.lt; show TB < W.heap.size; omega)).trans (h.six j hj)⟩
theorem CtR.store {w W : World} {TB RB n : Nat} {g : Nat → Nat → Int} {v : Nat → Int} (h : CtR w TB RB n g v W) {r : Nat} (hr : r < n) (y : Nat → Int) : CtR w TB RB n (setRow g r y) v (setR W RB r (y 0) (y 1) (y 2) (y 3) (y 4) (y 5)) :=
  ⟨setR_gr h.gr (by have := h.base; have := h.ne; omega) _ _ _ _ _ _ _, h.base, h.ne, setR_row h.rows hr y, fun j hj => (setR_other _ _ _ _ _ _ _ _ _ (p := ⟨TB, j, none⟩) (by have := h.ne; show TB ≠ RB; omega)).trans (h.six j hj)⟩
theorem CtR.congr {w W : World} {TB RB n : Nat} {g g' : Nat → Nat → Int} {v : Nat → Int} (h : CtR w TB RB n g v W) (e : ∀ i, i < n → ∀ j, j < 6 → g i j = g' i j) : CtR w TB RB n g' v W := ⟨h.gr, h.base, h.ne, h.rows.congr e, h.six⟩
/-- The rows, the answer and the rest. -/
structure CtF (w : World) (TB RB OB VB n : Nat) (g : Nat → Nat → Int) (v u z : Nat → Int) (W : World) : Prop where
  r : CtR w TB RB n g v W
  ob : RB < OB
  vb : OB < VB
  vl : VB < W.heap.size
  out : ∀ i, i < n → W.cell? ⟨OB, i, none⟩ = some (.int .i64 (u i))
  off : ∀ o, W.frozen? ⟨OB, o, none⟩ = false
  rest : ∀ j, j < 6 → W.cell? ⟨VB, j, none⟩ = some (.int .i64 (z j))
  rf : ∀ o, W.frozen? ⟨VB, o, none⟩ = false
theorem CtF.keep {w W W' : World} {TB RB OB VB n : Nat} {g : Nat → Nat → Int} {v u z : Nat → Int} (h : CtF w TB RB OB VB n g v u z W) (k : Gr W W') : CtF w TB RB OB VB n g v u z W' := by
  have l := h.vl; have l2 := h.vb
  exact ⟨h.r.keep k, h.ob, h.vb, Nat.lt_of_lt_of_le l k.le, fun i hi => (Below.cell (p := ⟨OB, i, none⟩) k (by show OB < W.heap.size; omega)).trans (h.out i hi), fun o => (Below.frozen (p := ⟨OB, o, none⟩) k (by show OB < W.heap.size; omega)).trans (h.off o),
    fun j hj => (Below.cell (p := ⟨VB, j, none⟩) k l).trans (h.rest j hj), fun o => (Below.frozen (p := ⟨VB, o, none⟩) k l).trans (h.rf o)⟩
theorem setR_frozen (W : World) (g r : Nat) (y0 y1 y2 y3 y4 y5 : Int) (p : Addr) : (setR W g r y0 y1 y2 y3 y4 y5).frozen? p = W.frozen? p := by
  unfold setR
  simp only [World.frozen?_setCell]
theorem CtF.store {w W : World} {TB RB OB VB n : Nat} {g : Nat → Nat → Int} {v u z : Nat → Int} (h : CtF w TB RB OB VB n g v u z W) {r : Nat} (hr : r < n) (y : Nat → Int) : CtF w TB RB OB VB n (setRow g r y) v u z (setR W RB r (y 0) (y 1) (y 2) (y 3) (y 4) (y 5)) := by
  have l := h.vl; have l2 := h.vb; have l3 := h.ob
  exact ⟨h.r.store hr y, l3, l2, by rw [setR_size]; exact l, fun i hi => (setR_other _ _ _ _ _ _ _ _ _ (p := ⟨OB, i, none⟩) (by show OB ≠ RB; omega)).trans (h.out i hi), fun o => (setR_frozen _ _ _ _ _ _ _ _ _ _).trans (h.off o),
    fun j hj => (setR_other _ _ _ _ _ _ _ _ _ (p := ⟨VB, j, none⟩) (by show VB ≠ RB; omega)).trans (h.rest j hj), fun o => (setR_frozen _ _ _ _ _ _ _ _ _ _).trans (h.rf o)⟩
theorem CtF.put {w W : World} {TB RB OB VB n : Nat} {g : Nat → Nat → Int} {v u z : Nat → Int} (h : CtF w TB RB OB VB n g v u z W) {i : Nat} (hi : i < n) (x : Int) : CtF w TB RB OB VB n g v (fun j => if j = i then x else u j) z (W.setCell ⟨OB, i, none⟩ (.int .i64 x)) := by
  have l := h.vl; have l2 := h.vb; have l3 := h.ob; have l4 := h.r.base; have l5 := h.r.ne
  refine ⟨⟨h.r.gr.setCell (show w.heap.size ≤ OB by omega) _, l4, l5, h.r.rows.other (p := ⟨OB, i, none⟩) (by show OB ≠ RB; omega) _, fun j hj => ?_⟩, l3, l2, by simpa using l, fun j hj => ?_, fun o => by rw [World.frozen?_setCell]; exact h.off o, fun j hj => ?_, fun o => by rw [World.frozen?_setCell]; exact h.rf o⟩
  · rw [World.cell?_setCell_other]
    · exact h.r.six j hj
    · intro e; injection e with e1 e2; omega
  · by_cases e : j = i
    · subst e
      rw [World.cell?_setCell_same' _ _ _ (by rw [h.out j hj]; rfl)]
      simp
    · rw [World.cell?_setCell_other, h.out j hj, if_neg e]
      intro e2; injection e2 with e3 e4; exact e e4.symm
  · rw [World.cell?_setCell_other]
    · exact h.rest j hj
    · intro e; injection e with e1 e2; omega
theorem CtF.arr {w W : World} {TB RB OB VB n : Nat} {g : Nat → Nat → Int} {v u z : Nat → Int} (h : CtF w TB RB OB VB n g v u z W) : ArrRel 6 z VB W.heap.size W W := ⟨But.refl _ _ _, Nat.le_refl _, h.vl, h.rest, h.rf⟩
theorem CtF.added {w W W' : World} {TB RB OB VB n : Nat} {g : Nat → Nat → Int} {v u z z' : Nat → Int} (h : CtF w TB RB OB VB n g v u z W) (k : ArrRel 6 z' VB W.heap.size W W') : CtF w TB RB OB VB n g v u z' W' := by
  have l := h.vl; have l2 := h.vb; have l3 := h.ob; have l4 := h.r.base; have l5 := h.r.ne; have l6 := h.r.gr.le
  have sz := k.size
  refine ⟨⟨h.r.gr.but k.but (by omega) l6, l4, l5, ⟨by omega, fun o => (k.but.frozen (p := ⟨RB, o, none⟩) (by show RB < W.heap.size; omega) (by show RB ≠ VB; omega)).trans (h.r.rows.froz o), fun i hi j hj => (k.but.cell (p := ⟨RB, i * 6 + j, none⟩) (by show RB < W.heap.size; omega) (by show RB ≠ VB; omega)).trans (h.r.rows.cell i hi j hj)⟩,
    fun j hj => (k.but.cell (p := ⟨TB, j, none⟩) (by show TB < W.heap.size; omega) (by show TB ≠ VB; omega)).trans (h.r.six j hj)⟩, l3, l2, by omega, fun i hi => (k.but.cell (p := ⟨OB, i, none⟩) (by show OB < W.heap.size; omega) (by show OB ≠ VB; omega)).trans (h.out i hi),
    fun o => (k.but.frozen (p := ⟨OB, o, none⟩) (by show OB < W.heap.size; omega) (by show OB ≠ VB; omega)).trans (h.off o), k.cell, k.froz⟩
theorem CtF.congr {w W : World} {TB RB OB VB n : Nat} {g g' : Nat → Nat → Int} {v u u' z z' : Nat → Int} (h : CtF w TB RB OB VB n g v u z W) (e1 : ∀ i, i < n → ∀ j, j < 6 → g i j = g' i j) (e2 : ∀ i, i < n → u i = u' i) (e3 : ∀ j, j < 6 → z j = z' j) : CtF w TB RB OB VB n g' v u' z' W :=
  ⟨h.r.congr e1, h.ob, h.vb, h.vl, fun i hi => by rw [← e2 i hi]; exact h.out i hi, h.off, fun j hj => by rw [← e3 j hj]; exact h.rest j hj, h.rf⟩
end Go.Proofs.YtelhmdhhabgihaaDoor
