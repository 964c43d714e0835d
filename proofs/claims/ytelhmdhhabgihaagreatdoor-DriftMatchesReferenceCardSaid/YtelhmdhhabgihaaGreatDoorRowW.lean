/-
  A row of pitches of the call's own: what append leaves, and what stores into it make.
-/
import Derived.Test.YtelhmdhhabgihaaGreatDoorOwnL
import Derived.Test.YtelhmdhhabgihaaGreatDoorHeld
namespace Go.Proofs.YtelhmdhhabgihaaGreatDoor
open Go.RowKit

/-- The cells of the first n rows of six. -/
def rowCells (f : Nat → Nat → Int) : Nat → List Value
  | 0 => []
  | n + 1 => rowCells f n ++ [.int .i64 (f n 0), .int .i64 (f n 1), .int .i64 (f n 2), .int .i64 (f n 3), .int .i64 (f n 4), .int .i64 (f n 5)]
theorem rowCells_len (f : Nat → Nat → Int) (n : Nat) : (rowCells f n).length = n * 6 := by
  induction n with
  | zero => rfl
  | succ n ih => rw [rowCells, List.length_append, ih]; simp; omega
theorem rowCells_one (f : Nat → Nat → Int) (n : Nat) : ∀ u ∈ rowCells f n, u.oneCell' = true := by
  induction n with
  | zero => intro u hu; simp [rowCells] at hu
  | succ n ih =>
    intro u hu
    rw [rowCells, List.mem_append] at hu
    rcases hu with hu | hu
    · exact ih u hu
    · simp at hu; rcases hu with rfl | rfl | rfl | rfl | rfl | rfl <;> rfl
theorem rowCells_at (f : Nat → Nat → Int) (n : Nat) : ∀ i j, i < n → j < 6 → (rowCells f n)[i * 6 + j]? = some (.int .i64 (f i j)) := by
  induction n with
  | zero => intro i j hi; omega
  | succ n ih =>
    intro i j hi hj
    rw [rowCells]
    by_cases h : i < n
    · rw [List.getElem?_append_left (by rw [rowCells_len]; omega)]
      exact ih i j h hj
    · obtain rfl : i = n := by omega
      rw [List.getElem?_append_right (by rw [rowCells_len]; omega), rowCells_len]
      obtain rfl | rfl | rfl | rfl | rfl | rfl : j = 0 ∨ j = 1 ∨ j = 2 ∨ j = 3 ∨ j = 4 ∨ j = 5 := by omega
      all_goals simp
theorem rows_news {w : World} {b off n : Nat} {f : Nat → Nat → Int} (h : RowsAt w 6 (some ⟨b, off, none⟩) n f) : ∀ j u, (rowCells f n)[j]? = some u → w.cell? ((⟨b, off, none⟩ : Addr).add j) = some u := by
  intro j u hj
  have hlt := (List.getElem?_eq_some_iff.1 hj).1
  rw [rowCells_len] at hlt
  have hn : 0 < n := by omega
  obtain ⟨b', off', e, -, hc⟩ := h hn
  cases e
  have e1 := rowCells_at f n (j / 6) (j % 6) (by omega) (by omega)
  rw [show j / 6 * 6 + j % 6 = j by omega, hj] at e1
  cases e1
  have := hc (j / 6) (by omega) (j % 6) (by omega)
  rw [show off + j / 6 * 6 + j % 6 = off + j by omega] at this
  unfold Addr.add
  split
  · rename_i e0
    have : off + j = off := by omega
    simp_all
  · exact this
theorem gr_of_grown {W W' : World} (h : W.grownBy W' none) : Gr W W' := (Below.refl _ _).grown h (Nat.le_refl _) (fun _ h => by cases h)

theorem held_allocd {W X : World} (h : (∀ b o, (⟨min (b + 1) W.heap.size, 0, none⟩ : Addr) = ⟨b + 1, 0, none⟩ → X.drew.cell? ⟨b, o, none⟩ = W.cell? ⟨b, o, none⟩) ∧ Gr W X.drew) (x : Obj) : (∀ b o, (⟨min (b + 1) W.heap.size, 0, none⟩ : Addr) = ⟨b + 1, 0, none⟩ → (X.alloc x).drew.cell? ⟨b, o, none⟩ = W.cell? ⟨b, o, none⟩) ∧ Gr W (X.alloc x).drew := held_of (h.2.alloc x)

/-- n rows of six, f, lie at the head of block g, which may be written. -/
structure RowW (W : World) (g n : Nat) (f : Nat → Nat → Int) : Prop where
  lt : g < W.heap.size
  froz : ∀ o, W.frozen? ⟨g, o, none⟩ = false
  cell : ∀ i, i < n → ∀ j, j < 6 → W.cell? ⟨g, i * 6 + j, none⟩ = some (.int .i64 (f i j))
theorem RowW.keep {W W' : World} {g n : Nat} {f : Nat → Nat → Int} (h : RowW W g n f) (k : Gr W W') : RowW W' g n f :=
  ⟨Nat.lt_of_lt_of_le h.lt k.le, fun o => (Below.frozen (p := ⟨g, o, none⟩) k h.lt).trans (h.froz o), fun i hi j hj => (Below.cell (p := ⟨g, i * 6 + j, none⟩) k h.lt).trans (h.cell i hi j hj)⟩
theorem RowW.drew {W : World} {g n : Nat} {f : Nat → Nat → Int} (h : RowW W g n f) : RowW W.drew g n f := h.keep (Gr.refl W).drew
theorem RowW.other {W : World} {g n : Nat} {f : Nat → Nat → Int} (h : RowW W g n f) {p : Addr} (hp : p.block ≠ g) (v : Value) : RowW (W.setCell p v) g n f :=
  ⟨by simpa using h.lt, fun o => by rw [World.frozen?_setCell]; exact h.froz o, fun i hi j hj => by
    rw [World.cell?_setCell_other]
    · exact h.cell i hi j hj
    · rintro rfl; exact hp rfl⟩
theorem RowW.rows {W : World} {g n : Nat} {f : Nat → Nat → Int} (h : RowW W g n f) : RowsAt W 6 (some ⟨g, 0, none⟩) n f :=
  fun _ => ⟨g, 0, rfl, h.lt, fun i hi j hj => by rw [Nat.zero_add]; exact h.cell i hi j hj⟩
theorem rowW_of_own {W : World} {base e n cap g : Nat} {f : Nat → Nat → Int} (h : W.ownsRow base e 6 (.slice (some ⟨g, 0, none⟩) n cap) n (rowCells f n)) : RowW W g n f := by
  refine ⟨(h.lt g rfl).2, fun o => h.frozenAt o, fun i hi j hj => ?_⟩
  rw [h.cellAt (i * 6 + j) (by omega)]
  exact rowCells_at f n i j hi hj
/-- Row r is stored. -/
def setRow (f : Nat → Nat → Int) (r : Nat) (y : Nat → Int) : Nat → Nat → Int := fun i j => if i = r then y j else f i j
theorem RowW.store {W : World} {g n : Nat} {f : Nat → Nat → Int} (h : RowW W g n f) {r : Nat} (hr : r < n) (y : Nat → Int) :
    RowW ((((((W.setCell ⟨g, r * 6, none⟩ (.int .i64 (y 0))).setCell ⟨g, r * 6 + 1, none⟩ (.int .i64 (y 1))).setCell ⟨g, r * 6 + 2, none⟩ (.int .i64 (y 2))).setCell ⟨g, r * 6 + 3, none⟩ (.int .i64 (y 3))).setCell ⟨g, r * 6 + 4, none⟩ (.int .i64 (y 4))).setCell ⟨g, r * 6 + 5, none⟩ (.int .i64 (y 5))) g n (setRow f r y) := by
  refine ⟨by simpa using h.lt, fun o => by simp only [World.frozen?_setCell]; exact h.froz o, fun i hi j hj => ?_⟩
  have c0 := h.cell r hr 0 (by omega); have c1 := h.cell r hr 1 (by omega); have c2 := h.cell r hr 2 (by omega); have c3 := h.cell r hr 3 (by omega); have c4 := h.cell r hr 4 (by omega); have c5 := h.cell r hr 5 (by omega)
  rw [Nat.add_zero] at c0
  by_cases e : i = r
  · subst e
    obtain rfl | rfl | rfl | rfl | rfl | rfl : j = 0 ∨ j = 1 ∨ j = 2 ∨ j = 3 ∨ j = 4 ∨ j = 5 := by omega
    all_goals simp [go_sem, setRow, *]
  · have hc := h.cell i hi j hj
    rw [World.cell?_setCell_other, World.cell?_setCell_other, World.cell?_setCell_other, World.cell?_setCell_other, World.cell?_setCell_other, World.cell?_setCell_other]
    · rw [hc]; simp [setRow, e]
    all_goals
      intro e'
      have := congrArg Addr.off e'
      simp only at this
      omega
/-- Nine stores into one block. -/
def set9 (W : World) (B : Nat) (x0 x1 x2 x3 x4 x5 x6 x7 x8 : Value) : World :=
  ((((((((W.setCell ⟨B, 0, none⟩ x0).setCell ⟨B, 1, none⟩ x1).setCell ⟨B, 2, none⟩ x2).setCell ⟨B, 3, none⟩ x3).setCell ⟨B, 4, none⟩ x4).setCell ⟨B, 5, none⟩ x5).setCell ⟨B, 6, none⟩ x6).setCell ⟨B, 7, none⟩ x7).setCell ⟨B, 8, none⟩ x8
theorem set9_cells (W : World) (B : Nat) (x0 x1 x2 x3 x4 x5 x6 x7 x8 : Value) (h : cellsN W B = 9) :
    (set9 W B x0 x1 x2 x3 x4 x5 x6 x7 x8).cell? ⟨B, 0, none⟩ = some x0 ∧ (set9 W B x0 x1 x2 x3 x4 x5 x6 x7 x8).cell? ⟨B, 1, none⟩ = some x1 ∧ (set9 W B x0 x1 x2 x3 x4 x5 x6 x7 x8).cell? ⟨B, 2, none⟩ = some x2 ∧ (set9 W B x0 x1 x2 x3 x4 x5 x6 x7 x8).cell? ⟨B, 3, none⟩ = some x3 ∧
    (set9 W B x0 x1 x2 x3 x4 x5 x6 x7 x8).cell? ⟨B, 4, none⟩ = some x4 ∧ (set9 W B x0 x1 x2 x3 x4 x5 x6 x7 x8).cell? ⟨B, 5, none⟩ = some x5 ∧ (set9 W B x0 x1 x2 x3 x4 x5 x6 x7 x8).cell? ⟨B, 6, none⟩ = some x6 ∧ (set9 W B x0 x1 x2 x3 x4 x5 x6 x7 x8).cell? ⟨B, 7, none⟩ = some x7 ∧ (set9 W B x0 x1 x2 x3 x4 x5 x6 x7 x8).cell? ⟨B, 8, none⟩ = some x8 := by
  unfold set9
  refine ⟨?_, ?_, ?_, ?_, ?_, ?_, ?_, ?_, ?_⟩ <;> simp [go_sem, h]
theorem set9_row {W : World} {g n : Nat} {f : Nat → Nat → Int} (h : RowW W g n f) {B : Nat} (hB : B ≠ g) (x0 x1 x2 x3 x4 x5 x6 x7 x8 : Value) : RowW (set9 W B x0 x1 x2 x3 x4 x5 x6 x7 x8) g n f :=
  ((((((((h.other hB _).other hB _).other hB _).other hB _).other hB _).other hB _).other hB _).other hB _).other hB _
theorem set9_size (W : World) (B : Nat) (x0 x1 x2 x3 x4 x5 x6 x7 x8 : Value) : (set9 W B x0 x1 x2 x3 x4 x5 x6 x7 x8).heap.size = W.heap.size := by simp [set9]
/-- Row r of block g is stored. -/
def setR (W : World) (g r : Nat) (y0 y1 y2 y3 y4 y5 : Int) : World :=
  (((((W.setCell ⟨g, r * 6, none⟩ (.int .i64 y0)).setCell ⟨g, r * 6 + 1, none⟩ (.int .i64 y1)).setCell ⟨g, r * 6 + 2, none⟩ (.int .i64 y2)).setCell ⟨g, r * 6 + 3, none⟩ (.int .i64 y3)).setCell ⟨g, r * 6 + 4, none⟩ (.int .i64 y4)).setCell ⟨g, r * 6 + 5, none⟩ (.int .i64 y5)
theorem setR_row {W : World} {g n : Nat} {f : Nat → Nat → Int} (h : RowW W g n f) {r : Nat} (hr : r < n) (y : Nat → Int) : RowW (setR W g r (y 0) (y 1) (y 2) (y 3) (y 4) (y 5)) g n (setRow f r y) := h.store hr y
theorem setR_other (W : World) (g r : Nat) (y0 y1 y2 y3 y4 y5 : Int) {p : Addr} (hp : p.block ≠ g) : (setR W g r y0 y1 y2 y3 y4 y5).cell? p = W.cell? p := by
  unfold setR
  rw [World.cell?_setCell_other, World.cell?_setCell_other, World.cell?_setCell_other, World.cell?_setCell_other, World.cell?_setCell_other, World.cell?_setCell_other]
  all_goals (rintro rfl; exact hp rfl)
theorem setR_gr {W0 W : World} (h : Gr W0 W) {g : Nat} (hg : W0.heap.size ≤ g) (r : Nat) (y0 y1 y2 y3 y4 y5 : Int) : Gr W0 (setR W g r y0 y1 y2 y3 y4 y5) :=
  (((((h.setCell hg _).setCell hg _).setCell hg _).setCell hg _).setCell hg _).setCell hg _
theorem setR_size (W : World) (g r : Nat) (y0 y1 y2 y3 y4 y5 : Int) : (setR W g r y0 y1 y2 y3 y4 y5).heap.size = W.heap.size := by simp [setR]
theorem setRd_other (W : World) (g r : Nat) (y0 y1 y2 y3 y4 y5 : Int) {p : Addr} (hp : p.block ≠ g) : (setR W g r y0 y1 y2 y3 y4 y5).drew.cell? p = W.cell? p := by
  rw [World.cell?_drew]; exact setR_other W g r y0 y1 y2 y3 y4 y5 hp
theorem setRd_size (W : World) (g r : Nat) (y0 y1 y2 y3 y4 y5 : Int) : (setR W g r y0 y1 y2 y3 y4 y5).drew.heap.size = W.heap.size := by simp [setR]
theorem RowW.congr {W : World} {g n : Nat} {f f' : Nat → Nat → Int} (h : RowW W g n f) (e : ∀ i, i < n → ∀ j, j < 6 → f i j = f' i j) : RowW W g n f' := ⟨h.lt, h.froz, fun i hi j hj => by rw [h.cell i hi j hj, e i hi j hj]⟩
theorem RowW.six {W : World} {g n : Nat} {f : Nat → Nat → Int} (h : RowW W g n f) {r : Nat} (hr : r < n) : W.cell? ⟨g, r * 6, none⟩ = some (.int .i64 (f r 0)) ∧ W.cell? ⟨g, r * 6 + 1, none⟩ = some (.int .i64 (f r 1)) ∧ W.cell? ⟨g, r * 6 + 2, none⟩ = some (.int .i64 (f r 2)) ∧ W.cell? ⟨g, r * 6 + 3, none⟩ = some (.int .i64 (f r 3)) ∧ W.cell? ⟨g, r * 6 + 4, none⟩ = some (.int .i64 (f r 4)) ∧ W.cell? ⟨g, r * 6 + 5, none⟩ = some (.int .i64 (f r 5)) :=
  ⟨h.cell r hr 0 (by omega), h.cell r hr 1 (by omega), h.cell r hr 2 (by omega), h.cell r hr 3 (by omega), h.cell r hr 4 (by omega), h.cell r hr 5 (by omega)⟩
end Go.Proofs.YtelhmdhhabgihaaGreatDoor
