/-
  The law FretsFewer.
-/
import Derived.Test.YtohalcookjbaaaaDoorLChords
import Derived.Test.YtohalcookjbaaaaDoorOwnL
import Derived.Test.YtohalcookjbaaaaDoorHeld
import Derived.Maps.AppendAt
import Derived.Deep.AppendLies
import Derived.Laws.OwnMore
import Derived.RegionTactic
import Derived.IntWalk
namespace Go.Proofs.YtohalcookjbaaaaDoor
open Go.RowKit

/-- The cells of the first n rows of six. -/
def rowCells (f : Nat → Nat → Int) : Nat → List Value
  | 0 => []
  | n + 1 => rowCells f n ++ [.int .i64 (f n 0), .int .i64 (f n 1), .int .i64 (f n 2), .int .i64 (f n 3), .int .i64 (f n 4), .int .i64 (f n 5)]
theorem rowCells_len (f : Nat → Nat → Int) (n : Nat) : (rowCells f n).length = n * 6 := by
  induction n with
  | zero => rfl
  | succ n ih => rw [rowCells, List.length_append, ih]; simp; omega
theorem rowCells_one (f : Nat → Nat → Int) (n : Nat) : ∀ u ∈ rowCells f n, u.oneCell' = true := by
  induction n with
  | zero => intro u hu; simp [rowCells] at hu
  | succ n ih =>
    intro u hu
    rw [rowCells, List.mem_append] at hu
    rcases hu with hu | hu
    · exact ih u hu
    · simp at hu; rcases hu with rfl | rfl | rfl | rfl | rfl | rfl <;> rfl
theorem rowCells_at (f : Nat → Nat → Int) (n : Nat) : ∀ i j, i < n → j < 6 → (rowCells f n)[i * 6 + j]? = some (.int .i64 (f i j)) := by
  induction n with
  | zero => intro i j hi; omega
  | succ n ih =>
    intro i j hi hj
    rw [rowCells]
    by_cases h : i < n
    · rw [List.getElem?_append_left (by rw [rowCells_len]; omega)]
      exact ih i j h hj
    · obtain rfl : i = n := by omega
      rw [List.getElem?_append_right (by rw [rowCells_len]; omega), rowCells_len]
      obtain rfl | rfl | rfl | rfl | rfl | rfl : j = 0 ∨ j = 1 ∨ j = 2 ∨ j = 3 ∨ j = 4 ∨ j = 5 := by omega
      all_goals simp
theorem rows_news {w : World} {b off n : Nat} {f : Nat → Nat → Int} (h : RowsAt w 6 (some ⟨b, off, none⟩) n f) : ∀ j u, (rowCells f n)[j]? = some u → w.cell? ((⟨b, off, none⟩ : Addr).add j) = some u := by
  intro j u hj
  have hlt := (List.getElem?_eq_some_iff.1 hj).1
  rw [rowCells_len] at hlt
  have hn : 0 < n := by omega
  obtain ⟨b', off', e, -, hc⟩ := h hn
  cases e
  have e1 := rowCells_at f n (j / 6) (j % 6) (by omega) (by omega)
  rw [show j / 6 * 6 + j % 6 = j by omega, hj] at e1
  cases e1
  have := hc (j / 6) (by omega) (j % 6) (by omega)
  rw [show off + j / 6 * 6 + j % 6 = off + j by omega] at this
  unfold Addr.add
  split
  · rename_i e0
    have : off + j = off := by omega
    simp_all
  · exact this
theorem gr_of_grown {W W' : World} (h : W.grownBy W' none) : Gr W W' := (Below.refl _ _).grown h (Nat.le_refl _) (fun _ h => by cases h)

theorem held_allocd {W X : World} (h : (∀ b o, (⟨min (b + 1) W.heap.size, 0, none⟩ : Addr) = ⟨b + 1, 0, none⟩ → X.drew.cell? ⟨b, o, none⟩ = W.cell? ⟨b, o, none⟩) ∧ Gr W X.drew) (x : Obj) : (∀ b o, (⟨min (b + 1) W.heap.size, 0, none⟩ : Addr) = ⟨b + 1, 0, none⟩ → (X.alloc x).drew.cell? ⟨b, o, none⟩ = W.cell? ⟨b, o, none⟩) ∧ Gr W (X.alloc x).drew := held_of (h.2.alloc x)

/-- n rows of six, f, lie at the head of block g, which may be written. -/
structure RowW (W : World) (g n : Nat) (f : Nat → Nat → Int) : Prop where
  lt : g < W.heap.size
  froz : ∀ o, W.frozen? ⟨g, o, none⟩ = false
  cell : ∀ i, i < n → ∀ j, j < 6 → W.cell? ⟨g, i * 6 + j, none⟩ = some (.int .i64 (f i j))
theorem RowW.keep {W W' : World} {g n : Nat} {f : Nat → Nat → Int} (h : RowW W g n f) (k : Gr W W') : RowW W' g n f :=
  ⟨Nat.lt_of_lt_of_le h.lt k.le, fun o => (Below.frozen (p := ⟨g, o, none⟩) k h.lt).trans (h.froz o), fun i hi j hj => (Below.cell (p := ⟨g, i * 6 + j, none⟩) k h.lt).trans (h.cell i hi j hj)⟩
theorem RowW.drew {W : World} {g n : Nat} {f : Nat → Nat → Int} (h : RowW W g n f) : RowW W.drew g n f := h.keep (Gr.refl W).drew
theorem RowW.other {W : World} {g n : Nat} {f : Nat → Nat → Int} (h : RowW W g n f) {p : Addr} (hp : p.block ≠ g) (v : Value) : RowW (W.setCell p v) g n f :=
  ⟨by simpa using h.lt, fun o => by rw [World.frozen?_setCell]; exact h.froz o, fun i hi j hj => by
    rw [World.cell?_setCell_other]
    · exact h.cell i hi j hj
    · rintro rfl; exact hp rfl⟩
theorem RowW.rows {W : World} {g n : Nat} {f : Nat → Nat → Int} (h : RowW W g n f) : RowsAt W 6 (some ⟨g, 0, none⟩) n f :=
  fun _ => ⟨g, 0, rfl, h.lt, fun i hi j hj => by rw [Nat.zero_add]; exact h.cell i hi j hj⟩
theorem rowW_of_own {W : World} {base e n cap g : Nat} {f : Nat → Nat → Int} (h : W.ownsRow base e 6 (.slice (some ⟨g, 0, none⟩) n cap) n (rowCells f n)) : RowW W g n f := by
  refine ⟨(h.lt g rfl).2, fun o => h.frozenAt o, fun i hi j hj => ?_⟩
  rw [h.cellAt (i * 6 + j) (by omega)]
  exact rowCells_at f n i j hi hj
/-- Row r is stored. -/
def setRow (f : Nat → Nat → Int) (r : Nat) (y : Nat → Int) : Nat → Nat → Int := fun i j => if i = r then y j else f i j
theorem RowW.store {W : World} {g n : Nat} {f : Nat → Nat → Int} (h : RowW W g n f) {r : Nat} (hr : r < n) (y : Nat → Int) :
    RowW ((((((W.setCell ⟨g, r * 6, none⟩ (.int .i64 (y 0))).setCell ⟨g, r * 6 + 1, none⟩ (.int .i64 (y 1))).setCell ⟨g, r * 6 + 2, none⟩ (.int .i64 (y 2))).setCell ⟨g, r * 6 + 3, none⟩ (.int .i64 (y 3))).setCell ⟨g, r * 6 + 4, none⟩ (.int .i64 (y 4))).setCell ⟨g, r * 6 + 5, none⟩ (.int .i64 (y 5))) g n (setRow f r y) := by
  refine ⟨by simpa using h.lt, fun o => by simp only [World.frozen?_setCell]; exact h.froz o, fun i hi j hj => ?_⟩
  have c0 := h.cell r hr 0 (by omega); have c1 := h.cell r hr 1 (by omega); have c2 := h.cell r hr 2 (by omega); have c3 := h.cell r hr 3 (by omega); have c4 := h.cell r hr 4 (by omega); have c5 := h.cell r hr 5 (by omega)
  rw [Nat.add_zero] at c0
  by_cases e : i = r
  · subst e
    obtain rfl | rfl | rfl | rfl | rfl | rfl : j = 0 ∨ j = 1 ∨ j = 2 ∨ j = 3 ∨ j = 4 ∨ j = 5 := by omega
    all_goals simp [go_sem, setRow, *]
  · have hc := h.cell i hi j hj
    rw [World.cell?_setCell_other, World.cell?_setCell_other, World.cell?_setCell_other, World.cell?_setCell_other, World.cell?_setCell_other, World.cell?_setCell_other]
    · rw [hc]; simp [setRow, e]
    all_goals
      intro e'
      have := congrArg Addr.off e'
      simp only at this
      omega
/-- Nine stores into one block. -/
def set9 (W : World) (B : Nat) (x0 x1 x2 x3 x4 x5 x6 x7 x8 : Value) : World :=
  ((((((((W.setCell ⟨B, 0, none⟩ x0).setCell ⟨B, 1, none⟩ x1).setCell ⟨B, 2, none⟩ x2).setCell ⟨B, 3, none⟩ x3).setCell ⟨B, 4, none⟩ x4).setCell ⟨B, 5, none⟩ x5).setCell ⟨B, 6, none⟩ x6).setCell ⟨B, 7, none⟩ x7).setCell ⟨B, 8, none⟩ x8
theorem set9_cells (W : World) (B : Nat) (x0 x1 x2 x3 x4 x5 x6 x7 x8 : Value) (h : cellsN W B = 9) :
    (set9 W B x0 x1 x2 x3 x4 x5 x6 x7 x8).cell? ⟨B, 0, none⟩ = some x0 ∧ (set9 W B x0 x1 x2 x3 x4 x5 x6 x7 x8).cell? ⟨B, 1, none⟩ = some x1 ∧ (set9 W B x0 x1 x2 x3 x4 x5 x6 x7 x8).cell? ⟨B, 2, none⟩ = some x2 ∧ (set9 W B x0 x1 x2 x3 x4 x5 x6 x7 x8).cell? ⟨B, 3, none⟩ = some x3 ∧
    (set9 W B x0 x1 x2 x3 x4 x5 x6 x7 x8).cell? ⟨B, 4, none⟩ = some x4 ∧ (set9 W B x0 x1 x2 x3 x4 x5 x6 x7 x8).cell? ⟨B, 5, none⟩ = some x5 ∧ (set9 W B x0 x1 x2 x3 x4 x5 x6 x7 x8).cell? ⟨B, 6, none⟩ = some x6 ∧ (set9 W B x0 x1 x2 x3 x4 x5 x6 x7 x8).cell? ⟨B, 7, none⟩ = some x7 ∧ (set9 W B x0 x1 x2 x3 x4 x5 x6 x7 x8).cell? ⟨B, 8, none⟩ = some x8 := by
  unfold set9
  refine ⟨?_, ?_, ?_, ?_, ?_, ?_, ?_, ?_, ?_⟩ <;> simp [go_sem, h]
theorem set9_row {W : World} {g n : Nat} {f : Nat → Nat → Int} (h : RowW W g n f) {B : Nat} (hB : B ≠ g) (x0 x1 x2 x3 x4 x5 x6 x7 x8 : Value) : RowW (set9 W B x0 x1 x2 x3 x4 x5 x6 x7 x8) g n f :=
  ((((((((h.other hB _).other hB _).other hB _).other hB _).other hB _).other hB _).other hB _).other hB _).other hB _
theorem set9_size (W : World) (B : Nat) (x0 x1 x2 x3 x4 x5 x6 x7 x8 : Value) : (set9 W B x0 x1 x2 x3 x4 x5 x6 x7 x8).heap.size = W.heap.size := by simp [set9]
/-- Row r of block g is stored. -/
def setR (W : World) (g r : Nat) (y0 y1 y2 y3 y4 y5 : Int) : World :=
  (((((W.setCell ⟨g, r * 6, none⟩ (.int .i64 y0)).setCell ⟨g, r * 6 + 1, none⟩ (.int .i64 y1)).setCell ⟨g, r * 6 + 2, none⟩ (.int .i64 y2)).setCell ⟨g, r * 6 + 3, none⟩ (.int .i64 y3)).setCell ⟨g, r * 6 + 4, none⟩ (.int .i64 y4)).setCell ⟨g, r * 6 + 5, none⟩ (.int .i64 y5)
theorem setR_row {W : World} {g n : Nat} {f : Nat → Nat → Int} (h : RowW W g n f) {r : Nat} (hr : r < n) (y : Nat → Int) : RowW (setR W g r (y 0) (y 1) (y 2) (y 3) (y 4) (y 5)) g n (setRow f r y) := h.store hr y
theorem setR_other (W : World) (g r : Nat) (y0 y1 y2 y3 y4 y5 : Int) {p : Addr} (hp : p.block ≠ g) : (setR W g r y0 y1 y2 y3 y4 y5).cell? p = W.cell? p := by
  unfold setR
  rw [World.cell?_setCell_other, World.cell?_setCell_other, World.cell?_setCell_other, World.cell?_setCell_other, World.cell?_setCell_other, World.cell?_setCell_other]
  all_goals (rintro rfl; exact hp rfl)
theorem setR_gr {W0 W : World} (h : Gr W0 W) {g : Nat} (hg : W0.heap.size ≤ g) (r : Nat) (y0 y1 y2 y3 y4 y5 : Int) : Gr W0 (setR W g r y0 y1 y2 y3 y4 y5) :=
  (((((h.setCell hg _).setCell hg _).setCell hg _).setCell hg _).setCell hg _).setCell hg _
theorem setR_size (W : World) (g r : Nat) (y0 y1 y2 y3 y4 y5 : Int) : (setR W g r y0 y1 y2 y3 y4 y5).heap.size = W.heap.size := by simp [setR]
theorem setRd_other (W : World) (g r : Nat) (y0 y1 y2 y3 y4 y5 : Int) {p : Addr} (hp : p.block ≠ g) : (setR W g r y0 y1 y2 y3 y4 y5).drew.cell? p = W.cell? p := by
  rw [World.cell?_drew]; exact setR_other W g r y0 y1 y2 y3 y4 y5 hp
theorem setRd_size (W : World) (g r : Nat) (y0 y1 y2 y3 y4 y5 : Int) : (setR W g r y0 y1 y2 y3 y4 y5).drew.heap.size = W.heap.size := by simp [setR]
theorem RowW.congr {W : World} {g n : Nat} {f f' : Nat → Nat → Int} (h : RowW W g n f) (e : ∀ i, i < n → ∀ j, j < 6 → f i j = f' i j) : RowW W g n f' := ⟨h.lt, h.froz, fun i hi j hj => by rw [h.cell i hi j hj, e i hi j hj]⟩
theorem RowW.six {W : World} {g n : Nat} {f : Nat → Nat → Int} (h : RowW W g n f) {r : Nat} (hr : r < n) : W.cell? ⟨g, r * 6, none⟩ = some (.int .i64 (f r 0)) ∧ W.cell? ⟨g, r * 6 + 1, none⟩ = some (.int .i64 (f r 1)) ∧ W.cell? ⟨g, r * 6 + 2, none⟩ = some (.int .i64 (f r 2)) ∧ W.cell? ⟨g, r * 6 + 3, none⟩ = some (.int .i64 (f r 3)) ∧ W.cell? ⟨g, r * 6 + 4, none⟩ = some (.int .i64 (f r 4)) ∧ W.cell? ⟨g, r * 6 + 5, none⟩ = some (.int .i64 (f r 5)) :=
  ⟨h.cell r hr 0 (by omega), h.cell r hr 1 (by omega), h.cell r hr 2 (by omega), h.cell r hr 3 (by omega), h.cell r hr 4 (by omega), h.cell r hr 5 (by omega)⟩
/-- The rows of f, and behind them those of g. -/
def extF (f : Nat → Nat → Int) (n : Nat) (g : Nat → Nat → Int) : Nat → Nat → Int := fun j => if j < n then f j else g (j - n)
theorem rowCells_congr {f g : Nat → Nat → Int} {n : Nat} (h : ∀ i, i < n → f i = g i) : rowCells f n = rowCells g n := by
  induction n with
  | zero => rfl
  | succ n ih => rw [rowCells, rowCells, ih fun i hi => h i (by omega), h n (by omega)]
theorem rowCells_ext (f g : Nat → Nat → Int) (n k : Nat) : rowCells f n ++ rowCells g k = rowCells (extF f n g) (n + k) := by
  induction k with
  | zero =>
    rw [rowCells, List.append_nil, Nat.add_zero]
    exact rowCells_congr fun i hi => by simp [extF, hi]
  | succ k ih =>
    rw [rowCells, ← List.append_assoc, ih]
    have e : extF f n g (n + k) = g k := by
      unfold extF
      rw [if_neg (by omega), show n + k - n = k by omega]
    rw [← Nat.add_assoc, rowCells, e]
theorem own_empty {W : World} {base g : Nat} {e : TypeId} (h : W.heap[g]? = some (.cells #[] e (0, 0))) (hb : base ≤ g) : W.ownsRow base e 6 (.slice (some ⟨g, 0, none⟩) 0 0) 0 [] :=
  ⟨rfl, .inr ⟨g, 0, #[], rfl, hb, h, Nat.le_refl _, Nat.zero_le _, rfl, rfl⟩⟩
theorem run_append_src {P : Program} (w : World) (base : Nat) (t ty e : TypeId) (i : TypeInfo) (z : Value) (bytes : Nat) (ht : P.underlying t = some (.slice e)) (hi : P.info? e = some i) (hz : i.zero = some z)
    (hsize : i.size = 6) (hby : i.bytes = bytes) (hzs : z.cells.size = 6) (g n cap : Nat) (xs : List Value) (hown : w.ownsRow base e 6 (.slice (some ⟨g, 0, none⟩) n cap) n xs)
    (A : Option Addr) (m c : Nat) (f : Nat → Nat → Int) (hr : RowsAt w 6 A m f) (h63 : n + m ≤ maxLen) (hbytes : (n + m) * bytes ≤ 140737488355328) (hbase : base ≤ w.heap.size) :
    ∃ g' cap' w', (Builtin.append_ #[t, t] ty #[.slice (some ⟨g, 0, none⟩) n cap, .slice A m c]).run P w = .ok (.slice (some ⟨g', 0, none⟩) (n + m) cap') w' ∧ w'.ownsRow base e 6 (.slice (some ⟨g', 0, none⟩) (n + m) cap') (n + m) (xs ++ rowCells f m) ∧ w.grownBy w' (some g) ∧ (g' = g ∨ g' = w.heap.size) := by
  cases A with
  | none =>
    obtain rfl : m = 0 := by
      rcases Nat.eq_zero_or_pos m with h | h
      · exact h
      · obtain ⟨b, off, h', -⟩ := hr h
        cases h'
    refine ⟨g, cap, w, ?_, by rw [rowCells, List.append_nil]; exact hown, ⟨rfl, rfl, rfl, Nat.le_refl _, fun _ _ _ => rfl⟩, .inl rfl⟩
    rcases hown.2 with ⟨h, -⟩ | ⟨g1, cap1, cur, h, -, -, hnc, -⟩
    · cases h
    · cases h
      simp [Builtin.append_, run_underlying ht, sizeOf, typeInfo, hi, Builtin.lenOf, Builtin.firstCells, hnc, storeCells]
  | some ad =>
    have hnews : ∀ j u, (rowCells f m)[j]? = some u → w.cell? (ad.add j) = some u := by
      rcases Nat.eq_zero_or_pos m with h | h
      · subst h; intro j u hj; simp [rowCells] at hj
      · obtain ⟨b, off, h', -⟩ := hr h
        cases h'
        exact rows_news hr
    obtain ⟨v', w', h1, h2, h3, h4, h5⟩ := run_append_own_at (P := P) w base t ty e i z 6 bytes ht hi hz hsize hby hzs (by omega) _ n xs hown ad m c (rowCells f m) (rowCells_len f m) hnews (rowCells_one f m) h63 hbytes hbase
    have h2' := h2
    rcases h2.2 with ⟨h, -⟩ | ⟨g1, cap1, cur, rfl, -⟩
    · have := h4.1 h
      cases this.1
    · refine ⟨g1, cap1, w', h1, h2', h3, ?_⟩
      rcases h5 with h5 | h5
      · left; simpa [Value.ownBlock] using h5
      · right; simpa [Value.ownBlock] using h5
theorem step_append_src {P : Program} {ops : Array Oper} {o : Oper} {a : Act} {w : World} {K : Act → World → Prop} {Q : Exit → Act → World → Prop} {E : Prop}
    (hg : o.guard = none) (s x : Operand) (t : TypeId) (hop : o.op = Op.call { callee := Callee.builtin Builtin.append, args := #[s, x], argTypes := #[t, t] })
    (base : Nat) (e : TypeId) (i : TypeInfo) (z : Value) (bytes : Nat) (ht : P.underlying t = some (.slice e)) (hi : P.info? e = some i) (hz : i.zero = some z)
    (hsize : i.size = 6) (hby : i.bytes = bytes) (hzs : z.cells.size = 6) (g n cap : Nat) (xs : List Value) (hs : a.eval s = .slice (some ⟨g, 0, none⟩) n cap) (hown : w.ownsRow base e 6 (.slice (some ⟨g, 0, none⟩) n cap) n xs)
    (A : Option Addr) (m c : Nat) (f : Nat → Nat → Int) (hx : a.eval x = .slice A m c) (hr : RowsAt w 6 A m f) (h63 : n + m ≤ maxLen) (hbytes : (n + m) * bytes ≤ 140737488355328) (hbase : base ≤ w.heap.size)
    (hK : ∀ g' cap' w', w'.ownsRow base e 6 (.slice (some ⟨g', 0, none⟩) (n + m) cap') (n + m) (xs ++ rowCells f m) → (g' = g ∨ g' = w.heap.size) → base ≤ g → w.heap.size ≤ w'.heap.size → g' < w'.heap.size →
      (∀ b o, (⟨min (b + 1) w.heap.size, 0, none⟩ : Addr) = ⟨b + 1, 0, none⟩ → ¬ (⟨b, 0, none⟩ : Addr) = ⟨g, 0, none⟩ → w'.cell? ⟨b, o, none⟩ = w.cell? ⟨b, o, none⟩) →
      (∀ b o, (⟨min (b + 1) w.heap.size, 0, none⟩ : Addr) = ⟨b + 1, 0, none⟩ → ¬ (⟨b, 0, none⟩ : Addr) = ⟨g, 0, none⟩ → w'.frozen? ⟨b, o, none⟩ = w.frozen? ⟨b, o, none⟩) →
      (∀ b, (⟨min (b + 1) w.heap.size, 0, none⟩ : Addr) = ⟨b + 1, 0, none⟩ → ¬ (⟨b, 0, none⟩ : Addr) = ⟨g, 0, none⟩ → cellsN w' b = cellsN w b) →
      (∀ W0, Gr W0 w → W0.heap.size ≤ base → Gr W0 w') → K (a.put o.dst (.slice (some ⟨g', 0, none⟩) (n + m) cap')) w') :
    if Region.wanted o (yielded ops a.tmps) = true then Oper.wp P o a w K Q else E := by
  have hw : Region.wanted o (yielded ops a.tmps) = true := by simp [Region.wanted, hg]
  rw [if_pos hw]
  obtain ⟨g', cap', w', hrun, h2, h3, h4⟩ := run_append_src (P := P) w base t o.type e i z bytes ht hi hz hsize hby hzs g n cap xs hown A m c f hr h63 hbytes hbase
  have hbg := (hown.lt g rfl).1
  have hblk : ∀ b, (⟨min (b + 1) w.heap.size, 0, none⟩ : Addr) = ⟨b + 1, 0, none⟩ → ¬ (⟨b, 0, none⟩ : Addr) = ⟨g, 0, none⟩ → w'.heap[b]? = w.heap[b]? := fun b hb hne =>
    h3.block b (lt_of_addr hb) (fun e => hne (by injection e with e; rw [e]))
  unfold Oper.wp
  simp [execOp, hop, resolve, invoke, builtin, hs, hx, hrun, Result.andThen]
  exact hK g' cap' w' h2 h4 hbg h3.size (h2.lt g' rfl).2 (fun b o hb hne => World.cell?_of_block (a := ⟨b, o, none⟩) (hblk b hb hne)) (fun b o hb hne => World.frozen?_of_block (a := ⟨b, o, none⟩) (hblk b hb hne)) (fun b hb hne => cellsN_of_block (hblk b hb hne))
    (fun W0 hW0 hB => Below.grown hW0 h3 hW0.le (fun k hk => by injection hk with hk; omega))

theorem rowsAt_le {W : World} {sz n m : Nat} {A : Option Addr} {f : Nat → Nat → Int} (h : RowsAt W sz A n f) (hm : m ≤ n) : RowsAt W sz A m f := fun h0 => by
  obtain ⟨b, off, e, hb, hc⟩ := h (by omega)
  exact ⟨b, off, e, hb, fun i hi j hj => hc i (by omega) j hj⟩
theorem optsF_congr (F : V6 → List (Nat × Nat)) {f g : Nat → Nat → Int} : ∀ {n : Nat}, (∀ i, i < n → rowV f i = rowV g i) → optsF F f n = optsF F g n
  | 0, _ => rfl
  | n + 1, h => by rw [optsF, optsF, optsF_congr F fun i hi => h i (by omega), h n (by omega)]
/-- The options without one note. -/
theorem optsF_erase (F : V6 → List (Nat × Nat)) (f : Nat → Nat → Int) {n i : Nat} (hi : i < n) : optsF F (extF f i (fun j => f (j + i + 1))) (i + (n - (i + 1))) = (optsF F f n).eraseIdx i := by
  apply List.ext_getElem?
  intro j
  have e1 := optsF_len F f n
  have e2 := optsF_len F (extF f i (fun j => f (j + i + 1))) (i + (n - (i + 1)))
  rw [List.getElem?_eraseIdx]
  by_cases hj : j < i + (n - (i + 1))
  · rw [optsF_at _ _ hj]
    by_cases hji : j < i
    · rw [if_pos hji, optsF_at _ _ (by omega)]
      simp [rowV, extF, hji]
    · rw [if_neg hji, optsF_at _ _ (by omega)]
      simp only [rowV, extF, if_neg hji]
      rw [show j - i + i + 1 = j + 1 by omega]
  · rw [List.getElem?_eq_none (by omega)]
    by_cases hji : j < i
    · omega
    · rw [if_neg hji, List.getElem?_eq_none (by omega)]
theorem infoVec : (Tryd.prog.info? 42).map (fun i => (i.zero, i.size, i.bytes)) = some (some (.agg #[.int .i64 0, .int .i64 0, .int .i64 0, .int .i64 0, .int .i64 0, .int .i64 0]), 6, 48) := by kernel_rfl

set_option maxRecDepth 100000 in
set_option maxHeartbeats 16000000 in
theorem lfew_few (sv : Int) (O Q : Option Addr) (no co nf cq : Nat) (sp tl : Int) (A : Option Addr) (n c : Nat) (w : World) (hP : Primes w) (hL : Logs w) (hbad : fewB no nf n = false ∨ (fewB no nf n = true ∧ n = 0)) :
    Calls Tryd.prog 10 #[.agg #[.slice O no co, .slice Q nf cq, .int .i64 sp, .int .i64 tl], .slice A n c, .int .u8 sv] w fun e w' => e = .returned (.bool true) ∧ Gr w w' := by
  have HP := Lib.hid hP; have HL := Lib.hid hL
  have hF := fun W => few_any O Q A no co nf cq n c sp tl W
  clear hP hL
  rcases hbad with h | ⟨h, h0⟩
  · rw [h] at hF
    have HF := Lib.hid hF
    clear hF h
    go_enter Tryd.func10, Tryd.ntmps10
    go_wp2_with fail
    (go_at_call 11; with_reducible refine (fhead_any _ (HP.out.keep (by repeat (first | with_reducible exact Gr.refl _ | with_reducible refine Gr.alloc ?_ _ | with_reducible refine Gr.drew ?_ | with_reducible refine Gr.trans ?_ (by assumption) | with_reducible refine Gr.setCell ?_ (by (try simp); (try omega)) _))) (HL.out.keep (by repeat (first | with_reducible exact Gr.refl _ | with_reducible refine Gr.alloc ?_ _ | with_reducible refine Gr.drew ?_ | with_reducible refine Gr.trans ?_ (by assumption) | with_reducible refine Gr.setCell ?_ (by (try simp); (try omega)) _)))).mono ?_; rintro e w' ⟨rfl, hb⟩; have hz := hb.le; obtain ⟨hc, hf⟩ := hb.cells; have hn := hb.cellsN; (try simp only [World.size_alloc] at hc hf hz hn); (try simp only [World.size_setCell] at hc hf hz hn); (try simp only [World.size_drew] at hc hf hz hn))
    go_wp2_with fail
    (go_at_call 12; with_reducible refine (HF.out _).mono ?_; rintro e w' ⟨rfl, hb⟩; have hz := hb.le; obtain ⟨hc, hf⟩ := hb.cells; have hn := hb.cellsN; (try simp only [World.size_alloc] at hc hf hz hn); (try simp only [World.size_setCell] at hc hf hz hn); (try simp only [World.size_drew] at hc hf hz hn))
    go_wp2_with fail
    go_ret
    exact ⟨rfl, (by repeat (first | with_reducible exact Gr.refl _ | with_reducible refine Gr.alloc ?_ _ | with_reducible refine Gr.drew ?_ | with_reducible refine Gr.trans ?_ (by assumption) | with_reducible refine Gr.setCell ?_ (by (try simp); (try omega)) _))⟩
  · rw [h] at hF
    subst h0
    have HF := Lib.hid hF
    clear hF h
    go_enter Tryd.func10, Tryd.ntmps10
    go_wp2_with fail
    (go_at_call 11; with_reducible refine (fhead_any _ (HP.out.keep (by repeat (first | with_reducible exact Gr.refl _ | with_reducible refine Gr.alloc ?_ _ | with_reducible refine Gr.drew ?_ | with_reducible refine Gr.trans ?_ (by assumption) | with_reducible refine Gr.setCell ?_ (by (try simp); (try omega)) _))) (HL.out.keep (by repeat (first | with_reducible exact Gr.refl _ | with_reducible refine Gr.alloc ?_ _ | with_reducible refine Gr.drew ?_ | with_reducible refine Gr.trans ?_ (by assumption) | with_reducible refine Gr.setCell ?_ (by (try simp); (try omega)) _)))).mono ?_; rintro e w' ⟨rfl, hb⟩; have hz := hb.le; obtain ⟨hc, hf⟩ := hb.cells; have hn := hb.cellsN; (try simp only [World.size_alloc] at hc hf hz hn); (try simp only [World.size_setCell] at hc hf hz hn); (try simp only [World.size_drew] at hc hf hz hn))
    go_wp2_with fail
    (go_at_call 12; with_reducible refine (HF.out _).mono ?_; rintro e w' ⟨rfl, hb⟩; have hz := hb.le; obtain ⟨hc, hf⟩ := hb.cells; have hn := hb.cellsN; (try simp only [World.size_alloc] at hc hf hz hn); (try simp only [World.size_setCell] at hc hf hz hn); (try simp only [World.size_drew] at hc hf hz hn))
    go_wp2_with fail
    go_ret
    exact ⟨rfl, (by repeat (first | with_reducible exact Gr.refl _ | with_reducible refine Gr.alloc ?_ _ | with_reducible refine Gr.drew ?_ | with_reducible refine Gr.trans ?_ (by assumption) | with_reducible refine Gr.setCell ?_ (by (try simp); (try omega)) _))⟩

set_option maxRecDepth 100000 in
set_option maxHeartbeats 16000000 in
theorem lfew_err (sv : Int) (O Q : Option Addr) (no co nf cq : Nat) (sp tl : Int) (o q : Nat → Nat → Int) (A : Option Addr) (n c : Nat) (f : Nat → Nat → Int) (w : World) (hP : Primes w) (hL : Logs w) (hO : RowsAt w 6 O no o) (hQ : RowsAt w 6 Q nf q) (hA : RowsAt w 6 A n f) (hno : no ≤ 9223372036854775807) (hnf : nf ≤ 9223372036854775807) (hn : n ≤ 9223372036854775807) (hfew : fewB no nf n = true) (hn0 : 0 < n)
    (h1 : chordL no o nf q sp tl f n = []) (h2 : chordE no o nf q sp tl f n = 1 ∨ chordE no o nf q sp tl f n = 2 ∨ chordE no o nf q sp tl f n = 4 ∨ chordE no o nf q sp tl f n = 20) :
    Calls Tryd.prog 10 #[.agg #[.slice O no co, .slice Q nf cq, .int .i64 sp, .int .i64 tl], .slice A n c, .int .u8 sv] w fun e w' => e = .returned (.bool true) ∧ Gr w w' := by
  have HP := Lib.hid hP; have HL := Lib.hid hL
  have hF := fun W => few_any O Q A no co nf cq n c sp tl W
  rw [hfew] at hF
  have HF := Lib.hid hF
  have hC := fun W (g : Gr w W) => fchord_any O Q no co nf cq sp tl o q A n c f W (hP.keep g) (hL.keep g) (hO.keep g) (hQ.keep g) (hA.keep g) hno hnf hn
  rw [h1] at hC
  have d0 : ((n : Int) == 0) = false := by simp; omega
  have d0' : (n == 0) = false := by simp; omega
  rcases h2 with h2 | h2 | h2 | h2
  all_goals
    rw [h2] at hC
    have HC := Lib.hid (fun W g => (hC W g).mono fun e w' h => frR_lit (n := 0) h rfl)
    clear hP hL hF hfew hC h1 h2 hO hQ hA hn0
    go_enter Tryd.func10, Tryd.ntmps10
    go_wp2_with fail
    (go_at_call 11; with_reducible refine (fhead_any _ (HP.out.keep (by repeat (first | with_reducible exact Gr.refl _ | with_reducible refine Gr.alloc ?_ _ | with_reducible refine Gr.drew ?_ | with_reducible refine Gr.trans ?_ (by assumption) | with_reducible refine Gr.setCell ?_ (by (try simp); (try omega)) _))) (HL.out.keep (by repeat (first | with_reducible exact Gr.refl _ | with_reducible refine Gr.alloc ?_ _ | with_reducible refine Gr.drew ?_ | with_reducible refine Gr.trans ?_ (by assumption) | with_reducible refine Gr.setCell ?_ (by (try simp); (try omega)) _)))).mono ?_; rintro e w' ⟨rfl, hb⟩; have hz := hb.le; obtain ⟨hc, hf⟩ := hb.cells; have hn := hb.cellsN; (try simp only [World.size_alloc] at hc hf hz hn); (try simp only [World.size_setCell] at hc hf hz hn); (try simp only [World.size_drew] at hc hf hz hn))
    go_wp2_with fail
    (go_at_call 12; with_reducible refine (HF.out _).mono ?_; rintro e w' ⟨rfl, hb⟩; have hz := hb.le; obtain ⟨hc, hf⟩ := hb.cells; have hn := hb.cellsN; (try simp only [World.size_alloc] at hc hf hz hn); (try simp only [World.size_setCell] at hc hf hz hn); (try simp only [World.size_drew] at hc hf hz hn))
    go_wp2_with fail
    go_at_call 15
    refine (HC.out _ (by repeat (first | with_reducible exact Gr.refl _ | with_reducible refine Gr.alloc ?_ _ | with_reducible refine Gr.drew ?_ | with_reducible refine Gr.trans ?_ (by assumption) | with_reducible refine Gr.setCell ?_ (by (try simp); (try omega)) _))).mono ?_
    rintro e w2 ⟨A2, c2, rfl, -, -, hb2⟩
    go_wp2_with fail
    go_ret
    exact ⟨rfl, Gr.trans (by repeat (first | with_reducible exact Gr.refl _ | with_reducible refine Gr.alloc ?_ _ | with_reducible refine Gr.drew ?_ | with_reducible refine Gr.trans ?_ (by assumption) | with_reducible refine Gr.setCell ?_ (by (try simp); (try omega)) _)) hb2⟩
set_option maxRecDepth 100000 in
set_option maxHeartbeats 16000000 in
theorem lfew_ok (sn : Nat) (O Q : Option Addr) (no co nf cq : Nat) (sp tl : Int) (o q : Nat → Nat → Int) (A : Option Addr) (n c : Nat) (f : Nat → Nat → Int) (w : World) (hP : Primes w) (hL : Logs w) (hO : RowsAt w 6 O no o) (hQ : RowsAt w 6 Q nf q) (hA : RowsAt w 6 A n f) (hno : no ≤ 9223372036854775807) (hnf : nf ≤ 9223372036854775807) (hn : n ≤ 9223372036854775807) (hnc : n ≤ c) (hs1 : sn ≤ 255) (hfew : fewB no nf n = true) (hn0 : 0 < n)
    (h1 : chordE no o nf q sp tl f n = 0) (hk : chordOk no o nf q sp tl f n = true) (hl : (chordL no o nf q sp tl f n).length = n) :
    Calls Tryd.prog 10 #[.agg #[.slice O no co, .slice Q nf cq, .int .i64 sp, .int .i64 tl], .slice A n c, .int .u8 (sn : Int)] w fun e w' => e = .returned (.bool true) ∧ Gr w w' := by
  obtain ⟨hok, hn12, hvs⟩ := chordOk_parts hk
  have hcap : c ≤ 9223372036854775807 ∨ True := .inr trivial
  have HP := Lib.hid hP; have HL := Lib.hid hL
  have hF := fun W => few_any O Q A no co nf cq n c sp tl W
  rw [hfew] at hF
  have HF := Lib.hid hF
  have hC := fun W (g : Gr w W) => fchord_any O Q no co nf cq sp tl o q A n c f W (hP.keep g) (hL.keep g) (hO.keep g) (hQ.keep g) (hA.keep g) hno hnf hn
  rw [h1] at hC
  have HC := Lib.hid (fun W g => (hC W g).mono fun e w' h => frR_lit (n := n) h hl)
  have HC2 := Lib.hid (fun (g2 cap2 : Nat) W (g : Gr w W) (i : Nat) (hi : i < n) (hR : RowsAt W 6 (some ⟨g2, 0, none⟩) (i + (n - (i + 1))) (extF f i (fun j => f (j + i + 1)))) => (show Calls Tryd.prog 15 #[.agg #[.slice O no co, .slice Q nf cq, .int .i64 sp, .int .i64 tl], .slice (some ⟨g2, 0, none⟩) (i + (n - (i + 1))) cap2] W (FR2 0 (chordL no o nf q sp tl (extF f i (fun j => f (j + i + 1))) (i + (n - (i + 1)))) (n - 1) W) from by
    have hvs2 : vecsB (extF f i (fun j => f (j + i + 1))) (i + (n - (i + 1))) = true := vecsB_iff.2 fun k hk => by
      by_cases e : k < i
      · have := vecsB_at hvs (show k < n by omega)
        simpa [rowV, extF, e] using this
      · have := vecsB_at hvs (show k - i + i + 1 < n by omega)
        simpa [rowV, extF, e] using this
    have hk2 : chordOk no o nf q sp tl (extF f i (fun j => f (j + i + 1))) (i + (n - (i + 1))) = true := by
      unfold chordOk; rw [hok, hvs2, decide_eq_true (show i + (n - (i + 1)) ≤ 12 by omega)]; rfl
    have hE : chordE no o nf q sp tl (extF f i (fun j => f (j + i + 1))) (i + (n - (i + 1))) = 0 := by
      unfold chordE
      rw [if_pos hk2, optsF_erase _ _ hi]
      refine chE_erase ?_ i
      unfold chordE at h1
      rwa [if_pos hk] at h1
    have z := fchord_any O Q no co nf cq sp tl o q (some ⟨g2, 0, none⟩) (i + (n - (i + 1))) cap2 (extF f i (fun j => f (j + i + 1))) W (hP.keep g) (hL.keep g) (hO.keep g) (hQ.keep g) hR hno hnf (by omega)
    rw [hE] at z
    refine z.mono fun e w' h => frR_lit h ?_
    rcases chordE_cases no o nf q sp tl (extF f i (fun j => f (j + i + 1))) (i + (n - (i + 1))) with ⟨-, -, l, h3, h4, -⟩ | ⟨-, h2⟩
    · rw [h3, h4.len, optsF_len]; omega
    · rw [hE] at h2; omega))
  obtain ⟨i0, hinfo, hz0, hz1, hz2⟩ := info_parts infoVec
  have HINF := Lib.hid (And.intro hinfo (And.intro hz0 (And.intro hz1 hz2)))
  have d0 : ((n : Int) == 0) = false := by simp; omega
  have d0' : (n == 0) = false := by simp; omega
  have hws : IntKind.i64.wrap (sn : Int) = (sn : Int) := IntWalk.i64_in _ ⟨by omega, by omega⟩
  have hts : (sn : Int).tmod (n : Int) = ((sn % n : Nat) : Int) := by rw [Int.tmod_eq_emod_of_nonneg (by omega)]; rfl
  have hwn : IntKind.i64.wrap ((n : Int) - 1) = (n : Int) - 1 := IntWalk.i64_in _ ⟨by omega, by omega⟩
  have hin' : sn % n < n := Nat.mod_lt _ hn0
  have HA := Lib.hid hA
  obtain ⟨b, off, hAA, hbl, -⟩ := hA hn0
  subst hAA
  clear hP hL hF hfew hC h1 hO hQ hA hk hok hvs hinfo hz0 hz1 hz2 hl hcap
  go_enter Tryd.func10, Tryd.ntmps10
  go_wp2_with fail
  (go_at_call 11; with_reducible refine (fhead_any _ (HP.out.keep (by repeat (first | with_reducible exact Gr.refl _ | with_reducible refine Gr.alloc ?_ _ | with_reducible refine Gr.drew ?_ | with_reducible refine Gr.trans ?_ (by assumption) | with_reducible refine Gr.setCell ?_ (by (try simp); (try omega)) _))) (HL.out.keep (by repeat (first | with_reducible exact Gr.refl _ | with_reducible refine Gr.alloc ?_ _ | with_reducible refine Gr.drew ?_ | with_reducible refine Gr.trans ?_ (by assumption) | with_reducible refine Gr.setCell ?_ (by (try simp); (try omega)) _)))).mono ?_; rintro e w' ⟨rfl, hb⟩; have hz := hb.le; obtain ⟨hc, hf⟩ := hb.cells; have hn := hb.cellsN; (try simp only [World.size_alloc] at hc hf hz hn); (try simp only [World.size_setCell] at hc hf hz hn); (try simp only [World.size_drew] at hc hf hz hn))
  go_wp2_with fail
  (go_at_call 12; with_reducible refine (HF.out _).mono ?_; rintro e w' ⟨rfl, hb⟩; have hz := hb.le; obtain ⟨hc, hf⟩ := hb.cells; have hn := hb.cellsN; (try simp only [World.size_alloc] at hc hf hz hn); (try simp only [World.size_setCell] at hc hf hz hn); (try simp only [World.size_drew] at hc hf hz hn))
  go_wp2_with fail
  go_at_call 15
  refine (HC.out _ (by repeat (first | with_reducible exact Gr.refl _ | with_reducible refine Gr.alloc ?_ _ | with_reducible refine Gr.drew ?_ | with_reducible refine Gr.trans ?_ (by assumption) | with_reducible refine Gr.setCell ?_ (by (try simp); (try omega)) _))).mono ?_
  rintro e w2 ⟨A2, c2, rfl, -, -, hb2⟩
  have hz2 := hb2.le
  have hNK : NeckAt w' w.heap.size O Q no co nf cq sp tl := ⟨by omega, by simp [go_sem, *], by simp [go_sem, *], by simp [go_sem, *], by simp [go_sem, *]⟩
  have HNK := Lib.hid (hNK.keep hb2)
  have HGO := Lib.hid (show Gr w w2 from Gr.trans (by repeat (first | with_reducible exact Gr.refl _ | with_reducible refine Gr.alloc ?_ _ | with_reducible refine Gr.drew ?_ | with_reducible refine Gr.trans ?_ (by assumption) | with_reducible refine Gr.setCell ?_ (by (try simp); (try omega)) _)) hb2)
  clear hb hz hc hf hn hb2 hNK hz2
  obtain ⟨wo, rfl⟩ : ∃ wo : World, wo = w2 := ⟨_, rfl⟩
  obtain ⟨hl0, b0, b1, b2, b3⟩ := HNK.out
  go_upto_region 8 with fail
  clear hws hts
  have hrfl : (sn : Int) % (n : Int) = ((sn % n : Nat) : Int) := rfl
  generalize (sn : Int) % (n : Int) = iv at *
  obtain ⟨i, hi⟩ : ∃ i : Nat, i = sn % n := ⟨_, rfl⟩
  rw [← hi] at hrfl hin'
  subst hrfl
  have hin := hin'
  clear hin' hi
  have hi0 : (0 : Int) ≤ (i : Int) := by omega
  have hi1 : (i : Int) ≤ (c : Int) := by omega
  have hi2 : (0 : Int) ≤ (i : Int) + 1 := by omega
  have hi3 : (i : Int) + 1 ≤ (n : Int) := by omega
  have hi4 : ((i : Int) + 1).toNat = i + 1 := by omega
  have hi5 : n ≤ c := hnc
  have hwi : IntKind.i64.wrap ((i : Int) + 1) = (i : Int) + 1 := IntWalk.i64_in _ ⟨by omega, by omega⟩
  have HTL : Hid (∀ W, Gr w W → RowsAt W 6 (if c = i + 1 then some ⟨b, off, none⟩ else some ⟨b, off + (i + 1) * 6, none⟩) (n - (i + 1)) (fun j => f (j + i + 1))) := Lib.hid (fun W g h0 => by
    obtain ⟨b', off', e, hb', hc'⟩ := (HA.out.keep g) (by omega)
    cases e
    refine ⟨b, off + (i + 1) * 6, by rw [if_neg (by omega)], hb', fun k hk j hj => ?_⟩
    have := hc' (k + i + 1) (by omega) j hj
    rw [show off + (i + 1) * 6 + k * 6 + j = off + (k + i + 1) * 6 + j by omega]
    exact this)
  clear d0 d0'
  refine wp_region_held_drew (S := fun wx => (∀ b o, (⟨min (b + 1) wo.heap.size, 0, none⟩ : Addr) = ⟨b + 1, 0, none⟩ → wx.cell? ⟨b, o, none⟩ = wo.cell? ⟨b, o, none⟩) ∧ Gr wo wx) (by kernel_rfl) (held_drew wo) (fun hHeld => ?_)
  (refine take_at (i := 0) (oi := _) (d := some 39) (v := ?_) rfl rfl (by kernel_rfl) (by kernel_rfl) (by kernel_rfl) (fun _ _ _ h => h) (Or.inl ⟨by rfl, ?_⟩) hHeld ?_; rotate_left; next => (intro w hSw; (try dsimp only at hSw); go_simp; try with_reducible rfl))
  try simp only [Act.put, List.setIfInBounds_toArray, List.set_cons_zero, List.set_cons_succ]
  (refine take_at (i := 2) (oi := _) (d := some 41) (v := ?_) rfl rfl (by kernel_rfl) (by kernel_rfl) (by kernel_rfl) (fun _ _ _ h => h) (Or.inl ⟨by rfl, ?_⟩) hHeld ?_; rotate_left; next => (intro w hSw; (try dsimp only at hSw); go_simp; try with_reducible rfl))
  try simp only [Act.put, List.setIfInBounds_toArray, List.set_cons_zero, List.set_cons_succ]
  (refine take_at (i := 3) (oi := _) (d := some 42) (v := ?_) rfl rfl (by kernel_rfl) (by kernel_rfl) (by kernel_rfl) (fun _ _ _ h => h) (Or.inl ⟨by rfl, ?_⟩) hHeld ?_; rotate_left; next => (intro w hSw; (try dsimp only at hSw); go_simp; try with_reducible rfl))
  try simp only [Act.put, List.setIfInBounds_toArray, List.set_cons_zero, List.set_cons_succ]
  (refine take_at (i := 4) (oi := _) (d := some 43) (v := ?_) rfl rfl (by kernel_rfl) (by kernel_rfl) (by kernel_rfl) (fun _ _ _ h => h) (Or.inl ⟨by rfl, ?_⟩) hHeld ?_; rotate_left; next => (intro w hSw; (try dsimp only at hSw); go_simp; try with_reducible rfl))
  try simp only [Act.put, List.setIfInBounds_toArray, List.set_cons_zero, List.set_cons_succ]
  (refine take_at (i := 6) (oi := _) (d := some 45) (v := ?_) rfl rfl (by kernel_rfl) (by kernel_rfl) (by kernel_rfl) (fun _ _ _ h => h) (Or.inl ⟨by rfl, ?_⟩) hHeld ?_; rotate_left; next => (intro w hSw; (try dsimp only at hSw); go_simp; try with_reducible rfl))
  try simp only [Act.put, List.setIfInBounds_toArray, List.set_cons_zero, List.set_cons_succ]
  (refine take_at (i := 7) (oi := _) (d := some 46) (v := ?_) rfl rfl (by kernel_rfl) (by kernel_rfl) (by kernel_rfl) (fun _ _ _ h => h) (Or.inl ⟨by rfl, ?_⟩) hHeld ?_; rotate_left; next => (intro w hSw; (try dsimp only at hSw); go_simp; try with_reducible rfl))
  try simp only [Act.put, List.setIfInBounds_toArray, List.set_cons_zero, List.set_cons_succ]
  (refine take_at (i := 8) (oi := _) (d := some 47) (v := ?_) rfl rfl (by kernel_rfl) (by kernel_rfl) (by kernel_rfl) (fun _ _ _ h => h) (Or.inl ⟨by rfl, ?_⟩) hHeld ?_; rotate_left; next => (intro w hSw; (try dsimp only at hSw); go_simp; try with_reducible rfl))
  try simp only [Act.put, List.setIfInBounds_toArray, List.set_cons_zero, List.set_cons_succ]
  (refine take_at (i := 9) (oi := _) (d := some 48) (v := ?_) rfl rfl (by kernel_rfl) (by kernel_rfl) (by kernel_rfl) (fun _ _ _ h => h) (Or.inl ⟨by rfl, ?_⟩) hHeld ?_; rotate_left; next => (intro w hSw; (try dsimp only at hSw); go_simp; try with_reducible rfl))
  try simp only [Act.put, List.setIfInBounds_toArray, List.set_cons_zero, List.set_cons_succ]
  (refine wpAnyH_ready (rs := [1]) (by kernel_rfl) (by simp) (AllReadyH.cons (o := _) rfl (fun K hK => ?_) AllReadyH.nil); go_simp; refine hK.out _ _ (by (try dsimp only); (first | with_reducible exact held_drew _ | with_reducible exact held_call (by assumption) (by assumption) | with_reducible exact held_alloc (by assumption) _ | with_reducible exact held_allocd (by assumption) _ | ((repeat (with_reducible refine held_set ?_ (by (try simp); (try omega)) _)); (first | with_reducible assumption | with_reducible exact held_call (by assumption) (by assumption))))) (fun hHeld => ?_); clear hK K)
  try simp only [Act.put, List.setIfInBounds_toArray, List.set_cons_zero, List.set_cons_succ]
  refine wpAnyH_ready (rs := [5]) (by kernel_rfl) (by simp) (AllReadyH.cons (o := { dst := some 44, op := Op.call { callee := Callee.builtin Builtin.append, args := #[Operand.tmp 40, Operand.tmp 43], argTypes := #[26, 26] }, type := 26, pos := "law.go:238", after := #[{ on := 1, ground := Ground.data }, { on := 4, ground := Ground.data }], guard := none }) rfl (fun K hK => ?_) AllReadyH.nil)
  refine step_append_src (by rfl) (.tmp 40) (.tmp 43) 26 (by rfl) wo.heap.size 42 i0 (.agg #[.int .i64 0, .int .i64 0, .int .i64 0, .int .i64 0, .int .i64 0, .int .i64 0]) 48 Tryd.underlying26 HINF.out.1 HINF.out.2.1 HINF.out.2.2.1 HINF.out.2.2.2 (by rfl) _ 0 0 [] (by rfl) (own_empty (by first | exact World.alloc_heap_new _ _ | exact (Below.heap_alloc _ _ _ (by simp)).trans (World.alloc_heap_new _ _)) (by (try simp); (try omega))) (some ⟨b, off, none⟩) i c f (by rfl) (rowsAt_le (HA.out.keep (HGO.out.trans hHeld.2)) (by omega)) (by unfold maxLen; omega) (by omega) hHeld.2.le ?_
  intro g cap w7 hown hor hbg hz hgl hcx hfx hn hgr
  have hHx := held_of (hgr _ hHeld.2 (Nat.le_refl _))
  simp only [Nat.zero_add, List.nil_append] at hown
  have HOWN := Lib.hid hown
  clear hown hgr hor hbg hz hgl hcx hfx hn
  refine hK.out _ _ hHx (fun hHeld => ?_)
  clear hK K
  try simp only [Act.put, Nat.zero_add, List.setIfInBounds_toArray, List.set_cons_zero, List.set_cons_succ]
  refine wpAnyH_ready (rs := [10]) (by kernel_rfl) (by simp) (AllReadyH.cons (o := { dst := some 49, op := Op.call { callee := Callee.builtin Builtin.append, args := #[Operand.tmp 44, Operand.tmp 48], argTypes := #[26, 26] }, type := 26, pos := "law.go:238", after := #[{ on := 5, ground := Ground.data }, { on := 9, ground := Ground.data }, { on := 5, ground := Ground.chain }], guard := none }) rfl (fun K hK => ?_) AllReadyH.nil)
  refine step_append_src (by rfl) (.tmp 44) (.tmp 48) 26 (by rfl) wo.heap.size 42 i0 (.agg #[.int .i64 0, .int .i64 0, .int .i64 0, .int .i64 0, .int .i64 0, .int .i64 0]) 48 Tryd.underlying26 HINF.out.1 HINF.out.2.1 HINF.out.2.2.1 HINF.out.2.2.2 (by rfl) _ i _ _ (by rfl) HOWN.out _ (n - (i + 1)) _ (fun j => f (j + i + 1)) (by rfl) (HTL.out _ (HGO.out.trans hHeld.2)) (by unfold maxLen; omega) (by omega) hHeld.2.le ?_
  intro g2 cap2 w8 hown2 hor2 hbg2 hz22 hgl2 hcx2 hfx2 hn2 hgr2
  have hHx2 := held_of (hgr2 _ hHeld.2 (Nat.le_refl _))
  rw [rowCells_ext] at hown2
  have HROW := Lib.hid (rowW_of_own hown2)
  clear hown2 hgr2 hor2 hbg2 hz22 hgl2 hcx2 hfx2 hn2
  refine hK.out _ _ hHx2 (fun hHeld => ?_)
  clear hK K
  try simp only [Act.put, List.setIfInBounds_toArray, List.set_cons_zero, List.set_cons_succ]
  (refine wpAnyH_ready (rs := [11]) (by kernel_rfl) (by simp) (AllReadyH.cons (o := _) rfl (fun K hK => ?_) AllReadyH.nil); go_simp; go_at_call 15; refine (HC2.out g2 cap2 _ (HGO.out.trans hHeld.2) i hin HROW.out.rows).mono ?_; rintro e w9 ⟨A5, c5, rfl, -, -, hb9⟩; refine hK.out _ _ (held_call hHeld hb9) (fun hHeld => ?_); clear hK K hb9)
  try simp only [Act.put, List.setIfInBounds_toArray, List.set_cons_zero, List.set_cons_succ]
  (refine take_at (i := 12) (oi := _) (d := some 38) (v := ?_) rfl rfl (by kernel_rfl) (by kernel_rfl) (by kernel_rfl) (fun _ _ _ h => h) (Or.inl ⟨by rfl, ?_⟩) hHeld ?_; rotate_left; next => (intro w hSw; (try dsimp only at hSw); go_simp; try with_reducible rfl))
  try simp only [Act.put, List.setIfInBounds_toArray, List.set_cons_zero, List.set_cons_succ]
  (refine take_at (i := 13) (oi := _) (d := some 51) (v := ?_) rfl rfl (by kernel_rfl) (by kernel_rfl) (by kernel_rfl) (fun _ _ _ h => h) (Or.inl ⟨by rfl, ?_⟩) hHeld ?_; rotate_left; next => (intro w hSw; (try dsimp only at hSw); go_simp; try with_reducible rfl))
  try simp only [Act.put, List.setIfInBounds_toArray, List.set_cons_zero, List.set_cons_succ]
  (refine take_at (i := 14) (oi := _) (d := some 52) (v := ?_) rfl rfl (by kernel_rfl) (by kernel_rfl) (by kernel_rfl) (fun _ _ _ h => h) (Or.inl ⟨by rfl, ?_⟩) hHeld ?_; rotate_left; next => (intro w hSw; (try dsimp only at hSw); go_simp; try with_reducible rfl))
  try simp only [Act.put, List.setIfInBounds_toArray, List.set_cons_zero, List.set_cons_succ]
  (refine take_at (i := 15) (oi := _) (d := some 11) (v := ?_) rfl rfl (by kernel_rfl) (by kernel_rfl) (by kernel_rfl) (fun _ _ _ h => h) (Or.inl ⟨by rfl, ?_⟩) hHeld ?_; rotate_left; next => (intro w hSw; (try dsimp only at hSw); go_simp; try with_reducible rfl))
  try simp only [Act.put, List.setIfInBounds_toArray, List.set_cons_zero, List.set_cons_succ]
  (refine take_at (i := 16) (oi := _) (d := some 12) (v := ?_) rfl rfl (by kernel_rfl) (by kernel_rfl) (by kernel_rfl) (fun _ _ _ h => h) (Or.inl ⟨by rfl, ?_⟩) hHeld ?_; rotate_left; next => (intro w hSw; (try dsimp only at hSw); go_simp; try with_reducible rfl))
  try simp only [Act.put, List.setIfInBounds_toArray, List.set_cons_zero, List.set_cons_succ]
  refine wpAnyH_done (by kernel_rfl) ?_ _
  go_wp2_with fail
  all_goals
    go_ret
    exact ⟨ret_bool (by first | rfl | (simp; done) | (simp; omega)), HGO.out.trans (hHeld.2.trans (by repeat (first | with_reducible exact Gr.refl _ | with_reducible refine Gr.alloc ?_ _ | with_reducible refine Gr.drew ?_ | with_reducible refine Gr.trans ?_ (by assumption) | with_reducible refine Gr.setCell ?_ (by (try simp); (try omega)) _)))⟩
theorem lfew_law (sv : Int) (O Q : Option Addr) (no co nf cq : Nat) (sp tl : Int) (o q : Nat → Nat → Int) (A : Option Addr) (n c : Nat) (f : Nat → Nat → Int) (w : World) (hP : Primes w) (hL : Logs w) (hO : RowsAt w 6 O no o) (hQ : RowsAt w 6 Q nf q) (hA : RowsAt w 6 A n f) (hno : no ≤ 9223372036854775807) (hnf : nf ≤ 9223372036854775807) (hn : n ≤ 9223372036854775807) (hnc : n ≤ c) (hs : 0 ≤ sv ∧ sv ≤ 255) :
    Calls Tryd.prog 10 #[.agg #[.slice O no co, .slice Q nf cq, .int .i64 sp, .int .i64 tl], .slice A n c, .int .u8 sv] w fun e w' => e = .returned (.bool true) ∧ Gr w w' := by
  rcases bool_tf (fewB no nf n) with hfew | hfew
  · by_cases hn0 : 0 < n
    · rcases chordE_cases no o nf q sp tl f n with ⟨h1, h2, l, h3, h4, h5⟩ | ⟨h1, h2⟩
      · obtain ⟨sn, rfl⟩ : ∃ k : Nat, sv = (k : Int) := ⟨sv.toNat, by omega⟩
        exact lfew_ok sn O Q no co nf cq sp tl o q A n c f w hP hL hO hQ hA hno hnf hn hnc (by omega) hfew hn0 h1 h2 (by rw [h3, h4.len, optsF_len])
      · exact lfew_err sv O Q no co nf cq sp tl o q A n c f w hP hL hO hQ hA hno hnf hn hfew hn0 h1 h2
    · exact lfew_few sv O Q no co nf cq sp tl A n c w hP hL (.inr ⟨hfew, by omega⟩)
  · exact lfew_few sv O Q no co nf cq sp tl A n c w hP hL (.inl hfew)
end Go.Proofs.YtohalcookjbaaaaDoor
