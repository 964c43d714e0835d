/-
  The law FretsTransposed.
-/
import Derived.Test.YtohalcookjbaaaaDoorLChords
import Derived.Test.YtohalcookjbaaaaDoorNkN
import Derived.Test.YtohalcookjbaaaaDoorOwnL
import Derived.Test.YtohalcookjbaaaaDoorHeld
import Derived.Test.YtohalcookjbaaaaDoorNkRV
import Derived.IntWalk
namespace Go.Proofs.YtohalcookjbaaaaDoor
open Go.RowKit

/-- The open strings, multiplied by an interval. -/
def trO (o : Nat → Nat → Int) (b : Nat → Int) (i j : Nat) : Int := o i j + b j * 12
/-- The notes, multiplied by an interval. -/
def trV (f : Nat → Nat → Int) (b : Nat → Int) (i j : Nat) : Int := f i j + b j
theorem plays_tr (o q f : Nat → Nat → Int) (b : Nat → Int) (tl : Int) (i s k : Nat) : playsF (trO o b) q tl (rowV (trV f b) i) s k = playsF o q tl (rowV f i) s k := by
  have e : (atV (rowV (trV f b) i)).sub (soundF (trO o b) q s k) = (atV (rowV f i)).sub (soundF o q s k) := by
    cases k <;> simp only [atV, rowV, soundF, V6.add, V6.sub, trO, trV, V6.mk.injEq] <;> refine ⟨?_, ?_, ?_, ?_, ?_, ?_⟩ <;> omega
  unfold playsF nearB
  rw [e]
theorem onS_congr {P Q : Nat → Nat → Bool} (s : Nat) (h : ∀ k, P s k = Q s k) : ∀ m, onS P s m = onS Q s m
  | 0 => rfl
  | m + 1 => by rw [onS, onS, onS_congr s h m, h m]
theorem onAll_congr {P Q : Nat → Nat → Bool} (h : ∀ s k, P s k = Q s k) (m : Nat) : ∀ n, onAll P m n = onAll Q m n
  | 0 => rfl
  | n + 1 => by rw [onAll, onAll, onAll_congr h m n, onS_congr n (h n) m]
theorem find_tr (no nf : Nat) (o q f : Nat → Nat → Int) (b : Nat → Int) (tl : Int) (i : Nat) : findF no (trO o b) nf q tl (rowV (trV f b) i) = findF no o nf q tl (rowV f i) := by
  have h := plays_tr o q f b tl i
  unfold findF
  generalize playsF (trO o b) q tl (rowV (trV f b) i) = P at *
  generalize playsF o q tl (rowV f i) = Q at *
  exact onAll_congr h (nf + 1) no
theorem opts_congr {F G : V6 → List (Nat × Nat)} {f g : Nat → Nat → Int} (h : ∀ i, F (rowV f i) = G (rowV g i)) (n : Nat) : optsF F f n = optsF G g n := by
  induction n with
  | zero => simp only [optsF]
  | succ n ih => simp only [optsF, ih, h n]
theorem opts_tr (no nf : Nat) (o q f : Nat → Nat → Int) (b : Nat → Int) (tl : Int) (n : Nat) : optsF (findF no (trO o b) nf q tl) (trV f b) n = optsF (findF no o nf q tl) f n :=
  opts_congr (find_tr no nf o q f b tl) n
theorem chord_tr {no nf n : Nat} {o q f : Nat → Nat → Int} {b : Nat → Int} {sp tl : Int} (h1 : chordOk no o nf q sp tl f n = true) (h2 : chordOk no (trO o b) nf q sp tl (trV f b) n = true) :
    chordE no (trO o b) nf q sp tl (trV f b) n = chordE no o nf q sp tl f n ∧ chordL no (trO o b) nf q sp tl (trV f b) n = chordL no o nf q sp tl f n := by
  unfold chordE chordL
  rw [if_pos h1, if_pos h2, if_pos h1, if_pos h2, opts_tr]
  exact ⟨rfl, rfl⟩

/-- The cells of the first n rows of six. -/
def rowCells (f : Nat → Nat → Int) : Nat → List Value
  | 0 => []
  | n + 1 => rowCells f n ++ [.int .i64 (f n 0), .int .i64 (f n 1), .int .i64 (f n 2), .int .i64 (f n 3), .int .i64 (f n 4), .int .i64 (f n 5)]
theorem rowCells_len (f : Nat → Nat → Int) (n : Nat) : (rowCells f n).length = n * 6 := by
  induction n with
  | zero => rfl
  | succ n ih => rw [rowCells, List.length_append, ih]; simp; omega
theorem rowCells_one (f : Nat → Nat → Int) (n : Nat) : ∀ u ∈ rowCells f n, u.oneCell' = true := by
  induction n with
  | zero => intro u hu; simp [rowCells] at hu
  | succ n ih =>
    intro u hu
    rw [rowCells, List.mem_append] at hu
    rcases hu with hu | hu
    · exact ih u hu
    · simp at hu; rcases hu with rfl | rfl | rfl | rfl | rfl | rfl <;> rfl
theorem rowCells_at (f : Nat → Nat → Int) (n : Nat) : ∀ i j, i < n → j < 6 → (rowCells f n)[i * 6 + j]? = some (.int .i64 (f i j)) := by
  induction n with
  | zero => intro i j hi; omega
  | succ n ih =>
    intro i j hi hj
    rw [rowCells]
    by_cases h : i < n
    · rw [List.getElem?_append_left (by rw [rowCells_len]; omega)]
      exact ih i j h hj
    · obtain rfl : i = n := by omega
      rw [List.getElem?_append_right (by rw [rowCells_len]; omega), rowCells_len]
      obtain rfl | rfl | rfl | rfl | rfl | rfl : j = 0 ∨ j = 1 ∨ j = 2 ∨ j = 3 ∨ j = 4 ∨ j = 5 := by omega
      all_goals simp
theorem rows_news {w : World} {b off n : Nat} {f : Nat → Nat → Int} (h : RowsAt w 6 (some ⟨b, off, none⟩) n f) : ∀ j u, (rowCells f n)[j]? = some u → w.cell? ((⟨b, off, none⟩ : Addr).add j) = some u := by
  intro j u hj
  have hlt := (List.getElem?_eq_some_iff.1 hj).1
  rw [rowCells_len] at hlt
  have hn : 0 < n := by omega
  obtain ⟨b', off', e, -, hc⟩ := h hn
  cases e
  have e1 := rowCells_at f n (j / 6) (j % 6) (by omega) (by omega)
  rw [show j / 6 * 6 + j % 6 = j by omega, hj] at e1
  cases e1
  have := hc (j / 6) (by omega) (j % 6) (by omega)
  rw [show off + j / 6 * 6 + j % 6 = off + j by omega] at this
  unfold Addr.add
  split
  · rename_i e0
    have : off + j = off := by omega
    simp_all
  · exact this
theorem gr_of_grown {W W' : World} (h : W.grownBy W' none) : Gr W W' := (Below.refl _ _).grown h (Nat.le_refl _) (fun _ h => by cases h)

theorem held_allocd {W X : World} (h : (∀ b o, (⟨min (b + 1) W.heap.size, 0, none⟩ : Addr) = ⟨b + 1, 0, none⟩ → X.drew.cell? ⟨b, o, none⟩ = W.cell? ⟨b, o, none⟩) ∧ Gr W X.drew) (x : Obj) : (∀ b o, (⟨min (b + 1) W.heap.size, 0, none⟩ : Addr) = ⟨b + 1, 0, none⟩ → (X.alloc x).drew.cell? ⟨b, o, none⟩ = W.cell? ⟨b, o, none⟩) ∧ Gr W (X.alloc x).drew := held_of (h.2.alloc x)

/-- n rows of six, f, lie at the head of block g, which may be written. -/
structure RowW (W : World) (g n : Nat) (f : Nat → Nat → Int) : Prop where
  lt : g < W.heap.size
  froz : ∀ o, W.frozen? ⟨g, o, none⟩ = false
  cell : ∀ i, i < n → ∀ j, j < 6 → W.cell? ⟨g, i * 6 + j, none⟩ = some (.int .i64 (f i j))
theorem RowW.keep {W W' : World} {g n : Nat} {f : Nat → Nat → Int} (h : RowW W g n f) (k : Gr W W') : RowW W' g n f :=
  ⟨Nat.lt_of_lt_of_le h.lt k.le, fun o => (Below.frozen (p := ⟨g, o, none⟩) k h.lt).trans (h.froz o), fun i hi j hj => (Below.cell (p := ⟨g, i * 6 + j, none⟩) k h.lt).trans (h.cell i hi j hj)⟩
theorem RowW.drew {W : World} {g n : Nat} {f : Nat → Nat → Int} (h : RowW W g n f) : RowW W.drew g n f := h.keep (Gr.refl W).drew
theorem RowW.other {W : World} {g n : Nat} {f : Nat → Nat → Int} (h : RowW W g n f) {p : Addr} (hp : p.block ≠ g) (v : Value) : RowW (W.setCell p v) g n f :=
  ⟨by simpa using h.lt, fun o => by rw [World.frozen?_setCell]; exact h.froz o, fun i hi j hj => by
    rw [World.cell?_setCell_other]
    · exact h.cell i hi j hj
    · rintro rfl; exact hp rfl⟩
theorem RowW.rows {W : World} {g n : Nat} {f : Nat → Nat → Int} (h : RowW W g n f) : RowsAt W 6 (some ⟨g, 0, none⟩) n f :=
  fun _ => ⟨g, 0, rfl, h.lt, fun i hi j hj => by rw [Nat.zero_add]; exact h.cell i hi j hj⟩
theorem rowW_of_own {W : World} {base e n cap g : Nat} {f : Nat → Nat → Int} (h : W.ownsRow base e 6 (.slice (some ⟨g, 0, none⟩) n cap) n (rowCells f n)) : RowW W g n f := by
  refine ⟨(h.lt g rfl).2, fun o => h.frozenAt o, fun i hi j hj => ?_⟩
  rw [h.cellAt (i * 6 + j) (by omega)]
  exact rowCells_at f n i j hi hj
/-- Row r is stored. -/
def setRow (f : Nat → Nat → Int) (r : Nat) (y : Nat → Int) : Nat → Nat → Int := fun i j => if i = r then y j else f i j
theorem RowW.store {W : World} {g n : Nat} {f : Nat → Nat → Int} (h : RowW W g n f) {r : Nat} (hr : r < n) (y : Nat → Int) :
    RowW ((((((W.setCell ⟨g, r * 6, none⟩ (.int .i64 (y 0))).setCell ⟨g, r * 6 + 1, none⟩ (.int .i64 (y 1))).setCell ⟨g, r * 6 + 2, none⟩ (.int .i64 (y 2))).setCell ⟨g, r * 6 + 3, none⟩ (.int .i64 (y 3))).setCell ⟨g, r * 6 + 4, none⟩ (.int .i64 (y 4))).setCell ⟨g, r * 6 + 5, none⟩ (.int .i64 (y 5))) g n (setRow f r y) := by
  refine ⟨by simpa using h.lt, fun o => by simp only [World.frozen?_setCell]; exact h.froz o, fun i hi j hj => ?_⟩
  have c0 := h.cell r hr 0 (by omega); have c1 := h.cell r hr 1 (by omega); have c2 := h.cell r hr 2 (by omega); have c3 := h.cell r hr 3 (by omega); have c4 := h.cell r hr 4 (by omega); have c5 := h.cell r hr 5 (by omega)
  rw [Nat.add_zero] at c0
  by_cases e : i = r
  · subst e
    obtain rfl | rfl | rfl | rfl | rfl | rfl : j = 0 ∨ j = 1 ∨ j = 2 ∨ j = 3 ∨ j = 4 ∨ j = 5 := by omega
    all_goals simp [go_sem, setRow, *]
  · have hc := h.cell i hi j hj
    rw [World.cell?_setCell_other, World.cell?_setCell_other, World.cell?_setCell_other, World.cell?_setCell_other, World.cell?_setCell_other, World.cell?_setCell_other]
    · rw [hc]; simp [setRow, e]
    all_goals
      intro e'
      have := congrArg Addr.off e'
      simp only at this
      omega
/-- Nine stores into one block. -/
def set9 (W : World) (B : Nat) (x0 x1 x2 x3 x4 x5 x6 x7 x8 : Value) : World :=
  ((((((((W.setCell ⟨B, 0, none⟩ x0).setCell ⟨B, 1, none⟩ x1).setCell ⟨B, 2, none⟩ x2).setCell ⟨B, 3, none⟩ x3).setCell ⟨B, 4, none⟩ x4).setCell ⟨B, 5, none⟩ x5).setCell ⟨B, 6, none⟩ x6).setCell ⟨B, 7, none⟩ x7).setCell ⟨B, 8, none⟩ x8
theorem set9_cells (W : World) (B : Nat) (x0 x1 x2 x3 x4 x5 x6 x7 x8 : Value) (h : cellsN W B = 9) :
    (set9 W B x0 x1 x2 x3 x4 x5 x6 x7 x8).cell? ⟨B, 0, none⟩ = some x0 ∧ (set9 W B x0 x1 x2 x3 x4 x5 x6 x7 x8).cell? ⟨B, 1, none⟩ = some x1 ∧ (set9 W B x0 x1 x2 x3 x4 x5 x6 x7 x8).cell? ⟨B, 2, none⟩ = some x2 ∧ (set9 W B x0 x1 x2 x3 x4 x5 x6 x7 x8).cell? ⟨B, 3, none⟩ = some x3 ∧
    (set9 W B x0 x1 x2 x3 x4 x5 x6 x7 x8).cell? ⟨B, 4, none⟩ = some x4 ∧ (set9 W B x0 x1 x2 x3 x4 x5 x6 x7 x8).cell? ⟨B, 5, none⟩ = some x5 ∧ (set9 W B x0 x1 x2 x3 x4 x5 x6 x7 x8).cell? ⟨B, 6, none⟩ = some x6 ∧ (set9 W B x0 x1 x2 x3 x4 x5 x6 x7 x8).cell? ⟨B, 7, none⟩ = some x7 ∧ (set9 W B x0 x1 x2 x3 x4 x5 x6 x7 x8).cell? ⟨B, 8, none⟩ = some x8 := by
  unfold set9
  refine ⟨?_, ?_, ?_, ?_, ?_, ?_, ?_, ?_, ?_⟩ <;> simp [go_sem, h]
theorem set9_row {W : World} {g n : Nat} {f : Nat → Nat → Int} (h : RowW W g n f) {B : Nat} (hB : B ≠ g) (x0 x1 x2 x3 x4 x5 x6 x7 x8 : Value) : RowW (set9 W B x0 x1 x2 x3 x4 x5 x6 x7 x8) g n f :=
  ((((((((h.other hB _).other hB _).other hB _).other hB _).other hB _).other hB _).other hB _).other hB _).other hB _
theorem set9_size (W : World) (B : Nat) (x0 x1 x2 x3 x4 x5 x6 x7 x8 : Value) : (set9 W B x0 x1 x2 x3 x4 x5 x6 x7 x8).heap.size = W.heap.size := by simp [set9]
/-- Row r of block g is stored. -/
def setR (W : World) (g r : Nat) (y0 y1 y2 y3 y4 y5 : Int) : World :=
  (((((W.setCell ⟨g, r * 6, none⟩ (.int .i64 y0)).setCell ⟨g, r * 6 + 1, none⟩ (.int .i64 y1)).setCell ⟨g, r * 6 + 2, none⟩ (.int .i64 y2)).setCell ⟨g, r * 6 + 3, none⟩ (.int .i64 y3)).setCell ⟨g, r * 6 + 4, none⟩ (.int .i64 y4)).setCell ⟨g, r * 6 + 5, none⟩ (.int .i64 y5)
theorem setR_row {W : World} {g n : Nat} {f : Nat → Nat → Int} (h : RowW W g n f) {r : Nat} (hr : r < n) (y : Nat → Int) : RowW (setR W g r (y 0) (y 1) (y 2) (y 3) (y 4) (y 5)) g n (setRow f r y) := h.store hr y
theorem setR_other (W : World) (g r : Nat) (y0 y1 y2 y3 y4 y5 : Int) {p : Addr} (hp : p.block ≠ g) : (setR W g r y0 y1 y2 y3 y4 y5).cell? p = W.cell? p := by
  unfold setR
  rw [World.cell?_setCell_other, World.cell?_setCell_other, World.cell?_setCell_other, World.cell?_setCell_other, World.cell?_setCell_other, World.cell?_setCell_other]
  all_goals (rintro rfl; exact hp rfl)
theorem setR_gr {W0 W : World} (h : Gr W0 W) {g : Nat} (hg : W0.heap.size ≤ g) (r : Nat) (y0 y1 y2 y3 y4 y5 : Int) : Gr W0 (setR W g r y0 y1 y2 y3 y4 y5) :=
  (((((h.setCell hg _).setCell hg _).setCell hg _).setCell hg _).setCell hg _).setCell hg _
theorem setR_size (W : World) (g r : Nat) (y0 y1 y2 y3 y4 y5 : Int) : (setR W g r y0 y1 y2 y3 y4 y5).heap.size = W.heap.size := by simp [setR]
theorem setRd_other (W : World) (g r : Nat) (y0 y1 y2 y3 y4 y5 : Int) {p : Addr} (hp : p.block ≠ g) : (setR W g r y0 y1 y2 y3 y4 y5).drew.cell? p = W.cell? p := by
  rw [World.cell?_drew]; exact setR_other W g r y0 y1 y2 y3 y4 y5 hp
theorem setRd_size (W : World) (g r : Nat) (y0 y1 y2 y3 y4 y5 : Int) : (setR W g r y0 y1 y2 y3 y4 y5).drew.heap.size = W.heap.size := by simp [setR]
theorem RowW.congr {W : World} {g n : Nat} {f f' : Nat → Nat → Int} (h : RowW W g n f) (e : ∀ i, i < n → ∀ j, j < 6 → f i j = f' i j) : RowW W g n f' := ⟨h.lt, h.froz, fun i hi j hj => by rw [h.cell i hi j hj, e i hi j hj]⟩
theorem RowW.six {W : World} {g n : Nat} {f : Nat → Nat → Int} (h : RowW W g n f) {r : Nat} (hr : r < n) : W.cell? ⟨g, r * 6, none⟩ = some (.int .i64 (f r 0)) ∧ W.cell? ⟨g, r * 6 + 1, none⟩ = some (.int .i64 (f r 1)) ∧ W.cell? ⟨g, r * 6 + 2, none⟩ = some (.int .i64 (f r 2)) ∧ W.cell? ⟨g, r * 6 + 3, none⟩ = some (.int .i64 (f r 3)) ∧ W.cell? ⟨g, r * 6 + 4, none⟩ = some (.int .i64 (f r 4)) ∧ W.cell? ⟨g, r * 6 + 5, none⟩ = some (.int .i64 (f r 5)) :=
  ⟨h.cell r hr 0 (by omega), h.cell r hr 1 (by omega), h.cell r hr 2 (by omega), h.cell r hr 3 (by omega), h.cell r hr 4 (by omega), h.cell r hr 5 (by omega)⟩

/-- The record stands in block W1.heap.size, made behind W1; its open strings are a row of the call's own. -/
structure StM (W1 : World) (Q : Option Addr) (nf cq : Nat) (sp tl : Int) (W : World) (k : Nat) (xs : List Value) (v : Value) : Prop where
  gr : Gr W1 W
  sz : W1.heap.size + 1 ≤ W.heap.size
  lc : W.cell? ⟨W1.heap.size, 0, none⟩ = some v
  c1 : W.cell? ⟨W1.heap.size, 1, none⟩ = some (.slice Q nf cq)
  c2 : W.cell? ⟨W1.heap.size, 2, none⟩ = some (.int .i64 sp)
  c3 : W.cell? ⟨W1.heap.size, 3, none⟩ = some (.int .i64 tl)
  lf : W.frozen? ⟨W1.heap.size, 0, none⟩ = false
  own : W.ownsRow (W1.heap.size + 1) 39 6 v k xs
theorem StM.keep {W1 W W' : World} {Q : Option Addr} {nf cq k : Nat} {sp tl : Int} {xs : List Value} {v : Value} (h : StM W1 Q nf cq sp tl W k xs v) (g : Gr W W') : StM W1 Q nf cq sp tl W' k xs v := by
  have hs : W1.heap.size < W.heap.size := by have := h.sz; omega
  exact ⟨h.gr.trans g, Nat.le_trans h.sz g.le, (Below.cell (p := ⟨W1.heap.size, 0, none⟩) g hs).trans h.lc, (Below.cell (p := ⟨W1.heap.size, 1, none⟩) g hs).trans h.c1, (Below.cell (p := ⟨W1.heap.size, 2, none⟩) g hs).trans h.c2, (Below.cell (p := ⟨W1.heap.size, 3, none⟩) g hs).trans h.c3, (Below.frozen (p := ⟨W1.heap.size, 0, none⟩) g hs).trans h.lf, own_keep h.own g⟩
/-- Behind an append and the store into the record. -/
theorem StM.push {W1 W X w3 : World} {Q : Option Addr} {nf cq k k' : Nat} {sp tl : Int} {xs xs' : List Value} {v v' : Value} (h : StM W1 Q nf cq sp tl W k xs v) (g1 : Gr W X)
    (hown : w3.ownsRow (W1.heap.size + 1) 39 6 v' k' xs') (hgrow : X.grownBy w3 v.ownBlock) :
    StM W1 Q nf cq sp tl (w3.setCell ⟨W1.heap.size, 0, none⟩ v') k' xs' v' := by
  have hX := h.keep g1
  have hlow : ∀ j, v.ownBlock = some j → W1.heap.size + 1 ≤ j := fun j e => (h.own.lt j e).1
  have b1 : Below (W1.heap.size + 1) X w3 := (Below.refl _ _).grown hgrow hX.sz hlow
  have hz3 : W1.heap.size + 1 ≤ w3.heap.size := Nat.le_trans hX.sz hgrow.size
  have hlt : W1.heap.size < W1.heap.size + 1 := by omega
  have hcl : w3.cell? ⟨W1.heap.size, 0, none⟩ = some v := (b1.cell (p := ⟨W1.heap.size, 0, none⟩) hlt).trans hX.lc
  refine ⟨?_, by rw [World.size_setCell]; exact hz3, ?_, ?_, ?_, ?_, ?_, ?_⟩
  · exact (Below.trans hX.gr (Below.mono b1 (by omega))).setCell (Nat.le_refl _) _
  · simp [go_sem, hcl]
  · have := (b1.cell (p := ⟨W1.heap.size, 1, none⟩) hlt).trans hX.c1
    simp [go_sem, this]
  · have := (b1.cell (p := ⟨W1.heap.size, 2, none⟩) hlt).trans hX.c2
    simp [go_sem, this]
  · have := (b1.cell (p := ⟨W1.heap.size, 3, none⟩) hlt).trans hX.c3
    simp [go_sem, this]
  · rw [World.frozen?_setCell]
    exact (b1.frozen (p := ⟨W1.heap.size, 0, none⟩) hlt).trans hX.lf
  · refine hown.kept (Go.grownBy_setCell' w3 W1.heap.size _) (.inr ?_)
    intro e
    have := (hown.lt _ e).1
    omega
/-- What stands in the record behind an append, ahead of the store. -/
theorem StM.lb {W1 W X w3 : World} {Q : Option Addr} {nf cq k : Nat} {sp tl : Int} {xs : List Value} {v : Value} (h : StM W1 Q nf cq sp tl W k xs v) (g1 : Gr W X) (hgrow : X.grownBy w3 v.ownBlock) : w3.cell? ⟨W1.heap.size, 0, none⟩ = some v ∧ w3.frozen? ⟨W1.heap.size, 0, none⟩ = false := by
  have hX := h.keep g1
  have hlow : ∀ j, v.ownBlock = some j → W1.heap.size + 1 ≤ j := fun j e => (h.own.lt j e).1
  have b1 : Below (W1.heap.size + 1) X w3 := (Below.refl _ _).grown hgrow hX.sz hlow
  have hlt : W1.heap.size < W1.heap.size + 1 := by omega
  exact ⟨(b1.cell (p := ⟨W1.heap.size, 0, none⟩) hlt).trans hX.lc, (b1.frozen (p := ⟨W1.heap.size, 0, none⟩) hlt).trans hX.lf⟩

set_option maxRecDepth 100000 in
set_option maxHeartbeats 16000000 in
theorem ltr_skip (v0 v1 v2 v3 v4 v5 : Int) (O Q : Option Addr) (no co nf cq : Nat) (sp tl : Int) (o q : Nat → Nat → Int) (A : Option Addr) (n c : Nat) (w : World) (hP : Primes w) (hL : Logs w) (hO : RowsAt w 6 O no o) (hQ : RowsAt w 6 Q nf q) (hno : no ≤ 9223372036854775807) (hnf : nf ≤ 9223372036854775807) (hbad : (fewB no nf n && (neckB no o nf q sp tl && allIn ⟨v0, v1, v2, v3, v4, v5⟩ 48 6)) = false) :
    Calls Tryd.prog 7 #[.agg #[.slice O no co, .slice Q nf cq, .int .i64 sp, .int .i64 tl], .slice A n c, .agg #[.int .i64 v0, .int .i64 v1, .int .i64 v2, .int .i64 v3, .int .i64 v4, .int .i64 v5]] w fun e w' => e = .returned (.bool true) ∧ Gr w w' := by
  have HP := Lib.hid hP; have HL := Lib.hid hL
  have hF := fun W => few_any O Q A no co nf cq n c sp tl W
  have hV := fun W (g : Gr w W) => rneck_any O Q no co nf cq sp tl o q W (hO.keep g) (hQ.keep g) hno hnf
  clear hP hL hO hQ
  rcases bool_tf (allIn ⟨v0, v1, v2, v3, v4, v5⟩ 48 6) with h3 | h3
  · have HOF := Lib.hid (fun W => pof_ok v0 v1 v2 v3 v4 v5 W h3)
    rw [h3, Bool.and_true] at hbad
    rcases bool_tf (fewB no nf n) with h1 | h1
    · rw [h1] at hF
      have HF := Lib.hid hF
      rw [h1, Bool.true_and] at hbad
      rw [hbad] at hV
      have HV := Lib.hid hV
      clear hF hV hbad h1 h3
      go_enter Tryd.func7, Tryd.ntmps7
      go_wp2_with fail
      (go_at_call 11; with_reducible refine (fhead_any _ (HP.out.keep (by repeat (first | with_reducible exact Gr.refl _ | with_reducible refine Gr.alloc ?_ _ | with_reducible refine Gr.drew ?_ | with_reducible refine Gr.trans ?_ (by assumption) | with_reducible refine Gr.setCell ?_ (by (try simp); (try omega)) _))) (HL.out.keep (by repeat (first | with_reducible exact Gr.refl _ | with_reducible refine Gr.alloc ?_ _ | with_reducible refine Gr.drew ?_ | with_reducible refine Gr.trans ?_ (by assumption) | with_reducible refine Gr.setCell ?_ (by (try simp); (try omega)) _)))).mono ?_; rintro e w' ⟨rfl, hb⟩; have hz := hb.le; obtain ⟨hc, hf⟩ := hb.cells; have hn := hb.cellsN; (try simp only [World.size_alloc] at hc hf hz hn); (try simp only [World.size_setCell] at hc hf hz hn); (try simp only [World.size_drew] at hc hf hz hn))
      go_wp2_with fail
      (go_at_call 28; with_reducible refine (HOF.out _).mono ?_; rintro e w' ⟨rfl, hb⟩; have hz := hb.le; obtain ⟨hc, hf⟩ := hb.cells; have hn := hb.cellsN; (try simp only [World.size_alloc] at hc hf hz hn); (try simp only [World.size_setCell] at hc hf hz hn); (try simp only [World.size_drew] at hc hf hz hn))
      go_wp2_with fail
      (go_at_call 12; with_reducible refine (HF.out _).mono ?_; rintro e w' ⟨rfl, hb⟩; have hz := hb.le; obtain ⟨hc, hf⟩ := hb.cells; have hn := hb.cellsN; (try simp only [World.size_alloc] at hc hf hz hn); (try simp only [World.size_setCell] at hc hf hz hn); (try simp only [World.size_drew] at hc hf hz hn))
      go_wp2_with fail
      (go_at_call 14; with_reducible refine (HV.out _ (by repeat (first | with_reducible exact Gr.refl _ | with_reducible refine Gr.alloc ?_ _ | with_reducible refine Gr.drew ?_ | with_reducible refine Gr.trans ?_ (by assumption) | with_reducible refine Gr.setCell ?_ (by (try simp); (try omega)) _))).mono ?_; rintro e w' ⟨rfl, hb⟩; have hz := hb.le; obtain ⟨hc, hf⟩ := hb.cells; have hn := hb.cellsN; (try simp only [World.size_alloc] at hc hf hz hn); (try simp only [World.size_setCell] at hc hf hz hn); (try simp only [World.size_drew] at hc hf hz hn))
      go_wp2_with fail
      go_ret
      exact ⟨rfl, (by repeat (first | with_reducible exact Gr.refl _ | with_reducible refine Gr.alloc ?_ _ | with_reducible refine Gr.drew ?_ | with_reducible refine Gr.trans ?_ (by assumption) | with_reducible refine Gr.setCell ?_ (by (try simp); (try omega)) _))⟩
    · rw [h1] at hF
      have HF := Lib.hid hF
      clear hF hV hbad h1 h3
      go_enter Tryd.func7, Tryd.ntmps7
      go_wp2_with fail
      (go_at_call 11; with_reducible refine (fhead_any _ (HP.out.keep (by repeat (first | with_reducible exact Gr.refl _ | with_reducible refine Gr.alloc ?_ _ | with_reducible refine Gr.drew ?_ | with_reducible refine Gr.trans ?_ (by assumption) | with_reducible refine Gr.setCell ?_ (by (try simp); (try omega)) _))) (HL.out.keep (by repeat (first | with_reducible exact Gr.refl _ | with_reducible refine Gr.alloc ?_ _ | with_reducible refine Gr.drew ?_ | with_reducible refine Gr.trans ?_ (by assumption) | with_reducible refine Gr.setCell ?_ (by (try simp); (try omega)) _)))).mono ?_; rintro e w' ⟨rfl, hb⟩; have hz := hb.le; obtain ⟨hc, hf⟩ := hb.cells; have hn := hb.cellsN; (try simp only [World.size_alloc] at hc hf hz hn); (try simp only [World.size_setCell] at hc hf hz hn); (try simp only [World.size_drew] at hc hf hz hn))
      go_wp2_with fail
      (go_at_call 28; with_reducible refine (HOF.out _).mono ?_; rintro e w' ⟨rfl, hb⟩; have hz := hb.le; obtain ⟨hc, hf⟩ := hb.cells; have hn := hb.cellsN; (try simp only [World.size_alloc] at hc hf hz hn); (try simp only [World.size_setCell] at hc hf hz hn); (try simp only [World.size_drew] at hc hf hz hn))
      go_wp2_with fail
      (go_at_call 12; with_reducible refine (HF.out _).mono ?_; rintro e w' ⟨rfl, hb⟩; have hz := hb.le; obtain ⟨hc, hf⟩ := hb.cells; have hn := hb.cellsN; (try simp only [World.size_alloc] at hc hf hz hn); (try simp only [World.size_setCell] at hc hf hz hn); (try simp only [World.size_drew] at hc hf hz hn))
      go_wp2_with fail
      go_ret
      exact ⟨rfl, (by repeat (first | with_reducible exact Gr.refl _ | with_reducible refine Gr.alloc ?_ _ | with_reducible refine Gr.drew ?_ | with_reducible refine Gr.trans ?_ (by assumption) | with_reducible refine Gr.setCell ?_ (by (try simp); (try omega)) _))⟩
  · have HOF := Lib.hid (fun W => pof_bad v0 v1 v2 v3 v4 v5 W h3)
    clear hbad h3
    rcases bool_tf (fewB no nf n) with h1 | h1
    · rw [h1] at hF
      have HF := Lib.hid hF
      clear hF h1
      rcases bool_tf (neckB no o nf q sp tl) with h2 | h2
      · rw [h2] at hV
        have HV := Lib.hid hV
        clear hV h2
        go_enter Tryd.func7, Tryd.ntmps7
        go_wp2_with fail
        (go_at_call 11; with_reducible refine (fhead_any _ (HP.out.keep (by repeat (first | with_reducible exact Gr.refl _ | with_reducible refine Gr.alloc ?_ _ | with_reducible refine Gr.drew ?_ | with_reducible refine Gr.trans ?_ (by assumption) | with_reducible refine Gr.setCell ?_ (by (try simp); (try omega)) _))) (HL.out.keep (by repeat (first | with_reducible exact Gr.refl _ | with_reducible refine Gr.alloc ?_ _ | with_reducible refine Gr.drew ?_ | with_reducible refine Gr.trans ?_ (by assumption) | with_reducible refine Gr.setCell ?_ (by (try simp); (try omega)) _)))).mono ?_; rintro e w' ⟨rfl, hb⟩; have hz := hb.le; obtain ⟨hc, hf⟩ := hb.cells; have hn := hb.cellsN; (try simp only [World.size_alloc] at hc hf hz hn); (try simp only [World.size_setCell] at hc hf hz hn); (try simp only [World.size_drew] at hc hf hz hn))
        go_wp2_with fail
        (go_at_call 28; with_reducible refine (HOF.out _).mono ?_; rintro e w' ⟨rfl, hb⟩; have hz := hb.le; obtain ⟨hc, hf⟩ := hb.cells; have hn := hb.cellsN; (try simp only [World.size_alloc] at hc hf hz hn); (try simp only [World.size_setCell] at hc hf hz hn); (try simp only [World.size_drew] at hc hf hz hn))
        go_wp2_with fail
        (go_at_call 12; with_reducible refine (HF.out _).mono ?_; rintro e w' ⟨rfl, hb⟩; have hz := hb.le; obtain ⟨hc, hf⟩ := hb.cells; have hn := hb.cellsN; (try simp only [World.size_alloc] at hc hf hz hn); (try simp only [World.size_setCell] at hc hf hz hn); (try simp only [World.size_drew] at hc hf hz hn))
        go_wp2_with fail
        (go_at_call 14; with_reducible refine (HV.out _ (by repeat (first | with_reducible exact Gr.refl _ | with_reducible refine Gr.alloc ?_ _ | with_reducible refine Gr.drew ?_ | with_reducible refine Gr.trans ?_ (by assumption) | with_reducible refine Gr.setCell ?_ (by (try simp); (try omega)) _))).mono ?_; rintro e w' ⟨rfl, hb⟩; have hz := hb.le; obtain ⟨hc, hf⟩ := hb.cells; have hn := hb.cellsN; (try simp only [World.size_alloc] at hc hf hz hn); (try simp only [World.size_setCell] at hc hf hz hn); (try simp only [World.size_drew] at hc hf hz hn))
        go_wp2_with fail
        go_ret
        exact ⟨rfl, (by repeat (first | with_reducible exact Gr.refl _ | with_reducible refine Gr.alloc ?_ _ | with_reducible refine Gr.drew ?_ | with_reducible refine Gr.trans ?_ (by assumption) | with_reducible refine Gr.setCell ?_ (by (try simp); (try omega)) _))⟩
      · rw [h2] at hV
        have HV := Lib.hid hV
        clear hV h2
        go_enter Tryd.func7, Tryd.ntmps7
        go_wp2_with fail
        (go_at_call 11; with_reducible refine (fhead_any _ (HP.out.keep (by repeat (first | with_reducible exact Gr.refl _ | with_reducible refine Gr.alloc ?_ _ | with_reducible refine Gr.drew ?_ | with_reducible refine Gr.trans ?_ (by assumption) | with_reducible refine Gr.setCell ?_ (by (try simp); (try omega)) _))) (HL.out.keep (by repeat (first | with_reducible exact Gr.refl _ | with_reducible refine Gr.alloc ?_ _ | with_reducible refine Gr.drew ?_ | with_reducible refine Gr.trans ?_ (by assumption) | with_reducible refine Gr.setCell ?_ (by (try simp); (try omega)) _)))).mono ?_; rintro e w' ⟨rfl, hb⟩; have hz := hb.le; obtain ⟨hc, hf⟩ := hb.cells; have hn := hb.cellsN; (try simp only [World.size_alloc] at hc hf hz hn); (try simp only [World.size_setCell] at hc hf hz hn); (try simp only [World.size_drew] at hc hf hz hn))
        go_wp2_with fail
        (go_at_call 28; with_reducible refine (HOF.out _).mono ?_; rintro e w' ⟨rfl, hb⟩; have hz := hb.le; obtain ⟨hc, hf⟩ := hb.cells; have hn := hb.cellsN; (try simp only [World.size_alloc] at hc hf hz hn); (try simp only [World.size_setCell] at hc hf hz hn); (try simp only [World.size_drew] at hc hf hz hn))
        go_wp2_with fail
        (go_at_call 12; with_reducible refine (HF.out _).mono ?_; rintro e w' ⟨rfl, hb⟩; have hz := hb.le; obtain ⟨hc, hf⟩ := hb.cells; have hn := hb.cellsN; (try simp only [World.size_alloc] at hc hf hz hn); (try simp only [World.size_setCell] at hc hf hz hn); (try simp only [World.size_drew] at hc hf hz hn))
        go_wp2_with fail
        (go_at_call 14; with_reducible refine (HV.out _ (by repeat (first | with_reducible exact Gr.refl _ | with_reducible refine Gr.alloc ?_ _ | with_reducible refine Gr.drew ?_ | with_reducible refine Gr.trans ?_ (by assumption) | with_reducible refine Gr.setCell ?_ (by (try simp); (try omega)) _))).mono ?_; rintro e w' ⟨rfl, hb⟩; have hz := hb.le; obtain ⟨hc, hf⟩ := hb.cells; have hn := hb.cellsN; (try simp only [World.size_alloc] at hc hf hz hn); (try simp only [World.size_setCell] at hc hf hz hn); (try simp only [World.size_drew] at hc hf hz hn))
        go_wp2_with fail
        go_ret
        exact ⟨rfl, (by repeat (first | with_reducible exact Gr.refl _ | with_reducible refine Gr.alloc ?_ _ | with_reducible refine Gr.drew ?_ | with_reducible refine Gr.trans ?_ (by assumption) | with_reducible refine Gr.setCell ?_ (by (try simp); (try omega)) _))⟩
    · rw [h1] at hF
      have HF := Lib.hid hF
      clear hF hV h1
      go_enter Tryd.func7, Tryd.ntmps7
      go_wp2_with fail
      (go_at_call 11; with_reducible refine (fhead_any _ (HP.out.keep (by repeat (first | with_reducible exact Gr.refl _ | with_reducible refine Gr.alloc ?_ _ | with_reducible refine Gr.drew ?_ | with_reducible refine Gr.trans ?_ (by assumption) | with_reducible refine Gr.setCell ?_ (by (try simp); (try omega)) _))) (HL.out.keep (by repeat (first | with_reducible exact Gr.refl _ | with_reducible refine Gr.alloc ?_ _ | with_reducible refine Gr.drew ?_ | with_reducible refine Gr.trans ?_ (by assumption) | with_reducible refine Gr.setCell ?_ (by (try simp); (try omega)) _)))).mono ?_; rintro e w' ⟨rfl, hb⟩; have hz := hb.le; obtain ⟨hc, hf⟩ := hb.cells; have hn := hb.cellsN; (try simp only [World.size_alloc] at hc hf hz hn); (try simp only [World.size_setCell] at hc hf hz hn); (try simp only [World.size_drew] at hc hf hz hn))
      go_wp2_with fail
      (go_at_call 28; with_reducible refine (HOF.out _).mono ?_; rintro e w' ⟨rfl, hb⟩; have hz := hb.le; obtain ⟨hc, hf⟩ := hb.cells; have hn := hb.cellsN; (try simp only [World.size_alloc] at hc hf hz hn); (try simp only [World.size_setCell] at hc hf hz hn); (try simp only [World.size_drew] at hc hf hz hn))
      go_wp2_with fail
      (go_at_call 12; with_reducible refine (HF.out _).mono ?_; rintro e w' ⟨rfl, hb⟩; have hz := hb.le; obtain ⟨hc, hf⟩ := hb.cells; have hn := hb.cellsN; (try simp only [World.size_alloc] at hc hf hz hn); (try simp only [World.size_setCell] at hc hf hz hn); (try simp only [World.size_drew] at hc hf hz hn))
      go_wp2_with fail
      go_ret
      exact ⟨rfl, (by repeat (first | with_reducible exact Gr.refl _ | with_reducible refine Gr.alloc ?_ _ | with_reducible refine Gr.drew ?_ | with_reducible refine Gr.trans ?_ (by assumption) | with_reducible refine Gr.setCell ?_ (by (try simp); (try omega)) _))⟩
theorem cell_six_new (w : World) (x0 x1 x2 x3 x4 x5 : Value) (t : TypeId) : ∀ j u, [x0, x1, x2, x3, x4, x5][j]? = some u → (w.alloc (.cells #[x0, x1, x2, x3, x4, x5] t)).cell? ((⟨w.heap.size, 0, none⟩ : Addr).add j) = some u := by
  intro j u hj
  have hlt := (List.getElem?_eq_some_iff.1 hj).1
  simp only [List.length_cons, List.length_nil] at hlt
  obtain rfl | rfl | rfl | rfl | rfl | rfl : j = 0 ∨ j = 1 ∨ j = 2 ∨ j = 3 ∨ j = 4 ∨ j = 5 := by omega
  all_goals
    simp at hj
    subst hj
    simp [go_sem, Addr.add]
/-- The numbers of an interval. -/
def bV (v0 v1 v2 v3 v4 v5 : Int) : Nat → Int
  | 0 => v0
  | 1 => v1
  | 2 => v2
  | 3 => v3
  | 4 => v4
  | _ => v5
set_option maxRecDepth 100000 in
set_option maxHeartbeats 16000000 in
theorem ltr_ok (v0 v1 v2 v3 v4 v5 : Int) (O Q : Option Addr) (no co nf cq : Nat) (sp tl : Int) (o q : Nat → Nat → Int) (A : Option Addr) (n c : Nat) (f : Nat → Nat → Int) (w : World) (hP : Primes w) (hL : Logs w) (hO : RowsAt w 6 O no o) (hQ : RowsAt w 6 Q nf q) (hA : RowsAt w 6 A n f) (hno : no ≤ 9223372036854775807) (hnf : nf ≤ 9223372036854775807) (hgood : (fewB no nf n && (neckB no o nf q sp tl && allIn ⟨v0, v1, v2, v3, v4, v5⟩ 48 6)) = true) :
    Calls Tryd.prog 7 #[.agg #[.slice O no co, .slice Q nf cq, .int .i64 sp, .int .i64 tl], .slice A n c, .agg #[.int .i64 v0, .int .i64 v1, .int .i64 v2, .int .i64 v3, .int .i64 v4, .int .i64 v5]] w fun e w' => e = .returned (.bool true) ∧ Gr w w' := by
  simp only [Bool.and_eq_true] at hgood
  obtain ⟨hfew, hok, hv⟩ := hgood
  have hn4 : no ≤ 6 ∧ nf ≤ 15 ∧ n ≤ 4 := by simpa [fewB] using hfew
  have HP := Lib.hid hP; have HL := Lib.hid hL
  have hF := fun W => few_any O Q A no co nf cq n c sp tl W
  have hV := fun W (g : Gr w W) => rneck_any O Q no co nf cq sp tl o q W (hO.keep g) (hQ.keep g) hno hnf
  rw [hfew] at hF
  rw [hok] at hV
  have HF := Lib.hid hF; have HV := Lib.hid hV; have HOF := Lib.hid (fun W => pof_ok v0 v1 v2 v3 v4 v5 W hv)
  have HOO := Lib.hid hO; have HQQ := Lib.hid hQ; have HAA := Lib.hid hA
  have HOK := Lib.hid hok; have HGV := Lib.hid (allIn_get hv)
  obtain ⟨i0, hinfo, hz0, hz1, hz2⟩ := info_parts (show (Tryd.prog.info? 39).map (fun i => (i.zero, i.size, i.bytes)) = some (some (.agg #[.int .i64 0, .int .i64 0, .int .i64 0, .int .i64 0, .int .i64 0, .int .i64 0]), 6, 48) by kernel_rfl)
  have HINF := Lib.hid (And.intro hinfo (And.intro hz0 (And.intro hz1 hz2)))
  clear hinfo hz0 hz1 hz2
  obtain ⟨i1, hinfo, hz0, hz1, hz2⟩ := info_parts (show (Tryd.prog.info? 42).map (fun i => (i.zero, i.size, i.bytes)) = some (some (.agg #[.int .i64 0, .int .i64 0, .int .i64 0, .int .i64 0, .int .i64 0, .int .i64 0]), 6, 48) by kernel_rfl)
  have HINFV := Lib.hid (And.intro hinfo (And.intro hz0 (And.intro hz1 hz2)))
  clear hinfo hz0 hz1 hz2
  have HVB := Lib.hid (atV_in hv)
  have HOP := Lib.hid (fun i (hi : i < no) => (opensB_at (neckB_parts hok).2.2 hi).1)
  clear hF hV hfew hP hL hO hQ hA hok hv
  go_enter Tryd.func7, Tryd.ntmps7
  go_wp2_with fail
  (go_at_call 11; with_reducible refine (fhead_any _ (HP.out.keep (by repeat (first | with_reducible exact Gr.refl _ | with_reducible refine Gr.alloc ?_ _ | with_reducible refine Gr.drew ?_ | with_reducible refine Gr.trans ?_ (by assumption) | with_reducible refine Gr.setCell ?_ (by (try simp); (try omega)) _))) (HL.out.keep (by repeat (first | with_reducible exact Gr.refl _ | with_reducible refine Gr.alloc ?_ _ | with_reducible refine Gr.drew ?_ | with_reducible refine Gr.trans ?_ (by assumption) | with_reducible refine Gr.setCell ?_ (by (try simp); (try omega)) _)))).mono ?_; rintro e w' ⟨rfl, hb⟩; have hz := hb.le; obtain ⟨hc, hf⟩ := hb.cells; have hn := hb.cellsN; (try simp only [World.size_alloc] at hc hf hz hn); (try simp only [World.size_setCell] at hc hf hz hn); (try simp only [World.size_drew] at hc hf hz hn))
  go_wp2_with fail
  (go_at_call 28; with_reducible refine (HOF.out _).mono ?_; rintro e w' ⟨rfl, hb⟩; have hz := hb.le; obtain ⟨hc, hf⟩ := hb.cells; have hn := hb.cellsN; (try simp only [World.size_alloc] at hc hf hz hn); (try simp only [World.size_setCell] at hc hf hz hn); (try simp only [World.size_drew] at hc hf hz hn))
  go_upto_region 3 with fail
  have hNK : NeckAt w' w.heap.size O Q no co nf cq sp tl := ⟨by omega, by simp [go_sem, *], by simp [go_sem, *], by simp [go_sem, *], by simp [go_sem, *]⟩
  have hS6 : SixV w' (w.heap.size + 1) (.int .i64 v0) (.int .i64 v1) (.int .i64 v2) (.int .i64 v3) (.int .i64 v4) (.int .i64 v5) := ⟨by simp [go_sem, *], by simp [go_sem, *], by simp [go_sem, *], by simp [go_sem, *], by simp [go_sem, *], by simp [go_sem, *]⟩
  have hz6 : w.heap.size + 1 < w'.heap.size := by omega
  have HG := Lib.hid (show Gr w w' from (by repeat (first | with_reducible exact Gr.refl _ | with_reducible refine Gr.alloc ?_ _ | with_reducible refine Gr.drew ?_ | with_reducible refine Gr.trans ?_ (by assumption) | with_reducible refine Gr.setCell ?_ (by (try simp); (try omega)) _)))
  clear hb hz hc hf hn HOF
  have v0' : ∀ W, W = w'.alloc (.cells #[.int .i64 (v0 * 12), .int .i64 (v1 * 12), .int .i64 (v2 * 12), .int .i64 (v3 * 12), .int .i64 (v4 * 12), .int .i64 (v5 * 12)] 39) → SixV W w'.heap.size (.int .i64 (v0 * 12)) (.int .i64 (v1 * 12)) (.int .i64 (v2 * 12)) (.int .i64 (v3 * 12)) (.int .i64 (v4 * 12)) (.int .i64 (v5 * 12)) ∧ w'.heap.size < W.heap.size ∧ Gr w' W := by
    rintro W rfl
    exact ⟨⟨by simp [go_sem], by simp [go_sem], by simp [go_sem], by simp [go_sem], by simp [go_sem], by simp [go_sem]⟩, by simp, (Gr.refl _).alloc _⟩
  generalize w'.alloc (.cells #[.int .i64 (v0 * 12), .int .i64 (v1 * 12), .int .i64 (v2 * 12), .int .i64 (v3 * 12), .int .i64 (v4 * 12), .int .i64 (v5 * 12)] 39) = w3 at *
  obtain ⟨hs3, hzp, hg3⟩ := v0' w3 rfl
  clear v0'
  have HP3 := Lib.hid hs3; have HNK3 := Lib.hid (hNK.keep hg3); have HS63 := Lib.hid (hS6.keep hg3 hz6); have HG3 := Lib.hid (HG.out.trans hg3)
  have hz63 := Nat.lt_of_lt_of_le hz6 hg3.le
  clear hNK hS6 hz6 HG hg3 hs3
  generalize w'.heap.size = T8 at *
  obtain ⟨hl0, b0, b1, b2, b3⟩ := HNK3.out
  go_wp2_with fail
  (go_at_call 12; with_reducible refine (HF.out _).mono ?_; rintro e w' ⟨rfl, hb⟩; have hz := hb.le; obtain ⟨hc, hf⟩ := hb.cells; have hn := hb.cellsN; (try simp only [World.size_alloc] at hc hf hz hn); (try simp only [World.size_setCell] at hc hf hz hn); (try simp only [World.size_drew] at hc hf hz hn))
  go_wp2_with fail
  (go_at_call 14; with_reducible refine (HV.out _ (HG3.out.trans (by repeat (first | with_reducible exact Gr.refl _ | with_reducible refine Gr.alloc ?_ _ | with_reducible refine Gr.drew ?_ | with_reducible refine Gr.trans ?_ (by assumption) | with_reducible refine Gr.setCell ?_ (by (try simp); (try omega)) _)))).mono ?_; rintro e w' ⟨rfl, hb⟩; have hz := hb.le; obtain ⟨hc, hf⟩ := hb.cells; have hn := hb.cellsN; (try simp only [World.size_alloc] at hc hf hz hn); (try simp only [World.size_setCell] at hc hf hz hn); (try simp only [World.size_drew] at hc hf hz hn))
  have hg4 : Gr w3 w' := (by repeat (first | with_reducible exact Gr.refl _ | with_reducible refine Gr.alloc ?_ _ | with_reducible refine Gr.drew ?_ | with_reducible refine Gr.trans ?_ (by assumption) | with_reducible refine Gr.setCell ?_ (by (try simp); (try omega)) _))
  have HG4 := Lib.hid (HG3.out.trans hg4)
  have HNK4 := Lib.hid (HNK3.out.keep hg4); have HS64 := Lib.hid (HS63.out.keep hg4 hz63); have HP4 := Lib.hid (HP3.out.keep hg4 hzp)
  have hz64 := Nat.lt_of_lt_of_le hz63 hg4.le; have hzp4 := Nat.lt_of_lt_of_le hzp hg4.le
  clear hl0 b0 b1 b2 b3 hb hz hc hf hn HF HV hg4 HG3 HNK3 HS63 HP3 hz63 hzp
  obtain ⟨W1, rfl⟩ : ∃ W1 : World, W1 = w' := ⟨_, rfl⟩
  obtain ⟨hl0, b0, b1, b2, b3⟩ := HNK4.out
  go_upto_region 6 with fail
  have v1' : ∀ W, W = W1.alloc (.cells #[.slice none 0 0, .slice Q nf cq, .int .i64 sp, .int .i64 tl] 24) → StM W1 Q nf cq sp tl W 0 [] (.slice none 0 0) := by
    rintro W rfl
    exact ⟨(Gr.refl _).alloc _, by simp, by simp [go_sem], by simp [go_sem], by simp [go_sem], by simp [go_sem], by simp [go_sem], ⟨rfl, .inl ⟨rfl, rfl⟩⟩⟩
  generalize W1.alloc (.cells #[.slice none 0 0, .slice Q nf cq, .int .i64 sp, .int .i64 tl] 24) = W2 at *
  have HM2 := Lib.hid (v1' W2 rfl)
  obtain ⟨hl0', b0', b1', b2', b3'⟩ := HNK4.out.keep HM2.out.gr
  clear v1' hl0 b0 b1 b2 b3
  go_wp2_with fail
  go_loopw [52] (fun iv wr => ∃ (i : Nat) (LV : Value), i ≤ no ∧ iv = .int .i64 (i : Int) ∧ StM W1 Q nf cq sp tl wr i (rowCells (trO o (bV v0 v1 v2 v3 v4 v5)) i) LV) (fun iv _ => no - (intOf iv).toNat)
  case atStart => exact ⟨0, _, Nat.zero_le _, rfl, HM2.out⟩
  case round =>
    obtain ⟨i, lv, hin, rfl, hM⟩ := hrel
    have HM := Lib.hid hM
    have hgr := hM.gr
    have HGR := Lib.hid (HG4.out.trans hgr)
    have hsz := hM.sz
    have hlc := hM.lc
    clear hM HM2
    obtain ⟨hl0', b0', b1', b2', b3'⟩ := HNK4.out.keep hgr
    obtain ⟨p0, p1, p2, p3, p4, p5⟩ := HP4.out.keep hgr hzp4
    have hzp5 := Nat.lt_of_lt_of_le hzp4 hgr.le
    obtain ⟨wo, rfl⟩ : ∃ wo : World, wo = wr := ⟨_, rfl⟩
    by_cases hlt : i < no
    · have hlt' : decide ((i : Int) < (no : Int)) = true := decide_eq_true (by omega)
      obtain ⟨b, off, rfl, hbl, c0, c1, c2', c3, c4, c5⟩ := (HOO.out.keep HGR.out).six hlt
      have hoi := HOP.out i hlt
      go_upto_region 9 with fail
      have v2' : ∀ W, W = wo.alloc (.cells #[.int .i64 (o i 0), .int .i64 (o i 1), .int .i64 (o i 2), .int .i64 (o i 3), .int .i64 (o i 4), .int .i64 (o i 5)] 39) → SixV W wo.heap.size (.int .i64 (o i 0)) (.int .i64 (o i 1)) (.int .i64 (o i 2)) (.int .i64 (o i 3)) (.int .i64 (o i 4)) (.int .i64 (o i 5)) ∧ wo.heap.size < W.heap.size ∧ Gr wo W := by
        rintro W rfl
        exact ⟨⟨by simp [go_sem], by simp [go_sem], by simp [go_sem], by simp [go_sem], by simp [go_sem], by simp [go_sem]⟩, by simp, (Gr.refl _).alloc _⟩
      have HP5 := Lib.hid (HP4.out.keep hgr hzp4)
      clear p0 p1 p2 p3 p4 p5 c0 c1 c2' c3 c4 c5 hbl hl0' b0' b1' b2' b3' hgr hlc
      generalize wo.alloc (.cells #[.int .i64 (o i 0), .int .i64 (o i 1), .int .i64 (o i 2), .int .i64 (o i 3), .int .i64 (o i 4), .int .i64 (o i 5)] 39) = wk at *
      obtain ⟨⟨e0, e1, e2, e3, e4, e5⟩, hzk, hgk⟩ := v2' wk rfl
      clear v2'
      obtain ⟨p0, p1, p2, p3, p4, p5⟩ := HP5.out.keep hgk hzp5
      have HMK := Lib.hid (HM.out.keep hgk)
      have HGK := Lib.hid (HGR.out.trans hgk)
      have hzp6 := Nat.lt_of_lt_of_le hzp5 hgk.le
      clear HM HP5 hzp5 hgk hsz
      generalize wo.heap.size = T12 at *
      rcases bool_tf (allIn ⟨o i 0 + v0 * 12, o i 1 + v1 * 12, o i 2 + v2 * 12, o i 3 + v3 * 12, o i 4 + v4 * 12, o i 5 + v5 * 12⟩ 576 6) with hs | hs
      · have HMU := Lib.hid (fun W => mul_ok (o i 0) (o i 1) (o i 2) (o i 3) (o i 4) (o i 5) (v0 * 12) (v1 * 12) (v2 * 12) (v3 * 12) (v4 * 12) (v5 * 12) W hoi HVB.out hs)
        clear hs hoi
        go_wp2_with fail
        (go_at_call 29; with_reducible refine (HMU.out _).mono ?_; rintro e w' ⟨rfl, hb⟩; have hz := hb.le; obtain ⟨hc, hf⟩ := hb.cells; have hn := hb.cellsN; (try simp only [World.size_alloc] at hc hf hz hn); (try simp only [World.size_setCell] at hc hf hz hn); (try simp only [World.size_drew] at hc hf hz hn))
        have hgm : Gr wk w' := (by repeat (first | with_reducible exact Gr.refl _ | with_reducible refine Gr.alloc ?_ _ | with_reducible refine Gr.drew ?_ | with_reducible refine Gr.trans ?_ (by assumption) | with_reducible refine Gr.setCell ?_ (by (try simp); (try omega)) _))
        have HMM := Lib.hid (HMK.out.keep hgm)
        clear HMK HGK p0 p1 p2 p3 p4 p5 e0 e1 e2 e3 e4 e5 hb hz hc hf hn hgm hzk hzp6
        obtain ⟨wm, rfl⟩ : ∃ wm : World, wm = w' := ⟨_, rfl⟩
        go_upto_region 12 with fail
        have v3' : ∀ W, W = wm.alloc (.cells #[.int .i64 (o i 0 + v0 * 12), .int .i64 (o i 1 + v1 * 12), .int .i64 (o i 2 + v2 * 12), .int .i64 (o i 3 + v3 * 12), .int .i64 (o i 4 + v4 * 12), .int .i64 (o i 5 + v5 * 12)] 39) → SixV W wm.heap.size (.int .i64 (o i 0 + v0 * 12)) (.int .i64 (o i 1 + v1 * 12)) (.int .i64 (o i 2 + v2 * 12)) (.int .i64 (o i 3 + v3 * 12)) (.int .i64 (o i 4 + v4 * 12)) (.int .i64 (o i 5 + v5 * 12)) ∧ StM W1 Q nf cq sp tl W i (rowCells (trO o (bV v0 v1 v2 v3 v4 v5)) i) lv := by
          rintro W rfl
          exact ⟨⟨by simp [go_sem], by simp [go_sem], by simp [go_sem], by simp [go_sem], by simp [go_sem], by simp [go_sem]⟩, HMM.out.keep ((Gr.refl _).alloc _)⟩
        generalize wm.alloc (.cells #[.int .i64 (o i 0 + v0 * 12), .int .i64 (o i 1 + v1 * 12), .int .i64 (o i 2 + v2 * 12), .int .i64 (o i 3 + v3 * 12), .int .i64 (o i 4 + v4 * 12), .int .i64 (o i 5 + v5 * 12)] 39) = wq at *
        obtain ⟨⟨e0, e1, e2, e3, e4, e5⟩, hmq⟩ := v3' wq rfl
        have HMQ := Lib.hid hmq
        have hlc := hmq.lc
        have hsz := hmq.sz
        clear v3' HMM hmq
        generalize wm.heap.size = T13 at *
        go_wp2_with (at_builtin; refine wpList_append_own _ rfl _ _ 22 rfl (W1.heap.size + 1) 39 i0 (.agg #[.int .i64 0, .int .i64 0, .int .i64 0, .int .i64 0, .int .i64 0, .int .i64 0]) 6 48 Tryd.underlying22 HINF.out.1 HINF.out.2.1 HINF.out.2.2.1 HINF.out.2.2.2 rfl (by decide) _ _ _ rfl (own_keep HMQ.out.own ((Gr.refl _).alloc _)) ⟨wq.heap.size, 0, none⟩ 1 1 [.int .i64 (o i 0 + v0 * 12), .int .i64 (o i 1 + v1 * 12), .int .i64 (o i 2 + v2 * 12), .int .i64 (o i 3 + v3 * 12), .int .i64 (o i 4 + v4 * 12), .int .i64 (o i 5 + v5 * 12)] rfl rfl (cell_six_new _ _ _ _ _ _ _ _) (by intro u hu; simp at hu; rcases hu with rfl | rfl | rfl | rfl | rfl | rfl <;> rfl) (by unfold maxLen; omega) (by omega) (by simp; omega) ?_; intro lv' w5 hown1 hgrow hnil; obtain ⟨A5, m5, c5, rfl⟩ : ∃ A5 m5 c5, lv' = .slice A5 m5 c5 := (by rcases hown1.2 with ⟨h1, _⟩ | ⟨g, cap, cur, h1, _⟩ <;> exact ⟨_, _, _, h1⟩); obtain ⟨hlb0, hlb1⟩ := HMQ.out.lb ((Gr.refl _).alloc _) hgrow; have hz5 := hgrow.size)
        have HM5 := Lib.hid (HMQ.out.push ((Gr.refl _).alloc _) hown1 hgrow)
        go_wp2_with fail
        go_roundw
        case rel => exact ⟨i + 1, _, by omega, by go_num, HM5.out⟩
        case measure => simp [intOf]; omega
      · have HMU := Lib.hid (fun W => mul_out (o i 0) (o i 1) (o i 2) (o i 3) (o i 4) (o i 5) (v0 * 12) (v1 * 12) (v2 * 12) (v3 * 12) (v4 * 12) (v5 * 12) W hoi HVB.out hs)
        clear hs hoi
        go_wp2_with fail
        (go_at_call 29; with_reducible refine (HMU.out _).mono ?_; rintro e w' ⟨rfl, hb⟩; have hz := hb.le; obtain ⟨hc, hf⟩ := hb.cells; have hn := hb.cellsN; (try simp only [World.size_alloc] at hc hf hz hn); (try simp only [World.size_setCell] at hc hf hz hn); (try simp only [World.size_drew] at hc hf hz hn))
        go_wp2_with fail
        go_ret
        exact ⟨rfl, HGK.out.trans (by repeat (first | with_reducible exact Gr.refl _ | with_reducible refine Gr.alloc ?_ _ | with_reducible refine Gr.drew ?_ | with_reducible refine Gr.trans ?_ (by assumption) | with_reducible refine Gr.setCell ?_ (by (try simp); (try omega)) _))⟩
    · obtain rfl : no = i := by omega
      have hlt' : decide ((no : Int) < (no : Int)) = false := decide_eq_false (by omega)
      obtain ⟨A6, c6, rfl, hrm, -⟩ := rows_of_own HM.out.own (trO o (bV v0 v1 v2 v3 v4 v5)) (fun i j hi hj => rowCells_at _ _ i j hi hj)
      have HNM : Hid (NeckAt wo W1.heap.size A6 Q no c6 nf cq sp tl) := Lib.hid ⟨by omega, hlc, HM.out.c1, HM.out.c2, HM.out.c3⟩
      have HNK5 := Lib.hid (HNK4.out.keep hgr)
      have HS65 := Lib.hid (HS64.out.keep hgr hz64)
      have hz65 := Nat.lt_of_lt_of_le hz64 hgr.le
      have HRM := Lib.hid hrm
      clear hrm hgr hsz hlc p0 p1 p2 p3 p4 p5 hzp5 hl0' b0' b1' b2' b3' HNK4 HS64 HP4 HOP HM
      have HL0 : Hid (OwnL wo.heap.size 42 6 wo (.slice none 0 0) 0 (rowCells (trV f (bV v0 v1 v2 v3 v4 v5)) 0) wo) := Lib.hid (OwnL.start _ _ _ _ (Nat.le_refl _))
      go_wp2_with fail
      go_loopw [15, 74] (fun lv iv wr => ∃ (LV : Value) (i : Nat), LV = lv ∧ i ≤ n ∧ iv = .int .i64 (i : Int) ∧ vecsB f i = true ∧ vecsB (trV f (bV v0 v1 v2 v3 v4 v5)) i = true ∧ OwnL wo.heap.size 42 6 wo LV i (rowCells (trV f (bV v0 v1 v2 v3 v4 v5)) i) wr) (fun _ iv _ => n - (intOf iv).toNat)
      case atStart => exact ⟨_, 0, rfl, Nat.zero_le _, rfl, rfl, rfl, HL0.out⟩
      case round =>
        obtain ⟨lv, i, rfl, hin, rfl, hvf, hvt, hL⟩ := hrel
        have HLL := Lib.hid hL; have HVF := Lib.hid hvf; have HVT := Lib.hid hvt
        have hgr : Gr wo wr := hL.toGr (Gr.refl _) (Nat.le_refl _)
        have HGR2 := Lib.hid hgr
        have hsz := hL.size
        have HNM5 := Lib.hid (HNM.out.keep hgr)
        have HNK6 := Lib.hid (HNK5.out.keep hgr)
        have HS66 := Lib.hid (HS65.out.keep hgr hz65)
        clear hL hvf hvt HL0
        obtain ⟨wp, rfl⟩ : ∃ wp : World, wp = wr := ⟨_, rfl⟩
        by_cases hlt : i < n
        · have hlt' : decide ((i : Int) < (n : Int)) = true := decide_eq_true (by omega)
          obtain ⟨b, off, rfl, hbl, c0, c1, c2', c3, c4, c5⟩ := (HAA.out.keep (HGR.out.trans HGR2.out)).six hlt
          go_upto_region 18 with fail
          have v4' : ∀ W, W = wp.alloc (.cells #[.int .i64 (f i 0), .int .i64 (f i 1), .int .i64 (f i 2), .int .i64 (f i 3), .int .i64 (f i 4), .int .i64 (f i 5)] 42) → SixV W wp.heap.size (.int .i64 (f i 0)) (.int .i64 (f i 1)) (.int .i64 (f i 2)) (.int .i64 (f i 3)) (.int .i64 (f i 4)) (.int .i64 (f i 5)) ∧ wp.heap.size < W.heap.size ∧ (∀ j, W.frozen? ⟨wp.heap.size, j, none⟩ = false) ∧ Gr wp W := by
            rintro W rfl
            exact ⟨⟨by simp [go_sem], by simp [go_sem], by simp [go_sem], by simp [go_sem], by simp [go_sem], by simp [go_sem]⟩, by simp, fun j => by simp [go_sem], (Gr.refl _).alloc _⟩
          clear c0 c1 c2' c3 c4 c5 hbl
          generalize wp.alloc (.cells #[.int .i64 (f i 0), .int .i64 (f i 1), .int .i64 (f i 2), .int .i64 (f i 3), .int .i64 (f i 4), .int .i64 (f i 5)] 42) = wk at *
          obtain ⟨⟨e0, e1, e2, e3, e4, e5⟩, hzk, hfk, hgk⟩ := v4' wk rfl
          clear v4'
          have HGK := Lib.hid hgk
          have HFK := Lib.hid hfk
          have HSK : Hid (SixV wk wp.heap.size (.int .i64 (f i 0)) (.int .i64 (f i 1)) (.int .i64 (f i 2)) (.int .i64 (f i 3)) (.int .i64 (f i 4)) (.int .i64 (f i 5))) := Lib.hid ⟨e0, e1, e2, e3, e4, e5⟩
          have hzb : w.heap.size + 1 < wp.heap.size := by omega
          clear hgk hfk
          have HIV := Lib.hid (fun W => r3interval_any (f i 0) (f i 1) (f i 2) (f i 3) (f i 4) (f i 5) W)
          rcases bool_tf (allIn ⟨f i 0, f i 1, f i 2, f i 3, f i 4, f i 5⟩ 48 6) with h1 | h1
          · have HV1 : Hid (vecsB f (i + 1) = true) := Lib.hid (vecsB_next HVF.out (by simp only [rowV]; exact h1))
            have HB1 := Lib.hid (allIn_get h1)
            have HI2 := HIV.out
            rw [h1] at HI2
            have HI1 := Lib.hid HI2
            clear HI2 HIV h1
            go_wp2_with fail
            (go_at_call 24; with_reducible refine (HI1.out _).mono ?_; rintro e w' ⟨rfl, hb⟩; have hz := hb.le; obtain ⟨hc, hf⟩ := hb.cells; have hn := hb.cellsN; (try simp only [World.size_alloc] at hc hf hz hn); (try simp only [World.size_setCell] at hc hf hz hn); (try simp only [World.size_drew] at hc hf hz hn))
            have hgm : Gr wk w' := (by repeat (first | with_reducible exact Gr.refl _ | with_reducible refine Gr.alloc ?_ _ | with_reducible refine Gr.drew ?_ | with_reducible refine Gr.trans ?_ (by assumption) | with_reducible refine Gr.setCell ?_ (by (try simp); (try omega)) _))
            have HGM := Lib.hid (HGK.out.trans hgm)
            have hx0 : ∀ j, j < 6 → w'.cell? ⟨wp.heap.size, j, none⟩ = some (.int .i64 (f i j)) := by
              obtain ⟨d0, d1, d2, d3, d4, d5⟩ := HSK.out.keep hgm hzk
              intro j hj
              obtain rfl | rfl | rfl | rfl | rfl | rfl : j = 0 ∨ j = 1 ∨ j = 2 ∨ j = 3 ∨ j = 4 ∨ j = 5 := by omega
              all_goals assumption
            have hfr : ∀ j, w'.frozen? ⟨wp.heap.size, j, none⟩ = false := fun j => (Below.frozen (p := ⟨wp.heap.size, j, none⟩) hgm hzk).trans (HFK.out j)
            have hy0 : ∀ j, j < 6 → w'.cell? ⟨w.heap.size + 1, j, none⟩ = some (.int .i64 (bV v0 v1 v2 v3 v4 v5 j)) := by
              obtain ⟨d0, d1, d2, d3, d4, d5⟩ := (HS66.out.keep HGK.out hzb).keep hgm (by omega)
              intro j hj
              obtain rfl | rfl | rfl | rfl | rfl | rfl : j = 0 ∨ j = 1 ∨ j = 2 ∨ j = 3 ∨ j = 4 ∨ j = 5 := by omega
              all_goals simpa only [bV]
            have hzm := Nat.lt_of_lt_of_le hzk hgm.le
            have HY0 := Lib.hid hy0
            clear e0 e1 e2 e3 e4 e5 hb hz hc hf hn hgm HSK HFK hzk hy0
            obtain ⟨wm, rfl⟩ : ∃ wm : World, wm = w' := ⟨_, rfl⟩
            generalize hT : wp.heap.size = T17 at *
            go_wp2_with fail
            go_loopw [82] (fun iv wr => ∃ k : Nat, k ≤ 6 ∧ iv = .int .i64 k ∧ ArrRel 6 (mixTo (fun j => f i j + bV v0 v1 v2 v3 v4 v5 j) (fun j => f i j) k) T17 wm.heap.size wm wr) (fun iv _ => 6 - (intOf iv).toNat)
            case atStart => exact ⟨0, by omega, rfl, ⟨But.refl _ _ _, Nat.le_refl _, hzm, fun j hj => hx0 j hj, hfr⟩⟩
            case round =>
              obtain ⟨k, hk, rfl, hR⟩ := hrel
              have hsz2 := hR.size
              obtain ⟨wt, rfl⟩ : ∃ wt : World, wt = wr := ⟨_, rfl⟩
              by_cases hlt2 : k < 6
              · have hx := hR.cell k hlt2
                have fx := hR.froz k
                have bx := HB1.out k hlt2
                have bb := HGV.out k hlt2
                have hy := (hR.but.cell (p := ⟨w.heap.size + 1, k, none⟩) (by show w.heap.size + 1 < wm.heap.size; omega) (by show w.heap.size + 1 ≠ T17; omega)).trans (HY0.out k hlt2)
                rw [mixTo, if_neg (by omega)] at hx
                have hst := hR.store hlt2 (f i k + bV v0 v1 v2 v3 v4 v5 k)
                have HST := Lib.hid hst
                have HR := Lib.hid hR
                rw [show V6.get ⟨f i 0, f i 1, f i 2, f i 3, f i 4, f i 5⟩ k = f i k from by
                  obtain rfl | rfl | rfl | rfl | rfl | rfl : k = 0 ∨ k = 1 ∨ k = 2 ∨ k = 3 ∨ k = 4 ∨ k = 5 := by omega
                  all_goals rfl] at bx
                rw [show V6.get ⟨v0, v1, v2, v3, v4, v5⟩ k = bV v0 v1 v2 v3 v4 v5 k from by
                  obtain rfl | rfl | rfl | rfl | rfl | rfl : k = 0 ∨ k = 1 ∨ k = 2 ∨ k = 3 ∨ k = 4 ∨ k = 5 := by omega
                  all_goals rfl] at bb
                clear hR hst hx0 hfr
                generalize hgx : f i k = x at hx bx HST
                generalize hgy : bV v0 v1 v2 v3 v4 v5 k = y at hy bb HST
                have HX := Lib.hid hgx; have HYY := Lib.hid hgy
                clear hgx hgy
                have hw2 : IntKind.i64.wrap (x + y) = x + y := IntWalk.i64_in _ ⟨by omega, by omega⟩
                go_wp2_with fail
                go_region
                all_goals
                  go_wp2_with fail
                  go_roundw
                  case rel =>
                    refine ⟨k + 1, by omega, by go_num, (ArrRel.congr (ArrRel.drew HST.out) fun j hj => ?_)⟩
                    have := mixTo_step (fun j => f i j + bV v0 v1 v2 v3 v4 v5 j) (fun j => f i j) k j
                    try simp only at this
                    rw [← this, HX.out, HYY.out]
                  case measure => simp [intOf]; omega
              · obtain rfl : k = 6 := by omega
                have c0 := hR.cell 0 (by omega); have c1 := hR.cell 1 (by omega); have c2' := hR.cell 2 (by omega); have c3 := hR.cell 3 (by omega); have c4 := hR.cell 4 (by omega); have c5 := hR.cell 5 (by omega)
                simp only [mixTo, bV] at c0 c1 c2' c3 c4 c5
                have hgt : Gr wp wt := HGM.out.but hR.but (by omega) (by omega)
                have HGT := Lib.hid hgt
                have HLT := Lib.hid (HLL.out.gr hgt)
                have hzt : T17 < wt.heap.size := by omega
                clear hR hgt hx0 hfr HY0 HGM HGK
                simp at c0 c1 c2' c3 c4 c5
                have HIV2 := Lib.hid (fun W => r3interval_any (f i 0 + v0) (f i 1 + v1) (f i 2 + v2) (f i 3 + v3) (f i 4 + v4) (f i 5 + v5) W)
                rcases bool_tf (allIn ⟨f i 0 + v0, f i 1 + v1, f i 2 + v2, f i 3 + v3, f i 4 + v4, f i 5 + v5⟩ 48 6) with h2 | h2
                · have HV2 : Hid (vecsB (trV f (bV v0 v1 v2 v3 v4 v5)) (i + 1) = true) := Lib.hid (vecsB_next HVT.out (by simp only [rowV, trV, bV]; exact h2))
                  have HI3 := HIV2.out
                  rw [h2] at HI3
                  have HI4 := Lib.hid HI3
                  clear HI3 HIV2 h2
                  go_wp2_with fail
                  (go_at_call 24; with_reducible refine (HI4.out _).mono ?_; rintro e w' ⟨rfl, hb⟩; have hz := hb.le; obtain ⟨hc, hf⟩ := hb.cells; have hn := hb.cellsN; (try simp only [World.size_alloc] at hc hf hz hn); (try simp only [World.size_setCell] at hc hf hz hn); (try simp only [World.size_drew] at hc hf hz hn))
                  have hgm : Gr wt w' := (by repeat (first | with_reducible exact Gr.refl _ | with_reducible refine Gr.alloc ?_ _ | with_reducible refine Gr.drew ?_ | with_reducible refine Gr.trans ?_ (by assumption) | with_reducible refine Gr.setCell ?_ (by (try simp); (try omega)) _))
                  have HLQ := Lib.hid (HLT.out.gr hgm)
                  have hzq := HLQ.out.size
                  obtain ⟨d0, d1, d2, d3, d4, d5⟩ := SixV.keep (B := T17) ⟨c0, c1, c2', c3, c4, c5⟩ hgm hzt
                  have hzq2 := Nat.lt_of_lt_of_le hzt hgm.le
                  clear hb hz hc hf hn hgm c0 c1 c2' c3 c4 c5 HLT HGT
                  obtain ⟨wq, rfl⟩ : ∃ wq : World, wq = w' := ⟨_, rfl⟩
                  go_wp2_with (at_builtin; refine wpList_append_own _ rfl _ _ 26 rfl wo.heap.size 42 i1 (.agg #[.int .i64 0, .int .i64 0, .int .i64 0, .int .i64 0, .int .i64 0, .int .i64 0]) 6 48 Tryd.underlying26 HINFV.out.1 HINFV.out.2.1 HINFV.out.2.2.1 HINFV.out.2.2.2 rfl (by decide) _ _ _ rfl (HLQ.out.own.alloc _) ⟨wq.heap.size, 0, none⟩ 1 1 [.int .i64 (f i 0 + v0), .int .i64 (f i 1 + v1), .int .i64 (f i 2 + v2), .int .i64 (f i 3 + v3), .int .i64 (f i 4 + v4), .int .i64 (f i 5 + v5)] rfl rfl (cell_six_new _ _ _ _ _ _ _ _) (by intro u hu; simp at hu; rcases hu with rfl | rfl | rfl | rfl | rfl | rfl <;> rfl) (by unfold maxLen; omega) (by omega) (by simp; omega) ?_; intro lv' w5 hown1 hgrow hnil)
                  have HL3 : Hid (OwnL wo.heap.size 42 6 wo lv' (i + 1) (rowCells (trV f (bV v0 v1 v2 v3 v4 v5)) (i + 1)) w5) := Lib.hid (by
                    have z := (HLQ.out.alloc _).grown hown1 hgrow
                    rw [show rowCells (trV f (bV v0 v1 v2 v3 v4 v5)) (i + 1) = rowCells (trV f (bV v0 v1 v2 v3 v4 v5)) i ++ [.int .i64 (f i 0 + v0), .int .i64 (f i 1 + v1), .int .i64 (f i 2 + v2), .int .i64 (f i 3 + v3), .int .i64 (f i 4 + v4), .int .i64 (f i 5 + v5)] by simp only [rowCells, trV, bV]]
                    exact z)
                  clear hown1 hgrow hnil
                  go_wp2_with fail
                  go_roundw
                  case rel => exact ⟨_, i + 1, rfl, by omega, by go_num, HV1.out, HV2.out, HL3.out⟩
                  case measure => simp [intOf]; omega
                · have HI3 := HIV2.out
                  rw [h2] at HI3
                  have HI4 := Lib.hid HI3
                  clear HI3 HIV2 h2
                  go_wp2_with fail
                  (go_at_call 24; with_reducible refine (HI4.out _).mono ?_; rintro e w' ⟨rfl, hb⟩; have hz := hb.le; obtain ⟨hc, hf⟩ := hb.cells; have hn := hb.cellsN; (try simp only [World.size_alloc] at hc hf hz hn); (try simp only [World.size_setCell] at hc hf hz hn); (try simp only [World.size_drew] at hc hf hz hn))
                  go_wp2_with fail
                  go_ret
                  exact ⟨rfl, (HGR.out.trans (HGR2.out.trans HGT.out)).trans (by repeat (first | with_reducible exact Gr.refl _ | with_reducible refine Gr.alloc ?_ _ | with_reducible refine Gr.drew ?_ | with_reducible refine Gr.trans ?_ (by assumption) | with_reducible refine Gr.setCell ?_ (by (try simp); (try omega)) _))⟩
          · have HI2 := HIV.out
            rw [h1] at HI2
            have HI1 := Lib.hid HI2
            clear HI2 HIV h1
            go_wp2_with fail
            (go_at_call 24; with_reducible refine (HI1.out _).mono ?_; rintro e w' ⟨rfl, hb⟩; have hz := hb.le; obtain ⟨hc, hf⟩ := hb.cells; have hn := hb.cellsN; (try simp only [World.size_alloc] at hc hf hz hn); (try simp only [World.size_setCell] at hc hf hz hn); (try simp only [World.size_drew] at hc hf hz hn))
            go_wp2_with fail
            go_ret
            exact ⟨rfl, (HGR.out.trans (HGR2.out.trans HGK.out)).trans (by repeat (first | with_reducible exact Gr.refl _ | with_reducible refine Gr.alloc ?_ _ | with_reducible refine Gr.drew ?_ | with_reducible refine Gr.trans ?_ (by assumption) | with_reducible refine Gr.setCell ?_ (by (try simp); (try omega)) _))⟩
        · obtain rfl : n = i := by omega
          have hlt' : decide ((n : Int) < (n : Int)) = false := decide_eq_false (by omega)
          obtain ⟨A7, c7, rfl, hrw, -⟩ := rows_of_own HLL.out.own (trV f (bV v0 v1 v2 v3 v4 v5)) (fun i j hi hj => rowCells_at _ _ i j hi hj)
          have HRW := Lib.hid hrw
          clear hrw HLL
          have hvm := fun W (g : Gr wp W) => neckValid_any A6 Q no c6 nf cq sp tl (trO o (bV v0 v1 v2 v3 v4 v5)) q W (HP.out.keep (HGR.out.trans (HGR2.out.trans g))) (HRM.out.keep (HGR2.out.trans g)) (HQQ.out.keep (HGR.out.trans (HGR2.out.trans g))) hno hnf
          obtain ⟨hl0, b0, b1, b2, b3⟩ := HNM5.out
          rcases bool_tf (neckB no (trO o (bV v0 v1 v2 v3 v4 v5)) nf q sp tl) with hm | hm
          · rw [hm] at hvm
            have HVM := Lib.hid hvm
            clear hvm
            obtain ⟨ee, el⟩ := chord_tr (sp := sp) (tl := tl) (q := q) (o := o) (f := f) (b := bV v0 v1 v2 v3 v4 v5) (no := no) (nf := nf) (n := n) (by unfold chordOk; rw [HOK.out, HVF.out, decide_eq_true (show n ≤ 12 by omega)]; rfl) (by unfold chordOk; rw [hm, HVT.out, decide_eq_true (show n ≤ 12 by omega)]; rfl)
            have hc1 := fun W (g : Gr wp W) => fchord_any O Q no co nf cq sp tl o q A n c f W (HP.out.keep (HGR.out.trans (HGR2.out.trans g))) (HL.out.keep (HGR.out.trans (HGR2.out.trans g))) (HOO.out.keep (HGR.out.trans (HGR2.out.trans g))) (HQQ.out.keep (HGR.out.trans (HGR2.out.trans g))) (HAA.out.keep (HGR.out.trans (HGR2.out.trans g))) hno hnf (by omega)
            have hc2 := fun W (g : Gr wp W) => fchord_any A6 Q no c6 nf cq sp tl (trO o (bV v0 v1 v2 v3 v4 v5)) q A7 n c7 (trV f (bV v0 v1 v2 v3 v4 v5)) W (HP.out.keep (HGR.out.trans (HGR2.out.trans g))) (HL.out.keep (HGR.out.trans (HGR2.out.trans g))) (HRM.out.keep (HGR2.out.trans g)) (HQQ.out.keep (HGR.out.trans (HGR2.out.trans g))) (HRW.out.keep g) hno hnf (by omega)
            rw [ee, el] at hc2
            have HC1 := Lib.hid hc1; have HC2 := Lib.hid hc2
            clear hc1 hc2 ee el hm HOK HP HL HOO HQQ HAA HRM HRW
            generalize chordE no o nf q sp tl f n = E at *
            generalize chordL no o nf q sp tl f n = R at *
            go_wp2_with fail
            (go_at_call 13; with_reducible refine (HVM.out _ (by repeat (first | with_reducible exact Gr.refl _ | with_reducible refine Gr.alloc ?_ _ | with_reducible refine Gr.drew ?_ | with_reducible refine Gr.trans ?_ (by assumption) | with_reducible refine Gr.setCell ?_ (by (try simp); (try omega)) _))).mono ?_; rintro e w' ⟨rfl, hb⟩; have hz := hb.le; obtain ⟨hc, hf⟩ := hb.cells; have hn := hb.cellsN; (try simp only [World.size_alloc] at hc hf hz hn); (try simp only [World.size_setCell] at hc hf hz hn); (try simp only [World.size_drew] at hc hf hz hn))
            have hg1 : Gr wp w' := (by repeat (first | with_reducible exact Gr.refl _ | with_reducible refine Gr.alloc ?_ _ | with_reducible refine Gr.drew ?_ | with_reducible refine Gr.trans ?_ (by assumption) | with_reducible refine Gr.setCell ?_ (by (try simp); (try omega)) _))
            have HG1 := Lib.hid hg1
            have HNM6 := Lib.hid (HNM5.out.keep hg1)
            have HNK7 := Lib.hid (HNK6.out.keep hg1)
            clear hl0 b0 b1 b2 b3 hb hz hc hf hn hg1 HNM5 HNK6
            obtain ⟨hl0, b0, b1, b2, b3⟩ := HNK7.out
            go_wp2_with fail
            go_at_call 15
            refine (HC1.out _ (HG1.out.trans (by repeat (first | with_reducible exact Gr.refl _ | with_reducible refine Gr.alloc ?_ _ | with_reducible refine Gr.drew ?_ | with_reducible refine Gr.trans ?_ (by assumption) | with_reducible refine Gr.setCell ?_ (by (try simp); (try omega)) _)))).mono ?_
            rintro e w3 ⟨A3, c3, rfl, -, hr3, hlm, hcm3, hb3⟩
            have hg3 : Gr w' w3 := Gr.trans (by repeat (first | with_reducible exact Gr.refl _ | with_reducible refine Gr.alloc ?_ _ | with_reducible refine Gr.drew ?_ | with_reducible refine Gr.trans ?_ (by assumption) | with_reducible refine Gr.setCell ?_ (by (try simp); (try omega)) _)) hb3
            have HG3 := Lib.hid (HG1.out.trans hg3)
            have HR3 := Lib.hid hr3
            have HNM7 := Lib.hid (HNM6.out.keep hg3)
            clear hl0 b0 b1 b2 b3 hr3 hb3 hg3 HNM6 HNK7
            obtain ⟨hl0, b0, b1, b2, b3⟩ := HNM7.out
            go_wp2_with fail
            go_at_call 15
            refine (HC2.out _ (HG3.out.trans (by repeat (first | with_reducible exact Gr.refl _ | with_reducible refine Gr.alloc ?_ _ | with_reducible refine Gr.drew ?_ | with_reducible refine Gr.trans ?_ (by assumption) | with_reducible refine Gr.setCell ?_ (by (try simp); (try omega)) _)))).mono ?_
            rintro e w4 ⟨A4, c4, rfl, -, hr4, hlm4, hcm4, hb4⟩
            have hg4 : Gr w3 w4 := Gr.trans (by repeat (first | with_reducible exact Gr.refl _ | with_reducible refine Gr.alloc ?_ _ | with_reducible refine Gr.drew ?_ | with_reducible refine Gr.trans ?_ (by assumption) | with_reducible refine Gr.setCell ?_ (by (try simp); (try omega)) _)) hb4
            have HG4 := Lib.hid (HG3.out.trans hg4)
            have HSM := Lib.hid (s_same R R.length A3 A4 c3 c4 w4 (by omega) (HR3.out.keep hg4) hr4)
            clear hl0 b0 b1 b2 b3 hr4 hb4 hg4
            go_wp2_with fail
            (go_at_call 17; with_reducible refine (HSM.out).mono ?_; rintro e w' ⟨rfl, hb⟩; have hz := hb.le; obtain ⟨hc, hf⟩ := hb.cells; have hn := hb.cellsN; (try simp only [World.size_alloc] at hc hf hz hn); (try simp only [World.size_setCell] at hc hf hz hn); (try simp only [World.size_drew] at hc hf hz hn))
            go_wp2_with fail
            go_ret
            exact ⟨ret_bool (by simp), (HGR.out.trans (HGR2.out.trans HG4.out)).trans (by repeat (first | with_reducible exact Gr.refl _ | with_reducible refine Gr.alloc ?_ _ | with_reducible refine Gr.drew ?_ | with_reducible refine Gr.trans ?_ (by assumption) | with_reducible refine Gr.setCell ?_ (by (try simp); (try omega)) _))⟩
          · rw [hm] at hvm
            have HVM := Lib.hid hvm
            clear hvm
            go_wp2_with fail
            (go_at_call 13; with_reducible refine (HVM.out _ (by repeat (first | with_reducible exact Gr.refl _ | with_reducible refine Gr.alloc ?_ _ | with_reducible refine Gr.drew ?_ | with_reducible refine Gr.trans ?_ (by assumption) | with_reducible refine Gr.setCell ?_ (by (try simp); (try omega)) _))).mono ?_; rintro e w' ⟨rfl, hb⟩; have hz := hb.le; obtain ⟨hc, hf⟩ := hb.cells; have hn := hb.cellsN; (try simp only [World.size_alloc] at hc hf hz hn); (try simp only [World.size_setCell] at hc hf hz hn); (try simp only [World.size_drew] at hc hf hz hn))
            go_wp2_with fail
            go_ret
            exact ⟨rfl, (HGR.out.trans HGR2.out).trans (by repeat (first | with_reducible exact Gr.refl _ | with_reducible refine Gr.alloc ?_ _ | with_reducible refine Gr.drew ?_ | with_reducible refine Gr.trans ?_ (by assumption) | with_reducible refine Gr.setCell ?_ (by (try simp); (try omega)) _))⟩
theorem ltr_law (v0 v1 v2 v3 v4 v5 : Int) (O Q : Option Addr) (no co nf cq : Nat) (sp tl : Int) (o q : Nat → Nat → Int) (A : Option Addr) (n c : Nat) (f : Nat → Nat → Int) (w : World) (hP : Primes w) (hL : Logs w) (hO : RowsAt w 6 O no o) (hQ : RowsAt w 6 Q nf q) (hA : RowsAt w 6 A n f) (hno : no ≤ 9223372036854775807) (hnf : nf ≤ 9223372036854775807) :
    Calls Tryd.prog 7 #[.agg #[.slice O no co, .slice Q nf cq, .int .i64 sp, .int .i64 tl], .slice A n c, .agg #[.int .i64 v0, .int .i64 v1, .int .i64 v2, .int .i64 v3, .int .i64 v4, .int .i64 v5]] w fun e w' => e = .returned (.bool true) ∧ Gr w w' := by
  rcases bool_tf (fewB no nf n && (neckB no o nf q sp tl && allIn ⟨v0, v1, v2, v3, v4, v5⟩ 48 6)) with h | h
  · exact ltr_ok v0 v1 v2 v3 v4 v5 O Q no co nf cq sp tl o q A n c f w hP hL hO hQ hA hno hnf h
  · exact ltr_skip v0 v1 v2 v3 v4 v5 O Q no co nf cq sp tl o q A n c w hP hL hO hQ hno hnf h
end Go.Proofs.YtohalcookjbaaaaDoor
