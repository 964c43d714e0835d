/-
  Necks, frets, intervals, lists of them and of bytes that come in.
-/
import Derived.Test.YtohalcookjbaaaaDoorLift2
import Derived.Test.YtohalcookjbaaaaDoorRowsAt
import Derived.Deep.Slices
namespace Go.Proofs.YtohalcookjbaaaaDoor
open Go.ChangeShapes Go.WideShapes Go.ChangeAt Go.RowKit

set_option maxRecDepth 100000 in
/-- Six cells that read as an array of six integers. -/
theorem six_trod {H : Type} {enc : TypeId × Value → H} {W : World} {base : Nat} {spare : Nat → Bool} {held : Bool} {fuel : Nat} {t e : TypeId} {cs : List Value} {x : DataW H × List MemPlace} (ht : Tryd.prog.underlying t = some (.array 6 e)) (he : Tryd.prog.underlying e = some (.int .i64)) (hc : Tryd.prog.cellsOf e = 1) (hl6 : cs.length = 6)
    (h : DataW.trod enc Tryd.prog W base spare held fuel t cs = some x) : ∃ a0 a1 a2 a3 a4 a5 : Int, cs = [.int .i64 a0, .int .i64 a1, .int .i64 a2, .int .i64 a3, .int .i64 a4, .int .i64 a5] := by
  obtain ⟨xs, m, -, -, -, hl, hi⟩ := DataW.trod_array ht h
  have hcell : ∀ i, i < 6 → ∃ a : Int, cs[i]? = some (.int .i64 a) := by
    intro i hi6
    have h := hi i hi6
    rw [List.getElem?_eq_getElem (by omega), hc] at h
    obtain ⟨a, e, -, -⟩ := DataW.trod_int he h
    refine ⟨a, ?_⟩
    have := congrArg (·[0]?) e
    simpa [List.getElem?_take, List.getElem?_drop] using this
  obtain ⟨a0, h0⟩ := hcell 0 (by omega)
  obtain ⟨a1, h1⟩ := hcell 1 (by omega)
  obtain ⟨a2, h2⟩ := hcell 2 (by omega)
  obtain ⟨a3, h3⟩ := hcell 3 (by omega)
  obtain ⟨a4, h4⟩ := hcell 4 (by omega)
  obtain ⟨a5, h5⟩ := hcell 5 (by omega)
  refine ⟨a0, a1, a2, a3, a4, a5, ?_⟩
  apply List.ext_getElem?
  intro i
  by_cases hi6 : i < 6
  · rcases (show i = 0 ∨ i = 1 ∨ i = 2 ∨ i = 3 ∨ i = 4 ∨ i = 5 by omega) with rfl | rfl | rfl | rfl | rfl | rfl
    · exact h0
    · exact h1
    · exact h2
    · exact h3
    · exact h4
    · exact h5
  · rw [List.getElem?_eq_none (by omega), List.getElem?_eq_none (by simp; omega)]
theorem cellsVec : Tryd.prog.cellsOf 42 = 6 := by kernel_rfl
set_option maxRecDepth 100000 in
/-- An interval that came in. -/
theorem open_vec {H : Type} {enc : TypeId × Value → H} {W : World} {r : Go.Reach} {b0 : Nat} {v : Value} {d : DataW H} {p : List MemPlace} (hv : Value.okWide Tryd.prog W r b0 42 v)
    (h : DataW.Trod enc Tryd.prog W 0 (fun _ => true) true 42 v d p) : ∃ a0 a1 a2 a3 a4 a5 : Int, v = .agg #[.int .i64 a0, .int .i64 a1, .int .i64 a2, .int .i64 a3, .int .i64 a4, .int .i64 a5] := by
  obtain ⟨cs, rfl, hsz⟩ : ∃ cs, v = .agg cs ∧ cs.size = Tryd.prog.cellsOf 42 := by
    simp only [Value.okWide, Tryd.underlying42] at hv
    obtain ⟨cs, h1, h2, _⟩ := hv
    exact ⟨cs, h1, h2⟩
  rw [cellsVec] at hsz
  obtain ⟨fuel, hf⟩ := h
  obtain ⟨a0, a1, a2, a3, a4, a5, e⟩ := six_trod Tryd.underlying42 Tryd.underlying3 cellsInt (by simpa [Value.cells] using hsz) hf
  exact ⟨a0, a1, a2, a3, a4, a5, congrArg Value.agg (Array.toList_inj.1 (by simpa [Value.cells] using e))⟩
set_option maxRecDepth 100000 in
/-- A slice whose elements read as rows of cells of which P holds. -/
theorem slice_trod {H : Type} {enc : TypeId × Value → H} {W : World} {fuel : Nat} {cs : List Value} {x : DataW H × List MemPlace} {T E : TypeId} {sz : Nat} {P : List Value → Prop} (ht : Tryd.prog.underlying T = some (.slice E)) (hE : Tryd.prog.cellsOf E = sz) (hpos : 0 < sz)
    (helem : ∀ (fl : Nat) (cs : List Value) (x : DataW H × List MemPlace), cs.length = sz → DataW.trod enc Tryd.prog W 0 (fun _ => true) true fl E cs = some x → P cs)
    (h : DataW.trod enc Tryd.prog W 0 (fun _ => true) true fuel T cs = some x) :
    ∃ A n c, cs = [.slice A n c] ∧ n ≤ 9223372036854775807 ∧ (0 < n → ∃ b off, A = some ⟨b, off, none⟩ ∧ b < W.heap.size ∧ ∀ i, i < n → ∃ ds : List Value, ds.length = sz ∧ P ds ∧ ∀ j, j < sz → W.cell? ⟨b, off + i * sz + j, none⟩ = ds[j]?) ∧ n ≤ c := by
  rcases Deep.open_slice ht h with ⟨rfl, -⟩ | ⟨a, len, cap, m, fl, D, Pl, rfl, -, hl, hm, hmm, -, hx⟩
  · exact ⟨none, 0, 0, rfl, by omega, fun h => absurd h (by omega), by omega⟩
  · simp only [if_true] at hmm
    have key : ∀ i, i < len → ∃ ds : List Value, ds.length = sz ∧ P ds ∧ ∀ j, j < sz → W.cell? ((a.add (i * sz)).add j) = ds[j]? := by
      intro i hi
      obtain ⟨cs', h1, h2⟩ := hx i (by omega)
      rw [hE] at h1
      obtain ⟨-, hlen, hc⟩ := World.cells?_some h1
      exact ⟨cs', hlen, helem _ _ _ hlen h2, fun j hj => by rw [hE] at *; exact hc j hj⟩
    refine ⟨some a, len, cap, rfl, by unfold maxLen at hm; omega, fun hn => ?_, hl⟩
    obtain ⟨d0, q1, q2, q3⟩ := key 0 hn
    have h0 := q3 0 hpos
    rw [List.getElem?_eq_getElem (by omega)] at h0
    have hspot : a.spot = none := by simpa [Addr.add] using World.cell?_spot h0
    obtain ⟨b, off, spot⟩ := a
    dsimp only at hspot
    subst hspot
    have hb : b < W.heap.size := by
      rcases Nat.lt_or_ge b W.heap.size with h | h
      · exact h
      · exfalso
        simp only [Addr.add, Nat.zero_mul, if_true, World.cell?] at h0
        rw [Array.getElem?_eq_none (by omega)] at h0
        cases h0
    refine ⟨b, off, rfl, hb, fun i hi => ?_⟩
    obtain ⟨ds, r1, r2, r3⟩ := key i hi
    refine ⟨ds, r1, r2, fun j hj => ?_⟩
    have := r3 j hj
    rw [Addr.add_lit, Addr.add_lit] at this
    exact this
set_option maxRecDepth 100000 in
theorem okSlice {W : World} {r : Go.Reach} {b0 : Nat} {T E : TypeId} {v : Value} (ht : Tryd.prog.underlying T = some (.slice E)) (hv : Value.okWide Tryd.prog W r b0 T v) : ∃ a len cap, v = .slice a len cap := okWide_slice ht hv
theorem six_get (a0 a1 a2 a3 a4 a5 : Int) (j : Nat) (hj : j < 6) : [Value.int .i64 a0, .int .i64 a1, .int .i64 a2, .int .i64 a3, .int .i64 a4, .int .i64 a5][j]? = some (.int .i64 (V6.get ⟨a0, a1, a2, a3, a4, a5⟩ j)) := by
  rcases (show j = 0 ∨ j = 1 ∨ j = 2 ∨ j = 3 ∨ j = 4 ∨ j = 5 by omega) with rfl | rfl | rfl | rfl | rfl | rfl <;> rfl
theorem rows_choose {W : World} {sz n : Nat} {A : Option Addr} (hR : 0 < n → ∃ b off, A = some ⟨b, off, none⟩ ∧ b < W.heap.size ∧ ∀ i, i < n → ∃ ds : List Value, ds.length = sz ∧ (∃ g : Nat → Int, ∀ j, j < sz → ds[j]? = some (.int .i64 (g j))) ∧ ∀ j, j < sz → W.cell? ⟨b, off + i * sz + j, none⟩ = ds[j]?) : ∃ f : Nat → Nat → Int, RowsAt W sz A n f := by
  by_cases h0 : 0 < n
  · obtain ⟨b, off, ha, hb, hc⟩ := hR h0
    have key : ∀ i, i < n → ∃ g : Nat → Int, ∀ j, j < sz → W.cell? ⟨b, off + i * sz + j, none⟩ = some (.int .i64 (g j)) := by
      intro i hi
      obtain ⟨ds, -, ⟨g, hg⟩, q⟩ := hc i hi
      exact ⟨g, fun j hj => (q j hj).trans (hg j hj)⟩
    obtain ⟨f, hf⟩ := Deep.choose_lt key
    exact ⟨f, fun _ => ⟨b, off, ha, hb, hf⟩⟩
  · exact ⟨fun _ _ => 0, fun h => absurd h h0⟩
set_option maxRecDepth 100000 in
/-- A list of intervals that came in. -/
theorem open_vecs {H : Type} {enc : TypeId × Value → H} {W : World} {r : Go.Reach} {b0 : Nat} {v : Value} {d : DataW H} {p : List MemPlace} (hv : Value.okWide Tryd.prog W r b0 26 v)
    (h : DataW.Trod enc Tryd.prog W 0 (fun _ => true) true 26 v d p) : ∃ (A : Option Addr) (n c : Nat) (f : Nat → Nat → Int), v = .slice A n c ∧ RowsAt W 6 A n f ∧ n ≤ 9223372036854775807 ∧ n ≤ c := by
  obtain ⟨a, len, cap, rfl⟩ := okWide_slice Tryd.underlying26 hv
  obtain ⟨fuel, hf⟩ := h
  have hf' : DataW.trod enc Tryd.prog W 0 (fun _ => true) true fuel 26 [.slice a len cap] = some (d, p) := hf
  obtain ⟨A, n, c, e, hn, hR, hcap⟩ := slice_trod (P := fun cs => ∃ g : Nat → Int, ∀ j, j < 6 → cs[j]? = some (.int .i64 (g j))) Tryd.underlying26 cellsVec (by omega) (fun fl cs x hl hx => by
    obtain ⟨a0, a1, a2, a3, a4, a5, rfl⟩ := six_trod Tryd.underlying42 Tryd.underlying3 cellsInt hl hx
    exact ⟨V6.get ⟨a0, a1, a2, a3, a4, a5⟩, fun j hj => six_get _ _ _ _ _ _ j hj⟩) hf'
  simp only [List.cons.injEq, Value.slice.injEq, and_true] at e
  obtain ⟨rfl, rfl, rfl⟩ := e
  obtain ⟨f, hf⟩ := rows_choose hR
  exact ⟨_, _, _, f, rfl, hf, hn, hcap⟩
set_option maxRecDepth 100000 in
/-- A list of pitches, as cells. -/
theorem pitches_trod {H : Type} {enc : TypeId × Value → H} {W : World} {fuel : Nat} {cs : List Value} {x : DataW H × List MemPlace} (h : DataW.trod enc Tryd.prog W 0 (fun _ => true) true fuel 22 cs = some x) : ∃ (A : Option Addr) (n c : Nat) (f : Nat → Nat → Int), cs = [.slice A n c] ∧ RowsAt W 6 A n f ∧ n ≤ 9223372036854775807 := by
  obtain ⟨A, n, c, e, hn, hR, -⟩ := slice_trod (P := fun cs => ∃ g : Nat → Int, ∀ j, j < 6 → cs[j]? = some (.int .i64 (g j))) Tryd.underlying22 cellsPitch (by omega) (fun fl cs x hl hx => by
    obtain ⟨a0, a1, a2, a3, a4, a5, rfl⟩ := six_trod Tryd.underlying39 Tryd.underlying3 cellsInt hl hx
    exact ⟨V6.get ⟨a0, a1, a2, a3, a4, a5⟩, fun j hj => six_get _ _ _ _ _ _ j hj⟩) h
  obtain ⟨f, hf⟩ := rows_choose hR
  exact ⟨A, n, c, f, e, hf, hn⟩
theorem cellsNeck : Tryd.prog.cellsOf 24 = 4 := by kernel_rfl
set_option maxRecDepth 100000 in
/-- A neck that came in. -/
theorem open_neck {H : Type} {enc : TypeId × Value → H} {W : World} {r : Go.Reach} {b0 : Nat} {v : Value} {d : DataW H} {p : List MemPlace} (hv : Value.okWide Tryd.prog W r b0 24 v)
    (h : DataW.Trod enc Tryd.prog W 0 (fun _ => true) true 24 v d p) : ∃ (O Q : Option Addr) (no co nf cq : Nat) (sp tl : Int) (o q : Nat → Nat → Int), v = .agg #[.slice O no co, .slice Q nf cq, .int .i64 sp, .int .i64 tl] ∧ RowsAt W 6 O no o ∧ RowsAt W 6 Q nf q ∧ no ≤ 9223372036854775807 ∧ nf ≤ 9223372036854775807 := by
  obtain ⟨cs, rfl, hsz⟩ := okWide_struct Tryd.underlying24 hv
  rw [cellsNeck] at hsz
  obtain ⟨fuel, hf⟩ := h
  obtain ⟨xs, n, -, -, -, hxl, hi⟩ := DataW.trod_struct Tryd.underlying24 hf
  have g0 := hi 0 _ rfl
  have g1 := hi 1 _ rfl
  have g2 := hi 2 _ rfl
  have g3 := hi 3 _ rfl
  have hxl4 : xs.length = 4 := hxl
  rw [List.getElem?_eq_getElem (by omega)] at g0 g1 g2 g3
  change DataW.trod enc Tryd.prog W 0 (fun _ => true) true n 22 (((Value.agg cs).cells.toList.drop 0).take (Tryd.prog.cellsOf 22)) = _ at g0
  change DataW.trod enc Tryd.prog W 0 (fun _ => true) true n 22 (((Value.agg cs).cells.toList.drop 1).take (Tryd.prog.cellsOf 22)) = _ at g1
  change DataW.trod enc Tryd.prog W 0 (fun _ => true) true n 3 (((Value.agg cs).cells.toList.drop 2).take (Tryd.prog.cellsOf 3)) = _ at g2
  change DataW.trod enc Tryd.prog W 0 (fun _ => true) true n 3 (((Value.agg cs).cells.toList.drop 3).take (Tryd.prog.cellsOf 3)) = _ at g3
  rw [show Tryd.prog.cellsOf 22 = 1 by kernel_rfl] at g0 g1
  rw [cellsInt] at g2 g3
  obtain ⟨O, no, co, o, e0, hO, hno⟩ := pitches_trod g0
  obtain ⟨Q, nf, cq, q, e1, hQ, hnf⟩ := pitches_trod g1
  obtain ⟨sp, e2, -, -⟩ := DataW.trod_int Tryd.underlying3 g2
  obtain ⟨tl, e3, -, -⟩ := DataW.trod_int Tryd.underlying3 g3
  refine ⟨O, Q, no, co, nf, cq, sp, tl, o, q, congrArg Value.agg ?_, hO, hQ, hno, hnf⟩
  have look : ∀ (o k j : Nat) (l : List Value), ((Value.agg cs).cells.toList.drop o).take k = l → j < k → cs[o + j]? = l[j]? := by
    intro o k j l hl hj
    rw [← hl]
    simp [Value.cells, List.getElem?_drop, hj]
  apply Array.ext_getElem?
  intro i
  by_cases hi9 : i < 4
  · rcases (show i = 0 ∨ i = 1 ∨ i = 2 ∨ i = 3 by omega) with rfl | rfl | rfl | rfl
    · exact look 0 1 0 _ e0 (by omega)
    · exact look 1 1 0 _ e1 (by omega)
    · exact look 2 1 0 _ e2 (by omega)
    · exact look 3 1 0 _ e3 (by omega)
  · rw [Array.getElem?_eq_none (by omega), Array.getElem?_eq_none (by simp; omega)]
set_option maxRecDepth 100000 in
/-- A list of frets that came in. -/
theorem open_frets {H : Type} {enc : TypeId × Value → H} {W : World} {r : Go.Reach} {b0 : Nat} {v : Value} {d : DataW H} {p : List MemPlace} (hv : Value.okWide Tryd.prog W r b0 25 v)
    (h : DataW.Trod enc Tryd.prog W 0 (fun _ => true) true 25 v d p) : ∃ (A : Option Addr) (n c : Nat) (f : Nat → Nat → Int), v = .slice A n c ∧ RowsAt W 2 A n f ∧ n ≤ 9223372036854775807 ∧ n ≤ c := by
  obtain ⟨a, len, cap, rfl⟩ := okWide_slice Tryd.underlying25 hv
  obtain ⟨fuel, hf⟩ := h
  have hf' : DataW.trod enc Tryd.prog W 0 (fun _ => true) true fuel 25 [.slice a len cap] = some (d, p) := hf
  obtain ⟨A, n, c, e, hn, hR, hcap⟩ := slice_trod (P := fun cs => ∃ g : Nat → Int, ∀ j, j < 2 → cs[j]? = some (.int .i64 (g j))) Tryd.underlying25 (show Tryd.prog.cellsOf 37 = 2 by kernel_rfl) (by omega) (fun fl cs x hl hx => by
    obtain ⟨xs, m, -, -, -, hxl, hi⟩ := DataW.trod_struct Tryd.underlying37 hx
    have g0 := hi 0 _ rfl
    have g1 := hi 1 _ rfl
    have hxl2 : xs.length = 2 := hxl
    rw [List.getElem?_eq_getElem (by omega)] at g0 g1
    change DataW.trod enc Tryd.prog W 0 (fun _ => true) true m 3 ((cs.drop 0).take (Tryd.prog.cellsOf 3)) = _ at g0
    change DataW.trod enc Tryd.prog W 0 (fun _ => true) true m 3 ((cs.drop 1).take (Tryd.prog.cellsOf 3)) = _ at g1
    rw [cellsInt] at g0 g1
    obtain ⟨x0, e0, -, -⟩ := DataW.trod_int Tryd.underlying3 g0
    obtain ⟨x1, e1, -, -⟩ := DataW.trod_int Tryd.underlying3 g1
    have look : ∀ (o k j : Nat) (l : List Value), (cs.drop o).take k = l → j < k → cs[o + j]? = l[j]? := by
      intro o k j l hl hj
      rw [← hl]
      simp [List.getElem?_drop, hj]
    refine ⟨fun j => if j = 0 then x0 else x1, fun j hj => ?_⟩
    by_cases j0 : j = 0
    · subst j0; exact look 0 1 0 _ e0 (by omega)
    · obtain rfl : j = 1 := by omega
      exact look 1 1 0 _ e1 (by omega)) hf'
  simp only [List.cons.injEq, Value.slice.injEq, and_true] at e
  obtain ⟨rfl, rfl, rfl⟩ := e
  obtain ⟨f, hf⟩ := rows_choose hR
  exact ⟨_, _, _, f, rfl, hf, hn, hcap⟩
theorem wf_u8 {i : Int} (h : (Lit.int .u8 i).wf = true) : 0 ≤ i ∧ i ≤ 255 := by
  simp only [Lit.wf, Bool.and_eq_true, decide_eq_true_eq] at h
  have a : IntKind.u8.min = 0 := by decide
  have b : IntKind.u8.max = 255 := by decide
  rw [a, b] at h
  exact h
theorem wf_u16 {i : Int} (h : (Lit.int .u16 i).wf = true) : 0 ≤ i ∧ i ≤ 65535 := by
  simp only [Lit.wf, Bool.and_eq_true, decide_eq_true_eq] at h
  have a : IntKind.u16.min = 0 := by decide
  have b : IntKind.u16.max = 65535 := by decide
  rw [a, b] at h
  exact h
set_option maxRecDepth 100000 in
/-- A list of bytes that came in. -/
theorem open_u8s {H : Type} {enc : TypeId × Value → H} {W : World} {r : Go.Reach} {b0 : Nat} {v : Value} {d : DataW H} {p : List MemPlace} (hv : Value.okWide Tryd.prog W r b0 49 v)
    (h : DataW.Trod enc Tryd.prog W 0 (fun _ => true) true 49 v d p) : ∃ (A : Option Addr) (n c : Nat) (g : Nat → Int), v = .slice A n c ∧ (0 < n → ∃ b off, A = some ⟨b, off, none⟩ ∧ b < W.heap.size ∧ ∀ i, i < n → W.cell? ⟨b, off + i, none⟩ = some (.int .u8 (g i)) ∧ 0 ≤ g i ∧ g i ≤ 255) ∧ n ≤ 9223372036854775807 ∧ n ≤ c := by
  obtain ⟨a, len, cap, rfl⟩ := okWide_slice Tryd.underlying49 hv
  obtain ⟨fuel, hf⟩ := h
  have hf' : DataW.trod enc Tryd.prog W 0 (fun _ => true) true fuel 49 [.slice a len cap] = some (d, p) := hf
  obtain ⟨A, n, c, e, hn, hR, hcap⟩ := slice_trod (P := fun cs => ∃ a : Int, cs = [.int .u8 a] ∧ 0 ≤ a ∧ a ≤ 255) Tryd.underlying49 (show Tryd.prog.cellsOf 5 = 1 by kernel_rfl) (by omega) (fun fl cs x _ hx => by obtain ⟨a, e, -, hw⟩ := DataW.trod_int Tryd.underlying5 hx; exact ⟨a, e, wf_u8 hw⟩) hf'
  simp only [List.cons.injEq, Value.slice.injEq, and_true] at e
  obtain ⟨rfl, rfl, rfl⟩ := e
  by_cases h0 : 0 < len
  · obtain ⟨b, off, ha, hb, hc⟩ := hR h0
    have key : ∀ i, i < len → ∃ x : Int, W.cell? ⟨b, off + i, none⟩ = some (.int .u8 x) ∧ 0 ≤ x ∧ x ≤ 255 := by
      intro i hi
      obtain ⟨ds, -, ⟨x, rfl, hx0, hx1⟩, q⟩ := hc i hi
      have := q 0 (by omega)
      rw [Nat.mul_one, Nat.add_zero] at this
      exact ⟨x, this, hx0, hx1⟩
    obtain ⟨g, hg⟩ := Deep.choose_lt key
    exact ⟨_, _, _, g, rfl, fun _ => ⟨b, off, ha, hb, hg⟩, hn, hcap⟩
  · exact ⟨_, _, _, fun _ => 0, rfl, fun h => absurd h h0, hn, hcap⟩
end Go.Proofs.YtohalcookjbaaaaDoor
