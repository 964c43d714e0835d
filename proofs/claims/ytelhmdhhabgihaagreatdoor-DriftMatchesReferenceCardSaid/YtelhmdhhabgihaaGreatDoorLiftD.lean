/-
  Lists of named commas and of takes that come in.
-/
import Derived.Test.YtelhmdhhabgihaaGreatDoorLift2
import Derived.Test.YtelhmdhhabgihaaGreatDoorNvX
import Derived.Deep.Slices
namespace Go.Proofs.YtelhmdhhabgihaaGreatDoor
open Go.ChangeShapes Go.WideShapes Go.ChangeAt Go.RowKit

set_option maxRecDepth 100000 in
/-- Six cells that read as an array of six integers. -/
theorem six_trod {H : Type} {enc : TypeId × Value → H} {W : World} {base : Nat} {spare : Nat → Bool} {held : Bool} {fuel : Nat} {t e : TypeId} {cs : List Value} {x : DataW H × List MemPlace} (ht : Tryz.prog.underlying t = some (.array 6 e)) (he : Tryz.prog.underlying e = some (.int .i64)) (hc : Tryz.prog.cellsOf e = 1) (hl6 : cs.length = 6)
    (h : DataW.trod enc Tryz.prog W base spare held fuel t cs = some x) : ∃ a0 a1 a2 a3 a4 a5 : Int, cs = [.int .i64 a0, .int .i64 a1, .int .i64 a2, .int .i64 a3, .int .i64 a4, .int .i64 a5] := by
  obtain ⟨xs, m, -, -, -, hl, hi⟩ := DataW.trod_array ht h
  have hcell : ∀ i, i < 6 → ∃ a : Int, cs[i]? = some (.int .i64 a) := by
    intro i hi6
    have h := hi i hi6
    rw [List.getElem?_eq_getElem (by omega), hc] at h
    obtain ⟨a, e, -, -⟩ := DataW.trod_int he h
    refine ⟨a, ?_⟩
    have := congrArg (·[0]?) e
    simpa [List.getElem?_take, List.getElem?_drop] using this
  obtain ⟨a0, h0⟩ := hcell 0 (by omega)
  obtain ⟨a1, h1⟩ := hcell 1 (by omega)
  obtain ⟨a2, h2⟩ := hcell 2 (by omega)
  obtain ⟨a3, h3⟩ := hcell 3 (by omega)
  obtain ⟨a4, h4⟩ := hcell 4 (by omega)
  obtain ⟨a5, h5⟩ := hcell 5 (by omega)
  refine ⟨a0, a1, a2, a3, a4, a5, ?_⟩
  apply List.ext_getElem?
  intro i
  by_cases hi6 : i < 6
  · rcases (show i = 0 ∨ i = 1 ∨ i = 2 ∨ i = 3 ∨ i = 4 ∨ i = 5 by omega) with rfl | rfl | rfl | rfl | rfl | rfl
    · exact h0
    · exact h1
    · exact h2
    · exact h3
    · exact h4
    · exact h5
  · rw [List.getElem?_eq_none (by omega), List.getElem?_eq_none (by simp; omega)]
set_option maxRecDepth 100000 in
/-- A slice whose elements read as rows of cells of which P holds. -/
theorem slice_trod {H : Type} {enc : TypeId × Value → H} {W : World} {fuel : Nat} {cs : List Value} {x : DataW H × List MemPlace} {T E : TypeId} {sz : Nat} {P : List Value → Prop} (ht : Tryz.prog.underlying T = some (.slice E)) (hE : Tryz.prog.cellsOf E = sz) (hpos : 0 < sz)
    (helem : ∀ (fl : Nat) (cs : List Value) (x : DataW H × List MemPlace), cs.length = sz → DataW.trod enc Tryz.prog W 0 (fun _ => true) true fl E cs = some x → P cs)
    (h : DataW.trod enc Tryz.prog W 0 (fun _ => true) true fuel T cs = some x) :
    ∃ A n c, cs = [.slice A n c] ∧ n ≤ 9223372036854775807 ∧ (0 < n → ∃ b off, A = some ⟨b, off, none⟩ ∧ b < W.heap.size ∧ ∀ i, i < n → ∃ ds : List Value, ds.length = sz ∧ P ds ∧ ∀ j, j < sz → W.cell? ⟨b, off + i * sz + j, none⟩ = ds[j]?) ∧ n ≤ c := by
  rcases Deep.open_slice ht h with ⟨rfl, -⟩ | ⟨a, len, cap, m, fl, D, Pl, rfl, -, hl, hm, hmm, -, hx⟩
  · exact ⟨none, 0, 0, rfl, by omega, fun h => absurd h (by omega), by omega⟩
  · simp only [if_true] at hmm
    have key : ∀ i, i < len → ∃ ds : List Value, ds.length = sz ∧ P ds ∧ ∀ j, j < sz → W.cell? ((a.add (i * sz)).add j) = ds[j]? := by
      intro i hi
      obtain ⟨cs', h1, h2⟩ := hx i (by omega)
      rw [hE] at h1
      obtain ⟨-, hlen, hc⟩ := World.cells?_some h1
      exact ⟨cs', hlen, helem _ _ _ hlen h2, fun j hj => by rw [hE] at *; exact hc j hj⟩
    refine ⟨some a, len, cap, rfl, by unfold maxLen at hm; omega, fun hn => ?_, hl⟩
    obtain ⟨d0, q1, q2, q3⟩ := key 0 hn
    have h0 := q3 0 hpos
    rw [List.getElem?_eq_getElem (by omega)] at h0
    have hspot : a.spot = none := by simpa [Addr.add] using World.cell?_spot h0
    obtain ⟨b, off, spot⟩ := a
    dsimp only at hspot
    subst hspot
    have hb : b < W.heap.size := by
      rcases Nat.lt_or_ge b W.heap.size with h | h
      · exact h
      · exfalso
        simp only [Addr.add, Nat.zero_mul, if_true, World.cell?] at h0
        rw [Array.getElem?_eq_none (by omega)] at h0
        cases h0
    refine ⟨b, off, rfl, hb, fun i hi => ?_⟩
    obtain ⟨ds, r1, r2, r3⟩ := key i hi
    refine ⟨ds, r1, r2, fun j hj => ?_⟩
    have := r3 j hj
    rw [Addr.add_lit, Addr.add_lit] at this
    exact this
theorem six_get (a0 a1 a2 a3 a4 a5 : Int) (j : Nat) (hj : j < 6) : [Value.int .i64 a0, .int .i64 a1, .int .i64 a2, .int .i64 a3, .int .i64 a4, .int .i64 a5][j]? = some (.int .i64 (V6.get ⟨a0, a1, a2, a3, a4, a5⟩ j)) := by
  rcases (show j = 0 ∨ j = 1 ∨ j = 2 ∨ j = 3 ∨ j = 4 ∨ j = 5 by omega) with rfl | rfl | rfl | rfl | rfl | rfl <;> rfl
theorem rows_choose {W : World} {sz n : Nat} {A : Option Addr} (hR : 0 < n → ∃ b off, A = some ⟨b, off, none⟩ ∧ b < W.heap.size ∧ ∀ i, i < n → ∃ ds : List Value, ds.length = sz ∧ (∃ g : Nat → Int, ∀ j, j < sz → ds[j]? = some (.int .i64 (g j))) ∧ ∀ j, j < sz → W.cell? ⟨b, off + i * sz + j, none⟩ = ds[j]?) : ∃ f : Nat → Nat → Int, RowsAt W sz A n f := by
  by_cases h0 : 0 < n
  · obtain ⟨b, off, ha, hb, hc⟩ := hR h0
    have key : ∀ i, i < n → ∃ g : Nat → Int, ∀ j, j < sz → W.cell? ⟨b, off + i * sz + j, none⟩ = some (.int .i64 (g j)) := by
      intro i hi
      obtain ⟨ds, -, ⟨g, hg⟩, q⟩ := hc i hi
      exact ⟨g, fun j hj => (q j hj).trans (hg j hj)⟩
    obtain ⟨f, hf⟩ := Deep.choose_lt key
    exact ⟨f, fun _ => ⟨b, off, ha, hb, hf⟩⟩
  · exact ⟨fun _ _ => 0, fun h => absurd h h0⟩
theorem cellsVec : Tryz.prog.cellsOf 53 = 6 := by kernel_rfl
theorem cellsStr : Tryz.prog.cellsOf 9 = 1 := by kernel_rfl
set_option maxRecDepth 100000 in
/-- A list of takes that came in. -/
theorem open_takes {H : Type} {enc : TypeId × Value → H} {W : World} {r : Go.Reach} {b0 : Nat} {v : Value} {d : DataW H} {p : List MemPlace} (hv : Value.okWide Tryz.prog W r b0 23 v)
    (h : DataW.Trod enc Tryz.prog W 0 (fun _ => true) true 23 v d p) : ∃ (A : Option Addr) (n c : Nat) (f : Nat → Nat → Int), v = .slice A n c ∧ RowsAt W 4 A n f ∧ n ≤ 9223372036854775807 ∧ n ≤ c := by
  obtain ⟨a, len, cap, rfl⟩ := okWide_slice Tryz.underlying23 hv
  obtain ⟨fuel, hf⟩ := h
  have hf' : DataW.trod enc Tryz.prog W 0 (fun _ => true) true fuel 23 [.slice a len cap] = some (d, p) := hf
  obtain ⟨A, n, c, e, hn, hR, hcap⟩ := slice_trod (P := fun cs => ∃ g : Nat → Int, ∀ j, j < 4 → cs[j]? = some (.int .i64 (g j))) Tryz.underlying23 (show Tryz.prog.cellsOf 40 = 4 by kernel_rfl) (by omega) (fun fl cs x hl hx => by
    obtain ⟨xs, m, -, -, -, hxl, hi⟩ := DataW.trod_struct Tryz.underlying40 hx
    have g0 := hi 0 _ rfl
    have g1 := hi 1 _ rfl
    have g2 := hi 2 _ rfl
    have g3 := hi 3 _ rfl
    have hxl4 : xs.length = 4 := hxl
    rw [List.getElem?_eq_getElem (by omega)] at g0 g1 g2 g3
    change DataW.trod enc Tryz.prog W 0 (fun _ => true) true m 3 ((cs.drop 0).take (Tryz.prog.cellsOf 3)) = _ at g0
    change DataW.trod enc Tryz.prog W 0 (fun _ => true) true m 3 ((cs.drop 1).take (Tryz.prog.cellsOf 3)) = _ at g1
    change DataW.trod enc Tryz.prog W 0 (fun _ => true) true m 3 ((cs.drop 2).take (Tryz.prog.cellsOf 3)) = _ at g2
    change DataW.trod enc Tryz.prog W 0 (fun _ => true) true m 3 ((cs.drop 3).take (Tryz.prog.cellsOf 3)) = _ at g3
    rw [cellsInt] at g0 g1 g2 g3
    obtain ⟨x0, e0, -, -⟩ := DataW.trod_int Tryz.underlying3 g0
    obtain ⟨x1, e1, -, -⟩ := DataW.trod_int Tryz.underlying3 g1
    obtain ⟨x2, e2, -, -⟩ := DataW.trod_int Tryz.underlying3 g2
    obtain ⟨x3, e3, -, -⟩ := DataW.trod_int Tryz.underlying3 g3
    have look : ∀ (o k j : Nat) (l : List Value), (cs.drop o).take k = l → j < k → cs[o + j]? = l[j]? := by
      intro o k j l hl hj
      rw [← hl]
      simp [List.getElem?_drop, hj]
    refine ⟨fun j => if j = 0 then x0 else if j = 1 then x1 else if j = 2 then x2 else x3, fun j hj => ?_⟩
    rcases (show j = 0 ∨ j = 1 ∨ j = 2 ∨ j = 3 by omega) with rfl | rfl | rfl | rfl
    · exact look 0 1 0 _ e0 (by omega)
    · exact look 1 1 0 _ e1 (by omega)
    · exact look 2 1 0 _ e2 (by omega)
    · exact look 3 1 0 _ e3 (by omega)) hf'
  simp only [List.cons.injEq, Value.slice.injEq, and_true] at e
  obtain ⟨rfl, rfl, rfl⟩ := e
  obtain ⟨f, hf⟩ := rows_choose hR
  exact ⟨_, _, _, f, rfl, hf, hn, hcap⟩
set_option maxRecDepth 100000 in
/-- A list of named commas that came in. -/
theorem open_named {H : Type} {enc : TypeId × Value → H} {W : World} {r : Go.Reach} {b0 : Nat} {v : Value} {d : DataW H} {p : List MemPlace} (hv : Value.okWide Tryz.prog W r b0 22 v)
    (h : DataW.Trod enc Tryz.prog W 0 (fun _ => true) true 22 v d p) : ∃ (A : Option Addr) (n c : Nat) (nm : Nat → ByteArray) (f : Nat → Nat → Int), v = .slice A n c ∧ NamedAt W A n nm f ∧ n ≤ 9223372036854775807 ∧ n ≤ c := by
  obtain ⟨a, len, cap, rfl⟩ := okWide_slice Tryz.underlying22 hv
  obtain ⟨fuel, hf⟩ := h
  have hf' : DataW.trod enc Tryz.prog W 0 (fun _ => true) true fuel 22 [.slice a len cap] = some (d, p) := hf
  obtain ⟨A, n, c, e, hn, hR, hcap⟩ := slice_trod (P := fun cs => ∃ (s : ByteArray) (g : Nat → Int), cs[0]? = some (.string s) ∧ s.size ≤ maxLen ∧ ∀ j, j < 6 → cs[j + 1]? = some (.int .i64 (g j))) Tryz.underlying22 (show Tryz.prog.cellsOf 65 = 7 by kernel_rfl) (by omega) (fun fl cs x hl hx => by
    obtain ⟨xs, m, -, -, -, hxl, hi⟩ := DataW.trod_struct Tryz.underlying65 hx
    have g0 := hi 0 _ rfl
    have g1 := hi 1 _ rfl
    have hxl2 : xs.length = 2 := hxl
    rw [List.getElem?_eq_getElem (by omega)] at g0 g1
    change DataW.trod enc Tryz.prog W 0 (fun _ => true) true m 9 ((cs.drop 0).take (Tryz.prog.cellsOf 9)) = _ at g0
    change DataW.trod enc Tryz.prog W 0 (fun _ => true) true m 53 ((cs.drop 1).take (Tryz.prog.cellsOf 53)) = _ at g1
    rw [cellsStr] at g0
    rw [cellsVec] at g1
    obtain ⟨s, e0, -, hs⟩ := DataW.trod_string Tryz.underlying9 g0
    obtain ⟨a0, a1, a2, a3, a4, a5, e1⟩ := six_trod Tryz.underlying53 Tryz.underlying3 cellsInt (by simp [hl]) g1
    have look : ∀ (o k j : Nat) (l : List Value), (cs.drop o).take k = l → j < k → cs[o + j]? = l[j]? := by
      intro o k j l hl hj
      rw [← hl]
      simp [List.getElem?_drop, hj]
    refine ⟨s, V6.get ⟨a0, a1, a2, a3, a4, a5⟩, look 0 1 0 _ e0 (by omega), hs, fun j hj => ?_⟩
    have := look 1 6 j _ e1 hj
    rw [Nat.add_comm j 1, this, six_get _ _ _ _ _ _ j hj]) hf'
  simp only [List.cons.injEq, Value.slice.injEq, and_true] at e
  obtain ⟨rfl, rfl, rfl⟩ := e
  by_cases h0 : 0 < len
  · obtain ⟨b, off, ha, hb, hc⟩ := hR h0
    have key : ∀ i, i < len → ∃ x : ByteArray × (Nat → Int), W.cell? ⟨b, off + i * 7, none⟩ = some (.string x.1) ∧ x.1.size ≤ maxLen ∧ ∀ j, j < 6 → W.cell? ⟨b, off + i * 7 + (j + 1), none⟩ = some (.int .i64 (x.2 j)) := by
      intro i hi
      obtain ⟨ds, -, ⟨s, g, h1, h2, h3⟩, q⟩ := hc i hi
      exact ⟨(s, g), (q 0 (by omega)).trans h1, h2, fun j hj => (q (j + 1) (by omega)).trans (h3 j hj)⟩
    obtain ⟨x, hx⟩ := Deep.choose_lt key
    exact ⟨_, _, _, fun i => (x i).1, fun i => (x i).2, rfl, fun _ => ⟨b, off, ha, hb, hx⟩, hn, hcap⟩
  · exact ⟨_, _, _, fun _ => default, fun _ _ => 0, rfl, fun h => absurd h h0, hn, hcap⟩
/-- A world in which the four laid tables hold what is laid there. -/
noncomputable def laidWorldD (os : Os) : World :=
  { laidWorld os with heap := ((laidWorld os).heap.modify 2 (holdCells (Pinned.utf8FirstZ.map fun (n : Nat) => Value.int .u8 (n : Int)).toArray)).modify 3 (holdCells #[.int .u8 128, .int .u8 191, .int .u8 160, .int .u8 191, .int .u8 128, .int .u8 159, .int .u8 144, .int .u8 191, .int .u8 128, .int .u8 143, .int .u8 0, .int .u8 0, .int .u8 0, .int .u8 0, .int .u8 0, .int .u8 0, .int .u8 0, .int .u8 0, .int .u8 0, .int .u8 0, .int .u8 0, .int .u8 0, .int .u8 0, .int .u8 0, .int .u8 0, .int .u8 0, .int .u8 0, .int .u8 0, .int .u8 0, .int .u8 0, .int .u8 0, .int .u8 0]) }
end Go.Proofs.YtelhmdhhabgihaaGreatDoor
