/-
  What the row's list says of the table of primes.

  Horns, blows, intervals and lists of pitches that come in; the table of package brass.
-/
import Derived.Test.YtbaopniofhbjdaaDoorLift
import Derived.Test.YtbaopniofhbjdaaDoorFrac1
import Derived.Test.YtbaopniofhbjdaaDoorBrassAll
import Derived.Deep.Slices
namespace Go.Proofs.YtbaopniofhbjdaaDoor
open Go.ChangeShapes Go.WideShapes Go.ChangeAt Go.RowKit

theorem gPrimes : Tryd.prog.globalNamed "schisma/pitch.primes" = some 0 := by kernel_rfl
theorem gPrimesType : (Tryd.prog.globals[0]?).map (·.type) = some 22 := by kernel_rfl
theorem primes_of {W : World} {l : List (String × DataW Unit)} (h : laidMet Tryd.prog l W) (hm : ("schisma/pitch.primes", Rows.laid_schisma_pitch_primes) ∈ l) : Primes W := by
  obtain ⟨ps, hl, -, -⟩ := h
  obtain ⟨g, t, cs, fuel, p, h1, h2, h3, h4⟩ := laid_mem hl hm
  obtain rfl := Option.some.inj (gPrimes.symm.trans h1)
  obtain rfl := Option.some.inj (gPrimesType.symm.trans h2)
  have hcell := World.var?_cell gPrimes h3
  obtain ⟨xs, m, -, hx, hlen, hxl, hi⟩ := DataW.trod_array Tryd.underlying22 h4
  simp only [Prod.mk.injEq, Rows.laid_schisma_pitch_primes, DataW.agg.injEq] at hx
  obtain ⟨hx, -⟩ := hx
  have key : ∀ (i : Nat) (a : Int), i < 6 → (xs.map (·.1))[i]? = some (.lit (.int .i64 a)) → cs[i]? = some (.int .i64 a) := by
    intro i a hi6 he
    have h := hi i hi6
    rw [List.getElem?_map] at he
    obtain ⟨y, hy, hy1⟩ := Option.map_eq_some_iff.1 he
    rw [hy] at h
    obtain ⟨y1, y2⟩ := y
    dsimp only at hy1
    subst hy1
    obtain ⟨b, e, f, -⟩ := DataW.trod_int Tryd.underlying3 h
    obtain rfl : a = b := by simpa using (Prod.mk.inj f).1
    have := congrArg (·[0]?) e
    rw [cellsInt] at this
    simpa [List.getElem?_take, List.getElem?_drop] using this
  rw [← hx] at key
  have cells : ∀ k, k < 6 → W.cell? ⟨0, k, none⟩ = some (.int .i64 (primeI k)) := by
    intro k hk
    refine (hcell k).trans (key k _ hk ?_)
    obtain rfl | rfl | rfl | rfl | rfl | rfl : k = 0 ∨ k = 1 ∨ k = 2 ∨ k = 3 ∨ k = 4 ∨ k = 5 := by omega
    all_goals rfl
  refine ⟨?_, cells⟩
  have := cells 0 (by omega)
  rcases Nat.lt_or_ge 0 W.heap.size with h0 | h0
  · exact h0
  · exfalso
    simp only [World.cell?] at this
    rw [Array.getElem?_eq_none (by omega)] at this
    cases this
end Go.Proofs.YtbaopniofhbjdaaDoor
namespace Go.Proofs.YtbaopniofhbjdaaDoor
open Go.ChangeShapes Go.WideShapes Go.ChangeAt Go.RowKit

set_option maxRecDepth 100000 in
/-- Six cells that read as an array of six integers. -/
theorem six_trod {H : Type} {enc : TypeId × Value → H} {W : World} {base : Nat} {spare : Nat → Bool} {held : Bool} {fuel : Nat} {t e : TypeId} {cs : List Value} {x : DataW H × List MemPlace} (ht : Tryd.prog.underlying t = some (.array 6 e)) (he : Tryd.prog.underlying e = some (.int .i64)) (hc : Tryd.prog.cellsOf e = 1) (hl6 : cs.length = 6)
    (h : DataW.trod enc Tryd.prog W base spare held fuel t cs = some x) : ∃ a0 a1 a2 a3 a4 a5 : Int, cs = [.int .i64 a0, .int .i64 a1, .int .i64 a2, .int .i64 a3, .int .i64 a4, .int .i64 a5] := by
  obtain ⟨xs, m, -, -, -, hl, hi⟩ := DataW.trod_array ht h
  have hcell : ∀ i, i < 6 → ∃ a : Int, cs[i]? = some (.int .i64 a) := by
    intro i hi6
    have h := hi i hi6
    rw [List.getElem?_eq_getElem (by omega), hc] at h
    obtain ⟨a, e, -, -⟩ := DataW.trod_int he h
    refine ⟨a, ?_⟩
    have := congrArg (·[0]?) e
    simpa [List.getElem?_take, List.getElem?_drop] using this
  obtain ⟨a0, h0⟩ := hcell 0 (by omega)
  obtain ⟨a1, h1⟩ := hcell 1 (by omega)
  obtain ⟨a2, h2⟩ := hcell 2 (by omega)
  obtain ⟨a3, h3⟩ := hcell 3 (by omega)
  obtain ⟨a4, h4⟩ := hcell 4 (by omega)
  obtain ⟨a5, h5⟩ := hcell 5 (by omega)
  refine ⟨a0, a1, a2, a3, a4, a5, ?_⟩
  apply List.ext_getElem?
  intro i
  by_cases hi6 : i < 6
  · rcases (show i = 0 ∨ i = 1 ∨ i = 2 ∨ i = 3 ∨ i = 4 ∨ i = 5 by omega) with rfl | rfl | rfl | rfl | rfl | rfl
    · exact h0
    · exact h1
    · exact h2
    · exact h3
    · exact h4
    · exact h5
  · rw [List.getElem?_eq_none (by omega), List.getElem?_eq_none (by simp; omega)]
set_option maxRecDepth 100000 in
/-- A list of pitches that came in. -/
theorem rows6_trod {H : Type} {enc : TypeId × Value → H} {W : World} {fuel : Nat} {cs : List Value} {x : DataW H × List MemPlace} (h : DataW.trod enc Tryd.prog W 0 (fun _ => true) true fuel 24 cs = some x) :
    ∃ A n c f, cs = [.slice A n c] ∧ RowsAt W 6 A n f ∧ n ≤ 9223372036854775807 := by
  rcases Deep.open_slice Tryd.underlying24 h with ⟨rfl, -⟩ | ⟨a, len, cap, m, fl, D, Pl, rfl, -, hl, hm, hmm, -, hx⟩
  · exact ⟨none, 0, 0, fun _ _ => 0, rfl, RowsAt.nil _ _ _ _, by omega⟩
  · simp only [if_true] at hmm
    have key : ∀ i, i < len → ∃ g : Nat → Int, ∀ j, j < 6 → W.cell? ((a.add (i * 6)).add j) = some (.int .i64 (g j)) := by
      intro i hi
      obtain ⟨cs', h1, h2⟩ := hx i (by omega)
      rw [cellsPitch] at h1
      obtain ⟨-, hlen, hc⟩ := World.cells?_some h1
      obtain ⟨a0, a1, a2, a3, a4, a5, rfl⟩ := six_trod Tryd.underlying23 Tryd.underlying3 cellsInt hlen h2
      refine ⟨V6.get ⟨a0, a1, a2, a3, a4, a5⟩, fun j hj => (hc j hj).trans ?_⟩
      rcases (show j = 0 ∨ j = 1 ∨ j = 2 ∨ j = 3 ∨ j = 4 ∨ j = 5 by omega) with rfl | rfl | rfl | rfl | rfl | rfl <;> rfl
    obtain ⟨f, hf⟩ := Deep.choose_lt key
    refine ⟨some a, len, cap, f, rfl, fun hn => ?_, by unfold maxLen at hm; omega⟩
    have h0 := hf 0 hn 0 (by omega)
    have hspot : a.spot = none := by simpa [Addr.add] using World.cell?_spot h0
    obtain ⟨b, off, spot⟩ := a
    dsimp only at hspot
    subst hspot
    have hb : b < W.heap.size := by
      rcases Nat.lt_or_ge b W.heap.size with h | h
      · exact h
      · exfalso
        simp only [Addr.add, Nat.zero_mul, if_true, World.cell?] at h0
        rw [Array.getElem?_eq_none (by omega)] at h0
        cases h0
    refine ⟨b, off, rfl, hb, fun i hi j hj => ?_⟩
    have := hf i hi j hj
    have ea : ((⟨b, off, none⟩ : Addr).add (i * 6)).add j = ⟨b, off + i * 6 + j, none⟩ := by
      unfold Addr.add
      by_cases e1 : i * 6 = 0 <;> by_cases e2 : j = 0 <;> simp [e1, e2]
    rw [ea] at this
    exact this
theorem cellsHorn : Tryd.prog.cellsOf 26 = 9 := by kernel_rfl
theorem cellsBlow : Tryd.prog.cellsOf 28 = 2 := by kernel_rfl
theorem cellsVec : Tryd.prog.cellsOf 29 = 6 := by kernel_rfl
set_option maxRecDepth 100000 in
/-- A horn that came in. -/
theorem open_horn {H : Type} {enc : TypeId × Value → H} {W : World} {r : Reach} {b0 : Nat} {v : Value} {d : DataW H} {p : List MemPlace} (hv : Value.okWide Tryd.prog W r b0 26 v)
    (h : DataW.Trod enc Tryd.prog W 0 (fun _ => true) true 26 v d p) : ∃ (a0 a1 a2 a3 a4 a5 most tol : Int) (A : Option Addr) (n c : Nat) (f : Nat → Nat → Int), v = .agg #[.int .i64 a0, .int .i64 a1, .int .i64 a2, .int .i64 a3, .int .i64 a4, .int .i64 a5, .slice A n c, .int .i64 most, .int .i64 tol] ∧ RowsAt W 6 A n f ∧ n ≤ 9223372036854775807 := by
  obtain ⟨cs, rfl, hsz⟩ := okWide_struct Tryd.underlying26 hv
  rw [cellsHorn] at hsz
  obtain ⟨fuel, hf⟩ := h
  obtain ⟨xs, n, -, -, -, hxl, hi⟩ := DataW.trod_struct Tryd.underlying26 hf
  have g0 := hi 0 _ rfl
  have g1 := hi 1 _ rfl
  have g2 := hi 2 _ rfl
  have g3 := hi 3 _ rfl
  have hxl4 : xs.length = 4 := hxl
  rw [List.getElem?_eq_getElem (by omega)] at g0 g1 g2 g3
  change DataW.trod enc Tryd.prog W 0 (fun _ => true) true n 23 (((Value.agg cs).cells.toList.drop 0).take (Tryd.prog.cellsOf 23)) = _ at g0
  change DataW.trod enc Tryd.prog W 0 (fun _ => true) true n 24 (((Value.agg cs).cells.toList.drop 6).take (Tryd.prog.cellsOf 24)) = _ at g1
  change DataW.trod enc Tryd.prog W 0 (fun _ => true) true n 3 (((Value.agg cs).cells.toList.drop 7).take (Tryd.prog.cellsOf 3)) = _ at g2
  change DataW.trod enc Tryd.prog W 0 (fun _ => true) true n 3 (((Value.agg cs).cells.toList.drop 8).take (Tryd.prog.cellsOf 3)) = _ at g3
  rw [cellsPitch] at g0
  rw [show Tryd.prog.cellsOf 24 = 1 by kernel_rfl] at g1
  rw [cellsInt] at g2 g3
  obtain ⟨a0, a1, a2, a3, a4, a5, e0⟩ := six_trod Tryd.underlying23 Tryd.underlying3 cellsInt (by simp [Value.cells, hsz]) g0
  obtain ⟨A, len, cap, f, e1, hR, hlen⟩ := rows6_trod g1
  obtain ⟨most, e2, -, -⟩ := DataW.trod_int Tryd.underlying3 g2
  obtain ⟨tol, e3, -, -⟩ := DataW.trod_int Tryd.underlying3 g3
  refine ⟨a0, a1, a2, a3, a4, a5, most, tol, A, len, cap, f, congrArg Value.agg ?_, hR, hlen⟩
  have look : ∀ (o k j : Nat) (l : List Value), ((Value.agg cs).cells.toList.drop o).take k = l → j < k → cs[o + j]? = l[j]? := by
    intro o k j l hl hj
    rw [← hl]
    simp [Value.cells, List.getElem?_drop, hj]
  apply Array.ext_getElem?
  intro i
  by_cases hi9 : i < 9
  · rcases (show i = 0 ∨ i = 1 ∨ i = 2 ∨ i = 3 ∨ i = 4 ∨ i = 5 ∨ i = 6 ∨ i = 7 ∨ i = 8 by omega) with rfl | rfl | rfl | rfl | rfl | rfl | rfl | rfl | rfl
    · exact look 0 6 0 _ e0 (by omega)
    · exact look 0 6 1 _ e0 (by omega)
    · exact look 0 6 2 _ e0 (by omega)
    · exact look 0 6 3 _ e0 (by omega)
    · exact look 0 6 4 _ e0 (by omega)
    · exact look 0 6 5 _ e0 (by omega)
    · exact look 6 1 0 _ e1 (by omega)
    · exact look 7 1 0 _ e2 (by omega)
    · exact look 8 1 0 _ e3 (by omega)
  · rw [Array.getElem?_eq_none (by omega), Array.getElem?_eq_none (by simp; omega)]
set_option maxRecDepth 100000 in
/-- A blow that came in. -/
theorem open_blow {H : Type} {enc : TypeId × Value → H} {W : World} {r : Reach} {b0 : Nat} {v : Value} {d : DataW H} {p : List MemPlace} (hv : Value.okWide Tryd.prog W r b0 28 v)
    (h : DataW.Trod enc Tryd.prog W 0 (fun _ => true) true 28 v d p) : ∃ a b : Int, v = .agg #[.int .i64 a, .int .i64 b] ∧ b ≤ 9223372036854775807 := by
  obtain ⟨v0, v1, y0, y1, n, rfl, -, -, h0, h1⟩ := Joins.open_agg2 Tryd.underlying28 (by kernel_rfl) cellsBlow hv h
  obtain ⟨a, e0, -, -⟩ := DataW.trod_int Tryd.underlying3 h0
  obtain ⟨b, e1, -, hw⟩ := DataW.trod_int Tryd.underlying3 h1
  simp only [List.cons.injEq, and_true] at e0 e1
  exact ⟨a, b, by rw [e0, e1], (bounds_i64 hw).2⟩
set_option maxRecDepth 100000 in
/-- An interval that came in. -/
theorem open_vec {H : Type} {enc : TypeId × Value → H} {W : World} {r : Reach} {b0 : Nat} {v : Value} {d : DataW H} {p : List MemPlace} (hv : Value.okWide Tryd.prog W r b0 29 v)
    (h : DataW.Trod enc Tryd.prog W 0 (fun _ => true) true 29 v d p) : ∃ a0 a1 a2 a3 a4 a5 : Int, v = .agg #[.int .i64 a0, .int .i64 a1, .int .i64 a2, .int .i64 a3, .int .i64 a4, .int .i64 a5] := by
  obtain ⟨cs, rfl, hsz⟩ : ∃ cs, v = .agg cs ∧ cs.size = Tryd.prog.cellsOf 29 := by
    simp only [Value.okWide, Tryd.underlying29] at hv
    obtain ⟨cs, h1, h2, _⟩ := hv
    exact ⟨cs, h1, h2⟩
  rw [cellsVec] at hsz
  obtain ⟨fuel, hf⟩ := h
  obtain ⟨a0, a1, a2, a3, a4, a5, e⟩ := six_trod Tryd.underlying29 Tryd.underlying3 cellsInt (by simpa [Value.cells] using hsz) hf
  exact ⟨a0, a1, a2, a3, a4, a5, congrArg Value.agg (Array.toList_inj.1 (by simpa [Value.cells] using e))⟩
theorem gBPrimes : Tryd.prog.globalNamed "schisma/brass.primes" = some 1 := by kernel_rfl
theorem gBPrimesType : (Tryd.prog.globals[1]?).map (·.type) = some 22 := by kernel_rfl
theorem bprimes_of {W : World} {l : List (String × DataW Unit)} (h : laidMet Tryd.prog l W) (hm : ("schisma/brass.primes", Rows.laid_schisma_brass_primes) ∈ l) : BPrimes W := by
  obtain ⟨ps, hl, -, -⟩ := h
  obtain ⟨g, t, cs, fuel, p, h1, h2, h3, h4⟩ := laid_mem hl hm
  obtain rfl := Option.some.inj (gBPrimes.symm.trans h1)
  obtain rfl := Option.some.inj (gBPrimesType.symm.trans h2)
  have hcell := World.var?_cell gBPrimes h3
  obtain ⟨xs, m, -, hx, hlen, hxl, hi⟩ := DataW.trod_array Tryd.underlying22 h4
  simp only [Prod.mk.injEq, Rows.laid_schisma_brass_primes, DataW.agg.injEq] at hx
  obtain ⟨hx, -⟩ := hx
  have key : ∀ (i : Nat) (a : Int), i < 6 → (xs.map (·.1))[i]? = some (.lit (.int .i64 a)) → cs[i]? = some (.int .i64 a) := by
    intro i a hi6 he
    have h := hi i hi6
    rw [List.getElem?_map] at he
    obtain ⟨y, hy, hy1⟩ := Option.map_eq_some_iff.1 he
    rw [hy] at h
    obtain ⟨y1, y2⟩ := y
    dsimp only at hy1
    subst hy1
    obtain ⟨b, e, f, -⟩ := DataW.trod_int Tryd.underlying3 h
    obtain rfl : a = b := by simpa using (Prod.mk.inj f).1
    have := congrArg (·[0]?) e
    rw [cellsInt] at this
    simpa [List.getElem?_take, List.getElem?_drop] using this
  rw [← hx] at key
  have cells : ∀ k, k < 6 → W.cell? ⟨1, k, none⟩ = some (.int .i64 (V6.get ⟨2, 3, 5, 7, 11, 13⟩ k)) := by
    intro k hk
    refine (hcell k).trans (key k _ hk ?_)
    obtain rfl | rfl | rfl | rfl | rfl | rfl : k = 0 ∨ k = 1 ∨ k = 2 ∨ k = 3 ∨ k = 4 ∨ k = 5 := by omega
    all_goals rfl
  refine ⟨?_, cells⟩
  have := cells 0 (by omega)
  rcases Nat.lt_or_ge 1 W.heap.size with h0 | h0
  · exact h0
  · exfalso
    simp only [World.cell?] at this
    rw [Array.getElem?_eq_none (by omega)] at this
    cases this
theorem tabs_of {W : World} {l : List (String × DataW Unit)} (h : laidMet Tryd.prog l W) (h1 : ("schisma/size.logs", Rows.laid_schisma_size_logs) ∈ l) (h2 : ("schisma/pitch.primes", Rows.laid_schisma_pitch_primes) ∈ l) (h3 : ("schisma/brass.primes", Rows.laid_schisma_brass_primes) ∈ l) : Tabs W :=
  ⟨logs_of h h1, primes_of h h2, bprimes_of h h3⟩
/-- A world for the witness: all three tables laid. -/
noncomputable def laidWorld3 (os : Os) : World :=
  { laidWorld os with heap := (laidWorld os).heap.modify 1 (holdCells #[.int .i64 2, .int .i64 3, .int .i64 5, .int .i64 7, .int .i64 11, .int .i64 13]) }
end Go.Proofs.YtbaopniofhbjdaaDoor
