/-
  From a walk of a law ('it returns true, and nothing that was there has changed') to the given row's words. Nothing here is about one law.
-/
import Derived.Test.YtelhmdhhabgihaaGreatDoorCards
import Derived.Test.YtelhmdhhabgihaaGreatDoorTie
import Derived.Test.YtelhmdhhabgihaaGreatDoorBase
import Derived.Test.YtelhmdhhabgihaaGreatDoorExps
import Derived.ProofKit
import Derived.OpenShut
import Derived.Deep.DeepHandedRow
import Derived.Lib.SmallJoins
import Derived.Lib.LaidTab
namespace Go.Proofs.YtelhmdhhabgihaaGreatDoor
open Go.ChangeShapes Go.WideShapes Go.ChangeAt Go.RowKit

theorem own : ownKnob Tryz.prog.godebug = none := by kernel_rfl
theorem laidOut : laidOutB Tryz.prog = true := by kernel_rfl
theorem gLogs : Tryz.prog.globalNamed "schisma/size.logs" = some 0 := by kernel_rfl
theorem gLogsType : (Tryz.prog.globals[0]?).map (·.type) = some 104 := by kernel_rfl
theorem cellsLogs : Tryz.prog.cellsOf 104 = 12 := by kernel_rfl
theorem cellsSize : Tryz.prog.cellsOf 59 = 2 := by kernel_rfl
theorem cellsInt : Tryz.prog.cellsOf 3 = 1 := by kernel_rfl
theorem cellsPitch : Tryz.prog.cellsOf 54 = 6 := by kernel_rfl

/-- The arguments read behind the call as they read before. -/
theorem trodAll_below {H : Type} {enc : TypeId × Value → H} {W W' : World} (hb : Below W.heap.size W W') :
    ∀ (ts : List TypeId) (vs : List Value) (ds : List (DataW H)) (ps : List MemPlace), (∀ t ∈ ts, Tryz.prog.readableRec t = true ∧ t < Tryz.prog.types.size) → (∀ x ∈ ps, x.block < W.heap.size) →
      DataW.TrodAll enc Tryz.prog W 0 (fun _ => true) true ts vs ds ps → DataW.TrodAll enc Tryz.prog W' 0 (fun b => decide (b < W.heap.size)) true ts vs ds ps
  | [], [], [], _, _, _, h => h
  | t :: ts, v :: vs, d :: ds, ps, ht, hlt, h => by
    obtain ⟨p, q, h1, h2, rfl⟩ := h
    obtain ⟨r1, r2⟩ := ht t (by simp)
    exact ⟨p, q, Below.trod laidOut r1 r2 h1 hb (fun x hx => hlt x (by simp [hx])),
      trodAll_below hb ts vs ds q (fun u hu => ht u (by simp [hu])) (fun x hx => hlt x (by simp [hx])) h2, rfl⟩
  | [], [], _ :: _, _, _, _, h => h.elim
  | [], _ :: _, _, _, _, _, h => h.elim
  | _ :: _, [], _, _, _, _, h => h.elim
  | _ :: _, _ :: _, [], _, _, _, h => h.elim

/-- A law's walk gives what the row asks of the state behind the call. -/
theorem post_true {H : Type} {enc : TypeId × Value → H} {f : Func} {s : ChangeSpec} {W W' : World} {args : Array Value} {ds gs : List (DataW H)} {before : List MemPlace}
    (hW : DataW.Whole enc Tryz.prog f.params.toList s.vars false W args.toList ds gs before) (hv : s.vars = [])
    (hfn : s.fn H (ds ++ gs) = { results := [.lit (.bool true)], args := ds, vars := [] }) (hr : f.resultTypes = #[4])
    (hp : ∀ t ∈ f.params.toList, Tryz.prog.readableRec t = true ∧ t < Tryz.prog.types.size) (hb : Gr W W') :
    s.post enc Tryz.prog f false true false false W args (.bool true) W' := by
  have hlt := hW.lt
  have hW0 := hW
  obtain ⟨p, q, h1, h2, rfl, h3, h4⟩ := hW
  rw [hv] at h2
  obtain ⟨rfl, rfl⟩ := trodVars_none h2
  refine ⟨ds, [], p ++ [], [], p, [], hW0, ?_, ?_, ?_, ?_, fun h => by cases h⟩
  · rw [hfn, hr]
    exact trodAll_cons_mk (shut_bool Tryz.underlying4 _) trodAll_mk0
  · rw [hfn]
    exact trodAll_below hb _ _ _ _ hp (fun x hx => hlt x (by simp [hx])) h1
  · rw [hfn, hv]; rfl
  · exact Below.frame hb _

set_option maxRecDepth 100000 in
/-- A size that came in. -/
theorem open_size {H : Type} {enc : TypeId × Value → H} {W : World} {r : Reach} {b0 : Nat} {v : Value} {d : DataW H} {p : List MemPlace} (hv : Value.okWide Tryz.prog W r b0 59 v)
    (h : DataW.Trod enc Tryz.prog W 0 (fun _ => true) true 59 v d p) : ∃ a b : Int, v = .agg #[.int .i64 a, .int .i64 b] := by
  obtain ⟨v0, v1, y0, y1, n, rfl, -, -, h0, h1⟩ := Joins.open_agg2 Tryz.underlying59 (by kernel_rfl) cellsSize hv h
  obtain ⟨a, e0, -, -⟩ := DataW.trod_int Tryz.underlying3 h0
  obtain ⟨b, e1, -, -⟩ := DataW.trod_int Tryz.underlying3 h1
  simp only [List.cons.injEq, and_true] at e0 e1
  exact ⟨a, b, by rw [e0, e1]⟩

set_option maxRecDepth 100000 in
/-- A pitch that came in. -/
theorem open_pitch {H : Type} {enc : TypeId × Value → H} {W : World} {r : Reach} {b0 : Nat} {v : Value} {d : DataW H} {p : List MemPlace} (hv : Value.okWide Tryz.prog W r b0 54 v)
    (h : DataW.Trod enc Tryz.prog W 0 (fun _ => true) true 54 v d p) : ∃ a0 a1 a2 a3 a4 a5 : Int, v = .agg #[.int .i64 a0, .int .i64 a1, .int .i64 a2, .int .i64 a3, .int .i64 a4, .int .i64 a5] := by
  obtain ⟨cs, rfl, hsz⟩ : ∃ cs, v = .agg cs ∧ cs.size = Tryz.prog.cellsOf 54 := by
    simp only [Value.okWide, Tryz.underlying54] at hv
    obtain ⟨cs, h1, h2, _⟩ := hv
    exact ⟨cs, h1, h2⟩
  rw [cellsPitch] at hsz
  obtain ⟨fuel, hf⟩ := h
  obtain ⟨xs, m, -, -, -, hl, hi⟩ := DataW.trod_array Tryz.underlying54 hf
  have hcell : ∀ i, i < 6 → ∃ a : Int, cs[i]? = some (.int .i64 a) := by
    intro i hi6
    have h := hi i hi6
    rw [List.getElem?_eq_getElem (by omega), cellsInt] at h
    obtain ⟨a, e, -, -⟩ := DataW.trod_int Tryz.underlying3 h
    refine ⟨a, ?_⟩
    have := congrArg (·[0]?) e
    simpa [List.getElem?_take, List.getElem?_drop, Value.cells] using this
  obtain ⟨a0, h0⟩ := hcell 0 (by omega)
  obtain ⟨a1, h1⟩ := hcell 1 (by omega)
  obtain ⟨a2, h2⟩ := hcell 2 (by omega)
  obtain ⟨a3, h3⟩ := hcell 3 (by omega)
  obtain ⟨a4, h4⟩ := hcell 4 (by omega)
  obtain ⟨a5, h5⟩ := hcell 5 (by omega)
  refine ⟨a0, a1, a2, a3, a4, a5, congrArg Value.agg ?_⟩
  apply Array.ext_getElem?
  intro i
  by_cases hi6 : i < 6
  · obtain rfl | rfl | rfl | rfl | rfl | rfl : i = 0 ∨ i = 1 ∨ i = 2 ∨ i = 3 ∨ i = 4 ∨ i = 5 := by omega
    · exact h0
    · exact h1
    · exact h2
    · exact h3
    · exact h4
    · exact h5
  · rw [Array.getElem?_eq_none (by omega), Array.getElem?_eq_none (by simp; omega)]

/-- What the row's list says of one of its variables. -/
theorem laid_mem {W : World} {n : String} {d : DataW Unit} : ∀ {l : List (String × DataW Unit)} {ps : List MemPlace}, DataW.LaidVars Tryz.prog W l ps → (n, d) ∈ l →
    ∃ g t cs fuel p, Tryz.prog.globalNamed n = some g ∧ (Tryz.prog.globals[g]?).map (·.type) = some t ∧ W.var? Tryz.prog n = some cs ∧ DataW.trod (fun _ => ()) Tryz.prog W 0 (fun _ => true) false fuel t cs.toList = some (d, p)
  | [], _, _, hm => by cases hm
  | (n', d') :: r, ps, h, hm => by
    obtain ⟨g, t, cs, fuel, p, q, h1, h2, h3, h4, h5, -⟩ := h
    rcases List.mem_cons.1 hm with e | hm
    · cases e; exact ⟨g, t, cs, fuel, p, h1, h2, h3, h4⟩
    · exact laid_mem h5 hm

theorem size_cells {W : World} {fuel : Nat} {cs : List Value} {a b : Int} {p : List MemPlace} (h : DataW.trod (fun _ => ()) Tryz.prog W 0 (fun _ => true) false fuel 59 cs = some (.agg [.lit (.int .i64 a), .lit (.int .i64 b)], p)) :
    cs[0]? = some (.int .i64 a) ∧ cs[1]? = some (.int .i64 b) := by
  obtain ⟨y0, y1, n, hx, hl, h0, h1⟩ := trod_struct2 Tryz.underlying59 h
  obtain ⟨x, e0, f0, -⟩ := DataW.trod_int Tryz.underlying3 h0
  obtain ⟨y, e1, f1, -⟩ := DataW.trod_int Tryz.underlying3 h1
  subst f0 f1
  simp only [Prod.mk.injEq, DataW.agg.injEq, List.cons.injEq, DataW.lit.injEq, Lit.int.injEq, true_and, and_true] at hx
  obtain ⟨⟨rfl, rfl⟩, -⟩ := hx
  have g0 := congrArg (·[0]?) e0
  have g1 := congrArg (·[0]?) e1
  simp [cellsInt] at g0 g1
  exact ⟨g0, g1⟩

theorem logs_of {W : World} {l : List (String × DataW Unit)} (h : laidMet Tryz.prog l W) (hm : ("schisma/size.logs", Rows.laid_schisma_size_logs) ∈ l) : Logs W := by
  obtain ⟨ps, hl, -, -⟩ := h
  obtain ⟨g, t, cs, fuel, p, h1, h2, h3, h4⟩ := laid_mem hl hm
  obtain rfl := Option.some.inj (gLogs.symm.trans h1)
  obtain rfl := Option.some.inj (gLogsType.symm.trans h2)
  have hcell := World.var?_cell gLogs h3
  obtain ⟨xs, m, -, hx, hlen, hxl, hi⟩ := DataW.trod_array Tryz.underlying104 h4
  simp only [Prod.mk.injEq, Rows.laid_schisma_size_logs, DataW.agg.injEq] at hx
  obtain ⟨hx, -⟩ := hx
  have key : ∀ (i : Nat) (a b : Int), i < 6 → (xs.map (·.1))[i]? = some (.agg [.lit (.int .i64 a), .lit (.int .i64 b)]) → cs[2 * i]? = some (.int .i64 a) ∧ cs[2 * i + 1]? = some (.int .i64 b) := by
    intro i a b hi6 he
    have h := hi i hi6
    rw [List.getElem?_map] at he
    obtain ⟨y, hy, hy1⟩ := Option.map_eq_some_iff.1 he
    rw [hy] at h
    obtain ⟨y1, y2⟩ := y
    dsimp only at hy1
    subst hy1
    obtain ⟨c0, c1⟩ := size_cells h
    rw [cellsSize] at c0 c1
    simp only [List.getElem?_take, List.getElem?_drop] at c0 c1
    simp only [Nat.zero_lt_succ, if_true, Nat.add_zero, Array.getElem?_toList, show (1 : Nat) < 2 by omega] at c0 c1
    rw [Nat.mul_comm]
    exact ⟨c0, c1⟩
  rw [← hx] at key
  obtain ⟨l0, l1⟩ := key 0 1000000000 1000000000 (by omega) rfl
  obtain ⟨l2, l3⟩ := key 1 1584962500 1584962501 (by omega) rfl
  obtain ⟨l4, l5⟩ := key 2 2321928094 2321928095 (by omega) rfl
  obtain ⟨l6, l7⟩ := key 3 2807354922 2807354923 (by omega) rfl
  obtain ⟨l8, l9⟩ := key 4 3459431618 3459431619 (by omega) rfl
  obtain ⟨l10, l11⟩ := key 5 3700439718 3700439719 (by omega) rfl
  refine ⟨?_, (hcell 0).trans l0, (hcell 1).trans l1, (hcell 2).trans l2, (hcell 3).trans l3, (hcell 4).trans l4, (hcell 5).trans l5, (hcell 6).trans l6, (hcell 7).trans l7, (hcell 8).trans l8, (hcell 9).trans l9, (hcell 10).trans l10, (hcell 11).trans l11⟩
  have := hcell 0
  rw [l0] at this
  rcases Nat.lt_or_ge 0 W.heap.size with h0 | h0
  · exact h0
  · exfalso
    simp only [World.cell?] at this
    rw [Array.getElem?_eq_none (by omega)] at this
    cases this

/-- A WORLD FOR THE WITNESS: the settled one, the tables holding what their initialisers lay. -/
def holdCells (cs : Array Value) : Obj → Obj
  | .cells _ t frozen => .cells cs t frozen
  | o => o
noncomputable def laidWorld (os : Os) : World :=
  { World.holding Tryz.prog os ⟨#[], #[], []⟩ with heap := ((World.holding Tryz.prog os ⟨#[], #[], []⟩).heap.modify 0 (holdCells #[.int .i64 1000000000, .int .i64 1000000000, .int .i64 1584962500, .int .i64 1584962501, .int .i64 2321928094, .int .i64 2321928095, .int .i64 2807354922, .int .i64 2807354923, .int .i64 3459431618, .int .i64 3459431619, .int .i64 3700439718, .int .i64 3700439719])).modify 1 (holdCells #[.int .i64 2, .int .i64 3, .int .i64 5, .int .i64 7, .int .i64 11, .int .i64 13]) }
end Go.Proofs.YtelhmdhhabgihaaGreatDoor
