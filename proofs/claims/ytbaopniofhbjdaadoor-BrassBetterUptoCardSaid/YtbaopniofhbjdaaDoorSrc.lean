/-
  append of a slice of pitches that came in (nil or not) onto a row of the call's own, as a step of a region that draws.
-/
import Derived.Test.YtbaopniofhbjdaaDoorRowW
import Derived.Maps.AppendAt
import Derived.Deep.AppendLies
import Derived.Laws.OwnMore
import Derived.RegionTactic
namespace Go.Proofs.YtbaopniofhbjdaaDoor
open Go.RowKit

/-- The rows of f, and behind them those of g. -/
def extF (f : Nat → Nat → Int) (n : Nat) (g : Nat → Nat → Int) : Nat → Nat → Int := fun j => if j < n then f j else g (j - n)
theorem rowCells_congr {f g : Nat → Nat → Int} {n : Nat} (h : ∀ i, i < n → f i = g i) : rowCells f n = rowCells g n := by
  induction n with
  | zero => rfl
  | succ n ih => rw [rowCells, rowCells, ih fun i hi => h i (by omega), h n (by omega)]
theorem rowCells_ext (f g : Nat → Nat → Int) (n k : Nat) : rowCells f n ++ rowCells g k = rowCells (extF f n g) (n + k) := by
  induction k with
  | zero =>
    rw [rowCells, List.append_nil, Nat.add_zero]
    exact rowCells_congr fun i hi => by simp [extF, hi]
  | succ k ih =>
    rw [rowCells, ← List.append_assoc, ih]
    have e : extF f n g (n + k) = g k := by
      unfold extF
      rw [if_neg (by omega), show n + k - n = k by omega]
    rw [← Nat.add_assoc, rowCells, e]
theorem own_empty {W : World} {base g : Nat} {e : TypeId} (h : W.heap[g]? = some (.cells #[] e (0, 0))) (hb : base ≤ g) : W.ownsRow base e 6 (.slice (some ⟨g, 0, none⟩) 0 0) 0 [] :=
  ⟨rfl, .inr ⟨g, 0, #[], rfl, hb, h, Nat.le_refl _, Nat.zero_le _, rfl, rfl⟩⟩
theorem run_append_src {P : Program} (w : World) (base : Nat) (t ty e : TypeId) (i : TypeInfo) (z : Value) (bytes : Nat) (ht : P.underlying t = some (.slice e)) (hi : P.info? e = some i) (hz : i.zero = some z)
    (hsize : i.size = 6) (hby : i.bytes = bytes) (hzs : z.cells.size = 6) (g n cap : Nat) (xs : List Value) (hown : w.ownsRow base e 6 (.slice (some ⟨g, 0, none⟩) n cap) n xs)
    (A : Option Addr) (m c : Nat) (f : Nat → Nat → Int) (hr : RowsAt w 6 A m f) (h63 : n + m ≤ maxLen) (hbytes : (n + m) * bytes ≤ 140737488355328) (hbase : base ≤ w.heap.size) :
    ∃ g' cap' w', (Builtin.append_ #[t, t] ty #[.slice (some ⟨g, 0, none⟩) n cap, .slice A m c]).run P w = .ok (.slice (some ⟨g', 0, none⟩) (n + m) cap') w' ∧ w'.ownsRow base e 6 (.slice (some ⟨g', 0, none⟩) (n + m) cap') (n + m) (xs ++ rowCells f m) ∧ w.grownBy w' (some g) ∧ (g' = g ∨ g' = w.heap.size) := by
  cases A with
  | none =>
    obtain rfl : m = 0 := by
      rcases Nat.eq_zero_or_pos m with h | h
      · exact h
      · obtain ⟨b, off, h', -⟩ := hr h
        cases h'
    refine ⟨g, cap, w, ?_, by rw [rowCells, List.append_nil]; exact hown, ⟨rfl, rfl, rfl, Nat.le_refl _, fun _ _ _ => rfl⟩, .inl rfl⟩
    rcases hown.2 with ⟨h, -⟩ | ⟨g1, cap1, cur, h, -, -, hnc, -⟩
    · cases h
    · cases h
      simp [Builtin.append_, run_underlying ht, sizeOf, typeInfo, hi, Builtin.lenOf, Builtin.firstCells, hnc, storeCells]
  | some ad =>
    have hnews : ∀ j u, (rowCells f m)[j]? = some u → w.cell? (ad.add j) = some u := by
      rcases Nat.eq_zero_or_pos m with h | h
      · subst h; intro j u hj; simp [rowCells] at hj
      · obtain ⟨b, off, h', -⟩ := hr h
        cases h'
        exact rows_news hr
    obtain ⟨v', w', h1, h2, h3, h4, h5⟩ := run_append_own_at (P := P) w base t ty e i z 6 bytes ht hi hz hsize hby hzs (by omega) _ n xs hown ad m c (rowCells f m) (rowCells_len f m) hnews (rowCells_one f m) h63 hbytes hbase
    have h2' := h2
    rcases h2.2 with ⟨h, -⟩ | ⟨g1, cap1, cur, rfl, -⟩
    · have := h4.1 h
      cases this.1
    · refine ⟨g1, cap1, w', h1, h2', h3, ?_⟩
      rcases h5 with h5 | h5
      · left; simpa [Value.ownBlock] using h5
      · right; simpa [Value.ownBlock] using h5
theorem step_append_src {P : Program} {ops : Array Oper} {o : Oper} {a : Act} {w : World} {K : Act → World → Prop} {Q : Exit → Act → World → Prop} {E : Prop}
    (hg : o.guard = none) (s x : Operand) (t : TypeId) (hop : o.op = Op.call { callee := Callee.builtin Builtin.append, args := #[s, x], argTypes := #[t, t] })
    (base : Nat) (e : TypeId) (i : TypeInfo) (z : Value) (bytes : Nat) (ht : P.underlying t = some (.slice e)) (hi : P.info? e = some i) (hz : i.zero = some z)
    (hsize : i.size = 6) (hby : i.bytes = bytes) (hzs : z.cells.size = 6) (g n cap : Nat) (xs : List Value) (hs : a.eval s = .slice (some ⟨g, 0, none⟩) n cap) (hown : w.ownsRow base e 6 (.slice (some ⟨g, 0, none⟩) n cap) n xs)
    (A : Option Addr) (m c : Nat) (f : Nat → Nat → Int) (hx : a.eval x = .slice A m c) (hr : RowsAt w 6 A m f) (h63 : n + m ≤ maxLen) (hbytes : (n + m) * bytes ≤ 140737488355328) (hbase : base ≤ w.heap.size)
    (hK : ∀ g' cap' w', w'.ownsRow base e 6 (.slice (some ⟨g', 0, none⟩) (n + m) cap') (n + m) (xs ++ rowCells f m) → (g' = g ∨ g' = w.heap.size) → base ≤ g → w.heap.size ≤ w'.heap.size → g' < w'.heap.size →
      (∀ b o, (⟨min (b + 1) w.heap.size, 0, none⟩ : Addr) = ⟨b + 1, 0, none⟩ → ¬ (⟨b, 0, none⟩ : Addr) = ⟨g, 0, none⟩ → w'.cell? ⟨b, o, none⟩ = w.cell? ⟨b, o, none⟩) →
      (∀ b o, (⟨min (b + 1) w.heap.size, 0, none⟩ : Addr) = ⟨b + 1, 0, none⟩ → ¬ (⟨b, 0, none⟩ : Addr) = ⟨g, 0, none⟩ → w'.frozen? ⟨b, o, none⟩ = w.frozen? ⟨b, o, none⟩) →
      (∀ b, (⟨min (b + 1) w.heap.size, 0, none⟩ : Addr) = ⟨b + 1, 0, none⟩ → ¬ (⟨b, 0, none⟩ : Addr) = ⟨g, 0, none⟩ → cellsN w' b = cellsN w b) →
      (∀ W0, Gr W0 w → W0.heap.size ≤ base → Gr W0 w') → K (a.put o.dst (.slice (some ⟨g', 0, none⟩) (n + m) cap')) w') :
    if Region.wanted o (yielded ops a.tmps) = true then Oper.wp P o a w K Q else E := by
  have hw : Region.wanted o (yielded ops a.tmps) = true := by simp [Region.wanted, hg]
  rw [if_pos hw]
  obtain ⟨g', cap', w', hrun, h2, h3, h4⟩ := run_append_src (P := P) w base t o.type e i z bytes ht hi hz hsize hby hzs g n cap xs hown A m c f hr h63 hbytes hbase
  have hbg := (hown.lt g rfl).1
  have hblk : ∀ b, (⟨min (b + 1) w.heap.size, 0, none⟩ : Addr) = ⟨b + 1, 0, none⟩ → ¬ (⟨b, 0, none⟩ : Addr) = ⟨g, 0, none⟩ → w'.heap[b]? = w.heap[b]? := fun b hb hne =>
    h3.block b (lt_of_addr hb) (fun e => hne (by injection e with e; rw [e]))
  unfold Oper.wp
  simp [execOp, hop, resolve, invoke, builtin, hs, hx, hrun, Result.andThen]
  exact hK g' cap' w' h2 h4 hbg h3.size (h2.lt g' rfl).2 (fun b o hb hne => World.cell?_of_block (a := ⟨b, o, none⟩) (hblk b hb hne)) (fun b o hb hne => World.frozen?_of_block (a := ⟨b, o, none⟩) (hblk b hb hne)) (fun b hb hne => cellsN_of_block (hblk b hb hne))
    (fun W0 hW0 hB => Below.grown hW0 h3 hW0.le (fun k hk => by injection hk with hk; omega))
end Go.Proofs.YtbaopniofhbjdaaDoor
