/-
  A copy of a slice that the call has made by append: its cells, and stores into it.
-/
import Derived.Test.YtiogfohjepobkaaDoorHeld
import Derived.Deep.AppendLies
namespace Go.Proofs.YtiogfohjepobkaaDoor
open Go.RowKit

theorem gr_grown {W W' : World} (h : W.grownBy W' none) : Gr W W' := (Below.refl _ _).grown h (Nat.le_refl _) (fun _ h => by cases h)
theorem wf_u8 {i : Int} (h : (Lit.int .u8 i).wf = true) : 0 ≤ i ∧ i ≤ 255 := by
  simp only [Lit.wf, Bool.and_eq_true, decide_eq_true_eq] at h
  have a : IntKind.u8.min = 0 := by decide
  have b : IntKind.u8.max = 255 := by decide
  rw [a, b] at h
  exact h
theorem wf_u16 {i : Int} (h : (Lit.int .u16 i).wf = true) : 0 ≤ i ∧ i ≤ 65535 := by
  simp only [Lit.wf, Bool.and_eq_true, decide_eq_true_eq] at h
  have a : IntKind.u16.min = 0 := by decide
  have b : IntKind.u16.max = 65535 := by decide
  rw [a, b] at h
  exact h
/-- The first N values. -/
def cellsQ (q : Nat → Value) (N : Nat) : List Value := (List.range N).map q
theorem cellsQ_len (q : Nat → Value) (N : Nat) : (cellsQ q N).length = N := by simp [cellsQ]
theorem cellsQ_at (q : Nat → Value) (N : Nat) {j : Nat} (hj : j < N) : (cellsQ q N)[j]? = some (q j) := by simp [cellsQ, hj]
theorem cellsQ_one {q : Nat → Value} {N : Nat} (h : ∀ j, j < N → (q j).oneCell' = true) : ∀ u ∈ cellsQ q N, u.oneCell' = true := by
  intro u hu
  simp only [cellsQ, List.mem_map, List.mem_range] at hu
  obtain ⟨j, hj, rfl⟩ := hu
  exact h j hj
theorem cellsQ_news {w : World} {b off N : Nat} {q : Nat → Value} (h : ∀ j, j < N → w.cell? ⟨b, off + j, none⟩ = some (q j)) : ∀ j u, (cellsQ q N)[j]? = some u → w.cell? ((⟨b, off, none⟩ : Addr).add j) = some u := by
  intro j u hj
  have hlt := (List.getElem?_eq_some_iff.1 hj).1
  rw [cellsQ_len] at hlt
  rw [cellsQ_at q N hlt] at hj
  cases hj
  have hc := h j hlt
  unfold Addr.add
  split
  · rename_i e0
    have : off + j = off := by omega
    simp_all
  · exact hc

/-- N cells, q, lie at the head of block g, which may be written. -/
structure RowG (W : World) (g N : Nat) (q : Nat → Value) : Prop where
  lt : g < W.heap.size
  froz : ∀ o, W.frozen? ⟨g, o, none⟩ = false
  cell : ∀ i, i < N → W.cell? ⟨g, i, none⟩ = some (q i)
theorem RowG.keep {W W' : World} {g N : Nat} {q : Nat → Value} (h : RowG W g N q) (k : Gr W W') : RowG W' g N q :=
  ⟨Nat.lt_of_lt_of_le h.lt k.le, fun o => (Below.frozen (p := ⟨g, o, none⟩) k h.lt).trans (h.froz o), fun i hi => (Below.cell (p := ⟨g, i, none⟩) k h.lt).trans (h.cell i hi)⟩
theorem RowG.drew {W : World} {g N : Nat} {q : Nat → Value} (h : RowG W g N q) : RowG W.drew g N q := h.keep (Gr.refl W).drew
theorem RowG.other {W : World} {g N : Nat} {q : Nat → Value} (h : RowG W g N q) {p : Addr} (hp : p.block ≠ g) (v : Value) : RowG (W.setCell p v) g N q :=
  ⟨by simpa using h.lt, fun o => by rw [World.frozen?_setCell]; exact h.froz o, fun i hi => by
    rw [World.cell?_setCell_other]
    · exact h.cell i hi
    · rintro rfl; exact hp rfl⟩
theorem RowG.set {W : World} {g N i : Nat} {q : Nat → Value} (h : RowG W g N q) (hi : i < N) (v : Value) : RowG (W.setCell ⟨g, i, none⟩ v) g N (fun j => if j = i then v else q j) :=
  ⟨by simpa using h.lt, fun o => by rw [World.frozen?_setCell]; exact h.froz o, fun j hj => by
    by_cases e : j = i
    · subst e
      rw [World.cell?_setCell_same' _ _ _ (by rw [h.cell j hj]; rfl)]
      simp
    · rw [World.cell?_setCell_other, h.cell j hj, if_neg e]
      intro e2; cases e2; exact e rfl⟩
theorem RowG.congr {W : World} {g N : Nat} {q q' : Nat → Value} (h : RowG W g N q) (he : ∀ j, j < N → q j = q' j) : RowG W g N q' := ⟨h.lt, h.froz, fun i hi => by rw [← he i hi]; exact h.cell i hi⟩
theorem rowG_of_own {W : World} {base e n size cap g N : Nat} {q : Nat → Value} (h : W.ownsRow base e size (.slice (some ⟨g, 0, none⟩) n cap) n (cellsQ q N)) (hN : N = n * size) : RowG W g N q := by
  refine ⟨(h.lt g rfl).2, fun o => h.frozenAt o, fun i hi => ?_⟩
  rw [h.cellAt i (by rw [← hN]; exact hi)]
  exact cellsQ_at q N hi
/-- What append to an empty slice has made. -/
theorem copied {W W' : World} {B e n size N : Nat} {q : Nat → Value} {v : Value} (ho : W'.ownsRow B e size v n (cellsQ q N)) (hg : W.grownBy W' none) (hn : 0 < n) (hN : N = n * size) :
    ∃ g cap, v = .slice (some ⟨g, 0, none⟩) n cap ∧ B ≤ g ∧ RowG W' g N q ∧ Gr W W' := by
  obtain ⟨g, cap, rfl, hb, -⟩ := ho.form hn
  exact ⟨g, cap, rfl, hb, rowG_of_own ho hN, gr_grown hg⟩
end Go.Proofs.YtiogfohjepobkaaDoor
