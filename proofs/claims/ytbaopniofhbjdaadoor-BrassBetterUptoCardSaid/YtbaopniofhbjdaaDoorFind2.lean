/-
  brass.Find.
-/
import Derived.Test.YtbaopniofhbjdaaDoorFind1
namespace Go.Proofs.YtbaopniofhbjdaaDoor
open Go.RowKit Go.Shelf
attribute [local go_sem] Oper.semAt_some

/-- The cells of the blows of a list. -/
def blowCells {m Q : Nat} (l : List (BlowIx m Q)) : List Value := l.flatMap fun p => [.int .i64 ((p.1.1 : Int) + 1), .int .i64 (p.1.2 : Int)]
theorem blowCells_snoc {m Q : Nat} (l : List (BlowIx m Q)) (p : BlowIx m Q) : blowCells (l ++ [p]) = blowCells l ++ [.int .i64 ((p.1.1 : Int) + 1), .int .i64 (p.1.2 : Int)] := by simp [blowCells]
/-- The world between two rounds, but for the list. -/
structure FndW (b0 b1 b2 b3 b4 b5 tol v0 v1 v2 v3 v4 v5 : Int) (A : Option Addr) (n c m : Nat) (w W : World) (Bt Bl : Nat) : Prop where
  gr : Gr w W
  le : w.heap.size + 2 ≤ Bt
  lt : Bt < Bl
  horn : HornAt W w.heap.size b0 b1 b2 b3 b4 b5 (.slice A n c) m tol
  a0 : W.cell? ⟨Bt, 0, none⟩ = some (.int .i64 (v0 * 12))
  a1 : W.cell? ⟨Bt, 1, none⟩ = some (.int .i64 (v1 * 12))
  a2 : W.cell? ⟨Bt, 2, none⟩ = some (.int .i64 (v2 * 12))
  a3 : W.cell? ⟨Bt, 3, none⟩ = some (.int .i64 (v3 * 12))
  a4 : W.cell? ⟨Bt, 4, none⟩ = some (.int .i64 (v4 * 12))
  a5 : W.cell? ⟨Bt, 5, none⟩ = some (.int .i64 (v5 * 12))
theorem FndW.below {b0 b1 b2 b3 b4 b5 tol v0 v1 v2 v3 v4 v5 : Int} {A : Option Addr} {n c m : Nat} {w W W' : World} {Bt Bl : Nat} (h : FndW b0 b1 b2 b3 b4 b5 tol v0 v1 v2 v3 v4 v5 A n c m w W Bt Bl) (g : Below Bl W W') : FndW b0 b1 b2 b3 b4 b5 tol v0 v1 v2 v3 v4 v5 A n c m w W' Bt Bl := by
  have h1 := h.le
  have h2 := h.lt
  have k : ∀ o, W'.cell? ⟨Bt, o, none⟩ = W.cell? ⟨Bt, o, none⟩ := fun o => Below.cell (p := ⟨Bt, o, none⟩) g h2
  exact ⟨Below.trans h.gr (Below.mono g (by omega)), h1, h2, h.horn.keep g (by omega), (k _).trans h.a0, (k _).trans h.a1, (k _).trans h.a2, (k _).trans h.a3, (k _).trans h.a4, (k _).trans h.a5⟩
/-- The list, and the horn of the range, between two rounds. -/
def FndL {m Q : Nat} (H : Array Value) (Bl : Nat) (l : List (BlowIx m Q)) (W : World) : Prop :=
  (∃ v, Boxed W Bl 35 v ∧ W.ownsRow Bl 28 2 v l.length (blowCells l) ∧ (v = .slice none 0 0 ↔ l = [])) ∧ W.heap[Bl + 1]? = some (.cells H 26 (0, 0))
theorem fndL_own {m Q : Nat} (H : Array Value) (Bl : Nat) (g : List (BlowIx m Q) → List (BlowIx m Q)) : Own (fun pre W => FndL H Bl (g pre) W) := by
  rintro s X Y row ⟨h1, h2⟩ hg hr
  refine ⟨holdsRow_own Bl Bl 35 28 2 (fun pre => (g pre).length) (fun pre => blowCells (g pre)) (fun pre v => v = .slice none 0 0 ↔ g pre = []) s X Y row h1 hg hr, ?_⟩
  refine (hg.block (Bl + 1) (Array.getElem?_eq_some_iff.1 h2).1 fun e => ?_).trans h2
  obtain ⟨o, ho, hc⟩ := hr (Bl + 1) e.symm
  rw [h2] at ho; cases ho; cases hc
theorem fndW_own (b0 b1 b2 b3 b4 b5 tol v0 v1 v2 v3 v4 v5 : Int) (A : Option Addr) (n c m : Nat) (w : World) (Bt Bl N : Nat) (hN : w.heap.size ≤ N) {β : Type} : OwnFrom N (fun (_ : β) W => FndW b0 b1 b2 b3 b4 b5 tol v0 v1 v2 v3 v4 v5 A n c m w W Bt Bl) := by
  intro s X Y row h hg hr
  have hr' : ∀ r, row = some r → ∃ o : Obj, X.heap[r]? = some o ∧ o.isCells = false := fun r e => (hr r e).2
  exact ⟨ownFrom_below (β := Unit) (Nat.le_refl _) hN () X Y row h.gr hg hr, h.le, h.lt, ⟨cell_kept h.horn.c0 hg hr', cell_kept h.horn.c1 hg hr', cell_kept h.horn.c2 hg hr', cell_kept h.horn.c3 hg hr', cell_kept h.horn.c4 hg hr', cell_kept h.horn.c5 hg hr', cell_kept h.horn.c6 hg hr', cell_kept h.horn.c7 hg hr', cell_kept h.horn.c8 hg hr'⟩,
    cell_kept h.a0 hg hr', cell_kept h.a1 hg hr', cell_kept h.a2 hg hr', cell_kept h.a3 hg hr', cell_kept h.a4 hg hr', cell_kept h.a5 hg hr'⟩
theorem infoBlow : (Tryd.prog.info? 28).map (fun i => (i.zero, i.size, i.bytes)) = some (some (.agg #[.int .i64 0, .int .i64 0]), 2, 16) := by kernel_rfl
theorem fnd_start (b0 b1 b2 b3 b4 b5 tol v0 v1 v2 v3 v4 v5 : Int) (A : Option Addr) (n c m Q : Nat) (w w1 w2 : World) (hb : Gr ((w.alloc (.cells #[.int .i64 b0, .int .i64 b1, .int .i64 b2, .int .i64 b3, .int .i64 b4, .int .i64 b5, .slice A n c, .int .i64 (m : Int), .int .i64 tol] 26)).alloc (.cells #[.int .i64 v0, .int .i64 v1, .int .i64 v2, .int .i64 v3, .int .i64 v4, .int .i64 v5] 29)) w1) (hb2 : Gr (w1.alloc (.cells #[.int .i64 (v0 * 12), .int .i64 (v1 * 12), .int .i64 (v2 * 12), .int .i64 (v3 * 12), .int .i64 (v4 * 12), .int .i64 (v5 * 12)] 23)) w2) :
    FndW b0 b1 b2 b3 b4 b5 tol v0 v1 v2 v3 v4 v5 A n c m w ((w2.alloc (.cells #[.slice none 0 0] 35)).alloc (.cells #[.int .i64 b0, .int .i64 b1, .int .i64 b2, .int .i64 b3, .int .i64 b4, .int .i64 b5, .slice A n c, .int .i64 (m : Int), .int .i64 tol] 26)) w1.heap.size w2.heap.size ∧ FndL (m := m) (Q := Q) #[.int .i64 b0, .int .i64 b1, .int .i64 b2, .int .i64 b3, .int .i64 b4, .int .i64 b5, .slice A n c, .int .i64 (m : Int), .int .i64 tol] w2.heap.size [] ((w2.alloc (.cells #[.slice none 0 0] 35)).alloc (.cells #[.int .i64 b0, .int .i64 b1, .int .i64 b2, .int .i64 b3, .int .i64 b4, .int .i64 b5, .slice A n c, .int .i64 (m : Int), .int .i64 tol] 26)) := by
  have hz := hb.le; have hz2 := hb2.le
  simp only [World.size_alloc] at hz hz2
  have g : Gr w w1 := (((Gr.refl w).alloc _).alloc _).trans hb
  have g2 : Gr w w2 := (g.alloc _).trans hb2
  constructor
  · have h0 : HornAt ((w.alloc (.cells #[.int .i64 b0, .int .i64 b1, .int .i64 b2, .int .i64 b3, .int .i64 b4, .int .i64 b5, .slice A n c, .int .i64 (m : Int), .int .i64 tol] 26)).alloc (.cells #[.int .i64 v0, .int .i64 v1, .int .i64 v2, .int .i64 v3, .int .i64 v4, .int .i64 v5] 29)) w.heap.size b0 b1 b2 b3 b4 b5 (.slice A n c) m tol := by
      refine ⟨?_, ?_, ?_, ?_, ?_, ?_, ?_, ?_, ?_⟩ <;> simp [go_sem]
    have h1 := h0.keep hb (by simp; omega)
    have h2 := h1.keep (((((Gr.refl w1).alloc (.cells #[.int .i64 (v0 * 12), .int .i64 (v1 * 12), .int .i64 (v2 * 12), .int .i64 (v3 * 12), .int .i64 (v4 * 12), .int .i64 (v5 * 12)] 23)).trans hb2).alloc (.cells #[.slice none 0 0] 35)).alloc (.cells #[.int .i64 b0, .int .i64 b1, .int .i64 b2, .int .i64 b3, .int .i64 b4, .int .i64 b5, .slice A n c, .int .i64 (m : Int), .int .i64 tol] 26)) (by omega)
    have k : ∀ o, ((w2.alloc (.cells #[.slice none 0 0] 35)).alloc (.cells #[.int .i64 b0, .int .i64 b1, .int .i64 b2, .int .i64 b3, .int .i64 b4, .int .i64 b5, .slice A n c, .int .i64 (m : Int), .int .i64 tol] 26)).cell? ⟨w1.heap.size, o, none⟩ = (w1.alloc (.cells #[.int .i64 (v0 * 12), .int .i64 (v1 * 12), .int .i64 (v2 * 12), .int .i64 (v3 * 12), .int .i64 (v4 * 12), .int .i64 (v5 * 12)] 23)).cell? ⟨w1.heap.size, o, none⟩ := fun o =>
      Below.cell (p := ⟨w1.heap.size, o, none⟩) ((hb2.alloc _).alloc _) (by simp)
    refine ⟨(g2.alloc _).alloc _, by omega, by omega, h2, (k 0).trans ?_, (k 1).trans ?_, (k 2).trans ?_, (k 3).trans ?_, (k 4).trans ?_, (k 5).trans ?_⟩
    all_goals simp [go_sem]
  · refine ⟨⟨.slice none 0 0, (Boxed.new w2 35 (.slice none 0 0)).alloc _, World.ownsRow_nil _ _ _ _, by simp⟩, ?_⟩
    have := World.alloc_heap_new (w2.alloc (.cells #[.slice none 0 0] 35)) (.cells #[.int .i64 b0, .int .i64 b1, .int .i64 b2, .int .i64 b3, .int .i64 b4, .int .i64 b5, .slice A n c, .int .i64 (m : Int), .int .i64 tol] 26)
    rwa [World.size_alloc] at this

theorem near_plays (b0 b1 b2 b3 b4 b5 tol v0 v1 v2 v3 v4 v5 : Int) (n : Nat) (f : Nat → Nat → Int) (x s : Nat) (hv : allIn (atV ⟨v0, v1, v2, v3, v4, v5⟩) 576 6 = true) (h0 : 0 ≤ tol) (h1 : tol ≤ 50000) :
    ∃ X E : Int, (∀ W, Logs W → Calls Tryd.prog 25 #[.agg #[.int .i64 (v0 * 12), .int .i64 (v1 * 12), .int .i64 (v2 * 12), .int .i64 (v3 * 12), .int .i64 (v4 * 12), .int .i64 (v5 * 12)], .agg #[.int .i64 (soundF ⟨b0, b1, b2, b3, b4, b5⟩ f n x s 0), .int .i64 (soundF ⟨b0, b1, b2, b3, b4, b5⟩ f n x s 1), .int .i64 (soundF ⟨b0, b1, b2, b3, b4, b5⟩ f n x s 2), .int .i64 (soundF ⟨b0, b1, b2, b3, b4, b5⟩ f n x s 3), .int .i64 (soundF ⟨b0, b1, b2, b3, b4, b5⟩ f n x s 4), .int .i64 (soundF ⟨b0, b1, b2, b3, b4, b5⟩ f n x s 5)], .int .i64 tol] W fun e w' => e = .returned (.tuple #[.int .i64 X, .int .i64 E]) ∧ Gr W w') ∧
      ((playsB ⟨b0, b1, b2, b3, b4, b5⟩ f n tol ⟨v0, v1, v2, v3, v4, v5⟩ x s = true ∧ X = 1 ∧ E = 0) ∨ (playsB ⟨b0, b1, b2, b3, b4, b5⟩ f n tol ⟨v0, v1, v2, v3, v4, v5⟩ x s = false ∧ ((E = 0 ∧ X ≠ 1) ∨ E = 1))) := by
  cases hs : allIn (soundV ⟨b0, b1, b2, b3, b4, b5⟩ f n x s) 576 6 with
  | false =>
    refine ⟨0, 1, fun W _ => near_bad2 _ _ _ _ _ _ _ _ _ _ _ _ _ W hv hs, .inr ⟨by simp [playsB, hs], .inr rfl⟩⟩
  | true =>
    refine ⟨_, 0, fun W h => near_ok _ _ _ _ _ _ _ _ _ _ _ _ _ W h hv hs h0 (by omega), ?_⟩
    have e : playsB ⟨b0, b1, b2, b3, b4, b5⟩ f n tol ⟨v0, v1, v2, v3, v4, v5⟩ x s = (surelyI (sumLo ((atV ⟨v0, v1, v2, v3, v4, v5⟩).sub (soundV ⟨b0, b1, b2, b3, b4, b5⟩ f n x s)) 6) (sumHi ((atV ⟨v0, v1, v2, v3, v4, v5⟩).sub (soundV ⟨b0, b1, b2, b3, b4, b5⟩ f n x s)) 6) (-10000 * tol) (10000 * tol) == 1) := by simp [playsB, hs]
    rw [e]
    simp only [atV, soundV, V6.sub]
    generalize surelyI _ _ _ _ = X
    by_cases hX : X = 1
    · exact .inl ⟨by simp [hX], hX, trivial⟩
    · exact .inr ⟨by simpa using hX, .inl ⟨trivial, hX⟩⟩

theorem cell_two_new (w : World) (x y : Value) (t : TypeId) : ∀ j u, [x, y][j]? = some u → (w.alloc (.cells #[x, y] t)).cell? ((⟨w.heap.size, 0, none⟩ : Addr).add j) = some u := by
  intro j u hj
  match j, hj with
  | 0, hj => simp at hj; subst hj; simp [Addr.add]
  | 1, hj => simp at hj; subst hj; simp [Addr.add]
theorem fndL_keep {m Q : Nat} {H : Array Value} {Bl : Nat} {l : List (BlowIx m Q)} {W W' : World} (h : FndL H Bl l W) (g : Gr W W') : FndL H Bl l W' := by
  obtain ⟨⟨v, h1, h2, h3⟩, h4⟩ := h
  have k : W.grownBy W' none := ⟨g.os, g.tape, g.output, g.size, fun j hj _ => g.block j hj⟩
  exact ⟨⟨v, h1.kept k (by simp), h2.kept k (by cases hv : v.ownBlock <;> simp), h3⟩, (g.block _ (Array.getElem?_eq_some_iff.1 h4).1).trans h4⟩
/-- The horn of the range lies behind an append as it lay. -/
theorem fnd_horn {H : Array Value} {Bl : Nat} {W w1 : World} {v v' : Value} {k : Nat} {xs : List Value} {tmp : Obj} (hh : W.heap[Bl + 1]? = some (.cells H 26 (0, 0))) (hrow : W.ownsRow Bl 28 2 v k xs) (hgrow : (W.alloc tmp).grownBy w1 v.ownBlock) :
    (w1.setCell ⟨Bl, 0, none⟩ v').heap[Bl + 1]? = W.heap[Bl + 1]? := by
  have hl := (Array.getElem?_eq_some_iff.1 hh).1
  have hne : some (Bl + 1) ≠ v.ownBlock := by
    rcases hrow.2 with ⟨rfl, _⟩ | ⟨g, cap, cur, rfl, _, hgb, _⟩
    · simp [Value.ownBlock]
    · intro e
      obtain rfl : Bl + 1 = g := by simpa [Value.ownBlock] using e
      rw [hh] at hgb; cases hgb
  have h1 := hgrow.block (Bl + 1) (by simp; omega) hne
  have h2 := (grownBy_setCell' w1 Bl v').block (Bl + 1) (by have := hgrow.size; simp at this; omega) (by simp)
  exact h2.trans (h1.trans (Below.heap_alloc _ _ _ hl))

/-- What Find returns at a valid horn. -/
def FindRes {m Q : Nat} (l : List (BlowIx m Q)) (w : World) (e : Ending) (w' : World) : Prop := ∃ v, e = .returned (.tuple #[v, .int .i64 0]) ∧ w'.ownsRow w.heap.size 28 2 v l.length (blowCells l) ∧ (v = .slice none 0 0 ↔ l = []) ∧ Gr w w'

end Go.Proofs.YtbaopniofhbjdaaDoor
