/-
  brass.Sound.
-/
import Derived.Test.YtbaopniofhbjdaaDoorBlows
namespace Go.Proofs.YtbaopniofhbjdaaDoor
open Go.RowKit Go.Shelf
attribute [local go_sem] Oper.semAt_some

theorem Below.keepBox {N B : Nat} {W W' : World} (h : Below N W W') (hB : B < N) : KeepBox B W W' := fun o => Below.cell (p := ⟨B, o, none⟩) h hB

/-- Six cells and one more, stored into two blocks of a call's own. -/
def store7 (W : World) (b b' : Nat) (x0 x1 x2 x3 x4 x5 y : Value) : World :=
  ((((((W.setCell ⟨b, 0, none⟩ x0).setCell ⟨b, 1, none⟩ x1).setCell ⟨b, 2, none⟩ x2).setCell ⟨b, 3, none⟩ x3).setCell ⟨b, 4, none⟩ x4).setCell ⟨b, 5, none⟩ x5).setCell ⟨b', 0, none⟩ y
structure Stored7 (W : World) (b b' : Nat) (x0 x1 x2 x3 x4 x5 y : Value) : Prop where
  s0 : W.cell? ⟨b, 0, none⟩ = some x0
  s1 : W.cell? ⟨b, 1, none⟩ = some x1
  s2 : W.cell? ⟨b, 2, none⟩ = some x2
  s3 : W.cell? ⟨b, 3, none⟩ = some x3
  s4 : W.cell? ⟨b, 4, none⟩ = some x4
  s5 : W.cell? ⟨b, 5, none⟩ = some x5
  s6 : W.cell? ⟨b', 0, none⟩ = some y
theorem store7_gr {w W : World} {b b' : Nat} (h : Gr w W) (hb : w.heap.size ≤ b) (hb' : w.heap.size ≤ b') (x0 x1 x2 x3 x4 x5 y : Value) : Gr w (store7 W b b' x0 x1 x2 x3 x4 x5 y) :=
  ((((((h.setCell hb _).setCell hb _).setCell hb _).setCell hb _).setCell hb _).setCell hb _).setCell hb' _
theorem store7_keeps (W : World) (b b' : Nat) (x0 x1 x2 x3 x4 x5 y : Value) : KeepsOthers W (store7 W b b' x0 x1 x2 x3 x4 x5 y) :=
  ((((((KeepsOthers.setCell _ _ _).trans (KeepsOthers.setCell _ _ _)).trans (KeepsOthers.setCell _ _ _)).trans (KeepsOthers.setCell _ _ _)).trans (KeepsOthers.setCell _ _ _)).trans (KeepsOthers.setCell _ _ _)).trans (KeepsOthers.setCell _ _ _)
theorem store7_cells {W : World} {b b' : Nat} (h : ∀ j, j < 6 → (W.cell? ⟨b, j, none⟩).isSome = true) (h' : (W.cell? ⟨b', 0, none⟩).isSome = true) (hne : b ≠ b') (x0 x1 x2 x3 x4 x5 y : Value) :
    Stored7 (store7 W b b' x0 x1 x2 x3 x4 x5 y) b b' x0 x1 x2 x3 x4 x5 y := by
  have hs := six_set W b x0 x1 x2 x3 x4 x5 h
  have oth : ∀ j, (store7 W b b' x0 x1 x2 x3 x4 x5 y).cell? ⟨b, j, none⟩ = ((((((W.setCell ⟨b, 0, none⟩ x0).setCell ⟨b, 1, none⟩ x1).setCell ⟨b, 2, none⟩ x2).setCell ⟨b, 3, none⟩ x3).setCell ⟨b, 4, none⟩ x4).setCell ⟨b, 5, none⟩ x5).cell? ⟨b, j, none⟩ := fun j => by
    unfold store7
    exact World.cell?_setCell_other _ _ _ _ (fun e => hne (by injection e with e; exact e.symm))
  refine ⟨(oth 0).trans (hs 0 (by omega)), (oth 1).trans (hs 1 (by omega)), (oth 2).trans (hs 2 (by omega)), (oth 3).trans (hs 3 (by omega)), (oth 4).trans (hs 4 (by omega)), (oth 5).trans (hs 5 (by omega)), ?_⟩
  unfold store7
  refine World.cell?_setCell_same' _ _ _ ?_
  have o : ∀ (w : World) (i : Nat) (v : Value), (w.setCell ⟨b, i, none⟩ v).cell? ⟨b', 0, none⟩ = w.cell? ⟨b', 0, none⟩ := fun w i v => World.cell?_setCell_other _ _ _ _ (fun e => hne (by injection e))
  rw [o, o, o, o, o, o]
  exact h'

set_option maxRecDepth 100000 in
set_option maxHeartbeats 8000000 in
theorem Sound_bad (b0 b1 b2 b3 b4 b5 most tol x s : Int) (A : Option Addr) (n c : Nat) (f : Nat → Nat → Int) (w : World) (hP : Primes w) (hV : RowsAt w 6 A n f) (hn : n ≤ 9223372036854775807) (hok : hornOk ⟨b0, b1, b2, b3, b4, b5⟩ n f most tol = false) :
    Calls Tryd.prog 15 #[.agg #[.int .i64 b0, .int .i64 b1, .int .i64 b2, .int .i64 b3, .int .i64 b4, .int .i64 b5, .slice A n c, .int .i64 most, .int .i64 tol], .agg #[.int .i64 x, .int .i64 s]] w
      fun e w' => e = .returned (.tuple #[.agg #[.int .i64 0, .int .i64 0, .int .i64 0, .int .i64 0, .int .i64 0, .int .i64 0], .int .i64 1]) ∧ Gr w w' := by
  have HC := Lib.hid (fun W h h' => hornValid_any b0 b1 b2 b3 b4 b5 most tol A n c f W h h' hn)
  rw [hok] at HC
  have HP := Lib.hid hP; have HV := Lib.hid hV
  clear hP hV
  refine (callsIn_wide (n := 6)).1 ?_
  refine callsIn_of_wp_marks Tryd.func15 rfl trivial ?_ rfl
  simp only [Tryd.ntmps15, List.size_toArray, List.length_cons, List.length_nil, Nat.reduceAdd, Nat.reduceSub, Array.replicate_succ, Array.replicate_zero, List.push_toArray, List.append_toArray, List.nil_append, List.cons_append]
  gi_wp2_with fail
  refine ⟨trivial, callsIn_wide.2 ((HC.out _ (HP.out.keep (by repeat (first | exact Gr.refl _ | refine Gr.alloc ?_ _ | refine Gr.drew ?_ | refine Gr.trans ?_ (by assumption) | refine Gr.setCell ?_ (by (try simp); (try omega)) _))) (HV.out.keep (by repeat (first | exact Gr.refl _ | refine Gr.alloc ?_ _ | refine Gr.drew ?_ | refine Gr.trans ?_ (by assumption) | refine Gr.setCell ?_ (by (try simp); (try omega)) _)))).mono ?_)⟩
  rintro e w' ⟨rfl, hb⟩
  have hz := hb.le; obtain ⟨hc, hf⟩ := hb.cells; simp only [World.size_alloc] at hc hf hz
  have g : Gr w w' := (by repeat (first | exact Gr.refl _ | refine Gr.alloc ?_ _ | refine Gr.drew ?_ | refine Gr.trans ?_ (by assumption) | refine Gr.setCell ?_ (by (try simp); (try omega)) _))
  have r : ∀ j, j < 6 → (w'.cell? ⟨w.heap.size + 1 + 1, j, none⟩).isSome = true := by
    intro j hj
    obtain rfl | rfl | rfl | rfl | rfl | rfl : j = 0 ∨ j = 1 ∨ j = 2 ∨ j = 3 ∨ j = 4 ∨ j = 5 := by omega
    all_goals simp [go_sem, *]
  have r' : (w'.cell? ⟨w.heap.size + 1 + 1 + 1, 0, none⟩).isSome = true := by simp [go_sem, *]
  have R := Lib.hid (And.intro r (And.intro r' g))
  clear r r' g
  gi_wp2
  clear hc hf hz hb
  have hst := store7_cells R.out.1 R.out.2.1 (by omega) (.int .i64 0) (.int .i64 0) (.int .i64 0) (.int .i64 0) (.int .i64 0) (.int .i64 0) (.int .i64 1)
  have hgr := store7_gr R.out.2.2 (show w.heap.size ≤ w.heap.size + 1 + 1 by omega) (show w.heap.size ≤ w.heap.size + 1 + 1 + 1 by omega) (.int .i64 0) (.int .i64 0) (.int .i64 0) (.int .i64 0) (.int .i64 0) (.int .i64 0) (.int .i64 1)
  change bodyPostM _ _ _ _ _ _ _ (store7 w' (w.heap.size + 1 + 1) (w.heap.size + 1 + 1 + 1) (.int .i64 0) (.int .i64 0) (.int .i64 0) (.int .i64 0) (.int .i64 0) (.int .i64 0) (.int .i64 1))
  generalize store7 w' (w.heap.size + 1 + 1) (w.heap.size + 1 + 1 + 1) (.int .i64 0) (.int .i64 0) (.int .i64 0) (.int .i64 0) (.int .i64 0) (.int .i64 0) (.int .i64 1) = WF at *
  obtain ⟨s0, s1, s2, s3, s4, s5, s6⟩ := hst
  exact ⟨_, by simp [results, Tryd.f15, go_sem, s0, s1, s2, s3, s4, s5, s6], rfl, hgr⟩

theorem mem_row {m q i j k : Nat} (h : i < m ∧ j < q) (hk : j < k) : (⟨(i, j), h⟩ : BlowIx m q) ∈ rowTo m q i k := by
  induction k with
  | zero => omega
  | succ k ih =>
    by_cases e : j = k
    · subst e; rw [rowTo_yes h]; simp
    · rw [rowTo]; exact List.mem_append_left _ (ih (by omega))
theorem mem_blows {m q i j k : Nat} (h : i < m ∧ j < q) (hk : i < k) : (⟨(i, j), h⟩ : BlowIx m q) ∈ blowsTo m q k := by
  induction k with
  | zero => omega
  | succ k ih =>
    rw [blowsTo]
    by_cases e : i = k
    · subst e; exact List.mem_append_right _ (mem_row h h.2)
    · exact List.mem_append_left _ (ih (by omega))

/-- The nine cells of a horn. -/
structure HornAt (W : World) (B : Nat) (b0 b1 b2 b3 b4 b5 : Int) (v : Value) (most tol : Int) : Prop where
  c0 : W.cell? ⟨B, 0, none⟩ = some (.int .i64 b0)
  c1 : W.cell? ⟨B, 1, none⟩ = some (.int .i64 b1)
  c2 : W.cell? ⟨B, 2, none⟩ = some (.int .i64 b2)
  c3 : W.cell? ⟨B, 3, none⟩ = some (.int .i64 b3)
  c4 : W.cell? ⟨B, 4, none⟩ = some (.int .i64 b4)
  c5 : W.cell? ⟨B, 5, none⟩ = some (.int .i64 b5)
  c6 : W.cell? ⟨B, 6, none⟩ = some v
  c7 : W.cell? ⟨B, 7, none⟩ = some (.int .i64 most)
  c8 : W.cell? ⟨B, 8, none⟩ = some (.int .i64 tol)
theorem HornAt.keep {W W' : World} {B : Nat} {b0 b1 b2 b3 b4 b5 most tol : Int} {v : Value} (h : HornAt W B b0 b1 b2 b3 b4 b5 v most tol) {N : Nat} (g : Below N W W') (hB : B < N) : HornAt W' B b0 b1 b2 b3 b4 b5 v most tol :=
  have k : ∀ o, W'.cell? ⟨B, o, none⟩ = W.cell? ⟨B, o, none⟩ := fun o => Below.cell (p := ⟨B, o, none⟩) g hB
  ⟨(k _).trans h.c0, (k _).trans h.c1, (k _).trans h.c2, (k _).trans h.c3, (k _).trans h.c4, (k _).trans h.c5, (k _).trans h.c6, (k _).trans h.c7, (k _).trans h.c8⟩
/-- The world in which Sound ranges over the blows. -/
structure SndW (b0 b1 b2 b3 b4 b5 : Int) (v : Value) (most tol x s : Int) (w W : World) (Bn : Nat) : Prop where
  gr : Gr w W
  lt : Bn < W.heap.size
  le : w.heap.size + 4 ≤ Bn
  horn : HornAt W w.heap.size b0 b1 b2 b3 b4 b5 v most tol
  blow0 : W.cell? ⟨w.heap.size + 1, 0, none⟩ = some (.int .i64 x)
  blow1 : W.cell? ⟨w.heap.size + 1, 1, none⟩ = some (.int .i64 s)
  res : ∀ j, j < 6 → W.cell? ⟨w.heap.size + 1 + 1, j, none⟩ = some (.int .i64 0)
  resf : ∀ j, W.frozen? ⟨w.heap.size + 1 + 1, j, none⟩ = false
  err : W.cell? ⟨w.heap.size + 1 + 1 + 1, 0, none⟩ = some (.int .i64 0)
  errf : W.frozen? ⟨w.heap.size + 1 + 1 + 1, 0, none⟩ = false
  own6 : W.cell? ⟨Bn, 6, none⟩ = some v
  own7 : W.cell? ⟨Bn, 7, none⟩ = some (.int .i64 most)
theorem SndW.keep {b0 b1 b2 b3 b4 b5 most tol x s : Int} {v : Value} {w W W' : World} {Bn : Nat} (h : SndW b0 b1 b2 b3 b4 b5 v most tol x s w W Bn) (g : Gr W W') : SndW b0 b1 b2 b3 b4 b5 v most tol x s w W' Bn := by
  have hl := h.lt
  have hle := h.le
  have k : ∀ B o, B ≤ Bn → W'.cell? ⟨B, o, none⟩ = W.cell? ⟨B, o, none⟩ := fun B o hB => Below.cell (p := ⟨B, o, none⟩) g (show B < W.heap.size by omega)
  have kf : ∀ B o, B ≤ Bn → W'.frozen? ⟨B, o, none⟩ = W.frozen? ⟨B, o, none⟩ := fun B o hB => Below.frozen (p := ⟨B, o, none⟩) g (show B < W.heap.size by omega)
  exact ⟨h.gr.trans g, Nat.lt_of_lt_of_le hl g.le, hle, h.horn.keep g (by omega), (k _ _ (by omega)).trans h.blow0, (k _ _ (by omega)).trans h.blow1, fun j hj => (k _ _ (by omega)).trans (h.res j hj), fun j => (kf _ _ (by omega)).trans (h.resf j),
    (k _ _ (by omega)).trans h.err, (kf _ _ (by omega)).trans h.errf, (k _ _ (by omega)).trans h.own6, (k _ _ (by omega)).trans h.own7⟩

/-- What the walk found in the blow that was asked for. -/
def SndRes (base : V6) (f : Nat → Nat → Int) (n m Q : Nat) (x s z0 z1 z2 z3 z4 z5 ez : Int) : Prop :=
  (∀ i j : Nat, i < m → j < Q → (i : Int) + 1 = x → (j : Int) = s →
    (allIn (soundV base f n (i + 1) j) 576 6 = true ∧ z0 = soundF base f n (i + 1) j 0 ∧ z1 = soundF base f n (i + 1) j 1 ∧ z2 = soundF base f n (i + 1) j 2 ∧ z3 = soundF base f n (i + 1) j 3 ∧ z4 = soundF base f n (i + 1) j 4 ∧ z5 = soundF base f n (i + 1) j 5 ∧ ez = 0) ∨
    (allIn (soundV base f n (i + 1) j) 576 6 = false ∧ z0 = 0 ∧ z1 = 0 ∧ z2 = 0 ∧ z3 = 0 ∧ z4 = 0 ∧ z5 = 0 ∧ ez = 3)) ∧
  ((∀ i j : Nat, i < m → j < Q → ¬ ((i : Int) + 1 = x ∧ (j : Int) = s)) → z0 = 0 ∧ z1 = 0 ∧ z2 = 0 ∧ z3 = 0 ∧ z4 = 0 ∧ z5 = 0 ∧ ez = 1)

theorem snd_start (b0 b1 b2 b3 b4 b5 tol x s : Int) (A : Option Addr) (n c m : Nat) (w w1 : World) (hb : Gr ((((w.alloc (.cells #[.int .i64 b0, .int .i64 b1, .int .i64 b2, .int .i64 b3, .int .i64 b4, .int .i64 b5, .slice A n c, .int .i64 (m : Int), .int .i64 tol] 26)).alloc (.cells #[.int .i64 x, .int .i64 s] 28)).alloc (.cells #[.int .i64 0, .int .i64 0, .int .i64 0, .int .i64 0, .int .i64 0, .int .i64 0] 23)).alloc (.cells #[.int .i64 0] 32)) w1) :
    SndW b0 b1 b2 b3 b4 b5 (.slice A n c) m tol x s w (w1.alloc (.cells #[.int .i64 b0, .int .i64 b1, .int .i64 b2, .int .i64 b3, .int .i64 b4, .int .i64 b5, .slice A n c, .int .i64 (m : Int), .int .i64 tol] 26)) w1.heap.size := by
  have hz := hb.le
  obtain ⟨hc, hf⟩ := hb.cells
  simp only [World.size_alloc] at hc hf hz
  have g : Gr w w1 := (by repeat (first | exact Gr.refl _ | refine Gr.alloc ?_ _ | refine Gr.drew ?_ | refine Gr.trans ?_ (by assumption) | refine Gr.setCell ?_ (by (try simp); (try omega)) _))
  have hS : SndW b0 b1 b2 b3 b4 b5 (.slice A n c) m tol x s w (w1.alloc (.cells #[.int .i64 b0, .int .i64 b1, .int .i64 b2, .int .i64 b3, .int .i64 b4, .int .i64 b5, .slice A n c, .int .i64 (m : Int), .int .i64 tol] 26)) w1.heap.size := by
    refine ⟨g.alloc _, by simp, by omega, ⟨?_, ?_, ?_, ?_, ?_, ?_, ?_, ?_, ?_⟩, ?_, ?_, fun j hj => ?_, fun j => ?_, ?_, ?_, ?_, ?_⟩
    all_goals first
      | (simp [go_sem, *]; done)
      | (obtain rfl | rfl | rfl | rfl | rfl | rfl : j = 0 ∨ j = 1 ∨ j = 2 ∨ j = 3 ∨ j = 4 ∨ j = 5 := by omega
         all_goals simp [go_sem, *])
  exact hS
/-- No blow that has come is the one that was asked for. -/
def Unseen {m Q : Nat} (x s : Int) (pre : List (BlowIx m Q)) : Prop := ∀ p ∈ pre, ¬ ((p.1.1 : Int) + 1 = x ∧ (p.1.2 : Int) = s)
theorem Unseen.snoc {m Q : Nat} {x s : Int} {pre : List (BlowIx m Q)} (h : Unseen x s pre) {p : BlowIx m Q} (hp : ¬ ((p.1.1 : Int) + 1 = x ∧ (p.1.2 : Int) = s)) : Unseen x s (pre ++ [p]) := by
  intro q hq
  rcases List.mem_append.1 hq with hq | hq
  · exact h q hq
  · obtain rfl : q = p := List.mem_singleton.1 hq
    exact hp
/-- The blow has come, and the results are laid. -/
def SndIx (m Q : Nat) (x s z0 z1 z2 z3 z4 z5 ez : Int) (w W : World) : Prop :=
  (∃ i j : Nat, i < m ∧ j < Q ∧ (i : Int) + 1 = x ∧ (j : Int) = s) ∧ Stored7 W (w.heap.size + 1 + 1) (w.heap.size + 1 + 1 + 1) (.int .i64 z0) (.int .i64 z1) (.int .i64 z2) (.int .i64 z3) (.int .i64 z4) (.int .i64 z5) (.int .i64 ez)
theorem Stored7.kept {W W' : World} {row : Option Nat} {b b' : Nat} {x0 x1 x2 x3 x4 x5 y : Value} (h : Stored7 W b b' x0 x1 x2 x3 x4 x5 y) (hg : W.grownBy W' row) (hr : ∀ r, row = some r → ∃ o : Obj, W.heap[r]? = some o ∧ o.isCells = false) : Stored7 W' b b' x0 x1 x2 x3 x4 x5 y :=
  ⟨cell_kept h.s0 hg hr, cell_kept h.s1 hg hr, cell_kept h.s2 hg hr, cell_kept h.s3 hg hr, cell_kept h.s4 hg hr, cell_kept h.s5 hg hr, cell_kept h.s6 hg hr⟩

set_option maxRecDepth 100000 in
set_option maxHeartbeats 16000000 in
theorem Sound_ok (b0 b1 b2 b3 b4 b5 tol x s z0 z1 z2 z3 z4 z5 ez : Int) (A : Option Addr) (n c m Q : Nat) (f : Nat → Nat → Int) (w : World) (hP : Primes w) (hBP : BPrimes w) (hV : RowsAt w 6 A n f) (hok : hornOk ⟨b0, b1, b2, b3, b4, b5⟩ n f m tol = true)
    (hQ : 2 ^ n = Q) (hz : SndRes ⟨b0, b1, b2, b3, b4, b5⟩ f n m Q x s z0 z1 z2 z3 z4 z5 ez) :
    Calls Tryd.prog 15 #[.agg #[.int .i64 b0, .int .i64 b1, .int .i64 b2, .int .i64 b3, .int .i64 b4, .int .i64 b5, .slice A n c, .int .i64 (m : Int), .int .i64 tol], .agg #[.int .i64 x, .int .i64 s]] w
      fun e w' => e = .returned (.tuple #[.agg #[.int .i64 z0, .int .i64 z1, .int .i64 z2, .int .i64 z3, .int .i64 z4, .int .i64 z5], .int .i64 ez]) ∧ Gr w w' := by
  obtain ⟨-, hn4, -, hm16, -, -, -⟩ := hornOk_parts hok
  have HC := Lib.hid (fun W h h' => hornValid_any b0 b1 b2 b3 b4 b5 m tol A n c f W h h' (by omega))
  rw [hok] at HC
  have HP := Lib.hid hP; have HV := Lib.hid hV; have HBP := Lib.hid hBP; have HOK := Lib.hid hok; have HQ := Lib.hid hQ; have HZ := Lib.hid hz
  clear hP hV hBP hok hQ hz
  refine (callsIn_wide (n := 6)).1 ?_
  refine callsIn_of_wp_marks Tryd.func15 rfl trivial ?_ rfl
  simp only [Tryd.ntmps15, List.size_toArray, List.length_cons, List.length_nil, Nat.reduceAdd, Nat.reduceSub, Array.replicate_succ, Array.replicate_zero, List.push_toArray, List.append_toArray, List.nil_append, List.cons_append]
  gi_wp2_with fail
  refine ⟨trivial, callsIn_wide.2 ((HC.out _ (HP.out.keep (by repeat (first | exact Gr.refl _ | refine Gr.alloc ?_ _ | refine Gr.drew ?_ | refine Gr.trans ?_ (by assumption) | refine Gr.setCell ?_ (by (try simp); (try omega)) _))) (HV.out.keep (by repeat (first | exact Gr.refl _ | refine Gr.alloc ?_ _ | refine Gr.drew ?_ | refine Gr.trans ?_ (by assumption) | refine Gr.setCell ?_ (by (try simp); (try omega)) _)))).mono ?_)⟩
  rintro e w1 ⟨rfl, hb⟩
  have HS := Lib.hid (snd_start b0 b1 b2 b3 b4 b5 tol x s A n c m w w1 hb)
  have hz := hb.le; obtain ⟨hc, hf⟩ := hb.cells; simp only [World.size_alloc] at hc hf hz
  gi_wp2_with (refine ⟨trivial, ?_⟩; gi_at_call 57; refine (blows_in b0 b1 b2 b3 b4 b5 m tol A n c _ _).mono ?_; rintro e w' ⟨rfl, rfl⟩)
  clear hb hc hf hz HC
  generalize w1.alloc (.cells #[.int .i64 b0, .int .i64 b1, .int .i64 b2, .int .i64 b3, .int .i64 b4, .int .i64 b5, .slice A n c, .int .i64 (m : Int), .int .i64 tol] 26) = W0 at *
  generalize w1.heap.size = Bn at *
  have hS := HS.out
  refine wpIn_rangeFunc_ownH rfl (by omega) (gf := 82) (lb := #[.pointer (some ⟨Bn, 0, none⟩)]) rfl trivial (enters_of Tryd.func82 (by kernel_rfl) rfl)
    (blows_stops A n c m Q HQ.out hn4 (by omega) (6 - 1) (by omega) Bn W0 hS.lt hS.own6 hS.own7) (fun h k => keepBox_t h k) (fun W l o o' h1 h2 h3 h4 => keepBox_b hS.lt W l o o' h1 h2 h3 h4) (Below.refl _ _) (fun _ => rfl)
    (fun pre W => Gr W0 W ∧ Unseen x s pre)
    (fun cc _ W => (cc = .ret ∧ SndIx m Q x s z0 z1 z2 z3 z4 z5 ez w W) ∧ Below w.heap.size w W)
    (OwnFrom.and (ownFrom_below (Nat.le_refl _) (Nat.le_refl _)) (fun _ _ _ _ h _ _ => h))
    (fun cc => OwnFrom.and (fun _ _ _ _ h hg hr => ⟨h.1, h.2.1, h.2.2.kept hg (fun r e => (hr r e).2)⟩) (ownFrom_below (Nat.le_refl _) (by have := hS.lt; have := hS.le; omega)))
    ⟨Gr.refl _, fun _ h => by cases h⟩
    (fun p a' W => ∃ Bx, W0.heap.size ≤ Bx ∧ (W.cell? ⟨Bx, 0, none⟩ = some (.int .i64 ((p.1.1 : Int) + 1)) ∧ W.cell? ⟨Bx, 1, none⟩ = some (.int .i64 (p.1.2 : Int))) ∧ a' = { tmps := #[.agg #[.int .i64 b0, .int .i64 b1, .int .i64 b2, .int .i64 b3, .int .i64 b4, .int .i64 b5, .slice A n c, .int .i64 (m : Int), .int .i64 tol], .agg #[.int .i64 x, .int .i64 s], .pointer (some ⟨w.heap.size, 0, none⟩), .pointer (some ⟨w.heap.size + 1, 0, none⟩), .pointer (some ⟨w.heap.size + 1 + 1, 0, none⟩), .pointer (some ⟨w.heap.size + 1 + 1 + 1, 0, none⟩), .pointer (some ⟨Bx, 0, none⟩), undef, .agg #[.int .i64 b0, .int .i64 b1, .int .i64 b2, .int .i64 b3, .int .i64 b4, .int .i64 b5, .slice A n c, .int .i64 (m : Int), .int .i64 tol], .bool true, .bool false, undef, .agg #[.int .i64 b0, .int .i64 b1, .int .i64 b2, .int .i64 b3, .int .i64 b4, .int .i64 b5, .slice A n c, .int .i64 (m : Int), .int .i64 tol], .func (.func 82) #[] #[.pointer (some ⟨Bn, 0, none⟩)], .agg #[.int .i64 ((p.1.1 : Int) + 1), .int .i64 (p.1.2 : Int)], undef, undef, undef, undef, undef, undef, undef, undef, undef, undef, undef], defers := [] })
    (fun p a' _ X Y row hs hg hr => by obtain ⟨Bx, h1, ⟨h2, h3⟩, h4⟩ := hs; exact ⟨Bx, h1, ⟨cell_kept h2 hg (fun r e => (hr r e).2), cell_kept h3 hg (fun r e => (hr r e).2)⟩, h4⟩)
    ?assign ?body ?done ?stop
  case assign =>
    rintro l pre p W K ⟨hg, hu⟩ hK
    have HG := Lib.hid hg; have HU := Lib.hid hu
    clear hg hu
    unfold encB
    gi_wp2
    have hlt : Bn < W.heap.size := Nat.lt_of_lt_of_le HS.out.lt HG.out.le
    exact hK _ _ ((KeepsOthers.alloc _ _).from _) (Below.keepBox ((Gr.refl W).alloc _) hlt) ⟨HG.out.alloc _, HU.out⟩ ⟨W.heap.size, HG.out.le, ⟨by simp [go_sem], by simp [go_sem]⟩, rfl⟩
  case body =>
    rintro l pre ⟨⟨i, j⟩, hi, hj⟩ a' W hl ⟨r, hr⟩ ⟨hg, hu⟩ ⟨Bx, hBx, ⟨c0, c1⟩, rfl⟩ hlt
    have HSW := Lib.hid (HS.out.keep hg)
    have HG := Lib.hid hg; have HU := Lib.hid hu
    have d0 := HSW.out.blow0; have d1 := HSW.out.blow1
    clear hg hu hr hS
    dsimp only at hi hj c0 c1 ⊢
    by_cases h1 : (i : Int) + 1 = x
    · subst h1
      by_cases h2 : (j : Int) = s
      · subst h2
        have hcell := HSW.out.horn
        have hgw := HSW.out.gr
        obtain ⟨k0, k1, k2, k3, k4, k5, k6, k7, k8⟩ := hcell
        have HE := HZ.out.1 i j hi hj rfl rfl
        have HGW := Lib.hid hgw
        have HPW := Lib.hid (HP.out.keep hgw); have HVW := Lib.hid (HV.out.keep hgw); have HBW := Lib.hid (HBP.out.keep hgw)
        have hsnd := sound_any b0 b1 b2 b3 b4 b5 m tol A n c (i + 1) j f W HBW.out HVW.out HOK.out (by omega) (by omega)
        have HIJ := Lib.hid (show ∃ i' j' : Nat, i' < m ∧ j' < Q ∧ (i' : Int) + 1 = (i : Int) + 1 ∧ (j' : Int) = (j : Int) from ⟨i, j, hi, hj, rfl, rfl⟩)
        rw [show ((i + 1 : Nat) : Int) = (i : Int) + 1 from rfl] at hsnd
        simp only [soundV] at HE
        generalize soundF ⟨b0, b1, b2, b3, b4, b5⟩ f n (i + 1) j 0 = y0 at *
        generalize soundF ⟨b0, b1, b2, b3, b4, b5⟩ f n (i + 1) j 1 = y1 at *
        generalize soundF ⟨b0, b1, b2, b3, b4, b5⟩ f n (i + 1) j 2 = y2 at *
        generalize soundF ⟨b0, b1, b2, b3, b4, b5⟩ f n (i + 1) j 3 = y3 at *
        generalize soundF ⟨b0, b1, b2, b3, b4, b5⟩ f n (i + 1) j 4 = y4 at *
        generalize soundF ⟨b0, b1, b2, b3, b4, b5⟩ f n (i + 1) j 5 = y5 at *
        have HC := Lib.hid hsnd
        clear hgw hsnd
        rcases HE with ⟨hv, rfl, rfl, rfl, rfl, rfl, rfl, rfl⟩ | ⟨hv, rfl, rfl, rfl, rfl, rfl, rfl, rfl⟩
        · have HVL := Lib.hid hv
          clear hv
          gi_wp2_with fail
          refine ⟨trivial, (CallsIn.inRound l (callsIn_wide.2 HC.out)).mono ?_⟩
          rintro e w2 ⟨rfl, hb⟩
          have HG2 := Lib.hid hb
          clear hb
          gi_wp2_with fail
          refine ⟨trivial, (CallsIn.inRound l (callsIn_wide.2 (pitchValid_any _ _ _ _ _ _ _))).mono ?_⟩
          rintro e w3 ⟨rfl, hb⟩
          rw [HVL.out]
          have HG3 := Lib.hid ((HG2.out.alloc (.cells #[.int .i64 z0, .int .i64 z1, .int .i64 z2, .int .i64 z3, .int .i64 z4, .int .i64 z5] 23)).trans hb)
          have HW3 := Lib.hid (HSW.out.keep HG3.out)
          have hbox : ∀ o, w3.cell? ⟨w2.heap.size, o, none⟩ = (w2.alloc (.cells #[.int .i64 z0, .int .i64 z1, .int .i64 z2, .int .i64 z3, .int .i64 z4, .int .i64 z5] 23)).cell? ⟨w2.heap.size, o, none⟩ := fun o => Below.cell (p := ⟨w2.heap.size, o, none⟩) hb (by simp)
          have x0 := hbox 0; have x1 := hbox 1; have x2 := hbox 2; have x3 := hbox 3; have x4 := hbox 4; have x5 := hbox 5
          simp [go_sem] at x0 x1 x2 x3 x4 x5
          have r0 := HW3.out.res 0 (by omega); have r1 := HW3.out.res 1 (by omega); have r2 := HW3.out.res 2 (by omega); have r3 := HW3.out.res 3 (by omega); have r4 := HW3.out.res 4 (by omega); have r5 := HW3.out.res 5 (by omega)
          have rf := HW3.out.resf; have re := HW3.out.err; have ref := HW3.out.errf
          clear hb hbox k0 k1 k2 k3 k4 k5 k6 k7 k8 c0 c1 d0 d1
          gi_wp2_with fail
          exact ⟨(HG3.out.keeps _).trans ((store7_keeps w3 _ _ _ _ _ _ _ _ _).from _), ⟨rfl, HIJ.out, store7_cells (fun j hj => by rw [HW3.out.res j hj]; rfl) (by rw [HW3.out.err]; rfl) (by omega) (.int .i64 z0) (.int .i64 z1) (.int .i64 z2) (.int .i64 z3) (.int .i64 z4) (.int .i64 z5) (.int .i64 0)⟩,
            store7_gr HW3.out.gr (by omega) (by omega) (.int .i64 z0) (.int .i64 z1) (.int .i64 z2) (.int .i64 z3) (.int .i64 z4) (.int .i64 z5) (.int .i64 0)⟩
        · have HVL := Lib.hid hv
          clear hv
          gi_wp2_with fail
          refine ⟨trivial, (CallsIn.inRound l (callsIn_wide.2 HC.out)).mono ?_⟩
          rintro e w2 ⟨rfl, hb⟩
          have HG2 := Lib.hid hb
          clear hb
          gi_wp2_with fail
          refine ⟨trivial, (CallsIn.inRound l (callsIn_wide.2 (pitchValid_any _ _ _ _ _ _ _))).mono ?_⟩
          rintro e w3 ⟨rfl, hb⟩
          rw [HVL.out]
          have HG3 := Lib.hid ((HG2.out.alloc (.cells #[.int .i64 y0, .int .i64 y1, .int .i64 y2, .int .i64 y3, .int .i64 y4, .int .i64 y5] 23)).trans hb)
          have HW3 := Lib.hid (HSW.out.keep HG3.out)
          have hbox : ∀ o, w3.cell? ⟨w2.heap.size, o, none⟩ = (w2.alloc (.cells #[.int .i64 y0, .int .i64 y1, .int .i64 y2, .int .i64 y3, .int .i64 y4, .int .i64 y5] 23)).cell? ⟨w2.heap.size, o, none⟩ := fun o => Below.cell (p := ⟨w2.heap.size, o, none⟩) hb (by simp)
          have x0 := hbox 0; have x1 := hbox 1; have x2 := hbox 2; have x3 := hbox 3; have x4 := hbox 4; have x5 := hbox 5
          simp [go_sem] at x0 x1 x2 x3 x4 x5
          have r0 := HW3.out.res 0 (by omega); have r1 := HW3.out.res 1 (by omega); have r2 := HW3.out.res 2 (by omega); have r3 := HW3.out.res 3 (by omega); have r4 := HW3.out.res 4 (by omega); have r5 := HW3.out.res 5 (by omega)
          have rf := HW3.out.resf; have re := HW3.out.err; have ref := HW3.out.errf
          clear hb hbox k0 k1 k2 k3 k4 k5 k6 k7 k8 c0 c1 d0 d1
          gi_wp2_with fail
          exact ⟨(HG3.out.keeps _).trans ((store7_keeps w3 _ _ _ _ _ _ _ _ _).from _), ⟨rfl, HIJ.out, store7_cells (fun j hj => by rw [HW3.out.res j hj]; rfl) (by rw [HW3.out.err]; rfl) (by omega) (.int .i64 0) (.int .i64 0) (.int .i64 0) (.int .i64 0) (.int .i64 0) (.int .i64 0) (.int .i64 3)⟩,
            store7_gr HW3.out.gr (by omega) (by omega) (.int .i64 0) (.int .i64 0) (.int .i64 0) (.int .i64 0) (.int .i64 0) (.int .i64 0) (.int .i64 3)⟩
      · have HN := Lib.hid (HU.out.snoc (p := ⟨(i, j), hi, hj⟩) (fun h => h2 h.2))
        gi_wp2
        exact ⟨KeepsFrom.refl _ _, fun _ => rfl, HG.out, HN.out⟩
    · have HN := Lib.hid (HU.out.snoc (p := ⟨(i, j), hi, hj⟩) (fun h => h1 h.1))
      gi_wp2
      exact ⟨KeepsFrom.refl _ _, fun _ => rfl, HG.out, HN.out⟩
  case done =>
    rintro D xs W hD rfl ⟨hg, hu⟩ hK
    have HW3 := Lib.hid (HS.out.keep hg)
    obtain ⟨rfl, rfl, rfl, rfl, rfl, rfl, rfl⟩ := HZ.out.2 (fun i j hi hj => hu ⟨(i, j), hi, hj⟩ (mem_blows ⟨hi, hj⟩ hi))
    have r0 := HW3.out.res 0 (by omega); have r1 := HW3.out.res 1 (by omega); have r2 := HW3.out.res 2 (by omega); have r3 := HW3.out.res 3 (by omega); have r4 := HW3.out.res 4 (by omega); have r5 := HW3.out.res 5 (by omega)
    have rf := HW3.out.resf; have re := HW3.out.err; have ref := HW3.out.errf
    have HK := Lib.hid hK; have HDD := Lib.hid hD
    clear hg hu hK hD hS
    gi_wp2
    have hst := store7_cells (fun j hj => by rw [HW3.out.res j hj]; rfl) (by rw [HW3.out.err]; rfl) (show w.heap.size + 1 + 1 ≠ w.heap.size + 1 + 1 + 1 by omega) (.int .i64 0) (.int .i64 0) (.int .i64 0) (.int .i64 0) (.int .i64 0) (.int .i64 0) (.int .i64 1)
    have hgr := store7_gr HW3.out.gr (show w.heap.size ≤ w.heap.size + 1 + 1 by omega) (show w.heap.size ≤ w.heap.size + 1 + 1 + 1 by omega) (.int .i64 0) (.int .i64 0) (.int .i64 0) (.int .i64 0) (.int .i64 0) (.int .i64 0) (.int .i64 1)
    have hkk := (store7_keeps W (w.heap.size + 1 + 1) (w.heap.size + 1 + 1 + 1) (.int .i64 0) (.int .i64 0) (.int .i64 0) (.int .i64 0) (.int .i64 0) (.int .i64 0) (.int .i64 1)).same D _ HK.out rfl
    change bodyPostM _ _ _ _ _ _ _ (store7 W (w.heap.size + 1 + 1) (w.heap.size + 1 + 1 + 1) (.int .i64 0) (.int .i64 0) (.int .i64 0) (.int .i64 0) (.int .i64 0) (.int .i64 0) (.int .i64 1))
    generalize store7 W (w.heap.size + 1 + 1) (w.heap.size + 1 + 1 + 1) (.int .i64 0) (.int .i64 0) (.int .i64 0) (.int .i64 0) (.int .i64 0) (.int .i64 0) (.int .i64 1) = WF at *
    refine ⟨by simp, .inl ⟨_, _, rfl, run_takeDeferred hkk, ?_⟩⟩
    obtain ⟨s0, s1, s2, s3, s4, s5, s6⟩ := hst.kept (Go.grownBy_putObj' WF D (.deferred none)) (fun r e => by cases e; exact ⟨_, hkk, rfl⟩)
    exact ⟨_, by simp [results, Tryd.f15, go_sem, s0, s1, s2, s3, s4, s5, s6], rfl, Below.trans hgr (belowK_b (w := w) (Nat.le_refl _) WF D _ _ (by have := HDD.out; have := HS.out.lt; have := HS.out.le; omega) hkk rfl rfl)⟩
  case stop =>
    rintro D cc pre W hD - ⟨⟨rfl, hij, hst⟩, hB⟩ hK
    have HST := Lib.hid hst; have HDD := Lib.hid hD; have HBB := Lib.hid hB; have HK := Lib.hid hK
    clear hst hij hD hB hK hS
    gi_wp2
    refine ⟨by simp, .inl ⟨_, _, rfl, run_takeDeferred HK.out, ?_⟩⟩
    obtain ⟨s0, s1, s2, s3, s4, s5, s6⟩ := HST.out.kept (Go.grownBy_putObj' W D (.deferred none)) (fun r e => by cases e; exact ⟨_, HK.out, rfl⟩)
    exact ⟨_, by simp [results, Tryd.f15, go_sem, s0, s1, s2, s3, s4, s5, s6], rfl, HBB.out.trans (belowK_b (w := w) (Nat.le_refl _) W D _ _ (by have := HDD.out; have := HS.out.lt; have := HS.out.le; omega) HK.out rfl rfl)⟩
end Go.Proofs.YtbaopniofhbjdaaDoor
