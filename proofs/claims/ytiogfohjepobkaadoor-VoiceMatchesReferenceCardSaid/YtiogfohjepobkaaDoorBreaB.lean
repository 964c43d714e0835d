/-
  package voice: Breaths refuses what is not valid.
  package voice: Breaths between two rounds: the list, the boxes.
  package voice: Breaths at a valid singer and a valid phrase.
-/
import Derived.Test.YtiogfohjepobkaaDoorV2
import Derived.Test.YtiogfohjepobkaaDoorBrea2
namespace Go.Proofs.YtiogfohjepobkaaDoor
open Go.RowKit Go.Shelf
attribute [local go_sem] Oper.semAt_some

set_option maxRecDepth 100000 in
set_option maxHeartbeats 4000000 in
theorem breaths_bad1 (l0 l1 l2 l3 l4 l5 h0 h1 h2 h3 h4 h5 st br : Int) (A M : Option Addr) (n c nm cm : Nat) (w : World) (hP : Primes w) (hok : voiceOk ⟨l0, l1, l2, l3, l4, l5⟩ ⟨h0, h1, h2, h3, h4, h5⟩ st br = false) :
    Calls Tryd.prog 17 #[.agg #[.int .i64 l0, .int .i64 l1, .int .i64 l2, .int .i64 l3, .int .i64 l4, .int .i64 l5, .int .i64 h0, .int .i64 h1, .int .i64 h2, .int .i64 h3, .int .i64 h4, .int .i64 h5, .int .i64 st, .int .i64 br], .slice A n c, .slice M nm cm] w fun e w' => e = .returned (.tuple #[.slice none 0 0, .int .i64 1]) ∧ Gr w w' := by
  have HP := Lib.hid hP
  have hW := fun W (h : Primes W) => voiceValid_any l0 l1 l2 l3 l4 l5 h0 h1 h2 h3 h4 h5 st br W h
  simp only [hok] at hW
  have HW := Lib.hid hW
  clear hW hok hP
  refine (callsIn_wide (n := 6)).1 ?_
  refine callsIn_of_wp_marks Tryd.func17 rfl trivial ?_ rfl
  simp only [Tryd.ntmps17, List.size_toArray, List.length_cons, List.length_nil, Nat.reduceAdd, Nat.reduceSub, Array.replicate_succ, Array.replicate_zero, List.push_toArray, List.append_toArray, List.nil_append, List.cons_append]
  gi_wp2_with fail
  refine ⟨trivial, callsIn_wide.2 ((HW.out _ (HP.out.keep (by repeat (first | with_reducible exact Gr.refl _ | with_reducible refine Gr.alloc ?_ _ | with_reducible refine Gr.drew ?_ | with_reducible refine Gr.trans ?_ (by assumption) | with_reducible refine Gr.setCell ?_ (by (try simp); (try omega)) _)))).mono ?_)⟩
  rintro e w1 ⟨rfl, hb⟩
  have hz := hb.le; obtain ⟨hc, hf⟩ := hb.cells; (try simp only [World.size_alloc] at hc hf hz)
  have HG := Lib.hid (show Gr w w1 from (by repeat (first | with_reducible exact Gr.refl _ | with_reducible refine Gr.alloc ?_ _ | with_reducible refine Gr.drew ?_ | with_reducible refine Gr.trans ?_ (by assumption) | with_reducible refine Gr.setCell ?_ (by (try simp); (try omega)) _)))
  gi_wp2_with fail
  refine ⟨trivial, ?_⟩
  gi_wp2_with fail
  exact ⟨_, by simp [results, Tryd.f17, go_sem, hc], rfl, (by repeat (first | with_reducible exact Gr.refl _ | with_reducible refine Gr.alloc ?_ _ | with_reducible refine Gr.drew ?_ | with_reducible refine Gr.trans ?_ (by assumption) | with_reducible refine Gr.setCell ?_ (by (try simp); (try omega)) _))⟩

set_option maxRecDepth 100000 in
set_option maxHeartbeats 4000000 in
theorem breaths_bad2 (l0 l1 l2 l3 l4 l5 h0 h1 h2 h3 h4 h5 st br : Int) (A M : Option Addr) (n c nm cm : Nat) (w : World) (hP : Primes w) (hok : voiceOk ⟨l0, l1, l2, l3, l4, l5⟩ ⟨h0, h1, h2, h3, h4, h5⟩ st br = true) (hne : ¬ n = nm) :
    Calls Tryd.prog 17 #[.agg #[.int .i64 l0, .int .i64 l1, .int .i64 l2, .int .i64 l3, .int .i64 l4, .int .i64 l5, .int .i64 h0, .int .i64 h1, .int .i64 h2, .int .i64 h3, .int .i64 h4, .int .i64 h5, .int .i64 st, .int .i64 br], .slice A n c, .slice M nm cm] w fun e w' => e = .returned (.tuple #[.slice none 0 0, .int .i64 1]) ∧ Gr w w' := by
  have HP := Lib.hid hP
  have hW := fun W (h : Primes W) => voiceValid_any l0 l1 l2 l3 l4 l5 h0 h1 h2 h3 h4 h5 st br W h
  simp only [hok] at hW
  have HW := Lib.hid hW
  clear hW hok hP
  have hneb : ((n : Int) == (nm : Int)) = false := by simp; omega
  have hnec : ((n : Int) != (nm : Int)) = true := by simp; omega
  have hneb2 : (n == nm) = false := by simp; omega
  have hnec2 : (n != nm) = true := by simp; omega
  clear hne
  refine (callsIn_wide (n := 6)).1 ?_
  refine callsIn_of_wp_marks Tryd.func17 rfl trivial ?_ rfl
  simp only [Tryd.ntmps17, List.size_toArray, List.length_cons, List.length_nil, Nat.reduceAdd, Nat.reduceSub, Array.replicate_succ, Array.replicate_zero, List.push_toArray, List.append_toArray, List.nil_append, List.cons_append]
  gi_wp2_with fail
  refine ⟨trivial, callsIn_wide.2 ((HW.out _ (HP.out.keep (by repeat (first | with_reducible exact Gr.refl _ | with_reducible refine Gr.alloc ?_ _ | with_reducible refine Gr.drew ?_ | with_reducible refine Gr.trans ?_ (by assumption) | with_reducible refine Gr.setCell ?_ (by (try simp); (try omega)) _)))).mono ?_)⟩
  rintro e w1 ⟨rfl, hb⟩
  have hz := hb.le; obtain ⟨hc, hf⟩ := hb.cells; (try simp only [World.size_alloc] at hc hf hz)
  have HG := Lib.hid (show Gr w w1 from (by repeat (first | with_reducible exact Gr.refl _ | with_reducible refine Gr.alloc ?_ _ | with_reducible refine Gr.drew ?_ | with_reducible refine Gr.trans ?_ (by assumption) | with_reducible refine Gr.setCell ?_ (by (try simp); (try omega)) _)))
  gi_wp2_with fail
  refine ⟨trivial, ?_⟩
  gi_wp2_with fail
  exact ⟨_, by simp [results, Tryd.f17, go_sem, hc], rfl, (by repeat (first | with_reducible exact Gr.refl _ | with_reducible refine Gr.alloc ?_ _ | with_reducible refine Gr.drew ?_ | with_reducible refine Gr.trans ?_ (by assumption) | with_reducible refine Gr.setCell ?_ (by (try simp); (try omega)) _))⟩

set_option maxRecDepth 100000 in
set_option maxHeartbeats 4000000 in
theorem breaths_bad3 (l0 l1 l2 l3 l4 l5 h0 h1 h2 h3 h4 h5 st br : Int) (A M : Option Addr) (n c nm cm : Nat) (w : World) (hP : Primes w) (hok : voiceOk ⟨l0, l1, l2, l3, l4, l5⟩ ⟨h0, h1, h2, h3, h4, h5⟩ st br = true) (he : nm = n) (hn : 200 < n) :
    Calls Tryd.prog 17 #[.agg #[.int .i64 l0, .int .i64 l1, .int .i64 l2, .int .i64 l3, .int .i64 l4, .int .i64 l5, .int .i64 h0, .int .i64 h1, .int .i64 h2, .int .i64 h3, .int .i64 h4, .int .i64 h5, .int .i64 st, .int .i64 br], .slice A n c, .slice M nm cm] w fun e w' => e = .returned (.tuple #[.slice none 0 0, .int .i64 1]) ∧ Gr w w' := by
  subst he
  have HP := Lib.hid hP
  have hW := fun W (h : Primes W) => voiceValid_any l0 l1 l2 l3 l4 l5 h0 h1 h2 h3 h4 h5 st br W h
  simp only [hok] at hW
  have HW := Lib.hid hW
  clear hW hok hP
  have hneb : ((nm : Int) == (nm : Int)) = true := by simp
  have hnec : ((nm : Int) != (nm : Int)) = false := by simp
  refine (callsIn_wide (n := 6)).1 ?_
  refine callsIn_of_wp_marks Tryd.func17 rfl trivial ?_ rfl
  simp only [Tryd.ntmps17, List.size_toArray, List.length_cons, List.length_nil, Nat.reduceAdd, Nat.reduceSub, Array.replicate_succ, Array.replicate_zero, List.push_toArray, List.append_toArray, List.nil_append, List.cons_append]
  gi_wp2_with fail
  refine ⟨trivial, callsIn_wide.2 ((HW.out _ (HP.out.keep (by repeat (first | with_reducible exact Gr.refl _ | with_reducible refine Gr.alloc ?_ _ | with_reducible refine Gr.drew ?_ | with_reducible refine Gr.trans ?_ (by assumption) | with_reducible refine Gr.setCell ?_ (by (try simp); (try omega)) _)))).mono ?_)⟩
  rintro e w1 ⟨rfl, hb⟩
  have hz := hb.le; obtain ⟨hc, hf⟩ := hb.cells; (try simp only [World.size_alloc] at hc hf hz)
  have HG := Lib.hid (show Gr w w1 from (by repeat (first | with_reducible exact Gr.refl _ | with_reducible refine Gr.alloc ?_ _ | with_reducible refine Gr.drew ?_ | with_reducible refine Gr.trans ?_ (by assumption) | with_reducible refine Gr.setCell ?_ (by (try simp); (try omega)) _)))
  gi_wp2_with fail
  refine ⟨trivial, ?_⟩
  gi_wp2_with fail
  exact ⟨_, by simp [results, Tryd.f17, go_sem, hc], rfl, (by repeat (first | with_reducible exact Gr.refl _ | with_reducible refine Gr.alloc ?_ _ | with_reducible refine Gr.drew ?_ | with_reducible refine Gr.trans ?_ (by assumption) | with_reducible refine Gr.setCell ?_ (by (try simp); (try omega)) _))⟩

set_option maxRecDepth 100000 in
set_option maxHeartbeats 4000000 in
theorem breaths_bad4 (l0 l1 l2 l3 l4 l5 h0 h1 h2 h3 h4 h5 st br : Int) (A M : Option Addr) (n c nm cm : Nat) (g : Nat → Int) (w : World) (hP : Primes w) (hA : IntsAt w A n g) (hok : voiceOk ⟨l0, l1, l2, l3, l4, l5⟩ ⟨h0, h1, h2, h3, h4, h5⟩ st br = true) (he : nm = n) (hn : n ≤ 200) (hl : lenOk g n = false) :
    Calls Tryd.prog 17 #[.agg #[.int .i64 l0, .int .i64 l1, .int .i64 l2, .int .i64 l3, .int .i64 l4, .int .i64 l5, .int .i64 h0, .int .i64 h1, .int .i64 h2, .int .i64 h3, .int .i64 h4, .int .i64 h5, .int .i64 st, .int .i64 br], .slice A n c, .slice M nm cm] w fun e w' => e = .returned (.tuple #[.slice none 0 0, .int .i64 1]) ∧ Gr w w' := by
  subst he
  have HP := Lib.hid hP
  have hW := fun W (h : Primes W) => voiceValid_any l0 l1 l2 l3 l4 l5 h0 h1 h2 h3 h4 h5 st br W h
  simp only [hok] at hW
  have HW := Lib.hid hW
  clear hW hok hP
  have HA := Lib.hid hA
  have hC := fun W h => anyWrong A nm c g W h hn
  rw [hl] at hC
  have HC := Lib.hid hC
  clear hA hC hl
  have hneb : ((nm : Int) == (nm : Int)) = true := by simp
  have hnec : ((nm : Int) != (nm : Int)) = false := by simp
  refine (callsIn_wide (n := 6)).1 ?_
  refine callsIn_of_wp_marks Tryd.func17 rfl trivial ?_ rfl
  simp only [Tryd.ntmps17, List.size_toArray, List.length_cons, List.length_nil, Nat.reduceAdd, Nat.reduceSub, Array.replicate_succ, Array.replicate_zero, List.push_toArray, List.append_toArray, List.nil_append, List.cons_append]
  gi_wp2_with fail
  refine ⟨trivial, callsIn_wide.2 ((HW.out _ (HP.out.keep (by repeat (first | with_reducible exact Gr.refl _ | with_reducible refine Gr.alloc ?_ _ | with_reducible refine Gr.drew ?_ | with_reducible refine Gr.trans ?_ (by assumption) | with_reducible refine Gr.setCell ?_ (by (try simp); (try omega)) _)))).mono ?_)⟩
  rintro e w1 ⟨rfl, hb⟩
  have hz := hb.le; obtain ⟨hc, hf⟩ := hb.cells; (try simp only [World.size_alloc] at hc hf hz)
  have HG := Lib.hid (show Gr w w1 from (by repeat (first | with_reducible exact Gr.refl _ | with_reducible refine Gr.alloc ?_ _ | with_reducible refine Gr.drew ?_ | with_reducible refine Gr.trans ?_ (by assumption) | with_reducible refine Gr.setCell ?_ (by (try simp); (try omega)) _)))
  gi_wp2_with fail
  refine ⟨trivial, callsIn_wide.2 ((HC.out _ (HA.out.keep HG.out)).mono ?_)⟩
  rintro e w2 ⟨rfl, rfl⟩
  gi_wp2_with fail
  exact ⟨_, by simp [results, Tryd.f17, go_sem, hc], rfl, (by repeat (first | with_reducible exact Gr.refl _ | with_reducible refine Gr.alloc ?_ _ | with_reducible refine Gr.drew ?_ | with_reducible refine Gr.trans ?_ (by assumption) | with_reducible refine Gr.setCell ?_ (by (try simp); (try omega)) _))⟩
end Go.Proofs.YtiogfohjepobkaaDoor

namespace Go.Proofs.YtiogfohjepobkaaDoor
open Go.RowKit Go.Shelf
attribute [local go_sem] Oper.semAt_some

/-- The list of breaths, as cells. -/
def brCells (l : List Int) : List Value := l.map (Value.int .i64)
theorem brCells_snoc (l : List Int) (x : Int) : brCells (l ++ [x]) = brCells l ++ [.int .i64 x] := by simp [brCells]
/-- Between two rounds: the list has been collected, the results are as they were laid. -/
structure BreS (w : World) (Bl : Nat) (l : List Int) (W : World) : Prop where
  gr : Gr w W
  r0 : W.cell? ⟨w.heap.size + 1, 0, none⟩ = some (.slice none 0 0)
  f0 : W.frozen? ⟨w.heap.size + 1, 0, none⟩ = false
  r1 : W.cell? ⟨w.heap.size + 1 + 1, 0, none⟩ = some (.int .i64 0)
  f1 : W.frozen? ⟨w.heap.size + 1 + 1, 0, none⟩ = false
  list : ∃ v, Boxed W Bl 27 v ∧ W.ownsRow (Bl + 1 + 1 + 1 + 1) 3 1 v l.length (brCells l) ∧ (v = .slice none 0 0 ↔ l = [])
theorem frozen_kept {W W' : World} {row : Option Nat} {p : Addr} {x : Value} (hc : W.cell? p = some x) (hg : W.grownBy W' row) (hr : ∀ r, row = some r → ∃ o : Obj, W.heap[r]? = some o ∧ o.isCells = false) : W'.frozen? p = W.frozen? p := by
  obtain ⟨o, ho, hoc⟩ := cells_of_cell hc
  refine World.frozen?_of_block (hg.block p.block (Array.getElem?_eq_some_iff.1 ho).1 fun e => ?_)
  obtain ⟨o', ho', hc'⟩ := hr p.block e.symm
  rw [ho] at ho'; cases ho'; rw [hoc] at hc'; cases hc'
theorem BreS.kept {w W W' : World} {Bl : Nat} {l : List Int} {row : Option Nat} (h : BreS w Bl l W) (hg : W.grownBy W' row) (hr : ∀ r, row = some r → w.heap.size ≤ r ∧ ∃ o : Obj, W.heap[r]? = some o ∧ o.isCells = false) : BreS w Bl l W' := by
  have hr' : ∀ r, row = some r → ∃ o : Obj, W.heap[r]? = some o ∧ o.isCells = false := fun r e => (hr r e).2
  obtain ⟨v, h1, h2, h3⟩ := h.list
  refine ⟨Below.grown h.gr hg h.gr.size (fun k e => (hr k e).1), cell_kept h.r0 hg hr', (frozen_kept h.r0 hg hr').trans h.f0, cell_kept h.r1 hg hr', (frozen_kept h.r1 hg hr').trans h.f1, v, h1.kept hg fun e => ?_, h2.kept hg ?_, h3⟩
  · obtain ⟨o, ho, hc⟩ := hr' Bl e.symm
    rw [show W.heap[Bl]? = _ from h1] at ho; cases ho; cases hc
  · rcases h2.2 with ⟨rfl, _⟩ | ⟨g, cap, cur, rfl, _, hgb, _⟩
    · exact .inl rfl
    · refine .inr fun e => ?_
      obtain ⟨o, ho, hc⟩ := hr' g e.symm
      rw [hgb] at ho; cases ho; cases hc
theorem BreS.keep {w W W' : World} {Bl : Nat} {l : List Int} (h : BreS w Bl l W) (g : Gr W W') : BreS w Bl l W' :=
  h.kept (row := none) ⟨g.os, g.tape, g.output, g.size, fun j hj _ => g.block j hj⟩ (fun _ e => by cases e)
theorem breS_own (w : World) (Bl N : Nat) (hN : w.heap.size ≤ N) : OwnFrom N (fun l W => BreS w Bl l W) := fun _ _ _ _ h hg hr => h.kept hg (fun r e => ⟨Nat.le_trans hN (hr r e).1, (hr r e).2⟩)
/-- A breath is appended and stored back. -/
theorem BreS.push {w W w1 : World} {Bl : Nat} {l : List Int} {v v' : Value} {x : Int} {tmp : Obj} (h : BreS w Bl l W) (hb : w.heap.size + 1 + 1 < Bl) (hz : Bl + 1 + 1 + 1 < W.heap.size)
    (hv : Boxed W Bl 27 v) (hrow : W.ownsRow (Bl + 1 + 1 + 1 + 1) 3 1 v l.length (brCells l))
    (hown' : w1.ownsRow (Bl + 1 + 1 + 1 + 1) 3 1 v' (l.length + 1) (brCells l ++ [.int .i64 x])) (hgrow : (W.alloc tmp).grownBy w1 v.ownBlock) :
    Boxed w1 Bl 27 v ∧ BreS w Bl (l ++ [x]) (w1.setCell ⟨Bl, 0, none⟩ v') ∧ KeepsOthers W (w1.setCell ⟨Bl, 0, none⟩ v') ∧ KeepR Bl W (w1.setCell ⟨Bl, 0, none⟩ v') := by
  have hlow : ∀ g, v.ownBlock = some g → Bl + 1 + 1 + 1 + 1 ≤ g := fun g e => (hrow.lt g e).1
  have b1 : Below (Bl + 1 + 1 + 1 + 1) (W.alloc tmp) w1 := (Below.refl _ _).grown hgrow (by simp; omega) hlow
  have b2 : Below (Bl + 1 + 1 + 1 + 1) W w1 := ((Below.refl _ W).alloc (by omega) tmp).trans b1
  have hv1 : Boxed w1 Bl 27 v := (b2.block Bl (by omega)).trans hv
  have b3 : Below Bl W (w1.setCell ⟨Bl, 0, none⟩ v') := Below.setCell (Below.mono b2 (show Bl ≤ Bl + 1 + 1 + 1 + 1 by omega)) (Nat.le_refl _) v'
  have bk : ∀ k, k ≠ Bl → (w1.setCell ⟨Bl, 0, none⟩ v').heap[k]? = w1.heap[k]? := fun k hk => Below.heap_setCell _ _ _ _ hk
  have hown2 : (w1.setCell ⟨Bl, 0, none⟩ v').ownsRow (Bl + 1 + 1 + 1 + 1) 3 1 v' (l.length + 1) (brCells l ++ [.int .i64 x]) := by
    refine hown'.kept (Go.grownBy_setCell' w1 Bl v') ?_
    cases e : v'.ownBlock with
    | none => exact .inl rfl
    | some g => exact .inr fun e' => by have := (hown'.lt g e).1; cases e'; omega
  obtain ⟨g', cap', rfl⟩ := ownsRow_succ hown'
  have hbl2 : w.heap.size ≤ Bl := by omega
  refine ⟨hv1, ⟨Below.trans h.gr (Below.mono b3 hbl2), (b3.cell (p := ⟨w.heap.size + 1, 0, none⟩) (show w.heap.size + 1 < Bl by omega)).trans h.r0, (b3.frozen (p := ⟨w.heap.size + 1, 0, none⟩) (show w.heap.size + 1 < Bl by omega)).trans h.f0, (b3.cell (p := ⟨w.heap.size + 1 + 1, 0, none⟩) hb).trans h.r1, (b3.frozen (p := ⟨w.heap.size + 1 + 1, 0, none⟩) hb).trans h.f1,
    _, hv1.set _, by rw [List.length_append, brCells_snoc]; exact hown2, by simp⟩, ?_, b3, fun b hbb o => ?_⟩
  · have k1 : KeepsOthers W w1 := by
      refine ⟨b2.size, fun k o hk ho => ?_⟩
      have hkl := (Array.getElem?_eq_some_iff.1 hk).1
      refine (hgrow.block k (by simp; omega) fun e => ?_).trans ((Below.heap_alloc _ _ _ hkl).trans hk)
      rcases hrow.2 with ⟨rfl, _⟩ | ⟨g, cap, cur, rfl, _, hgb, _⟩
      · cases e
      · cases e; rw [hk] at hgb; cases hgb; cases ho
    exact ⟨by have := b3.size; exact this, fun k o hk ho => by
      have := k1.same k o hk ho
      rw [bk k]
      · exact this
      · rintro rfl
        rw [show w1.heap[k]? = _ from hv1] at this; cases this; cases ho⟩
  · refine World.cell?_of_block ((bk b (by omega)).trans (b2.block b (by omega)))
end Go.Proofs.YtiogfohjepobkaaDoor

namespace Go.Proofs.YtiogfohjepobkaaDoor
open Go.RowKit Go.Shelf
attribute [local go_sem] Oper.semAt_some

/-- What Breaths returns. -/
def BreathP (g : Nat → Int) (m : Nat → Bool) (br : Int) (n : Nat) (w : World) (e : Ending) (w' : World) : Prop :=
  (∃ l v, BrOk g m br n l ∧ e = .returned (.tuple #[v, .int .i64 0]) ∧ w'.ownsRow w.heap.size 3 1 v l.length (brCells l) ∧ (v = .slice none 0 0 ↔ l = []) ∧ Gr w w') ∨
  (∃ pre, BrBad g m br n pre ∧ e = .returned (.tuple #[.slice none 0 0, .int .i64 22]) ∧ Gr w w')
theorem infoInt : (Tryd.prog.info? 3).map (fun i => (i.zero, i.size, i.bytes)) = some (some (.int .i64 0), 1, 8) := by kernel_rfl
/-- Where a breath does not suffice. -/
structure BreX (w W : World) : Prop where
  gr : Gr w W
  r0 : W.cell? ⟨w.heap.size + 1, 0, none⟩ = some (.slice none 0 0)
  r1 : W.cell? ⟨w.heap.size + 1 + 1, 0, none⟩ = some (.int .i64 22)
theorem BreX.kept {w W W' : World} {row : Option Nat} (h : BreX w W) (hg : W.grownBy W' row) (hr : ∀ r, row = some r → w.heap.size ≤ r ∧ ∃ o : Obj, W.heap[r]? = some o ∧ o.isCells = false) : BreX w W' := by
  have hr' : ∀ r, row = some r → ∃ o : Obj, W.heap[r]? = some o ∧ o.isCells = false := fun r e => (hr r e).2
  exact ⟨Below.grown h.gr hg h.gr.size (fun k e => (hr k e).1), cell_kept h.r0 hg hr', cell_kept h.r1 hg hr'⟩
theorem cell_one_new (w : World) (x : Value) (t : TypeId) : ∀ j u, [x][j]? = some u → (w.alloc (.cells #[x] t)).cell? ((⟨w.heap.size, 0, none⟩ : Addr).add j) = some u := by
  intro j u hj
  match j, hj with
  | 0, hj => simp at hj; subst hj; simp [Addr.add]
theorem store2_cells {W : World} {b : Nat} {x0 x1 : Value} (h0 : (W.cell? ⟨b, 0, none⟩).isSome = true) (h1 : (W.cell? ⟨b + 1, 0, none⟩).isSome = true) (y0 y1 : Value) (_ : x0 = x1) :
    ((W.setCell ⟨b, 0, none⟩ y0).setCell ⟨b + 1, 0, none⟩ y1).cell? ⟨b, 0, none⟩ = some y0 ∧ ((W.setCell ⟨b, 0, none⟩ y0).setCell ⟨b + 1, 0, none⟩ y1).cell? ⟨b + 1, 0, none⟩ = some y1 := by
  constructor <;> simp [go_sem, h0, h1]
theorem breX_store {w W : World} {Bl : Nat} {l : List Int} {v0 : Value} (h : BreS w Bl l W) (_ : v0 = v0 := rfl) : BreX w ((W.setCell ⟨w.heap.size + 1, 0, none⟩ (.slice none 0 0)).setCell ⟨w.heap.size + 1 + 1, 0, none⟩ (.int .i64 22)) := by
  obtain ⟨s0, s1⟩ := store2_cells (W := W) (b := w.heap.size + 1) (x0 := v0) (by rw [h.r0]; rfl) (by rw [h.r1]; rfl) (.slice none 0 0) (.int .i64 22) rfl
  exact ⟨(h.gr.setCell (by show _ ≤ w.heap.size + 1; omega) _).setCell (by show _ ≤ w.heap.size + 1 + 1; omega) _, s0, s1⟩
theorem keeps_setCell (W : World) (p : Addr) (u : Value) {x : Value} (hc : W.cell? p = some x) : KeepsOthers W (W.setCell p u) := by
  refine ⟨by simp, fun k o hk ho => ?_⟩
  rw [Below.heap_setCell _ _ _ _ ?_]
  · exact hk
  · rintro rfl
    obtain ⟨o', ho', hc'⟩ := cells_of_cell hc
    rw [hk] at ho'; cases ho'; rw [ho] at hc'; cases hc'
theorem breX_keeps {w W : World} {Bl : Nat} {l : List Int} (h : BreS w Bl l W) (v u : Value) (B : Nat) : KeepsFrom B W ((W.setCell ⟨w.heap.size + 1, 0, none⟩ v).setCell ⟨w.heap.size + 1 + 1, 0, none⟩ u) := by
  have h1 := keeps_setCell W ⟨w.heap.size + 1, 0, none⟩ v h.r0
  have h2 := keeps_setCell (W.setCell ⟨w.heap.size + 1, 0, none⟩ v) ⟨w.heap.size + 1 + 1, 0, none⟩ u (x := .int .i64 0) (by rw [World.cell?_setCell_other]; exact h.r1; intro e; have := congrArg Addr.block e; simp at this)
  exact (h1.from B).trans (h2.from B)
theorem breOk_def {w W : World} {Bl D : Nat} {l : List Int} (h : BreS w Bl l W) (hK : W.heap[D]? = some (.deferred (some []))) (v u : Value) : ((W.setCell ⟨w.heap.size + 1, 0, none⟩ v).setCell ⟨w.heap.size + 1 + 1, 0, none⟩ u).heap[D]? = some (.deferred (some [])) :=
  (breX_keeps h v u 0).same D _ (Nat.zero_le _) hK rfl
theorem breOk_store {w W : World} {Bl : Nat} {l : List Int} {v u : Value} (h : BreS w Bl l W) (hrow : W.ownsRow (Bl + 1 + 1 + 1 + 1) 3 1 v l.length (brCells l)) (hb : w.heap.size + 1 + 1 < Bl) (D : Nat) (hD : ((W.setCell ⟨w.heap.size + 1, 0, none⟩ v).setCell ⟨w.heap.size + 1 + 1, 0, none⟩ u).heap[D]? = some (.deferred (some []))) (hwD : w.heap.size ≤ D) :
    (((W.setCell ⟨w.heap.size + 1, 0, none⟩ v).setCell ⟨w.heap.size + 1 + 1, 0, none⟩ u).putObj D (.deferred none)).cell? ⟨w.heap.size + 1, 0, none⟩ = some v ∧
    (((W.setCell ⟨w.heap.size + 1, 0, none⟩ v).setCell ⟨w.heap.size + 1 + 1, 0, none⟩ u).putObj D (.deferred none)).cell? ⟨w.heap.size + 1 + 1, 0, none⟩ = some u ∧
    (((W.setCell ⟨w.heap.size + 1, 0, none⟩ v).setCell ⟨w.heap.size + 1 + 1, 0, none⟩ u).putObj D (.deferred none)).ownsRow w.heap.size 3 1 v l.length (brCells l) ∧
    Gr w (((W.setCell ⟨w.heap.size + 1, 0, none⟩ v).setCell ⟨w.heap.size + 1 + 1, 0, none⟩ u).putObj D (.deferred none)) := by
  obtain ⟨s0, s1⟩ := store2_cells (W := W) (b := w.heap.size + 1) (x0 := v) (by rw [h.r0]; rfl) (by rw [h.r1]; rfl) v u rfl
  have hlow : ∀ k, (v.ownBlock = none ∨ v.ownBlock ≠ some k) ∨ Bl + 1 + 1 + 1 + 1 ≤ k := fun k => by
    cases e : v.ownBlock with
    | none => exact .inl (.inl rfl)
    | some g =>
      by_cases e' : g = k
      · exact .inr (by have := (hrow.lt g e).1; omega)
      · exact .inl (.inr (by simpa using e'))
  have r1 := hrow.kept (Go.grownBy_setCell' W (w.heap.size + 1) v) ((hlow _).resolve_right (by omega))
  have r2 := r1.kept (Go.grownBy_setCell' _ (w.heap.size + 1 + 1) u) ((hlow _).resolve_right (by omega))
  have r3 := ownsRow_putObj r2 (.deferred none) hD rfl
  have g0 : Gr w ((W.setCell ⟨w.heap.size + 1, 0, none⟩ v).setCell ⟨w.heap.size + 1 + 1, 0, none⟩ u) := (h.gr.setCell (by show _ ≤ w.heap.size + 1; omega) _).setCell (by show _ ≤ w.heap.size + 1 + 1; omega) _
  have gp := Go.grownBy_putObj' ((W.setCell ⟨w.heap.size + 1, 0, none⟩ v).setCell ⟨w.heap.size + 1 + 1, 0, none⟩ u) D (.deferred none)
  refine ⟨cell_kept s0 gp fun r e => ?_, cell_kept s1 gp fun r e => ?_, ⟨r3.1, r3.2.imp id fun ⟨g, cap, cur, e1, e2, e3⟩ => ⟨g, cap, cur, e1, by omega, e3⟩⟩, Below.grown g0 gp g0.size (fun k e => by cases e; exact hwD)⟩
  all_goals (cases e; exact ⟨_, hD, rfl⟩)

theorem bre_start (l0 l1 l2 l3 l4 l5 h0 h1 h2 h3 h4 h5 st br : Int) (A M : Option Addr) (nm c cm : Nat) (w w1 : World) (hb : Gr (((w.alloc (.cells #[.int .i64 l0, .int .i64 l1, .int .i64 l2, .int .i64 l3, .int .i64 l4, .int .i64 l5, .int .i64 h0, .int .i64 h1, .int .i64 h2, .int .i64 h3, .int .i64 h4, .int .i64 h5, .int .i64 st, .int .i64 br] 25)).alloc (.cells #[.slice none 0 0] 27)).alloc (.cells #[.int .i64 0] 33)) w1) :
    w.heap.size + 1 + 1 < w1.heap.size ∧ BreS w w1.heap.size [] ((((w1.alloc (.cells #[.slice none 0 0] 27)).alloc (.cells #[.int .i64 br] 3)).alloc (.cells #[.slice A nm c] 27)).alloc (.cells #[.slice M nm cm] 28)) := by
  have hz := hb.le; obtain ⟨hc, hf⟩ := hb.cells; simp only [World.size_alloc] at hc hf hz
  have hg : Gr w w1 := (by repeat (first | exact Gr.refl _ | refine Gr.alloc ?_ _ | refine Gr.drew ?_ | refine Gr.trans ?_ (by assumption) | refine Gr.setCell ?_ (by (try simp); (try omega)) _))
  have hG0 : Gr w1 ((((w1.alloc (.cells #[.slice none 0 0] 27)).alloc (.cells #[.int .i64 br] 3)).alloc (.cells #[.slice A nm c] 27)).alloc (.cells #[.slice M nm cm] 28)) := ((((Gr.refl w1).alloc _).alloc _).alloc _).alloc _
  refine ⟨by omega, (((hg.alloc _).alloc _).alloc _).alloc _, (Below.cell (p := ⟨w.heap.size + 1, 0, none⟩) hG0 (show w.heap.size + 1 < w1.heap.size by omega)).trans ?_, (Below.frozen (p := ⟨w.heap.size + 1, 0, none⟩) hG0 (show w.heap.size + 1 < w1.heap.size by omega)).trans ?_, (Below.cell (p := ⟨w.heap.size + 1 + 1, 0, none⟩) hG0 (show w.heap.size + 1 + 1 < w1.heap.size by omega)).trans ?_, (Below.frozen (p := ⟨w.heap.size + 1 + 1, 0, none⟩) hG0 (show w.heap.size + 1 + 1 < w1.heap.size by omega)).trans ?_, .slice none 0 0, (((Boxed.new w1 27 (.slice none 0 0)).alloc _).alloc _).alloc _, World.ownsRow_nil _ _ _ _, by simp⟩
  all_goals simp [go_sem, *]

set_option maxRecDepth 100000 in
set_option maxHeartbeats 4000000 in
theorem breaths_ok (l0 l1 l2 l3 l4 l5 h0 h1 h2 h3 h4 h5 st br : Int) (A M : Option Addr) (n c nm cm : Nat) (g : Nat → Int) (m : Nat → Bool) (w : World) (hP : Primes w) (hA : IntsAt w A n g) (hM : BoolsAt w M n m) (hok : voiceOk ⟨l0, l1, l2, l3, l4, l5⟩ ⟨h0, h1, h2, h3, h4, h5⟩ st br = true) (he : nm = n) (hn : n ≤ 200) (hl : lenOk g n = true) :
    Calls Tryd.prog 17 #[.agg #[.int .i64 l0, .int .i64 l1, .int .i64 l2, .int .i64 l3, .int .i64 l4, .int .i64 l5, .int .i64 h0, .int .i64 h1, .int .i64 h2, .int .i64 h3, .int .i64 h4, .int .i64 h5, .int .i64 st, .int .i64 br], .slice A n c, .slice M nm cm] w (BreathP g m br n w) := by
  subst he
  have HP := Lib.hid hP
  have hok0 := hok
  have hW := fun W (h : Primes W) => voiceValid_any l0 l1 l2 l3 l4 l5 h0 h1 h2 h3 h4 h5 st br W h
  simp only [hok] at hW
  have HW := Lib.hid hW
  clear hW hok hP
  have HA := Lib.hid hA; have HM := Lib.hid hM; have HLK := Lib.hid hl
  have hC := fun W h => anyWrong A nm c g W h hn
  rw [hl] at hC
  have HC := Lib.hid hC
  have hbr := (voiceOk_parts hok0).2.2.2.2.2
  obtain ⟨hbr0, hbr1⟩ := hbr
  clear hA hM hC hl hok0
  obtain ⟨i0, hinfo, hz0, hz1, hz2⟩ := info_parts infoInt
  have hneb : ((nm : Int) == (nm : Int)) = true := by simp
  have hnec : ((nm : Int) != (nm : Int)) = false := by simp
  refine (callsIn_wide (n := 6)).1 ?_
  refine callsIn_of_wp_marks Tryd.func17 rfl trivial ?_ rfl
  simp only [Tryd.ntmps17, List.size_toArray, List.length_cons, List.length_nil, Nat.reduceAdd, Nat.reduceSub, Array.replicate_succ, Array.replicate_zero, List.push_toArray, List.append_toArray, List.nil_append, List.cons_append]
  gi_wp2_with fail
  refine ⟨trivial, callsIn_wide.2 ((HW.out _ (HP.out.keep (by repeat (first | with_reducible exact Gr.refl _ | with_reducible refine Gr.alloc ?_ _ | with_reducible refine Gr.drew ?_ | with_reducible refine Gr.trans ?_ (by assumption) | with_reducible refine Gr.setCell ?_ (by (try simp); (try omega)) _)))).mono ?_)⟩
  rintro e w1 ⟨rfl, hb⟩
  have hz := hb.le; obtain ⟨hc, hf⟩ := hb.cells; (try simp only [World.size_alloc] at hc hf hz)
  have HG := Lib.hid (show Gr w w1 from (by repeat (first | with_reducible exact Gr.refl _ | with_reducible refine Gr.alloc ?_ _ | with_reducible refine Gr.drew ?_ | with_reducible refine Gr.trans ?_ (by assumption) | with_reducible refine Gr.setCell ?_ (by (try simp); (try omega)) _)))
  gi_wp2_with fail
  refine ⟨trivial, callsIn_wide.2 ((HC.out _ (HA.out.keep HG.out)).mono ?_)⟩
  rintro e w2 ⟨rfl, rfl⟩
  have hS := bre_start l0 l1 l2 l3 l4 l5 h0 h1 h2 h3 h4 h5 st br A M nm c cm w w1 hb
  gi_wp2_with (refine ⟨trivial, ?_⟩; gi_at_call 38; refine (runs_in br A M nm c nm cm _ _).mono ?_; rintro e w' ⟨rfl, rfl⟩)
  clear hb hc hf hz
  have hW0z : ((((w1.alloc (.cells #[.slice none 0 0] 27)).alloc (.cells #[.int .i64 br] 3)).alloc (.cells #[.slice A nm c] 27)).alloc (.cells #[.slice M nm cm] 28)).heap.size = w1.heap.size + 1 + 1 + 1 + 1 := by simp
  have hG1 := HG.out
  have hG0 : Gr w1 ((((w1.alloc (.cells #[.slice none 0 0] 27)).alloc (.cells #[.int .i64 br] 3)).alloc (.cells #[.slice A nm c] 27)).alloc (.cells #[.slice M nm cm] 28)) := (by repeat (first | exact Gr.refl _ | refine Gr.alloc ?_ _ | refine Gr.drew ?_ | refine Gr.trans ?_ (by assumption) | refine Gr.setCell ?_ (by (try simp); (try omega)) _))
  have hB1 : ((((w1.alloc (.cells #[.slice none 0 0] 27)).alloc (.cells #[.int .i64 br] 3)).alloc (.cells #[.slice A nm c] 27)).alloc (.cells #[.slice M nm cm] 28)).cell? ⟨w1.heap.size + 1, 0, none⟩ = some (.int .i64 br) := by simp [go_sem]
  have hB2 : ((((w1.alloc (.cells #[.slice none 0 0] 27)).alloc (.cells #[.int .i64 br] 3)).alloc (.cells #[.slice A nm c] 27)).alloc (.cells #[.slice M nm cm] 28)).cell? ⟨w1.heap.size + 1 + 1, 0, none⟩ = some (.slice A nm c) := by simp [go_sem]
  have hB3 : ((((w1.alloc (.cells #[.slice none 0 0] 27)).alloc (.cells #[.int .i64 br] 3)).alloc (.cells #[.slice A nm c] 27)).alloc (.cells #[.slice M nm cm] 28)).cell? ⟨w1.heap.size + 1 + 1 + 1, 0, none⟩ = some (.slice M nm cm) := by simp [go_sem]
  generalize (((w1.alloc (.cells #[.slice none 0 0] 27)).alloc (.cells #[.int .i64 br] 3)).alloc (.cells #[.slice A nm c] 27)).alloc (.cells #[.slice M nm cm] 28) = W0 at *
  generalize w1.heap.size = Bl at *
  obtain ⟨hbl, hS0⟩ := hS
  have HS0 := Lib.hid hS0
  clear hS0
  have hBl3 : Bl + 1 + 1 + 1 < W0.heap.size := by omega
  refine wpIn_rangeFunc_ownH rfl (by omega) (gf := 59) (lb := #[.pointer (some ⟨Bl + 1 + 1, 0, none⟩), .pointer (some ⟨Bl + 1, 0, none⟩), .pointer (some ⟨Bl + 1 + 1 + 1, 0, none⟩)]) rfl trivial (enters_of Tryd.func59 (by kernel_rfl) rfl)
    (runs_stops br A M nm c cm g m hbr0 hbr1 hn HLK.out (6 - 1) (by omega) Bl w W0 (by omega) HS0.out.gr hBl3 HA.out HM.out hB1 hB2 hB3) (fun h k => keepR_t h k) (fun W l o o' h1 h2 h3 h4 => keepR_b hBl3 W l o o' h1 h2 h3 h4) (Below.refl _ _) (fun _ => rfl)
    (fun pre W => BreS w Bl pre W ∧ ∀ y ∈ pre, 0 ≤ y)
    (fun cc xs W => (cc = .ret ∧ ∃ pre x, xs = pre ++ [x] ∧ x < 0) ∧ BreX w W)
    (OwnFrom.and (breS_own w Bl _ (by omega)) (fun _ _ _ _ h _ _ => h))
    (fun cc => fun _ _ _ _ h hg hr => ⟨h.1, h.2.kept hg (fun r e => ⟨by have := (hr r e).1; omega, (hr r e).2⟩)⟩)
    ⟨HS0.out, fun _ h => by cases h⟩
    (fun x a' W => a' = { tmps := #[.agg #[.int .i64 l0, .int .i64 l1, .int .i64 l2, .int .i64 l3, .int .i64 l4, .int .i64 l5, .int .i64 h0, .int .i64 h1, .int .i64 h2, .int .i64 h3, .int .i64 h4, .int .i64 h5, .int .i64 st, .int .i64 br], .slice A nm c, .slice M nm cm, .pointer (some ⟨w.heap.size, 0, none⟩), undef, undef, .pointer (some ⟨w.heap.size + 1, 0, none⟩), .pointer (some ⟨w.heap.size + 1 + 1, 0, none⟩), .func (.func 36) #[] #[], .pointer (some ⟨Bl, 0, none⟩), .int .i64 x, .bool (decide (0 ≤ x)), .agg #[.int .i64 l0, .int .i64 l1, .int .i64 l2, .int .i64 l3, .int .i64 l4, .int .i64 l5, .int .i64 h0, .int .i64 h1, .int .i64 h2, .int .i64 h3, .int .i64 h4, .int .i64 h5, .int .i64 st, .int .i64 br], .bool true, .bool false, .bool false, .slice A nm c, .int .i64 (nm : Int), .slice M nm cm, .int .i64 (nm : Int), .bool false, .bool false, .bool false, .slice A nm c, .int .i64 (nm : Int), .bool (decide (200 < (nm : Int))), .bool (decide (200 < (nm : Int))), .bool (decide (200 < (nm : Int))), .slice A nm c, .func (.func 36) #[] #[], .bool false, .bool (decide (200 < (nm : Int))), .pointer (some ⟨w.heap.size, 13, none⟩), .int .i64 br, .slice A nm c, .slice M nm cm, .func (.func 59) #[] #[.pointer (some ⟨Bl + 1 + 1, 0, none⟩), .pointer (some ⟨Bl + 1, 0, none⟩), .pointer (some ⟨Bl + 1 + 1 + 1, 0, none⟩)], .int .i64 x, .bool (decide (0 ≤ x)), undef, undef, undef, undef, undef, undef, undef], defers := [] })
    (fun x a' _ X Y row hs hg hr => hs)
    ?assign ?body ?done ?stop
  case assign =>
    rintro l pre x W K ⟨hS, hall⟩ hK
    have HS := Lib.hid hS
    clear hS
    unfold encR
    gi_wp2
    exact hK _ _ (KeepsFrom.refl _ _) (keepR_refl _ _) ⟨HS.out, hall⟩ rfl
  case body =>
    rintro l pre x a' W hl ⟨r, hr⟩ ⟨hS, hall⟩ rfl hlt'
    have HALL := Lib.hid hall
    clear hall
    have HS := Lib.hid hS
    have r0 := hS.r0; have f0 := hS.f0; have r1 := hS.r1; have f1 := hS.f1
    have hWg := hS.gr
    have hll : Bl + 1 + 1 + 1 < W.heap.size := by have := (Array.getElem?_eq_some_iff.1 hr).1; omega
    obtain ⟨v, hv, hrow, hnil⟩ := hS.list
    have hc := hv.cell
    have HV := Lib.hid hv; have HROW := Lib.hid hrow
    have hlen : pre.length ≤ 200 := by omega
    clear hS hWg hnil hrow hv
    by_cases hx : 0 ≤ x
    · have hdx : decide (0 ≤ x) = true := decide_eq_true hx
      simp only [hdx]
      gi_wp2_with (gi_at_builtin; refine wpListIn_append_own _ rfl _ _ 27 rfl (Bl + 1 + 1 + 1 + 1) 3 i0 (.int .i64 0) 1 8 Tryd.underlying27 hinfo hz0 hz1 hz2 rfl (by decide) _ _ _ rfl (HROW.out.alloc _) ⟨W.heap.size, 0, none⟩ 1 1 [.int .i64 x] rfl rfl (cell_one_new _ _ _) (by simp [Value.oneCell']) (by simp only [maxLen]; omega) (by omega) (by simp; omega) ?_; intro v' w3 hown' hgrow _; obtain ⟨hv1, hS2, hk2, hb2⟩ := HS.out.push (x := x) hbl hll HV.out HROW.out hown' hgrow; have hc1 := hv1.cell; have hf1 := hv1.frozen; have HO := Lib.hid hS2; have HK2 := Lib.hid hk2; have HB2 := Lib.hid hb2; obtain ⟨g', cap', rfl⟩ := ownsRow_succ hown'; clear hv1 hS2 hk2 hb2 hown' hgrow)
      exact ⟨HK2.out.from _, HB2.out, HO.out, fun y hy => by rcases List.mem_append.1 hy with h | h; exact HALL.out y h; rw [List.mem_singleton.1 h]; exact hx⟩
    · have hdx : decide (0 ≤ x) = false := decide_eq_false hx
      simp only [hdx]
      have HX := Lib.hid (breX_store HS.out (v0 := .slice none 0 0))
      have HKF := Lib.hid (breX_keeps HS.out (.slice none 0 0) (.int .i64 22) W0.heap.size)
      have HXN := Lib.hid (show x < 0 by omega)
      clear hx
      gi_wp2
      exact ⟨HKF.out, ⟨rfl, pre, x, rfl, HXN.out⟩, HX.out⟩
  case done =>
    rintro D xs W hD hend ⟨hS, hall⟩ hK
    rcases hend with hok | ⟨pre, rfl, hbad⟩
    · have r0 := hS.r0; have f0 := hS.f0; have r1 := hS.r1; have f1 := hS.f1
      obtain ⟨v, hv, hrow, hnil⟩ := hS.list
      obtain ⟨A', n', c', rfl⟩ : ∃ A' n' c', v = .slice A' n' c' := by
        rcases hrow.2 with ⟨rfl, _⟩ | ⟨g, cap, cur, rfl, _⟩
        · exact ⟨_, _, _, rfl⟩
        · exact ⟨_, _, _, rfl⟩
      have hc := hv.cell
      have hWs := hS.gr.size
      have HS := Lib.hid hS; have HDD := Lib.hid hD; have HNIL := Lib.hid hnil; have HK := Lib.hid hK; have HROW := Lib.hid hrow; have HOK := Lib.hid hok
      have HST := Lib.hid (breOk_store HS.out HROW.out (by omega) (u := .int .i64 0))
      clear hS hD hnil hK hv hrow hok hall
      gi_wp2
      refine ⟨by simp, .inl ⟨_, _, rfl, run_takeDeferred (breOk_def HS.out HK.out _ (.int .i64 0)), ?_⟩⟩
      obtain ⟨s0, s1, s2, s3⟩ := HST.out D (breOk_def HS.out HK.out _ (.int .i64 0)) (by have := HDD.out; omega)
      exact ⟨_, by simp [results, Tryd.f17, go_sem, s0, s1], .inl ⟨xs, _, HOK.out, rfl, s2, HNIL.out, s3⟩⟩
    · have := hall (-1) (by simp)
      omega
  case stop =>
    rintro D cc xs W hD ⟨pre2, x2, he2, hbad⟩ ⟨⟨rfl, pre, x, rfl, hx⟩, hX⟩ hK
    obtain ⟨rfl, rfl⟩ : pre = pre2 ∧ x = x2 := by
      have := List.append_inj' he2 rfl
      exact ⟨this.1, by simpa using this.2⟩
    have hX2 := hX.kept (Go.grownBy_putObj' W D (.deferred none)) (fun r e => by cases e; exact ⟨by omega, _, hK, rfl⟩)
    have HX2 := Lib.hid hX2
    have HK := Lib.hid hK; have HBAD := Lib.hid (hbad hx)
    clear hX hX2 hK hbad hx hD
    gi_wp2
    refine ⟨by simp, .inl ⟨_, _, rfl, run_takeDeferred HK.out, ?_⟩⟩
    have s0 := HX2.out.r0; have s1 := HX2.out.r1
    exact ⟨_, by simp [results, Tryd.f17, go_sem, s0, s1], .inr ⟨pre, HBAD.out, rfl, HX2.out.gr⟩⟩
end Go.Proofs.YtiogfohjepobkaaDoor
