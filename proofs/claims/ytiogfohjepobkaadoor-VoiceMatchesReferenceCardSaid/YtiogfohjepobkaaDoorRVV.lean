/-
  schismaref03.Of: an interval as a pitch.
  schismaref14.Valid, Has, Finds at every input: they answer as package voice does.
-/
import Derived.Test.YtiogfohjepobkaaDoorR3
import Derived.Test.YtiogfohjepobkaaDoorPOf
import Derived.Test.YtiogfohjepobkaaDoorRN
import Derived.Test.YtiogfohjepobkaaDoorV1
namespace Go.Proofs.YtiogfohjepobkaaDoor
open Go.RowKit

set_option maxRecDepth 100000 in
set_option maxHeartbeats 1000000 in
theorem r3of_bad (a0 a1 a2 a3 a4 a5 : Int) (w : World) (hva : allIn ⟨a0, a1, a2, a3, a4, a5⟩ 48 6 = false) :
    Calls Tryd.prog 24 #[.agg #[.int .i64 a0, .int .i64 a1, .int .i64 a2, .int .i64 a3, .int .i64 a4, .int .i64 a5]] w fun e w' => e = .returned (.tuple #[.agg #[.int .i64 0, .int .i64 0, .int .i64 0, .int .i64 0, .int .i64 0, .int .i64 0], .int .i64 1]) ∧ Gr w w' := by
  go_enter Tryd.func24, Tryd.ntmps24
  go_wp2_with (go_at_call 26; with_reducible refine (r3interval_any _ _ _ _ _ _ _).mono ?_; rintro e w' ⟨rfl, hb⟩; have hz := hb.le; obtain ⟨hc, hf⟩ := hb.cells; (try simp only [World.size_alloc] at hc hf hz); (try simp only [World.size_setCell] at hc hf hz); (try simp only [World.size_drew] at hc hf hz))
  refine bodyPost_six ?h6 ?k6
  case h6 =>
    intro j hj
    obtain rfl | rfl | rfl | rfl | rfl | rfl : j = 0 ∨ j = 1 ∨ j = 2 ∨ j = 3 ∨ j = 4 ∨ j = 5 := by omega
    all_goals simp [go_sem, *]
  intro W' hW' s0 s1 s2 s3 s4 s5
  exact bodyPost_ret (v := .tuple #[.agg #[.int .i64 0, .int .i64 0, .int .i64 0, .int .i64 0, .int .i64 0, .int .i64 0], .int .i64 1]) (by simp [results, Tryd.results24, go_sem, s0, s1, s2, s3, s4, s5]) rfl ⟨rfl, hW' _ (by repeat (first | exact Gr.refl _ | refine Gr.alloc ?_ _ | refine Gr.drew ?_ | refine Gr.trans ?_ (by assumption) | refine Gr.setCell ?_ (by (try simp); (try omega)) _)) (by (try simp); (try omega))⟩
set_option maxRecDepth 100000 in
set_option maxHeartbeats 4000000 in
theorem r3of_ok (a0 a1 a2 a3 a4 a5 : Int) (w : World) (hva : allIn ⟨a0, a1, a2, a3, a4, a5⟩ 48 6 = true) :
    Calls Tryd.prog 24 #[.agg #[.int .i64 a0, .int .i64 a1, .int .i64 a2, .int .i64 a3, .int .i64 a4, .int .i64 a5]] w fun e w' => e = .returned (.tuple #[.agg #[.int .i64 (a0 * 12), .int .i64 (a1 * 12), .int .i64 (a2 * 12), .int .i64 (a3 * 12), .int .i64 (a4 * 12), .int .i64 (a5 * 12)], .int .i64 0]) ∧ Gr w w' := by
  go_enter Tryd.func24, Tryd.ntmps24
  go_wp2_with (go_at_call 26; with_reducible refine (r3interval_any _ _ _ _ _ _ _).mono ?_; rintro e w' ⟨rfl, hb⟩; have hz := hb.le; obtain ⟨hc, hf⟩ := hb.cells; (try simp only [World.size_alloc] at hc hf hz); (try simp only [World.size_setCell] at hc hf hz); (try simp only [World.size_drew] at hc hf hz))
  have HA := Lib.hid hva; clear hva
  have hg : Gr w w' := (by repeat (first | exact Gr.refl _ | refine Gr.alloc ?_ _ | refine Gr.drew ?_ | refine Gr.trans ?_ (by assumption) | refine Gr.setCell ?_ (by (try simp); (try omega)) _))
  have hv : ∀ j, j < 6 → w'.cell? ⟨w.heap.size, j, none⟩ = some (.int .i64 (V6.get ⟨a0, a1, a2, a3, a4, a5⟩ j)) := by
    intro j hj
    obtain rfl | rfl | rfl | rfl | rfl | rfl : j = 0 ∨ j = 1 ∨ j = 2 ∨ j = 3 ∨ j = 4 ∨ j = 5 := by omega
    all_goals simp [go_sem, V6.get, *]
  have hx0 : ∀ j, j < 6 → w'.cell? ⟨w.heap.size + 1 + 1, j, none⟩ = some (.int .i64 0) := by
    intro j hj
    obtain rfl | rfl | rfl | rfl | rfl | rfl : j = 0 ∨ j = 1 ∨ j = 2 ∨ j = 3 ∨ j = 4 ∨ j = 5 := by omega
    all_goals simp [go_sem, *]
  have hfr : ∀ j, w'.frozen? ⟨w.heap.size + 1 + 1, j, none⟩ = false := by
    intro j
    simp [go_sem, *]
  have hr : ∀ j, j < 6 → w'.cell? ⟨w.heap.size + 1, j, none⟩ = some (.int .i64 0) := by
    intro j hj
    obtain rfl | rfl | rfl | rfl | rfl | rfl : j = 0 ∨ j = 1 ∨ j = 2 ∨ j = 3 ∨ j = 4 ∨ j = 5 := by omega
    all_goals simp [go_sem, *]
  have hs : ∀ j, w'.frozen? ⟨w.heap.size + 1, j, none⟩ = false := by
    intro j
    simp [go_sem, *]
  have hz3 : w.heap.size + 1 + 1 + 1 ≤ w'.heap.size := by omega
  have HH := Lib.hid (And.intro hr hs)
  have HV := Lib.hid hv
  have GA := allIn_at HA.out
  clear HA hc hf hz hr hs hv
  have HG := Lib.hid hg
  clear hg
  go_wp2_with fail
  go_loopw [6] (fun i wr => ∃ k : Nat, k ≤ 6 ∧ i = .int .i64 k ∧ ArrRel 6 (newTo (fun j => V6.get ⟨a0, a1, a2, a3, a4, a5⟩ j * 12) (fun _ => 0) k) (w.heap.size + 1 + 1) (w.heap.size + 1 + 1 + 1) w' wr) (fun i _ => 6 - (intOf i).toNat)
  case atStart => exact ⟨0, by omega, rfl, ⟨But.refl _ _ _, hz3, by omega, fun j hj => hx0 j hj, hfr⟩⟩
  case round =>
    obtain ⟨k, hk, rfl, hR⟩ := hrel
    have hsz := hR.size
    by_cases hlt : k < 6
    · have hx := hR.cell k hlt
      have fx := hR.froz k
      have bx := GA k hlt
      have vx := (hR.but.cell (p := ⟨w.heap.size, k, none⟩) (show w.heap.size < w.heap.size + 1 + 1 + 1 by omega) (show w.heap.size ≠ w.heap.size + 1 + 1 by omega)).trans (HV.out k hlt)
      rw [newTo, if_neg (by omega)] at hx
      have HST := Lib.hid (hR.store hlt (V6.get ⟨a0, a1, a2, a3, a4, a5⟩ k * 12))
      clear hR hx0 GA hfr
      generalize hgx : V6.get ⟨a0, a1, a2, a3, a4, a5⟩ k = x at vx bx HST
      have HX := Lib.hid hgx
      clear hgx
      have hw : IntKind.i64.wrap (x * 12) = x * 12 := IntWalk.i64_in _ ⟨by omega, by omega⟩
      go_wp2_with fail
      go_roundw
      case rel =>
        refine ⟨k + 1, by omega, by go_num, (ArrRel.congr HST.out fun j hj => ?_)⟩
        have := newTo_step (fun j => V6.get ⟨a0, a1, a2, a3, a4, a5⟩ j * 12) (fun _ => 0) k j
        rw [this, HX.out]
      case measure => simp [intOf]; omega
    · obtain rfl : k = 6 := by omega
      have c0 := hR.cell 0 (by omega); have c1 := hR.cell 1 (by omega); have c2 := hR.cell 2 (by omega); have c3 := hR.cell 3 (by omega); have c4 := hR.cell 4 (by omega); have c5 := hR.cell 5 (by omega)
      simp only [newTo, V6.get] at c0 c1 c2 c3 c4 c5
      have hgr : Gr w wr := HG.out.but hR.but (by omega) (by omega)
      have r : ∀ j, j < 6 → wr.cell? ⟨w.heap.size + 1, j, none⟩ = some (.int .i64 0) := fun j hj => (hR.but.cell (p := ⟨w.heap.size + 1, j, none⟩) (show w.heap.size + 1 < w.heap.size + 1 + 1 + 1 by omega) (show w.heap.size + 1 ≠ w.heap.size + 1 + 1 by omega)).trans (HH.out.1 j hj)
      have rf : ∀ j, wr.frozen? ⟨w.heap.size + 1, j, none⟩ = false := fun j => (hR.but.frozen (p := ⟨w.heap.size + 1, j, none⟩) (show w.heap.size + 1 < w.heap.size + 1 + 1 + 1 by omega) (show w.heap.size + 1 ≠ w.heap.size + 1 + 1 by omega)).trans (HH.out.2 j)
      have r0 := r 0 (by omega); have r1 := r 1 (by omega); have r2 := r 2 (by omega); have r3 := r 3 (by omega); have r4 := r 4 (by omega); have r5 := r 5 (by omega)
      have RR := Lib.hid (fun j hj => by rw [r j hj]; rfl : ∀ j, j < 6 → (wr.cell? ⟨w.heap.size + 1, j, none⟩).isSome = true)
      clear hR hx0 GA hfr r
      go_wp2_with fail
      refine bodyPost_six RR.out ?_
      intro W' hW' s0 s1 s2 s3 s4 s5
      exact bodyPost_ret (v := .tuple #[.agg #[.int .i64 (a0 * 12), .int .i64 (a1 * 12), .int .i64 (a2 * 12), .int .i64 (a3 * 12), .int .i64 (a4 * 12), .int .i64 (a5 * 12)], .int .i64 0]) (by simp [results, Tryd.results24, go_sem, s0, s1, s2, s3, s4, s5]) rfl ⟨rfl, hW' _ hgr (by omega)⟩
end Go.Proofs.YtiogfohjepobkaaDoor

namespace Go.Proofs.YtiogfohjepobkaaDoor
open Go.RowKit

set_option maxRecDepth 100000 in
set_option maxHeartbeats 16000000 in
theorem rvalid_any (l0 l1 l2 l3 l4 l5 h0 h1 h2 h3 h4 h5 st br : Int) (w : World) :
    Calls Tryd.prog 12 #[.agg #[.int .i64 l0, .int .i64 l1, .int .i64 l2, .int .i64 l3, .int .i64 l4, .int .i64 l5, .int .i64 h0, .int .i64 h1, .int .i64 h2, .int .i64 h3, .int .i64 h4, .int .i64 h5, .int .i64 st, .int .i64 br]] w fun e w' => e = .returned (.bool (voiceOk ⟨l0, l1, l2, l3, l4, l5⟩ ⟨h0, h1, h2, h3, h4, h5⟩ st br)) ∧ Gr w w' := by
  rcases tf (allIn ⟨l0, l1, l2, l3, l4, l5⟩ 576 6) with q1 | q1
  · rcases tf (allIn ⟨h0, h1, h2, h3, h4, h5⟩ 576 6) with q2 | q2
    · have hC := fun W => r3cmp_ok l0 l1 l2 l3 l4 l5 h0 h1 h2 h3 h4 h5 W q1 q2
      have e : voiceOk ⟨l0, l1, l2, l3, l4, l5⟩ ⟨h0, h1, h2, h3, h4, h5⟩ st br = decide (cmpP (V6.sub ⟨l0, l1, l2, l3, l4, l5⟩ ⟨h0, h1, h2, h3, h4, h5⟩) ≤ 0 ∧ 0 ≤ st ∧ st ≤ 2400000 ∧ 0 < br ∧ br ≤ 100000) := by simp [voiceOk, q1, q2]
      rw [e]
      have HC := Lib.hid hC
      clear hC q1 q2 e
      generalize cmpP (V6.sub ⟨l0, l1, l2, l3, l4, l5⟩ ⟨h0, h1, h2, h3, h4, h5⟩) = C at *
      by_cases hall : C ≤ 0 ∧ 0 ≤ st ∧ st ≤ 2400000 ∧ 0 < br ∧ br ≤ 100000
      · rw [show decide (C ≤ 0 ∧ 0 ≤ st ∧ st ≤ 2400000 ∧ 0 < br ∧ br ≤ 100000) = true from decide_eq_true hall]
        obtain ⟨c1, c2, c3, c4, c5⟩ := hall
        go_enter Tryd.func12, Tryd.ntmps12
        go_wp2_with (go_at_call 25; with_reducible refine (HC.out _).mono ?_; rintro e w' ⟨rfl, hb⟩; have hz := hb.le; obtain ⟨hc, hf⟩ := hb.cells; (try simp only [World.size_alloc] at hc hf hz); (try simp only [World.size_setCell] at hc hf hz); (try simp only [World.size_drew] at hc hf hz))
        go_ret
        exact ⟨rfl, (by repeat (first | with_reducible exact Gr.refl _ | with_reducible refine Gr.alloc ?_ _ | with_reducible refine Gr.drew ?_ | with_reducible refine Gr.trans ?_ (by assumption) | with_reducible refine Gr.setCell ?_ (by (try simp); (try omega)) _))⟩
      · rw [show decide (C ≤ 0 ∧ 0 ≤ st ∧ st ≤ 2400000 ∧ 0 < br ∧ br ≤ 100000) = false from decide_eq_false hall]
        rcases (by omega : 0 < C ∨ (C ≤ 0 ∧ st < 0) ∨ (C ≤ 0 ∧ 0 ≤ st ∧ 2400000 < st) ∨ (C ≤ 0 ∧ 0 ≤ st ∧ st ≤ 2400000 ∧ br ≤ 0) ∨ (C ≤ 0 ∧ 0 ≤ st ∧ st ≤ 2400000 ∧ 0 < br ∧ 100000 < br)) with c1 | ⟨c1, c2⟩ | ⟨c1, c2, c3⟩ | ⟨c1, c2, c3, c4⟩ | ⟨c1, c2, c3, c4, c5⟩
        all_goals
          clear hall
          go_enter Tryd.func12, Tryd.ntmps12
          go_wp2_with (go_at_call 25; with_reducible refine (HC.out _).mono ?_; rintro e w' ⟨rfl, hb⟩; have hz := hb.le; obtain ⟨hc, hf⟩ := hb.cells; (try simp only [World.size_alloc] at hc hf hz); (try simp only [World.size_setCell] at hc hf hz); (try simp only [World.size_drew] at hc hf hz))
          go_ret
          exact ⟨ret_bool (by first | rfl | (simp; omega) | (rw [decide_eq_false_iff_not]; omega)), (by repeat (first | with_reducible exact Gr.refl _ | with_reducible refine Gr.alloc ?_ _ | with_reducible refine Gr.drew ?_ | with_reducible refine Gr.trans ?_ (by assumption) | with_reducible refine Gr.setCell ?_ (by (try simp); (try omega)) _))⟩
    · have HC := Lib.hid (fun W => r3cmp_bad l0 l1 l2 l3 l4 l5 h0 h1 h2 h3 h4 h5 W (Or.inr ⟨q1, q2⟩))
      have e : voiceOk ⟨l0, l1, l2, l3, l4, l5⟩ ⟨h0, h1, h2, h3, h4, h5⟩ st br = false := by simp [voiceOk, q2]
      rw [e]
      clear q1 q2 e
      go_enter Tryd.func12, Tryd.ntmps12
      go_wp2_with (go_at_call 25; with_reducible refine (HC.out _).mono ?_; rintro e w' ⟨rfl, hb⟩; have hz := hb.le; obtain ⟨hc, hf⟩ := hb.cells; (try simp only [World.size_alloc] at hc hf hz); (try simp only [World.size_setCell] at hc hf hz); (try simp only [World.size_drew] at hc hf hz))
      go_ret
      exact ⟨rfl, (by repeat (first | with_reducible exact Gr.refl _ | with_reducible refine Gr.alloc ?_ _ | with_reducible refine Gr.drew ?_ | with_reducible refine Gr.trans ?_ (by assumption) | with_reducible refine Gr.setCell ?_ (by (try simp); (try omega)) _))⟩
  · have HC := Lib.hid (fun W => r3cmp_bad l0 l1 l2 l3 l4 l5 h0 h1 h2 h3 h4 h5 W (Or.inl q1))
    have e : voiceOk ⟨l0, l1, l2, l3, l4, l5⟩ ⟨h0, h1, h2, h3, h4, h5⟩ st br = false := by simp [voiceOk, q1]
    rw [e]
    clear q1 e
    go_enter Tryd.func12, Tryd.ntmps12
    go_wp2_with (go_at_call 25; with_reducible refine (HC.out _).mono ?_; rintro e w' ⟨rfl, hb⟩; have hz := hb.le; obtain ⟨hc, hf⟩ := hb.cells; (try simp only [World.size_alloc] at hc hf hz); (try simp only [World.size_setCell] at hc hf hz); (try simp only [World.size_drew] at hc hf hz))
    go_ret
    exact ⟨rfl, (by repeat (first | with_reducible exact Gr.refl _ | with_reducible refine Gr.alloc ?_ _ | with_reducible refine Gr.drew ?_ | with_reducible refine Gr.trans ?_ (by assumption) | with_reducible refine Gr.setCell ?_ (by (try simp); (try omega)) _))⟩

set_option maxRecDepth 100000 in
set_option maxHeartbeats 16000000 in
theorem rhas_any (l0 l1 l2 l3 l4 l5 h0 h1 h2 h3 h4 h5 st br x0 x1 x2 x3 x4 x5 : Int) (w : World) :
    Calls Tryd.prog 14 #[.agg #[.int .i64 l0, .int .i64 l1, .int .i64 l2, .int .i64 l3, .int .i64 l4, .int .i64 l5, .int .i64 h0, .int .i64 h1, .int .i64 h2, .int .i64 h3, .int .i64 h4, .int .i64 h5, .int .i64 st, .int .i64 br], .agg #[.int .i64 x0, .int .i64 x1, .int .i64 x2, .int .i64 x3, .int .i64 x4, .int .i64 x5]] w fun e w' => e = .returned (.tuple #[.bool (voiceOk ⟨l0, l1, l2, l3, l4, l5⟩ ⟨h0, h1, h2, h3, h4, h5⟩ st br && (allIn ⟨x0, x1, x2, x3, x4, x5⟩ 48 6 && hasB ⟨l0, l1, l2, l3, l4, l5⟩ ⟨h0, h1, h2, h3, h4, h5⟩ ⟨x0, x1, x2, x3, x4, x5⟩)), .int .i64 (cond (voiceOk ⟨l0, l1, l2, l3, l4, l5⟩ ⟨h0, h1, h2, h3, h4, h5⟩ st br && allIn ⟨x0, x1, x2, x3, x4, x5⟩ 48 6) 0 1)]) ∧ Gr w w' := by
  have hW := fun W => rvalid_any l0 l1 l2 l3 l4 l5 h0 h1 h2 h3 h4 h5 st br W
  rcases tf (allIn ⟨x0, x1, x2, x3, x4, x5⟩ 48 6) with q2 | q2
  · have HI := Lib.hid (fun W => r3of_ok x0 x1 x2 x3 x4 x5 W q2)
    rcases tf (voiceOk ⟨l0, l1, l2, l3, l4, l5⟩ ⟨h0, h1, h2, h3, h4, h5⟩ st br) with q1 | q1
    · obtain ⟨p1, p2, -⟩ := voiceOk_parts q1
      have ax := atV_in q2
      simp only [atV] at ax
      have hA := fun W => r3cmp_ok l0 l1 l2 l3 l4 l5 (x0 * 12) (x1 * 12) (x2 * 12) (x3 * 12) (x4 * 12) (x5 * 12) W p1 ax
      have hB := fun W => r3cmp_ok (x0 * 12) (x1 * 12) (x2 * 12) (x3 * 12) (x4 * 12) (x5 * 12) h0 h1 h2 h3 h4 h5 W ax p2
      simp only [q1, q2, Bool.true_and, Bool.and_self, cond_true] at hW ⊢
      have e : hasB ⟨l0, l1, l2, l3, l4, l5⟩ ⟨h0, h1, h2, h3, h4, h5⟩ ⟨x0, x1, x2, x3, x4, x5⟩ = (decide (cmpP (V6.sub ⟨l0, l1, l2, l3, l4, l5⟩ ⟨x0 * 12, x1 * 12, x2 * 12, x3 * 12, x4 * 12, x5 * 12⟩) ≤ 0) && decide (cmpP (V6.sub ⟨x0 * 12, x1 * 12, x2 * 12, x3 * 12, x4 * 12, x5 * 12⟩ ⟨h0, h1, h2, h3, h4, h5⟩) ≤ 0)) := rfl
      rw [e]
      generalize cmpP (V6.sub ⟨l0, l1, l2, l3, l4, l5⟩ ⟨x0 * 12, x1 * 12, x2 * 12, x3 * 12, x4 * 12, x5 * 12⟩) = C at *
      generalize cmpP (V6.sub ⟨x0 * 12, x1 * 12, x2 * 12, x3 * 12, x4 * 12, x5 * 12⟩ ⟨h0, h1, h2, h3, h4, h5⟩) = D at *
      have HW := Lib.hid hW; have HA := Lib.hid hA; have HB := Lib.hid hB
      clear hW hA hB q1 q2 p1 p2 ax e
      rcases tf (decide (C ≤ 0)) with u1 | u1
      · rcases tf (decide (D ≤ 0)) with u2 | u2
        all_goals
          rw [u1, u2]
          go_enter Tryd.func14, Tryd.ntmps14
          go_wp2_with fail
          (go_at_call 12; with_reducible refine (HW.out _).mono ?_; rintro e w' ⟨rfl, hb⟩; have hz := hb.le; obtain ⟨hc, hf⟩ := hb.cells; have hn := hb.cellsN; (try simp only [World.size_alloc] at hc hf hz hn); (try simp only [World.size_setCell] at hc hf hz hn); (try simp only [World.size_drew] at hc hf hz hn))
          go_wp2_with fail
          (go_at_call 24; with_reducible refine (HI.out _).mono ?_; rintro e w' ⟨rfl, hb⟩; have hz := hb.le; obtain ⟨hc, hf⟩ := hb.cells; have hn := hb.cellsN; (try simp only [World.size_alloc] at hc hf hz hn); (try simp only [World.size_setCell] at hc hf hz hn); (try simp only [World.size_drew] at hc hf hz hn))
          go_wp2_with fail
          (go_at_call 25; with_reducible refine (HA.out _).mono ?_; rintro e w' ⟨rfl, hb⟩; have hz := hb.le; obtain ⟨hc, hf⟩ := hb.cells; have hn := hb.cellsN; (try simp only [World.size_alloc] at hc hf hz hn); (try simp only [World.size_setCell] at hc hf hz hn); (try simp only [World.size_drew] at hc hf hz hn))
          go_wp2_with fail
          (go_at_call 25; with_reducible refine (HB.out _).mono ?_; rintro e w' ⟨rfl, hb⟩; have hz := hb.le; obtain ⟨hc, hf⟩ := hb.cells; have hn := hb.cellsN; (try simp only [World.size_alloc] at hc hf hz hn); (try simp only [World.size_setCell] at hc hf hz hn); (try simp only [World.size_drew] at hc hf hz hn))
          go_wp2_with fail
          go_ret2
          exact ⟨rfl, (by repeat (first | with_reducible exact Gr.refl _ | with_reducible refine Gr.alloc ?_ _ | with_reducible refine Gr.drew ?_ | with_reducible refine Gr.trans ?_ (by assumption) | with_reducible refine Gr.setCell ?_ (by (try simp); (try omega)) _))⟩
      · rw [u1]
        go_enter Tryd.func14, Tryd.ntmps14
        go_wp2_with fail
        (go_at_call 12; with_reducible refine (HW.out _).mono ?_; rintro e w' ⟨rfl, hb⟩; have hz := hb.le; obtain ⟨hc, hf⟩ := hb.cells; have hn := hb.cellsN; (try simp only [World.size_alloc] at hc hf hz hn); (try simp only [World.size_setCell] at hc hf hz hn); (try simp only [World.size_drew] at hc hf hz hn))
        go_wp2_with fail
        (go_at_call 24; with_reducible refine (HI.out _).mono ?_; rintro e w' ⟨rfl, hb⟩; have hz := hb.le; obtain ⟨hc, hf⟩ := hb.cells; have hn := hb.cellsN; (try simp only [World.size_alloc] at hc hf hz hn); (try simp only [World.size_setCell] at hc hf hz hn); (try simp only [World.size_drew] at hc hf hz hn))
        go_wp2_with fail
        (go_at_call 25; with_reducible refine (HA.out _).mono ?_; rintro e w' ⟨rfl, hb⟩; have hz := hb.le; obtain ⟨hc, hf⟩ := hb.cells; have hn := hb.cellsN; (try simp only [World.size_alloc] at hc hf hz hn); (try simp only [World.size_setCell] at hc hf hz hn); (try simp only [World.size_drew] at hc hf hz hn))
        go_wp2_with fail
        (go_at_call 25; with_reducible refine (HB.out _).mono ?_; rintro e w' ⟨rfl, hb⟩; have hz := hb.le; obtain ⟨hc, hf⟩ := hb.cells; have hn := hb.cellsN; (try simp only [World.size_alloc] at hc hf hz hn); (try simp only [World.size_setCell] at hc hf hz hn); (try simp only [World.size_drew] at hc hf hz hn))
        go_wp2_with fail
        go_ret2
        exact ⟨rfl, (by repeat (first | with_reducible exact Gr.refl _ | with_reducible refine Gr.alloc ?_ _ | with_reducible refine Gr.drew ?_ | with_reducible refine Gr.trans ?_ (by assumption) | with_reducible refine Gr.setCell ?_ (by (try simp); (try omega)) _))⟩
    · simp only [q1, Bool.false_and, cond_false] at hW ⊢
      have HW := Lib.hid hW
      clear hW q1 q2
      go_enter Tryd.func14, Tryd.ntmps14
      go_wp2_with fail
      (go_at_call 12; with_reducible refine (HW.out _).mono ?_; rintro e w' ⟨rfl, hb⟩; have hz := hb.le; obtain ⟨hc, hf⟩ := hb.cells; have hn := hb.cellsN; (try simp only [World.size_alloc] at hc hf hz hn); (try simp only [World.size_setCell] at hc hf hz hn); (try simp only [World.size_drew] at hc hf hz hn))
      go_wp2_with fail
      (go_at_call 24; with_reducible refine (HI.out _).mono ?_; rintro e w' ⟨rfl, hb⟩; have hz := hb.le; obtain ⟨hc, hf⟩ := hb.cells; have hn := hb.cellsN; (try simp only [World.size_alloc] at hc hf hz hn); (try simp only [World.size_setCell] at hc hf hz hn); (try simp only [World.size_drew] at hc hf hz hn))
      go_wp2_with fail
      go_ret2
      exact ⟨rfl, (by repeat (first | with_reducible exact Gr.refl _ | with_reducible refine Gr.alloc ?_ _ | with_reducible refine Gr.drew ?_ | with_reducible refine Gr.trans ?_ (by assumption) | with_reducible refine Gr.setCell ?_ (by (try simp); (try omega)) _))⟩
  · have HI := Lib.hid (fun W => r3of_bad x0 x1 x2 x3 x4 x5 W q2)
    simp only [q2, Bool.false_and, Bool.and_false, cond_false]
    rcases tf (voiceOk ⟨l0, l1, l2, l3, l4, l5⟩ ⟨h0, h1, h2, h3, h4, h5⟩ st br) with q1 | q1
    all_goals
      rw [q1] at hW
      have HW := Lib.hid hW
      clear hW q1 q2
      go_enter Tryd.func14, Tryd.ntmps14
      go_wp2_with fail
      (go_at_call 12; with_reducible refine (HW.out _).mono ?_; rintro e w' ⟨rfl, hb⟩; have hz := hb.le; obtain ⟨hc, hf⟩ := hb.cells; have hn := hb.cellsN; (try simp only [World.size_alloc] at hc hf hz hn); (try simp only [World.size_setCell] at hc hf hz hn); (try simp only [World.size_drew] at hc hf hz hn))
      go_wp2_with fail
      (go_at_call 24; with_reducible refine (HI.out _).mono ?_; rintro e w' ⟨rfl, hb⟩; have hz := hb.le; obtain ⟨hc, hf⟩ := hb.cells; have hn := hb.cellsN; (try simp only [World.size_alloc] at hc hf hz hn); (try simp only [World.size_setCell] at hc hf hz hn); (try simp only [World.size_drew] at hc hf hz hn))
      go_wp2_with fail
      go_ret2
      exact ⟨rfl, (by repeat (first | with_reducible exact Gr.refl _ | with_reducible refine Gr.alloc ?_ _ | with_reducible refine Gr.drew ?_ | with_reducible refine Gr.trans ?_ (by assumption) | with_reducible refine Gr.setCell ?_ (by (try simp); (try omega)) _))⟩

set_option maxRecDepth 100000 in
set_option maxHeartbeats 16000000 in
theorem rfinds_any (l0 l1 l2 l3 l4 l5 h0 h1 h2 h3 h4 h5 st br x0 x1 x2 x3 x4 x5 y0 y1 y2 y3 y4 y5 : Int) (w : World) :
    Calls Tryd.prog 16 #[.agg #[.int .i64 l0, .int .i64 l1, .int .i64 l2, .int .i64 l3, .int .i64 l4, .int .i64 l5, .int .i64 h0, .int .i64 h1, .int .i64 h2, .int .i64 h3, .int .i64 h4, .int .i64 h5, .int .i64 st, .int .i64 br], .agg #[.int .i64 x0, .int .i64 x1, .int .i64 x2, .int .i64 x3, .int .i64 x4, .int .i64 x5], .agg #[.int .i64 y0, .int .i64 y1, .int .i64 y2, .int .i64 y3, .int .i64 y4, .int .i64 y5]] w fun e w' => e = .returned (.tuple #[.bool (voiceOk ⟨l0, l1, l2, l3, l4, l5⟩ ⟨h0, h1, h2, h3, h4, h5⟩ st br && (allIn ⟨x0, x1, x2, x3, x4, x5⟩ 48 6 && (allIn ⟨y0, y1, y2, y3, y4, y5⟩ 48 6 && findsB st ⟨x0, x1, x2, x3, x4, x5⟩ ⟨y0, y1, y2, y3, y4, y5⟩))), .int .i64 (cond (voiceOk ⟨l0, l1, l2, l3, l4, l5⟩ ⟨h0, h1, h2, h3, h4, h5⟩ st br && (allIn ⟨x0, x1, x2, x3, x4, x5⟩ 48 6 && allIn ⟨y0, y1, y2, y3, y4, y5⟩ 48 6)) 0 1)]) ∧ Gr w w' := by
  have hW := fun W => rvalid_any l0 l1 l2 l3 l4 l5 h0 h1 h2 h3 h4 h5 st br W
  rcases tf (allIn ⟨x0, x1, x2, x3, x4, x5⟩ 48 6) with q2 | q2
  · have HI := Lib.hid (fun W => r3of_ok x0 x1 x2 x3 x4 x5 W q2)
    rcases tf (allIn ⟨y0, y1, y2, y3, y4, y5⟩ 48 6) with q3 | q3
    · have HJ := Lib.hid (fun W => r3of_ok y0 y1 y2 y3 y4 y5 W q3)
      rcases tf (voiceOk ⟨l0, l1, l2, l3, l4, l5⟩ ⟨h0, h1, h2, h3, h4, h5⟩ st br) with q1 | q1
      · obtain ⟨-, -, -, p3, p4, -⟩ := voiceOk_parts q1
        have ax := atV_in q2
        have ay := atV_in q3
        simp only [atV] at ax ay
        have hN := fun W => rnear_ok (y0 * 12) (y1 * 12) (y2 * 12) (y3 * 12) (y4 * 12) (y5 * 12) (x0 * 12) (x1 * 12) (x2 * 12) (x3 * 12) (x4 * 12) (x5 * 12) st W ay ax p3 p4
        simp only [q1, q2, q3, Bool.true_and, Bool.and_self, cond_true] at hW ⊢
        have e : findsB st ⟨x0, x1, x2, x3, x4, x5⟩ ⟨y0, y1, y2, y3, y4, y5⟩ = (surelyI (sumLo ⟨y0 * 12 - x0 * 12, y1 * 12 - x1 * 12, y2 * 12 - x2 * 12, y3 * 12 - x3 * 12, y4 * 12 - x4 * 12, y5 * 12 - x5 * 12⟩ 6) (sumHi ⟨y0 * 12 - x0 * 12, y1 * 12 - x1 * 12, y2 * 12 - x2 * 12, y3 * 12 - x3 * 12, y4 * 12 - x4 * 12, y5 * 12 - x5 * 12⟩ 6) (-10000 * st) (10000 * st) == 1) := rfl
        rw [e]
        generalize surelyI (sumLo ⟨y0 * 12 - x0 * 12, y1 * 12 - x1 * 12, y2 * 12 - x2 * 12, y3 * 12 - x3 * 12, y4 * 12 - x4 * 12, y5 * 12 - x5 * 12⟩ 6) (sumHi ⟨y0 * 12 - x0 * 12, y1 * 12 - x1 * 12, y2 * 12 - x2 * 12, y3 * 12 - x3 * 12, y4 * 12 - x4 * 12, y5 * 12 - x5 * 12⟩ 6) (-10000 * st) (10000 * st) = R at *
        have HW := Lib.hid hW; have HN := Lib.hid hN
        clear hW hN q1 q2 q3 p3 p4 ax ay e
        go_enter Tryd.func16, Tryd.ntmps16
        go_wp2_with fail
        (go_at_call 12; with_reducible refine (HW.out _).mono ?_; rintro e w' ⟨rfl, hb⟩; have hz := hb.le; obtain ⟨hc, hf⟩ := hb.cells; have hn := hb.cellsN; (try simp only [World.size_alloc] at hc hf hz hn); (try simp only [World.size_setCell] at hc hf hz hn); (try simp only [World.size_drew] at hc hf hz hn))
        go_wp2_with fail
        (go_at_call 24; with_reducible refine (HI.out _).mono ?_; rintro e w' ⟨rfl, hb⟩; have hz := hb.le; obtain ⟨hc, hf⟩ := hb.cells; have hn := hb.cellsN; (try simp only [World.size_alloc] at hc hf hz hn); (try simp only [World.size_setCell] at hc hf hz hn); (try simp only [World.size_drew] at hc hf hz hn))
        go_wp2_with fail
        (go_at_call 24; with_reducible refine (HJ.out _).mono ?_; rintro e w' ⟨rfl, hb⟩; have hz := hb.le; obtain ⟨hc, hf⟩ := hb.cells; have hn := hb.cellsN; (try simp only [World.size_alloc] at hc hf hz hn); (try simp only [World.size_setCell] at hc hf hz hn); (try simp only [World.size_drew] at hc hf hz hn))
        go_wp2_with fail
        (go_at_call 35; with_reducible refine (HN.out _).mono ?_; rintro e w' ⟨rfl, hb⟩; have hz := hb.le; obtain ⟨hc, hf⟩ := hb.cells; have hn := hb.cellsN; (try simp only [World.size_alloc] at hc hf hz hn); (try simp only [World.size_setCell] at hc hf hz hn); (try simp only [World.size_drew] at hc hf hz hn))
        go_wp2_with fail
        go_ret2
        exact ⟨rfl, (by repeat (first | with_reducible exact Gr.refl _ | with_reducible refine Gr.alloc ?_ _ | with_reducible refine Gr.drew ?_ | with_reducible refine Gr.trans ?_ (by assumption) | with_reducible refine Gr.setCell ?_ (by (try simp); (try omega)) _))⟩
      · simp only [q1, Bool.false_and, cond_false] at hW ⊢
        have HW := Lib.hid hW
        clear hW q1 q2 q3
        go_enter Tryd.func16, Tryd.ntmps16
        go_wp2_with fail
        (go_at_call 12; with_reducible refine (HW.out _).mono ?_; rintro e w' ⟨rfl, hb⟩; have hz := hb.le; obtain ⟨hc, hf⟩ := hb.cells; have hn := hb.cellsN; (try simp only [World.size_alloc] at hc hf hz hn); (try simp only [World.size_setCell] at hc hf hz hn); (try simp only [World.size_drew] at hc hf hz hn))
        go_wp2_with fail
        (go_at_call 24; with_reducible refine (HI.out _).mono ?_; rintro e w' ⟨rfl, hb⟩; have hz := hb.le; obtain ⟨hc, hf⟩ := hb.cells; have hn := hb.cellsN; (try simp only [World.size_alloc] at hc hf hz hn); (try simp only [World.size_setCell] at hc hf hz hn); (try simp only [World.size_drew] at hc hf hz hn))
        go_wp2_with fail
        (go_at_call 24; with_reducible refine (HJ.out _).mono ?_; rintro e w' ⟨rfl, hb⟩; have hz := hb.le; obtain ⟨hc, hf⟩ := hb.cells; have hn := hb.cellsN; (try simp only [World.size_alloc] at hc hf hz hn); (try simp only [World.size_setCell] at hc hf hz hn); (try simp only [World.size_drew] at hc hf hz hn))
        go_wp2_with fail
        go_ret2
        exact ⟨rfl, (by repeat (first | with_reducible exact Gr.refl _ | with_reducible refine Gr.alloc ?_ _ | with_reducible refine Gr.drew ?_ | with_reducible refine Gr.trans ?_ (by assumption) | with_reducible refine Gr.setCell ?_ (by (try simp); (try omega)) _))⟩
    · have HJ := Lib.hid (fun W => r3of_bad y0 y1 y2 y3 y4 y5 W q3)
      simp only [q3, Bool.false_and, Bool.and_false, cond_false]
      rcases tf (voiceOk ⟨l0, l1, l2, l3, l4, l5⟩ ⟨h0, h1, h2, h3, h4, h5⟩ st br) with q1 | q1
      all_goals
        rw [q1] at hW
        have HW := Lib.hid hW
        clear hW q1 q2 q3
        go_enter Tryd.func16, Tryd.ntmps16
        go_wp2_with fail
        (go_at_call 12; with_reducible refine (HW.out _).mono ?_; rintro e w' ⟨rfl, hb⟩; have hz := hb.le; obtain ⟨hc, hf⟩ := hb.cells; have hn := hb.cellsN; (try simp only [World.size_alloc] at hc hf hz hn); (try simp only [World.size_setCell] at hc hf hz hn); (try simp only [World.size_drew] at hc hf hz hn))
        go_wp2_with fail
        (go_at_call 24; with_reducible refine (HI.out _).mono ?_; rintro e w' ⟨rfl, hb⟩; have hz := hb.le; obtain ⟨hc, hf⟩ := hb.cells; have hn := hb.cellsN; (try simp only [World.size_alloc] at hc hf hz hn); (try simp only [World.size_setCell] at hc hf hz hn); (try simp only [World.size_drew] at hc hf hz hn))
        go_wp2_with fail
        (go_at_call 24; with_reducible refine (HJ.out _).mono ?_; rintro e w' ⟨rfl, hb⟩; have hz := hb.le; obtain ⟨hc, hf⟩ := hb.cells; have hn := hb.cellsN; (try simp only [World.size_alloc] at hc hf hz hn); (try simp only [World.size_setCell] at hc hf hz hn); (try simp only [World.size_drew] at hc hf hz hn))
        go_wp2_with fail
        go_ret2
        exact ⟨rfl, (by repeat (first | with_reducible exact Gr.refl _ | with_reducible refine Gr.alloc ?_ _ | with_reducible refine Gr.drew ?_ | with_reducible refine Gr.trans ?_ (by assumption) | with_reducible refine Gr.setCell ?_ (by (try simp); (try omega)) _))⟩
  · have HI := Lib.hid (fun W => r3of_bad x0 x1 x2 x3 x4 x5 W q2)
    simp only [q2, Bool.false_and, Bool.and_false, cond_false]
    rcases tf (allIn ⟨y0, y1, y2, y3, y4, y5⟩ 48 6) with q3 | q3
    · have HJ := Lib.hid (fun W => r3of_ok y0 y1 y2 y3 y4 y5 W q3)
      rcases tf (voiceOk ⟨l0, l1, l2, l3, l4, l5⟩ ⟨h0, h1, h2, h3, h4, h5⟩ st br) with q1 | q1
      all_goals
        rw [q1] at hW
        have HW := Lib.hid hW
        clear hW q1 q2 q3
        go_enter Tryd.func16, Tryd.ntmps16
        go_wp2_with fail
        (go_at_call 12; with_reducible refine (HW.out _).mono ?_; rintro e w' ⟨rfl, hb⟩; have hz := hb.le; obtain ⟨hc, hf⟩ := hb.cells; have hn := hb.cellsN; (try simp only [World.size_alloc] at hc hf hz hn); (try simp only [World.size_setCell] at hc hf hz hn); (try simp only [World.size_drew] at hc hf hz hn))
        go_wp2_with fail
        (go_at_call 24; with_reducible refine (HI.out _).mono ?_; rintro e w' ⟨rfl, hb⟩; have hz := hb.le; obtain ⟨hc, hf⟩ := hb.cells; have hn := hb.cellsN; (try simp only [World.size_alloc] at hc hf hz hn); (try simp only [World.size_setCell] at hc hf hz hn); (try simp only [World.size_drew] at hc hf hz hn))
        go_wp2_with fail
        (go_at_call 24; with_reducible refine (HJ.out _).mono ?_; rintro e w' ⟨rfl, hb⟩; have hz := hb.le; obtain ⟨hc, hf⟩ := hb.cells; have hn := hb.cellsN; (try simp only [World.size_alloc] at hc hf hz hn); (try simp only [World.size_setCell] at hc hf hz hn); (try simp only [World.size_drew] at hc hf hz hn))
        go_wp2_with fail
        go_ret2
        exact ⟨rfl, (by repeat (first | with_reducible exact Gr.refl _ | with_reducible refine Gr.alloc ?_ _ | with_reducible refine Gr.drew ?_ | with_reducible refine Gr.trans ?_ (by assumption) | with_reducible refine Gr.setCell ?_ (by (try simp); (try omega)) _))⟩
    · have HJ := Lib.hid (fun W => r3of_bad y0 y1 y2 y3 y4 y5 W q3)
      rcases tf (voiceOk ⟨l0, l1, l2, l3, l4, l5⟩ ⟨h0, h1, h2, h3, h4, h5⟩ st br) with q1 | q1
      all_goals
        rw [q1] at hW
        have HW := Lib.hid hW
        clear hW q1 q2 q3
        go_enter Tryd.func16, Tryd.ntmps16
        go_wp2_with fail
        (go_at_call 12; with_reducible refine (HW.out _).mono ?_; rintro e w' ⟨rfl, hb⟩; have hz := hb.le; obtain ⟨hc, hf⟩ := hb.cells; have hn := hb.cellsN; (try simp only [World.size_alloc] at hc hf hz hn); (try simp only [World.size_setCell] at hc hf hz hn); (try simp only [World.size_drew] at hc hf hz hn))
        go_wp2_with fail
        (go_at_call 24; with_reducible refine (HI.out _).mono ?_; rintro e w' ⟨rfl, hb⟩; have hz := hb.le; obtain ⟨hc, hf⟩ := hb.cells; have hn := hb.cellsN; (try simp only [World.size_alloc] at hc hf hz hn); (try simp only [World.size_setCell] at hc hf hz hn); (try simp only [World.size_drew] at hc hf hz hn))
        go_wp2_with fail
        (go_at_call 24; with_reducible refine (HJ.out _).mono ?_; rintro e w' ⟨rfl, hb⟩; have hz := hb.le; obtain ⟨hc, hf⟩ := hb.cells; have hn := hb.cellsN; (try simp only [World.size_alloc] at hc hf hz hn); (try simp only [World.size_setCell] at hc hf hz hn); (try simp only [World.size_drew] at hc hf hz hn))
        go_wp2_with fail
        go_ret2
        exact ⟨rfl, (by repeat (first | with_reducible exact Gr.refl _ | with_reducible refine Gr.alloc ?_ _ | with_reducible refine Gr.drew ?_ | with_reducible refine Gr.trans ?_ (by assumption) | with_reducible refine Gr.setCell ?_ (by (try simp); (try omega)) _))⟩
end Go.Proofs.YtiogfohjepobkaaDoor
