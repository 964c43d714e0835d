/-
  pitch.Interval and pitch.Of.
-/
import Derived.Test.YtelhmdhhabgihaaGreatDoorPCmp
namespace Go.Proofs.YtelhmdhhabgihaaGreatDoor
open Go.RowKit

theorem pinterval_any (a0 a1 a2 a3 a4 a5 : Int) (w : World) :
    Calls Tryz.prog 47 #[.agg #[.int .i64 a0, .int .i64 a1, .int .i64 a2, .int .i64 a3, .int .i64 a4, .int .i64 a5]] w fun e w' => e = .returned (.bool (allIn ⟨a0, a1, a2, a3, a4, a5⟩ 48 6)) ∧ Gr w w' := by
  go_enter Tryz.func47, Tryz.ntmps47
  go_wp2_with (go_at_call 53; refine (within_any _ _ _ _ _ _ _ (by omega) (by omega) _).mono ?_; rintro e w' ⟨rfl, hb⟩)
  go_ret
  exact ⟨rfl, (by repeat (first | exact Gr.refl _ | refine Gr.alloc ?_ _ | refine Gr.drew ?_ | refine Gr.trans ?_ (by assumption) | refine Gr.setCell ?_ (by (try simp); (try omega)) _))⟩
set_option maxRecDepth 100000 in
set_option maxHeartbeats 1000000 in
theorem pof_bad (a0 a1 a2 a3 a4 a5 : Int) (w : World) (hva : allIn ⟨a0, a1, a2, a3, a4, a5⟩ 48 6 = false) :
    Calls Tryz.prog 48 #[.agg #[.int .i64 a0, .int .i64 a1, .int .i64 a2, .int .i64 a3, .int .i64 a4, .int .i64 a5]] w fun e w' => e = .returned (.tuple #[.agg #[.int .i64 0, .int .i64 0, .int .i64 0, .int .i64 0, .int .i64 0, .int .i64 0], .int .i64 1]) ∧ Gr w w' := by
  go_enter Tryz.func48, Tryz.ntmps48
  go_wp2_with (go_at_call 47; with_reducible refine (pinterval_any _ _ _ _ _ _ _).mono ?_; rintro e w' ⟨rfl, hb⟩; have hz := hb.le; obtain ⟨hc, hf⟩ := hb.cells; (try simp only [World.size_alloc] at hc hf hz); (try simp only [World.size_setCell] at hc hf hz); (try simp only [World.size_drew] at hc hf hz))
  refine bodyPost_six ?h6 ?k6
  case h6 =>
    intro j hj
    obtain rfl | rfl | rfl | rfl | rfl | rfl : j = 0 ∨ j = 1 ∨ j = 2 ∨ j = 3 ∨ j = 4 ∨ j = 5 := by omega
    all_goals simp [go_sem, *]
  intro W' hW' s0 s1 s2 s3 s4 s5
  exact bodyPost_ret (v := .tuple #[.agg #[.int .i64 0, .int .i64 0, .int .i64 0, .int .i64 0, .int .i64 0, .int .i64 0], .int .i64 1]) (by simp [results, Tryz.results48, go_sem, s0, s1, s2, s3, s4, s5]) rfl ⟨rfl, hW' _ (by repeat (first | exact Gr.refl _ | refine Gr.alloc ?_ _ | refine Gr.drew ?_ | refine Gr.trans ?_ (by assumption) | refine Gr.setCell ?_ (by (try simp); (try omega)) _)) (by (try simp); (try omega))⟩
set_option maxRecDepth 100000 in
set_option maxHeartbeats 4000000 in
theorem pof_ok (a0 a1 a2 a3 a4 a5 : Int) (w : World) (hva : allIn ⟨a0, a1, a2, a3, a4, a5⟩ 48 6 = true) :
    Calls Tryz.prog 48 #[.agg #[.int .i64 a0, .int .i64 a1, .int .i64 a2, .int .i64 a3, .int .i64 a4, .int .i64 a5]] w fun e w' => e = .returned (.tuple #[.agg #[.int .i64 (a0 * 12), .int .i64 (a1 * 12), .int .i64 (a2 * 12), .int .i64 (a3 * 12), .int .i64 (a4 * 12), .int .i64 (a5 * 12)], .int .i64 0]) ∧ Gr w w' := by
  go_enter Tryz.func48, Tryz.ntmps48
  go_wp2_with (go_at_call 47; with_reducible refine (pinterval_any _ _ _ _ _ _ _).mono ?_; rintro e w' ⟨rfl, hb⟩; have hz := hb.le; obtain ⟨hc, hf⟩ := hb.cells; (try simp only [World.size_alloc] at hc hf hz); (try simp only [World.size_setCell] at hc hf hz); (try simp only [World.size_drew] at hc hf hz))
  have HA := Lib.hid hva; clear hva
  have hg : Gr w w' := (by repeat (first | exact Gr.refl _ | refine Gr.alloc ?_ _ | refine Gr.drew ?_ | refine Gr.trans ?_ (by assumption) | refine Gr.setCell ?_ (by (try simp); (try omega)) _))
  have hx0 : ∀ j, j < 6 → w'.cell? ⟨w.heap.size, j, none⟩ = some (.int .i64 (V6.get ⟨a0, a1, a2, a3, a4, a5⟩ j)) := by
    intro j hj
    obtain rfl | rfl | rfl | rfl | rfl | rfl : j = 0 ∨ j = 1 ∨ j = 2 ∨ j = 3 ∨ j = 4 ∨ j = 5 := by omega
    all_goals simp [go_sem, V6.get, *]
  have hfr : ∀ j, w'.frozen? ⟨w.heap.size, j, none⟩ = false := by
    intro j
    simp [go_sem, *]
  have hr : ∀ j, j < 6 → w'.cell? ⟨w.heap.size + 1, j, none⟩ = some (.int .i64 0) := by
    intro j hj
    obtain rfl | rfl | rfl | rfl | rfl | rfl : j = 0 ∨ j = 1 ∨ j = 2 ∨ j = 3 ∨ j = 4 ∨ j = 5 := by omega
    all_goals simp [go_sem, *]
  have hs : ∀ j, w'.frozen? ⟨w.heap.size + 1, j, none⟩ = false := by
    intro j
    simp [go_sem, *]
  have hz3 : w.heap.size + 2 ≤ w'.heap.size := by omega
  have HH := Lib.hid (And.intro hr hs)
  have GA := allIn_at HA.out
  clear HA hc hf hz hr hs
  have HG := Lib.hid hg
  clear hg
  go_loopw [9] (fun i wr => ∃ k : Nat, k ≤ 6 ∧ i = .int .i64 k ∧ ArrRel 6 (newTo (fun j => V6.get ⟨a0, a1, a2, a3, a4, a5⟩ j * 12) (V6.get ⟨a0, a1, a2, a3, a4, a5⟩) k) w.heap.size (w.heap.size + 2) w' wr) (fun i _ => 6 - (intOf i).toNat)
  case atStart => exact ⟨0, by omega, rfl, ⟨But.refl _ _ _, hz3, by omega, fun j hj => hx0 j hj, hfr⟩⟩
  case round =>
    obtain ⟨k, hk, rfl, hR⟩ := hrel
    have hsz := hR.size
    by_cases hlt : k < 6
    · have hx := hR.cell k hlt
      have fx := hR.froz k
      have bx := GA k hlt
      rw [newTo, if_neg (by omega)] at hx
      have HST := Lib.hid (hR.store hlt (V6.get ⟨a0, a1, a2, a3, a4, a5⟩ k * 12))
      clear hR hx0 GA hfr
      generalize hgx : V6.get ⟨a0, a1, a2, a3, a4, a5⟩ k = x at hx bx HST
      have HX := Lib.hid hgx
      clear hgx
      go_wp2
      go_roundw
      case rel =>
        refine ⟨k + 1, by omega, by go_num, (ArrRel.congr HST.out fun j hj => ?_)⟩
        have := newTo_step (fun j => V6.get ⟨a0, a1, a2, a3, a4, a5⟩ j * 12) (V6.get ⟨a0, a1, a2, a3, a4, a5⟩) k j
        rw [this, HX.out]
      case measure => simp [intOf]; omega
    · obtain rfl : k = 6 := by omega
      have c0 := hR.cell 0 (by omega); have c1 := hR.cell 1 (by omega); have c2 := hR.cell 2 (by omega); have c3 := hR.cell 3 (by omega); have c4 := hR.cell 4 (by omega); have c5 := hR.cell 5 (by omega)
      simp only [newTo, V6.get] at c0 c1 c2 c3 c4 c5
      have hgr : Gr w wr := HG.out.but hR.but (by omega) (by omega)
      have r : ∀ j, j < 6 → wr.cell? ⟨w.heap.size + 1, j, none⟩ = some (.int .i64 0) := fun j hj => (hR.but.cell (p := ⟨w.heap.size + 1, j, none⟩) (show w.heap.size + 1 < w.heap.size + 2 by omega) (show w.heap.size + 1 ≠ w.heap.size by omega)).trans (HH.out.1 j hj)
      have rf : ∀ j, wr.frozen? ⟨w.heap.size + 1, j, none⟩ = false := fun j => (hR.but.frozen (p := ⟨w.heap.size + 1, j, none⟩) (show w.heap.size + 1 < w.heap.size + 2 by omega) (show w.heap.size + 1 ≠ w.heap.size by omega)).trans (HH.out.2 j)
      have r0 := r 0 (by omega); have r1 := r 1 (by omega); have r2 := r 2 (by omega); have r3 := r 3 (by omega); have r4 := r 4 (by omega); have r5 := r 5 (by omega)
      have RR := Lib.hid (fun j hj => by rw [r j hj]; rfl : ∀ j, j < 6 → (wr.cell? ⟨w.heap.size + 1, j, none⟩).isSome = true)
      clear hR hx0 GA hfr r
      go_wp2
      refine bodyPost_six RR.out ?_
      intro W' hW' s0 s1 s2 s3 s4 s5
      exact bodyPost_ret (v := .tuple #[.agg #[.int .i64 (a0 * 12), .int .i64 (a1 * 12), .int .i64 (a2 * 12), .int .i64 (a3 * 12), .int .i64 (a4 * 12), .int .i64 (a5 * 12)], .int .i64 0]) (by simp [results, Tryz.results48, go_sem, s0, s1, s2, s3, s4, s5]) rfl ⟨rfl, hW' _ hgr (by omega)⟩
end Go.Proofs.YtelhmdhhabgihaaGreatDoor
