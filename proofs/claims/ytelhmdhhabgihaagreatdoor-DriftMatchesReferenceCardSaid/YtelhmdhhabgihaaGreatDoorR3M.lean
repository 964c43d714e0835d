/-
  schismaref03.Mul and Div.
-/
import Derived.Test.YtelhmdhhabgihaaGreatDoorR3
import Derived.Test.YtelhmdhhabgihaaGreatDoorPCmp
namespace Go.Proofs.YtelhmdhhabgihaaGreatDoor
open Go.RowKit

set_option maxRecDepth 100000 in
set_option maxHeartbeats 4000000 in
theorem r3mul_ok (a0 a1 a2 a3 a4 a5 b0 b1 b2 b3 b4 b5 : Int) (w : World) (hva : allIn ⟨a0, a1, a2, a3, a4, a5⟩ 576 6 = true) (hvb : allIn ⟨b0, b1, b2, b3, b4, b5⟩ 576 6 = true) (hres : allIn ⟨a0 + b0, a1 + b1, a2 + b2, a3 + b3, a4 + b4, a5 + b5⟩ 576 6 = true) :
    Calls Tryz.prog 66 #[.agg #[.int .i64 a0, .int .i64 a1, .int .i64 a2, .int .i64 a3, .int .i64 a4, .int .i64 a5], .agg #[.int .i64 b0, .int .i64 b1, .int .i64 b2, .int .i64 b3, .int .i64 b4, .int .i64 b5]] w fun e w' => e = .returned (.tuple #[.agg #[.int .i64 (a0 + b0), .int .i64 (a1 + b1), .int .i64 (a2 + b2), .int .i64 (a3 + b3), .int .i64 (a4 + b4), .int .i64 (a5 + b5)], .int .i64 0]) ∧ Gr w w' := by
  have HR0 := Lib.hid hres
  clear hres
  go_enter Tryz.func66, Tryz.ntmps66
  go_wp2_with (go_at_call 37; with_reducible refine (r3valid_any _ _ _ _ _ _ _).mono ?_; rintro e w' ⟨rfl, hb⟩; have hz := hb.le; obtain ⟨hc, hf⟩ := hb.cells; (try simp only [World.size_alloc] at hc hf hz); (try simp only [World.size_setCell] at hc hf hz); (try simp only [World.size_drew] at hc hf hz))
  have HA := Lib.hid hva; have HB := Lib.hid hvb; clear hva hvb
  have hg : Gr w (w'.alloc (.cells #[.int .i64 0, .int .i64 0, .int .i64 0, .int .i64 0, .int .i64 0, .int .i64 0] 54)) := (by repeat (first | with_reducible exact Gr.refl _ | with_reducible refine Gr.alloc ?_ _ | with_reducible refine Gr.drew ?_ | with_reducible refine Gr.trans ?_ (by assumption) | with_reducible refine Gr.setCell ?_ (by (try simp); (try omega)) _))
  have hx0 : ∀ j, j < 6 → (w'.alloc (.cells #[.int .i64 0, .int .i64 0, .int .i64 0, .int .i64 0, .int .i64 0, .int .i64 0] 54)).cell? ⟨w.heap.size, j, none⟩ = some (.int .i64 (V6.get ⟨a0, a1, a2, a3, a4, a5⟩ j)) := by
    intro j hj
    obtain rfl | rfl | rfl | rfl | rfl | rfl : j = 0 ∨ j = 1 ∨ j = 2 ∨ j = 3 ∨ j = 4 ∨ j = 5 := by omega
    all_goals simp [go_sem, V6.get, *]
  have hy0 : ∀ j, j < 6 → (w'.alloc (.cells #[.int .i64 0, .int .i64 0, .int .i64 0, .int .i64 0, .int .i64 0, .int .i64 0] 54)).cell? ⟨w.heap.size + 1, j, none⟩ = some (.int .i64 (V6.get ⟨b0, b1, b2, b3, b4, b5⟩ j)) := by
    intro j hj
    obtain rfl | rfl | rfl | rfl | rfl | rfl : j = 0 ∨ j = 1 ∨ j = 2 ∨ j = 3 ∨ j = 4 ∨ j = 5 := by omega
    all_goals simp [go_sem, V6.get, *]
  have hr0 : ∀ j, j < 6 → (w'.alloc (.cells #[.int .i64 0, .int .i64 0, .int .i64 0, .int .i64 0, .int .i64 0, .int .i64 0] 54)).cell? ⟨w.heap.size + 1 + 1, j, none⟩ = some (.int .i64 0) := by
    intro j hj
    obtain rfl | rfl | rfl | rfl | rfl | rfl : j = 0 ∨ j = 1 ∨ j = 2 ∨ j = 3 ∨ j = 4 ∨ j = 5 := by omega
    all_goals simp [go_sem, *]
  have hs0 : ∀ j, (w'.alloc (.cells #[.int .i64 0, .int .i64 0, .int .i64 0, .int .i64 0, .int .i64 0, .int .i64 0] 54)).frozen? ⟨w.heap.size + 1 + 1, j, none⟩ = false := by
    intro j
    simp [go_sem, *]
  have hd0 : ∀ j, j < 6 → (w'.alloc (.cells #[.int .i64 0, .int .i64 0, .int .i64 0, .int .i64 0, .int .i64 0, .int .i64 0] 54)).cell? ⟨w'.heap.size, j, none⟩ = some (.int .i64 0) := by
    intro j hj
    obtain rfl | rfl | rfl | rfl | rfl | rfl : j = 0 ∨ j = 1 ∨ j = 2 ∨ j = 3 ∨ j = 4 ∨ j = 5 := by omega
    all_goals simp [go_sem]
  have hdf : ∀ j, (w'.alloc (.cells #[.int .i64 0, .int .i64 0, .int .i64 0, .int .i64 0, .int .i64 0, .int .i64 0] 54)).frozen? ⟨w'.heap.size, j, none⟩ = false := by
    intro j
    simp [go_sem]
  have hwz : (w'.alloc (.cells #[.int .i64 0, .int .i64 0, .int .i64 0, .int .i64 0, .int .i64 0, .int .i64 0] 54)).heap.size = w'.heap.size + 1 := by simp
  have hz3 : w.heap.size + 3 ≤ w'.heap.size := by omega
  generalize w'.alloc (.cells #[.int .i64 0, .int .i64 0, .int .i64 0, .int .i64 0, .int .i64 0, .int .i64 0] 54) = w1 at hg hx0 hy0 hr0 hs0 hd0 hdf hwz ⊢
  generalize hS : w'.heap.size = S at hd0 hdf hwz hz3 ⊢
  have GA := allIn_at HA.out
  have GB := allIn_at HB.out
  clear HA HB hc hf hz hS
  have HG := Lib.hid hg
  have HWZ := Lib.hid hwz
  clear hg hwz
  go_loopw [9] (fun i wr => ∃ k : Nat, k ≤ 6 ∧ i = .int .i64 k ∧ ArrRel 6 (newTo (fun j => V6.get ⟨a0, a1, a2, a3, a4, a5⟩ j + V6.get ⟨b0, b1, b2, b3, b4, b5⟩ j) (fun _ => 0) k) S (S + 1) w1 wr) (fun i _ => 6 - (intOf i).toNat)
  case atStart => exact ⟨0, by omega, rfl, ⟨But.refl _ _ _, by rw [HWZ.out]; omega, by omega, fun j hj => hd0 j hj, hdf⟩⟩
  case round =>
    obtain ⟨k, hk, rfl, hR⟩ := hrel
    have hsz := hR.size
    by_cases hlt : k < 6
    · have hx := (hR.but.cell (p := ⟨w.heap.size, k, none⟩) (by (try simp); (try omega)) (by (try simp); (try omega))).trans (hx0 k hlt)
      have hy := (hR.but.cell (p := ⟨w.heap.size + 1, k, none⟩) (by (try simp); (try omega)) (by (try simp); (try omega))).trans (hy0 k hlt)
      have ho := hR.cell k hlt
      have fx := hR.froz k
      have bx := GA k hlt
      have bb := GB k hlt
      rw [newTo, if_neg (by omega)] at ho
      have hst := hR.store hlt (V6.get ⟨a0, a1, a2, a3, a4, a5⟩ k + V6.get ⟨b0, b1, b2, b3, b4, b5⟩ k)
      have HST := Lib.hid hst
      clear hR hst hx0 hy0 hd0 hdf hr0 hs0 GA GB
      generalize hgx : V6.get ⟨a0, a1, a2, a3, a4, a5⟩ k = x at hx bx HST
      generalize hgy : V6.get ⟨b0, b1, b2, b3, b4, b5⟩ k = y at hy bb HST
      have HX := Lib.hid hgx; have HY := Lib.hid hgy
      clear hgx hgy
      go_wp2
      go_region
      go_wp2
      go_roundw
      case rel =>
        refine ⟨k + 1, by omega, by go_num, (ArrRel.congr (ArrRel.drew HST.out) fun j hj => ?_)⟩
        have := newTo_step (fun j => V6.get ⟨a0, a1, a2, a3, a4, a5⟩ j + V6.get ⟨b0, b1, b2, b3, b4, b5⟩ j) (fun _ => 0) k j
        rw [this, HX.out, HY.out]
      case measure => simp [intOf]; omega
    · obtain rfl : k = 6 := by omega
      have c0 := hR.cell 0 (by omega); have c1 := hR.cell 1 (by omega); have c2 := hR.cell 2 (by omega); have c3 := hR.cell 3 (by omega); have c4 := hR.cell 4 (by omega); have c5 := hR.cell 5 (by omega)
      simp only [newTo, V6.get] at c0 c1 c2 c3 c4 c5
      have d : ∀ j, j < 6 → wr.cell? ⟨w.heap.size + 1 + 1, j, none⟩ = some (.int .i64 0) := fun j hj => (hR.but.cell (p := ⟨w.heap.size + 1 + 1, j, none⟩) (by (try simp); (try omega)) (by (try simp); (try omega))).trans (hr0 j hj)
      have d0 := d 0 (by omega); have d1 := d 1 (by omega); have d2 := d 2 (by omega); have d3 := d 3 (by omega); have d4 := d 4 (by omega); have d5 := d 5 (by omega)
      have e : ∀ j, wr.frozen? ⟨w.heap.size + 1 + 1, j, none⟩ = false := fun j => (hR.but.frozen (p := ⟨w.heap.size + 1 + 1, j, none⟩) (by (try simp); (try omega)) (by (try simp); (try omega))).trans (hs0 j)
      have hSl : S < wr.heap.size := by omega
      have hz5 : w.heap.size + 1 + 1 < wr.heap.size := by omega
      have hgr : Gr w wr := HG.out.but hR.but (by omega) (by omega)
      clear hR hx0 hy0 hd0 hdf hr0 hs0 GA GB d
      have hres := HR0.out
      go_wp2_with (go_at_call 37; with_reducible refine (r3valid_any _ _ _ _ _ _ _).mono ?_; rintro e w' ⟨rfl, hb⟩; have hz := hb.le; obtain ⟨hc, hf⟩ := hb.cells; (try simp only [World.size_alloc] at hc hf hz); (try simp only [World.size_setCell] at hc hf hz); (try simp only [World.size_drew] at hc hf hz))
      refine bodyPost_six ?h6 ?k6
      case h6 =>
        intro j hj
        obtain rfl | rfl | rfl | rfl | rfl | rfl : j = 0 ∨ j = 1 ∨ j = 2 ∨ j = 3 ∨ j = 4 ∨ j = 5 := by omega
        all_goals simp [go_sem, *]
      intro W' hW' s0 s1 s2 s3 s4 s5
      exact bodyPost_ret (v := .tuple #[.agg #[.int .i64 (a0 + b0), .int .i64 (a1 + b1), .int .i64 (a2 + b2), .int .i64 (a3 + b3), .int .i64 (a4 + b4), .int .i64 (a5 + b5)], .int .i64 0]) (by simp [results, Tryz.results66, go_sem, s0, s1, s2, s3, s4, s5]) rfl ⟨rfl, hW' _ (by repeat (first | exact Gr.refl _ | refine Gr.alloc ?_ _ | refine Gr.drew ?_ | refine Gr.trans ?_ (by assumption) | refine Gr.setCell ?_ (by (try simp); (try omega)) _)) (by (try simp); (try omega))⟩

set_option maxRecDepth 100000 in
set_option maxHeartbeats 4000000 in
theorem r3mul_out (a0 a1 a2 a3 a4 a5 b0 b1 b2 b3 b4 b5 : Int) (w : World) (hva : allIn ⟨a0, a1, a2, a3, a4, a5⟩ 576 6 = true) (hvb : allIn ⟨b0, b1, b2, b3, b4, b5⟩ 576 6 = true) (hres : allIn ⟨a0 + b0, a1 + b1, a2 + b2, a3 + b3, a4 + b4, a5 + b5⟩ 576 6 = false) :
    Calls Tryz.prog 66 #[.agg #[.int .i64 a0, .int .i64 a1, .int .i64 a2, .int .i64 a3, .int .i64 a4, .int .i64 a5], .agg #[.int .i64 b0, .int .i64 b1, .int .i64 b2, .int .i64 b3, .int .i64 b4, .int .i64 b5]] w fun e w' => e = .returned (.tuple #[.agg #[.int .i64 0, .int .i64 0, .int .i64 0, .int .i64 0, .int .i64 0, .int .i64 0], .int .i64 3]) ∧ Gr w w' := by
  have HR0 := Lib.hid hres
  clear hres
  go_enter Tryz.func66, Tryz.ntmps66
  go_wp2_with (go_at_call 37; with_reducible refine (r3valid_any _ _ _ _ _ _ _).mono ?_; rintro e w' ⟨rfl, hb⟩; have hz := hb.le; obtain ⟨hc, hf⟩ := hb.cells; (try simp only [World.size_alloc] at hc hf hz); (try simp only [World.size_setCell] at hc hf hz); (try simp only [World.size_drew] at hc hf hz))
  have HA := Lib.hid hva; have HB := Lib.hid hvb; clear hva hvb
  have hg : Gr w (w'.alloc (.cells #[.int .i64 0, .int .i64 0, .int .i64 0, .int .i64 0, .int .i64 0, .int .i64 0] 54)) := (by repeat (first | with_reducible exact Gr.refl _ | with_reducible refine Gr.alloc ?_ _ | with_reducible refine Gr.drew ?_ | with_reducible refine Gr.trans ?_ (by assumption) | with_reducible refine Gr.setCell ?_ (by (try simp); (try omega)) _))
  have hx0 : ∀ j, j < 6 → (w'.alloc (.cells #[.int .i64 0, .int .i64 0, .int .i64 0, .int .i64 0, .int .i64 0, .int .i64 0] 54)).cell? ⟨w.heap.size, j, none⟩ = some (.int .i64 (V6.get ⟨a0, a1, a2, a3, a4, a5⟩ j)) := by
    intro j hj
    obtain rfl | rfl | rfl | rfl | rfl | rfl : j = 0 ∨ j = 1 ∨ j = 2 ∨ j = 3 ∨ j = 4 ∨ j = 5 := by omega
    all_goals simp [go_sem, V6.get, *]
  have hy0 : ∀ j, j < 6 → (w'.alloc (.cells #[.int .i64 0, .int .i64 0, .int .i64 0, .int .i64 0, .int .i64 0, .int .i64 0] 54)).cell? ⟨w.heap.size + 1, j, none⟩ = some (.int .i64 (V6.get ⟨b0, b1, b2, b3, b4, b5⟩ j)) := by
    intro j hj
    obtain rfl | rfl | rfl | rfl | rfl | rfl : j = 0 ∨ j = 1 ∨ j = 2 ∨ j = 3 ∨ j = 4 ∨ j = 5 := by omega
    all_goals simp [go_sem, V6.get, *]
  have hr0 : ∀ j, j < 6 → (w'.alloc (.cells #[.int .i64 0, .int .i64 0, .int .i64 0, .int .i64 0, .int .i64 0, .int .i64 0] 54)).cell? ⟨w.heap.size + 1 + 1, j, none⟩ = some (.int .i64 0) := by
    intro j hj
    obtain rfl | rfl | rfl | rfl | rfl | rfl : j = 0 ∨ j = 1 ∨ j = 2 ∨ j = 3 ∨ j = 4 ∨ j = 5 := by omega
    all_goals simp [go_sem, *]
  have hs0 : ∀ j, (w'.alloc (.cells #[.int .i64 0, .int .i64 0, .int .i64 0, .int .i64 0, .int .i64 0, .int .i64 0] 54)).frozen? ⟨w.heap.size + 1 + 1, j, none⟩ = false := by
    intro j
    simp [go_sem, *]
  have hd0 : ∀ j, j < 6 → (w'.alloc (.cells #[.int .i64 0, .int .i64 0, .int .i64 0, .int .i64 0, .int .i64 0, .int .i64 0] 54)).cell? ⟨w'.heap.size, j, none⟩ = some (.int .i64 0) := by
    intro j hj
    obtain rfl | rfl | rfl | rfl | rfl | rfl : j = 0 ∨ j = 1 ∨ j = 2 ∨ j = 3 ∨ j = 4 ∨ j = 5 := by omega
    all_goals simp [go_sem]
  have hdf : ∀ j, (w'.alloc (.cells #[.int .i64 0, .int .i64 0, .int .i64 0, .int .i64 0, .int .i64 0, .int .i64 0] 54)).frozen? ⟨w'.heap.size, j, none⟩ = false := by
    intro j
    simp [go_sem]
  have hwz : (w'.alloc (.cells #[.int .i64 0, .int .i64 0, .int .i64 0, .int .i64 0, .int .i64 0, .int .i64 0] 54)).heap.size = w'.heap.size + 1 := by simp
  have hz3 : w.heap.size + 3 ≤ w'.heap.size := by omega
  generalize w'.alloc (.cells #[.int .i64 0, .int .i64 0, .int .i64 0, .int .i64 0, .int .i64 0, .int .i64 0] 54) = w1 at hg hx0 hy0 hr0 hs0 hd0 hdf hwz ⊢
  generalize hS : w'.heap.size = S at hd0 hdf hwz hz3 ⊢
  have GA := allIn_at HA.out
  have GB := allIn_at HB.out
  clear HA HB hc hf hz hS
  have HG := Lib.hid hg
  have HWZ := Lib.hid hwz
  clear hg hwz
  go_loopw [9] (fun i wr => ∃ k : Nat, k ≤ 6 ∧ i = .int .i64 k ∧ ArrRel 6 (newTo (fun j => V6.get ⟨a0, a1, a2, a3, a4, a5⟩ j + V6.get ⟨b0, b1, b2, b3, b4, b5⟩ j) (fun _ => 0) k) S (S + 1) w1 wr) (fun i _ => 6 - (intOf i).toNat)
  case atStart => exact ⟨0, by omega, rfl, ⟨But.refl _ _ _, by rw [HWZ.out]; omega, by omega, fun j hj => hd0 j hj, hdf⟩⟩
  case round =>
    obtain ⟨k, hk, rfl, hR⟩ := hrel
    have hsz := hR.size
    by_cases hlt : k < 6
    · have hx := (hR.but.cell (p := ⟨w.heap.size, k, none⟩) (by (try simp); (try omega)) (by (try simp); (try omega))).trans (hx0 k hlt)
      have hy := (hR.but.cell (p := ⟨w.heap.size + 1, k, none⟩) (by (try simp); (try omega)) (by (try simp); (try omega))).trans (hy0 k hlt)
      have ho := hR.cell k hlt
      have fx := hR.froz k
      have bx := GA k hlt
      have bb := GB k hlt
      rw [newTo, if_neg (by omega)] at ho
      have hst := hR.store hlt (V6.get ⟨a0, a1, a2, a3, a4, a5⟩ k + V6.get ⟨b0, b1, b2, b3, b4, b5⟩ k)
      have HST := Lib.hid hst
      clear hR hst hx0 hy0 hd0 hdf hr0 hs0 GA GB
      generalize hgx : V6.get ⟨a0, a1, a2, a3, a4, a5⟩ k = x at hx bx HST
      generalize hgy : V6.get ⟨b0, b1, b2, b3, b4, b5⟩ k = y at hy bb HST
      have HX := Lib.hid hgx; have HY := Lib.hid hgy
      clear hgx hgy
      go_wp2
      go_region
      go_wp2
      go_roundw
      case rel =>
        refine ⟨k + 1, by omega, by go_num, (ArrRel.congr (ArrRel.drew HST.out) fun j hj => ?_)⟩
        have := newTo_step (fun j => V6.get ⟨a0, a1, a2, a3, a4, a5⟩ j + V6.get ⟨b0, b1, b2, b3, b4, b5⟩ j) (fun _ => 0) k j
        rw [this, HX.out, HY.out]
      case measure => simp [intOf]; omega
    · obtain rfl : k = 6 := by omega
      have c0 := hR.cell 0 (by omega); have c1 := hR.cell 1 (by omega); have c2 := hR.cell 2 (by omega); have c3 := hR.cell 3 (by omega); have c4 := hR.cell 4 (by omega); have c5 := hR.cell 5 (by omega)
      simp only [newTo, V6.get] at c0 c1 c2 c3 c4 c5
      have d : ∀ j, j < 6 → wr.cell? ⟨w.heap.size + 1 + 1, j, none⟩ = some (.int .i64 0) := fun j hj => (hR.but.cell (p := ⟨w.heap.size + 1 + 1, j, none⟩) (by (try simp); (try omega)) (by (try simp); (try omega))).trans (hr0 j hj)
      have d0 := d 0 (by omega); have d1 := d 1 (by omega); have d2 := d 2 (by omega); have d3 := d 3 (by omega); have d4 := d 4 (by omega); have d5 := d 5 (by omega)
      have e : ∀ j, wr.frozen? ⟨w.heap.size + 1 + 1, j, none⟩ = false := fun j => (hR.but.frozen (p := ⟨w.heap.size + 1 + 1, j, none⟩) (by (try simp); (try omega)) (by (try simp); (try omega))).trans (hs0 j)
      have hSl : S < wr.heap.size := by omega
      have hz5 : w.heap.size + 1 + 1 < wr.heap.size := by omega
      have hgr : Gr w wr := HG.out.but hR.but (by omega) (by omega)
      clear hR hx0 hy0 hd0 hdf hr0 hs0 GA GB d
      have hres := HR0.out
      go_wp2_with (go_at_call 37; with_reducible refine (r3valid_any _ _ _ _ _ _ _).mono ?_; rintro e w' ⟨rfl, hb⟩; have hz := hb.le; obtain ⟨hc, hf⟩ := hb.cells; (try simp only [World.size_alloc] at hc hf hz); (try simp only [World.size_setCell] at hc hf hz); (try simp only [World.size_drew] at hc hf hz))
      refine bodyPost_six ?h6 ?k6
      case h6 =>
        intro j hj
        obtain rfl | rfl | rfl | rfl | rfl | rfl : j = 0 ∨ j = 1 ∨ j = 2 ∨ j = 3 ∨ j = 4 ∨ j = 5 := by omega
        all_goals simp [go_sem, *]
      intro W' hW' s0 s1 s2 s3 s4 s5
      exact bodyPost_ret (v := .tuple #[.agg #[.int .i64 0, .int .i64 0, .int .i64 0, .int .i64 0, .int .i64 0, .int .i64 0], .int .i64 3]) (by simp [results, Tryz.results66, go_sem, s0, s1, s2, s3, s4, s5]) rfl ⟨rfl, hW' _ (by repeat (first | exact Gr.refl _ | refine Gr.alloc ?_ _ | refine Gr.drew ?_ | refine Gr.trans ?_ (by assumption) | refine Gr.setCell ?_ (by (try simp); (try omega)) _)) (by (try simp); (try omega))⟩

set_option maxRecDepth 100000 in
set_option maxHeartbeats 2000000 in
theorem r3mul_bad (a0 a1 a2 a3 a4 a5 b0 b1 b2 b3 b4 b5 : Int) (w : World) (hv : allIn ⟨a0, a1, a2, a3, a4, a5⟩ 576 6 = false ∨ (allIn ⟨a0, a1, a2, a3, a4, a5⟩ 576 6 = true ∧ allIn ⟨b0, b1, b2, b3, b4, b5⟩ 576 6 = false)) :
    Calls Tryz.prog 66 #[.agg #[.int .i64 a0, .int .i64 a1, .int .i64 a2, .int .i64 a3, .int .i64 a4, .int .i64 a5], .agg #[.int .i64 b0, .int .i64 b1, .int .i64 b2, .int .i64 b3, .int .i64 b4, .int .i64 b5]] w fun e w' => e = .returned (.tuple #[.agg #[.int .i64 0, .int .i64 0, .int .i64 0, .int .i64 0, .int .i64 0, .int .i64 0], .int .i64 1]) ∧ Gr w w' := by
  rcases hv with hva | ⟨hva, hvb⟩
  all_goals
    go_enter Tryz.func66, Tryz.ntmps66
    go_wp2_with (go_at_call 37; with_reducible refine (r3valid_any _ _ _ _ _ _ _).mono ?_; rintro e w' ⟨rfl, hb⟩; have hz := hb.le; obtain ⟨hc, hf⟩ := hb.cells; (try simp only [World.size_alloc] at hc hf hz); (try simp only [World.size_setCell] at hc hf hz); (try simp only [World.size_drew] at hc hf hz))
    refine bodyPost_six (by intro j hj; rcases (show j = 0 ∨ j = 1 ∨ j = 2 ∨ j = 3 ∨ j = 4 ∨ j = 5 by omega) with rfl | rfl | rfl | rfl | rfl | rfl <;> simp [go_sem, *]) ?_
    intro W' hW' s0 s1 s2 s3 s4 s5
    exact bodyPost_ret (v := .tuple #[.agg #[.int .i64 0, .int .i64 0, .int .i64 0, .int .i64 0, .int .i64 0, .int .i64 0], .int .i64 1]) (by simp [results, Tryz.results66, go_sem, s0, s1, s2, s3, s4, s5]) rfl ⟨rfl, hW' _ (by repeat (first | with_reducible exact Gr.refl _ | with_reducible refine Gr.alloc ?_ _ | with_reducible refine Gr.drew ?_ | with_reducible refine Gr.trans ?_ (by assumption) | with_reducible refine Gr.setCell ?_ (by (try simp); (try omega)) _)) (by (try simp); (try omega))⟩

set_option maxRecDepth 100000 in
set_option maxHeartbeats 2000000 in
theorem r3div_bad0 (a0 a1 a2 a3 a4 a5 b0 b1 b2 b3 b4 b5 : Int) (w : World) (hvb : allIn ⟨b0, b1, b2, b3, b4, b5⟩ 576 6 = false) :
    Calls Tryz.prog 40 #[.agg #[.int .i64 a0, .int .i64 a1, .int .i64 a2, .int .i64 a3, .int .i64 a4, .int .i64 a5], .agg #[.int .i64 b0, .int .i64 b1, .int .i64 b2, .int .i64 b3, .int .i64 b4, .int .i64 b5]] w fun e w' => e = .returned (.tuple #[.agg #[.int .i64 0, .int .i64 0, .int .i64 0, .int .i64 0, .int .i64 0, .int .i64 0], .int .i64 1]) ∧ Gr w w' := by
  go_enter Tryz.func40, Tryz.ntmps40
  go_wp2_with (go_at_call 37; with_reducible refine (r3valid_any _ _ _ _ _ _ _).mono ?_; rintro e w' ⟨rfl, hb⟩; have hz := hb.le; obtain ⟨hc, hf⟩ := hb.cells; (try simp only [World.size_alloc] at hc hf hz); (try simp only [World.size_setCell] at hc hf hz); (try simp only [World.size_drew] at hc hf hz))
  refine bodyPost_six ?h6 ?k6
  case h6 =>
    intro j hj
    obtain rfl | rfl | rfl | rfl | rfl | rfl : j = 0 ∨ j = 1 ∨ j = 2 ∨ j = 3 ∨ j = 4 ∨ j = 5 := by omega
    all_goals simp [go_sem, *]
  intro W' hW' s0 s1 s2 s3 s4 s5
  exact bodyPost_ret (v := .tuple #[.agg #[.int .i64 0, .int .i64 0, .int .i64 0, .int .i64 0, .int .i64 0, .int .i64 0], .int .i64 1]) (by simp [results, Tryz.results40, go_sem, s0, s1, s2, s3, s4, s5]) rfl ⟨rfl, hW' _ (by repeat (first | exact Gr.refl _ | refine Gr.alloc ?_ _ | refine Gr.drew ?_ | refine Gr.trans ?_ (by assumption) | refine Gr.setCell ?_ (by (try simp); (try omega)) _)) (by (try simp); (try omega))⟩

set_option maxRecDepth 100000 in
set_option maxHeartbeats 4000000 in
theorem r3div_by (a0 a1 a2 a3 a4 a5 b0 b1 b2 b3 b4 b5 y0 y1 y2 y3 y4 y5 E : Int) (w : World) (hvb : allIn ⟨b0, b1, b2, b3, b4, b5⟩ 576 6 = true)
    (hM : ∀ W, Calls Tryz.prog 66 #[.agg #[.int .i64 a0, .int .i64 a1, .int .i64 a2, .int .i64 a3, .int .i64 a4, .int .i64 a5], .agg #[.int .i64 (-b0), .int .i64 (-b1), .int .i64 (-b2), .int .i64 (-b3), .int .i64 (-b4), .int .i64 (-b5)]] W fun e w' => e = .returned (.tuple #[.agg #[.int .i64 y0, .int .i64 y1, .int .i64 y2, .int .i64 y3, .int .i64 y4, .int .i64 y5], .int .i64 E]) ∧ Gr W w') :
    Calls Tryz.prog 40 #[.agg #[.int .i64 a0, .int .i64 a1, .int .i64 a2, .int .i64 a3, .int .i64 a4, .int .i64 a5], .agg #[.int .i64 b0, .int .i64 b1, .int .i64 b2, .int .i64 b3, .int .i64 b4, .int .i64 b5]] w fun e w' => e = .returned (.tuple #[.agg #[.int .i64 y0, .int .i64 y1, .int .i64 y2, .int .i64 y3, .int .i64 y4, .int .i64 y5], .int .i64 E]) ∧ Gr w w' := by
  have HM := Lib.hid hM
  clear hM
  go_enter Tryz.func40, Tryz.ntmps40
  go_wp2_with (go_at_call 37; with_reducible refine (r3valid_any _ _ _ _ _ _ _).mono ?_; rintro e w' ⟨rfl, hb⟩; have hz := hb.le; obtain ⟨hc, hf⟩ := hb.cells; (try simp only [World.size_alloc] at hc hf hz); (try simp only [World.size_setCell] at hc hf hz); (try simp only [World.size_drew] at hc hf hz))
  have HB := Lib.hid hvb; clear hvb
  have hg : Gr w w' := (by repeat (first | with_reducible exact Gr.refl _ | with_reducible refine Gr.alloc ?_ _ | with_reducible refine Gr.drew ?_ | with_reducible refine Gr.trans ?_ (by assumption) | with_reducible refine Gr.setCell ?_ (by (try simp); (try omega)) _))
  have hx0 : ∀ j, j < 6 → w'.cell? ⟨w.heap.size, j, none⟩ = some (.int .i64 (V6.get ⟨a0, a1, a2, a3, a4, a5⟩ j)) := by
    intro j hj
    obtain rfl | rfl | rfl | rfl | rfl | rfl : j = 0 ∨ j = 1 ∨ j = 2 ∨ j = 3 ∨ j = 4 ∨ j = 5 := by omega
    all_goals simp [go_sem, V6.get, *]
  have hy0 : ∀ j, j < 6 → w'.cell? ⟨w.heap.size + 1, j, none⟩ = some (.int .i64 (V6.get ⟨b0, b1, b2, b3, b4, b5⟩ j)) := by
    intro j hj
    obtain rfl | rfl | rfl | rfl | rfl | rfl : j = 0 ∨ j = 1 ∨ j = 2 ∨ j = 3 ∨ j = 4 ∨ j = 5 := by omega
    all_goals simp [go_sem, V6.get, *]
  have hr0 : ∀ j, j < 6 → w'.cell? ⟨w.heap.size + 1 + 1, j, none⟩ = some (.int .i64 0) := by
    intro j hj
    obtain rfl | rfl | rfl | rfl | rfl | rfl : j = 0 ∨ j = 1 ∨ j = 2 ∨ j = 3 ∨ j = 4 ∨ j = 5 := by omega
    all_goals simp [go_sem, *]
  have hs0 : ∀ j, w'.frozen? ⟨w.heap.size + 1 + 1, j, none⟩ = false := by
    intro j
    simp [go_sem, *]
  have hdf : ∀ j, w'.frozen? ⟨w.heap.size + 1, j, none⟩ = false := by
    intro j
    simp [go_sem, *]
  have hz3 : w.heap.size + 3 ≤ w'.heap.size := by omega
  have GB := allIn_at HB.out
  clear HB hc hf hz
  have HG := Lib.hid hg
  clear hg
  go_loopw [7] (fun i wr => ∃ k : Nat, k ≤ 6 ∧ i = .int .i64 k ∧ ArrRel 6 (newTo (fun j => -V6.get ⟨b0, b1, b2, b3, b4, b5⟩ j) (V6.get ⟨b0, b1, b2, b3, b4, b5⟩) k) (w.heap.size + 1) (w.heap.size + 3) w' wr) (fun i _ => 6 - (intOf i).toNat)
  case atStart => exact ⟨0, by omega, rfl, ⟨But.refl _ _ _, hz3, by omega, fun j hj => hy0 j hj, hdf⟩⟩
  case round =>
    obtain ⟨k, hk, rfl, hR⟩ := hrel
    have hsz := hR.size
    by_cases hlt : k < 6
    · have hy := hR.cell k hlt
      have fx := hR.froz k
      have bb := GB k hlt
      rw [newTo, if_neg (by omega)] at hy
      have hst := hR.store hlt (-V6.get ⟨b0, b1, b2, b3, b4, b5⟩ k)
      have HST := Lib.hid hst
      clear hR hst hx0 hy0 hdf hr0 hs0 GB
      generalize hgy : V6.get ⟨b0, b1, b2, b3, b4, b5⟩ k = y at hy bb HST
      have HY := Lib.hid hgy
      clear hgy
      go_wp2
      go_roundw
      case rel =>
        refine ⟨k + 1, by omega, by go_num, (ArrRel.congr HST.out fun j hj => ?_)⟩
        have := newTo_step (fun j => -V6.get ⟨b0, b1, b2, b3, b4, b5⟩ j) (V6.get ⟨b0, b1, b2, b3, b4, b5⟩) k j
        rw [this, HY.out]
      case measure => simp [intOf]; omega
    · obtain rfl : k = 6 := by omega
      have c0 := hR.cell 0 (by omega); have c1 := hR.cell 1 (by omega); have c2 := hR.cell 2 (by omega); have c3 := hR.cell 3 (by omega); have c4 := hR.cell 4 (by omega); have c5 := hR.cell 5 (by omega)
      simp only [newTo, V6.get] at c0 c1 c2 c3 c4 c5
      have q : ∀ j, j < 6 → wr.cell? ⟨w.heap.size, j, none⟩ = some (.int .i64 (V6.get ⟨a0, a1, a2, a3, a4, a5⟩ j)) := fun j hj => (hR.but.cell (p := ⟨w.heap.size, j, none⟩) (by (try simp); (try omega)) (by (try simp); (try omega))).trans (hx0 j hj)
      have q0 := q 0 (by omega); have q1 := q 1 (by omega); have q2 := q 2 (by omega); have q3 := q 3 (by omega); have q4 := q 4 (by omega); have q5 := q 5 (by omega)
      simp only [V6.get] at q0 q1 q2 q3 q4 q5
      have d : ∀ j, j < 6 → wr.cell? ⟨w.heap.size + 1 + 1, j, none⟩ = some (.int .i64 0) := fun j hj => (hR.but.cell (p := ⟨w.heap.size + 1 + 1, j, none⟩) (by (try simp); (try omega)) (by (try simp); (try omega))).trans (hr0 j hj)
      have d0 := d 0 (by omega); have d1 := d 1 (by omega); have d2 := d 2 (by omega); have d3 := d 3 (by omega); have d4 := d 4 (by omega); have d5 := d 5 (by omega)
      have e : ∀ j, wr.frozen? ⟨w.heap.size + 1 + 1, j, none⟩ = false := fun j => (hR.but.frozen (p := ⟨w.heap.size + 1 + 1, j, none⟩) (by (try simp); (try omega)) (by (try simp); (try omega))).trans (hs0 j)
      have hz5 : w.heap.size + 1 + 1 < wr.heap.size := by omega
      have hgr : Gr w wr := HG.out.but hR.but (by omega) (by omega)
      clear hR hx0 hy0 hdf hr0 hs0 GB d q
      go_wp2_with (go_at_call 66; with_reducible refine (HM.out _).mono ?_; rintro e w' ⟨rfl, hb⟩; have hz := hb.le; obtain ⟨hc, hf⟩ := hb.cells; (try simp only [World.size_alloc] at hc hf hz); (try simp only [World.size_setCell] at hc hf hz); (try simp only [World.size_drew] at hc hf hz))
      refine bodyPost_six ?h6 ?k6
      case h6 =>
        intro j hj
        obtain rfl | rfl | rfl | rfl | rfl | rfl : j = 0 ∨ j = 1 ∨ j = 2 ∨ j = 3 ∨ j = 4 ∨ j = 5 := by omega
        all_goals simp [go_sem, *]
      intro W' hW' s0 s1 s2 s3 s4 s5
      exact bodyPost_ret (v := .tuple #[.agg #[.int .i64 y0, .int .i64 y1, .int .i64 y2, .int .i64 y3, .int .i64 y4, .int .i64 y5], .int .i64 E]) (by simp [results, Tryz.results40, go_sem, s0, s1, s2, s3, s4, s5]) rfl ⟨rfl, hW' _ (by repeat (first | exact Gr.refl _ | refine Gr.alloc ?_ _ | refine Gr.drew ?_ | refine Gr.trans ?_ (by assumption) | refine Gr.setCell ?_ (by (try simp); (try omega)) _)) (by (try simp); (try omega))⟩
theorem neg_in {b0 b1 b2 b3 b4 b5 B : Int} (h : allIn ⟨b0, b1, b2, b3, b4, b5⟩ B 6 = true) : allIn ⟨-b0, -b1, -b2, -b3, -b4, -b5⟩ B 6 = true := by
  simp only [allIn, V6.get, Bool.and_eq_true, decide_eq_true_eq] at h ⊢
  repeat' apply And.intro
  all_goals first | rfl | omega | trivial
/-- What Mul or Div returns, given the exponents of the result. -/
def MulAll (va vb r y : V6) (E : Int) : Prop :=
  (allIn va 576 6 = true ∧ allIn vb 576 6 = true ∧ allIn r 576 6 = true ∧ y = r ∧ E = 0) ∨ (allIn va 576 6 = true ∧ allIn vb 576 6 = true ∧ allIn r 576 6 = false ∧ y = ⟨0, 0, 0, 0, 0, 0⟩ ∧ E = 3) ∨
  ((allIn va 576 6 = false ∨ (allIn va 576 6 = true ∧ allIn vb 576 6 = false)) ∧ y = ⟨0, 0, 0, 0, 0, 0⟩ ∧ E = 1)
theorem bool_tf (b : Bool) : b = true ∨ b = false := by cases b <;> simp
theorem r3mul_all (a0 a1 a2 a3 a4 a5 b0 b1 b2 b3 b4 b5 : Int) : ∃ y0 y1 y2 y3 y4 y5 E : Int,
    (∀ w, Calls Tryz.prog 66 #[.agg #[.int .i64 a0, .int .i64 a1, .int .i64 a2, .int .i64 a3, .int .i64 a4, .int .i64 a5], .agg #[.int .i64 b0, .int .i64 b1, .int .i64 b2, .int .i64 b3, .int .i64 b4, .int .i64 b5]] w fun e w' => e = .returned (.tuple #[.agg #[.int .i64 y0, .int .i64 y1, .int .i64 y2, .int .i64 y3, .int .i64 y4, .int .i64 y5], .int .i64 E]) ∧ Gr w w') ∧
    MulAll ⟨a0, a1, a2, a3, a4, a5⟩ ⟨b0, b1, b2, b3, b4, b5⟩ (V6.add ⟨a0, a1, a2, a3, a4, a5⟩ ⟨b0, b1, b2, b3, b4, b5⟩) ⟨y0, y1, y2, y3, y4, y5⟩ E := by
  rcases bool_tf (allIn ⟨a0, a1, a2, a3, a4, a5⟩ 576 6) with ha | ha
  · rcases bool_tf (allIn ⟨b0, b1, b2, b3, b4, b5⟩ 576 6) with hb | hb
    · rcases bool_tf (allIn (V6.add ⟨a0, a1, a2, a3, a4, a5⟩ ⟨b0, b1, b2, b3, b4, b5⟩) 576 6) with hr | hr
      · exact ⟨a0 + b0, a1 + b1, a2 + b2, a3 + b3, a4 + b4, a5 + b5, 0, fun w => r3mul_ok _ _ _ _ _ _ _ _ _ _ _ _ w ha hb hr, .inl ⟨ha, hb, hr, rfl, rfl⟩⟩
      · exact ⟨0, 0, 0, 0, 0, 0, 3, fun w => r3mul_out _ _ _ _ _ _ _ _ _ _ _ _ w ha hb hr, .inr (.inl ⟨ha, hb, hr, rfl, rfl⟩)⟩
    · exact ⟨0, 0, 0, 0, 0, 0, 1, fun w => r3mul_bad _ _ _ _ _ _ _ _ _ _ _ _ w (.inr ⟨ha, hb⟩), .inr (.inr ⟨.inr ⟨ha, hb⟩, rfl, rfl⟩)⟩
  · exact ⟨0, 0, 0, 0, 0, 0, 1, fun w => r3mul_bad _ _ _ _ _ _ _ _ _ _ _ _ w (.inl ha), .inr (.inr ⟨.inl ha, rfl, rfl⟩)⟩
theorem r3div_all (a0 a1 a2 a3 a4 a5 b0 b1 b2 b3 b4 b5 : Int) : ∃ y0 y1 y2 y3 y4 y5 E : Int,
    (∀ w, Calls Tryz.prog 40 #[.agg #[.int .i64 a0, .int .i64 a1, .int .i64 a2, .int .i64 a3, .int .i64 a4, .int .i64 a5], .agg #[.int .i64 b0, .int .i64 b1, .int .i64 b2, .int .i64 b3, .int .i64 b4, .int .i64 b5]] w fun e w' => e = .returned (.tuple #[.agg #[.int .i64 y0, .int .i64 y1, .int .i64 y2, .int .i64 y3, .int .i64 y4, .int .i64 y5], .int .i64 E]) ∧ Gr w w') ∧
    MulAll ⟨a0, a1, a2, a3, a4, a5⟩ ⟨b0, b1, b2, b3, b4, b5⟩ (V6.sub ⟨a0, a1, a2, a3, a4, a5⟩ ⟨b0, b1, b2, b3, b4, b5⟩) ⟨y0, y1, y2, y3, y4, y5⟩ E := by
  rcases bool_tf (allIn ⟨b0, b1, b2, b3, b4, b5⟩ 576 6) with hb | hb
  · obtain ⟨y0, y1, y2, y3, y4, y5, E, h, hm⟩ := r3mul_all a0 a1 a2 a3 a4 a5 (-b0) (-b1) (-b2) (-b3) (-b4) (-b5)
    have hs : V6.add ⟨a0, a1, a2, a3, a4, a5⟩ ⟨-b0, -b1, -b2, -b3, -b4, -b5⟩ = V6.sub ⟨a0, a1, a2, a3, a4, a5⟩ ⟨b0, b1, b2, b3, b4, b5⟩ := by simp only [V6.add, V6.sub, Int.sub_eq_add_neg]
    have hn := neg_in hb
    refine ⟨y0, y1, y2, y3, y4, y5, E, fun w => r3div_by _ _ _ _ _ _ _ _ _ _ _ _ _ _ _ _ _ _ _ w hb h, ?_⟩
    rw [hs] at hm
    rcases hm with ⟨h1, h2, h3⟩ | ⟨h1, h2, h3⟩ | ⟨h1, h2⟩
    · exact .inl ⟨h1, hb, h3⟩
    · exact .inr (.inl ⟨h1, hb, h3⟩)
    · rcases h1 with h1 | ⟨h1, h3⟩
      · exact .inr (.inr ⟨.inl h1, h2⟩)
      · rw [hn] at h3; cases h3
  · refine ⟨0, 0, 0, 0, 0, 0, 1, fun w => r3div_bad0 _ _ _ _ _ _ _ _ _ _ _ _ w hb, .inr (.inr ⟨?_, rfl, rfl⟩)⟩
    rcases bool_tf (allIn ⟨a0, a1, a2, a3, a4, a5⟩ 576 6) with ha | ha
    · exact .inr ⟨ha, hb⟩
    · exact .inl ha
end Go.Proofs.YtelhmdhhabgihaaGreatDoor
