import Derived.Test.YtelhmdhhabgihaaGreatDoorGap
namespace Go.Proofs.YtelhmdhhabgihaaGreatDoor
open Go.RowKit

theorem sign_bd {s y : Int} (h1 : -1 ≤ s) (h2 : s ≤ 1) (h3 : -576 ≤ y) (h4 : y ≤ 576) : -576 ≤ s * y ∧ s * y ≤ 576 := by
  obtain rfl | rfl | rfl : s = -1 ∨ s = 0 ∨ s = 1 := by omega
  all_goals omega

set_option maxHeartbeats 1000000 in
theorem pcombine_ok (a0 a1 a2 a3 a4 a5 b0 b1 b2 b3 b4 b5 s : Int) (w : World) (hs1 : -1 ≤ s) (hs2 : s ≤ 1) (hva : allIn ⟨a0, a1, a2, a3, a4, a5⟩ 576 6 = true) (hvb : allIn ⟨b0, b1, b2, b3, b4, b5⟩ 576 6 = true) (hres : allIn ⟨a0 + s * b0, a1 + s * b1, a2 + s * b2, a3 + s * b3, a4 + s * b4, a5 + s * b5⟩ 576 6 = true) :
    Calls Tryz.prog 70 #[.agg #[.int .i64 a0, .int .i64 a1, .int .i64 a2, .int .i64 a3, .int .i64 a4, .int .i64 a5], .agg #[.int .i64 b0, .int .i64 b1, .int .i64 b2, .int .i64 b3, .int .i64 b4, .int .i64 b5], .int .i64 s] w
      fun e w' => e = .returned (.tuple #[.agg #[.int .i64 (a0 + s * b0), .int .i64 (a1 + s * b1), .int .i64 (a2 + s * b2), .int .i64 (a3 + s * b3), .int .i64 (a4 + s * b4), .int .i64 (a5 + s * b5)], .int .i64 0]) ∧ Gr w w' := by
  have HR0 := Lib.hid hres
  clear hres
  go_enter Tryz.func70, Tryz.ntmps70
  go_wp2_with (go_at_call 34; with_reducible refine (pitchValid_any _ _ _ _ _ _ _).mono ?_; rintro e w' ⟨rfl, hb⟩; have hz := hb.le; obtain ⟨hc, hf⟩ := hb.cells; (try simp only [World.size_alloc] at hc hf hz); (try simp only [World.size_setCell] at hc hf hz); (try simp only [World.size_drew] at hc hf hz))
  have HA := Lib.hid hva; have HB := Lib.hid hvb; clear hva hvb
  have hg : Gr w w' := (by repeat (first | exact Gr.refl _ | refine Gr.alloc ?_ _ | refine Gr.drew ?_ | refine Gr.trans ?_ (by assumption) | refine Gr.setCell ?_ (by (try simp); (try omega)) _))
  have hx0 : ∀ j, j < 6 → w'.cell? ⟨w.heap.size, j, none⟩ = some (.int .i64 (V6.get ⟨a0, a1, a2, a3, a4, a5⟩ j)) := by
    intro j hj
    obtain rfl | rfl | rfl | rfl | rfl | rfl : j = 0 ∨ j = 1 ∨ j = 2 ∨ j = 3 ∨ j = 4 ∨ j = 5 := by omega
    all_goals simp [go_sem, V6.get, *]
  have hr : ∀ j, j < 6 → w'.cell? ⟨w.heap.size + 1 + 1, j, none⟩ = some (.int .i64 0) := by
    intro j hj
    obtain rfl | rfl | rfl | rfl | rfl | rfl : j = 0 ∨ j = 1 ∨ j = 2 ∨ j = 3 ∨ j = 4 ∨ j = 5 := by omega
    all_goals simp [go_sem, *]
  have hfr : ∀ j, w'.frozen? ⟨w.heap.size, j, none⟩ = false := by
    intro j
    simp [go_sem, *]
  have hs : ∀ j, w'.frozen? ⟨w.heap.size + 1 + 1, j, none⟩ = false := by
    intro j
    simp [go_sem, *]
  have hz3 : w.heap.size + 3 ≤ w'.heap.size := by omega
  have GA := allIn_get HA.out
  have GB := allIn_get HB.out
  clear HA HB
  clear hc hf hz
  have HG := Lib.hid hg
  clear hg
  go_loopw [20] (fun i wr => ∃ k : Nat, k ≤ 6 ∧ i = .int .i64 k ∧ ArrRel 6 (mixTo (fun j => V6.get ⟨a0, a1, a2, a3, a4, a5⟩ j + s * V6.get ⟨b0, b1, b2, b3, b4, b5⟩ j) (V6.get ⟨a0, a1, a2, a3, a4, a5⟩) k) w.heap.size (w.heap.size + 3) w' wr) (fun i _ => 6 - (intOf i).toNat)
  case atStart => exact ⟨0, by omega, rfl, ⟨But.refl _ _ _, hz3, by omega, fun j hj => hx0 j hj, hfr⟩⟩
  case round =>
    obtain ⟨k, hk, rfl, hR⟩ := hrel
    have hsz := hR.size
    by_cases hlt : k < 6
    · have hx := hR.cell k hlt
      have hy := run_index6P b0 b1 b2 b3 b4 b5 k hlt
      have fx := hR.froz k
      have bx := GA k hlt
      have bb := GB k hlt
      have bs := sign_bd hs1 hs2 bb.1 bb.2
      rw [mixTo, if_neg (by omega)] at hx
      have hst := hR.store hlt (V6.get ⟨a0, a1, a2, a3, a4, a5⟩ k + s * V6.get ⟨b0, b1, b2, b3, b4, b5⟩ k)
      have HST := Lib.hid hst
      have HR := Lib.hid hR
      clear hR hst hx0 GA GB hfr hr hs
      generalize hgx : V6.get ⟨a0, a1, a2, a3, a4, a5⟩ k = x at hx bx HST
      generalize hgy : V6.get ⟨b0, b1, b2, b3, b4, b5⟩ k = y at hy bb bs HST
      have HX := Lib.hid hgx; have HY := Lib.hid hgy
      clear hgx hgy
      go_wp2
      first
        | (go_roundw
           case rel =>
             refine ⟨k + 1, by omega, by go_num, (ArrRel.congr HST.out fun j hj => ?_)⟩
             have := mixTo_step (fun j => V6.get ⟨a0, a1, a2, a3, a4, a5⟩ j + s * V6.get ⟨b0, b1, b2, b3, b4, b5⟩ j) (V6.get ⟨a0, a1, a2, a3, a4, a5⟩) k j
             rw [← this, HX.out, HY.out]
           case measure => simp [intOf]; omega)
        | (go_region
           go_wp2
           go_roundw
           case rel =>
             refine ⟨k + 1, by omega, by go_num, (ArrRel.congr (ArrRel.drew HST.out) fun j hj => ?_)⟩
             have := mixTo_step (fun j => V6.get ⟨a0, a1, a2, a3, a4, a5⟩ j + s * V6.get ⟨b0, b1, b2, b3, b4, b5⟩ j) (V6.get ⟨a0, a1, a2, a3, a4, a5⟩) k j
             rw [← this, HX.out, HY.out]
           case measure => simp [intOf]; omega)
    · obtain rfl : k = 6 := by omega
      have c0 := hR.cell 0 (by omega); have c1 := hR.cell 1 (by omega); have c2 := hR.cell 2 (by omega); have c3 := hR.cell 3 (by omega); have c4 := hR.cell 4 (by omega); have c5 := hR.cell 5 (by omega)
      simp only [mixTo, V6.get] at c0 c1 c2 c3 c4 c5
      have d : ∀ j, j < 6 → wr.cell? ⟨w.heap.size + 1 + 1, j, none⟩ = some (.int .i64 0) := fun j hj => (hR.but.cell (p := ⟨w.heap.size + 1 + 1, j, none⟩) (by (try simp); (try omega)) (by (try simp); (try omega))).trans (hr j hj)
      have d0 := d 0 (by omega); have d1 := d 1 (by omega); have d2 := d 2 (by omega); have d3 := d 3 (by omega); have d4 := d 4 (by omega); have d5 := d 5 (by omega)
      have e : ∀ j, wr.frozen? ⟨w.heap.size + 1 + 1, j, none⟩ = false := fun j => (hR.but.frozen (p := ⟨w.heap.size + 1 + 1, j, none⟩) (by (try simp); (try omega)) (by (try simp); (try omega))).trans (hs j)
      have hgr : Gr w wr := HG.out.but hR.but (by omega) (by omega)
      have hz4 : w.heap.size + 1 + 1 < wr.heap.size := by omega
      have hz5 : w.heap.size < wr.heap.size := by omega
      have HR := Lib.hid hR
      clear hR hx0 GA GB hfr hr hs d
      have hres := HR0.out
      go_wp2_with (go_at_call 34; with_reducible refine (pitchValid_any _ _ _ _ _ _ _).mono ?_; rintro e w' ⟨rfl, hb⟩; have hz := hb.le; obtain ⟨hc, hf⟩ := hb.cells; (try simp only [World.size_alloc] at hc hf hz); (try simp only [World.size_setCell] at hc hf hz); (try simp only [World.size_drew] at hc hf hz))
      refine bodyPost_six ?h6 ?k6
      case h6 =>
        intro j hj
        obtain rfl | rfl | rfl | rfl | rfl | rfl : j = 0 ∨ j = 1 ∨ j = 2 ∨ j = 3 ∨ j = 4 ∨ j = 5 := by omega
        all_goals simp [go_sem, *]
      intro W' hW' s0 s1 s2 s3 s4 s5
      exact bodyPost_ret (v := .tuple #[.agg #[.int .i64 (a0 + s * b0), .int .i64 (a1 + s * b1), .int .i64 (a2 + s * b2), .int .i64 (a3 + s * b3), .int .i64 (a4 + s * b4), .int .i64 (a5 + s * b5)], .int .i64 0]) (by simp [results, Tryz.results70, go_sem, s0, s1, s2, s3, s4, s5]) rfl ⟨rfl, hW' _ (by repeat (first | exact Gr.refl _ | refine Gr.alloc ?_ _ | refine Gr.drew ?_ | refine Gr.trans ?_ (by assumption) | refine Gr.setCell ?_ (by (try simp); (try omega)) _)) (by (try simp); (try omega))⟩

set_option maxHeartbeats 1000000 in
theorem pcombine_out (a0 a1 a2 a3 a4 a5 b0 b1 b2 b3 b4 b5 s : Int) (w : World) (hs1 : -1 ≤ s) (hs2 : s ≤ 1) (hva : allIn ⟨a0, a1, a2, a3, a4, a5⟩ 576 6 = true) (hvb : allIn ⟨b0, b1, b2, b3, b4, b5⟩ 576 6 = true) (hres : allIn ⟨a0 + s * b0, a1 + s * b1, a2 + s * b2, a3 + s * b3, a4 + s * b4, a5 + s * b5⟩ 576 6 = false) :
    Calls Tryz.prog 70 #[.agg #[.int .i64 a0, .int .i64 a1, .int .i64 a2, .int .i64 a3, .int .i64 a4, .int .i64 a5], .agg #[.int .i64 b0, .int .i64 b1, .int .i64 b2, .int .i64 b3, .int .i64 b4, .int .i64 b5], .int .i64 s] w
      fun e w' => e = .returned (.tuple #[.agg #[.int .i64 0, .int .i64 0, .int .i64 0, .int .i64 0, .int .i64 0, .int .i64 0], .int .i64 3]) ∧ Gr w w' := by
  have HR0 := Lib.hid hres
  clear hres
  go_enter Tryz.func70, Tryz.ntmps70
  go_wp2_with (go_at_call 34; with_reducible refine (pitchValid_any _ _ _ _ _ _ _).mono ?_; rintro e w' ⟨rfl, hb⟩; have hz := hb.le; obtain ⟨hc, hf⟩ := hb.cells; (try simp only [World.size_alloc] at hc hf hz); (try simp only [World.size_setCell] at hc hf hz); (try simp only [World.size_drew] at hc hf hz))
  have HA := Lib.hid hva; have HB := Lib.hid hvb; clear hva hvb
  have hg : Gr w w' := (by repeat (first | exact Gr.refl _ | refine Gr.alloc ?_ _ | refine Gr.drew ?_ | refine Gr.trans ?_ (by assumption) | refine Gr.setCell ?_ (by (try simp); (try omega)) _))
  have hx0 : ∀ j, j < 6 → w'.cell? ⟨w.heap.size, j, none⟩ = some (.int .i64 (V6.get ⟨a0, a1, a2, a3, a4, a5⟩ j)) := by
    intro j hj
    obtain rfl | rfl | rfl | rfl | rfl | rfl : j = 0 ∨ j = 1 ∨ j = 2 ∨ j = 3 ∨ j = 4 ∨ j = 5 := by omega
    all_goals simp [go_sem, V6.get, *]
  have hr : ∀ j, j < 6 → w'.cell? ⟨w.heap.size + 1 + 1, j, none⟩ = some (.int .i64 0) := by
    intro j hj
    obtain rfl | rfl | rfl | rfl | rfl | rfl : j = 0 ∨ j = 1 ∨ j = 2 ∨ j = 3 ∨ j = 4 ∨ j = 5 := by omega
    all_goals simp [go_sem, *]
  have hfr : ∀ j, w'.frozen? ⟨w.heap.size, j, none⟩ = false := by
    intro j
    simp [go_sem, *]
  have hs : ∀ j, w'.frozen? ⟨w.heap.size + 1 + 1, j, none⟩ = false := by
    intro j
    simp [go_sem, *]
  have hz3 : w.heap.size + 3 ≤ w'.heap.size := by omega
  have GA := allIn_get HA.out
  have GB := allIn_get HB.out
  clear HA HB
  clear hc hf hz
  have HG := Lib.hid hg
  clear hg
  go_loopw [20] (fun i wr => ∃ k : Nat, k ≤ 6 ∧ i = .int .i64 k ∧ ArrRel 6 (mixTo (fun j => V6.get ⟨a0, a1, a2, a3, a4, a5⟩ j + s * V6.get ⟨b0, b1, b2, b3, b4, b5⟩ j) (V6.get ⟨a0, a1, a2, a3, a4, a5⟩) k) w.heap.size (w.heap.size + 3) w' wr) (fun i _ => 6 - (intOf i).toNat)
  case atStart => exact ⟨0, by omega, rfl, ⟨But.refl _ _ _, hz3, by omega, fun j hj => hx0 j hj, hfr⟩⟩
  case round =>
    obtain ⟨k, hk, rfl, hR⟩ := hrel
    have hsz := hR.size
    by_cases hlt : k < 6
    · have hx := hR.cell k hlt
      have hy := run_index6P b0 b1 b2 b3 b4 b5 k hlt
      have fx := hR.froz k
      have bx := GA k hlt
      have bb := GB k hlt
      have bs := sign_bd hs1 hs2 bb.1 bb.2
      rw [mixTo, if_neg (by omega)] at hx
      have hst := hR.store hlt (V6.get ⟨a0, a1, a2, a3, a4, a5⟩ k + s * V6.get ⟨b0, b1, b2, b3, b4, b5⟩ k)
      have HST := Lib.hid hst
      have HR := Lib.hid hR
      clear hR hst hx0 GA GB hfr hr hs
      generalize hgx : V6.get ⟨a0, a1, a2, a3, a4, a5⟩ k = x at hx bx HST
      generalize hgy : V6.get ⟨b0, b1, b2, b3, b4, b5⟩ k = y at hy bb bs HST
      have HX := Lib.hid hgx; have HY := Lib.hid hgy
      clear hgx hgy
      go_wp2
      first
        | (go_roundw
           case rel =>
             refine ⟨k + 1, by omega, by go_num, (ArrRel.congr HST.out fun j hj => ?_)⟩
             have := mixTo_step (fun j => V6.get ⟨a0, a1, a2, a3, a4, a5⟩ j + s * V6.get ⟨b0, b1, b2, b3, b4, b5⟩ j) (V6.get ⟨a0, a1, a2, a3, a4, a5⟩) k j
             rw [← this, HX.out, HY.out]
           case measure => simp [intOf]; omega)
        | (go_region
           go_wp2
           go_roundw
           case rel =>
             refine ⟨k + 1, by omega, by go_num, (ArrRel.congr (ArrRel.drew HST.out) fun j hj => ?_)⟩
             have := mixTo_step (fun j => V6.get ⟨a0, a1, a2, a3, a4, a5⟩ j + s * V6.get ⟨b0, b1, b2, b3, b4, b5⟩ j) (V6.get ⟨a0, a1, a2, a3, a4, a5⟩) k j
             rw [← this, HX.out, HY.out]
           case measure => simp [intOf]; omega)
    · obtain rfl : k = 6 := by omega
      have c0 := hR.cell 0 (by omega); have c1 := hR.cell 1 (by omega); have c2 := hR.cell 2 (by omega); have c3 := hR.cell 3 (by omega); have c4 := hR.cell 4 (by omega); have c5 := hR.cell 5 (by omega)
      simp only [mixTo, V6.get] at c0 c1 c2 c3 c4 c5
      have d : ∀ j, j < 6 → wr.cell? ⟨w.heap.size + 1 + 1, j, none⟩ = some (.int .i64 0) := fun j hj => (hR.but.cell (p := ⟨w.heap.size + 1 + 1, j, none⟩) (by (try simp); (try omega)) (by (try simp); (try omega))).trans (hr j hj)
      have d0 := d 0 (by omega); have d1 := d 1 (by omega); have d2 := d 2 (by omega); have d3 := d 3 (by omega); have d4 := d 4 (by omega); have d5 := d 5 (by omega)
      have e : ∀ j, wr.frozen? ⟨w.heap.size + 1 + 1, j, none⟩ = false := fun j => (hR.but.frozen (p := ⟨w.heap.size + 1 + 1, j, none⟩) (by (try simp); (try omega)) (by (try simp); (try omega))).trans (hs j)
      have hgr : Gr w wr := HG.out.but hR.but (by omega) (by omega)
      have hz4 : w.heap.size + 1 + 1 < wr.heap.size := by omega
      have hz5 : w.heap.size < wr.heap.size := by omega
      have HR := Lib.hid hR
      clear hR hx0 GA GB hfr hr hs d
      have hres := HR0.out
      go_wp2_with (go_at_call 34; with_reducible refine (pitchValid_any _ _ _ _ _ _ _).mono ?_; rintro e w' ⟨rfl, hb⟩; have hz := hb.le; obtain ⟨hc, hf⟩ := hb.cells; (try simp only [World.size_alloc] at hc hf hz); (try simp only [World.size_setCell] at hc hf hz); (try simp only [World.size_drew] at hc hf hz))
      refine bodyPost_six ?h6 ?k6
      case h6 =>
        intro j hj
        obtain rfl | rfl | rfl | rfl | rfl | rfl : j = 0 ∨ j = 1 ∨ j = 2 ∨ j = 3 ∨ j = 4 ∨ j = 5 := by omega
        all_goals simp [go_sem, *]
      intro W' hW' s0 s1 s2 s3 s4 s5
      exact bodyPost_ret (v := .tuple #[.agg #[.int .i64 0, .int .i64 0, .int .i64 0, .int .i64 0, .int .i64 0, .int .i64 0], .int .i64 3]) (by simp [results, Tryz.results70, go_sem, s0, s1, s2, s3, s4, s5]) rfl ⟨rfl, hW' _ (by repeat (first | exact Gr.refl _ | refine Gr.alloc ?_ _ | refine Gr.drew ?_ | refine Gr.trans ?_ (by assumption) | refine Gr.setCell ?_ (by (try simp); (try omega)) _)) (by (try simp); (try omega))⟩

set_option maxHeartbeats 1000000 in
theorem pcombine_bad1 (a0 a1 a2 a3 a4 a5 b0 b1 b2 b3 b4 b5 s : Int) (w : World) (hva : allIn ⟨a0, a1, a2, a3, a4, a5⟩ 576 6 = false) :
    Calls Tryz.prog 70 #[.agg #[.int .i64 a0, .int .i64 a1, .int .i64 a2, .int .i64 a3, .int .i64 a4, .int .i64 a5], .agg #[.int .i64 b0, .int .i64 b1, .int .i64 b2, .int .i64 b3, .int .i64 b4, .int .i64 b5], .int .i64 s] w
      fun e w' => e = .returned (.tuple #[.agg #[.int .i64 0, .int .i64 0, .int .i64 0, .int .i64 0, .int .i64 0, .int .i64 0], .int .i64 1]) ∧ Gr w w' := by
  go_enter Tryz.func70, Tryz.ntmps70
  go_wp2_with (go_at_call 34; with_reducible refine (pitchValid_any _ _ _ _ _ _ _).mono ?_; rintro e w' ⟨rfl, hb⟩; have hz := hb.le; obtain ⟨hc, hf⟩ := hb.cells; (try simp only [World.size_alloc] at hc hf hz); (try simp only [World.size_setCell] at hc hf hz); (try simp only [World.size_drew] at hc hf hz))
  refine bodyPost_six ?h6 ?k6
  case h6 =>
    intro j hj
    obtain rfl | rfl | rfl | rfl | rfl | rfl : j = 0 ∨ j = 1 ∨ j = 2 ∨ j = 3 ∨ j = 4 ∨ j = 5 := by omega
    all_goals simp [go_sem, *]
  intro W' hW' s0 s1 s2 s3 s4 s5
  exact bodyPost_ret (v := .tuple #[.agg #[.int .i64 0, .int .i64 0, .int .i64 0, .int .i64 0, .int .i64 0, .int .i64 0], .int .i64 1]) (by simp [results, Tryz.results70, go_sem, s0, s1, s2, s3, s4, s5]) rfl ⟨rfl, hW' _ (by repeat (first | exact Gr.refl _ | refine Gr.alloc ?_ _ | refine Gr.drew ?_ | refine Gr.trans ?_ (by assumption) | refine Gr.setCell ?_ (by (try simp); (try omega)) _)) (by (try simp); (try omega))⟩

set_option maxHeartbeats 1000000 in
theorem pcombine_bad2 (a0 a1 a2 a3 a4 a5 b0 b1 b2 b3 b4 b5 s : Int) (w : World) (hva : allIn ⟨a0, a1, a2, a3, a4, a5⟩ 576 6 = true) (hvb : allIn ⟨b0, b1, b2, b3, b4, b5⟩ 576 6 = false) :
    Calls Tryz.prog 70 #[.agg #[.int .i64 a0, .int .i64 a1, .int .i64 a2, .int .i64 a3, .int .i64 a4, .int .i64 a5], .agg #[.int .i64 b0, .int .i64 b1, .int .i64 b2, .int .i64 b3, .int .i64 b4, .int .i64 b5], .int .i64 s] w
      fun e w' => e = .returned (.tuple #[.agg #[.int .i64 0, .int .i64 0, .int .i64 0, .int .i64 0, .int .i64 0, .int .i64 0], .int .i64 1]) ∧ Gr w w' := by
  go_enter Tryz.func70, Tryz.ntmps70
  go_wp2_with (go_at_call 34; with_reducible refine (pitchValid_any _ _ _ _ _ _ _).mono ?_; rintro e w' ⟨rfl, hb⟩; have hz := hb.le; obtain ⟨hc, hf⟩ := hb.cells; (try simp only [World.size_alloc] at hc hf hz); (try simp only [World.size_setCell] at hc hf hz); (try simp only [World.size_drew] at hc hf hz))
  refine bodyPost_six ?h6 ?k6
  case h6 =>
    intro j hj
    obtain rfl | rfl | rfl | rfl | rfl | rfl : j = 0 ∨ j = 1 ∨ j = 2 ∨ j = 3 ∨ j = 4 ∨ j = 5 := by omega
    all_goals simp [go_sem, *]
  intro W' hW' s0 s1 s2 s3 s4 s5
  exact bodyPost_ret (v := .tuple #[.agg #[.int .i64 0, .int .i64 0, .int .i64 0, .int .i64 0, .int .i64 0, .int .i64 0], .int .i64 1]) (by simp [results, Tryz.results70, go_sem, s0, s1, s2, s3, s4, s5]) rfl ⟨rfl, hW' _ (by repeat (first | exact Gr.refl _ | refine Gr.alloc ?_ _ | refine Gr.drew ?_ | refine Gr.trans ?_ (by assumption) | refine Gr.setCell ?_ (by (try simp); (try omega)) _)) (by (try simp); (try omega))⟩

set_option maxHeartbeats 1000000 in
theorem div_ok (a0 a1 a2 a3 a4 a5 b0 b1 b2 b3 b4 b5 : Int) (w : World) (hva : allIn ⟨a0, a1, a2, a3, a4, a5⟩ 576 6 = true) (hvb : allIn ⟨b0, b1, b2, b3, b4, b5⟩ 576 6 = true) (hres : allIn ⟨a0 - b0, a1 - b1, a2 - b2, a3 - b3, a4 - b4, a5 - b5⟩ 576 6 = true) :
    Calls Tryz.prog 49 #[.agg #[.int .i64 a0, .int .i64 a1, .int .i64 a2, .int .i64 a3, .int .i64 a4, .int .i64 a5], .agg #[.int .i64 b0, .int .i64 b1, .int .i64 b2, .int .i64 b3, .int .i64 b4, .int .i64 b5]] w
      fun e w' => e = .returned (.tuple #[.agg #[.int .i64 (a0 - b0), .int .i64 (a1 - b1), .int .i64 (a2 - b2), .int .i64 (a3 - b3), .int .i64 (a4 - b4), .int .i64 (a5 - b5)], .int .i64 0]) ∧ Gr w w' := by
  have q0 : a0 + -1 * b0 = a0 - b0 := by omega
  have q1 : a1 + -1 * b1 = a1 - b1 := by omega
  have q2 : a2 + -1 * b2 = a2 - b2 := by omega
  have q3 : a3 + -1 * b3 = a3 - b3 := by omega
  have q4 : a4 + -1 * b4 = a4 - b4 := by omega
  have q5 : a5 + -1 * b5 = a5 - b5 := by omega
  rw [← q0, ← q1, ← q2, ← q3, ← q4, ← q5] at hres ⊢
  clear q0 q1 q2 q3 q4 q5
  go_enter Tryz.func49, Tryz.ntmps49
  go_wp2_with (go_at_call 70; with_reducible refine (pcombine_ok _ _ _ _ _ _ _ _ _ _ _ _ (-1) _ (by omega) (by omega) hva hvb hres).mono ?_; rintro e w' ⟨rfl, hb⟩; have hz := hb.le; obtain ⟨hc, hf⟩ := hb.cells; (try simp only [World.size_alloc] at hc hf hz); (try simp only [World.size_setCell] at hc hf hz); (try simp only [World.size_drew] at hc hf hz))
  refine bodyPost_six ?h6 ?k6
  case h6 =>
    intro j hj
    obtain rfl | rfl | rfl | rfl | rfl | rfl : j = 0 ∨ j = 1 ∨ j = 2 ∨ j = 3 ∨ j = 4 ∨ j = 5 := by omega
    all_goals simp [go_sem, *]
  intro W' hW' s0 s1 s2 s3 s4 s5
  exact bodyPost_ret (v := .tuple #[.agg #[.int .i64 (a0 + -1 * b0), .int .i64 (a1 + -1 * b1), .int .i64 (a2 + -1 * b2), .int .i64 (a3 + -1 * b3), .int .i64 (a4 + -1 * b4), .int .i64 (a5 + -1 * b5)], .int .i64 0]) (by simp [results, Tryz.results49, go_sem, s0, s1, s2, s3, s4, s5]) rfl ⟨rfl, hW' _ (by repeat (first | exact Gr.refl _ | refine Gr.alloc ?_ _ | refine Gr.drew ?_ | refine Gr.trans ?_ (by assumption) | refine Gr.setCell ?_ (by (try simp); (try omega)) _)) (by (try simp); (try omega))⟩

set_option maxHeartbeats 1000000 in
theorem div_out (a0 a1 a2 a3 a4 a5 b0 b1 b2 b3 b4 b5 : Int) (w : World) (hva : allIn ⟨a0, a1, a2, a3, a4, a5⟩ 576 6 = true) (hvb : allIn ⟨b0, b1, b2, b3, b4, b5⟩ 576 6 = true) (hres : allIn ⟨a0 - b0, a1 - b1, a2 - b2, a3 - b3, a4 - b4, a5 - b5⟩ 576 6 = false) :
    Calls Tryz.prog 49 #[.agg #[.int .i64 a0, .int .i64 a1, .int .i64 a2, .int .i64 a3, .int .i64 a4, .int .i64 a5], .agg #[.int .i64 b0, .int .i64 b1, .int .i64 b2, .int .i64 b3, .int .i64 b4, .int .i64 b5]] w
      fun e w' => e = .returned (.tuple #[.agg #[.int .i64 0, .int .i64 0, .int .i64 0, .int .i64 0, .int .i64 0, .int .i64 0], .int .i64 3]) ∧ Gr w w' := by
  have q0 : a0 + -1 * b0 = a0 - b0 := by omega
  have q1 : a1 + -1 * b1 = a1 - b1 := by omega
  have q2 : a2 + -1 * b2 = a2 - b2 := by omega
  have q3 : a3 + -1 * b3 = a3 - b3 := by omega
  have q4 : a4 + -1 * b4 = a4 - b4 := by omega
  have q5 : a5 + -1 * b5 = a5 - b5 := by omega
  rw [← q0, ← q1, ← q2, ← q3, ← q4, ← q5] at hres
  clear q0 q1 q2 q3 q4 q5
  go_enter Tryz.func49, Tryz.ntmps49
  go_wp2_with (go_at_call 70; with_reducible refine (pcombine_out _ _ _ _ _ _ _ _ _ _ _ _ (-1) _ (by omega) (by omega) hva hvb hres).mono ?_; rintro e w' ⟨rfl, hb⟩; have hz := hb.le; obtain ⟨hc, hf⟩ := hb.cells; (try simp only [World.size_alloc] at hc hf hz); (try simp only [World.size_setCell] at hc hf hz); (try simp only [World.size_drew] at hc hf hz))
  refine bodyPost_six ?h6 ?k6
  case h6 =>
    intro j hj
    obtain rfl | rfl | rfl | rfl | rfl | rfl : j = 0 ∨ j = 1 ∨ j = 2 ∨ j = 3 ∨ j = 4 ∨ j = 5 := by omega
    all_goals simp [go_sem, *]
  intro W' hW' s0 s1 s2 s3 s4 s5
  exact bodyPost_ret (v := .tuple #[.agg #[.int .i64 0, .int .i64 0, .int .i64 0, .int .i64 0, .int .i64 0, .int .i64 0], .int .i64 3]) (by simp [results, Tryz.results49, go_sem, s0, s1, s2, s3, s4, s5]) rfl ⟨rfl, hW' _ (by repeat (first | exact Gr.refl _ | refine Gr.alloc ?_ _ | refine Gr.drew ?_ | refine Gr.trans ?_ (by assumption) | refine Gr.setCell ?_ (by (try simp); (try omega)) _)) (by (try simp); (try omega))⟩

set_option maxHeartbeats 1000000 in
theorem div_bad1 (a0 a1 a2 a3 a4 a5 b0 b1 b2 b3 b4 b5 : Int) (w : World) (hva : allIn ⟨a0, a1, a2, a3, a4, a5⟩ 576 6 = false) :
    Calls Tryz.prog 49 #[.agg #[.int .i64 a0, .int .i64 a1, .int .i64 a2, .int .i64 a3, .int .i64 a4, .int .i64 a5], .agg #[.int .i64 b0, .int .i64 b1, .int .i64 b2, .int .i64 b3, .int .i64 b4, .int .i64 b5]] w
      fun e w' => e = .returned (.tuple #[.agg #[.int .i64 0, .int .i64 0, .int .i64 0, .int .i64 0, .int .i64 0, .int .i64 0], .int .i64 1]) ∧ Gr w w' := by
  go_enter Tryz.func49, Tryz.ntmps49
  go_wp2_with (go_at_call 70; with_reducible refine (pcombine_bad1 _ _ _ _ _ _ _ _ _ _ _ _ (-1) _ hva).mono ?_; rintro e w' ⟨rfl, hb⟩; have hz := hb.le; obtain ⟨hc, hf⟩ := hb.cells; (try simp only [World.size_alloc] at hc hf hz); (try simp only [World.size_setCell] at hc hf hz); (try simp only [World.size_drew] at hc hf hz))
  refine bodyPost_six ?h6 ?k6
  case h6 =>
    intro j hj
    obtain rfl | rfl | rfl | rfl | rfl | rfl : j = 0 ∨ j = 1 ∨ j = 2 ∨ j = 3 ∨ j = 4 ∨ j = 5 := by omega
    all_goals simp [go_sem, *]
  intro W' hW' s0 s1 s2 s3 s4 s5
  exact bodyPost_ret (v := .tuple #[.agg #[.int .i64 0, .int .i64 0, .int .i64 0, .int .i64 0, .int .i64 0, .int .i64 0], .int .i64 1]) (by simp [results, Tryz.results49, go_sem, s0, s1, s2, s3, s4, s5]) rfl ⟨rfl, hW' _ (by repeat (first | exact Gr.refl _ | refine Gr.alloc ?_ _ | refine Gr.drew ?_ | refine Gr.trans ?_ (by assumption) | refine Gr.setCell ?_ (by (try simp); (try omega)) _)) (by (try simp); (try omega))⟩

set_option maxHeartbeats 1000000 in
theorem div_bad2 (a0 a1 a2 a3 a4 a5 b0 b1 b2 b3 b4 b5 : Int) (w : World) (hva : allIn ⟨a0, a1, a2, a3, a4, a5⟩ 576 6 = true) (hvb : allIn ⟨b0, b1, b2, b3, b4, b5⟩ 576 6 = false) :
    Calls Tryz.prog 49 #[.agg #[.int .i64 a0, .int .i64 a1, .int .i64 a2, .int .i64 a3, .int .i64 a4, .int .i64 a5], .agg #[.int .i64 b0, .int .i64 b1, .int .i64 b2, .int .i64 b3, .int .i64 b4, .int .i64 b5]] w
      fun e w' => e = .returned (.tuple #[.agg #[.int .i64 0, .int .i64 0, .int .i64 0, .int .i64 0, .int .i64 0, .int .i64 0], .int .i64 1]) ∧ Gr w w' := by
  go_enter Tryz.func49, Tryz.ntmps49
  go_wp2_with (go_at_call 70; with_reducible refine (pcombine_bad2 _ _ _ _ _ _ _ _ _ _ _ _ (-1) _ hva hvb).mono ?_; rintro e w' ⟨rfl, hb⟩; have hz := hb.le; obtain ⟨hc, hf⟩ := hb.cells; (try simp only [World.size_alloc] at hc hf hz); (try simp only [World.size_setCell] at hc hf hz); (try simp only [World.size_drew] at hc hf hz))
  refine bodyPost_six ?h6 ?k6
  case h6 =>
    intro j hj
    obtain rfl | rfl | rfl | rfl | rfl | rfl : j = 0 ∨ j = 1 ∨ j = 2 ∨ j = 3 ∨ j = 4 ∨ j = 5 := by omega
    all_goals simp [go_sem, *]
  intro W' hW' s0 s1 s2 s3 s4 s5
  exact bodyPost_ret (v := .tuple #[.agg #[.int .i64 0, .int .i64 0, .int .i64 0, .int .i64 0, .int .i64 0, .int .i64 0], .int .i64 1]) (by simp [results, Tryz.results49, go_sem, s0, s1, s2, s3, s4, s5]) rfl ⟨rfl, hW' _ (by repeat (first | exact Gr.refl _ | refine Gr.alloc ?_ _ | refine Gr.drew ?_ | refine Gr.trans ?_ (by assumption) | refine Gr.setCell ?_ (by (try simp); (try omega)) _)) (by (try simp); (try omega))⟩
end Go.Proofs.YtelhmdhhabgihaaGreatDoor
