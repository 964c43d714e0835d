import Derived.Test.YtmealmnjeoehiaaDoorRef4
namespace Go.Proofs.YtmealmnjeoehiaaDoor
open Go.RowKit

set_option maxHeartbeats 1000000 in
theorem rof_ok (p0 p1 p2 p3 p4 p5 : Int) (w : World) (hva : allIn ⟨p0, p1, p2, p3, p4, p5⟩ 576 6 = true) :
    Calls Tryd.prog 27 #[.agg #[.int .i64 p0, .int .i64 p1, .int .i64 p2, .int .i64 p3, .int .i64 p4, .int .i64 p5]] w
      fun e w' => e = .returned (.tuple #[.agg #[.int .i64 (sumLo ⟨p0, p1, p2, p3, p4, p5⟩ 6), .int .i64 (sumHi ⟨p0, p1, p2, p3, p4, p5⟩ 6)], .int .i64 0]) ∧ Gr w w' := by
  have hv2 := Lib.hid (allIn_mono hva (show (576 : Int) ≤ 1152 by omega))
  go_enter Tryd.func27, Tryd.ntmps27
  go_wp2_with (first | (go_at_call 46; with_reducible refine (r3valid_any _ _ _ _ _ _ _).mono ?_; rintro e w' ⟨rfl, hb⟩; have hz := hb.le; obtain ⟨hc, hf⟩ := hb.cells; (try simp only [World.size_alloc] at hc hf hz); (try simp only [World.size_setCell] at hc hf hz); (try simp only [World.size_drew] at hc hf hz)) | (go_at_call 47; with_reducible refine (rexponents_any _ _ _ _ _ _ _ hv2.out).mono ?_; rintro e w' ⟨rfl, hb⟩; have hz := hb.le; obtain ⟨hc, hf⟩ := hb.cells; (try simp only [World.size_alloc] at hc hf hz); (try simp only [World.size_setCell] at hc hf hz); (try simp only [World.size_drew] at hc hf hz)))
  exact bodyPost_ret (v := .tuple #[.agg #[.int .i64 (sumLo ⟨p0, p1, p2, p3, p4, p5⟩ 6), .int .i64 (sumHi ⟨p0, p1, p2, p3, p4, p5⟩ 6)], .int .i64 0]) (by simp [results, Tryd.results27, go_sem, *]) rfl ⟨rfl, (by repeat (first | exact Gr.refl _ | refine Gr.alloc ?_ _ | refine Gr.drew ?_ | refine Gr.trans ?_ (by assumption) | refine Gr.setCell ?_ (by (try simp); (try omega)) _))⟩
set_option maxHeartbeats 1000000 in
theorem rof_bad (p0 p1 p2 p3 p4 p5 : Int) (w : World) (hva : allIn ⟨p0, p1, p2, p3, p4, p5⟩ 576 6 = false) :
    Calls Tryd.prog 27 #[.agg #[.int .i64 p0, .int .i64 p1, .int .i64 p2, .int .i64 p3, .int .i64 p4, .int .i64 p5]] w fun e w' => e = .returned (.tuple #[.agg #[.int .i64 0, .int .i64 0], .int .i64 1]) ∧ Gr w w' := by
  go_enter Tryd.func27, Tryd.ntmps27
  go_wp2_with (go_at_call 46; with_reducible refine (r3valid_any _ _ _ _ _ _ _).mono ?_; rintro e w' ⟨rfl, hb⟩; have hz := hb.le; obtain ⟨hc, hf⟩ := hb.cells; (try simp only [World.size_alloc] at hc hf hz); (try simp only [World.size_setCell] at hc hf hz); (try simp only [World.size_drew] at hc hf hz))
  exact bodyPost_ret (v := .tuple #[.agg #[.int .i64 0, .int .i64 0], .int .i64 1]) (by simp [results, Tryd.results27, go_sem, *]) rfl ⟨rfl, (by repeat (first | exact Gr.refl _ | refine Gr.alloc ?_ _ | refine Gr.drew ?_ | refine Gr.trans ?_ (by assumption) | refine Gr.setCell ?_ (by (try simp); (try omega)) _))⟩
set_option maxHeartbeats 1000000 in
theorem rgap_bad1 (p0 p1 p2 p3 p4 p5 q0 q1 q2 q3 q4 q5 : Int) (w : World) (hva : allIn ⟨p0, p1, p2, p3, p4, p5⟩ 576 6 = false) :
    Calls Tryd.prog 29 #[.agg #[.int .i64 p0, .int .i64 p1, .int .i64 p2, .int .i64 p3, .int .i64 p4, .int .i64 p5], .agg #[.int .i64 q0, .int .i64 q1, .int .i64 q2, .int .i64 q3, .int .i64 q4, .int .i64 q5]] w fun e w' => e = .returned (.tuple #[.agg #[.int .i64 0, .int .i64 0], .int .i64 1]) ∧ Gr w w' := by
  go_enter Tryd.func29, Tryd.ntmps29
  go_wp2_with (go_at_call 46; with_reducible refine (r3valid_any _ _ _ _ _ _ _).mono ?_; rintro e w' ⟨rfl, hb⟩; have hz := hb.le; obtain ⟨hc, hf⟩ := hb.cells; (try simp only [World.size_alloc] at hc hf hz); (try simp only [World.size_setCell] at hc hf hz); (try simp only [World.size_drew] at hc hf hz))
  exact bodyPost_ret (v := .tuple #[.agg #[.int .i64 0, .int .i64 0], .int .i64 1]) (by simp [results, Tryd.results29, go_sem, *]) rfl ⟨rfl, (by repeat (first | exact Gr.refl _ | refine Gr.alloc ?_ _ | refine Gr.drew ?_ | refine Gr.trans ?_ (by assumption) | refine Gr.setCell ?_ (by (try simp); (try omega)) _))⟩
set_option maxHeartbeats 1000000 in
theorem rgap_bad2 (p0 p1 p2 p3 p4 p5 q0 q1 q2 q3 q4 q5 : Int) (w : World) (hva : allIn ⟨p0, p1, p2, p3, p4, p5⟩ 576 6 = true) (hvb : allIn ⟨q0, q1, q2, q3, q4, q5⟩ 576 6 = false) :
    Calls Tryd.prog 29 #[.agg #[.int .i64 p0, .int .i64 p1, .int .i64 p2, .int .i64 p3, .int .i64 p4, .int .i64 p5], .agg #[.int .i64 q0, .int .i64 q1, .int .i64 q2, .int .i64 q3, .int .i64 q4, .int .i64 q5]] w fun e w' => e = .returned (.tuple #[.agg #[.int .i64 0, .int .i64 0], .int .i64 1]) ∧ Gr w w' := by
  go_enter Tryd.func29, Tryd.ntmps29
  go_wp2_with (go_at_call 46; with_reducible refine (r3valid_any _ _ _ _ _ _ _).mono ?_; rintro e w' ⟨rfl, hb⟩; have hz := hb.le; obtain ⟨hc, hf⟩ := hb.cells; (try simp only [World.size_alloc] at hc hf hz); (try simp only [World.size_setCell] at hc hf hz); (try simp only [World.size_drew] at hc hf hz))
  exact bodyPost_ret (v := .tuple #[.agg #[.int .i64 0, .int .i64 0], .int .i64 1]) (by simp [results, Tryd.results29, go_sem, *]) rfl ⟨rfl, (by repeat (first | exact Gr.refl _ | refine Gr.alloc ?_ _ | refine Gr.drew ?_ | refine Gr.trans ?_ (by assumption) | refine Gr.setCell ?_ (by (try simp); (try omega)) _))⟩

set_option maxHeartbeats 2000000 in
theorem rgap_ok (p0 p1 p2 p3 p4 p5 q0 q1 q2 q3 q4 q5 : Int) (w : World) (hva : allIn ⟨p0, p1, p2, p3, p4, p5⟩ 576 6 = true) (hvb : allIn ⟨q0, q1, q2, q3, q4, q5⟩ 576 6 = true) :
    Calls Tryd.prog 29 #[.agg #[.int .i64 p0, .int .i64 p1, .int .i64 p2, .int .i64 p3, .int .i64 p4, .int .i64 p5], .agg #[.int .i64 q0, .int .i64 q1, .int .i64 q2, .int .i64 q3, .int .i64 q4, .int .i64 q5]] w
      fun e w' => e = .returned (.tuple #[.agg #[.int .i64 (sumLo ⟨p0 - q0, p1 - q1, p2 - q2, p3 - q3, p4 - q4, p5 - q5⟩ 6), .int .i64 (sumHi ⟨p0 - q0, p1 - q1, p2 - q2, p3 - q3, p4 - q4, p5 - q5⟩ 6)], .int .i64 0]) ∧ Gr w w' := by
  have HSUB := Lib.hid (sub_in' hva hvb)
  go_enter Tryd.func29, Tryd.ntmps29
  go_wp2_with (go_at_call 46; with_reducible refine (r3valid_any _ _ _ _ _ _ _).mono ?_; rintro e w' ⟨rfl, hb⟩; have hz := hb.le; obtain ⟨hc, hf⟩ := hb.cells; (try simp only [World.size_alloc] at hc hf hz); (try simp only [World.size_setCell] at hc hf hz); (try simp only [World.size_drew] at hc hf hz))
  have HA := Lib.hid hva; have HB := Lib.hid hvb; clear hva hvb
  have hg : Gr w (w'.alloc (.cells #[.int .i64 0, .int .i64 0, .int .i64 0, .int .i64 0, .int .i64 0, .int .i64 0] 35)) := (by repeat (first | with_reducible exact Gr.refl _ | with_reducible refine Gr.alloc ?_ _ | with_reducible refine Gr.drew ?_ | with_reducible refine Gr.trans ?_ (by assumption) | with_reducible refine Gr.setCell ?_ (by (try simp); (try omega)) _))
  have hx0 : ∀ j, j < 6 → (w'.alloc (.cells #[.int .i64 0, .int .i64 0, .int .i64 0, .int .i64 0, .int .i64 0, .int .i64 0] 35)).cell? ⟨w.heap.size, j, none⟩ = some (.int .i64 (V6.get ⟨p0, p1, p2, p3, p4, p5⟩ j)) := by
    intro j hj
    obtain rfl | rfl | rfl | rfl | rfl | rfl : j = 0 ∨ j = 1 ∨ j = 2 ∨ j = 3 ∨ j = 4 ∨ j = 5 := by omega
    all_goals simp [go_sem, V6.get, *]
  have hy0 : ∀ j, j < 6 → (w'.alloc (.cells #[.int .i64 0, .int .i64 0, .int .i64 0, .int .i64 0, .int .i64 0, .int .i64 0] 35)).cell? ⟨w.heap.size + 1, j, none⟩ = some (.int .i64 (V6.get ⟨q0, q1, q2, q3, q4, q5⟩ j)) := by
    intro j hj
    obtain rfl | rfl | rfl | rfl | rfl | rfl : j = 0 ∨ j = 1 ∨ j = 2 ∨ j = 3 ∨ j = 4 ∨ j = 5 := by omega
    all_goals simp [go_sem, V6.get, *]
  have hr0 : ∀ j, j < 2 → (w'.alloc (.cells #[.int .i64 0, .int .i64 0, .int .i64 0, .int .i64 0, .int .i64 0, .int .i64 0] 35)).cell? ⟨w.heap.size + 1 + 1, j, none⟩ = some (.int .i64 0) := by
    intro j hj
    obtain rfl | rfl : j = 0 ∨ j = 1 := by omega
    all_goals simp [go_sem, *]
  have hs0 : ∀ j, (w'.alloc (.cells #[.int .i64 0, .int .i64 0, .int .i64 0, .int .i64 0, .int .i64 0, .int .i64 0] 35)).frozen? ⟨w.heap.size + 1 + 1, j, none⟩ = false := by
    intro j
    simp [go_sem, *]
  have hd0 : ∀ j, j < 6 → (w'.alloc (.cells #[.int .i64 0, .int .i64 0, .int .i64 0, .int .i64 0, .int .i64 0, .int .i64 0] 35)).cell? ⟨w'.heap.size, j, none⟩ = some (.int .i64 0) := by
    intro j hj
    obtain rfl | rfl | rfl | rfl | rfl | rfl : j = 0 ∨ j = 1 ∨ j = 2 ∨ j = 3 ∨ j = 4 ∨ j = 5 := by omega
    all_goals simp [go_sem]
  have hdf : ∀ j, (w'.alloc (.cells #[.int .i64 0, .int .i64 0, .int .i64 0, .int .i64 0, .int .i64 0, .int .i64 0] 35)).frozen? ⟨w'.heap.size, j, none⟩ = false := by
    intro j
    simp [go_sem]
  have hwz : (w'.alloc (.cells #[.int .i64 0, .int .i64 0, .int .i64 0, .int .i64 0, .int .i64 0, .int .i64 0] 35)).heap.size = w'.heap.size + 1 := by simp
  have hz3 : w.heap.size + 3 ≤ w'.heap.size := by omega
  generalize w'.alloc (.cells #[.int .i64 0, .int .i64 0, .int .i64 0, .int .i64 0, .int .i64 0, .int .i64 0] 35) = w1 at hg hx0 hy0 hr0 hs0 hd0 hdf hwz ⊢
  generalize hS : w'.heap.size = S at hd0 hdf hwz hz3 ⊢
  have GA := allIn_get HA.out
  have GB := allIn_get HB.out
  clear HA HB hc hf hz hS
  have HG := Lib.hid hg
  have HWZ := Lib.hid hwz
  clear hg hwz
  go_loopw [7] (fun i wr => ∃ k : Nat, k ≤ 6 ∧ i = .int .i64 k ∧ ArrRel 6 (mixTo (fun j => V6.get ⟨p0, p1, p2, p3, p4, p5⟩ j - V6.get ⟨q0, q1, q2, q3, q4, q5⟩ j) (fun _ => 0) k) S (S + 1) w1 wr) (fun i _ => 6 - (intOf i).toNat)
  case atStart => exact ⟨0, by omega, rfl, ⟨But.refl _ _ _, by rw [HWZ.out]; omega, by omega, fun j hj => hd0 j hj, hdf⟩⟩
  case round =>
    obtain ⟨k, hk, rfl, hR⟩ := hrel
    have hsz := hR.size
    by_cases hlt : k < 6
    · have hx := (hR.but.cell (p := ⟨w.heap.size, k, none⟩) (by (try simp); (try omega)) (by (try simp); (try omega))).trans (hx0 k hlt)
      have hy := (hR.but.cell (p := ⟨w.heap.size + 1, k, none⟩) (by (try simp); (try omega)) (by (try simp); (try omega))).trans (hy0 k hlt)
      have ho := hR.cell k hlt
      have fx := hR.froz k
      have bx := GA k hlt
      have bb := GB k hlt
      rw [mixTo, if_neg (by omega)] at ho
      have hst := hR.store hlt (V6.get ⟨p0, p1, p2, p3, p4, p5⟩ k - V6.get ⟨q0, q1, q2, q3, q4, q5⟩ k)
      have HST := Lib.hid hst
      have HR := Lib.hid hR
      clear hR hst hx0 hy0 hr0 hs0 hd0 hdf GA GB
      generalize hgx : V6.get ⟨p0, p1, p2, p3, p4, p5⟩ k = x at hx bx HST
      generalize hgy : V6.get ⟨q0, q1, q2, q3, q4, q5⟩ k = y at hy bb HST
      have HX := Lib.hid hgx; have HY := Lib.hid hgy
      clear hgx hgy
      go_wp2
      go_region
      go_wp2
      go_roundw
      case rel =>
        refine ⟨k + 1, by omega, by go_num, (ArrRel.congr (ArrRel.drew HST.out) fun j hj => ?_)⟩
        have := mixTo_step (fun j => V6.get ⟨p0, p1, p2, p3, p4, p5⟩ j - V6.get ⟨q0, q1, q2, q3, q4, q5⟩ j) (fun _ => 0) k j
        rw [← this, HX.out, HY.out]
      case measure => simp [intOf]; omega
    · obtain rfl : k = 6 := by omega
      have c0 := hR.cell 0 (by omega); have c1 := hR.cell 1 (by omega); have c2 := hR.cell 2 (by omega); have c3 := hR.cell 3 (by omega); have c4 := hR.cell 4 (by omega); have c5 := hR.cell 5 (by omega)
      simp only [mixTo, V6.get] at c0 c1 c2 c3 c4 c5
      have d0 := (hR.but.cell (p := ⟨w.heap.size + 1 + 1, 0, none⟩) (by (try simp); (try omega)) (by (try simp); (try omega))).trans (hr0 0 (by omega))
      have d1 := (hR.but.cell (p := ⟨w.heap.size + 1 + 1, 1, none⟩) (by (try simp); (try omega)) (by (try simp); (try omega))).trans (hr0 1 (by omega))
      have e0 := (hR.but.frozen (p := ⟨w.heap.size + 1 + 1, 0, none⟩) (by (try simp); (try omega)) (by (try simp); (try omega))).trans (hs0 0)
      have e1 := (hR.but.frozen (p := ⟨w.heap.size + 1 + 1, 1, none⟩) (by (try simp); (try omega)) (by (try simp); (try omega))).trans (hs0 1)
      have hgr : Gr w wr := HG.out.but hR.but (by omega) (by omega)
      have hz4 : w.heap.size + 1 + 1 < wr.heap.size := by omega
      have HR := Lib.hid hR
      clear hR hx0 hy0 hr0 hs0 hd0 hdf GA GB
      go_wp2_with (go_at_call 47; with_reducible refine (rexponents_any _ _ _ _ _ _ _ HSUB.out).mono ?_; rintro e w' ⟨rfl, hb⟩; have hz := hb.le; obtain ⟨hc, hf⟩ := hb.cells; (try simp only [World.size_alloc] at hc hf hz); (try simp only [World.size_setCell] at hc hf hz); (try simp only [World.size_drew] at hc hf hz))
      exact bodyPost_ret (v := .tuple #[.agg #[.int .i64 (sumLo ⟨p0 - q0, p1 - q1, p2 - q2, p3 - q3, p4 - q4, p5 - q5⟩ 6), .int .i64 (sumHi ⟨p0 - q0, p1 - q1, p2 - q2, p3 - q3, p4 - q4, p5 - q5⟩ 6)], .int .i64 0]) (by simp [results, Tryd.results29, go_sem, *]) rfl ⟨rfl, (by repeat (first | exact Gr.refl _ | refine Gr.alloc ?_ _ | refine Gr.drew ?_ | refine Gr.trans ?_ (by assumption) | refine Gr.setCell ?_ (by (try simp); (try omega)) _))⟩
end Go.Proofs.YtmealmnjeoehiaaDoor
