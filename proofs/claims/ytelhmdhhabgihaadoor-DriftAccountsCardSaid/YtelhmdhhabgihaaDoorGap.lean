import Derived.Test.YtelhmdhhabgihaaDoorExps
namespace Go.Proofs.YtelhmdhhabgihaaDoor
open Go.RowKit

/-- The difference of six numbers and six others. -/

theorem sub_in {u v : V6} (hu : allIn u 576 6 = true) (hv : allIn v 576 6 = true) : allIn (u.sub v) 1152 6 = true := by
  have g := allIn_get hu
  have h := allIn_get hv
  have g0 := g 0 (by omega); have g1 := g 1 (by omega); have g2 := g 2 (by omega); have g3 := g 3 (by omega); have g4 := g 4 (by omega); have g5 := g 5 (by omega)
  have h0 := h 0 (by omega); have h1 := h 1 (by omega); have h2 := h 2 (by omega); have h3 := h 3 (by omega); have h4 := h 4 (by omega); have h5 := h 5 (by omega)
  simp only [V6.get] at *
  simp only [allIn, V6.get, V6.sub, Bool.and_eq_true, decide_eq_true_eq, true_and]
  refine ⟨⟨⟨⟨⟨⟨⟨⟨⟨⟨⟨?_, ?_⟩, ?_⟩, ?_⟩, ?_⟩, ?_⟩, ?_⟩, ?_⟩, ?_⟩, ?_⟩, ?_⟩, ?_⟩ <;> omega

/-- Six numbers of which the first k are those of one, the rest those of another. -/
def mixTo (u v : Nat → Int) (k : Nat) (j : Nat) : Int := if j < k then u j else v j
theorem mixTo_step (u v : Nat → Int) (k : Nat) (j : Nat) : (if j = k then u k else mixTo u v k j) = mixTo u v (k + 1) j := by
  unfold mixTo
  by_cases h : j = k
  · subst h; simp
  · rw [if_neg h]
    by_cases h' : j < k
    · rw [if_pos h', if_pos (by omega)]
    · rw [if_neg h', if_neg (by omega)]

theorem sub_in' {a0 a1 a2 a3 a4 a5 b0 b1 b2 b3 b4 b5 : Int} (ha : allIn ⟨a0, a1, a2, a3, a4, a5⟩ 576 6 = true) (hb : allIn ⟨b0, b1, b2, b3, b4, b5⟩ 576 6 = true) : allIn ⟨a0 - b0, a1 - b1, a2 - b2, a3 - b3, a4 - b4, a5 - b5⟩ 1152 6 = true := by
  have := sub_in ha hb
  simpa only [V6.sub] using this

set_option maxHeartbeats 1000000 in
theorem gap_ok (a0 a1 a2 a3 a4 a5 b0 b1 b2 b3 b4 b5 : Int) (w : World) (hL : Logs w) (hva : allIn ⟨a0, a1, a2, a3, a4, a5⟩ 576 6 = true) (hvb : allIn ⟨b0, b1, b2, b3, b4, b5⟩ 576 6 = true) :
    Calls Tryd.prog 40 #[.agg #[.int .i64 a0, .int .i64 a1, .int .i64 a2, .int .i64 a3, .int .i64 a4, .int .i64 a5], .agg #[.int .i64 b0, .int .i64 b1, .int .i64 b2, .int .i64 b3, .int .i64 b4, .int .i64 b5]] w
      fun e w' => e = .returned (.tuple #[.agg #[.int .i64 (sumLo ⟨a0 - b0, a1 - b1, a2 - b2, a3 - b3, a4 - b4, a5 - b5⟩ 6), .int .i64 (sumHi ⟨a0 - b0, a1 - b1, a2 - b2, a3 - b3, a4 - b4, a5 - b5⟩ 6)], .int .i64 0]) ∧ Gr w w' := by
  have HL := Lib.hid hL
  clear hL
  go_enter Tryd.func40, Tryd.ntmps40
  go_wp2_with (go_at_call 35; with_reducible refine (pitchValid_any _ _ _ _ _ _ _).mono ?_; rintro e w' ⟨rfl, hb⟩; have hz := hb.le; obtain ⟨hc, hf⟩ := hb.cells; (try simp only [World.size_alloc] at hc hf hz); (try simp only [World.size_setCell] at hc hf hz); (try simp only [World.size_drew] at hc hf hz))
  have HA := Lib.hid hva; have HB := Lib.hid hvb; clear hva hvb
  have hg : Gr w w' := (by repeat (first | exact Gr.refl _ | refine Gr.alloc ?_ _ | refine Gr.drew ?_ | refine Gr.trans ?_ (by assumption) | refine Gr.setCell ?_ (by (try simp); (try omega)) _))
  have hx0 : ∀ j, j < 6 → w'.cell? ⟨w.heap.size, j, none⟩ = some (.int .i64 (V6.get ⟨a0, a1, a2, a3, a4, a5⟩ j)) := by
    intro j hj
    obtain rfl | rfl | rfl | rfl | rfl | rfl : j = 0 ∨ j = 1 ∨ j = 2 ∨ j = 3 ∨ j = 4 ∨ j = 5 := by omega
    all_goals simp [go_sem, V6.get, *]
  have hy0 : ∀ j, j < 6 → w'.cell? ⟨w.heap.size + 1, j, none⟩ = some (.int .i64 (V6.get ⟨b0, b1, b2, b3, b4, b5⟩ j)) := by
    intro j hj
    obtain rfl | rfl | rfl | rfl | rfl | rfl : j = 0 ∨ j = 1 ∨ j = 2 ∨ j = 3 ∨ j = 4 ∨ j = 5 := by omega
    all_goals simp [go_sem, V6.get, *]
  have hfr : ∀ j, w'.frozen? ⟨w.heap.size, j, none⟩ = false := by
    intro j
    simp [go_sem, *]
  have hr0 : w'.cell? ⟨w.heap.size + 1 + 1, 0, none⟩ = some (.int .i64 0) := by simp [go_sem, *]
  have hr1 : w'.cell? ⟨w.heap.size + 1 + 1, 1, none⟩ = some (.int .i64 0) := by simp [go_sem, *]
  have hs0 : w'.frozen? ⟨w.heap.size + 1 + 1, 0, none⟩ = false := by simp [go_sem, *]
  have hs1 : w'.frozen? ⟨w.heap.size + 1 + 1, 1, none⟩ = false := by simp [go_sem, *]
  have hz3 : w.heap.size + 3 ≤ w'.heap.size := by omega
  have GA := allIn_get HA.out
  have GB := allIn_get HB.out
  have HSUB := Lib.hid (sub_in' HA.out HB.out)
  clear HA HB
  clear hc hf hz
  have HG := Lib.hid hg
  clear hg
  have HLw := Lib.hid (HL.out.keep HG.out)
  go_loopw [16] (fun i wr => ∃ k : Nat, k ≤ 6 ∧ i = .int .i64 k ∧ ArrRel 6 (mixTo (fun j => V6.get ⟨a0, a1, a2, a3, a4, a5⟩ j - V6.get ⟨b0, b1, b2, b3, b4, b5⟩ j) (V6.get ⟨a0, a1, a2, a3, a4, a5⟩) k) w.heap.size (w.heap.size + 3) w' wr) (fun i _ => 6 - (intOf i).toNat)
  case atStart => exact ⟨0, by omega, rfl, ⟨But.refl _ _ _, hz3, by omega, fun j hj => hx0 j hj, hfr⟩⟩
  case round =>
    obtain ⟨k, hk, rfl, hR⟩ := hrel
    have hsz := hR.size
    by_cases hlt : k < 6
    · have hx := hR.cell k hlt
      have hy := (hR.but.cell (p := ⟨w.heap.size + 1, k, none⟩) (by (try simp); (try omega)) (by (try simp); (try omega))).trans (hy0 k hlt)
      have fx := hR.froz k
      have bx := GA k hlt
      have bb := GB k hlt
      rw [mixTo, if_neg (by omega)] at hx
      have hst := hR.store hlt (V6.get ⟨a0, a1, a2, a3, a4, a5⟩ k - V6.get ⟨b0, b1, b2, b3, b4, b5⟩ k)
      have HST := Lib.hid hst
      have HR := Lib.hid hR
      clear hR hst hx0 hy0 GA GB hfr
      generalize hgx : V6.get ⟨a0, a1, a2, a3, a4, a5⟩ k = x at hx bx HST
      generalize hgy : V6.get ⟨b0, b1, b2, b3, b4, b5⟩ k = y at hy bb HST
      have HX := Lib.hid hgx; have HY := Lib.hid hgy
      clear hgx hgy
      go_wp2
      go_region
      go_wp2
      go_roundw
      case rel =>
        refine ⟨k + 1, by omega, by go_num, (ArrRel.congr (ArrRel.drew HST.out) fun j hj => ?_)⟩
        have := mixTo_step (fun j => V6.get ⟨a0, a1, a2, a3, a4, a5⟩ j - V6.get ⟨b0, b1, b2, b3, b4, b5⟩ j) (V6.get ⟨a0, a1, a2, a3, a4, a5⟩) k j
        rw [← this, HX.out, HY.out]
      case measure => simp [intOf]; omega
    · obtain rfl : k = 6 := by omega
      have c0 := hR.cell 0 (by omega); have c1 := hR.cell 1 (by omega); have c2 := hR.cell 2 (by omega); have c3 := hR.cell 3 (by omega); have c4 := hR.cell 4 (by omega); have c5 := hR.cell 5 (by omega)
      simp only [mixTo, V6.get] at c0 c1 c2 c3 c4 c5
      have d0 := (hR.but.cell (p := ⟨w.heap.size + 1 + 1, 0, none⟩) (by (try simp); (try omega)) (by (try simp); (try omega))).trans hr0
      have d1 := (hR.but.cell (p := ⟨w.heap.size + 1 + 1, 1, none⟩) (by (try simp); (try omega)) (by (try simp); (try omega))).trans hr1
      have e0 := (hR.but.frozen (p := ⟨w.heap.size + 1 + 1, 0, none⟩) (by (try simp); (try omega)) (by (try simp); (try omega))).trans hs0
      have e1 := (hR.but.frozen (p := ⟨w.heap.size + 1 + 1, 1, none⟩) (by (try simp); (try omega)) (by (try simp); (try omega))).trans hs1
      have hgr : Gr w wr := HG.out.but hR.but (by omega) (by omega)
      have hz4 : w.heap.size + 1 + 1 < wr.heap.size := by omega
      have HLr := HL.out.keep hgr
      have HR := Lib.hid hR
      clear hR hx0 hy0 GA GB hfr hr0 hr1 hs0 hs1
      go_wp2_with (go_at_call 57; with_reducible refine (exponents_any _ _ _ _ _ _ _ HLr HSUB.out).mono ?_; rintro e w' ⟨rfl, hb⟩; have hz := hb.le; obtain ⟨hc, hf⟩ := hb.cells; (try simp only [World.size_alloc] at hc hf hz); (try simp only [World.size_setCell] at hc hf hz); (try simp only [World.size_drew] at hc hf hz))
      exact bodyPost_ret (v := .tuple #[.agg #[.int .i64 (sumLo ⟨a0 - b0, a1 - b1, a2 - b2, a3 - b3, a4 - b4, a5 - b5⟩ 6), .int .i64 (sumHi ⟨a0 - b0, a1 - b1, a2 - b2, a3 - b3, a4 - b4, a5 - b5⟩ 6)], .int .i64 0]) (by simp [results, Tryd.results40, go_sem, *]) rfl ⟨rfl, (by repeat (first | exact Gr.refl _ | refine Gr.alloc ?_ _ | refine Gr.drew ?_ | refine Gr.trans ?_ (by assumption) | refine Gr.setCell ?_ (by (try simp); (try omega)) _))⟩
end Go.Proofs.YtelhmdhhabgihaaDoor
