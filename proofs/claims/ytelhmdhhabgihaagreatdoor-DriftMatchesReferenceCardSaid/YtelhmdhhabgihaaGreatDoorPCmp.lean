/-
  pitch.Cmp: the sign of the product of the powers of the quotient.
-/
import Derived.Test.YtelhmdhhabgihaaGreatDoorFrac
import Derived.Test.YtelhmdhhabgihaaGreatDoorPitch
namespace Go.Proofs.YtelhmdhhabgihaaGreatDoor
open Go.RowKit

/-- The first k of a row are new, the others old. -/
def newTo (new old : Nat → Int) (k : Nat) (j : Nat) : Int := if j < k then new j else old j
theorem newTo_step (new old : Nat → Int) (k j : Nat) : newTo new old (k + 1) j = if j = k then new k else newTo new old k j := by
  unfold newTo
  by_cases h : j = k
  · subst h; rw [if_pos rfl, if_pos (by omega)]
  · rw [if_neg h]
    by_cases h' : j < k
    · rw [if_pos h', if_pos (by omega)]
    · rw [if_neg h', if_neg (by omega)]
theorem psub_in {a0 a1 a2 a3 a4 a5 b0 b1 b2 b3 b4 b5 : Int} (ha : allIn ⟨a0, a1, a2, a3, a4, a5⟩ 576 6 = true) (hb : allIn ⟨b0, b1, b2, b3, b4, b5⟩ 576 6 = true) : allIn ⟨a0 - b0, a1 - b1, a2 - b2, a3 - b3, a4 - b4, a5 - b5⟩ 1152 6 = true := by
  simp only [allIn, V6.get, Bool.and_eq_true, decide_eq_true_eq] at ha hb ⊢
  repeat' apply And.intro
  all_goals first | rfl | omega | trivial
theorem sub_V6 (a0 a1 a2 a3 a4 a5 b0 b1 b2 b3 b4 b5 : Int) : V6.sub ⟨a0, a1, a2, a3, a4, a5⟩ ⟨b0, b1, b2, b3, b4, b5⟩ = ⟨a0 - b0, a1 - b1, a2 - b2, a3 - b3, a4 - b4, a5 - b5⟩ := rfl

set_option maxRecDepth 100000 in
set_option maxHeartbeats 1000000 in
theorem pcmp_bad1 (a0 a1 a2 a3 a4 a5 b0 b1 b2 b3 b4 b5 : Int) (w : World) (hva : allIn ⟨a0, a1, a2, a3, a4, a5⟩ 576 6 = false) :
    Calls Tryz.prog 22 #[.agg #[.int .i64 a0, .int .i64 a1, .int .i64 a2, .int .i64 a3, .int .i64 a4, .int .i64 a5], .agg #[.int .i64 b0, .int .i64 b1, .int .i64 b2, .int .i64 b3, .int .i64 b4, .int .i64 b5]] w fun e w' => e = .returned (.tuple #[.int .i64 0, .int .i64 1]) ∧ Gr w w' := by
  go_enter Tryz.func22, Tryz.ntmps22
  go_wp2_with (go_at_call 34; with_reducible refine (pitchValid_any _ _ _ _ _ _ _).mono ?_; rintro e w' ⟨rfl, hb⟩; have hz := hb.le; obtain ⟨hc, hf⟩ := hb.cells; (try simp only [World.size_alloc] at hc hf hz); (try simp only [World.size_setCell] at hc hf hz); (try simp only [World.size_drew] at hc hf hz))
  go_ret2
  exact ⟨rfl, (by repeat (first | exact Gr.refl _ | refine Gr.alloc ?_ _ | refine Gr.drew ?_ | refine Gr.trans ?_ (by assumption) | refine Gr.setCell ?_ (by (try simp); (try omega)) _))⟩
set_option maxRecDepth 100000 in
set_option maxHeartbeats 1000000 in
theorem pcmp_bad2 (a0 a1 a2 a3 a4 a5 b0 b1 b2 b3 b4 b5 : Int) (w : World) (hva : allIn ⟨a0, a1, a2, a3, a4, a5⟩ 576 6 = true) (hvb : allIn ⟨b0, b1, b2, b3, b4, b5⟩ 576 6 = false) :
    Calls Tryz.prog 22 #[.agg #[.int .i64 a0, .int .i64 a1, .int .i64 a2, .int .i64 a3, .int .i64 a4, .int .i64 a5], .agg #[.int .i64 b0, .int .i64 b1, .int .i64 b2, .int .i64 b3, .int .i64 b4, .int .i64 b5]] w fun e w' => e = .returned (.tuple #[.int .i64 0, .int .i64 1]) ∧ Gr w w' := by
  go_enter Tryz.func22, Tryz.ntmps22
  go_wp2_with (go_at_call 34; with_reducible refine (pitchValid_any _ _ _ _ _ _ _).mono ?_; rintro e w' ⟨rfl, hb⟩; have hz := hb.le; obtain ⟨hc, hf⟩ := hb.cells; (try simp only [World.size_alloc] at hc hf hz); (try simp only [World.size_setCell] at hc hf hz); (try simp only [World.size_drew] at hc hf hz))
  go_ret2
  exact ⟨rfl, (by repeat (first | exact Gr.refl _ | refine Gr.alloc ?_ _ | refine Gr.drew ?_ | refine Gr.trans ?_ (by assumption) | refine Gr.setCell ?_ (by (try simp); (try omega)) _))⟩

set_option maxRecDepth 100000 in
set_option maxHeartbeats 4000000 in
theorem pcmp_ok (a0 a1 a2 a3 a4 a5 b0 b1 b2 b3 b4 b5 : Int) (w : World) (hP : Primes w) (hva : allIn ⟨a0, a1, a2, a3, a4, a5⟩ 576 6 = true) (hvb : allIn ⟨b0, b1, b2, b3, b4, b5⟩ 576 6 = true) :
    Calls Tryz.prog 22 #[.agg #[.int .i64 a0, .int .i64 a1, .int .i64 a2, .int .i64 a3, .int .i64 a4, .int .i64 a5], .agg #[.int .i64 b0, .int .i64 b1, .int .i64 b2, .int .i64 b3, .int .i64 b4, .int .i64 b5]] w fun e w' => e = .returned (.tuple #[.int .i64 (cmpP (V6.sub ⟨a0, a1, a2, a3, a4, a5⟩ ⟨b0, b1, b2, b3, b4, b5⟩)), .int .i64 0]) ∧ Gr w w' := by
  have HP := Lib.hid hP
  have HD := Lib.hid (psub_in hva hvb)
  clear hP
  rw [sub_V6]
  go_enter Tryz.func22, Tryz.ntmps22
  go_wp2_with (go_at_call 34; with_reducible refine (pitchValid_any _ _ _ _ _ _ _).mono ?_; rintro e w' ⟨rfl, hb⟩; have hz := hb.le; obtain ⟨hc, hf⟩ := hb.cells; (try simp only [World.size_alloc] at hc hf hz); (try simp only [World.size_setCell] at hc hf hz); (try simp only [World.size_drew] at hc hf hz))
  have HA := Lib.hid hva; have HB := Lib.hid hvb; clear hva hvb
  have hg : Gr w w' := (by repeat (first | exact Gr.refl _ | refine Gr.alloc ?_ _ | refine Gr.drew ?_ | refine Gr.trans ?_ (by assumption) | refine Gr.setCell ?_ (by (try simp); (try omega)) _))
  have hx0 : ∀ j, j < 6 → w'.cell? ⟨w.heap.size, j, none⟩ = some (.int .i64 (V6.get ⟨a0, a1, a2, a3, a4, a5⟩ j)) := by
    intro j hj
    obtain rfl | rfl | rfl | rfl | rfl | rfl : j = 0 ∨ j = 1 ∨ j = 2 ∨ j = 3 ∨ j = 4 ∨ j = 5 := by omega
    all_goals simp [go_sem, V6.get, *]
  have hfr : ∀ j, w'.frozen? ⟨w.heap.size, j, none⟩ = false := by
    intro j
    simp [go_sem, *]
  have hz3 : w.heap.size + 2 ≤ w'.heap.size := by omega
  have GA := allIn_at HA.out
  have GB := allIn_at HB.out
  clear HA HB
  clear hc hf hz
  have HG := Lib.hid hg
  clear hg
  go_loopw [19] (fun i wr => ∃ k : Nat, k ≤ 6 ∧ i = .int .i64 k ∧ ArrRel 6 (newTo (fun j => V6.get ⟨a0, a1, a2, a3, a4, a5⟩ j - V6.get ⟨b0, b1, b2, b3, b4, b5⟩ j) (V6.get ⟨a0, a1, a2, a3, a4, a5⟩) k) w.heap.size (w.heap.size + 2) w' wr) (fun i _ => 6 - (intOf i).toNat)
  case atStart => exact ⟨0, by omega, rfl, ⟨But.refl _ _ _, hz3, by omega, fun j hj => hx0 j hj, hfr⟩⟩
  case round =>
    obtain ⟨k, hk, rfl, hR⟩ := hrel
    have hsz := hR.size
    by_cases hlt : k < 6
    · have hx := hR.cell k hlt
      have hy := run_index6P b0 b1 b2 b3 b4 b5 k hlt
      have fx := hR.froz k
      have bx := GA k hlt
      have bb := GB k hlt
      rw [newTo, if_neg (by omega)] at hx
      have HST := Lib.hid (hR.store hlt (V6.get ⟨a0, a1, a2, a3, a4, a5⟩ k - V6.get ⟨b0, b1, b2, b3, b4, b5⟩ k))
      clear hR hx0 GA GB hfr
      generalize hgx : V6.get ⟨a0, a1, a2, a3, a4, a5⟩ k = x at hx bx HST
      generalize hgy : V6.get ⟨b0, b1, b2, b3, b4, b5⟩ k = y at hy bb HST
      have HX := Lib.hid hgx; have HY := Lib.hid hgy
      clear hgx hgy
      go_wp2
      first
        | (go_roundw
           case rel =>
             refine ⟨k + 1, by omega, by go_num, (ArrRel.congr HST.out fun j hj => ?_)⟩
             have := newTo_step (fun j => V6.get ⟨a0, a1, a2, a3, a4, a5⟩ j - V6.get ⟨b0, b1, b2, b3, b4, b5⟩ j) (V6.get ⟨a0, a1, a2, a3, a4, a5⟩) k j
             rw [this, HX.out, HY.out]
           case measure => simp [intOf]; omega)
        | (go_region
           go_wp2
           go_roundw
           case rel =>
             refine ⟨k + 1, by omega, by go_num, (ArrRel.congr (ArrRel.drew HST.out) fun j hj => ?_)⟩
             have := newTo_step (fun j => V6.get ⟨a0, a1, a2, a3, a4, a5⟩ j - V6.get ⟨b0, b1, b2, b3, b4, b5⟩ j) (V6.get ⟨a0, a1, a2, a3, a4, a5⟩) k j
             rw [this, HX.out, HY.out]
           case measure => simp [intOf]; omega)
    · obtain rfl : k = 6 := by omega
      have c0 := hR.cell 0 (by omega); have c1 := hR.cell 1 (by omega); have c2 := hR.cell 2 (by omega); have c3 := hR.cell 3 (by omega); have c4 := hR.cell 4 (by omega); have c5 := hR.cell 5 (by omega)
      simp only [newTo, V6.get] at c0 c1 c2 c3 c4 c5
      have hgr : Gr w wr := HG.out.but hR.but (by omega) (by omega)
      have HGR := Lib.hid hgr
      clear hR hx0 GA GB hfr hgr hsz
      obtain ⟨wo, rfl⟩ : ∃ wo : World, wo = wr := ⟨_, rfl⟩
      go_wp2_with fail
      refine (fraction_any _ _ _ _ _ _ _ (HP.out.keep HGR.out) HD.out).mono ?_
      rintro e w2 ⟨va, vb, rfl, ⟨b1', n1, c1', u1, rfl, hl1⟩, ⟨b2', n2, c2', u2, rfl, hl2⟩, hg2⟩
      have HG2 := Lib.hid (HGR.out.trans hg2)
      have HL1 := Lib.hid hl1; have HL2 := Lib.hid hl2
      clear hl1 hl2 hg2 c0 c1 c2 c3 c4 c5
      go_wp2_with (go_at_call 36; (with_reducible refine (natCmp_lay b1' n1 c1' u1 _ b2' n2 c2' u2 _ _ HL1.out HL2.out).mono ?_); rintro e w3 ⟨rfl, hg3⟩)
      go_ret2
      exact ⟨rfl, HG2.out.trans hg3⟩
end Go.Proofs.YtelhmdhhabgihaaGreatDoor
