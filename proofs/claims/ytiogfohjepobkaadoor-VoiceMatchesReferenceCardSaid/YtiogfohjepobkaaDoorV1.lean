/-
  package voice: Valid, Has, Finds.
-/
import Derived.Test.YtiogfohjepobkaaDoorPOf
import Derived.Test.YtiogfohjepobkaaDoorNear
import Derived.Test.YtiogfohjepobkaaDoorSix
namespace Go.Proofs.YtiogfohjepobkaaDoor
open Go.RowKit

/-- An interval as a pitch. -/
def atV (v : V6) : V6 := ⟨v.x0 * 12, v.x1 * 12, v.x2 * 12, v.x3 * 12, v.x4 * 12, v.x5 * 12⟩
theorem atV_in {v : V6} (h : allIn v 48 6 = true) : allIn (atV v) 576 6 = true := by
  simp only [allIn, V6.get, atV, Bool.and_eq_true, decide_eq_true_eq] at h ⊢
  repeat' apply And.intro
  all_goals first | rfl | trivial | omega
theorem tf (b : Bool) : b = true ∨ b = false := by cases b <;> simp
/-- A singer is valid. -/
def voiceOk (lo hi : V6) (st br : Int) : Bool := allIn lo 576 6 && (allIn hi 576 6 && decide (cmpP (lo.sub hi) ≤ 0 ∧ 0 ≤ st ∧ st ≤ 2400000 ∧ 0 < br ∧ br ≤ 100000))
theorem voiceOk_parts {lo hi : V6} {st br : Int} (h : voiceOk lo hi st br = true) : allIn lo 576 6 = true ∧ allIn hi 576 6 = true ∧ cmpP (lo.sub hi) ≤ 0 ∧ 0 ≤ st ∧ st ≤ 2400000 ∧ 0 < br ∧ br ≤ 100000 := by
  simp only [voiceOk, Bool.and_eq_true, decide_eq_true_eq] at h
  exact ⟨h.1, h.2.1, h.2.2.1, h.2.2.2.1, h.2.2.2.2.1, h.2.2.2.2.2.1, h.2.2.2.2.2.2⟩
/-- The singer has a note. -/
def hasB (lo hi x : V6) : Bool := decide (cmpP (lo.sub (atV x)) ≤ 0) && decide (cmpP ((atV x).sub hi) ≤ 0)
/-- The singer finds a note from another one. -/
def findsB (st : Int) (heard x : V6) : Bool := surelyI (sumLo ((atV x).sub (atV heard)) 6) (sumHi ((atV x).sub (atV heard)) 6) (-10000 * st) (10000 * st) == 1

set_option maxRecDepth 100000 in
set_option maxHeartbeats 8000000 in
theorem voiceValid_any (l0 l1 l2 l3 l4 l5 h0 h1 h2 h3 h4 h5 st br : Int) (w : World) (hP : Primes w) :
    Calls Tryd.prog 11 #[.agg #[.int .i64 l0, .int .i64 l1, .int .i64 l2, .int .i64 l3, .int .i64 l4, .int .i64 l5, .int .i64 h0, .int .i64 h1, .int .i64 h2, .int .i64 h3, .int .i64 h4, .int .i64 h5, .int .i64 st, .int .i64 br]] w fun e w' => e = .returned (.bool (voiceOk ⟨l0, l1, l2, l3, l4, l5⟩ ⟨h0, h1, h2, h3, h4, h5⟩ st br)) ∧ Gr w w' := by
  have HP := Lib.hid hP
  clear hP
  rcases tf (allIn ⟨l0, l1, l2, l3, l4, l5⟩ 576 6) with q1 | q1
  · rcases tf (allIn ⟨h0, h1, h2, h3, h4, h5⟩ 576 6) with q2 | q2
    · have hC := fun W (h : Primes W) => pcmp_ok l0 l1 l2 l3 l4 l5 h0 h1 h2 h3 h4 h5 W h q1 q2
      have e : voiceOk ⟨l0, l1, l2, l3, l4, l5⟩ ⟨h0, h1, h2, h3, h4, h5⟩ st br = decide (cmpP (V6.sub ⟨l0, l1, l2, l3, l4, l5⟩ ⟨h0, h1, h2, h3, h4, h5⟩) ≤ 0 ∧ 0 ≤ st ∧ st ≤ 2400000 ∧ 0 < br ∧ br ≤ 100000) := by simp [voiceOk, q1, q2]
      rw [e]
      have HC := Lib.hid hC
      clear hC q1 q2 e
      generalize cmpP (V6.sub ⟨l0, l1, l2, l3, l4, l5⟩ ⟨h0, h1, h2, h3, h4, h5⟩) = C at *
      by_cases hall : C ≤ 0 ∧ 0 ≤ st ∧ st ≤ 2400000 ∧ 0 < br ∧ br ≤ 100000
      · rw [show decide (C ≤ 0 ∧ 0 ≤ st ∧ st ≤ 2400000 ∧ 0 < br ∧ br ≤ 100000) = true from decide_eq_true hall]
        obtain ⟨c1, c2, c3, c4, c5⟩ := hall
        go_enter Tryd.func11, Tryd.ntmps11
        go_wp2_with (go_at_call 31; with_reducible refine (HC.out _ (HP.out.keep (by repeat (first | with_reducible exact Gr.refl _ | with_reducible refine Gr.alloc ?_ _ | with_reducible refine Gr.drew ?_ | with_reducible refine Gr.trans ?_ (by assumption) | with_reducible refine Gr.setCell ?_ (by (try simp); (try omega)) _)))).mono ?_; rintro e w' ⟨rfl, hb⟩; have hz := hb.le; obtain ⟨hc, hf⟩ := hb.cells; (try simp only [World.size_alloc] at hc hf hz); (try simp only [World.size_setCell] at hc hf hz); (try simp only [World.size_drew] at hc hf hz))
        go_ret
        exact ⟨rfl, (by repeat (first | with_reducible exact Gr.refl _ | with_reducible refine Gr.alloc ?_ _ | with_reducible refine Gr.drew ?_ | with_reducible refine Gr.trans ?_ (by assumption) | with_reducible refine Gr.setCell ?_ (by (try simp); (try omega)) _))⟩
      · rw [show decide (C ≤ 0 ∧ 0 ≤ st ∧ st ≤ 2400000 ∧ 0 < br ∧ br ≤ 100000) = false from decide_eq_false hall]
        rcases (by omega : 0 < C ∨ (C ≤ 0 ∧ st < 0) ∨ (C ≤ 0 ∧ 0 ≤ st ∧ 2400000 < st) ∨ (C ≤ 0 ∧ 0 ≤ st ∧ st ≤ 2400000 ∧ br ≤ 0) ∨ (C ≤ 0 ∧ 0 ≤ st ∧ st ≤ 2400000 ∧ 0 < br ∧ 100000 < br)) with c1 | ⟨c1, c2⟩ | ⟨c1, c2, c3⟩ | ⟨c1, c2, c3, c4⟩ | ⟨c1, c2, c3, c4, c5⟩
        all_goals
          clear hall
          go_enter Tryd.func11, Tryd.ntmps11
          go_wp2_with (go_at_call 31; with_reducible refine (HC.out _ (HP.out.keep (by repeat (first | with_reducible exact Gr.refl _ | with_reducible refine Gr.alloc ?_ _ | with_reducible refine Gr.drew ?_ | with_reducible refine Gr.trans ?_ (by assumption) | with_reducible refine Gr.setCell ?_ (by (try simp); (try omega)) _)))).mono ?_; rintro e w' ⟨rfl, hb⟩; have hz := hb.le; obtain ⟨hc, hf⟩ := hb.cells; (try simp only [World.size_alloc] at hc hf hz); (try simp only [World.size_setCell] at hc hf hz); (try simp only [World.size_drew] at hc hf hz))
          go_ret
          exact ⟨ret_bool (by first | rfl | (simp; omega) | (rw [decide_eq_false_iff_not]; omega)), (by repeat (first | with_reducible exact Gr.refl _ | with_reducible refine Gr.alloc ?_ _ | with_reducible refine Gr.drew ?_ | with_reducible refine Gr.trans ?_ (by assumption) | with_reducible refine Gr.setCell ?_ (by (try simp); (try omega)) _))⟩
    · have HC := Lib.hid (fun W => pcmp_bad2 l0 l1 l2 l3 l4 l5 h0 h1 h2 h3 h4 h5 W q1 q2)
      have e : voiceOk ⟨l0, l1, l2, l3, l4, l5⟩ ⟨h0, h1, h2, h3, h4, h5⟩ st br = false := by simp [voiceOk, q2]
      rw [e]
      clear q1 q2 e
      go_enter Tryd.func11, Tryd.ntmps11
      go_wp2_with (go_at_call 31; with_reducible refine (HC.out _).mono ?_; rintro e w' ⟨rfl, hb⟩; have hz := hb.le; obtain ⟨hc, hf⟩ := hb.cells; (try simp only [World.size_alloc] at hc hf hz); (try simp only [World.size_setCell] at hc hf hz); (try simp only [World.size_drew] at hc hf hz))
      go_ret
      exact ⟨rfl, (by repeat (first | with_reducible exact Gr.refl _ | with_reducible refine Gr.alloc ?_ _ | with_reducible refine Gr.drew ?_ | with_reducible refine Gr.trans ?_ (by assumption) | with_reducible refine Gr.setCell ?_ (by (try simp); (try omega)) _))⟩
  · have HC := Lib.hid (fun W => pcmp_bad1 l0 l1 l2 l3 l4 l5 h0 h1 h2 h3 h4 h5 W q1)
    have e : voiceOk ⟨l0, l1, l2, l3, l4, l5⟩ ⟨h0, h1, h2, h3, h4, h5⟩ st br = false := by simp [voiceOk, q1]
    rw [e]
    clear q1 e
    go_enter Tryd.func11, Tryd.ntmps11
    go_wp2_with (go_at_call 31; with_reducible refine (HC.out _).mono ?_; rintro e w' ⟨rfl, hb⟩; have hz := hb.le; obtain ⟨hc, hf⟩ := hb.cells; (try simp only [World.size_alloc] at hc hf hz); (try simp only [World.size_setCell] at hc hf hz); (try simp only [World.size_drew] at hc hf hz))
    go_ret
    exact ⟨rfl, (by repeat (first | with_reducible exact Gr.refl _ | with_reducible refine Gr.alloc ?_ _ | with_reducible refine Gr.drew ?_ | with_reducible refine Gr.trans ?_ (by assumption) | with_reducible refine Gr.setCell ?_ (by (try simp); (try omega)) _))⟩

set_option maxRecDepth 100000 in
set_option maxHeartbeats 8000000 in
theorem shas_ok (l0 l1 l2 l3 l4 l5 h0 h1 h2 h3 h4 h5 st br x0 x1 x2 x3 x4 x5 : Int) (NA : Option Addr) (nn nc : Nat) (w : World) (hP : Primes w) (hl : allIn ⟨l0, l1, l2, l3, l4, l5⟩ 576 6 = true) (hh : allIn ⟨h0, h1, h2, h3, h4, h5⟩ 576 6 = true) (hx : allIn ⟨x0, x1, x2, x3, x4, x5⟩ 48 6 = true) :
    Calls Tryd.prog 33 #[.agg #[.int .i64 l0, .int .i64 l1, .int .i64 l2, .int .i64 l3, .int .i64 l4, .int .i64 l5, .int .i64 h0, .int .i64 h1, .int .i64 h2, .int .i64 h3, .int .i64 h4, .int .i64 h5, .int .i64 st, .int .i64 br, .slice NA nn nc], .agg #[.int .i64 x0, .int .i64 x1, .int .i64 x2, .int .i64 x3, .int .i64 x4, .int .i64 x5]] w fun e w' => e = .returned (.bool (hasB ⟨l0, l1, l2, l3, l4, l5⟩ ⟨h0, h1, h2, h3, h4, h5⟩ ⟨x0, x1, x2, x3, x4, x5⟩)) ∧ Gr w w' := by
  have HP := Lib.hid hP
  have HO := Lib.hid (fun W => pof_ok x0 x1 x2 x3 x4 x5 W hx)
  have hxa := atV_in hx
  simp only [atV] at hxa
  have HC1 := Lib.hid (fun W (h : Primes W) => pcmp_ok l0 l1 l2 l3 l4 l5 (x0 * 12) (x1 * 12) (x2 * 12) (x3 * 12) (x4 * 12) (x5 * 12) W h hl hxa)
  have HC2 := Lib.hid (fun W (h : Primes W) => pcmp_ok (x0 * 12) (x1 * 12) (x2 * 12) (x3 * 12) (x4 * 12) (x5 * 12) h0 h1 h2 h3 h4 h5 W h hxa hh)
  unfold hasB atV
  generalize cmpP (V6.sub ⟨l0, l1, l2, l3, l4, l5⟩ ⟨x0 * 12, x1 * 12, x2 * 12, x3 * 12, x4 * 12, x5 * 12⟩) = C1 at *
  generalize cmpP (V6.sub ⟨x0 * 12, x1 * 12, x2 * 12, x3 * 12, x4 * 12, x5 * 12⟩ ⟨h0, h1, h2, h3, h4, h5⟩) = C2 at *
  clear hP hl hh hx hxa
  rcases (by omega : 0 < C1 ∨ (C1 ≤ 0 ∧ 0 < C2) ∨ (C1 ≤ 0 ∧ C2 ≤ 0)) with c1 | ⟨c1, c2⟩ | ⟨c1, c2⟩
  all_goals
    go_enter Tryd.func33, Tryd.ntmps33
    go_wp2_with fail
    (go_at_call 55; with_reducible refine (HO.out _).mono ?_; rintro e w' ⟨rfl, hb⟩; have hz := hb.le; obtain ⟨hc, hf⟩ := hb.cells; have hn := hb.cellsN; (try simp only [World.size_alloc] at hc hf hz hn); (try simp only [World.size_setCell] at hc hf hz hn); (try simp only [World.size_drew] at hc hf hz hn))
    go_wp2_with fail
    (go_at_call 31; with_reducible refine (HC1.out _ (HP.out.keep (by repeat (first | with_reducible exact Gr.refl _ | with_reducible refine Gr.alloc ?_ _ | with_reducible refine Gr.drew ?_ | with_reducible refine Gr.trans ?_ (by assumption) | with_reducible refine Gr.setCell ?_ (by (try simp); (try omega)) _)))).mono ?_; rintro e w' ⟨rfl, hb⟩; have hz := hb.le; obtain ⟨hc, hf⟩ := hb.cells; have hn := hb.cellsN; (try simp only [World.size_alloc] at hc hf hz hn); (try simp only [World.size_setCell] at hc hf hz hn); (try simp only [World.size_drew] at hc hf hz hn))
    go_wp2_with fail
    (go_at_call 31; with_reducible refine (HC2.out _ (HP.out.keep (by repeat (first | with_reducible exact Gr.refl _ | with_reducible refine Gr.alloc ?_ _ | with_reducible refine Gr.drew ?_ | with_reducible refine Gr.trans ?_ (by assumption) | with_reducible refine Gr.setCell ?_ (by (try simp); (try omega)) _)))).mono ?_; rintro e w' ⟨rfl, hb⟩; have hz := hb.le; obtain ⟨hc, hf⟩ := hb.cells; have hn := hb.cellsN; (try simp only [World.size_alloc] at hc hf hz hn); (try simp only [World.size_setCell] at hc hf hz hn); (try simp only [World.size_drew] at hc hf hz hn))
    go_wp2_with fail
    go_ret
    exact ⟨ret_bool (by first | rfl | (simp; omega)), (by repeat (first | with_reducible exact Gr.refl _ | with_reducible refine Gr.alloc ?_ _ | with_reducible refine Gr.drew ?_ | with_reducible refine Gr.trans ?_ (by assumption) | with_reducible refine Gr.setCell ?_ (by (try simp); (try omega)) _))⟩

set_option maxRecDepth 100000 in
set_option maxHeartbeats 8000000 in
theorem sfinds_ok (l0 l1 l2 l3 l4 l5 h0 h1 h2 h3 h4 h5 st br x0 x1 x2 x3 x4 x5 y0 y1 y2 y3 y4 y5 : Int) (NA : Option Addr) (nn nc : Nat) (w : World) (hL : Logs w) (hs0 : 0 ≤ st) (hs1 : st ≤ 2400000) (hx : allIn ⟨x0, x1, x2, x3, x4, x5⟩ 48 6 = true) (hy : allIn ⟨y0, y1, y2, y3, y4, y5⟩ 48 6 = true) :
    Calls Tryd.prog 34 #[.agg #[.int .i64 l0, .int .i64 l1, .int .i64 l2, .int .i64 l3, .int .i64 l4, .int .i64 l5, .int .i64 h0, .int .i64 h1, .int .i64 h2, .int .i64 h3, .int .i64 h4, .int .i64 h5, .int .i64 st, .int .i64 br, .slice NA nn nc], .agg #[.int .i64 x0, .int .i64 x1, .int .i64 x2, .int .i64 x3, .int .i64 x4, .int .i64 x5], .agg #[.int .i64 y0, .int .i64 y1, .int .i64 y2, .int .i64 y3, .int .i64 y4, .int .i64 y5]] w fun e w' => e = .returned (.bool (findsB st ⟨x0, x1, x2, x3, x4, x5⟩ ⟨y0, y1, y2, y3, y4, y5⟩)) ∧ Gr w w' := by
  have HL := Lib.hid hL
  have HO1 := Lib.hid (fun W => pof_ok x0 x1 x2 x3 x4 x5 W hx)
  have HO2 := Lib.hid (fun W => pof_ok y0 y1 y2 y3 y4 y5 W hy)
  have hxa := atV_in hx
  have hya := atV_in hy
  simp only [atV] at hxa hya
  have HN := Lib.hid (fun W (h : Logs W) => near_ok _ _ _ _ _ _ _ _ _ _ _ _ st W h hya hxa hs0 hs1)
  unfold findsB
  simp only [atV, V6.sub] at HN ⊢
  generalize surelyI (sumLo _ 6) (sumHi _ 6) (-10000 * st) (10000 * st) = R at HN ⊢
  clear hL hs0 hs1 hx hy hxa hya
  by_cases hR : R = 1
  · subst hR
    go_enter Tryd.func34, Tryd.ntmps34
    go_wp2_with fail
    (go_at_call 55; with_reducible refine (HO1.out _).mono ?_; rintro e w' ⟨rfl, hb⟩; have hz := hb.le; obtain ⟨hc, hf⟩ := hb.cells; have hn := hb.cellsN; (try simp only [World.size_alloc] at hc hf hz hn); (try simp only [World.size_setCell] at hc hf hz hn); (try simp only [World.size_drew] at hc hf hz hn))
    go_wp2_with fail
    (go_at_call 55; with_reducible refine (HO2.out _).mono ?_; rintro e w' ⟨rfl, hb⟩; have hz := hb.le; obtain ⟨hc, hf⟩ := hb.cells; have hn := hb.cellsN; (try simp only [World.size_alloc] at hc hf hz hn); (try simp only [World.size_setCell] at hc hf hz hn); (try simp only [World.size_drew] at hc hf hz hn))
    go_wp2_with fail
    (go_at_call 56; with_reducible refine (HN.out _ (HL.out.keep (by repeat (first | with_reducible exact Gr.refl _ | with_reducible refine Gr.alloc ?_ _ | with_reducible refine Gr.drew ?_ | with_reducible refine Gr.trans ?_ (by assumption) | with_reducible refine Gr.setCell ?_ (by (try simp); (try omega)) _)))).mono ?_; rintro e w' ⟨rfl, hb⟩; have hz := hb.le; obtain ⟨hc, hf⟩ := hb.cells; have hn := hb.cellsN; (try simp only [World.size_alloc] at hc hf hz hn); (try simp only [World.size_setCell] at hc hf hz hn); (try simp only [World.size_drew] at hc hf hz hn))
    go_wp2_with fail
    go_ret
    exact ⟨rfl, (by repeat (first | with_reducible exact Gr.refl _ | with_reducible refine Gr.alloc ?_ _ | with_reducible refine Gr.drew ?_ | with_reducible refine Gr.trans ?_ (by assumption) | with_reducible refine Gr.setCell ?_ (by (try simp); (try omega)) _))⟩
  · have hRb : (R == 1) = false := by simpa using hR
    clear hR
    go_enter Tryd.func34, Tryd.ntmps34
    go_wp2_with fail
    (go_at_call 55; with_reducible refine (HO1.out _).mono ?_; rintro e w' ⟨rfl, hb⟩; have hz := hb.le; obtain ⟨hc, hf⟩ := hb.cells; have hn := hb.cellsN; (try simp only [World.size_alloc] at hc hf hz hn); (try simp only [World.size_setCell] at hc hf hz hn); (try simp only [World.size_drew] at hc hf hz hn))
    go_wp2_with fail
    (go_at_call 55; with_reducible refine (HO2.out _).mono ?_; rintro e w' ⟨rfl, hb⟩; have hz := hb.le; obtain ⟨hc, hf⟩ := hb.cells; have hn := hb.cellsN; (try simp only [World.size_alloc] at hc hf hz hn); (try simp only [World.size_setCell] at hc hf hz hn); (try simp only [World.size_drew] at hc hf hz hn))
    go_wp2_with fail
    (go_at_call 56; with_reducible refine (HN.out _ (HL.out.keep (by repeat (first | with_reducible exact Gr.refl _ | with_reducible refine Gr.alloc ?_ _ | with_reducible refine Gr.drew ?_ | with_reducible refine Gr.trans ?_ (by assumption) | with_reducible refine Gr.setCell ?_ (by (try simp); (try omega)) _)))).mono ?_; rintro e w' ⟨rfl, hb⟩; have hz := hb.le; obtain ⟨hc, hf⟩ := hb.cells; have hn := hb.cellsN; (try simp only [World.size_alloc] at hc hf hz hn); (try simp only [World.size_setCell] at hc hf hz hn); (try simp only [World.size_drew] at hc hf hz hn))
    go_wp2_with fail
    go_ret
    exact ⟨ret_bool (by first | rfl | simp [hRb]), (by repeat (first | with_reducible exact Gr.refl _ | with_reducible refine Gr.alloc ?_ _ | with_reducible refine Gr.drew ?_ | with_reducible refine Gr.trans ?_ (by assumption) | with_reducible refine Gr.setCell ?_ (by (try simp); (try omega)) _))⟩
end Go.Proofs.YtiogfohjepobkaaDoor
