/-
  schismaref14.Notes: whether a line is valid.
  schismaref14.step at a valid singer and valid intervals; Line's refusals.
-/
import Derived.Test.YtiogfohjepobkaaDoorLinQ
import Derived.Test.YtiogfohjepobkaaDoorR3V
import Derived.Test.YtiogfohjepobkaaDoorHeld
import Derived.BigQuiet
import Derived.Deep.QuietTactic
import Derived.IntWalk
import Derived.Deep.DeepCutAuto
import Derived.Test.YtiogfohjepobkaaDoorRVV
namespace Go.Proofs.YtiogfohjepobkaaDoor
open Go.RowKit

theorem lineGood_no {f : Nat → Nat → Int} {n j : Nat} (hj : j < n) (_ : lineGood f j = true) (h : sungOk (lineEnd f j) (f j) = false) : lineGood f n = false := by
  cases e : lineGood f n with
  | false => rfl
  | true => rw [lineGood_le e j hj] at h; cases h
theorem sungOk_no {e : Int} {r : Nat → Int} (h : ¬ (e ≤ r 0 ∧ r 0 < r 1 ∧ r 1 ≤ 100000)) : sungOk e r = false := by
  unfold sungOk; rw [decide_eq_false h, Bool.false_and]
theorem sungOk_no2 {e : Int} {r : Nat → Int} (h : allIn ⟨r 2, r 3, r 4, r 5, r 6, r 7⟩ 48 6 = false) : sungOk e r = false := by
  unfold sungOk; rw [h, Bool.and_false]
theorem lineEnd_nn {f : Nat → Nat → Int} {j : Nat} (h : lineGood f j = true) : 0 ≤ lineEnd f j := by
  cases j with
  | zero => exact Int.le_refl _
  | succ j => have := line_bounds h j (by omega); simp only [lineEnd]; omega

set_option maxRecDepth 100000 in
set_option maxHeartbeats 16000000 in
theorem rnotes_any (A : Option Addr) (n c : Nat) (f : Nat → Nat → Int) (w : World) (hA : RowsAt w 8 A n f) :
    Calls Tryd.prog 39 #[.slice A n c] w fun e w' => e = .returned (.bool (decide (n ≤ 200) && lineGood f n)) ∧ Gr w w' := by
  have HA := Lib.hid hA
  clear hA
  by_cases hn200 : n ≤ 200
  · have HPB : Hid ((decide (n ≤ 200) && lineGood f n) = lineGood f n) := Lib.hid (by rw [decide_eq_true hn200, Bool.true_and])
    go_enter Tryd.func39, Tryd.ntmps39
    go_wp2_with fail
    go_loopw [3] (fun i wr => ∃ j : Nat, j ≤ n ∧ i = .int .i64 j ∧ lineGood f j = true ∧ Gr w wr) (fun i _ => n - (intOf i).toNat)
    case atStart => exact ⟨0, Nat.zero_le _, rfl, rfl, Gr.refl _⟩
    case round =>
      obtain ⟨j, hj, rfl, he, hg⟩ := hrel
      have HE := Lib.hid he; have HG := Lib.hid hg
      clear he hg
      by_cases hlt : j < n
      · obtain ⟨b, off, rfl, hb0, c0, c1, c2, c3, c4, c5, c6, c7⟩ := (HA.out.keep HG.out).eight hlt
        obtain ⟨wp, rfl⟩ : ∃ wp : World, wp = wr := ⟨_, rfl⟩
        have hlt' : (j : Int) < (n : Int) := by omega
        have hj0 : (0 : Int) ≤ (j : Int) := by omega
        have hI := fun W => r3interval_any (f j 2) (f j 3) (f j 4) (f j 5) (f j 6) (f j 7) W
        have hnn := lineEnd_nn HE.out
        by_cases k1 : f j 0 < 0
        · have HN : Hid (lineGood f n = false) := Lib.hid (lineGood_no hlt HE.out (sungOk_no (fun h => by omega)))
          have HI := Lib.hid hI
          clear hI hnn
          have d1 : decide (f j 0 < 0) = true := decide_eq_true k1
          generalize allIn ⟨f j 2, f j 3, f j 4, f j 5, f j 6, f j 7⟩ 48 6 = B at *
          go_wp2_with fail
          go_at_call 26
          with_reducible refine (HI.out _).mono ?_
          rintro e w2 ⟨rfl, hb⟩
          have hz := hb.le
          obtain ⟨hc, hf⟩ := hb.cells
          have hn := hb.cellsN
          (try simp only [World.size_alloc] at hc hf hz hn)
          have hG2 : Gr w w2 := HG.out.trans (by repeat (first | with_reducible exact Gr.refl _ | with_reducible refine Gr.alloc ?_ _ | with_reducible refine Gr.drew ?_ | with_reducible refine Gr.trans ?_ (by assumption) | with_reducible refine Gr.setCell ?_ (by (try simp); (try omega)) _))
          have HG2 := Lib.hid hG2
          clear hG2
          go_wp2_with fail
          go_ret
          exact ⟨ret_bool (by rw [HPB.out, HN.out]), HG2.out.trans (by repeat (first | with_reducible exact Gr.refl _ | with_reducible refine Gr.alloc ?_ _ | with_reducible refine Gr.drew ?_ | with_reducible refine Gr.trans ?_ (by assumption) | with_reducible refine Gr.setCell ?_ (by (try simp); (try omega)) _))⟩
        · by_cases k2 : f j 1 ≤ f j 0
          · have HN : Hid (lineGood f n = false) := Lib.hid (lineGood_no hlt HE.out (sungOk_no (fun h => by omega)))
            have HI := Lib.hid hI
            clear hI hnn
            have d1 : decide (f j 0 < 0) = false := decide_eq_false k1
            have d2 : decide (f j 1 ≤ f j 0) = true := decide_eq_true k2
            generalize allIn ⟨f j 2, f j 3, f j 4, f j 5, f j 6, f j 7⟩ 48 6 = B at *
            go_wp2_with fail
            go_at_call 26
            with_reducible refine (HI.out _).mono ?_
            rintro e w2 ⟨rfl, hb⟩
            have hz := hb.le
            obtain ⟨hc, hf⟩ := hb.cells
            have hn := hb.cellsN
            (try simp only [World.size_alloc] at hc hf hz hn)
            have hG2 : Gr w w2 := HG.out.trans (by repeat (first | with_reducible exact Gr.refl _ | with_reducible refine Gr.alloc ?_ _ | with_reducible refine Gr.drew ?_ | with_reducible refine Gr.trans ?_ (by assumption) | with_reducible refine Gr.setCell ?_ (by (try simp); (try omega)) _))
            have HG2 := Lib.hid hG2
            clear hG2
            go_wp2_with fail
            go_ret
            exact ⟨ret_bool (by rw [HPB.out, HN.out]), HG2.out.trans (by repeat (first | with_reducible exact Gr.refl _ | with_reducible refine Gr.alloc ?_ _ | with_reducible refine Gr.drew ?_ | with_reducible refine Gr.trans ?_ (by assumption) | with_reducible refine Gr.setCell ?_ (by (try simp); (try omega)) _))⟩
          · by_cases k3 : 100000 < f j 1
            · have HN : Hid (lineGood f n = false) := Lib.hid (lineGood_no hlt HE.out (sungOk_no (fun h => by omega)))
              have HI := Lib.hid hI
              clear hI hnn
              have d1 : decide (f j 0 < 0) = false := decide_eq_false k1
              have d2 : decide (f j 1 ≤ f j 0) = false := decide_eq_false k2
              have d3 : decide (100000 < f j 1) = true := decide_eq_true k3
              generalize allIn ⟨f j 2, f j 3, f j 4, f j 5, f j 6, f j 7⟩ 48 6 = B at *
              go_wp2_with fail
              go_at_call 26
              with_reducible refine (HI.out _).mono ?_
              rintro e w2 ⟨rfl, hb⟩
              have hz := hb.le
              obtain ⟨hc, hf⟩ := hb.cells
              have hn := hb.cellsN
              (try simp only [World.size_alloc] at hc hf hz hn)
              have hG2 : Gr w w2 := HG.out.trans (by repeat (first | with_reducible exact Gr.refl _ | with_reducible refine Gr.alloc ?_ _ | with_reducible refine Gr.drew ?_ | with_reducible refine Gr.trans ?_ (by assumption) | with_reducible refine Gr.setCell ?_ (by (try simp); (try omega)) _))
              have HG2 := Lib.hid hG2
              clear hG2
              go_wp2_with fail
              go_ret
              exact ⟨ret_bool (by rw [HPB.out, HN.out]), HG2.out.trans (by repeat (first | with_reducible exact Gr.refl _ | with_reducible refine Gr.alloc ?_ _ | with_reducible refine Gr.drew ?_ | with_reducible refine Gr.trans ?_ (by assumption) | with_reducible refine Gr.setCell ?_ (by (try simp); (try omega)) _))⟩
            · have d1 : decide (f j 0 < 0) = false := decide_eq_false k1
              have d2 : decide (f j 1 ≤ f j 0) = false := decide_eq_false k2
              have d3 : decide (100000 < f j 1) = false := decide_eq_false k3
              rcases tf (allIn ⟨f j 2, f j 3, f j 4, f j 5, f j 6, f j 7⟩ 48 6) with q | q
              all_goals rw [q] at hI
              · have HI := Lib.hid hI
                clear hI
                have HQ := Lib.hid q
                clear q
                have hdec0 : (j = 0) ∨ ∃ p, j = p + 1 := by cases j with
                  | zero => exact Or.inl rfl
                  | succ p => exact Or.inr ⟨p, rfl⟩
                rcases hdec0 with hz0 | ⟨p, hp⟩
                · have HS : Hid (lineGood f (j + 1) = true) := Lib.hid (by
                    have e := HE.out; have q := HQ.out
                    subst hz0
                    show (true && sungOk 0 (f 0)) = true
                    unfold sungOk
                    rw [q, Bool.and_true, Bool.true_and]
                    exact decide_eq_true ⟨by omega, by omega, by omega⟩)
                  have hd0 : decide (0 < (j : Int)) = false := decide_eq_false (by omega)
                  have hd1 : decide (0 < j) = false := decide_eq_false (by omega)
                  clear hz0 hnn
                  go_wp2_with fail
                  go_at_call 26
                  with_reducible refine (HI.out _).mono ?_
                  rintro e w2 ⟨rfl, hb⟩
                  have hz := hb.le
                  obtain ⟨hc, hf⟩ := hb.cells
                  have hn := hb.cellsN
                  (try simp only [World.size_alloc] at hc hf hz hn)
                  have hG2 : Gr w w2 := HG.out.trans (by repeat (first | with_reducible exact Gr.refl _ | with_reducible refine Gr.alloc ?_ _ | with_reducible refine Gr.drew ?_ | with_reducible refine Gr.trans ?_ (by assumption) | with_reducible refine Gr.setCell ?_ (by (try simp); (try omega)) _))
                  have HG2 := Lib.hid hG2
                  clear hG2
                  go_upto_region 10 with fail
                  go_quiet (fail)
                  go_wp2_with fail
                  go_roundw
                  case rel => exact ⟨j + 1, by omega, by go_num, HS.out, HG2.out.trans ((Gr.refl _).drewN _)⟩
                  case measure => simp [intOf]; omega
                · have hle : lineEnd f j = f p 1 := by rw [hp]; rfl
                  have cp : wp.cell? ⟨b, off + p * 8 + 1, none⟩ = some (.int .i64 (f p 1)) := by
                    obtain ⟨b', off', e, _, _, c1', -⟩ := (HA.out.keep HG.out).eight (show p < n by omega)
                    cases e
                    exact c1'
                  have hd0 : decide (0 < (j : Int)) = true := decide_eq_true (by omega)
                  have hd1 : decide (0 < j) = true := decide_eq_true (by omega)
                  have hwj : IntKind.i64.wrap ((j : Int) - 1) = (p : Int) := (IntWalk.i64_in _ ⟨by omega, by omega⟩).trans (by omega)
                  have hp0 : (0 : Int) ≤ (p : Int) := by omega
                  have hpn : (p : Int) < (n : Int) := by omega
                  by_cases k4 : f j 0 < f p 1
                  · have HN : Hid (lineGood f n = false) := Lib.hid (lineGood_no hlt HE.out (sungOk_no (fun h => by omega)))
                    have d4 : decide (f j 0 < f p 1) = true := decide_eq_true k4
                    clear hp hle hnn
                    go_wp2_with fail
                    go_at_call 26
                    with_reducible refine (HI.out _).mono ?_
                    rintro e w2 ⟨rfl, hb⟩
                    have hz := hb.le
                    obtain ⟨hc, hf⟩ := hb.cells
                    have hn := hb.cellsN
                    (try simp only [World.size_alloc] at hc hf hz hn)
                    have hG2 : Gr w w2 := HG.out.trans (by repeat (first | with_reducible exact Gr.refl _ | with_reducible refine Gr.alloc ?_ _ | with_reducible refine Gr.drew ?_ | with_reducible refine Gr.trans ?_ (by assumption) | with_reducible refine Gr.setCell ?_ (by (try simp); (try omega)) _))
                    have HG2 := Lib.hid hG2
                    clear hG2
                    go_upto_region 10 with fail
                    have cp2 := (Below.cell (p := ⟨b, off + p * 8 + 1, none⟩) hb (by simp; omega)).trans ((by simp [go_sem, *] : (wp.alloc (.cells #[.int .i64 (f j 0), .int .i64 (f j 1), .int .i64 (f j 2), .int .i64 (f j 3), .int .i64 (f j 4), .int .i64 (f j 5), .int .i64 (f j 6), .int .i64 (f j 7)] 57)).cell? ⟨b, off + p * 8 + 1, none⟩ = some (.int .i64 (f p 1))))
                    go_quiet (fail)
                    go_wp2_with fail
                    go_ret
                    exact ⟨ret_bool (by rw [HPB.out, HN.out]), HG2.out.trans ((Gr.refl _).drewN _)⟩
                  · have HS : Hid (lineGood f (j + 1) = true) := Lib.hid (by
                      have e := HE.out; have q := HQ.out
                      simp only [lineGood, e, Bool.true_and, sungOk, hle, q, Bool.and_true, decide_eq_true_eq]
                      omega)
                    have d4 : decide (f j 0 < f p 1) = false := decide_eq_false k4
                    clear hp hle hnn
                    go_wp2_with fail
                    go_at_call 26
                    with_reducible refine (HI.out _).mono ?_
                    rintro e w2 ⟨rfl, hb⟩
                    have hz := hb.le
                    obtain ⟨hc, hf⟩ := hb.cells
                    have hn := hb.cellsN
                    (try simp only [World.size_alloc] at hc hf hz hn)
                    have hG2 : Gr w w2 := HG.out.trans (by repeat (first | with_reducible exact Gr.refl _ | with_reducible refine Gr.alloc ?_ _ | with_reducible refine Gr.drew ?_ | with_reducible refine Gr.trans ?_ (by assumption) | with_reducible refine Gr.setCell ?_ (by (try simp); (try omega)) _))
                    have HG2 := Lib.hid hG2
                    clear hG2
                    go_upto_region 10 with fail
                    have cp2 := (Below.cell (p := ⟨b, off + p * 8 + 1, none⟩) hb (by simp; omega)).trans ((by simp [go_sem, *] : (wp.alloc (.cells #[.int .i64 (f j 0), .int .i64 (f j 1), .int .i64 (f j 2), .int .i64 (f j 3), .int .i64 (f j 4), .int .i64 (f j 5), .int .i64 (f j 6), .int .i64 (f j 7)] 57)).cell? ⟨b, off + p * 8 + 1, none⟩ = some (.int .i64 (f p 1))))
                    go_quiet (fail)
                    go_wp2_with fail
                    go_roundw
                    case rel => exact ⟨j + 1, by omega, by go_num, HS.out, HG2.out.trans ((Gr.refl _).drewN _)⟩
                    case measure => simp [intOf]; omega
              · have HN : Hid (lineGood f n = false) := Lib.hid (lineGood_no hlt HE.out (sungOk_no2 q))
                have HI := Lib.hid hI
                clear hI hnn q
                go_wp2_with fail
                go_at_call 26
                with_reducible refine (HI.out _).mono ?_
                rintro e w2 ⟨rfl, hb⟩
                have hz := hb.le
                obtain ⟨hc, hf⟩ := hb.cells
                have hn := hb.cellsN
                (try simp only [World.size_alloc] at hc hf hz hn)
                have hG2 : Gr w w2 := HG.out.trans (by repeat (first | with_reducible exact Gr.refl _ | with_reducible refine Gr.alloc ?_ _ | with_reducible refine Gr.drew ?_ | with_reducible refine Gr.trans ?_ (by assumption) | with_reducible refine Gr.setCell ?_ (by (try simp); (try omega)) _))
                have HG2 := Lib.hid hG2
                clear hG2
                go_wp2_with fail
                go_ret
                exact ⟨ret_bool (by rw [HPB.out, HN.out]), HG2.out.trans (by repeat (first | with_reducible exact Gr.refl _ | with_reducible refine Gr.alloc ?_ _ | with_reducible refine Gr.drew ?_ | with_reducible refine Gr.trans ?_ (by assumption) | with_reducible refine Gr.setCell ?_ (by (try simp); (try omega)) _))⟩
      · obtain rfl : n = j := by omega
        obtain ⟨wp, rfl⟩ : ∃ wp : World, wp = wr := ⟨_, rfl⟩
        go_wp2_with fail
        go_ret
        exact ⟨ret_bool (by rw [HPB.out, HE.out]), HG.out⟩
  · have HPB : Hid ((decide (n ≤ 200) && lineGood f n) = false) := Lib.hid (by rw [decide_eq_false hn200, Bool.false_and])
    have h3 : (200 : Int) < (n : Int) := by omega
    clear hn200
    go_enter Tryd.func39, Tryd.ntmps39
    go_wp2_with fail
    go_ret
    exact ⟨ret_bool HPB.out.symm, Gr.refl _⟩
end Go.Proofs.YtiogfohjepobkaaDoor

namespace Go.Proofs.YtiogfohjepobkaaDoor
open Go.RowKit

set_option maxRecDepth 100000 in
set_option maxHeartbeats 16000000 in
theorem rstep_ok (l0 l1 l2 l3 l4 l5 h0 h1 h2 h3 h4 h5 st br x0 x1 x2 x3 x4 x5 y0 y1 y2 y3 y4 y5 : Int) (w : World) (hok : voiceOk ⟨l0, l1, l2, l3, l4, l5⟩ ⟨h0, h1, h2, h3, h4, h5⟩ st br = true) (hx : allIn ⟨x0, x1, x2, x3, x4, x5⟩ 48 6 = true) (hy : allIn ⟨y0, y1, y2, y3, y4, y5⟩ 48 6 = true) :
    Calls Tryd.prog 47 #[.agg #[.int .i64 l0, .int .i64 l1, .int .i64 l2, .int .i64 l3, .int .i64 l4, .int .i64 l5, .int .i64 h0, .int .i64 h1, .int .i64 h2, .int .i64 h3, .int .i64 h4, .int .i64 h5, .int .i64 st, .int .i64 br], .agg #[.int .i64 x0, .int .i64 x1, .int .i64 x2, .int .i64 x3, .int .i64 x4, .int .i64 x5], .agg #[.int .i64 y0, .int .i64 y1, .int .i64 y2, .int .i64 y3, .int .i64 y4, .int .i64 y5]] w fun e w' => e = .returned (.bool (hasB ⟨l0, l1, l2, l3, l4, l5⟩ ⟨h0, h1, h2, h3, h4, h5⟩ ⟨x0, x1, x2, x3, x4, x5⟩ && (hasB ⟨l0, l1, l2, l3, l4, l5⟩ ⟨h0, h1, h2, h3, h4, h5⟩ ⟨y0, y1, y2, y3, y4, y5⟩ && findsB st ⟨x0, x1, x2, x3, x4, x5⟩ ⟨y0, y1, y2, y3, y4, y5⟩))) ∧ Gr w w' := by
  have hA := fun W => rhas_any l0 l1 l2 l3 l4 l5 h0 h1 h2 h3 h4 h5 st br x0 x1 x2 x3 x4 x5 W
  have hB := fun W => rhas_any l0 l1 l2 l3 l4 l5 h0 h1 h2 h3 h4 h5 st br y0 y1 y2 y3 y4 y5 W
  have hC := fun W => rfinds_any l0 l1 l2 l3 l4 l5 h0 h1 h2 h3 h4 h5 st br x0 x1 x2 x3 x4 x5 y0 y1 y2 y3 y4 y5 W
  simp only [hok, hx, hy, Bool.true_and, Bool.and_self, cond_true] at hA hB hC
  generalize hasB ⟨l0, l1, l2, l3, l4, l5⟩ ⟨h0, h1, h2, h3, h4, h5⟩ ⟨x0, x1, x2, x3, x4, x5⟩ = a at *
  generalize hasB ⟨l0, l1, l2, l3, l4, l5⟩ ⟨h0, h1, h2, h3, h4, h5⟩ ⟨y0, y1, y2, y3, y4, y5⟩ = b at *
  generalize findsB st ⟨x0, x1, x2, x3, x4, x5⟩ ⟨y0, y1, y2, y3, y4, y5⟩ = c at *
  have HA := Lib.hid hA; have HB := Lib.hid hB; have HC := Lib.hid hC
  clear hA hB hC hok hx hy
  cases a <;> cases b
  all_goals
    go_enter Tryd.func47, Tryd.ntmps47
    go_wp2_with fail
    (go_at_call 14; with_reducible refine (HA.out _).mono ?_; rintro e w' ⟨rfl, hb⟩; have hz := hb.le; obtain ⟨hc, hf⟩ := hb.cells; have hn := hb.cellsN; (try simp only [World.size_alloc] at hc hf hz hn); (try simp only [World.size_setCell] at hc hf hz hn); (try simp only [World.size_drew] at hc hf hz hn))
    go_wp2_with fail
    (go_at_call 14; with_reducible refine (HB.out _).mono ?_; rintro e w' ⟨rfl, hb⟩; have hz := hb.le; obtain ⟨hc, hf⟩ := hb.cells; have hn := hb.cellsN; (try simp only [World.size_alloc] at hc hf hz hn); (try simp only [World.size_setCell] at hc hf hz hn); (try simp only [World.size_drew] at hc hf hz hn))
    go_wp2_with fail
    (go_at_call 16; with_reducible refine (HC.out _).mono ?_; rintro e w' ⟨rfl, hb⟩; have hz := hb.le; obtain ⟨hc, hf⟩ := hb.cells; have hn := hb.cellsN; (try simp only [World.size_alloc] at hc hf hz hn); (try simp only [World.size_setCell] at hc hf hz hn); (try simp only [World.size_drew] at hc hf hz hn))
    go_wp2_with fail
    go_ret
    exact ⟨ret_bool (by simp), (by repeat (first | with_reducible exact Gr.refl _ | with_reducible refine Gr.alloc ?_ _ | with_reducible refine Gr.drew ?_ | with_reducible refine Gr.trans ?_ (by assumption) | with_reducible refine Gr.setCell ?_ (by (try simp); (try omega)) _))⟩

set_option maxRecDepth 100000 in
set_option maxHeartbeats 16000000 in
theorem rline_bad1 (l0 l1 l2 l3 l4 l5 h0 h1 h2 h3 h4 h5 st br : Int) (A : Option Addr) (n c : Nat) (w : World) (hok : voiceOk ⟨l0, l1, l2, l3, l4, l5⟩ ⟨h0, h1, h2, h3, h4, h5⟩ st br = false) :
    Calls Tryd.prog 21 #[.agg #[.int .i64 l0, .int .i64 l1, .int .i64 l2, .int .i64 l3, .int .i64 l4, .int .i64 l5, .int .i64 h0, .int .i64 h1, .int .i64 h2, .int .i64 h3, .int .i64 h4, .int .i64 h5, .int .i64 st, .int .i64 br], .slice A n c] w fun e w' => e = .returned (.tuple #[.int .i64 0, .int .i64 1]) ∧ Gr w w' := by
  have hV := fun W => rvalid_any l0 l1 l2 l3 l4 l5 h0 h1 h2 h3 h4 h5 st br W
  rw [hok] at hV
  have HV := Lib.hid hV
  clear hV hok
  go_enter Tryd.func21, Tryd.ntmps21
  go_wp2_with fail
  (go_at_call 12; with_reducible refine (HV.out _).mono ?_; rintro e w' ⟨rfl, hb⟩; have hz := hb.le; obtain ⟨hc, hf⟩ := hb.cells; have hn := hb.cellsN; (try simp only [World.size_alloc] at hc hf hz hn); (try simp only [World.size_setCell] at hc hf hz hn); (try simp only [World.size_drew] at hc hf hz hn))
  go_wp2_with fail
  go_ret2
  exact ⟨rfl, (by repeat (first | with_reducible exact Gr.refl _ | with_reducible refine Gr.alloc ?_ _ | with_reducible refine Gr.drew ?_ | with_reducible refine Gr.trans ?_ (by assumption) | with_reducible refine Gr.setCell ?_ (by (try simp); (try omega)) _))⟩
set_option maxRecDepth 100000 in
set_option maxHeartbeats 16000000 in
theorem rline_bad2 (l0 l1 l2 l3 l4 l5 h0 h1 h2 h3 h4 h5 st br : Int) (A : Option Addr) (n c : Nat) (f : Nat → Nat → Int) (w : World) (hA : RowsAt w 8 A n f) (hok : voiceOk ⟨l0, l1, l2, l3, l4, l5⟩ ⟨h0, h1, h2, h3, h4, h5⟩ st br = true) (hbad : (decide (n ≤ 200) && lineGood f n) = false) :
    Calls Tryd.prog 21 #[.agg #[.int .i64 l0, .int .i64 l1, .int .i64 l2, .int .i64 l3, .int .i64 l4, .int .i64 l5, .int .i64 h0, .int .i64 h1, .int .i64 h2, .int .i64 h3, .int .i64 h4, .int .i64 h5, .int .i64 st, .int .i64 br], .slice A n c] w fun e w' => e = .returned (.tuple #[.int .i64 0, .int .i64 1]) ∧ Gr w w' := by
  have hV := fun W => rvalid_any l0 l1 l2 l3 l4 l5 h0 h1 h2 h3 h4 h5 st br W
  have hN := fun W (h : Gr w W) => rnotes_any A n c f W (hA.keep h)
  rw [hok] at hV
  rw [hbad] at hN
  have HV := Lib.hid hV; have HN := Lib.hid hN
  clear hV hok hN hbad hA
  go_enter Tryd.func21, Tryd.ntmps21
  go_wp2_with fail
  (go_at_call 12; with_reducible refine (HV.out _).mono ?_; rintro e w' ⟨rfl, hb⟩; have hz := hb.le; obtain ⟨hc, hf⟩ := hb.cells; have hn := hb.cellsN; (try simp only [World.size_alloc] at hc hf hz hn); (try simp only [World.size_setCell] at hc hf hz hn); (try simp only [World.size_drew] at hc hf hz hn))
  go_wp2_with fail
  (go_at_call 39; with_reducible refine (HN.out _ (by repeat (first | with_reducible exact Gr.refl _ | with_reducible refine Gr.alloc ?_ _ | with_reducible refine Gr.drew ?_ | with_reducible refine Gr.trans ?_ (by assumption) | with_reducible refine Gr.setCell ?_ (by (try simp); (try omega)) _))).mono ?_; rintro e w' ⟨rfl, hb⟩; have hz := hb.le; obtain ⟨hc, hf⟩ := hb.cells; have hn := hb.cellsN; (try simp only [World.size_alloc] at hc hf hz hn); (try simp only [World.size_setCell] at hc hf hz hn); (try simp only [World.size_drew] at hc hf hz hn))
  go_wp2_with fail
  go_ret2
  exact ⟨rfl, (by repeat (first | with_reducible exact Gr.refl _ | with_reducible refine Gr.alloc ?_ _ | with_reducible refine Gr.drew ?_ | with_reducible refine Gr.trans ?_ (by assumption) | with_reducible refine Gr.setCell ?_ (by (try simp); (try omega)) _))⟩
end Go.Proofs.YtiogfohjepobkaaDoor
