/-
  schismaref14.Line at valid inputs: it answers as package voice does.
-/
import Derived.Test.YtiogfohjepobkaaDoorRNSt
import Derived.Test.YtiogfohjepobkaaDoorRVV
import Derived.Test.YtiogfohjepobkaaDoorLine3
import Derived.BigQuiet
import Derived.Deep.QuietTactic
namespace Go.Proofs.YtiogfohjepobkaaDoor
open Go.RowKit

theorem boxKeep {W W' : World} {B : Nat} {v0 v1 v2 v3 v4 v5 v6 v7 v8 v9 v10 v11 v12 v13 : Value} (g : Gr W W') (hB : B < W.heap.size) (h : W.cell? ⟨B, 0, none⟩ = some v0 ∧ W.cell? ⟨B, 1, none⟩ = some v1 ∧ W.cell? ⟨B, 2, none⟩ = some v2 ∧ W.cell? ⟨B, 3, none⟩ = some v3 ∧ W.cell? ⟨B, 4, none⟩ = some v4 ∧ W.cell? ⟨B, 5, none⟩ = some v5 ∧ W.cell? ⟨B, 6, none⟩ = some v6 ∧ W.cell? ⟨B, 7, none⟩ = some v7 ∧ W.cell? ⟨B, 8, none⟩ = some v8 ∧ W.cell? ⟨B, 9, none⟩ = some v9 ∧ W.cell? ⟨B, 10, none⟩ = some v10 ∧ W.cell? ⟨B, 11, none⟩ = some v11 ∧ W.cell? ⟨B, 12, none⟩ = some v12 ∧ W.cell? ⟨B, 13, none⟩ = some v13) : W'.cell? ⟨B, 0, none⟩ = some v0 ∧ W'.cell? ⟨B, 1, none⟩ = some v1 ∧ W'.cell? ⟨B, 2, none⟩ = some v2 ∧ W'.cell? ⟨B, 3, none⟩ = some v3 ∧ W'.cell? ⟨B, 4, none⟩ = some v4 ∧ W'.cell? ⟨B, 5, none⟩ = some v5 ∧ W'.cell? ⟨B, 6, none⟩ = some v6 ∧ W'.cell? ⟨B, 7, none⟩ = some v7 ∧ W'.cell? ⟨B, 8, none⟩ = some v8 ∧ W'.cell? ⟨B, 9, none⟩ = some v9 ∧ W'.cell? ⟨B, 10, none⟩ = some v10 ∧ W'.cell? ⟨B, 11, none⟩ = some v11 ∧ W'.cell? ⟨B, 12, none⟩ = some v12 ∧ W'.cell? ⟨B, 13, none⟩ = some v13 := by
  obtain ⟨a0, a1, a2, a3, a4, a5, a6, a7, a8, a9, a10, a11, a12, a13⟩ := h
  exact ⟨(Below.cell (p := ⟨B, 0, none⟩) g hB).trans a0, (Below.cell (p := ⟨B, 1, none⟩) g hB).trans a1, (Below.cell (p := ⟨B, 2, none⟩) g hB).trans a2, (Below.cell (p := ⟨B, 3, none⟩) g hB).trans a3, (Below.cell (p := ⟨B, 4, none⟩) g hB).trans a4, (Below.cell (p := ⟨B, 5, none⟩) g hB).trans a5, (Below.cell (p := ⟨B, 6, none⟩) g hB).trans a6, (Below.cell (p := ⟨B, 7, none⟩) g hB).trans a7, (Below.cell (p := ⟨B, 8, none⟩) g hB).trans a8, (Below.cell (p := ⟨B, 9, none⟩) g hB).trans a9, (Below.cell (p := ⟨B, 10, none⟩) g hB).trans a10, (Below.cell (p := ⟨B, 11, none⟩) g hB).trans a11, (Below.cell (p := ⟨B, 12, none⟩) g hB).trans a12, (Below.cell (p := ⟨B, 13, none⟩) g hB).trans a13⟩
theorem brF_range {f : Nat → Nat → Int} {n : Nat} (h : lineGood f n = true) : ∀ j, j < n → 0 ≤ brF f j ∧ brF f j ≤ 100000 := by
  intro j
  induction j with
  | zero => intro hj; have := line_bounds h 0 hj; simp only [brF]; omega
  | succ j ih => intro hj; have := line_bounds h (j + 1) hj; have := ih (by omega); simp only [brF]; split <;> omega

set_option maxRecDepth 100000 in
set_option maxHeartbeats 16000000 in
theorem rline_good (l0 l1 l2 l3 l4 l5 h0 h1 h2 h3 h4 h5 st br : Int) (A : Option Addr) (n c : Nat) (f : Nat → Nat → Int) (w : World) (hA : RowsAt w 8 A n f) (hok : voiceOk ⟨l0, l1, l2, l3, l4, l5⟩ ⟨h0, h1, h2, h3, h4, h5⟩ st br = true) (hn : n ≤ 200) (hgood : lineGood f n = true) :
    Calls Tryd.prog 21 #[.agg #[.int .i64 l0, .int .i64 l1, .int .i64 l2, .int .i64 l3, .int .i64 l4, .int .i64 l5, .int .i64 h0, .int .i64 h1, .int .i64 h2, .int .i64 h3, .int .i64 h4, .int .i64 h5, .int .i64 st, .int .i64 br], .slice A n c] w fun e w' => LineP ⟨l0, l1, l2, l3, l4, l5⟩ ⟨h0, h1, h2, h3, h4, h5⟩ st br f n w e w' := by
  have hV : ∀ W, Calls Tryd.prog 12 #[.agg #[.int .i64 l0, .int .i64 l1, .int .i64 l2, .int .i64 l3, .int .i64 l4, .int .i64 l5, .int .i64 h0, .int .i64 h1, .int .i64 h2, .int .i64 h3, .int .i64 h4, .int .i64 h5, .int .i64 st, .int .i64 br]] W fun e w' => e = .returned (.bool true) ∧ Gr W w' := fun W => by have k := rvalid_any l0 l1 l2 l3 l4 l5 h0 h1 h2 h3 h4 h5 st br W; rwa [hok] at k
  have hNo : ∀ W, Gr w W → Calls Tryd.prog 39 #[.slice A n c] W fun e w' => e = .returned (.bool true) ∧ Gr W w' := fun W h => by have k := rnotes_any A n c f W (hA.keep h); rwa [hgood, decide_eq_true hn, Bool.and_self] at k
  have HA := Lib.hid hA; have HV := Lib.hid hV; have HNO := Lib.hid hNo; have HOK := Lib.hid hok; have HGD := Lib.hid hgood
  clear hA hV hNo hok hgood
  go_enter Tryd.func21, Tryd.ntmps21
  go_wp2_with fail
  (go_at_call 12; with_reducible refine (HV.out _).mono ?_; rintro e w' ⟨rfl, hb⟩; have hz := hb.le; obtain ⟨hc, hf⟩ := hb.cells; have hn := hb.cellsN; (try simp only [World.size_alloc] at hc hf hz hn); (try simp only [World.size_setCell] at hc hf hz hn); (try simp only [World.size_drew] at hc hf hz hn))
  go_wp2_with fail
  go_at_call 39
  with_reducible refine (HNO.out _ (by repeat (first | with_reducible exact Gr.refl _ | with_reducible refine Gr.alloc ?_ _ | with_reducible refine Gr.drew ?_ | with_reducible refine Gr.trans ?_ (by assumption) | with_reducible refine Gr.setCell ?_ (by (try simp); (try omega)) _))).mono ?_
  rintro e wL ⟨rfl, hbL⟩
  have hzL := hbL.le
  obtain ⟨hcL, hfL⟩ := hbL.cells
  have hnL := hbL.cellsN
  (try simp only [World.size_alloc] at hcL hfL hzL hnL)
  go_wp2_with fail
  have hgL : Gr w wL := (by repeat (first | with_reducible exact Gr.refl _ | with_reducible refine Gr.alloc ?_ _ | with_reducible refine Gr.drew ?_ | with_reducible refine Gr.trans ?_ (by assumption) | with_reducible refine Gr.setCell ?_ (by (try simp); (try omega)) _))
  have hxL : wL.cell? ⟨w.heap.size, 0, none⟩ = some (.int .i64 l0) ∧ wL.cell? ⟨w.heap.size, 1, none⟩ = some (.int .i64 l1) ∧ wL.cell? ⟨w.heap.size, 2, none⟩ = some (.int .i64 l2) ∧ wL.cell? ⟨w.heap.size, 3, none⟩ = some (.int .i64 l3) ∧ wL.cell? ⟨w.heap.size, 4, none⟩ = some (.int .i64 l4) ∧ wL.cell? ⟨w.heap.size, 5, none⟩ = some (.int .i64 l5) ∧ wL.cell? ⟨w.heap.size, 6, none⟩ = some (.int .i64 h0) ∧ wL.cell? ⟨w.heap.size, 7, none⟩ = some (.int .i64 h1) ∧ wL.cell? ⟨w.heap.size, 8, none⟩ = some (.int .i64 h2) ∧ wL.cell? ⟨w.heap.size, 9, none⟩ = some (.int .i64 h3) ∧ wL.cell? ⟨w.heap.size, 10, none⟩ = some (.int .i64 h4) ∧ wL.cell? ⟨w.heap.size, 11, none⟩ = some (.int .i64 h5) ∧ wL.cell? ⟨w.heap.size, 12, none⟩ = some (.int .i64 st) ∧ wL.cell? ⟨w.heap.size, 13, none⟩ = some (.int .i64 br) := ⟨by simp [go_sem, *], by simp [go_sem, *], by simp [go_sem, *], by simp [go_sem, *], by simp [go_sem, *], by simp [go_sem, *], by simp [go_sem, *], by simp [go_sem, *], by simp [go_sem, *], by simp [go_sem, *], by simp [go_sem, *], by simp [go_sem, *], by simp [go_sem, *], by simp [go_sem, *]⟩
  have hsL : w.heap.size < wL.heap.size := by omega
  have HGL := Lib.hid hgL; have HXB := Lib.hid hxL; have HZB := Lib.hid hsL
  clear hgL hxL hbL hzL hcL hfL hnL hsL hb hc hf hz hn
  go_loopw [7, 8] (fun sv i wr => ∃ j : Nat, j ≤ n ∧ i = .int .i64 j ∧ sv = .int .i64 (brP f j) ∧ singAll ⟨l0, l1, l2, l3, l4, l5⟩ ⟨h0, h1, h2, h3, h4, h5⟩ st br f j = true ∧ Gr wL wr) (fun _ i _ => n - (intOf i).toNat)
  case atStart => exact ⟨0, Nat.zero_le _, rfl, rfl, rfl, Gr.refl _⟩
  case round =>
    obtain ⟨j, hj, rfl, rfl, hal, hg⟩ := hrel
    have HAL := Lib.hid hal; have HGW := Lib.hid hg
    clear hal hg
    by_cases hlt : j < n
    · obtain ⟨b, off, rfl, hbl, -⟩ := HA.out.eight hlt
      obtain ⟨wp, rfl⟩ : ∃ wp : World, wp = wr := ⟨_, rfl⟩
      have hlt' : (j : Int) < (n : Int) := by omega
      have hj0 : (0 : Int) ≤ (j : Int) := by omega
      have hsj := sungOk_parts (lineGood_le HGD.out j hlt)
      have hbj := line_bounds HGD.out j hlt
      obtain ⟨hb1, hb2, hb3⟩ := hbj
      obtain ⟨hr1, hr2⟩ := brF_range HGD.out j hlt
      have hH := fun W => rhas_any l0 l1 l2 l3 l4 l5 h0 h1 h2 h3 h4 h5 st br (f j 2) (f j 3) (f j 4) (f j 5) (f j 6) (f j 7) W
      simp only [HOK.out, hsj.2.2.2, Bool.true_and, Bool.and_self, cond_true] at hH
      have hdec0 : (j = 0) ∨ ∃ p, j = p + 1 := by cases j with
        | zero => exact Or.inl rfl
        | succ p => exact Or.inr ⟨p, rfl⟩
      rcases hdec0 with hz0 | ⟨p, hp⟩
      · have HZJ := Lib.hid hz0
        have HSV : Hid (brF f j = f j 0) := Lib.hid (by have := hz0; subst this; rfl)
        have z0 : ((j : Int) == 0) = true := by simp; omega
        have z1 : (j == 0) = true := by simp; omega
        have z2 : decide (0 < (j : Int)) = false := decide_eq_false (by omega)
        have z3 : decide (0 < j) = false := decide_eq_false (by omega)
        have hw1 : IntKind.i64.wrap (f j 1 - f j 0) = f j 1 - f j 0 := IntWalk.i64_in _ ⟨by omega, by omega⟩
        clear hz0 hsj hr1 hr2
        generalize brP f j = sv
        rcases tf (hasB ⟨l0, l1, l2, l3, l4, l5⟩ ⟨h0, h1, h2, h3, h4, h5⟩ ⟨f j 2, f j 3, f j 4, f j 5, f j 6, f j 7⟩) with q1 | q1
        · skip
          by_cases k5 : br < f j 1 - f j 0
          · have d5 : decide (br < f j 1 - f j 0) = true := decide_eq_true k5
            have HS : Hid (singB ⟨l0, l1, l2, l3, l4, l5⟩ ⟨h0, h1, h2, h3, h4, h5⟩ st br f j = false) := Lib.hid (by
              have e := HSV.out; have z := HZJ.out; subst z
              simp only [singB, atN]
              rw [e]
              rw [decide_eq_false (by omega), Bool.false_and])
            rw [q1] at hH
            have HH := Lib.hid hH
            clear hH
            clear q1 k5
            as_aux_lemma =>
              obtain ⟨x0, x1, x2, x3, x4, x5, x6, x7, x8, x9, x10, x11, x12, x13⟩ : wp.cell? ⟨w.heap.size, 0, none⟩ = some (.int .i64 l0) ∧ wp.cell? ⟨w.heap.size, 1, none⟩ = some (.int .i64 l1) ∧ wp.cell? ⟨w.heap.size, 2, none⟩ = some (.int .i64 l2) ∧ wp.cell? ⟨w.heap.size, 3, none⟩ = some (.int .i64 l3) ∧ wp.cell? ⟨w.heap.size, 4, none⟩ = some (.int .i64 l4) ∧ wp.cell? ⟨w.heap.size, 5, none⟩ = some (.int .i64 l5) ∧ wp.cell? ⟨w.heap.size, 6, none⟩ = some (.int .i64 h0) ∧ wp.cell? ⟨w.heap.size, 7, none⟩ = some (.int .i64 h1) ∧ wp.cell? ⟨w.heap.size, 8, none⟩ = some (.int .i64 h2) ∧ wp.cell? ⟨w.heap.size, 9, none⟩ = some (.int .i64 h3) ∧ wp.cell? ⟨w.heap.size, 10, none⟩ = some (.int .i64 h4) ∧ wp.cell? ⟨w.heap.size, 11, none⟩ = some (.int .i64 h5) ∧ wp.cell? ⟨w.heap.size, 12, none⟩ = some (.int .i64 st) ∧ wp.cell? ⟨w.heap.size, 13, none⟩ = some (.int .i64 br) := boxKeep (HGW.out) HZB.out HXB.out
              obtain ⟨c0, c1, c2, c3, c4, c5, c6, c7⟩ := RowsAt.eightAt (HA.out.keep (HGL.out.trans (HGW.out))) hlt
              have hsA : w.heap.size < wp.heap.size := Nat.lt_of_lt_of_le HZB.out (HGW.out).size
              have hbA : b < wp.heap.size := by omega
              go_wp2_with fail
              go_quiet (fail)
              go_upto_region 13 with fail
              have hq : Gr wL (wp.drewN nq) := HGW.out.trans ((Gr.refl _).drewN _)
              generalize wp.drewN nq = wq at *
              have HQ := Lib.hid hq
              clear hq
              clear hsA hbA x0 x1 x2 x3 x4 x5 x6 x7 x8 x9 x10 x11 x12 x13 c0 c1 c2 c3 c4 c5 c6 c7
              obtain ⟨x0, x1, x2, x3, x4, x5, x6, x7, x8, x9, x10, x11, x12, x13⟩ : wq.cell? ⟨w.heap.size, 0, none⟩ = some (.int .i64 l0) ∧ wq.cell? ⟨w.heap.size, 1, none⟩ = some (.int .i64 l1) ∧ wq.cell? ⟨w.heap.size, 2, none⟩ = some (.int .i64 l2) ∧ wq.cell? ⟨w.heap.size, 3, none⟩ = some (.int .i64 l3) ∧ wq.cell? ⟨w.heap.size, 4, none⟩ = some (.int .i64 l4) ∧ wq.cell? ⟨w.heap.size, 5, none⟩ = some (.int .i64 l5) ∧ wq.cell? ⟨w.heap.size, 6, none⟩ = some (.int .i64 h0) ∧ wq.cell? ⟨w.heap.size, 7, none⟩ = some (.int .i64 h1) ∧ wq.cell? ⟨w.heap.size, 8, none⟩ = some (.int .i64 h2) ∧ wq.cell? ⟨w.heap.size, 9, none⟩ = some (.int .i64 h3) ∧ wq.cell? ⟨w.heap.size, 10, none⟩ = some (.int .i64 h4) ∧ wq.cell? ⟨w.heap.size, 11, none⟩ = some (.int .i64 h5) ∧ wq.cell? ⟨w.heap.size, 12, none⟩ = some (.int .i64 st) ∧ wq.cell? ⟨w.heap.size, 13, none⟩ = some (.int .i64 br) := boxKeep (HQ.out) HZB.out HXB.out
              obtain ⟨c0, c1, c2, c3, c4, c5, c6, c7⟩ := RowsAt.eightAt (HA.out.keep (HGL.out.trans (HQ.out))) hlt
              have hsA : w.heap.size < wq.heap.size := Nat.lt_of_lt_of_le HZB.out (HQ.out).size
              have hbA : b < wq.heap.size := by omega
              refine wp_region_held_drew (S := fun wx => (∀ b o, (⟨min (b + 1) wq.heap.size, 0, none⟩ : Addr) = ⟨b + 1, 0, none⟩ → wx.cell? ⟨b, o, none⟩ = wq.cell? ⟨b, o, none⟩) ∧ Gr wq wx) (by kernel_rfl) (held_drew wq) (fun hHeld => ?_)
              refine take_at (i := 0) (oi := _) (d := some 48) (v := ?_) rfl rfl (by kernel_rfl) (by kernel_rfl) (by kernel_rfl) (fun _ _ _ h => h) (Or.inl ⟨by rfl, ?_⟩) hHeld ?_
              rotate_left
              next => (intro w hSw; (try dsimp only at hSw); go_simp; try with_reducible rfl)
              try simp only [Act.put, List.setIfInBounds_toArray, List.set_cons_zero, List.set_cons_succ]
              refine take_at (i := 1) (oi := _) (d := some 49) (v := ?_) rfl rfl (by kernel_rfl) (by kernel_rfl) (by kernel_rfl) (fun _ _ _ h => h) (Or.inl ⟨by rfl, ?_⟩) hHeld ?_
              rotate_left
              next => (intro w hSw; (try dsimp only at hSw); go_simp; try with_reducible rfl)
              try simp only [Act.put, List.setIfInBounds_toArray, List.set_cons_zero, List.set_cons_succ]
              refine take_at (i := 2) (oi := _) (d := some 50) (v := ?_) rfl rfl (by kernel_rfl) (by kernel_rfl) (by kernel_rfl) (fun _ _ _ h => h) (Or.inl ⟨by rfl, ?_⟩) hHeld ?_
              rotate_left
              next => (intro w hSw; (try dsimp only at hSw); go_simp; try with_reducible rfl)
              try simp only [Act.put, List.setIfInBounds_toArray, List.set_cons_zero, List.set_cons_succ]
              refine take_at (i := 3) (oi := _) (d := some 51) (v := ?_) rfl rfl (by kernel_rfl) (by kernel_rfl) (by kernel_rfl) (fun _ _ _ h => h) (Or.inl ⟨by rfl, ?_⟩) hHeld ?_
              rotate_left
              next => (intro w hSw; (try dsimp only at hSw); go_simp; try with_reducible rfl)
              try simp only [Act.put, List.setIfInBounds_toArray, List.set_cons_zero, List.set_cons_succ]
              refine take_at (i := 4) (oi := _) (d := some 52) (v := ?_) rfl rfl (by kernel_rfl) (by kernel_rfl) (by kernel_rfl) (fun _ _ _ h => h) (Or.inl ⟨by rfl, ?_⟩) hHeld ?_
              rotate_left
              next => (intro w hSw; (try dsimp only at hSw); go_simp; try with_reducible rfl)
              try simp only [Act.put, List.setIfInBounds_toArray, List.set_cons_zero, List.set_cons_succ]
              refine take_at (i := 5) (oi := _) (d := some 53) (v := ?_) rfl rfl (by kernel_rfl) (by kernel_rfl) (by kernel_rfl) (fun _ _ _ h => h) (Or.inl ⟨by rfl, ?_⟩) hHeld ?_
              rotate_left
              next => (intro w hSw; (try dsimp only at hSw); go_simp; try with_reducible rfl)
              try simp only [Act.put, List.setIfInBounds_toArray, List.set_cons_zero, List.set_cons_succ]
              refine wpAnyH_ready (rs := [6]) (by kernel_rfl) (by simp) (AllReadyH.cons (o := _) rfl (fun K hK => ?_) AllReadyH.nil)
              go_simp
              go_at_call 14
              refine (HH.out _).mono ?_
              rintro e w' ⟨rfl, hb⟩
              refine hK.out _ _ (held_call hHeld hb) (fun hHeld => ?_)
              clear hK K hb
              try simp only [Act.put, List.setIfInBounds_toArray, List.set_cons_zero, List.set_cons_succ]
              refine take_at (i := 7) (oi := _) (d := some 47) (v := ?_) rfl rfl (by kernel_rfl) (by kernel_rfl) (by kernel_rfl) (fun _ _ _ h => h) (Or.inl ⟨by rfl, ?_⟩) hHeld ?_
              rotate_left
              next => (intro w hSw; (try dsimp only at hSw); go_simp; try with_reducible rfl)
              try simp only [Act.put, List.setIfInBounds_toArray, List.set_cons_zero, List.set_cons_succ]
              refine take_at (i := 8) (oi := _) (d := some 55) (v := ?_) rfl rfl (by kernel_rfl) (by kernel_rfl) (by kernel_rfl) (fun _ _ _ h => h) (Or.inl ⟨by rfl, ?_⟩) hHeld ?_
              rotate_left
              next => (intro w hSw; (try dsimp only at hSw); go_simp; try with_reducible rfl)
              try simp only [Act.put, List.setIfInBounds_toArray, List.set_cons_zero, List.set_cons_succ]
              refine take_at (i := 9) (oi := _) (d := some 56) (v := ?_) rfl rfl (by kernel_rfl) (by kernel_rfl) (by kernel_rfl) (fun _ _ _ h => h) (Or.inl ⟨by rfl, ?_⟩) hHeld ?_
              rotate_left
              next => (intro w hSw; (try dsimp only at hSw); go_simp; try with_reducible rfl)
              try simp only [Act.put, List.setIfInBounds_toArray, List.set_cons_zero, List.set_cons_succ]
              refine take_at (i := 10) (oi := _) (d := some 9) (v := ?_) rfl rfl (by kernel_rfl) (by kernel_rfl) (by kernel_rfl) (fun _ _ _ h => h) (Or.inl ⟨by rfl, ?_⟩) hHeld ?_
              rotate_left
              next => (intro w hSw; (try dsimp only at hSw); go_simp; try with_reducible rfl)
              try simp only [Act.put, List.setIfInBounds_toArray, List.set_cons_zero, List.set_cons_succ]
              refine take_at (i := 11) (oi := _) (d := some 10) (v := ?_) rfl rfl (by kernel_rfl) (by kernel_rfl) (by kernel_rfl) (fun _ _ _ h => h) (Or.inl ⟨by rfl, ?_⟩) hHeld ?_
              rotate_left
              next => (intro w hSw; (try dsimp only at hSw); go_simp; try with_reducible rfl)
              try simp only [Act.put, List.setIfInBounds_toArray, List.set_cons_zero, List.set_cons_succ]
              refine wpAnyH_done (by kernel_rfl) ?_ _
              obtain ⟨w8, rfl⟩ : ∃ x : World, x = w' := ⟨_, rfl⟩
              have HQ8 := Lib.hid (HQ.out.trans hHeld.2)
              clear hHeld
              clear hsA hbA x0 x1 x2 x3 x4 x5 x6 x7 x8 x9 x10 x11 x12 x13 c0 c1 c2 c3 c4 c5 c6 c7
              obtain ⟨x0, x1, x2, x3, x4, x5, x6, x7, x8, x9, x10, x11, x12, x13⟩ : w8.cell? ⟨w.heap.size, 0, none⟩ = some (.int .i64 l0) ∧ w8.cell? ⟨w.heap.size, 1, none⟩ = some (.int .i64 l1) ∧ w8.cell? ⟨w.heap.size, 2, none⟩ = some (.int .i64 l2) ∧ w8.cell? ⟨w.heap.size, 3, none⟩ = some (.int .i64 l3) ∧ w8.cell? ⟨w.heap.size, 4, none⟩ = some (.int .i64 l4) ∧ w8.cell? ⟨w.heap.size, 5, none⟩ = some (.int .i64 l5) ∧ w8.cell? ⟨w.heap.size, 6, none⟩ = some (.int .i64 h0) ∧ w8.cell? ⟨w.heap.size, 7, none⟩ = some (.int .i64 h1) ∧ w8.cell? ⟨w.heap.size, 8, none⟩ = some (.int .i64 h2) ∧ w8.cell? ⟨w.heap.size, 9, none⟩ = some (.int .i64 h3) ∧ w8.cell? ⟨w.heap.size, 10, none⟩ = some (.int .i64 h4) ∧ w8.cell? ⟨w.heap.size, 11, none⟩ = some (.int .i64 h5) ∧ w8.cell? ⟨w.heap.size, 12, none⟩ = some (.int .i64 st) ∧ w8.cell? ⟨w.heap.size, 13, none⟩ = some (.int .i64 br) := boxKeep (HQ8.out) HZB.out HXB.out
              obtain ⟨c0, c1, c2, c3, c4, c5, c6, c7⟩ := RowsAt.eightAt (HA.out.keep (HGL.out.trans (HQ8.out))) hlt
              have hsA : w.heap.size < w8.heap.size := Nat.lt_of_lt_of_le HZB.out (HQ8.out).size
              have hbA : b < w8.heap.size := by omega
              go_upto_region 17 with fail
              go_quiet (fail)
              go_wp2_with fail
              go_ret2
              exact ⟨_, rfl, Or.inr ⟨j, hlt, HAL.out, HS.out, rfl⟩, HGL.out.trans (HQ8.out.trans ((Gr.refl _).drewN _))⟩
          · have d5 : decide (br < f j 1 - f j 0) = false := decide_eq_false k5
            have HS : Hid (singB ⟨l0, l1, l2, l3, l4, l5⟩ ⟨h0, h1, h2, h3, h4, h5⟩ st br f j = true) := Lib.hid (by
              have e := HSV.out; have z := HZJ.out; subst z
              simp only [singB, atN]
              rw [e]
              rw [q1, decide_eq_true (by omega)]; rfl)
            have HS1 := HS
            have HS : Hid (singAll ⟨l0, l1, l2, l3, l4, l5⟩ ⟨h0, h1, h2, h3, h4, h5⟩ st br f (j + 1) = true) := Lib.hid (by simp only [singAll, HAL.out, HS1.out, Bool.and_self])
            clear HS1
            rw [q1] at hH
            have HH := Lib.hid hH
            clear hH
            clear q1 k5
            as_aux_lemma =>
              obtain ⟨x0, x1, x2, x3, x4, x5, x6, x7, x8, x9, x10, x11, x12, x13⟩ : wp.cell? ⟨w.heap.size, 0, none⟩ = some (.int .i64 l0) ∧ wp.cell? ⟨w.heap.size, 1, none⟩ = some (.int .i64 l1) ∧ wp.cell? ⟨w.heap.size, 2, none⟩ = some (.int .i64 l2) ∧ wp.cell? ⟨w.heap.size, 3, none⟩ = some (.int .i64 l3) ∧ wp.cell? ⟨w.heap.size, 4, none⟩ = some (.int .i64 l4) ∧ wp.cell? ⟨w.heap.size, 5, none⟩ = some (.int .i64 l5) ∧ wp.cell? ⟨w.heap.size, 6, none⟩ = some (.int .i64 h0) ∧ wp.cell? ⟨w.heap.size, 7, none⟩ = some (.int .i64 h1) ∧ wp.cell? ⟨w.heap.size, 8, none⟩ = some (.int .i64 h2) ∧ wp.cell? ⟨w.heap.size, 9, none⟩ = some (.int .i64 h3) ∧ wp.cell? ⟨w.heap.size, 10, none⟩ = some (.int .i64 h4) ∧ wp.cell? ⟨w.heap.size, 11, none⟩ = some (.int .i64 h5) ∧ wp.cell? ⟨w.heap.size, 12, none⟩ = some (.int .i64 st) ∧ wp.cell? ⟨w.heap.size, 13, none⟩ = some (.int .i64 br) := boxKeep (HGW.out) HZB.out HXB.out
              obtain ⟨c0, c1, c2, c3, c4, c5, c6, c7⟩ := RowsAt.eightAt (HA.out.keep (HGL.out.trans (HGW.out))) hlt
              have hsA : w.heap.size < wp.heap.size := Nat.lt_of_lt_of_le HZB.out (HGW.out).size
              have hbA : b < wp.heap.size := by omega
              go_wp2_with fail
              go_quiet (fail)
              go_upto_region 13 with fail
              have hq : Gr wL (wp.drewN nq) := HGW.out.trans ((Gr.refl _).drewN _)
              generalize wp.drewN nq = wq at *
              have HQ := Lib.hid hq
              clear hq
              clear hsA hbA x0 x1 x2 x3 x4 x5 x6 x7 x8 x9 x10 x11 x12 x13 c0 c1 c2 c3 c4 c5 c6 c7
              obtain ⟨x0, x1, x2, x3, x4, x5, x6, x7, x8, x9, x10, x11, x12, x13⟩ : wq.cell? ⟨w.heap.size, 0, none⟩ = some (.int .i64 l0) ∧ wq.cell? ⟨w.heap.size, 1, none⟩ = some (.int .i64 l1) ∧ wq.cell? ⟨w.heap.size, 2, none⟩ = some (.int .i64 l2) ∧ wq.cell? ⟨w.heap.size, 3, none⟩ = some (.int .i64 l3) ∧ wq.cell? ⟨w.heap.size, 4, none⟩ = some (.int .i64 l4) ∧ wq.cell? ⟨w.heap.size, 5, none⟩ = some (.int .i64 l5) ∧ wq.cell? ⟨w.heap.size, 6, none⟩ = some (.int .i64 h0) ∧ wq.cell? ⟨w.heap.size, 7, none⟩ = some (.int .i64 h1) ∧ wq.cell? ⟨w.heap.size, 8, none⟩ = some (.int .i64 h2) ∧ wq.cell? ⟨w.heap.size, 9, none⟩ = some (.int .i64 h3) ∧ wq.cell? ⟨w.heap.size, 10, none⟩ = some (.int .i64 h4) ∧ wq.cell? ⟨w.heap.size, 11, none⟩ = some (.int .i64 h5) ∧ wq.cell? ⟨w.heap.size, 12, none⟩ = some (.int .i64 st) ∧ wq.cell? ⟨w.heap.size, 13, none⟩ = some (.int .i64 br) := boxKeep (HQ.out) HZB.out HXB.out
              obtain ⟨c0, c1, c2, c3, c4, c5, c6, c7⟩ := RowsAt.eightAt (HA.out.keep (HGL.out.trans (HQ.out))) hlt
              have hsA : w.heap.size < wq.heap.size := Nat.lt_of_lt_of_le HZB.out (HQ.out).size
              have hbA : b < wq.heap.size := by omega
              refine wp_region_held_drew (S := fun wx => (∀ b o, (⟨min (b + 1) wq.heap.size, 0, none⟩ : Addr) = ⟨b + 1, 0, none⟩ → wx.cell? ⟨b, o, none⟩ = wq.cell? ⟨b, o, none⟩) ∧ Gr wq wx) (by kernel_rfl) (held_drew wq) (fun hHeld => ?_)
              refine take_at (i := 0) (oi := _) (d := some 48) (v := ?_) rfl rfl (by kernel_rfl) (by kernel_rfl) (by kernel_rfl) (fun _ _ _ h => h) (Or.inl ⟨by rfl, ?_⟩) hHeld ?_
              rotate_left
              next => (intro w hSw; (try dsimp only at hSw); go_simp; try with_reducible rfl)
              try simp only [Act.put, List.setIfInBounds_toArray, List.set_cons_zero, List.set_cons_succ]
              refine take_at (i := 1) (oi := _) (d := some 49) (v := ?_) rfl rfl (by kernel_rfl) (by kernel_rfl) (by kernel_rfl) (fun _ _ _ h => h) (Or.inl ⟨by rfl, ?_⟩) hHeld ?_
              rotate_left
              next => (intro w hSw; (try dsimp only at hSw); go_simp; try with_reducible rfl)
              try simp only [Act.put, List.setIfInBounds_toArray, List.set_cons_zero, List.set_cons_succ]
              refine take_at (i := 2) (oi := _) (d := some 50) (v := ?_) rfl rfl (by kernel_rfl) (by kernel_rfl) (by kernel_rfl) (fun _ _ _ h => h) (Or.inl ⟨by rfl, ?_⟩) hHeld ?_
              rotate_left
              next => (intro w hSw; (try dsimp only at hSw); go_simp; try with_reducible rfl)
              try simp only [Act.put, List.setIfInBounds_toArray, List.set_cons_zero, List.set_cons_succ]
              refine take_at (i := 3) (oi := _) (d := some 51) (v := ?_) rfl rfl (by kernel_rfl) (by kernel_rfl) (by kernel_rfl) (fun _ _ _ h => h) (Or.inl ⟨by rfl, ?_⟩) hHeld ?_
              rotate_left
              next => (intro w hSw; (try dsimp only at hSw); go_simp; try with_reducible rfl)
              try simp only [Act.put, List.setIfInBounds_toArray, List.set_cons_zero, List.set_cons_succ]
              refine take_at (i := 4) (oi := _) (d := some 52) (v := ?_) rfl rfl (by kernel_rfl) (by kernel_rfl) (by kernel_rfl) (fun _ _ _ h => h) (Or.inl ⟨by rfl, ?_⟩) hHeld ?_
              rotate_left
              next => (intro w hSw; (try dsimp only at hSw); go_simp; try with_reducible rfl)
              try simp only [Act.put, List.setIfInBounds_toArray, List.set_cons_zero, List.set_cons_succ]
              refine take_at (i := 5) (oi := _) (d := some 53) (v := ?_) rfl rfl (by kernel_rfl) (by kernel_rfl) (by kernel_rfl) (fun _ _ _ h => h) (Or.inl ⟨by rfl, ?_⟩) hHeld ?_
              rotate_left
              next => (intro w hSw; (try dsimp only at hSw); go_simp; try with_reducible rfl)
              try simp only [Act.put, List.setIfInBounds_toArray, List.set_cons_zero, List.set_cons_succ]
              refine wpAnyH_ready (rs := [6]) (by kernel_rfl) (by simp) (AllReadyH.cons (o := _) rfl (fun K hK => ?_) AllReadyH.nil)
              go_simp
              go_at_call 14
              refine (HH.out _).mono ?_
              rintro e w' ⟨rfl, hb⟩
              refine hK.out _ _ (held_call hHeld hb) (fun hHeld => ?_)
              clear hK K hb
              try simp only [Act.put, List.setIfInBounds_toArray, List.set_cons_zero, List.set_cons_succ]
              refine take_at (i := 7) (oi := _) (d := some 47) (v := ?_) rfl rfl (by kernel_rfl) (by kernel_rfl) (by kernel_rfl) (fun _ _ _ h => h) (Or.inl ⟨by rfl, ?_⟩) hHeld ?_
              rotate_left
              next => (intro w hSw; (try dsimp only at hSw); go_simp; try with_reducible rfl)
              try simp only [Act.put, List.setIfInBounds_toArray, List.set_cons_zero, List.set_cons_succ]
              refine take_at (i := 8) (oi := _) (d := some 55) (v := ?_) rfl rfl (by kernel_rfl) (by kernel_rfl) (by kernel_rfl) (fun _ _ _ h => h) (Or.inl ⟨by rfl, ?_⟩) hHeld ?_
              rotate_left
              next => (intro w hSw; (try dsimp only at hSw); go_simp; try with_reducible rfl)
              try simp only [Act.put, List.setIfInBounds_toArray, List.set_cons_zero, List.set_cons_succ]
              refine take_at (i := 9) (oi := _) (d := some 56) (v := ?_) rfl rfl (by kernel_rfl) (by kernel_rfl) (by kernel_rfl) (fun _ _ _ h => h) (Or.inl ⟨by rfl, ?_⟩) hHeld ?_
              rotate_left
              next => (intro w hSw; (try dsimp only at hSw); go_simp; try with_reducible rfl)
              try simp only [Act.put, List.setIfInBounds_toArray, List.set_cons_zero, List.set_cons_succ]
              refine take_at (i := 10) (oi := _) (d := some 9) (v := ?_) rfl rfl (by kernel_rfl) (by kernel_rfl) (by kernel_rfl) (fun _ _ _ h => h) (Or.inl ⟨by rfl, ?_⟩) hHeld ?_
              rotate_left
              next => (intro w hSw; (try dsimp only at hSw); go_simp; try with_reducible rfl)
              try simp only [Act.put, List.setIfInBounds_toArray, List.set_cons_zero, List.set_cons_succ]
              refine take_at (i := 11) (oi := _) (d := some 10) (v := ?_) rfl rfl (by kernel_rfl) (by kernel_rfl) (by kernel_rfl) (fun _ _ _ h => h) (Or.inl ⟨by rfl, ?_⟩) hHeld ?_
              rotate_left
              next => (intro w hSw; (try dsimp only at hSw); go_simp; try with_reducible rfl)
              try simp only [Act.put, List.setIfInBounds_toArray, List.set_cons_zero, List.set_cons_succ]
              refine wpAnyH_done (by kernel_rfl) ?_ _
              obtain ⟨w8, rfl⟩ : ∃ x : World, x = w' := ⟨_, rfl⟩
              have HQ8 := Lib.hid (HQ.out.trans hHeld.2)
              clear hHeld
              clear hsA hbA x0 x1 x2 x3 x4 x5 x6 x7 x8 x9 x10 x11 x12 x13 c0 c1 c2 c3 c4 c5 c6 c7
              obtain ⟨x0, x1, x2, x3, x4, x5, x6, x7, x8, x9, x10, x11, x12, x13⟩ : w8.cell? ⟨w.heap.size, 0, none⟩ = some (.int .i64 l0) ∧ w8.cell? ⟨w.heap.size, 1, none⟩ = some (.int .i64 l1) ∧ w8.cell? ⟨w.heap.size, 2, none⟩ = some (.int .i64 l2) ∧ w8.cell? ⟨w.heap.size, 3, none⟩ = some (.int .i64 l3) ∧ w8.cell? ⟨w.heap.size, 4, none⟩ = some (.int .i64 l4) ∧ w8.cell? ⟨w.heap.size, 5, none⟩ = some (.int .i64 l5) ∧ w8.cell? ⟨w.heap.size, 6, none⟩ = some (.int .i64 h0) ∧ w8.cell? ⟨w.heap.size, 7, none⟩ = some (.int .i64 h1) ∧ w8.cell? ⟨w.heap.size, 8, none⟩ = some (.int .i64 h2) ∧ w8.cell? ⟨w.heap.size, 9, none⟩ = some (.int .i64 h3) ∧ w8.cell? ⟨w.heap.size, 10, none⟩ = some (.int .i64 h4) ∧ w8.cell? ⟨w.heap.size, 11, none⟩ = some (.int .i64 h5) ∧ w8.cell? ⟨w.heap.size, 12, none⟩ = some (.int .i64 st) ∧ w8.cell? ⟨w.heap.size, 13, none⟩ = some (.int .i64 br) := boxKeep (HQ8.out) HZB.out HXB.out
              obtain ⟨c0, c1, c2, c3, c4, c5, c6, c7⟩ := RowsAt.eightAt (HA.out.keep (HGL.out.trans (HQ8.out))) hlt
              have hsA : w.heap.size < w8.heap.size := Nat.lt_of_lt_of_le HZB.out (HQ8.out).size
              have hbA : b < w8.heap.size := by omega
              go_upto_region 17 with fail
              go_quiet (fail)
              go_wp2_with fail
              go_roundw
              case rel => exact ⟨j + 1, by omega, by first | rfl | go_num, by (show _ = Value.int .i64 (brF f j)); rw [HSV.out], HS.out, HQ8.out.trans ((Gr.refl _).drewN _)⟩
              case measure => simp [intOf]; omega
        · skip
          have HS : Hid (singB ⟨l0, l1, l2, l3, l4, l5⟩ ⟨h0, h1, h2, h3, h4, h5⟩ st br f j = false) := Lib.hid (by
            have e := HSV.out; have z := HZJ.out; subst z
            simp only [singB, atN]
            rw [e]
            rw [q1, Bool.and_false])
          rw [q1] at hH
          have HH := Lib.hid hH
          clear hH
          clear q1
          as_aux_lemma =>
            obtain ⟨x0, x1, x2, x3, x4, x5, x6, x7, x8, x9, x10, x11, x12, x13⟩ : wp.cell? ⟨w.heap.size, 0, none⟩ = some (.int .i64 l0) ∧ wp.cell? ⟨w.heap.size, 1, none⟩ = some (.int .i64 l1) ∧ wp.cell? ⟨w.heap.size, 2, none⟩ = some (.int .i64 l2) ∧ wp.cell? ⟨w.heap.size, 3, none⟩ = some (.int .i64 l3) ∧ wp.cell? ⟨w.heap.size, 4, none⟩ = some (.int .i64 l4) ∧ wp.cell? ⟨w.heap.size, 5, none⟩ = some (.int .i64 l5) ∧ wp.cell? ⟨w.heap.size, 6, none⟩ = some (.int .i64 h0) ∧ wp.cell? ⟨w.heap.size, 7, none⟩ = some (.int .i64 h1) ∧ wp.cell? ⟨w.heap.size, 8, none⟩ = some (.int .i64 h2) ∧ wp.cell? ⟨w.heap.size, 9, none⟩ = some (.int .i64 h3) ∧ wp.cell? ⟨w.heap.size, 10, none⟩ = some (.int .i64 h4) ∧ wp.cell? ⟨w.heap.size, 11, none⟩ = some (.int .i64 h5) ∧ wp.cell? ⟨w.heap.size, 12, none⟩ = some (.int .i64 st) ∧ wp.cell? ⟨w.heap.size, 13, none⟩ = some (.int .i64 br) := boxKeep (HGW.out) HZB.out HXB.out
            obtain ⟨c0, c1, c2, c3, c4, c5, c6, c7⟩ := RowsAt.eightAt (HA.out.keep (HGL.out.trans (HGW.out))) hlt
            have hsA : w.heap.size < wp.heap.size := Nat.lt_of_lt_of_le HZB.out (HGW.out).size
            have hbA : b < wp.heap.size := by omega
            go_wp2_with fail
            go_quiet (fail)
            go_upto_region 13 with fail
            have hq : Gr wL (wp.drewN nq) := HGW.out.trans ((Gr.refl _).drewN _)
            generalize wp.drewN nq = wq at *
            have HQ := Lib.hid hq
            clear hq
            clear hsA hbA x0 x1 x2 x3 x4 x5 x6 x7 x8 x9 x10 x11 x12 x13 c0 c1 c2 c3 c4 c5 c6 c7
            obtain ⟨x0, x1, x2, x3, x4, x5, x6, x7, x8, x9, x10, x11, x12, x13⟩ : wq.cell? ⟨w.heap.size, 0, none⟩ = some (.int .i64 l0) ∧ wq.cell? ⟨w.heap.size, 1, none⟩ = some (.int .i64 l1) ∧ wq.cell? ⟨w.heap.size, 2, none⟩ = some (.int .i64 l2) ∧ wq.cell? ⟨w.heap.size, 3, none⟩ = some (.int .i64 l3) ∧ wq.cell? ⟨w.heap.size, 4, none⟩ = some (.int .i64 l4) ∧ wq.cell? ⟨w.heap.size, 5, none⟩ = some (.int .i64 l5) ∧ wq.cell? ⟨w.heap.size, 6, none⟩ = some (.int .i64 h0) ∧ wq.cell? ⟨w.heap.size, 7, none⟩ = some (.int .i64 h1) ∧ wq.cell? ⟨w.heap.size, 8, none⟩ = some (.int .i64 h2) ∧ wq.cell? ⟨w.heap.size, 9, none⟩ = some (.int .i64 h3) ∧ wq.cell? ⟨w.heap.size, 10, none⟩ = some (.int .i64 h4) ∧ wq.cell? ⟨w.heap.size, 11, none⟩ = some (.int .i64 h5) ∧ wq.cell? ⟨w.heap.size, 12, none⟩ = some (.int .i64 st) ∧ wq.cell? ⟨w.heap.size, 13, none⟩ = some (.int .i64 br) := boxKeep (HQ.out) HZB.out HXB.out
            obtain ⟨c0, c1, c2, c3, c4, c5, c6, c7⟩ := RowsAt.eightAt (HA.out.keep (HGL.out.trans (HQ.out))) hlt
            have hsA : w.heap.size < wq.heap.size := Nat.lt_of_lt_of_le HZB.out (HQ.out).size
            have hbA : b < wq.heap.size := by omega
            refine wp_region_held_drew (S := fun wx => (∀ b o, (⟨min (b + 1) wq.heap.size, 0, none⟩ : Addr) = ⟨b + 1, 0, none⟩ → wx.cell? ⟨b, o, none⟩ = wq.cell? ⟨b, o, none⟩) ∧ Gr wq wx) (by kernel_rfl) (held_drew wq) (fun hHeld => ?_)
            refine take_at (i := 0) (oi := _) (d := some 48) (v := ?_) rfl rfl (by kernel_rfl) (by kernel_rfl) (by kernel_rfl) (fun _ _ _ h => h) (Or.inl ⟨by rfl, ?_⟩) hHeld ?_
            rotate_left
            next => (intro w hSw; (try dsimp only at hSw); go_simp; try with_reducible rfl)
            try simp only [Act.put, List.setIfInBounds_toArray, List.set_cons_zero, List.set_cons_succ]
            refine take_at (i := 1) (oi := _) (d := some 49) (v := ?_) rfl rfl (by kernel_rfl) (by kernel_rfl) (by kernel_rfl) (fun _ _ _ h => h) (Or.inl ⟨by rfl, ?_⟩) hHeld ?_
            rotate_left
            next => (intro w hSw; (try dsimp only at hSw); go_simp; try with_reducible rfl)
            try simp only [Act.put, List.setIfInBounds_toArray, List.set_cons_zero, List.set_cons_succ]
            refine take_at (i := 2) (oi := _) (d := some 50) (v := ?_) rfl rfl (by kernel_rfl) (by kernel_rfl) (by kernel_rfl) (fun _ _ _ h => h) (Or.inl ⟨by rfl, ?_⟩) hHeld ?_
            rotate_left
            next => (intro w hSw; (try dsimp only at hSw); go_simp; try with_reducible rfl)
            try simp only [Act.put, List.setIfInBounds_toArray, List.set_cons_zero, List.set_cons_succ]
            refine take_at (i := 3) (oi := _) (d := some 51) (v := ?_) rfl rfl (by kernel_rfl) (by kernel_rfl) (by kernel_rfl) (fun _ _ _ h => h) (Or.inl ⟨by rfl, ?_⟩) hHeld ?_
            rotate_left
            next => (intro w hSw; (try dsimp only at hSw); go_simp; try with_reducible rfl)
            try simp only [Act.put, List.setIfInBounds_toArray, List.set_cons_zero, List.set_cons_succ]
            refine take_at (i := 4) (oi := _) (d := some 52) (v := ?_) rfl rfl (by kernel_rfl) (by kernel_rfl) (by kernel_rfl) (fun _ _ _ h => h) (Or.inl ⟨by rfl, ?_⟩) hHeld ?_
            rotate_left
            next => (intro w hSw; (try dsimp only at hSw); go_simp; try with_reducible rfl)
            try simp only [Act.put, List.setIfInBounds_toArray, List.set_cons_zero, List.set_cons_succ]
            refine take_at (i := 5) (oi := _) (d := some 53) (v := ?_) rfl rfl (by kernel_rfl) (by kernel_rfl) (by kernel_rfl) (fun _ _ _ h => h) (Or.inl ⟨by rfl, ?_⟩) hHeld ?_
            rotate_left
            next => (intro w hSw; (try dsimp only at hSw); go_simp; try with_reducible rfl)
            try simp only [Act.put, List.setIfInBounds_toArray, List.set_cons_zero, List.set_cons_succ]
            refine wpAnyH_ready (rs := [6]) (by kernel_rfl) (by simp) (AllReadyH.cons (o := _) rfl (fun K hK => ?_) AllReadyH.nil)
            go_simp
            go_at_call 14
            refine (HH.out _).mono ?_
            rintro e w' ⟨rfl, hb⟩
            refine hK.out _ _ (held_call hHeld hb) (fun hHeld => ?_)
            clear hK K hb
            try simp only [Act.put, List.setIfInBounds_toArray, List.set_cons_zero, List.set_cons_succ]
            refine take_at (i := 7) (oi := _) (d := some 47) (v := ?_) rfl rfl (by kernel_rfl) (by kernel_rfl) (by kernel_rfl) (fun _ _ _ h => h) (Or.inl ⟨by rfl, ?_⟩) hHeld ?_
            rotate_left
            next => (intro w hSw; (try dsimp only at hSw); go_simp; try with_reducible rfl)
            try simp only [Act.put, List.setIfInBounds_toArray, List.set_cons_zero, List.set_cons_succ]
            refine take_at (i := 8) (oi := _) (d := some 55) (v := ?_) rfl rfl (by kernel_rfl) (by kernel_rfl) (by kernel_rfl) (fun _ _ _ h => h) (Or.inl ⟨by rfl, ?_⟩) hHeld ?_
            rotate_left
            next => (intro w hSw; (try dsimp only at hSw); go_simp; try with_reducible rfl)
            try simp only [Act.put, List.setIfInBounds_toArray, List.set_cons_zero, List.set_cons_succ]
            refine take_at (i := 9) (oi := _) (d := some 56) (v := ?_) rfl rfl (by kernel_rfl) (by kernel_rfl) (by kernel_rfl) (fun _ _ _ h => h) (Or.inl ⟨by rfl, ?_⟩) hHeld ?_
            rotate_left
            next => (intro w hSw; (try dsimp only at hSw); go_simp; try with_reducible rfl)
            try simp only [Act.put, List.setIfInBounds_toArray, List.set_cons_zero, List.set_cons_succ]
            refine take_at (i := 10) (oi := _) (d := some 9) (v := ?_) rfl rfl (by kernel_rfl) (by kernel_rfl) (by kernel_rfl) (fun _ _ _ h => h) (Or.inl ⟨by rfl, ?_⟩) hHeld ?_
            rotate_left
            next => (intro w hSw; (try dsimp only at hSw); go_simp; try with_reducible rfl)
            try simp only [Act.put, List.setIfInBounds_toArray, List.set_cons_zero, List.set_cons_succ]
            refine take_at (i := 11) (oi := _) (d := some 10) (v := ?_) rfl rfl (by kernel_rfl) (by kernel_rfl) (by kernel_rfl) (fun _ _ _ h => h) (Or.inl ⟨by rfl, ?_⟩) hHeld ?_
            rotate_left
            next => (intro w hSw; (try dsimp only at hSw); go_simp; try with_reducible rfl)
            try simp only [Act.put, List.setIfInBounds_toArray, List.set_cons_zero, List.set_cons_succ]
            refine wpAnyH_done (by kernel_rfl) ?_ _
            obtain ⟨w8, rfl⟩ : ∃ x : World, x = w' := ⟨_, rfl⟩
            have HQ8 := Lib.hid (HQ.out.trans hHeld.2)
            clear hHeld
            clear hsA hbA x0 x1 x2 x3 x4 x5 x6 x7 x8 x9 x10 x11 x12 x13 c0 c1 c2 c3 c4 c5 c6 c7
            obtain ⟨x0, x1, x2, x3, x4, x5, x6, x7, x8, x9, x10, x11, x12, x13⟩ : w8.cell? ⟨w.heap.size, 0, none⟩ = some (.int .i64 l0) ∧ w8.cell? ⟨w.heap.size, 1, none⟩ = some (.int .i64 l1) ∧ w8.cell? ⟨w.heap.size, 2, none⟩ = some (.int .i64 l2) ∧ w8.cell? ⟨w.heap.size, 3, none⟩ = some (.int .i64 l3) ∧ w8.cell? ⟨w.heap.size, 4, none⟩ = some (.int .i64 l4) ∧ w8.cell? ⟨w.heap.size, 5, none⟩ = some (.int .i64 l5) ∧ w8.cell? ⟨w.heap.size, 6, none⟩ = some (.int .i64 h0) ∧ w8.cell? ⟨w.heap.size, 7, none⟩ = some (.int .i64 h1) ∧ w8.cell? ⟨w.heap.size, 8, none⟩ = some (.int .i64 h2) ∧ w8.cell? ⟨w.heap.size, 9, none⟩ = some (.int .i64 h3) ∧ w8.cell? ⟨w.heap.size, 10, none⟩ = some (.int .i64 h4) ∧ w8.cell? ⟨w.heap.size, 11, none⟩ = some (.int .i64 h5) ∧ w8.cell? ⟨w.heap.size, 12, none⟩ = some (.int .i64 st) ∧ w8.cell? ⟨w.heap.size, 13, none⟩ = some (.int .i64 br) := boxKeep (HQ8.out) HZB.out HXB.out
            obtain ⟨c0, c1, c2, c3, c4, c5, c6, c7⟩ := RowsAt.eightAt (HA.out.keep (HGL.out.trans (HQ8.out))) hlt
            have hsA : w.heap.size < w8.heap.size := Nat.lt_of_lt_of_le HZB.out (HQ8.out).size
            have hbA : b < w8.heap.size := by omega
            go_upto_region 17 with fail
            go_quiet (fail)
            go_wp2_with fail
            go_ret2
            exact ⟨_, rfl, Or.inr ⟨j, hlt, HAL.out, HS.out, rfl⟩, HGL.out.trans (HQ8.out.trans ((Gr.refl _).drewN _))⟩
      · have hpn : p < n := by omega
        have hsp := sungOk_parts (lineGood_le HGD.out p hpn)
        have hF := fun W => rfinds_any l0 l1 l2 l3 l4 l5 h0 h1 h2 h3 h4 h5 st br (f p 2) (f p 3) (f p 4) (f p 5) (f p 6) (f p 7) (f j 2) (f j 3) (f j 4) (f j 5) (f j 6) (f j 7) W
        simp only [HOK.out, hsj.2.2.2, hsp.2.2.2, Bool.true_and, Bool.and_self, cond_true] at hF
        have HZJ := Lib.hid hp
        have z0 : ((j : Int) == 0) = false := by simp; omega
        have z1 : (j == 0) = false := by simp; omega
        have z2 : decide (0 < (j : Int)) = true := decide_eq_true (by omega)
        have z3 : decide (0 < j) = true := decide_eq_true (by omega)
        have hwj : IntKind.i64.wrap ((j : Int) - 1) = (p : Int) := (IntWalk.i64_in _ ⟨by omega, by omega⟩).trans (by omega)
        have hp0 : (0 : Int) ≤ (p : Int) := by omega
        have hpn' : (p : Int) < (n : Int) := by omega
        by_cases k4 : f p 1 < f j 0
        · have HSV : Hid (brF f j = f j 0) := Lib.hid (by subst hp; simp only [brF, if_pos k4])
          have d4 : decide (f p 1 < f j 0) = true := decide_eq_true k4
          have hw1 : IntKind.i64.wrap (f j 1 - f j 0) = f j 1 - f j 0 := IntWalk.i64_in _ ⟨by omega, by omega⟩
          clear hsj hsp hr1 hr2 k4 hp
          generalize brP f j = sv
          rcases tf (hasB ⟨l0, l1, l2, l3, l4, l5⟩ ⟨h0, h1, h2, h3, h4, h5⟩ ⟨f j 2, f j 3, f j 4, f j 5, f j 6, f j 7⟩) with q1 | q1
          · skip
            rcases tf (findsB st ⟨f p 2, f p 3, f p 4, f p 5, f p 6, f p 7⟩ ⟨f j 2, f j 3, f j 4, f j 5, f j 6, f j 7⟩) with q2 | q2
            · skip
              by_cases k5 : br < f j 1 - f j 0
              · have d5 : decide (br < f j 1 - f j 0) = true := decide_eq_true k5
                have HS : Hid (singB ⟨l0, l1, l2, l3, l4, l5⟩ ⟨h0, h1, h2, h3, h4, h5⟩ st br f j = false) := Lib.hid (by
                  have e := HSV.out; have z := HZJ.out; subst z
                  simp only [singB, atN]
                  rw [e]
                  rw [decide_eq_false (by omega), Bool.false_and])
                rw [q1] at hH
                have HH := Lib.hid hH
                clear hH
                rw [q2] at hF
                have HF := Lib.hid hF
                clear hF
                clear q1 q2 k5
                as_aux_lemma =>
                  obtain ⟨x0, x1, x2, x3, x4, x5, x6, x7, x8, x9, x10, x11, x12, x13⟩ : wp.cell? ⟨w.heap.size, 0, none⟩ = some (.int .i64 l0) ∧ wp.cell? ⟨w.heap.size, 1, none⟩ = some (.int .i64 l1) ∧ wp.cell? ⟨w.heap.size, 2, none⟩ = some (.int .i64 l2) ∧ wp.cell? ⟨w.heap.size, 3, none⟩ = some (.int .i64 l3) ∧ wp.cell? ⟨w.heap.size, 4, none⟩ = some (.int .i64 l4) ∧ wp.cell? ⟨w.heap.size, 5, none⟩ = some (.int .i64 l5) ∧ wp.cell? ⟨w.heap.size, 6, none⟩ = some (.int .i64 h0) ∧ wp.cell? ⟨w.heap.size, 7, none⟩ = some (.int .i64 h1) ∧ wp.cell? ⟨w.heap.size, 8, none⟩ = some (.int .i64 h2) ∧ wp.cell? ⟨w.heap.size, 9, none⟩ = some (.int .i64 h3) ∧ wp.cell? ⟨w.heap.size, 10, none⟩ = some (.int .i64 h4) ∧ wp.cell? ⟨w.heap.size, 11, none⟩ = some (.int .i64 h5) ∧ wp.cell? ⟨w.heap.size, 12, none⟩ = some (.int .i64 st) ∧ wp.cell? ⟨w.heap.size, 13, none⟩ = some (.int .i64 br) := boxKeep (HGW.out) HZB.out HXB.out
                  obtain ⟨c0, c1, c2, c3, c4, c5, c6, c7⟩ := RowsAt.eightAt (HA.out.keep (HGL.out.trans (HGW.out))) hlt
                  have hsA : w.heap.size < wp.heap.size := Nat.lt_of_lt_of_le HZB.out (HGW.out).size
                  have hbA : b < wp.heap.size := by omega
                  obtain ⟨d0, d1, d2, d3, d4, d5, d6, d7⟩ := RowsAt.eightAt (HA.out.keep (HGL.out.trans (HGW.out))) hpn
                  go_wp2_with fail
                  go_quiet (fail)
                  go_upto_region 13 with fail
                  have hq : Gr wL (wp.drewN nq) := HGW.out.trans ((Gr.refl _).drewN _)
                  generalize wp.drewN nq = wq at *
                  have HQ := Lib.hid hq
                  clear hq
                  clear hsA hbA x0 x1 x2 x3 x4 x5 x6 x7 x8 x9 x10 x11 x12 x13 c0 c1 c2 c3 c4 c5 c6 c7 d0 d1 d2 d3 d4 d5 d6 d7
                  obtain ⟨x0, x1, x2, x3, x4, x5, x6, x7, x8, x9, x10, x11, x12, x13⟩ : wq.cell? ⟨w.heap.size, 0, none⟩ = some (.int .i64 l0) ∧ wq.cell? ⟨w.heap.size, 1, none⟩ = some (.int .i64 l1) ∧ wq.cell? ⟨w.heap.size, 2, none⟩ = some (.int .i64 l2) ∧ wq.cell? ⟨w.heap.size, 3, none⟩ = some (.int .i64 l3) ∧ wq.cell? ⟨w.heap.size, 4, none⟩ = some (.int .i64 l4) ∧ wq.cell? ⟨w.heap.size, 5, none⟩ = some (.int .i64 l5) ∧ wq.cell? ⟨w.heap.size, 6, none⟩ = some (.int .i64 h0) ∧ wq.cell? ⟨w.heap.size, 7, none⟩ = some (.int .i64 h1) ∧ wq.cell? ⟨w.heap.size, 8, none⟩ = some (.int .i64 h2) ∧ wq.cell? ⟨w.heap.size, 9, none⟩ = some (.int .i64 h3) ∧ wq.cell? ⟨w.heap.size, 10, none⟩ = some (.int .i64 h4) ∧ wq.cell? ⟨w.heap.size, 11, none⟩ = some (.int .i64 h5) ∧ wq.cell? ⟨w.heap.size, 12, none⟩ = some (.int .i64 st) ∧ wq.cell? ⟨w.heap.size, 13, none⟩ = some (.int .i64 br) := boxKeep (HQ.out) HZB.out HXB.out
                  obtain ⟨c0, c1, c2, c3, c4, c5, c6, c7⟩ := RowsAt.eightAt (HA.out.keep (HGL.out.trans (HQ.out))) hlt
                  have hsA : w.heap.size < wq.heap.size := Nat.lt_of_lt_of_le HZB.out (HQ.out).size
                  have hbA : b < wq.heap.size := by omega
                  obtain ⟨d0, d1, d2, d3, d4, d5, d6, d7⟩ := RowsAt.eightAt (HA.out.keep (HGL.out.trans (HQ.out))) hpn
                  refine wp_region_held_drew (S := fun wx => (∀ b o, (⟨min (b + 1) wq.heap.size, 0, none⟩ : Addr) = ⟨b + 1, 0, none⟩ → wx.cell? ⟨b, o, none⟩ = wq.cell? ⟨b, o, none⟩) ∧ Gr wq wx) (by kernel_rfl) (held_drew wq) (fun hHeld => ?_)
                  refine take_at (i := 0) (oi := _) (d := some 48) (v := ?_) rfl rfl (by kernel_rfl) (by kernel_rfl) (by kernel_rfl) (fun _ _ _ h => h) (Or.inl ⟨by rfl, ?_⟩) hHeld ?_
                  rotate_left
                  next => (intro w hSw; (try dsimp only at hSw); go_simp; try with_reducible rfl)
                  try simp only [Act.put, List.setIfInBounds_toArray, List.set_cons_zero, List.set_cons_succ]
                  refine take_at (i := 1) (oi := _) (d := some 49) (v := ?_) rfl rfl (by kernel_rfl) (by kernel_rfl) (by kernel_rfl) (fun _ _ _ h => h) (Or.inl ⟨by rfl, ?_⟩) hHeld ?_
                  rotate_left
                  next => (intro w hSw; (try dsimp only at hSw); go_simp; try with_reducible rfl)
                  try simp only [Act.put, List.setIfInBounds_toArray, List.set_cons_zero, List.set_cons_succ]
                  refine take_at (i := 2) (oi := _) (d := some 50) (v := ?_) rfl rfl (by kernel_rfl) (by kernel_rfl) (by kernel_rfl) (fun _ _ _ h => h) (Or.inl ⟨by rfl, ?_⟩) hHeld ?_
                  rotate_left
                  next => (intro w hSw; (try dsimp only at hSw); go_simp; try with_reducible rfl)
                  try simp only [Act.put, List.setIfInBounds_toArray, List.set_cons_zero, List.set_cons_succ]
                  refine take_at (i := 3) (oi := _) (d := some 51) (v := ?_) rfl rfl (by kernel_rfl) (by kernel_rfl) (by kernel_rfl) (fun _ _ _ h => h) (Or.inl ⟨by rfl, ?_⟩) hHeld ?_
                  rotate_left
                  next => (intro w hSw; (try dsimp only at hSw); go_simp; try with_reducible rfl)
                  try simp only [Act.put, List.setIfInBounds_toArray, List.set_cons_zero, List.set_cons_succ]
                  refine take_at (i := 4) (oi := _) (d := some 52) (v := ?_) rfl rfl (by kernel_rfl) (by kernel_rfl) (by kernel_rfl) (fun _ _ _ h => h) (Or.inl ⟨by rfl, ?_⟩) hHeld ?_
                  rotate_left
                  next => (intro w hSw; (try dsimp only at hSw); go_simp; try with_reducible rfl)
                  try simp only [Act.put, List.setIfInBounds_toArray, List.set_cons_zero, List.set_cons_succ]
                  refine take_at (i := 5) (oi := _) (d := some 53) (v := ?_) rfl rfl (by kernel_rfl) (by kernel_rfl) (by kernel_rfl) (fun _ _ _ h => h) (Or.inl ⟨by rfl, ?_⟩) hHeld ?_
                  rotate_left
                  next => (intro w hSw; (try dsimp only at hSw); go_simp; try with_reducible rfl)
                  try simp only [Act.put, List.setIfInBounds_toArray, List.set_cons_zero, List.set_cons_succ]
                  refine wpAnyH_ready (rs := [6]) (by kernel_rfl) (by simp) (AllReadyH.cons (o := _) rfl (fun K hK => ?_) AllReadyH.nil)
                  go_simp
                  go_at_call 14
                  refine (HH.out _).mono ?_
                  rintro e w' ⟨rfl, hb⟩
                  refine hK.out _ _ (held_call hHeld hb) (fun hHeld => ?_)
                  clear hK K hb
                  try simp only [Act.put, List.setIfInBounds_toArray, List.set_cons_zero, List.set_cons_succ]
                  refine take_at (i := 7) (oi := _) (d := some 47) (v := ?_) rfl rfl (by kernel_rfl) (by kernel_rfl) (by kernel_rfl) (fun _ _ _ h => h) (Or.inl ⟨by rfl, ?_⟩) hHeld ?_
                  rotate_left
                  next => (intro w hSw; (try dsimp only at hSw); go_simp; try with_reducible rfl)
                  try simp only [Act.put, List.setIfInBounds_toArray, List.set_cons_zero, List.set_cons_succ]
                  refine take_at (i := 8) (oi := _) (d := some 55) (v := ?_) rfl rfl (by kernel_rfl) (by kernel_rfl) (by kernel_rfl) (fun _ _ _ h => h) (Or.inl ⟨by rfl, ?_⟩) hHeld ?_
                  rotate_left
                  next => (intro w hSw; (try dsimp only at hSw); go_simp; try with_reducible rfl)
                  try simp only [Act.put, List.setIfInBounds_toArray, List.set_cons_zero, List.set_cons_succ]
                  refine take_at (i := 9) (oi := _) (d := some 56) (v := ?_) rfl rfl (by kernel_rfl) (by kernel_rfl) (by kernel_rfl) (fun _ _ _ h => h) (Or.inl ⟨by rfl, ?_⟩) hHeld ?_
                  rotate_left
                  next => (intro w hSw; (try dsimp only at hSw); go_simp; try with_reducible rfl)
                  try simp only [Act.put, List.setIfInBounds_toArray, List.set_cons_zero, List.set_cons_succ]
                  refine take_at (i := 10) (oi := _) (d := some 9) (v := ?_) rfl rfl (by kernel_rfl) (by kernel_rfl) (by kernel_rfl) (fun _ _ _ h => h) (Or.inl ⟨by rfl, ?_⟩) hHeld ?_
                  rotate_left
                  next => (intro w hSw; (try dsimp only at hSw); go_simp; try with_reducible rfl)
                  try simp only [Act.put, List.setIfInBounds_toArray, List.set_cons_zero, List.set_cons_succ]
                  refine take_at (i := 11) (oi := _) (d := some 10) (v := ?_) rfl rfl (by kernel_rfl) (by kernel_rfl) (by kernel_rfl) (fun _ _ _ h => h) (Or.inl ⟨by rfl, ?_⟩) hHeld ?_
                  rotate_left
                  next => (intro w hSw; (try dsimp only at hSw); go_simp; try with_reducible rfl)
                  try simp only [Act.put, List.setIfInBounds_toArray, List.set_cons_zero, List.set_cons_succ]
                  refine wpAnyH_done (by kernel_rfl) ?_ _
                  obtain ⟨w8, rfl⟩ : ∃ x : World, x = w' := ⟨_, rfl⟩
                  have HQ8 := Lib.hid (HQ.out.trans hHeld.2)
                  clear hHeld
                  clear hsA hbA x0 x1 x2 x3 x4 x5 x6 x7 x8 x9 x10 x11 x12 x13 c0 c1 c2 c3 c4 c5 c6 c7 d0 d1 d2 d3 d4 d5 d6 d7
                  obtain ⟨x0, x1, x2, x3, x4, x5, x6, x7, x8, x9, x10, x11, x12, x13⟩ : w8.cell? ⟨w.heap.size, 0, none⟩ = some (.int .i64 l0) ∧ w8.cell? ⟨w.heap.size, 1, none⟩ = some (.int .i64 l1) ∧ w8.cell? ⟨w.heap.size, 2, none⟩ = some (.int .i64 l2) ∧ w8.cell? ⟨w.heap.size, 3, none⟩ = some (.int .i64 l3) ∧ w8.cell? ⟨w.heap.size, 4, none⟩ = some (.int .i64 l4) ∧ w8.cell? ⟨w.heap.size, 5, none⟩ = some (.int .i64 l5) ∧ w8.cell? ⟨w.heap.size, 6, none⟩ = some (.int .i64 h0) ∧ w8.cell? ⟨w.heap.size, 7, none⟩ = some (.int .i64 h1) ∧ w8.cell? ⟨w.heap.size, 8, none⟩ = some (.int .i64 h2) ∧ w8.cell? ⟨w.heap.size, 9, none⟩ = some (.int .i64 h3) ∧ w8.cell? ⟨w.heap.size, 10, none⟩ = some (.int .i64 h4) ∧ w8.cell? ⟨w.heap.size, 11, none⟩ = some (.int .i64 h5) ∧ w8.cell? ⟨w.heap.size, 12, none⟩ = some (.int .i64 st) ∧ w8.cell? ⟨w.heap.size, 13, none⟩ = some (.int .i64 br) := boxKeep (HQ8.out) HZB.out HXB.out
                  obtain ⟨c0, c1, c2, c3, c4, c5, c6, c7⟩ := RowsAt.eightAt (HA.out.keep (HGL.out.trans (HQ8.out))) hlt
                  have hsA : w.heap.size < w8.heap.size := Nat.lt_of_lt_of_le HZB.out (HQ8.out).size
                  have hbA : b < w8.heap.size := by omega
                  obtain ⟨d0, d1, d2, d3, d4, d5, d6, d7⟩ := RowsAt.eightAt (HA.out.keep (HGL.out.trans (HQ8.out))) hpn
                  go_upto_region 16 with fail
                  refine wp_region_held_drew (S := fun wx => (∀ b o, (⟨min (b + 1) w8.heap.size, 0, none⟩ : Addr) = ⟨b + 1, 0, none⟩ → wx.cell? ⟨b, o, none⟩ = w8.cell? ⟨b, o, none⟩) ∧ Gr w8 wx) (by kernel_rfl) (held_drew w8) (fun hHeld => ?_)
                  refine take_at (i := 0) (oi := _) (d := some 60) (v := ?_) rfl rfl (by kernel_rfl) (by kernel_rfl) (by kernel_rfl) (fun _ _ _ h => h) (Or.inl ⟨by rfl, ?_⟩) hHeld ?_
                  rotate_left
                  next => (intro w hSw; (try dsimp only at hSw); go_simp; try with_reducible rfl)
                  try simp only [Act.put, List.setIfInBounds_toArray, List.set_cons_zero, List.set_cons_succ]
                  refine take_at (i := 1) (oi := _) (d := some 61) (v := ?_) rfl rfl (by kernel_rfl) (by kernel_rfl) (by kernel_rfl) (fun _ _ _ h => h) (Or.inl ⟨by rfl, ?_⟩) hHeld ?_
                  rotate_left
                  next => (intro w hSw; (try dsimp only at hSw); go_simp; try with_reducible rfl)
                  try simp only [Act.put, List.setIfInBounds_toArray, List.set_cons_zero, List.set_cons_succ]
                  refine take_at (i := 2) (oi := _) (d := some 62) (v := ?_) rfl rfl (by kernel_rfl) (by kernel_rfl) (by kernel_rfl) (fun _ _ _ h => h) (Or.inl ⟨by rfl, ?_⟩) hHeld ?_
                  rotate_left
                  next => (intro w hSw; (try dsimp only at hSw); go_simp; try with_reducible rfl)
                  try simp only [Act.put, List.setIfInBounds_toArray, List.set_cons_zero, List.set_cons_succ]
                  refine take_at (i := 3) (oi := _) (d := some 63) (v := ?_) rfl rfl (by kernel_rfl) (by kernel_rfl) (by kernel_rfl) (fun _ _ _ h => h) (Or.inl ⟨by rfl, ?_⟩) hHeld ?_
                  rotate_left
                  next => (intro w hSw; (try dsimp only at hSw); go_simp; try with_reducible rfl)
                  try simp only [Act.put, List.setIfInBounds_toArray, List.set_cons_zero, List.set_cons_succ]
                  refine take_at (i := 4) (oi := _) (d := some 64) (v := ?_) rfl rfl (by kernel_rfl) (by kernel_rfl) (by kernel_rfl) (fun _ _ _ h => h) (Or.inl ⟨by rfl, ?_⟩) hHeld ?_
                  rotate_left
                  next => (intro w hSw; (try dsimp only at hSw); go_simp; try with_reducible rfl)
                  try simp only [Act.put, List.setIfInBounds_toArray, List.set_cons_zero, List.set_cons_succ]
                  refine take_at (i := 5) (oi := _) (d := some 65) (v := ?_) rfl rfl (by kernel_rfl) (by kernel_rfl) (by kernel_rfl) (fun _ _ _ h => h) (Or.inl ⟨by rfl, ?_⟩) hHeld ?_
                  rotate_left
                  next => (intro w hSw; (try dsimp only at hSw); go_simp; try with_reducible rfl)
                  try simp only [Act.put, List.setIfInBounds_toArray, List.set_cons_zero, List.set_cons_succ]
                  refine take_at (i := 6) (oi := _) (d := some 66) (v := ?_) rfl rfl (by kernel_rfl) (by kernel_rfl) (by kernel_rfl) (fun _ _ _ h => h) (Or.inl ⟨by rfl, ?_⟩) hHeld ?_
                  rotate_left
                  next => (intro w hSw; (try dsimp only at hSw); go_simp; try with_reducible rfl)
                  try simp only [Act.put, List.setIfInBounds_toArray, List.set_cons_zero, List.set_cons_succ]
                  refine take_at (i := 7) (oi := _) (d := some 67) (v := ?_) rfl rfl (by kernel_rfl) (by kernel_rfl) (by kernel_rfl) (fun _ _ _ h => h) (Or.inl ⟨by rfl, ?_⟩) hHeld ?_
                  rotate_left
                  next => (intro w hSw; (try dsimp only at hSw); go_simp; try with_reducible rfl)
                  try simp only [Act.put, List.setIfInBounds_toArray, List.set_cons_zero, List.set_cons_succ]
                  refine take_at (i := 8) (oi := _) (d := some 68) (v := ?_) rfl rfl (by kernel_rfl) (by kernel_rfl) (by kernel_rfl) (fun _ _ _ h => h) (Or.inl ⟨by rfl, ?_⟩) hHeld ?_
                  rotate_left
                  next => (intro w hSw; (try dsimp only at hSw); go_simp; try with_reducible rfl)
                  try simp only [Act.put, List.setIfInBounds_toArray, List.set_cons_zero, List.set_cons_succ]
                  refine take_at (i := 9) (oi := _) (d := some 69) (v := ?_) rfl rfl (by kernel_rfl) (by kernel_rfl) (by kernel_rfl) (fun _ _ _ h => h) (Or.inl ⟨by rfl, ?_⟩) hHeld ?_
                  rotate_left
                  next => (intro w hSw; (try dsimp only at hSw); go_simp; try with_reducible rfl)
                  try simp only [Act.put, List.setIfInBounds_toArray, List.set_cons_zero, List.set_cons_succ]
                  refine take_at (i := 10) (oi := _) (d := some 70) (v := ?_) rfl rfl (by kernel_rfl) (by kernel_rfl) (by kernel_rfl) (fun _ _ _ h => h) (Or.inl ⟨by rfl, ?_⟩) hHeld ?_
                  rotate_left
                  next => (intro w hSw; (try dsimp only at hSw); go_simp; try with_reducible rfl)
                  try simp only [Act.put, List.setIfInBounds_toArray, List.set_cons_zero, List.set_cons_succ]
                  refine take_at (i := 11) (oi := _) (d := some 71) (v := ?_) rfl rfl (by kernel_rfl) (by kernel_rfl) (by kernel_rfl) (fun _ _ _ h => h) (Or.inl ⟨by rfl, ?_⟩) hHeld ?_
                  rotate_left
                  next => (intro w hSw; (try dsimp only at hSw); go_simp; try with_reducible rfl)
                  try simp only [Act.put, List.setIfInBounds_toArray, List.set_cons_zero, List.set_cons_succ]
                  refine wpAnyH_ready (rs := [12]) (by kernel_rfl) (by simp) (AllReadyH.cons (o := _) rfl (fun K hK => ?_) AllReadyH.nil)
                  go_simp
                  go_at_call 16
                  refine (HF.out _).mono ?_
                  rintro e w' ⟨rfl, hb⟩
                  refine hK.out _ _ (held_call hHeld hb) (fun hHeld => ?_)
                  clear hK K hb
                  try simp only [Act.put, List.setIfInBounds_toArray, List.set_cons_zero, List.set_cons_succ]
                  refine take_at (i := 13) (oi := _) (d := some 59) (v := ?_) rfl rfl (by kernel_rfl) (by kernel_rfl) (by kernel_rfl) (fun _ _ _ h => h) (Or.inl ⟨by rfl, ?_⟩) hHeld ?_
                  rotate_left
                  next => (intro w hSw; (try dsimp only at hSw); go_simp; try with_reducible rfl)
                  try simp only [Act.put, List.setIfInBounds_toArray, List.set_cons_zero, List.set_cons_succ]
                  refine take_at (i := 14) (oi := _) (d := some 73) (v := ?_) rfl rfl (by kernel_rfl) (by kernel_rfl) (by kernel_rfl) (fun _ _ _ h => h) (Or.inl ⟨by rfl, ?_⟩) hHeld ?_
                  rotate_left
                  next => (intro w hSw; (try dsimp only at hSw); go_simp; try with_reducible rfl)
                  try simp only [Act.put, List.setIfInBounds_toArray, List.set_cons_zero, List.set_cons_succ]
                  refine take_at (i := 15) (oi := _) (d := some 74) (v := ?_) rfl rfl (by kernel_rfl) (by kernel_rfl) (by kernel_rfl) (fun _ _ _ h => h) (Or.inl ⟨by rfl, ?_⟩) hHeld ?_
                  rotate_left
                  next => (intro w hSw; (try dsimp only at hSw); go_simp; try with_reducible rfl)
                  try simp only [Act.put, List.setIfInBounds_toArray, List.set_cons_zero, List.set_cons_succ]
                  refine take_at (i := 16) (oi := _) (d := some 11) (v := ?_) rfl rfl (by kernel_rfl) (by kernel_rfl) (by kernel_rfl) (fun _ _ _ h => h) (Or.inl ⟨by rfl, ?_⟩) hHeld ?_
                  rotate_left
                  next => (intro w hSw; (try dsimp only at hSw); go_simp; try with_reducible rfl)
                  try simp only [Act.put, List.setIfInBounds_toArray, List.set_cons_zero, List.set_cons_succ]
                  refine wpAnyH_done (by kernel_rfl) ?_ _
                  obtain ⟨w9, rfl⟩ : ∃ x : World, x = w' := ⟨_, rfl⟩
                  have HQ9 := Lib.hid (HQ8.out.trans hHeld.2)
                  clear hHeld
                  clear hsA hbA x0 x1 x2 x3 x4 x5 x6 x7 x8 x9 x10 x11 x12 x13 c0 c1 c2 c3 c4 c5 c6 c7 d0 d1 d2 d3 d4 d5 d6 d7
                  obtain ⟨x0, x1, x2, x3, x4, x5, x6, x7, x8, x9, x10, x11, x12, x13⟩ : w9.cell? ⟨w.heap.size, 0, none⟩ = some (.int .i64 l0) ∧ w9.cell? ⟨w.heap.size, 1, none⟩ = some (.int .i64 l1) ∧ w9.cell? ⟨w.heap.size, 2, none⟩ = some (.int .i64 l2) ∧ w9.cell? ⟨w.heap.size, 3, none⟩ = some (.int .i64 l3) ∧ w9.cell? ⟨w.heap.size, 4, none⟩ = some (.int .i64 l4) ∧ w9.cell? ⟨w.heap.size, 5, none⟩ = some (.int .i64 l5) ∧ w9.cell? ⟨w.heap.size, 6, none⟩ = some (.int .i64 h0) ∧ w9.cell? ⟨w.heap.size, 7, none⟩ = some (.int .i64 h1) ∧ w9.cell? ⟨w.heap.size, 8, none⟩ = some (.int .i64 h2) ∧ w9.cell? ⟨w.heap.size, 9, none⟩ = some (.int .i64 h3) ∧ w9.cell? ⟨w.heap.size, 10, none⟩ = some (.int .i64 h4) ∧ w9.cell? ⟨w.heap.size, 11, none⟩ = some (.int .i64 h5) ∧ w9.cell? ⟨w.heap.size, 12, none⟩ = some (.int .i64 st) ∧ w9.cell? ⟨w.heap.size, 13, none⟩ = some (.int .i64 br) := boxKeep (HQ9.out) HZB.out HXB.out
                  obtain ⟨c0, c1, c2, c3, c4, c5, c6, c7⟩ := RowsAt.eightAt (HA.out.keep (HGL.out.trans (HQ9.out))) hlt
                  have hsA : w.heap.size < w9.heap.size := Nat.lt_of_lt_of_le HZB.out (HQ9.out).size
                  have hbA : b < w9.heap.size := by omega
                  obtain ⟨d0, d1, d2, d3, d4, d5, d6, d7⟩ := RowsAt.eightAt (HA.out.keep (HGL.out.trans (HQ9.out))) hpn
                  go_upto_region 17 with fail
                  go_quiet (fail)
                  go_wp2_with fail
                  go_ret2
                  exact ⟨_, rfl, Or.inr ⟨j, hlt, HAL.out, HS.out, rfl⟩, HGL.out.trans (HQ9.out.trans ((Gr.refl _).drewN _))⟩
              · have d5 : decide (br < f j 1 - f j 0) = false := decide_eq_false k5
                have HS : Hid (singB ⟨l0, l1, l2, l3, l4, l5⟩ ⟨h0, h1, h2, h3, h4, h5⟩ st br f j = true) := Lib.hid (by
                  have e := HSV.out; have z := HZJ.out; subst z
                  simp only [singB, atN]
                  rw [e]
                  rw [q1, q2, decide_eq_true (by omega)]; rfl)
                have HS1 := HS
                have HS : Hid (singAll ⟨l0, l1, l2, l3, l4, l5⟩ ⟨h0, h1, h2, h3, h4, h5⟩ st br f (j + 1) = true) := Lib.hid (by simp only [singAll, HAL.out, HS1.out, Bool.and_self])
                clear HS1
                rw [q1] at hH
                have HH := Lib.hid hH
                clear hH
                rw [q2] at hF
                have HF := Lib.hid hF
                clear hF
                clear q1 q2 k5
                as_aux_lemma =>
                  obtain ⟨x0, x1, x2, x3, x4, x5, x6, x7, x8, x9, x10, x11, x12, x13⟩ : wp.cell? ⟨w.heap.size, 0, none⟩ = some (.int .i64 l0) ∧ wp.cell? ⟨w.heap.size, 1, none⟩ = some (.int .i64 l1) ∧ wp.cell? ⟨w.heap.size, 2, none⟩ = some (.int .i64 l2) ∧ wp.cell? ⟨w.heap.size, 3, none⟩ = some (.int .i64 l3) ∧ wp.cell? ⟨w.heap.size, 4, none⟩ = some (.int .i64 l4) ∧ wp.cell? ⟨w.heap.size, 5, none⟩ = some (.int .i64 l5) ∧ wp.cell? ⟨w.heap.size, 6, none⟩ = some (.int .i64 h0) ∧ wp.cell? ⟨w.heap.size, 7, none⟩ = some (.int .i64 h1) ∧ wp.cell? ⟨w.heap.size, 8, none⟩ = some (.int .i64 h2) ∧ wp.cell? ⟨w.heap.size, 9, none⟩ = some (.int .i64 h3) ∧ wp.cell? ⟨w.heap.size, 10, none⟩ = some (.int .i64 h4) ∧ wp.cell? ⟨w.heap.size, 11, none⟩ = some (.int .i64 h5) ∧ wp.cell? ⟨w.heap.size, 12, none⟩ = some (.int .i64 st) ∧ wp.cell? ⟨w.heap.size, 13, none⟩ = some (.int .i64 br) := boxKeep (HGW.out) HZB.out HXB.out
                  obtain ⟨c0, c1, c2, c3, c4, c5, c6, c7⟩ := RowsAt.eightAt (HA.out.keep (HGL.out.trans (HGW.out))) hlt
                  have hsA : w.heap.size < wp.heap.size := Nat.lt_of_lt_of_le HZB.out (HGW.out).size
                  have hbA : b < wp.heap.size := by omega
                  obtain ⟨d0, d1, d2, d3, d4, d5, d6, d7⟩ := RowsAt.eightAt (HA.out.keep (HGL.out.trans (HGW.out))) hpn
                  go_wp2_with fail
                  go_quiet (fail)
                  go_upto_region 13 with fail
                  have hq : Gr wL (wp.drewN nq) := HGW.out.trans ((Gr.refl _).drewN _)
                  generalize wp.drewN nq = wq at *
                  have HQ := Lib.hid hq
                  clear hq
                  clear hsA hbA x0 x1 x2 x3 x4 x5 x6 x7 x8 x9 x10 x11 x12 x13 c0 c1 c2 c3 c4 c5 c6 c7 d0 d1 d2 d3 d4 d5 d6 d7
                  obtain ⟨x0, x1, x2, x3, x4, x5, x6, x7, x8, x9, x10, x11, x12, x13⟩ : wq.cell? ⟨w.heap.size, 0, none⟩ = some (.int .i64 l0) ∧ wq.cell? ⟨w.heap.size, 1, none⟩ = some (.int .i64 l1) ∧ wq.cell? ⟨w.heap.size, 2, none⟩ = some (.int .i64 l2) ∧ wq.cell? ⟨w.heap.size, 3, none⟩ = some (.int .i64 l3) ∧ wq.cell? ⟨w.heap.size, 4, none⟩ = some (.int .i64 l4) ∧ wq.cell? ⟨w.heap.size, 5, none⟩ = some (.int .i64 l5) ∧ wq.cell? ⟨w.heap.size, 6, none⟩ = some (.int .i64 h0) ∧ wq.cell? ⟨w.heap.size, 7, none⟩ = some (.int .i64 h1) ∧ wq.cell? ⟨w.heap.size, 8, none⟩ = some (.int .i64 h2) ∧ wq.cell? ⟨w.heap.size, 9, none⟩ = some (.int .i64 h3) ∧ wq.cell? ⟨w.heap.size, 10, none⟩ = some (.int .i64 h4) ∧ wq.cell? ⟨w.heap.size, 11, none⟩ = some (.int .i64 h5) ∧ wq.cell? ⟨w.heap.size, 12, none⟩ = some (.int .i64 st) ∧ wq.cell? ⟨w.heap.size, 13, none⟩ = some (.int .i64 br) := boxKeep (HQ.out) HZB.out HXB.out
                  obtain ⟨c0, c1, c2, c3, c4, c5, c6, c7⟩ := RowsAt.eightAt (HA.out.keep (HGL.out.trans (HQ.out))) hlt
                  have hsA : w.heap.size < wq.heap.size := Nat.lt_of_lt_of_le HZB.out (HQ.out).size
                  have hbA : b < wq.heap.size := by omega
                  obtain ⟨d0, d1, d2, d3, d4, d5, d6, d7⟩ := RowsAt.eightAt (HA.out.keep (HGL.out.trans (HQ.out))) hpn
                  refine wp_region_held_drew (S := fun wx => (∀ b o, (⟨min (b + 1) wq.heap.size, 0, none⟩ : Addr) = ⟨b + 1, 0, none⟩ → wx.cell? ⟨b, o, none⟩ = wq.cell? ⟨b, o, none⟩) ∧ Gr wq wx) (by kernel_rfl) (held_drew wq) (fun hHeld => ?_)
                  refine take_at (i := 0) (oi := _) (d := some 48) (v := ?_) rfl rfl (by kernel_rfl) (by kernel_rfl) (by kernel_rfl) (fun _ _ _ h => h) (Or.inl ⟨by rfl, ?_⟩) hHeld ?_
                  rotate_left
                  next => (intro w hSw; (try dsimp only at hSw); go_simp; try with_reducible rfl)
                  try simp only [Act.put, List.setIfInBounds_toArray, List.set_cons_zero, List.set_cons_succ]
                  refine take_at (i := 1) (oi := _) (d := some 49) (v := ?_) rfl rfl (by kernel_rfl) (by kernel_rfl) (by kernel_rfl) (fun _ _ _ h => h) (Or.inl ⟨by rfl, ?_⟩) hHeld ?_
                  rotate_left
                  next => (intro w hSw; (try dsimp only at hSw); go_simp; try with_reducible rfl)
                  try simp only [Act.put, List.setIfInBounds_toArray, List.set_cons_zero, List.set_cons_succ]
                  refine take_at (i := 2) (oi := _) (d := some 50) (v := ?_) rfl rfl (by kernel_rfl) (by kernel_rfl) (by kernel_rfl) (fun _ _ _ h => h) (Or.inl ⟨by rfl, ?_⟩) hHeld ?_
                  rotate_left
                  next => (intro w hSw; (try dsimp only at hSw); go_simp; try with_reducible rfl)
                  try simp only [Act.put, List.setIfInBounds_toArray, List.set_cons_zero, List.set_cons_succ]
                  refine take_at (i := 3) (oi := _) (d := some 51) (v := ?_) rfl rfl (by kernel_rfl) (by kernel_rfl) (by kernel_rfl) (fun _ _ _ h => h) (Or.inl ⟨by rfl, ?_⟩) hHeld ?_
                  rotate_left
                  next => (intro w hSw; (try dsimp only at hSw); go_simp; try with_reducible rfl)
                  try simp only [Act.put, List.setIfInBounds_toArray, List.set_cons_zero, List.set_cons_succ]
                  refine take_at (i := 4) (oi := _) (d := some 52) (v := ?_) rfl rfl (by kernel_rfl) (by kernel_rfl) (by kernel_rfl) (fun _ _ _ h => h) (Or.inl ⟨by rfl, ?_⟩) hHeld ?_
                  rotate_left
                  next => (intro w hSw; (try dsimp only at hSw); go_simp; try with_reducible rfl)
                  try simp only [Act.put, List.setIfInBounds_toArray, List.set_cons_zero, List.set_cons_succ]
                  refine take_at (i := 5) (oi := _) (d := some 53) (v := ?_) rfl rfl (by kernel_rfl) (by kernel_rfl) (by kernel_rfl) (fun _ _ _ h => h) (Or.inl ⟨by rfl, ?_⟩) hHeld ?_
                  rotate_left
                  next => (intro w hSw; (try dsimp only at hSw); go_simp; try with_reducible rfl)
                  try simp only [Act.put, List.setIfInBounds_toArray, List.set_cons_zero, List.set_cons_succ]
                  refine wpAnyH_ready (rs := [6]) (by kernel_rfl) (by simp) (AllReadyH.cons (o := _) rfl (fun K hK => ?_) AllReadyH.nil)
                  go_simp
                  go_at_call 14
                  refine (HH.out _).mono ?_
                  rintro e w' ⟨rfl, hb⟩
                  refine hK.out _ _ (held_call hHeld hb) (fun hHeld => ?_)
                  clear hK K hb
                  try simp only [Act.put, List.setIfInBounds_toArray, List.set_cons_zero, List.set_cons_succ]
                  refine take_at (i := 7) (oi := _) (d := some 47) (v := ?_) rfl rfl (by kernel_rfl) (by kernel_rfl) (by kernel_rfl) (fun _ _ _ h => h) (Or.inl ⟨by rfl, ?_⟩) hHeld ?_
                  rotate_left
                  next => (intro w hSw; (try dsimp only at hSw); go_simp; try with_reducible rfl)
                  try simp only [Act.put, List.setIfInBounds_toArray, List.set_cons_zero, List.set_cons_succ]
                  refine take_at (i := 8) (oi := _) (d := some 55) (v := ?_) rfl rfl (by kernel_rfl) (by kernel_rfl) (by kernel_rfl) (fun _ _ _ h => h) (Or.inl ⟨by rfl, ?_⟩) hHeld ?_
                  rotate_left
                  next => (intro w hSw; (try dsimp only at hSw); go_simp; try with_reducible rfl)
                  try simp only [Act.put, List.setIfInBounds_toArray, List.set_cons_zero, List.set_cons_succ]
                  refine take_at (i := 9) (oi := _) (d := some 56) (v := ?_) rfl rfl (by kernel_rfl) (by kernel_rfl) (by kernel_rfl) (fun _ _ _ h => h) (Or.inl ⟨by rfl, ?_⟩) hHeld ?_
                  rotate_left
                  next => (intro w hSw; (try dsimp only at hSw); go_simp; try with_reducible rfl)
                  try simp only [Act.put, List.setIfInBounds_toArray, List.set_cons_zero, List.set_cons_succ]
                  refine take_at (i := 10) (oi := _) (d := some 9) (v := ?_) rfl rfl (by kernel_rfl) (by kernel_rfl) (by kernel_rfl) (fun _ _ _ h => h) (Or.inl ⟨by rfl, ?_⟩) hHeld ?_
                  rotate_left
                  next => (intro w hSw; (try dsimp only at hSw); go_simp; try with_reducible rfl)
                  try simp only [Act.put, List.setIfInBounds_toArray, List.set_cons_zero, List.set_cons_succ]
                  refine take_at (i := 11) (oi := _) (d := some 10) (v := ?_) rfl rfl (by kernel_rfl) (by kernel_rfl) (by kernel_rfl) (fun _ _ _ h => h) (Or.inl ⟨by rfl, ?_⟩) hHeld ?_
                  rotate_left
                  next => (intro w hSw; (try dsimp only at hSw); go_simp; try with_reducible rfl)
                  try simp only [Act.put, List.setIfInBounds_toArray, List.set_cons_zero, List.set_cons_succ]
                  refine wpAnyH_done (by kernel_rfl) ?_ _
                  obtain ⟨w8, rfl⟩ : ∃ x : World, x = w' := ⟨_, rfl⟩
                  have HQ8 := Lib.hid (HQ.out.trans hHeld.2)
                  clear hHeld
                  clear hsA hbA x0 x1 x2 x3 x4 x5 x6 x7 x8 x9 x10 x11 x12 x13 c0 c1 c2 c3 c4 c5 c6 c7 d0 d1 d2 d3 d4 d5 d6 d7
                  obtain ⟨x0, x1, x2, x3, x4, x5, x6, x7, x8, x9, x10, x11, x12, x13⟩ : w8.cell? ⟨w.heap.size, 0, none⟩ = some (.int .i64 l0) ∧ w8.cell? ⟨w.heap.size, 1, none⟩ = some (.int .i64 l1) ∧ w8.cell? ⟨w.heap.size, 2, none⟩ = some (.int .i64 l2) ∧ w8.cell? ⟨w.heap.size, 3, none⟩ = some (.int .i64 l3) ∧ w8.cell? ⟨w.heap.size, 4, none⟩ = some (.int .i64 l4) ∧ w8.cell? ⟨w.heap.size, 5, none⟩ = some (.int .i64 l5) ∧ w8.cell? ⟨w.heap.size, 6, none⟩ = some (.int .i64 h0) ∧ w8.cell? ⟨w.heap.size, 7, none⟩ = some (.int .i64 h1) ∧ w8.cell? ⟨w.heap.size, 8, none⟩ = some (.int .i64 h2) ∧ w8.cell? ⟨w.heap.size, 9, none⟩ = some (.int .i64 h3) ∧ w8.cell? ⟨w.heap.size, 10, none⟩ = some (.int .i64 h4) ∧ w8.cell? ⟨w.heap.size, 11, none⟩ = some (.int .i64 h5) ∧ w8.cell? ⟨w.heap.size, 12, none⟩ = some (.int .i64 st) ∧ w8.cell? ⟨w.heap.size, 13, none⟩ = some (.int .i64 br) := boxKeep (HQ8.out) HZB.out HXB.out
                  obtain ⟨c0, c1, c2, c3, c4, c5, c6, c7⟩ := RowsAt.eightAt (HA.out.keep (HGL.out.trans (HQ8.out))) hlt
                  have hsA : w.heap.size < w8.heap.size := Nat.lt_of_lt_of_le HZB.out (HQ8.out).size
                  have hbA : b < w8.heap.size := by omega
                  obtain ⟨d0, d1, d2, d3, d4, d5, d6, d7⟩ := RowsAt.eightAt (HA.out.keep (HGL.out.trans (HQ8.out))) hpn
                  go_upto_region 16 with fail
                  refine wp_region_held_drew (S := fun wx => (∀ b o, (⟨min (b + 1) w8.heap.size, 0, none⟩ : Addr) = ⟨b + 1, 0, none⟩ → wx.cell? ⟨b, o, none⟩ = w8.cell? ⟨b, o, none⟩) ∧ Gr w8 wx) (by kernel_rfl) (held_drew w8) (fun hHeld => ?_)
                  refine take_at (i := 0) (oi := _) (d := some 60) (v := ?_) rfl rfl (by kernel_rfl) (by kernel_rfl) (by kernel_rfl) (fun _ _ _ h => h) (Or.inl ⟨by rfl, ?_⟩) hHeld ?_
                  rotate_left
                  next => (intro w hSw; (try dsimp only at hSw); go_simp; try with_reducible rfl)
                  try simp only [Act.put, List.setIfInBounds_toArray, List.set_cons_zero, List.set_cons_succ]
                  refine take_at (i := 1) (oi := _) (d := some 61) (v := ?_) rfl rfl (by kernel_rfl) (by kernel_rfl) (by kernel_rfl) (fun _ _ _ h => h) (Or.inl ⟨by rfl, ?_⟩) hHeld ?_
                  rotate_left
                  next => (intro w hSw; (try dsimp only at hSw); go_simp; try with_reducible rfl)
                  try simp only [Act.put, List.setIfInBounds_toArray, List.set_cons_zero, List.set_cons_succ]
                  refine take_at (i := 2) (oi := _) (d := some 62) (v := ?_) rfl rfl (by kernel_rfl) (by kernel_rfl) (by kernel_rfl) (fun _ _ _ h => h) (Or.inl ⟨by rfl, ?_⟩) hHeld ?_
                  rotate_left
                  next => (intro w hSw; (try dsimp only at hSw); go_simp; try with_reducible rfl)
                  try simp only [Act.put, List.setIfInBounds_toArray, List.set_cons_zero, List.set_cons_succ]
                  refine take_at (i := 3) (oi := _) (d := some 63) (v := ?_) rfl rfl (by kernel_rfl) (by kernel_rfl) (by kernel_rfl) (fun _ _ _ h => h) (Or.inl ⟨by rfl, ?_⟩) hHeld ?_
                  rotate_left
                  next => (intro w hSw; (try dsimp only at hSw); go_simp; try with_reducible rfl)
                  try simp only [Act.put, List.setIfInBounds_toArray, List.set_cons_zero, List.set_cons_succ]
                  refine take_at (i := 4) (oi := _) (d := some 64) (v := ?_) rfl rfl (by kernel_rfl) (by kernel_rfl) (by kernel_rfl) (fun _ _ _ h => h) (Or.inl ⟨by rfl, ?_⟩) hHeld ?_
                  rotate_left
                  next => (intro w hSw; (try dsimp only at hSw); go_simp; try with_reducible rfl)
                  try simp only [Act.put, List.setIfInBounds_toArray, List.set_cons_zero, List.set_cons_succ]
                  refine take_at (i := 5) (oi := _) (d := some 65) (v := ?_) rfl rfl (by kernel_rfl) (by kernel_rfl) (by kernel_rfl) (fun _ _ _ h => h) (Or.inl ⟨by rfl, ?_⟩) hHeld ?_
                  rotate_left
                  next => (intro w hSw; (try dsimp only at hSw); go_simp; try with_reducible rfl)
                  try simp only [Act.put, List.setIfInBounds_toArray, List.set_cons_zero, List.set_cons_succ]
                  refine take_at (i := 6) (oi := _) (d := some 66) (v := ?_) rfl rfl (by kernel_rfl) (by kernel_rfl) (by kernel_rfl) (fun _ _ _ h => h) (Or.inl ⟨by rfl, ?_⟩) hHeld ?_
                  rotate_left
                  next => (intro w hSw; (try dsimp only at hSw); go_simp; try with_reducible rfl)
                  try simp only [Act.put, List.setIfInBounds_toArray, List.set_cons_zero, List.set_cons_succ]
                  refine take_at (i := 7) (oi := _) (d := some 67) (v := ?_) rfl rfl (by kernel_rfl) (by kernel_rfl) (by kernel_rfl) (fun _ _ _ h => h) (Or.inl ⟨by rfl, ?_⟩) hHeld ?_
                  rotate_left
                  next => (intro w hSw; (try dsimp only at hSw); go_simp; try with_reducible rfl)
                  try simp only [Act.put, List.setIfInBounds_toArray, List.set_cons_zero, List.set_cons_succ]
                  refine take_at (i := 8) (oi := _) (d := some 68) (v := ?_) rfl rfl (by kernel_rfl) (by kernel_rfl) (by kernel_rfl) (fun _ _ _ h => h) (Or.inl ⟨by rfl, ?_⟩) hHeld ?_
                  rotate_left
                  next => (intro w hSw; (try dsimp only at hSw); go_simp; try with_reducible rfl)
                  try simp only [Act.put, List.setIfInBounds_toArray, List.set_cons_zero, List.set_cons_succ]
                  refine take_at (i := 9) (oi := _) (d := some 69) (v := ?_) rfl rfl (by kernel_rfl) (by kernel_rfl) (by kernel_rfl) (fun _ _ _ h => h) (Or.inl ⟨by rfl, ?_⟩) hHeld ?_
                  rotate_left
                  next => (intro w hSw; (try dsimp only at hSw); go_simp; try with_reducible rfl)
                  try simp only [Act.put, List.setIfInBounds_toArray, List.set_cons_zero, List.set_cons_succ]
                  refine take_at (i := 10) (oi := _) (d := some 70) (v := ?_) rfl rfl (by kernel_rfl) (by kernel_rfl) (by kernel_rfl) (fun _ _ _ h => h) (Or.inl ⟨by rfl, ?_⟩) hHeld ?_
                  rotate_left
                  next => (intro w hSw; (try dsimp only at hSw); go_simp; try with_reducible rfl)
                  try simp only [Act.put, List.setIfInBounds_toArray, List.set_cons_zero, List.set_cons_succ]
                  refine take_at (i := 11) (oi := _) (d := some 71) (v := ?_) rfl rfl (by kernel_rfl) (by kernel_rfl) (by kernel_rfl) (fun _ _ _ h => h) (Or.inl ⟨by rfl, ?_⟩) hHeld ?_
                  rotate_left
                  next => (intro w hSw; (try dsimp only at hSw); go_simp; try with_reducible rfl)
                  try simp only [Act.put, List.setIfInBounds_toArray, List.set_cons_zero, List.set_cons_succ]
                  refine wpAnyH_ready (rs := [12]) (by kernel_rfl) (by simp) (AllReadyH.cons (o := _) rfl (fun K hK => ?_) AllReadyH.nil)
                  go_simp
                  go_at_call 16
                  refine (HF.out _).mono ?_
                  rintro e w' ⟨rfl, hb⟩
                  refine hK.out _ _ (held_call hHeld hb) (fun hHeld => ?_)
                  clear hK K hb
                  try simp only [Act.put, List.setIfInBounds_toArray, List.set_cons_zero, List.set_cons_succ]
                  refine take_at (i := 13) (oi := _) (d := some 59) (v := ?_) rfl rfl (by kernel_rfl) (by kernel_rfl) (by kernel_rfl) (fun _ _ _ h => h) (Or.inl ⟨by rfl, ?_⟩) hHeld ?_
                  rotate_left
                  next => (intro w hSw; (try dsimp only at hSw); go_simp; try with_reducible rfl)
                  try simp only [Act.put, List.setIfInBounds_toArray, List.set_cons_zero, List.set_cons_succ]
                  refine take_at (i := 14) (oi := _) (d := some 73) (v := ?_) rfl rfl (by kernel_rfl) (by kernel_rfl) (by kernel_rfl) (fun _ _ _ h => h) (Or.inl ⟨by rfl, ?_⟩) hHeld ?_
                  rotate_left
                  next => (intro w hSw; (try dsimp only at hSw); go_simp; try with_reducible rfl)
                  try simp only [Act.put, List.setIfInBounds_toArray, List.set_cons_zero, List.set_cons_succ]
                  refine take_at (i := 15) (oi := _) (d := some 74) (v := ?_) rfl rfl (by kernel_rfl) (by kernel_rfl) (by kernel_rfl) (fun _ _ _ h => h) (Or.inl ⟨by rfl, ?_⟩) hHeld ?_
                  rotate_left
                  next => (intro w hSw; (try dsimp only at hSw); go_simp; try with_reducible rfl)
                  try simp only [Act.put, List.setIfInBounds_toArray, List.set_cons_zero, List.set_cons_succ]
                  refine take_at (i := 16) (oi := _) (d := some 11) (v := ?_) rfl rfl (by kernel_rfl) (by kernel_rfl) (by kernel_rfl) (fun _ _ _ h => h) (Or.inl ⟨by rfl, ?_⟩) hHeld ?_
                  rotate_left
                  next => (intro w hSw; (try dsimp only at hSw); go_simp; try with_reducible rfl)
                  try simp only [Act.put, List.setIfInBounds_toArray, List.set_cons_zero, List.set_cons_succ]
                  refine wpAnyH_done (by kernel_rfl) ?_ _
                  obtain ⟨w9, rfl⟩ : ∃ x : World, x = w' := ⟨_, rfl⟩
                  have HQ9 := Lib.hid (HQ8.out.trans hHeld.2)
                  clear hHeld
                  clear hsA hbA x0 x1 x2 x3 x4 x5 x6 x7 x8 x9 x10 x11 x12 x13 c0 c1 c2 c3 c4 c5 c6 c7 d0 d1 d2 d3 d4 d5 d6 d7
                  obtain ⟨x0, x1, x2, x3, x4, x5, x6, x7, x8, x9, x10, x11, x12, x13⟩ : w9.cell? ⟨w.heap.size, 0, none⟩ = some (.int .i64 l0) ∧ w9.cell? ⟨w.heap.size, 1, none⟩ = some (.int .i64 l1) ∧ w9.cell? ⟨w.heap.size, 2, none⟩ = some (.int .i64 l2) ∧ w9.cell? ⟨w.heap.size, 3, none⟩ = some (.int .i64 l3) ∧ w9.cell? ⟨w.heap.size, 4, none⟩ = some (.int .i64 l4) ∧ w9.cell? ⟨w.heap.size, 5, none⟩ = some (.int .i64 l5) ∧ w9.cell? ⟨w.heap.size, 6, none⟩ = some (.int .i64 h0) ∧ w9.cell? ⟨w.heap.size, 7, none⟩ = some (.int .i64 h1) ∧ w9.cell? ⟨w.heap.size, 8, none⟩ = some (.int .i64 h2) ∧ w9.cell? ⟨w.heap.size, 9, none⟩ = some (.int .i64 h3) ∧ w9.cell? ⟨w.heap.size, 10, none⟩ = some (.int .i64 h4) ∧ w9.cell? ⟨w.heap.size, 11, none⟩ = some (.int .i64 h5) ∧ w9.cell? ⟨w.heap.size, 12, none⟩ = some (.int .i64 st) ∧ w9.cell? ⟨w.heap.size, 13, none⟩ = some (.int .i64 br) := boxKeep (HQ9.out) HZB.out HXB.out
                  obtain ⟨c0, c1, c2, c3, c4, c5, c6, c7⟩ := RowsAt.eightAt (HA.out.keep (HGL.out.trans (HQ9.out))) hlt
                  have hsA : w.heap.size < w9.heap.size := Nat.lt_of_lt_of_le HZB.out (HQ9.out).size
                  have hbA : b < w9.heap.size := by omega
                  obtain ⟨d0, d1, d2, d3, d4, d5, d6, d7⟩ := RowsAt.eightAt (HA.out.keep (HGL.out.trans (HQ9.out))) hpn
                  go_upto_region 17 with fail
                  go_quiet (fail)
                  go_wp2_with fail
                  go_roundw
                  case rel => exact ⟨j + 1, by omega, by first | rfl | go_num, by (show _ = Value.int .i64 (brF f j)); rw [HSV.out], HS.out, HQ9.out.trans ((Gr.refl _).drewN _)⟩
                  case measure => simp [intOf]; omega
            · skip
              have HS : Hid (singB ⟨l0, l1, l2, l3, l4, l5⟩ ⟨h0, h1, h2, h3, h4, h5⟩ st br f j = false) := Lib.hid (by
                have e := HSV.out; have z := HZJ.out; subst z
                simp only [singB, atN]
                rw [e]
                rw [q2, Bool.and_false, Bool.and_false])
              rw [q1] at hH
              have HH := Lib.hid hH
              clear hH
              rw [q2] at hF
              have HF := Lib.hid hF
              clear hF
              clear q1 q2
              as_aux_lemma =>
                obtain ⟨x0, x1, x2, x3, x4, x5, x6, x7, x8, x9, x10, x11, x12, x13⟩ : wp.cell? ⟨w.heap.size, 0, none⟩ = some (.int .i64 l0) ∧ wp.cell? ⟨w.heap.size, 1, none⟩ = some (.int .i64 l1) ∧ wp.cell? ⟨w.heap.size, 2, none⟩ = some (.int .i64 l2) ∧ wp.cell? ⟨w.heap.size, 3, none⟩ = some (.int .i64 l3) ∧ wp.cell? ⟨w.heap.size, 4, none⟩ = some (.int .i64 l4) ∧ wp.cell? ⟨w.heap.size, 5, none⟩ = some (.int .i64 l5) ∧ wp.cell? ⟨w.heap.size, 6, none⟩ = some (.int .i64 h0) ∧ wp.cell? ⟨w.heap.size, 7, none⟩ = some (.int .i64 h1) ∧ wp.cell? ⟨w.heap.size, 8, none⟩ = some (.int .i64 h2) ∧ wp.cell? ⟨w.heap.size, 9, none⟩ = some (.int .i64 h3) ∧ wp.cell? ⟨w.heap.size, 10, none⟩ = some (.int .i64 h4) ∧ wp.cell? ⟨w.heap.size, 11, none⟩ = some (.int .i64 h5) ∧ wp.cell? ⟨w.heap.size, 12, none⟩ = some (.int .i64 st) ∧ wp.cell? ⟨w.heap.size, 13, none⟩ = some (.int .i64 br) := boxKeep (HGW.out) HZB.out HXB.out
                obtain ⟨c0, c1, c2, c3, c4, c5, c6, c7⟩ := RowsAt.eightAt (HA.out.keep (HGL.out.trans (HGW.out))) hlt
                have hsA : w.heap.size < wp.heap.size := Nat.lt_of_lt_of_le HZB.out (HGW.out).size
                have hbA : b < wp.heap.size := by omega
                obtain ⟨d0, d1, d2, d3, d4, d5, d6, d7⟩ := RowsAt.eightAt (HA.out.keep (HGL.out.trans (HGW.out))) hpn
                go_wp2_with fail
                go_quiet (fail)
                go_upto_region 13 with fail
                have hq : Gr wL (wp.drewN nq) := HGW.out.trans ((Gr.refl _).drewN _)
                generalize wp.drewN nq = wq at *
                have HQ := Lib.hid hq
                clear hq
                clear hsA hbA x0 x1 x2 x3 x4 x5 x6 x7 x8 x9 x10 x11 x12 x13 c0 c1 c2 c3 c4 c5 c6 c7 d0 d1 d2 d3 d4 d5 d6 d7
                obtain ⟨x0, x1, x2, x3, x4, x5, x6, x7, x8, x9, x10, x11, x12, x13⟩ : wq.cell? ⟨w.heap.size, 0, none⟩ = some (.int .i64 l0) ∧ wq.cell? ⟨w.heap.size, 1, none⟩ = some (.int .i64 l1) ∧ wq.cell? ⟨w.heap.size, 2, none⟩ = some (.int .i64 l2) ∧ wq.cell? ⟨w.heap.size, 3, none⟩ = some (.int .i64 l3) ∧ wq.cell? ⟨w.heap.size, 4, none⟩ = some (.int .i64 l4) ∧ wq.cell? ⟨w.heap.size, 5, none⟩ = some (.int .i64 l5) ∧ wq.cell? ⟨w.heap.size, 6, none⟩ = some (.int .i64 h0) ∧ wq.cell? ⟨w.heap.size, 7, none⟩ = some (.int .i64 h1) ∧ wq.cell? ⟨w.heap.size, 8, none⟩ = some (.int .i64 h2) ∧ wq.cell? ⟨w.heap.size, 9, none⟩ = some (.int .i64 h3) ∧ wq.cell? ⟨w.heap.size, 10, none⟩ = some (.int .i64 h4) ∧ wq.cell? ⟨w.heap.size, 11, none⟩ = some (.int .i64 h5) ∧ wq.cell? ⟨w.heap.size, 12, none⟩ = some (.int .i64 st) ∧ wq.cell? ⟨w.heap.size, 13, none⟩ = some (.int .i64 br) := boxKeep (HQ.out) HZB.out HXB.out
                obtain ⟨c0, c1, c2, c3, c4, c5, c6, c7⟩ := RowsAt.eightAt (HA.out.keep (HGL.out.trans (HQ.out))) hlt
                have hsA : w.heap.size < wq.heap.size := Nat.lt_of_lt_of_le HZB.out (HQ.out).size
                have hbA : b < wq.heap.size := by omega
                obtain ⟨d0, d1, d2, d3, d4, d5, d6, d7⟩ := RowsAt.eightAt (HA.out.keep (HGL.out.trans (HQ.out))) hpn
                refine wp_region_held_drew (S := fun wx => (∀ b o, (⟨min (b + 1) wq.heap.size, 0, none⟩ : Addr) = ⟨b + 1, 0, none⟩ → wx.cell? ⟨b, o, none⟩ = wq.cell? ⟨b, o, none⟩) ∧ Gr wq wx) (by kernel_rfl) (held_drew wq) (fun hHeld => ?_)
                refine take_at (i := 0) (oi := _) (d := some 48) (v := ?_) rfl rfl (by kernel_rfl) (by kernel_rfl) (by kernel_rfl) (fun _ _ _ h => h) (Or.inl ⟨by rfl, ?_⟩) hHeld ?_
                rotate_left
                next => (intro w hSw; (try dsimp only at hSw); go_simp; try with_reducible rfl)
                try simp only [Act.put, List.setIfInBounds_toArray, List.set_cons_zero, List.set_cons_succ]
                refine take_at (i := 1) (oi := _) (d := some 49) (v := ?_) rfl rfl (by kernel_rfl) (by kernel_rfl) (by kernel_rfl) (fun _ _ _ h => h) (Or.inl ⟨by rfl, ?_⟩) hHeld ?_
                rotate_left
                next => (intro w hSw; (try dsimp only at hSw); go_simp; try with_reducible rfl)
                try simp only [Act.put, List.setIfInBounds_toArray, List.set_cons_zero, List.set_cons_succ]
                refine take_at (i := 2) (oi := _) (d := some 50) (v := ?_) rfl rfl (by kernel_rfl) (by kernel_rfl) (by kernel_rfl) (fun _ _ _ h => h) (Or.inl ⟨by rfl, ?_⟩) hHeld ?_
                rotate_left
                next => (intro w hSw; (try dsimp only at hSw); go_simp; try with_reducible rfl)
                try simp only [Act.put, List.setIfInBounds_toArray, List.set_cons_zero, List.set_cons_succ]
                refine take_at (i := 3) (oi := _) (d := some 51) (v := ?_) rfl rfl (by kernel_rfl) (by kernel_rfl) (by kernel_rfl) (fun _ _ _ h => h) (Or.inl ⟨by rfl, ?_⟩) hHeld ?_
                rotate_left
                next => (intro w hSw; (try dsimp only at hSw); go_simp; try with_reducible rfl)
                try simp only [Act.put, List.setIfInBounds_toArray, List.set_cons_zero, List.set_cons_succ]
                refine take_at (i := 4) (oi := _) (d := some 52) (v := ?_) rfl rfl (by kernel_rfl) (by kernel_rfl) (by kernel_rfl) (fun _ _ _ h => h) (Or.inl ⟨by rfl, ?_⟩) hHeld ?_
                rotate_left
                next => (intro w hSw; (try dsimp only at hSw); go_simp; try with_reducible rfl)
                try simp only [Act.put, List.setIfInBounds_toArray, List.set_cons_zero, List.set_cons_succ]
                refine take_at (i := 5) (oi := _) (d := some 53) (v := ?_) rfl rfl (by kernel_rfl) (by kernel_rfl) (by kernel_rfl) (fun _ _ _ h => h) (Or.inl ⟨by rfl, ?_⟩) hHeld ?_
                rotate_left
                next => (intro w hSw; (try dsimp only at hSw); go_simp; try with_reducible rfl)
                try simp only [Act.put, List.setIfInBounds_toArray, List.set_cons_zero, List.set_cons_succ]
                refine wpAnyH_ready (rs := [6]) (by kernel_rfl) (by simp) (AllReadyH.cons (o := _) rfl (fun K hK => ?_) AllReadyH.nil)
                go_simp
                go_at_call 14
                refine (HH.out _).mono ?_
                rintro e w' ⟨rfl, hb⟩
                refine hK.out _ _ (held_call hHeld hb) (fun hHeld => ?_)
                clear hK K hb
                try simp only [Act.put, List.setIfInBounds_toArray, List.set_cons_zero, List.set_cons_succ]
                refine take_at (i := 7) (oi := _) (d := some 47) (v := ?_) rfl rfl (by kernel_rfl) (by kernel_rfl) (by kernel_rfl) (fun _ _ _ h => h) (Or.inl ⟨by rfl, ?_⟩) hHeld ?_
                rotate_left
                next => (intro w hSw; (try dsimp only at hSw); go_simp; try with_reducible rfl)
                try simp only [Act.put, List.setIfInBounds_toArray, List.set_cons_zero, List.set_cons_succ]
                refine take_at (i := 8) (oi := _) (d := some 55) (v := ?_) rfl rfl (by kernel_rfl) (by kernel_rfl) (by kernel_rfl) (fun _ _ _ h => h) (Or.inl ⟨by rfl, ?_⟩) hHeld ?_
                rotate_left
                next => (intro w hSw; (try dsimp only at hSw); go_simp; try with_reducible rfl)
                try simp only [Act.put, List.setIfInBounds_toArray, List.set_cons_zero, List.set_cons_succ]
                refine take_at (i := 9) (oi := _) (d := some 56) (v := ?_) rfl rfl (by kernel_rfl) (by kernel_rfl) (by kernel_rfl) (fun _ _ _ h => h) (Or.inl ⟨by rfl, ?_⟩) hHeld ?_
                rotate_left
                next => (intro w hSw; (try dsimp only at hSw); go_simp; try with_reducible rfl)
                try simp only [Act.put, List.setIfInBounds_toArray, List.set_cons_zero, List.set_cons_succ]
                refine take_at (i := 10) (oi := _) (d := some 9) (v := ?_) rfl rfl (by kernel_rfl) (by kernel_rfl) (by kernel_rfl) (fun _ _ _ h => h) (Or.inl ⟨by rfl, ?_⟩) hHeld ?_
                rotate_left
                next => (intro w hSw; (try dsimp only at hSw); go_simp; try with_reducible rfl)
                try simp only [Act.put, List.setIfInBounds_toArray, List.set_cons_zero, List.set_cons_succ]
                refine take_at (i := 11) (oi := _) (d := some 10) (v := ?_) rfl rfl (by kernel_rfl) (by kernel_rfl) (by kernel_rfl) (fun _ _ _ h => h) (Or.inl ⟨by rfl, ?_⟩) hHeld ?_
                rotate_left
                next => (intro w hSw; (try dsimp only at hSw); go_simp; try with_reducible rfl)
                try simp only [Act.put, List.setIfInBounds_toArray, List.set_cons_zero, List.set_cons_succ]
                refine wpAnyH_done (by kernel_rfl) ?_ _
                obtain ⟨w8, rfl⟩ : ∃ x : World, x = w' := ⟨_, rfl⟩
                have HQ8 := Lib.hid (HQ.out.trans hHeld.2)
                clear hHeld
                clear hsA hbA x0 x1 x2 x3 x4 x5 x6 x7 x8 x9 x10 x11 x12 x13 c0 c1 c2 c3 c4 c5 c6 c7 d0 d1 d2 d3 d4 d5 d6 d7
                obtain ⟨x0, x1, x2, x3, x4, x5, x6, x7, x8, x9, x10, x11, x12, x13⟩ : w8.cell? ⟨w.heap.size, 0, none⟩ = some (.int .i64 l0) ∧ w8.cell? ⟨w.heap.size, 1, none⟩ = some (.int .i64 l1) ∧ w8.cell? ⟨w.heap.size, 2, none⟩ = some (.int .i64 l2) ∧ w8.cell? ⟨w.heap.size, 3, none⟩ = some (.int .i64 l3) ∧ w8.cell? ⟨w.heap.size, 4, none⟩ = some (.int .i64 l4) ∧ w8.cell? ⟨w.heap.size, 5, none⟩ = some (.int .i64 l5) ∧ w8.cell? ⟨w.heap.size, 6, none⟩ = some (.int .i64 h0) ∧ w8.cell? ⟨w.heap.size, 7, none⟩ = some (.int .i64 h1) ∧ w8.cell? ⟨w.heap.size, 8, none⟩ = some (.int .i64 h2) ∧ w8.cell? ⟨w.heap.size, 9, none⟩ = some (.int .i64 h3) ∧ w8.cell? ⟨w.heap.size, 10, none⟩ = some (.int .i64 h4) ∧ w8.cell? ⟨w.heap.size, 11, none⟩ = some (.int .i64 h5) ∧ w8.cell? ⟨w.heap.size, 12, none⟩ = some (.int .i64 st) ∧ w8.cell? ⟨w.heap.size, 13, none⟩ = some (.int .i64 br) := boxKeep (HQ8.out) HZB.out HXB.out
                obtain ⟨c0, c1, c2, c3, c4, c5, c6, c7⟩ := RowsAt.eightAt (HA.out.keep (HGL.out.trans (HQ8.out))) hlt
                have hsA : w.heap.size < w8.heap.size := Nat.lt_of_lt_of_le HZB.out (HQ8.out).size
                have hbA : b < w8.heap.size := by omega
                obtain ⟨d0, d1, d2, d3, d4, d5, d6, d7⟩ := RowsAt.eightAt (HA.out.keep (HGL.out.trans (HQ8.out))) hpn
                go_upto_region 16 with fail
                refine wp_region_held_drew (S := fun wx => (∀ b o, (⟨min (b + 1) w8.heap.size, 0, none⟩ : Addr) = ⟨b + 1, 0, none⟩ → wx.cell? ⟨b, o, none⟩ = w8.cell? ⟨b, o, none⟩) ∧ Gr w8 wx) (by kernel_rfl) (held_drew w8) (fun hHeld => ?_)
                refine take_at (i := 0) (oi := _) (d := some 60) (v := ?_) rfl rfl (by kernel_rfl) (by kernel_rfl) (by kernel_rfl) (fun _ _ _ h => h) (Or.inl ⟨by rfl, ?_⟩) hHeld ?_
                rotate_left
                next => (intro w hSw; (try dsimp only at hSw); go_simp; try with_reducible rfl)
                try simp only [Act.put, List.setIfInBounds_toArray, List.set_cons_zero, List.set_cons_succ]
                refine take_at (i := 1) (oi := _) (d := some 61) (v := ?_) rfl rfl (by kernel_rfl) (by kernel_rfl) (by kernel_rfl) (fun _ _ _ h => h) (Or.inl ⟨by rfl, ?_⟩) hHeld ?_
                rotate_left
                next => (intro w hSw; (try dsimp only at hSw); go_simp; try with_reducible rfl)
                try simp only [Act.put, List.setIfInBounds_toArray, List.set_cons_zero, List.set_cons_succ]
                refine take_at (i := 2) (oi := _) (d := some 62) (v := ?_) rfl rfl (by kernel_rfl) (by kernel_rfl) (by kernel_rfl) (fun _ _ _ h => h) (Or.inl ⟨by rfl, ?_⟩) hHeld ?_
                rotate_left
                next => (intro w hSw; (try dsimp only at hSw); go_simp; try with_reducible rfl)
                try simp only [Act.put, List.setIfInBounds_toArray, List.set_cons_zero, List.set_cons_succ]
                refine take_at (i := 3) (oi := _) (d := some 63) (v := ?_) rfl rfl (by kernel_rfl) (by kernel_rfl) (by kernel_rfl) (fun _ _ _ h => h) (Or.inl ⟨by rfl, ?_⟩) hHeld ?_
                rotate_left
                next => (intro w hSw; (try dsimp only at hSw); go_simp; try with_reducible rfl)
                try simp only [Act.put, List.setIfInBounds_toArray, List.set_cons_zero, List.set_cons_succ]
                refine take_at (i := 4) (oi := _) (d := some 64) (v := ?_) rfl rfl (by kernel_rfl) (by kernel_rfl) (by kernel_rfl) (fun _ _ _ h => h) (Or.inl ⟨by rfl, ?_⟩) hHeld ?_
                rotate_left
                next => (intro w hSw; (try dsimp only at hSw); go_simp; try with_reducible rfl)
                try simp only [Act.put, List.setIfInBounds_toArray, List.set_cons_zero, List.set_cons_succ]
                refine take_at (i := 5) (oi := _) (d := some 65) (v := ?_) rfl rfl (by kernel_rfl) (by kernel_rfl) (by kernel_rfl) (fun _ _ _ h => h) (Or.inl ⟨by rfl, ?_⟩) hHeld ?_
                rotate_left
                next => (intro w hSw; (try dsimp only at hSw); go_simp; try with_reducible rfl)
                try simp only [Act.put, List.setIfInBounds_toArray, List.set_cons_zero, List.set_cons_succ]
                refine take_at (i := 6) (oi := _) (d := some 66) (v := ?_) rfl rfl (by kernel_rfl) (by kernel_rfl) (by kernel_rfl) (fun _ _ _ h => h) (Or.inl ⟨by rfl, ?_⟩) hHeld ?_
                rotate_left
                next => (intro w hSw; (try dsimp only at hSw); go_simp; try with_reducible rfl)
                try simp only [Act.put, List.setIfInBounds_toArray, List.set_cons_zero, List.set_cons_succ]
                refine take_at (i := 7) (oi := _) (d := some 67) (v := ?_) rfl rfl (by kernel_rfl) (by kernel_rfl) (by kernel_rfl) (fun _ _ _ h => h) (Or.inl ⟨by rfl, ?_⟩) hHeld ?_
                rotate_left
                next => (intro w hSw; (try dsimp only at hSw); go_simp; try with_reducible rfl)
                try simp only [Act.put, List.setIfInBounds_toArray, List.set_cons_zero, List.set_cons_succ]
                refine take_at (i := 8) (oi := _) (d := some 68) (v := ?_) rfl rfl (by kernel_rfl) (by kernel_rfl) (by kernel_rfl) (fun _ _ _ h => h) (Or.inl ⟨by rfl, ?_⟩) hHeld ?_
                rotate_left
                next => (intro w hSw; (try dsimp only at hSw); go_simp; try with_reducible rfl)
                try simp only [Act.put, List.setIfInBounds_toArray, List.set_cons_zero, List.set_cons_succ]
                refine take_at (i := 9) (oi := _) (d := some 69) (v := ?_) rfl rfl (by kernel_rfl) (by kernel_rfl) (by kernel_rfl) (fun _ _ _ h => h) (Or.inl ⟨by rfl, ?_⟩) hHeld ?_
                rotate_left
                next => (intro w hSw; (try dsimp only at hSw); go_simp; try with_reducible rfl)
                try simp only [Act.put, List.setIfInBounds_toArray, List.set_cons_zero, List.set_cons_succ]
                refine take_at (i := 10) (oi := _) (d := some 70) (v := ?_) rfl rfl (by kernel_rfl) (by kernel_rfl) (by kernel_rfl) (fun _ _ _ h => h) (Or.inl ⟨by rfl, ?_⟩) hHeld ?_
                rotate_left
                next => (intro w hSw; (try dsimp only at hSw); go_simp; try with_reducible rfl)
                try simp only [Act.put, List.setIfInBounds_toArray, List.set_cons_zero, List.set_cons_succ]
                refine take_at (i := 11) (oi := _) (d := some 71) (v := ?_) rfl rfl (by kernel_rfl) (by kernel_rfl) (by kernel_rfl) (fun _ _ _ h => h) (Or.inl ⟨by rfl, ?_⟩) hHeld ?_
                rotate_left
                next => (intro w hSw; (try dsimp only at hSw); go_simp; try with_reducible rfl)
                try simp only [Act.put, List.setIfInBounds_toArray, List.set_cons_zero, List.set_cons_succ]
                refine wpAnyH_ready (rs := [12]) (by kernel_rfl) (by simp) (AllReadyH.cons (o := _) rfl (fun K hK => ?_) AllReadyH.nil)
                go_simp
                go_at_call 16
                refine (HF.out _).mono ?_
                rintro e w' ⟨rfl, hb⟩
                refine hK.out _ _ (held_call hHeld hb) (fun hHeld => ?_)
                clear hK K hb
                try simp only [Act.put, List.setIfInBounds_toArray, List.set_cons_zero, List.set_cons_succ]
                refine take_at (i := 13) (oi := _) (d := some 59) (v := ?_) rfl rfl (by kernel_rfl) (by kernel_rfl) (by kernel_rfl) (fun _ _ _ h => h) (Or.inl ⟨by rfl, ?_⟩) hHeld ?_
                rotate_left
                next => (intro w hSw; (try dsimp only at hSw); go_simp; try with_reducible rfl)
                try simp only [Act.put, List.setIfInBounds_toArray, List.set_cons_zero, List.set_cons_succ]
                refine take_at (i := 14) (oi := _) (d := some 73) (v := ?_) rfl rfl (by kernel_rfl) (by kernel_rfl) (by kernel_rfl) (fun _ _ _ h => h) (Or.inl ⟨by rfl, ?_⟩) hHeld ?_
                rotate_left
                next => (intro w hSw; (try dsimp only at hSw); go_simp; try with_reducible rfl)
                try simp only [Act.put, List.setIfInBounds_toArray, List.set_cons_zero, List.set_cons_succ]
                refine take_at (i := 15) (oi := _) (d := some 74) (v := ?_) rfl rfl (by kernel_rfl) (by kernel_rfl) (by kernel_rfl) (fun _ _ _ h => h) (Or.inl ⟨by rfl, ?_⟩) hHeld ?_
                rotate_left
                next => (intro w hSw; (try dsimp only at hSw); go_simp; try with_reducible rfl)
                try simp only [Act.put, List.setIfInBounds_toArray, List.set_cons_zero, List.set_cons_succ]
                refine take_at (i := 16) (oi := _) (d := some 11) (v := ?_) rfl rfl (by kernel_rfl) (by kernel_rfl) (by kernel_rfl) (fun _ _ _ h => h) (Or.inl ⟨by rfl, ?_⟩) hHeld ?_
                rotate_left
                next => (intro w hSw; (try dsimp only at hSw); go_simp; try with_reducible rfl)
                try simp only [Act.put, List.setIfInBounds_toArray, List.set_cons_zero, List.set_cons_succ]
                refine wpAnyH_done (by kernel_rfl) ?_ _
                obtain ⟨w9, rfl⟩ : ∃ x : World, x = w' := ⟨_, rfl⟩
                have HQ9 := Lib.hid (HQ8.out.trans hHeld.2)
                clear hHeld
                clear hsA hbA x0 x1 x2 x3 x4 x5 x6 x7 x8 x9 x10 x11 x12 x13 c0 c1 c2 c3 c4 c5 c6 c7 d0 d1 d2 d3 d4 d5 d6 d7
                obtain ⟨x0, x1, x2, x3, x4, x5, x6, x7, x8, x9, x10, x11, x12, x13⟩ : w9.cell? ⟨w.heap.size, 0, none⟩ = some (.int .i64 l0) ∧ w9.cell? ⟨w.heap.size, 1, none⟩ = some (.int .i64 l1) ∧ w9.cell? ⟨w.heap.size, 2, none⟩ = some (.int .i64 l2) ∧ w9.cell? ⟨w.heap.size, 3, none⟩ = some (.int .i64 l3) ∧ w9.cell? ⟨w.heap.size, 4, none⟩ = some (.int .i64 l4) ∧ w9.cell? ⟨w.heap.size, 5, none⟩ = some (.int .i64 l5) ∧ w9.cell? ⟨w.heap.size, 6, none⟩ = some (.int .i64 h0) ∧ w9.cell? ⟨w.heap.size, 7, none⟩ = some (.int .i64 h1) ∧ w9.cell? ⟨w.heap.size, 8, none⟩ = some (.int .i64 h2) ∧ w9.cell? ⟨w.heap.size, 9, none⟩ = some (.int .i64 h3) ∧ w9.cell? ⟨w.heap.size, 10, none⟩ = some (.int .i64 h4) ∧ w9.cell? ⟨w.heap.size, 11, none⟩ = some (.int .i64 h5) ∧ w9.cell? ⟨w.heap.size, 12, none⟩ = some (.int .i64 st) ∧ w9.cell? ⟨w.heap.size, 13, none⟩ = some (.int .i64 br) := boxKeep (HQ9.out) HZB.out HXB.out
                obtain ⟨c0, c1, c2, c3, c4, c5, c6, c7⟩ := RowsAt.eightAt (HA.out.keep (HGL.out.trans (HQ9.out))) hlt
                have hsA : w.heap.size < w9.heap.size := Nat.lt_of_lt_of_le HZB.out (HQ9.out).size
                have hbA : b < w9.heap.size := by omega
                obtain ⟨d0, d1, d2, d3, d4, d5, d6, d7⟩ := RowsAt.eightAt (HA.out.keep (HGL.out.trans (HQ9.out))) hpn
                go_upto_region 17 with fail
                go_quiet (fail)
                go_wp2_with fail
                go_ret2
                exact ⟨_, rfl, Or.inr ⟨j, hlt, HAL.out, HS.out, rfl⟩, HGL.out.trans (HQ9.out.trans ((Gr.refl _).drewN _))⟩
          · skip
            have HS : Hid (singB ⟨l0, l1, l2, l3, l4, l5⟩ ⟨h0, h1, h2, h3, h4, h5⟩ st br f j = false) := Lib.hid (by
              have e := HSV.out; have z := HZJ.out; subst z
              simp only [singB, atN]
              rw [e]
              rw [q1, Bool.false_and, Bool.and_false])
            rw [q1] at hH
            have HH := Lib.hid hH
            clear hH
            generalize findsB st ⟨f p 2, f p 3, f p 4, f p 5, f p 6, f p 7⟩ ⟨f j 2, f j 3, f j 4, f j 5, f j 6, f j 7⟩ = R at hF
            have HF := Lib.hid hF
            clear hF q1
            as_aux_lemma =>
              obtain ⟨x0, x1, x2, x3, x4, x5, x6, x7, x8, x9, x10, x11, x12, x13⟩ : wp.cell? ⟨w.heap.size, 0, none⟩ = some (.int .i64 l0) ∧ wp.cell? ⟨w.heap.size, 1, none⟩ = some (.int .i64 l1) ∧ wp.cell? ⟨w.heap.size, 2, none⟩ = some (.int .i64 l2) ∧ wp.cell? ⟨w.heap.size, 3, none⟩ = some (.int .i64 l3) ∧ wp.cell? ⟨w.heap.size, 4, none⟩ = some (.int .i64 l4) ∧ wp.cell? ⟨w.heap.size, 5, none⟩ = some (.int .i64 l5) ∧ wp.cell? ⟨w.heap.size, 6, none⟩ = some (.int .i64 h0) ∧ wp.cell? ⟨w.heap.size, 7, none⟩ = some (.int .i64 h1) ∧ wp.cell? ⟨w.heap.size, 8, none⟩ = some (.int .i64 h2) ∧ wp.cell? ⟨w.heap.size, 9, none⟩ = some (.int .i64 h3) ∧ wp.cell? ⟨w.heap.size, 10, none⟩ = some (.int .i64 h4) ∧ wp.cell? ⟨w.heap.size, 11, none⟩ = some (.int .i64 h5) ∧ wp.cell? ⟨w.heap.size, 12, none⟩ = some (.int .i64 st) ∧ wp.cell? ⟨w.heap.size, 13, none⟩ = some (.int .i64 br) := boxKeep (HGW.out) HZB.out HXB.out
              obtain ⟨c0, c1, c2, c3, c4, c5, c6, c7⟩ := RowsAt.eightAt (HA.out.keep (HGL.out.trans (HGW.out))) hlt
              have hsA : w.heap.size < wp.heap.size := Nat.lt_of_lt_of_le HZB.out (HGW.out).size
              have hbA : b < wp.heap.size := by omega
              obtain ⟨d0, d1, d2, d3, d4, d5, d6, d7⟩ := RowsAt.eightAt (HA.out.keep (HGL.out.trans (HGW.out))) hpn
              go_wp2_with fail
              go_quiet (fail)
              go_upto_region 13 with fail
              have hq : Gr wL (wp.drewN nq) := HGW.out.trans ((Gr.refl _).drewN _)
              generalize wp.drewN nq = wq at *
              have HQ := Lib.hid hq
              clear hq
              clear hsA hbA x0 x1 x2 x3 x4 x5 x6 x7 x8 x9 x10 x11 x12 x13 c0 c1 c2 c3 c4 c5 c6 c7 d0 d1 d2 d3 d4 d5 d6 d7
              obtain ⟨x0, x1, x2, x3, x4, x5, x6, x7, x8, x9, x10, x11, x12, x13⟩ : wq.cell? ⟨w.heap.size, 0, none⟩ = some (.int .i64 l0) ∧ wq.cell? ⟨w.heap.size, 1, none⟩ = some (.int .i64 l1) ∧ wq.cell? ⟨w.heap.size, 2, none⟩ = some (.int .i64 l2) ∧ wq.cell? ⟨w.heap.size, 3, none⟩ = some (.int .i64 l3) ∧ wq.cell? ⟨w.heap.size, 4, none⟩ = some (.int .i64 l4) ∧ wq.cell? ⟨w.heap.size, 5, none⟩ = some (.int .i64 l5) ∧ wq.cell? ⟨w.heap.size, 6, none⟩ = some (.int .i64 h0) ∧ wq.cell? ⟨w.heap.size, 7, none⟩ = some (.int .i64 h1) ∧ wq.cell? ⟨w.heap.size, 8, none⟩ = some (.int .i64 h2) ∧ wq.cell? ⟨w.heap.size, 9, none⟩ = some (.int .i64 h3) ∧ wq.cell? ⟨w.heap.size, 10, none⟩ = some (.int .i64 h4) ∧ wq.cell? ⟨w.heap.size, 11, none⟩ = some (.int .i64 h5) ∧ wq.cell? ⟨w.heap.size, 12, none⟩ = some (.int .i64 st) ∧ wq.cell? ⟨w.heap.size, 13, none⟩ = some (.int .i64 br) := boxKeep (HQ.out) HZB.out HXB.out
              obtain ⟨c0, c1, c2, c3, c4, c5, c6, c7⟩ := RowsAt.eightAt (HA.out.keep (HGL.out.trans (HQ.out))) hlt
              have hsA : w.heap.size < wq.heap.size := Nat.lt_of_lt_of_le HZB.out (HQ.out).size
              have hbA : b < wq.heap.size := by omega
              obtain ⟨d0, d1, d2, d3, d4, d5, d6, d7⟩ := RowsAt.eightAt (HA.out.keep (HGL.out.trans (HQ.out))) hpn
              refine wp_region_held_drew (S := fun wx => (∀ b o, (⟨min (b + 1) wq.heap.size, 0, none⟩ : Addr) = ⟨b + 1, 0, none⟩ → wx.cell? ⟨b, o, none⟩ = wq.cell? ⟨b, o, none⟩) ∧ Gr wq wx) (by kernel_rfl) (held_drew wq) (fun hHeld => ?_)
              refine take_at (i := 0) (oi := _) (d := some 48) (v := ?_) rfl rfl (by kernel_rfl) (by kernel_rfl) (by kernel_rfl) (fun _ _ _ h => h) (Or.inl ⟨by rfl, ?_⟩) hHeld ?_
              rotate_left
              next => (intro w hSw; (try dsimp only at hSw); go_simp; try with_reducible rfl)
              try simp only [Act.put, List.setIfInBounds_toArray, List.set_cons_zero, List.set_cons_succ]
              refine take_at (i := 1) (oi := _) (d := some 49) (v := ?_) rfl rfl (by kernel_rfl) (by kernel_rfl) (by kernel_rfl) (fun _ _ _ h => h) (Or.inl ⟨by rfl, ?_⟩) hHeld ?_
              rotate_left
              next => (intro w hSw; (try dsimp only at hSw); go_simp; try with_reducible rfl)
              try simp only [Act.put, List.setIfInBounds_toArray, List.set_cons_zero, List.set_cons_succ]
              refine take_at (i := 2) (oi := _) (d := some 50) (v := ?_) rfl rfl (by kernel_rfl) (by kernel_rfl) (by kernel_rfl) (fun _ _ _ h => h) (Or.inl ⟨by rfl, ?_⟩) hHeld ?_
              rotate_left
              next => (intro w hSw; (try dsimp only at hSw); go_simp; try with_reducible rfl)
              try simp only [Act.put, List.setIfInBounds_toArray, List.set_cons_zero, List.set_cons_succ]
              refine take_at (i := 3) (oi := _) (d := some 51) (v := ?_) rfl rfl (by kernel_rfl) (by kernel_rfl) (by kernel_rfl) (fun _ _ _ h => h) (Or.inl ⟨by rfl, ?_⟩) hHeld ?_
              rotate_left
              next => (intro w hSw; (try dsimp only at hSw); go_simp; try with_reducible rfl)
              try simp only [Act.put, List.setIfInBounds_toArray, List.set_cons_zero, List.set_cons_succ]
              refine take_at (i := 4) (oi := _) (d := some 52) (v := ?_) rfl rfl (by kernel_rfl) (by kernel_rfl) (by kernel_rfl) (fun _ _ _ h => h) (Or.inl ⟨by rfl, ?_⟩) hHeld ?_
              rotate_left
              next => (intro w hSw; (try dsimp only at hSw); go_simp; try with_reducible rfl)
              try simp only [Act.put, List.setIfInBounds_toArray, List.set_cons_zero, List.set_cons_succ]
              refine take_at (i := 5) (oi := _) (d := some 53) (v := ?_) rfl rfl (by kernel_rfl) (by kernel_rfl) (by kernel_rfl) (fun _ _ _ h => h) (Or.inl ⟨by rfl, ?_⟩) hHeld ?_
              rotate_left
              next => (intro w hSw; (try dsimp only at hSw); go_simp; try with_reducible rfl)
              try simp only [Act.put, List.setIfInBounds_toArray, List.set_cons_zero, List.set_cons_succ]
              refine wpAnyH_ready (rs := [6]) (by kernel_rfl) (by simp) (AllReadyH.cons (o := _) rfl (fun K hK => ?_) AllReadyH.nil)
              go_simp
              go_at_call 14
              refine (HH.out _).mono ?_
              rintro e w' ⟨rfl, hb⟩
              refine hK.out _ _ (held_call hHeld hb) (fun hHeld => ?_)
              clear hK K hb
              try simp only [Act.put, List.setIfInBounds_toArray, List.set_cons_zero, List.set_cons_succ]
              refine take_at (i := 7) (oi := _) (d := some 47) (v := ?_) rfl rfl (by kernel_rfl) (by kernel_rfl) (by kernel_rfl) (fun _ _ _ h => h) (Or.inl ⟨by rfl, ?_⟩) hHeld ?_
              rotate_left
              next => (intro w hSw; (try dsimp only at hSw); go_simp; try with_reducible rfl)
              try simp only [Act.put, List.setIfInBounds_toArray, List.set_cons_zero, List.set_cons_succ]
              refine take_at (i := 8) (oi := _) (d := some 55) (v := ?_) rfl rfl (by kernel_rfl) (by kernel_rfl) (by kernel_rfl) (fun _ _ _ h => h) (Or.inl ⟨by rfl, ?_⟩) hHeld ?_
              rotate_left
              next => (intro w hSw; (try dsimp only at hSw); go_simp; try with_reducible rfl)
              try simp only [Act.put, List.setIfInBounds_toArray, List.set_cons_zero, List.set_cons_succ]
              refine take_at (i := 9) (oi := _) (d := some 56) (v := ?_) rfl rfl (by kernel_rfl) (by kernel_rfl) (by kernel_rfl) (fun _ _ _ h => h) (Or.inl ⟨by rfl, ?_⟩) hHeld ?_
              rotate_left
              next => (intro w hSw; (try dsimp only at hSw); go_simp; try with_reducible rfl)
              try simp only [Act.put, List.setIfInBounds_toArray, List.set_cons_zero, List.set_cons_succ]
              refine take_at (i := 10) (oi := _) (d := some 9) (v := ?_) rfl rfl (by kernel_rfl) (by kernel_rfl) (by kernel_rfl) (fun _ _ _ h => h) (Or.inl ⟨by rfl, ?_⟩) hHeld ?_
              rotate_left
              next => (intro w hSw; (try dsimp only at hSw); go_simp; try with_reducible rfl)
              try simp only [Act.put, List.setIfInBounds_toArray, List.set_cons_zero, List.set_cons_succ]
              refine take_at (i := 11) (oi := _) (d := some 10) (v := ?_) rfl rfl (by kernel_rfl) (by kernel_rfl) (by kernel_rfl) (fun _ _ _ h => h) (Or.inl ⟨by rfl, ?_⟩) hHeld ?_
              rotate_left
              next => (intro w hSw; (try dsimp only at hSw); go_simp; try with_reducible rfl)
              try simp only [Act.put, List.setIfInBounds_toArray, List.set_cons_zero, List.set_cons_succ]
              refine wpAnyH_done (by kernel_rfl) ?_ _
              obtain ⟨w8, rfl⟩ : ∃ x : World, x = w' := ⟨_, rfl⟩
              have HQ8 := Lib.hid (HQ.out.trans hHeld.2)
              clear hHeld
              clear hsA hbA x0 x1 x2 x3 x4 x5 x6 x7 x8 x9 x10 x11 x12 x13 c0 c1 c2 c3 c4 c5 c6 c7 d0 d1 d2 d3 d4 d5 d6 d7
              obtain ⟨x0, x1, x2, x3, x4, x5, x6, x7, x8, x9, x10, x11, x12, x13⟩ : w8.cell? ⟨w.heap.size, 0, none⟩ = some (.int .i64 l0) ∧ w8.cell? ⟨w.heap.size, 1, none⟩ = some (.int .i64 l1) ∧ w8.cell? ⟨w.heap.size, 2, none⟩ = some (.int .i64 l2) ∧ w8.cell? ⟨w.heap.size, 3, none⟩ = some (.int .i64 l3) ∧ w8.cell? ⟨w.heap.size, 4, none⟩ = some (.int .i64 l4) ∧ w8.cell? ⟨w.heap.size, 5, none⟩ = some (.int .i64 l5) ∧ w8.cell? ⟨w.heap.size, 6, none⟩ = some (.int .i64 h0) ∧ w8.cell? ⟨w.heap.size, 7, none⟩ = some (.int .i64 h1) ∧ w8.cell? ⟨w.heap.size, 8, none⟩ = some (.int .i64 h2) ∧ w8.cell? ⟨w.heap.size, 9, none⟩ = some (.int .i64 h3) ∧ w8.cell? ⟨w.heap.size, 10, none⟩ = some (.int .i64 h4) ∧ w8.cell? ⟨w.heap.size, 11, none⟩ = some (.int .i64 h5) ∧ w8.cell? ⟨w.heap.size, 12, none⟩ = some (.int .i64 st) ∧ w8.cell? ⟨w.heap.size, 13, none⟩ = some (.int .i64 br) := boxKeep (HQ8.out) HZB.out HXB.out
              obtain ⟨c0, c1, c2, c3, c4, c5, c6, c7⟩ := RowsAt.eightAt (HA.out.keep (HGL.out.trans (HQ8.out))) hlt
              have hsA : w.heap.size < w8.heap.size := Nat.lt_of_lt_of_le HZB.out (HQ8.out).size
              have hbA : b < w8.heap.size := by omega
              obtain ⟨d0, d1, d2, d3, d4, d5, d6, d7⟩ := RowsAt.eightAt (HA.out.keep (HGL.out.trans (HQ8.out))) hpn
              go_upto_region 16 with fail
              refine wp_region_held_drew (S := fun wx => (∀ b o, (⟨min (b + 1) w8.heap.size, 0, none⟩ : Addr) = ⟨b + 1, 0, none⟩ → wx.cell? ⟨b, o, none⟩ = w8.cell? ⟨b, o, none⟩) ∧ Gr w8 wx) (by kernel_rfl) (held_drew w8) (fun hHeld => ?_)
              refine take_at (i := 0) (oi := _) (d := some 60) (v := ?_) rfl rfl (by kernel_rfl) (by kernel_rfl) (by kernel_rfl) (fun _ _ _ h => h) (Or.inl ⟨by rfl, ?_⟩) hHeld ?_
              rotate_left
              next => (intro w hSw; (try dsimp only at hSw); go_simp; try with_reducible rfl)
              try simp only [Act.put, List.setIfInBounds_toArray, List.set_cons_zero, List.set_cons_succ]
              refine take_at (i := 1) (oi := _) (d := some 61) (v := ?_) rfl rfl (by kernel_rfl) (by kernel_rfl) (by kernel_rfl) (fun _ _ _ h => h) (Or.inl ⟨by rfl, ?_⟩) hHeld ?_
              rotate_left
              next => (intro w hSw; (try dsimp only at hSw); go_simp; try with_reducible rfl)
              try simp only [Act.put, List.setIfInBounds_toArray, List.set_cons_zero, List.set_cons_succ]
              refine take_at (i := 2) (oi := _) (d := some 62) (v := ?_) rfl rfl (by kernel_rfl) (by kernel_rfl) (by kernel_rfl) (fun _ _ _ h => h) (Or.inl ⟨by rfl, ?_⟩) hHeld ?_
              rotate_left
              next => (intro w hSw; (try dsimp only at hSw); go_simp; try with_reducible rfl)
              try simp only [Act.put, List.setIfInBounds_toArray, List.set_cons_zero, List.set_cons_succ]
              refine take_at (i := 3) (oi := _) (d := some 63) (v := ?_) rfl rfl (by kernel_rfl) (by kernel_rfl) (by kernel_rfl) (fun _ _ _ h => h) (Or.inl ⟨by rfl, ?_⟩) hHeld ?_
              rotate_left
              next => (intro w hSw; (try dsimp only at hSw); go_simp; try with_reducible rfl)
              try simp only [Act.put, List.setIfInBounds_toArray, List.set_cons_zero, List.set_cons_succ]
              refine take_at (i := 4) (oi := _) (d := some 64) (v := ?_) rfl rfl (by kernel_rfl) (by kernel_rfl) (by kernel_rfl) (fun _ _ _ h => h) (Or.inl ⟨by rfl, ?_⟩) hHeld ?_
              rotate_left
              next => (intro w hSw; (try dsimp only at hSw); go_simp; try with_reducible rfl)
              try simp only [Act.put, List.setIfInBounds_toArray, List.set_cons_zero, List.set_cons_succ]
              refine take_at (i := 5) (oi := _) (d := some 65) (v := ?_) rfl rfl (by kernel_rfl) (by kernel_rfl) (by kernel_rfl) (fun _ _ _ h => h) (Or.inl ⟨by rfl, ?_⟩) hHeld ?_
              rotate_left
              next => (intro w hSw; (try dsimp only at hSw); go_simp; try with_reducible rfl)
              try simp only [Act.put, List.setIfInBounds_toArray, List.set_cons_zero, List.set_cons_succ]
              refine take_at (i := 6) (oi := _) (d := some 66) (v := ?_) rfl rfl (by kernel_rfl) (by kernel_rfl) (by kernel_rfl) (fun _ _ _ h => h) (Or.inl ⟨by rfl, ?_⟩) hHeld ?_
              rotate_left
              next => (intro w hSw; (try dsimp only at hSw); go_simp; try with_reducible rfl)
              try simp only [Act.put, List.setIfInBounds_toArray, List.set_cons_zero, List.set_cons_succ]
              refine take_at (i := 7) (oi := _) (d := some 67) (v := ?_) rfl rfl (by kernel_rfl) (by kernel_rfl) (by kernel_rfl) (fun _ _ _ h => h) (Or.inl ⟨by rfl, ?_⟩) hHeld ?_
              rotate_left
              next => (intro w hSw; (try dsimp only at hSw); go_simp; try with_reducible rfl)
              try simp only [Act.put, List.setIfInBounds_toArray, List.set_cons_zero, List.set_cons_succ]
              refine take_at (i := 8) (oi := _) (d := some 68) (v := ?_) rfl rfl (by kernel_rfl) (by kernel_rfl) (by kernel_rfl) (fun _ _ _ h => h) (Or.inl ⟨by rfl, ?_⟩) hHeld ?_
              rotate_left
              next => (intro w hSw; (try dsimp only at hSw); go_simp; try with_reducible rfl)
              try simp only [Act.put, List.setIfInBounds_toArray, List.set_cons_zero, List.set_cons_succ]
              refine take_at (i := 9) (oi := _) (d := some 69) (v := ?_) rfl rfl (by kernel_rfl) (by kernel_rfl) (by kernel_rfl) (fun _ _ _ h => h) (Or.inl ⟨by rfl, ?_⟩) hHeld ?_
              rotate_left
              next => (intro w hSw; (try dsimp only at hSw); go_simp; try with_reducible rfl)
              try simp only [Act.put, List.setIfInBounds_toArray, List.set_cons_zero, List.set_cons_succ]
              refine take_at (i := 10) (oi := _) (d := some 70) (v := ?_) rfl rfl (by kernel_rfl) (by kernel_rfl) (by kernel_rfl) (fun _ _ _ h => h) (Or.inl ⟨by rfl, ?_⟩) hHeld ?_
              rotate_left
              next => (intro w hSw; (try dsimp only at hSw); go_simp; try with_reducible rfl)
              try simp only [Act.put, List.setIfInBounds_toArray, List.set_cons_zero, List.set_cons_succ]
              refine take_at (i := 11) (oi := _) (d := some 71) (v := ?_) rfl rfl (by kernel_rfl) (by kernel_rfl) (by kernel_rfl) (fun _ _ _ h => h) (Or.inl ⟨by rfl, ?_⟩) hHeld ?_
              rotate_left
              next => (intro w hSw; (try dsimp only at hSw); go_simp; try with_reducible rfl)
              try simp only [Act.put, List.setIfInBounds_toArray, List.set_cons_zero, List.set_cons_succ]
              refine wpAnyH_ready (rs := [12]) (by kernel_rfl) (by simp) (AllReadyH.cons (o := _) rfl (fun K hK => ?_) AllReadyH.nil)
              go_simp
              go_at_call 16
              refine (HF.out _).mono ?_
              rintro e w' ⟨rfl, hb⟩
              refine hK.out _ _ (held_call hHeld hb) (fun hHeld => ?_)
              clear hK K hb
              try simp only [Act.put, List.setIfInBounds_toArray, List.set_cons_zero, List.set_cons_succ]
              refine take_at (i := 13) (oi := _) (d := some 59) (v := ?_) rfl rfl (by kernel_rfl) (by kernel_rfl) (by kernel_rfl) (fun _ _ _ h => h) (Or.inl ⟨by rfl, ?_⟩) hHeld ?_
              rotate_left
              next => (intro w hSw; (try dsimp only at hSw); go_simp; try with_reducible rfl)
              try simp only [Act.put, List.setIfInBounds_toArray, List.set_cons_zero, List.set_cons_succ]
              refine take_at (i := 14) (oi := _) (d := some 73) (v := ?_) rfl rfl (by kernel_rfl) (by kernel_rfl) (by kernel_rfl) (fun _ _ _ h => h) (Or.inl ⟨by rfl, ?_⟩) hHeld ?_
              rotate_left
              next => (intro w hSw; (try dsimp only at hSw); go_simp; try with_reducible rfl)
              try simp only [Act.put, List.setIfInBounds_toArray, List.set_cons_zero, List.set_cons_succ]
              refine take_at (i := 15) (oi := _) (d := some 74) (v := ?_) rfl rfl (by kernel_rfl) (by kernel_rfl) (by kernel_rfl) (fun _ _ _ h => h) (Or.inl ⟨by rfl, ?_⟩) hHeld ?_
              rotate_left
              next => (intro w hSw; (try dsimp only at hSw); go_simp; try with_reducible rfl)
              try simp only [Act.put, List.setIfInBounds_toArray, List.set_cons_zero, List.set_cons_succ]
              refine take_at (i := 16) (oi := _) (d := some 11) (v := ?_) rfl rfl (by kernel_rfl) (by kernel_rfl) (by kernel_rfl) (fun _ _ _ h => h) (Or.inl ⟨by rfl, ?_⟩) hHeld ?_
              rotate_left
              next => (intro w hSw; (try dsimp only at hSw); go_simp; try with_reducible rfl)
              try simp only [Act.put, List.setIfInBounds_toArray, List.set_cons_zero, List.set_cons_succ]
              refine wpAnyH_done (by kernel_rfl) ?_ _
              obtain ⟨w9, rfl⟩ : ∃ x : World, x = w' := ⟨_, rfl⟩
              have HQ9 := Lib.hid (HQ8.out.trans hHeld.2)
              clear hHeld
              clear hsA hbA x0 x1 x2 x3 x4 x5 x6 x7 x8 x9 x10 x11 x12 x13 c0 c1 c2 c3 c4 c5 c6 c7 d0 d1 d2 d3 d4 d5 d6 d7
              obtain ⟨x0, x1, x2, x3, x4, x5, x6, x7, x8, x9, x10, x11, x12, x13⟩ : w9.cell? ⟨w.heap.size, 0, none⟩ = some (.int .i64 l0) ∧ w9.cell? ⟨w.heap.size, 1, none⟩ = some (.int .i64 l1) ∧ w9.cell? ⟨w.heap.size, 2, none⟩ = some (.int .i64 l2) ∧ w9.cell? ⟨w.heap.size, 3, none⟩ = some (.int .i64 l3) ∧ w9.cell? ⟨w.heap.size, 4, none⟩ = some (.int .i64 l4) ∧ w9.cell? ⟨w.heap.size, 5, none⟩ = some (.int .i64 l5) ∧ w9.cell? ⟨w.heap.size, 6, none⟩ = some (.int .i64 h0) ∧ w9.cell? ⟨w.heap.size, 7, none⟩ = some (.int .i64 h1) ∧ w9.cell? ⟨w.heap.size, 8, none⟩ = some (.int .i64 h2) ∧ w9.cell? ⟨w.heap.size, 9, none⟩ = some (.int .i64 h3) ∧ w9.cell? ⟨w.heap.size, 10, none⟩ = some (.int .i64 h4) ∧ w9.cell? ⟨w.heap.size, 11, none⟩ = some (.int .i64 h5) ∧ w9.cell? ⟨w.heap.size, 12, none⟩ = some (.int .i64 st) ∧ w9.cell? ⟨w.heap.size, 13, none⟩ = some (.int .i64 br) := boxKeep (HQ9.out) HZB.out HXB.out
              obtain ⟨c0, c1, c2, c3, c4, c5, c6, c7⟩ := RowsAt.eightAt (HA.out.keep (HGL.out.trans (HQ9.out))) hlt
              have hsA : w.heap.size < w9.heap.size := Nat.lt_of_lt_of_le HZB.out (HQ9.out).size
              have hbA : b < w9.heap.size := by omega
              obtain ⟨d0, d1, d2, d3, d4, d5, d6, d7⟩ := RowsAt.eightAt (HA.out.keep (HGL.out.trans (HQ9.out))) hpn
              go_upto_region 17 with fail
              go_quiet (fail)
              go_wp2_with fail
              go_ret2
              exact ⟨_, rfl, Or.inr ⟨j, hlt, HAL.out, HS.out, rfl⟩, HGL.out.trans (HQ9.out.trans ((Gr.refl _).drewN _))⟩
        · have hsv0 : brF f j = brP f j := by subst hp; simp only [brF, if_neg k4, brP]
          rw [hsv0] at hr1 hr2
          have HSV : Hid (brF f j = brP f j) := Lib.hid hsv0
          have d4 : decide (f p 1 < f j 0) = false := decide_eq_false k4
          clear hsj hsp k4 hp hsv0
          generalize brP f j = sv at *
          have hw1 : IntKind.i64.wrap (f j 1 - sv) = f j 1 - sv := IntWalk.i64_in _ ⟨by omega, by omega⟩
          clear hr1 hr2
          rcases tf (hasB ⟨l0, l1, l2, l3, l4, l5⟩ ⟨h0, h1, h2, h3, h4, h5⟩ ⟨f j 2, f j 3, f j 4, f j 5, f j 6, f j 7⟩) with q1 | q1
          · skip
            rcases tf (findsB st ⟨f p 2, f p 3, f p 4, f p 5, f p 6, f p 7⟩ ⟨f j 2, f j 3, f j 4, f j 5, f j 6, f j 7⟩) with q2 | q2
            · skip
              by_cases k5 : br < f j 1 - sv
              · have d5 : decide (br < f j 1 - sv) = true := decide_eq_true k5
                have HS : Hid (singB ⟨l0, l1, l2, l3, l4, l5⟩ ⟨h0, h1, h2, h3, h4, h5⟩ st br f j = false) := Lib.hid (by
                  have e := HSV.out; have z := HZJ.out; subst z
                  simp only [singB, atN]
                  rw [e]
                  rw [decide_eq_false (by omega), Bool.false_and])
                rw [q1] at hH
                have HH := Lib.hid hH
                clear hH
                rw [q2] at hF
                have HF := Lib.hid hF
                clear hF
                clear q1 q2 k5
                as_aux_lemma =>
                  obtain ⟨x0, x1, x2, x3, x4, x5, x6, x7, x8, x9, x10, x11, x12, x13⟩ : wp.cell? ⟨w.heap.size, 0, none⟩ = some (.int .i64 l0) ∧ wp.cell? ⟨w.heap.size, 1, none⟩ = some (.int .i64 l1) ∧ wp.cell? ⟨w.heap.size, 2, none⟩ = some (.int .i64 l2) ∧ wp.cell? ⟨w.heap.size, 3, none⟩ = some (.int .i64 l3) ∧ wp.cell? ⟨w.heap.size, 4, none⟩ = some (.int .i64 l4) ∧ wp.cell? ⟨w.heap.size, 5, none⟩ = some (.int .i64 l5) ∧ wp.cell? ⟨w.heap.size, 6, none⟩ = some (.int .i64 h0) ∧ wp.cell? ⟨w.heap.size, 7, none⟩ = some (.int .i64 h1) ∧ wp.cell? ⟨w.heap.size, 8, none⟩ = some (.int .i64 h2) ∧ wp.cell? ⟨w.heap.size, 9, none⟩ = some (.int .i64 h3) ∧ wp.cell? ⟨w.heap.size, 10, none⟩ = some (.int .i64 h4) ∧ wp.cell? ⟨w.heap.size, 11, none⟩ = some (.int .i64 h5) ∧ wp.cell? ⟨w.heap.size, 12, none⟩ = some (.int .i64 st) ∧ wp.cell? ⟨w.heap.size, 13, none⟩ = some (.int .i64 br) := boxKeep (HGW.out) HZB.out HXB.out
                  obtain ⟨c0, c1, c2, c3, c4, c5, c6, c7⟩ := RowsAt.eightAt (HA.out.keep (HGL.out.trans (HGW.out))) hlt
                  have hsA : w.heap.size < wp.heap.size := Nat.lt_of_lt_of_le HZB.out (HGW.out).size
                  have hbA : b < wp.heap.size := by omega
                  obtain ⟨d0, d1, d2, d3, d4, d5, d6, d7⟩ := RowsAt.eightAt (HA.out.keep (HGL.out.trans (HGW.out))) hpn
                  go_wp2_with fail
                  go_quiet (fail)
                  go_upto_region 13 with fail
                  have hq : Gr wL (wp.drewN nq) := HGW.out.trans ((Gr.refl _).drewN _)
                  generalize wp.drewN nq = wq at *
                  have HQ := Lib.hid hq
                  clear hq
                  clear hsA hbA x0 x1 x2 x3 x4 x5 x6 x7 x8 x9 x10 x11 x12 x13 c0 c1 c2 c3 c4 c5 c6 c7 d0 d1 d2 d3 d4 d5 d6 d7
                  obtain ⟨x0, x1, x2, x3, x4, x5, x6, x7, x8, x9, x10, x11, x12, x13⟩ : wq.cell? ⟨w.heap.size, 0, none⟩ = some (.int .i64 l0) ∧ wq.cell? ⟨w.heap.size, 1, none⟩ = some (.int .i64 l1) ∧ wq.cell? ⟨w.heap.size, 2, none⟩ = some (.int .i64 l2) ∧ wq.cell? ⟨w.heap.size, 3, none⟩ = some (.int .i64 l3) ∧ wq.cell? ⟨w.heap.size, 4, none⟩ = some (.int .i64 l4) ∧ wq.cell? ⟨w.heap.size, 5, none⟩ = some (.int .i64 l5) ∧ wq.cell? ⟨w.heap.size, 6, none⟩ = some (.int .i64 h0) ∧ wq.cell? ⟨w.heap.size, 7, none⟩ = some (.int .i64 h1) ∧ wq.cell? ⟨w.heap.size, 8, none⟩ = some (.int .i64 h2) ∧ wq.cell? ⟨w.heap.size, 9, none⟩ = some (.int .i64 h3) ∧ wq.cell? ⟨w.heap.size, 10, none⟩ = some (.int .i64 h4) ∧ wq.cell? ⟨w.heap.size, 11, none⟩ = some (.int .i64 h5) ∧ wq.cell? ⟨w.heap.size, 12, none⟩ = some (.int .i64 st) ∧ wq.cell? ⟨w.heap.size, 13, none⟩ = some (.int .i64 br) := boxKeep (HQ.out) HZB.out HXB.out
                  obtain ⟨c0, c1, c2, c3, c4, c5, c6, c7⟩ := RowsAt.eightAt (HA.out.keep (HGL.out.trans (HQ.out))) hlt
                  have hsA : w.heap.size < wq.heap.size := Nat.lt_of_lt_of_le HZB.out (HQ.out).size
                  have hbA : b < wq.heap.size := by omega
                  obtain ⟨d0, d1, d2, d3, d4, d5, d6, d7⟩ := RowsAt.eightAt (HA.out.keep (HGL.out.trans (HQ.out))) hpn
                  refine wp_region_held_drew (S := fun wx => (∀ b o, (⟨min (b + 1) wq.heap.size, 0, none⟩ : Addr) = ⟨b + 1, 0, none⟩ → wx.cell? ⟨b, o, none⟩ = wq.cell? ⟨b, o, none⟩) ∧ Gr wq wx) (by kernel_rfl) (held_drew wq) (fun hHeld => ?_)
                  refine take_at (i := 0) (oi := _) (d := some 48) (v := ?_) rfl rfl (by kernel_rfl) (by kernel_rfl) (by kernel_rfl) (fun _ _ _ h => h) (Or.inl ⟨by rfl, ?_⟩) hHeld ?_
                  rotate_left
                  next => (intro w hSw; (try dsimp only at hSw); go_simp; try with_reducible rfl)
                  try simp only [Act.put, List.setIfInBounds_toArray, List.set_cons_zero, List.set_cons_succ]
                  refine take_at (i := 1) (oi := _) (d := some 49) (v := ?_) rfl rfl (by kernel_rfl) (by kernel_rfl) (by kernel_rfl) (fun _ _ _ h => h) (Or.inl ⟨by rfl, ?_⟩) hHeld ?_
                  rotate_left
                  next => (intro w hSw; (try dsimp only at hSw); go_simp; try with_reducible rfl)
                  try simp only [Act.put, List.setIfInBounds_toArray, List.set_cons_zero, List.set_cons_succ]
                  refine take_at (i := 2) (oi := _) (d := some 50) (v := ?_) rfl rfl (by kernel_rfl) (by kernel_rfl) (by kernel_rfl) (fun _ _ _ h => h) (Or.inl ⟨by rfl, ?_⟩) hHeld ?_
                  rotate_left
                  next => (intro w hSw; (try dsimp only at hSw); go_simp; try with_reducible rfl)
                  try simp only [Act.put, List.setIfInBounds_toArray, List.set_cons_zero, List.set_cons_succ]
                  refine take_at (i := 3) (oi := _) (d := some 51) (v := ?_) rfl rfl (by kernel_rfl) (by kernel_rfl) (by kernel_rfl) (fun _ _ _ h => h) (Or.inl ⟨by rfl, ?_⟩) hHeld ?_
                  rotate_left
                  next => (intro w hSw; (try dsimp only at hSw); go_simp; try with_reducible rfl)
                  try simp only [Act.put, List.setIfInBounds_toArray, List.set_cons_zero, List.set_cons_succ]
                  refine take_at (i := 4) (oi := _) (d := some 52) (v := ?_) rfl rfl (by kernel_rfl) (by kernel_rfl) (by kernel_rfl) (fun _ _ _ h => h) (Or.inl ⟨by rfl, ?_⟩) hHeld ?_
                  rotate_left
                  next => (intro w hSw; (try dsimp only at hSw); go_simp; try with_reducible rfl)
                  try simp only [Act.put, List.setIfInBounds_toArray, List.set_cons_zero, List.set_cons_succ]
                  refine take_at (i := 5) (oi := _) (d := some 53) (v := ?_) rfl rfl (by kernel_rfl) (by kernel_rfl) (by kernel_rfl) (fun _ _ _ h => h) (Or.inl ⟨by rfl, ?_⟩) hHeld ?_
                  rotate_left
                  next => (intro w hSw; (try dsimp only at hSw); go_simp; try with_reducible rfl)
                  try simp only [Act.put, List.setIfInBounds_toArray, List.set_cons_zero, List.set_cons_succ]
                  refine wpAnyH_ready (rs := [6]) (by kernel_rfl) (by simp) (AllReadyH.cons (o := _) rfl (fun K hK => ?_) AllReadyH.nil)
                  go_simp
                  go_at_call 14
                  refine (HH.out _).mono ?_
                  rintro e w' ⟨rfl, hb⟩
                  refine hK.out _ _ (held_call hHeld hb) (fun hHeld => ?_)
                  clear hK K hb
                  try simp only [Act.put, List.setIfInBounds_toArray, List.set_cons_zero, List.set_cons_succ]
                  refine take_at (i := 7) (oi := _) (d := some 47) (v := ?_) rfl rfl (by kernel_rfl) (by kernel_rfl) (by kernel_rfl) (fun _ _ _ h => h) (Or.inl ⟨by rfl, ?_⟩) hHeld ?_
                  rotate_left
                  next => (intro w hSw; (try dsimp only at hSw); go_simp; try with_reducible rfl)
                  try simp only [Act.put, List.setIfInBounds_toArray, List.set_cons_zero, List.set_cons_succ]
                  refine take_at (i := 8) (oi := _) (d := some 55) (v := ?_) rfl rfl (by kernel_rfl) (by kernel_rfl) (by kernel_rfl) (fun _ _ _ h => h) (Or.inl ⟨by rfl, ?_⟩) hHeld ?_
                  rotate_left
                  next => (intro w hSw; (try dsimp only at hSw); go_simp; try with_reducible rfl)
                  try simp only [Act.put, List.setIfInBounds_toArray, List.set_cons_zero, List.set_cons_succ]
                  refine take_at (i := 9) (oi := _) (d := some 56) (v := ?_) rfl rfl (by kernel_rfl) (by kernel_rfl) (by kernel_rfl) (fun _ _ _ h => h) (Or.inl ⟨by rfl, ?_⟩) hHeld ?_
                  rotate_left
                  next => (intro w hSw; (try dsimp only at hSw); go_simp; try with_reducible rfl)
                  try simp only [Act.put, List.setIfInBounds_toArray, List.set_cons_zero, List.set_cons_succ]
                  refine take_at (i := 10) (oi := _) (d := some 9) (v := ?_) rfl rfl (by kernel_rfl) (by kernel_rfl) (by kernel_rfl) (fun _ _ _ h => h) (Or.inl ⟨by rfl, ?_⟩) hHeld ?_
                  rotate_left
                  next => (intro w hSw; (try dsimp only at hSw); go_simp; try with_reducible rfl)
                  try simp only [Act.put, List.setIfInBounds_toArray, List.set_cons_zero, List.set_cons_succ]
                  refine take_at (i := 11) (oi := _) (d := some 10) (v := ?_) rfl rfl (by kernel_rfl) (by kernel_rfl) (by kernel_rfl) (fun _ _ _ h => h) (Or.inl ⟨by rfl, ?_⟩) hHeld ?_
                  rotate_left
                  next => (intro w hSw; (try dsimp only at hSw); go_simp; try with_reducible rfl)
                  try simp only [Act.put, List.setIfInBounds_toArray, List.set_cons_zero, List.set_cons_succ]
                  refine wpAnyH_done (by kernel_rfl) ?_ _
                  obtain ⟨w8, rfl⟩ : ∃ x : World, x = w' := ⟨_, rfl⟩
                  have HQ8 := Lib.hid (HQ.out.trans hHeld.2)
                  clear hHeld
                  clear hsA hbA x0 x1 x2 x3 x4 x5 x6 x7 x8 x9 x10 x11 x12 x13 c0 c1 c2 c3 c4 c5 c6 c7 d0 d1 d2 d3 d4 d5 d6 d7
                  obtain ⟨x0, x1, x2, x3, x4, x5, x6, x7, x8, x9, x10, x11, x12, x13⟩ : w8.cell? ⟨w.heap.size, 0, none⟩ = some (.int .i64 l0) ∧ w8.cell? ⟨w.heap.size, 1, none⟩ = some (.int .i64 l1) ∧ w8.cell? ⟨w.heap.size, 2, none⟩ = some (.int .i64 l2) ∧ w8.cell? ⟨w.heap.size, 3, none⟩ = some (.int .i64 l3) ∧ w8.cell? ⟨w.heap.size, 4, none⟩ = some (.int .i64 l4) ∧ w8.cell? ⟨w.heap.size, 5, none⟩ = some (.int .i64 l5) ∧ w8.cell? ⟨w.heap.size, 6, none⟩ = some (.int .i64 h0) ∧ w8.cell? ⟨w.heap.size, 7, none⟩ = some (.int .i64 h1) ∧ w8.cell? ⟨w.heap.size, 8, none⟩ = some (.int .i64 h2) ∧ w8.cell? ⟨w.heap.size, 9, none⟩ = some (.int .i64 h3) ∧ w8.cell? ⟨w.heap.size, 10, none⟩ = some (.int .i64 h4) ∧ w8.cell? ⟨w.heap.size, 11, none⟩ = some (.int .i64 h5) ∧ w8.cell? ⟨w.heap.size, 12, none⟩ = some (.int .i64 st) ∧ w8.cell? ⟨w.heap.size, 13, none⟩ = some (.int .i64 br) := boxKeep (HQ8.out) HZB.out HXB.out
                  obtain ⟨c0, c1, c2, c3, c4, c5, c6, c7⟩ := RowsAt.eightAt (HA.out.keep (HGL.out.trans (HQ8.out))) hlt
                  have hsA : w.heap.size < w8.heap.size := Nat.lt_of_lt_of_le HZB.out (HQ8.out).size
                  have hbA : b < w8.heap.size := by omega
                  obtain ⟨d0, d1, d2, d3, d4, d5, d6, d7⟩ := RowsAt.eightAt (HA.out.keep (HGL.out.trans (HQ8.out))) hpn
                  go_upto_region 16 with fail
                  refine wp_region_held_drew (S := fun wx => (∀ b o, (⟨min (b + 1) w8.heap.size, 0, none⟩ : Addr) = ⟨b + 1, 0, none⟩ → wx.cell? ⟨b, o, none⟩ = w8.cell? ⟨b, o, none⟩) ∧ Gr w8 wx) (by kernel_rfl) (held_drew w8) (fun hHeld => ?_)
                  refine take_at (i := 0) (oi := _) (d := some 60) (v := ?_) rfl rfl (by kernel_rfl) (by kernel_rfl) (by kernel_rfl) (fun _ _ _ h => h) (Or.inl ⟨by rfl, ?_⟩) hHeld ?_
                  rotate_left
                  next => (intro w hSw; (try dsimp only at hSw); go_simp; try with_reducible rfl)
                  try simp only [Act.put, List.setIfInBounds_toArray, List.set_cons_zero, List.set_cons_succ]
                  refine take_at (i := 1) (oi := _) (d := some 61) (v := ?_) rfl rfl (by kernel_rfl) (by kernel_rfl) (by kernel_rfl) (fun _ _ _ h => h) (Or.inl ⟨by rfl, ?_⟩) hHeld ?_
                  rotate_left
                  next => (intro w hSw; (try dsimp only at hSw); go_simp; try with_reducible rfl)
                  try simp only [Act.put, List.setIfInBounds_toArray, List.set_cons_zero, List.set_cons_succ]
                  refine take_at (i := 2) (oi := _) (d := some 62) (v := ?_) rfl rfl (by kernel_rfl) (by kernel_rfl) (by kernel_rfl) (fun _ _ _ h => h) (Or.inl ⟨by rfl, ?_⟩) hHeld ?_
                  rotate_left
                  next => (intro w hSw; (try dsimp only at hSw); go_simp; try with_reducible rfl)
                  try simp only [Act.put, List.setIfInBounds_toArray, List.set_cons_zero, List.set_cons_succ]
                  refine take_at (i := 3) (oi := _) (d := some 63) (v := ?_) rfl rfl (by kernel_rfl) (by kernel_rfl) (by kernel_rfl) (fun _ _ _ h => h) (Or.inl ⟨by rfl, ?_⟩) hHeld ?_
                  rotate_left
                  next => (intro w hSw; (try dsimp only at hSw); go_simp; try with_reducible rfl)
                  try simp only [Act.put, List.setIfInBounds_toArray, List.set_cons_zero, List.set_cons_succ]
                  refine take_at (i := 4) (oi := _) (d := some 64) (v := ?_) rfl rfl (by kernel_rfl) (by kernel_rfl) (by kernel_rfl) (fun _ _ _ h => h) (Or.inl ⟨by rfl, ?_⟩) hHeld ?_
                  rotate_left
                  next => (intro w hSw; (try dsimp only at hSw); go_simp; try with_reducible rfl)
                  try simp only [Act.put, List.setIfInBounds_toArray, List.set_cons_zero, List.set_cons_succ]
                  refine take_at (i := 5) (oi := _) (d := some 65) (v := ?_) rfl rfl (by kernel_rfl) (by kernel_rfl) (by kernel_rfl) (fun _ _ _ h => h) (Or.inl ⟨by rfl, ?_⟩) hHeld ?_
                  rotate_left
                  next => (intro w hSw; (try dsimp only at hSw); go_simp; try with_reducible rfl)
                  try simp only [Act.put, List.setIfInBounds_toArray, List.set_cons_zero, List.set_cons_succ]
                  refine take_at (i := 6) (oi := _) (d := some 66) (v := ?_) rfl rfl (by kernel_rfl) (by kernel_rfl) (by kernel_rfl) (fun _ _ _ h => h) (Or.inl ⟨by rfl, ?_⟩) hHeld ?_
                  rotate_left
                  next => (intro w hSw; (try dsimp only at hSw); go_simp; try with_reducible rfl)
                  try simp only [Act.put, List.setIfInBounds_toArray, List.set_cons_zero, List.set_cons_succ]
                  refine take_at (i := 7) (oi := _) (d := some 67) (v := ?_) rfl rfl (by kernel_rfl) (by kernel_rfl) (by kernel_rfl) (fun _ _ _ h => h) (Or.inl ⟨by rfl, ?_⟩) hHeld ?_
                  rotate_left
                  next => (intro w hSw; (try dsimp only at hSw); go_simp; try with_reducible rfl)
                  try simp only [Act.put, List.setIfInBounds_toArray, List.set_cons_zero, List.set_cons_succ]
                  refine take_at (i := 8) (oi := _) (d := some 68) (v := ?_) rfl rfl (by kernel_rfl) (by kernel_rfl) (by kernel_rfl) (fun _ _ _ h => h) (Or.inl ⟨by rfl, ?_⟩) hHeld ?_
                  rotate_left
                  next => (intro w hSw; (try dsimp only at hSw); go_simp; try with_reducible rfl)
                  try simp only [Act.put, List.setIfInBounds_toArray, List.set_cons_zero, List.set_cons_succ]
                  refine take_at (i := 9) (oi := _) (d := some 69) (v := ?_) rfl rfl (by kernel_rfl) (by kernel_rfl) (by kernel_rfl) (fun _ _ _ h => h) (Or.inl ⟨by rfl, ?_⟩) hHeld ?_
                  rotate_left
                  next => (intro w hSw; (try dsimp only at hSw); go_simp; try with_reducible rfl)
                  try simp only [Act.put, List.setIfInBounds_toArray, List.set_cons_zero, List.set_cons_succ]
                  refine take_at (i := 10) (oi := _) (d := some 70) (v := ?_) rfl rfl (by kernel_rfl) (by kernel_rfl) (by kernel_rfl) (fun _ _ _ h => h) (Or.inl ⟨by rfl, ?_⟩) hHeld ?_
                  rotate_left
                  next => (intro w hSw; (try dsimp only at hSw); go_simp; try with_reducible rfl)
                  try simp only [Act.put, List.setIfInBounds_toArray, List.set_cons_zero, List.set_cons_succ]
                  refine take_at (i := 11) (oi := _) (d := some 71) (v := ?_) rfl rfl (by kernel_rfl) (by kernel_rfl) (by kernel_rfl) (fun _ _ _ h => h) (Or.inl ⟨by rfl, ?_⟩) hHeld ?_
                  rotate_left
                  next => (intro w hSw; (try dsimp only at hSw); go_simp; try with_reducible rfl)
                  try simp only [Act.put, List.setIfInBounds_toArray, List.set_cons_zero, List.set_cons_succ]
                  refine wpAnyH_ready (rs := [12]) (by kernel_rfl) (by simp) (AllReadyH.cons (o := _) rfl (fun K hK => ?_) AllReadyH.nil)
                  go_simp
                  go_at_call 16
                  refine (HF.out _).mono ?_
                  rintro e w' ⟨rfl, hb⟩
                  refine hK.out _ _ (held_call hHeld hb) (fun hHeld => ?_)
                  clear hK K hb
                  try simp only [Act.put, List.setIfInBounds_toArray, List.set_cons_zero, List.set_cons_succ]
                  refine take_at (i := 13) (oi := _) (d := some 59) (v := ?_) rfl rfl (by kernel_rfl) (by kernel_rfl) (by kernel_rfl) (fun _ _ _ h => h) (Or.inl ⟨by rfl, ?_⟩) hHeld ?_
                  rotate_left
                  next => (intro w hSw; (try dsimp only at hSw); go_simp; try with_reducible rfl)
                  try simp only [Act.put, List.setIfInBounds_toArray, List.set_cons_zero, List.set_cons_succ]
                  refine take_at (i := 14) (oi := _) (d := some 73) (v := ?_) rfl rfl (by kernel_rfl) (by kernel_rfl) (by kernel_rfl) (fun _ _ _ h => h) (Or.inl ⟨by rfl, ?_⟩) hHeld ?_
                  rotate_left
                  next => (intro w hSw; (try dsimp only at hSw); go_simp; try with_reducible rfl)
                  try simp only [Act.put, List.setIfInBounds_toArray, List.set_cons_zero, List.set_cons_succ]
                  refine take_at (i := 15) (oi := _) (d := some 74) (v := ?_) rfl rfl (by kernel_rfl) (by kernel_rfl) (by kernel_rfl) (fun _ _ _ h => h) (Or.inl ⟨by rfl, ?_⟩) hHeld ?_
                  rotate_left
                  next => (intro w hSw; (try dsimp only at hSw); go_simp; try with_reducible rfl)
                  try simp only [Act.put, List.setIfInBounds_toArray, List.set_cons_zero, List.set_cons_succ]
                  refine take_at (i := 16) (oi := _) (d := some 11) (v := ?_) rfl rfl (by kernel_rfl) (by kernel_rfl) (by kernel_rfl) (fun _ _ _ h => h) (Or.inl ⟨by rfl, ?_⟩) hHeld ?_
                  rotate_left
                  next => (intro w hSw; (try dsimp only at hSw); go_simp; try with_reducible rfl)
                  try simp only [Act.put, List.setIfInBounds_toArray, List.set_cons_zero, List.set_cons_succ]
                  refine wpAnyH_done (by kernel_rfl) ?_ _
                  obtain ⟨w9, rfl⟩ : ∃ x : World, x = w' := ⟨_, rfl⟩
                  have HQ9 := Lib.hid (HQ8.out.trans hHeld.2)
                  clear hHeld
                  clear hsA hbA x0 x1 x2 x3 x4 x5 x6 x7 x8 x9 x10 x11 x12 x13 c0 c1 c2 c3 c4 c5 c6 c7 d0 d1 d2 d3 d4 d5 d6 d7
                  obtain ⟨x0, x1, x2, x3, x4, x5, x6, x7, x8, x9, x10, x11, x12, x13⟩ : w9.cell? ⟨w.heap.size, 0, none⟩ = some (.int .i64 l0) ∧ w9.cell? ⟨w.heap.size, 1, none⟩ = some (.int .i64 l1) ∧ w9.cell? ⟨w.heap.size, 2, none⟩ = some (.int .i64 l2) ∧ w9.cell? ⟨w.heap.size, 3, none⟩ = some (.int .i64 l3) ∧ w9.cell? ⟨w.heap.size, 4, none⟩ = some (.int .i64 l4) ∧ w9.cell? ⟨w.heap.size, 5, none⟩ = some (.int .i64 l5) ∧ w9.cell? ⟨w.heap.size, 6, none⟩ = some (.int .i64 h0) ∧ w9.cell? ⟨w.heap.size, 7, none⟩ = some (.int .i64 h1) ∧ w9.cell? ⟨w.heap.size, 8, none⟩ = some (.int .i64 h2) ∧ w9.cell? ⟨w.heap.size, 9, none⟩ = some (.int .i64 h3) ∧ w9.cell? ⟨w.heap.size, 10, none⟩ = some (.int .i64 h4) ∧ w9.cell? ⟨w.heap.size, 11, none⟩ = some (.int .i64 h5) ∧ w9.cell? ⟨w.heap.size, 12, none⟩ = some (.int .i64 st) ∧ w9.cell? ⟨w.heap.size, 13, none⟩ = some (.int .i64 br) := boxKeep (HQ9.out) HZB.out HXB.out
                  obtain ⟨c0, c1, c2, c3, c4, c5, c6, c7⟩ := RowsAt.eightAt (HA.out.keep (HGL.out.trans (HQ9.out))) hlt
                  have hsA : w.heap.size < w9.heap.size := Nat.lt_of_lt_of_le HZB.out (HQ9.out).size
                  have hbA : b < w9.heap.size := by omega
                  obtain ⟨d0, d1, d2, d3, d4, d5, d6, d7⟩ := RowsAt.eightAt (HA.out.keep (HGL.out.trans (HQ9.out))) hpn
                  go_upto_region 17 with fail
                  go_quiet (fail)
                  go_wp2_with fail
                  go_ret2
                  exact ⟨_, rfl, Or.inr ⟨j, hlt, HAL.out, HS.out, rfl⟩, HGL.out.trans (HQ9.out.trans ((Gr.refl _).drewN _))⟩
              · have d5 : decide (br < f j 1 - sv) = false := decide_eq_false k5
                have HS : Hid (singB ⟨l0, l1, l2, l3, l4, l5⟩ ⟨h0, h1, h2, h3, h4, h5⟩ st br f j = true) := Lib.hid (by
                  have e := HSV.out; have z := HZJ.out; subst z
                  simp only [singB, atN]
                  rw [e]
                  rw [q1, q2, decide_eq_true (by omega)]; rfl)
                have HS1 := HS
                have HS : Hid (singAll ⟨l0, l1, l2, l3, l4, l5⟩ ⟨h0, h1, h2, h3, h4, h5⟩ st br f (j + 1) = true) := Lib.hid (by simp only [singAll, HAL.out, HS1.out, Bool.and_self])
                clear HS1
                rw [q1] at hH
                have HH := Lib.hid hH
                clear hH
                rw [q2] at hF
                have HF := Lib.hid hF
                clear hF
                clear q1 q2 k5
                as_aux_lemma =>
                  obtain ⟨x0, x1, x2, x3, x4, x5, x6, x7, x8, x9, x10, x11, x12, x13⟩ : wp.cell? ⟨w.heap.size, 0, none⟩ = some (.int .i64 l0) ∧ wp.cell? ⟨w.heap.size, 1, none⟩ = some (.int .i64 l1) ∧ wp.cell? ⟨w.heap.size, 2, none⟩ = some (.int .i64 l2) ∧ wp.cell? ⟨w.heap.size, 3, none⟩ = some (.int .i64 l3) ∧ wp.cell? ⟨w.heap.size, 4, none⟩ = some (.int .i64 l4) ∧ wp.cell? ⟨w.heap.size, 5, none⟩ = some (.int .i64 l5) ∧ wp.cell? ⟨w.heap.size, 6, none⟩ = some (.int .i64 h0) ∧ wp.cell? ⟨w.heap.size, 7, none⟩ = some (.int .i64 h1) ∧ wp.cell? ⟨w.heap.size, 8, none⟩ = some (.int .i64 h2) ∧ wp.cell? ⟨w.heap.size, 9, none⟩ = some (.int .i64 h3) ∧ wp.cell? ⟨w.heap.size, 10, none⟩ = some (.int .i64 h4) ∧ wp.cell? ⟨w.heap.size, 11, none⟩ = some (.int .i64 h5) ∧ wp.cell? ⟨w.heap.size, 12, none⟩ = some (.int .i64 st) ∧ wp.cell? ⟨w.heap.size, 13, none⟩ = some (.int .i64 br) := boxKeep (HGW.out) HZB.out HXB.out
                  obtain ⟨c0, c1, c2, c3, c4, c5, c6, c7⟩ := RowsAt.eightAt (HA.out.keep (HGL.out.trans (HGW.out))) hlt
                  have hsA : w.heap.size < wp.heap.size := Nat.lt_of_lt_of_le HZB.out (HGW.out).size
                  have hbA : b < wp.heap.size := by omega
                  obtain ⟨d0, d1, d2, d3, d4, d5, d6, d7⟩ := RowsAt.eightAt (HA.out.keep (HGL.out.trans (HGW.out))) hpn
                  go_wp2_with fail
                  go_quiet (fail)
                  go_upto_region 13 with fail
                  have hq : Gr wL (wp.drewN nq) := HGW.out.trans ((Gr.refl _).drewN _)
                  generalize wp.drewN nq = wq at *
                  have HQ := Lib.hid hq
                  clear hq
                  clear hsA hbA x0 x1 x2 x3 x4 x5 x6 x7 x8 x9 x10 x11 x12 x13 c0 c1 c2 c3 c4 c5 c6 c7 d0 d1 d2 d3 d4 d5 d6 d7
                  obtain ⟨x0, x1, x2, x3, x4, x5, x6, x7, x8, x9, x10, x11, x12, x13⟩ : wq.cell? ⟨w.heap.size, 0, none⟩ = some (.int .i64 l0) ∧ wq.cell? ⟨w.heap.size, 1, none⟩ = some (.int .i64 l1) ∧ wq.cell? ⟨w.heap.size, 2, none⟩ = some (.int .i64 l2) ∧ wq.cell? ⟨w.heap.size, 3, none⟩ = some (.int .i64 l3) ∧ wq.cell? ⟨w.heap.size, 4, none⟩ = some (.int .i64 l4) ∧ wq.cell? ⟨w.heap.size, 5, none⟩ = some (.int .i64 l5) ∧ wq.cell? ⟨w.heap.size, 6, none⟩ = some (.int .i64 h0) ∧ wq.cell? ⟨w.heap.size, 7, none⟩ = some (.int .i64 h1) ∧ wq.cell? ⟨w.heap.size, 8, none⟩ = some (.int .i64 h2) ∧ wq.cell? ⟨w.heap.size, 9, none⟩ = some (.int .i64 h3) ∧ wq.cell? ⟨w.heap.size, 10, none⟩ = some (.int .i64 h4) ∧ wq.cell? ⟨w.heap.size, 11, none⟩ = some (.int .i64 h5) ∧ wq.cell? ⟨w.heap.size, 12, none⟩ = some (.int .i64 st) ∧ wq.cell? ⟨w.heap.size, 13, none⟩ = some (.int .i64 br) := boxKeep (HQ.out) HZB.out HXB.out
                  obtain ⟨c0, c1, c2, c3, c4, c5, c6, c7⟩ := RowsAt.eightAt (HA.out.keep (HGL.out.trans (HQ.out))) hlt
                  have hsA : w.heap.size < wq.heap.size := Nat.lt_of_lt_of_le HZB.out (HQ.out).size
                  have hbA : b < wq.heap.size := by omega
                  obtain ⟨d0, d1, d2, d3, d4, d5, d6, d7⟩ := RowsAt.eightAt (HA.out.keep (HGL.out.trans (HQ.out))) hpn
                  refine wp_region_held_drew (S := fun wx => (∀ b o, (⟨min (b + 1) wq.heap.size, 0, none⟩ : Addr) = ⟨b + 1, 0, none⟩ → wx.cell? ⟨b, o, none⟩ = wq.cell? ⟨b, o, none⟩) ∧ Gr wq wx) (by kernel_rfl) (held_drew wq) (fun hHeld => ?_)
                  refine take_at (i := 0) (oi := _) (d := some 48) (v := ?_) rfl rfl (by kernel_rfl) (by kernel_rfl) (by kernel_rfl) (fun _ _ _ h => h) (Or.inl ⟨by rfl, ?_⟩) hHeld ?_
                  rotate_left
                  next => (intro w hSw; (try dsimp only at hSw); go_simp; try with_reducible rfl)
                  try simp only [Act.put, List.setIfInBounds_toArray, List.set_cons_zero, List.set_cons_succ]
                  refine take_at (i := 1) (oi := _) (d := some 49) (v := ?_) rfl rfl (by kernel_rfl) (by kernel_rfl) (by kernel_rfl) (fun _ _ _ h => h) (Or.inl ⟨by rfl, ?_⟩) hHeld ?_
                  rotate_left
                  next => (intro w hSw; (try dsimp only at hSw); go_simp; try with_reducible rfl)
                  try simp only [Act.put, List.setIfInBounds_toArray, List.set_cons_zero, List.set_cons_succ]
                  refine take_at (i := 2) (oi := _) (d := some 50) (v := ?_) rfl rfl (by kernel_rfl) (by kernel_rfl) (by kernel_rfl) (fun _ _ _ h => h) (Or.inl ⟨by rfl, ?_⟩) hHeld ?_
                  rotate_left
                  next => (intro w hSw; (try dsimp only at hSw); go_simp; try with_reducible rfl)
                  try simp only [Act.put, List.setIfInBounds_toArray, List.set_cons_zero, List.set_cons_succ]
                  refine take_at (i := 3) (oi := _) (d := some 51) (v := ?_) rfl rfl (by kernel_rfl) (by kernel_rfl) (by kernel_rfl) (fun _ _ _ h => h) (Or.inl ⟨by rfl, ?_⟩) hHeld ?_
                  rotate_left
                  next => (intro w hSw; (try dsimp only at hSw); go_simp; try with_reducible rfl)
                  try simp only [Act.put, List.setIfInBounds_toArray, List.set_cons_zero, List.set_cons_succ]
                  refine take_at (i := 4) (oi := _) (d := some 52) (v := ?_) rfl rfl (by kernel_rfl) (by kernel_rfl) (by kernel_rfl) (fun _ _ _ h => h) (Or.inl ⟨by rfl, ?_⟩) hHeld ?_
                  rotate_left
                  next => (intro w hSw; (try dsimp only at hSw); go_simp; try with_reducible rfl)
                  try simp only [Act.put, List.setIfInBounds_toArray, List.set_cons_zero, List.set_cons_succ]
                  refine take_at (i := 5) (oi := _) (d := some 53) (v := ?_) rfl rfl (by kernel_rfl) (by kernel_rfl) (by kernel_rfl) (fun _ _ _ h => h) (Or.inl ⟨by rfl, ?_⟩) hHeld ?_
                  rotate_left
                  next => (intro w hSw; (try dsimp only at hSw); go_simp; try with_reducible rfl)
                  try simp only [Act.put, List.setIfInBounds_toArray, List.set_cons_zero, List.set_cons_succ]
                  refine wpAnyH_ready (rs := [6]) (by kernel_rfl) (by simp) (AllReadyH.cons (o := _) rfl (fun K hK => ?_) AllReadyH.nil)
                  go_simp
                  go_at_call 14
                  refine (HH.out _).mono ?_
                  rintro e w' ⟨rfl, hb⟩
                  refine hK.out _ _ (held_call hHeld hb) (fun hHeld => ?_)
                  clear hK K hb
                  try simp only [Act.put, List.setIfInBounds_toArray, List.set_cons_zero, List.set_cons_succ]
                  refine take_at (i := 7) (oi := _) (d := some 47) (v := ?_) rfl rfl (by kernel_rfl) (by kernel_rfl) (by kernel_rfl) (fun _ _ _ h => h) (Or.inl ⟨by rfl, ?_⟩) hHeld ?_
                  rotate_left
                  next => (intro w hSw; (try dsimp only at hSw); go_simp; try with_reducible rfl)
                  try simp only [Act.put, List.setIfInBounds_toArray, List.set_cons_zero, List.set_cons_succ]
                  refine take_at (i := 8) (oi := _) (d := some 55) (v := ?_) rfl rfl (by kernel_rfl) (by kernel_rfl) (by kernel_rfl) (fun _ _ _ h => h) (Or.inl ⟨by rfl, ?_⟩) hHeld ?_
                  rotate_left
                  next => (intro w hSw; (try dsimp only at hSw); go_simp; try with_reducible rfl)
                  try simp only [Act.put, List.setIfInBounds_toArray, List.set_cons_zero, List.set_cons_succ]
                  refine take_at (i := 9) (oi := _) (d := some 56) (v := ?_) rfl rfl (by kernel_rfl) (by kernel_rfl) (by kernel_rfl) (fun _ _ _ h => h) (Or.inl ⟨by rfl, ?_⟩) hHeld ?_
                  rotate_left
                  next => (intro w hSw; (try dsimp only at hSw); go_simp; try with_reducible rfl)
                  try simp only [Act.put, List.setIfInBounds_toArray, List.set_cons_zero, List.set_cons_succ]
                  refine take_at (i := 10) (oi := _) (d := some 9) (v := ?_) rfl rfl (by kernel_rfl) (by kernel_rfl) (by kernel_rfl) (fun _ _ _ h => h) (Or.inl ⟨by rfl, ?_⟩) hHeld ?_
                  rotate_left
                  next => (intro w hSw; (try dsimp only at hSw); go_simp; try with_reducible rfl)
                  try simp only [Act.put, List.setIfInBounds_toArray, List.set_cons_zero, List.set_cons_succ]
                  refine take_at (i := 11) (oi := _) (d := some 10) (v := ?_) rfl rfl (by kernel_rfl) (by kernel_rfl) (by kernel_rfl) (fun _ _ _ h => h) (Or.inl ⟨by rfl, ?_⟩) hHeld ?_
                  rotate_left
                  next => (intro w hSw; (try dsimp only at hSw); go_simp; try with_reducible rfl)
                  try simp only [Act.put, List.setIfInBounds_toArray, List.set_cons_zero, List.set_cons_succ]
                  refine wpAnyH_done (by kernel_rfl) ?_ _
                  obtain ⟨w8, rfl⟩ : ∃ x : World, x = w' := ⟨_, rfl⟩
                  have HQ8 := Lib.hid (HQ.out.trans hHeld.2)
                  clear hHeld
                  clear hsA hbA x0 x1 x2 x3 x4 x5 x6 x7 x8 x9 x10 x11 x12 x13 c0 c1 c2 c3 c4 c5 c6 c7 d0 d1 d2 d3 d4 d5 d6 d7
                  obtain ⟨x0, x1, x2, x3, x4, x5, x6, x7, x8, x9, x10, x11, x12, x13⟩ : w8.cell? ⟨w.heap.size, 0, none⟩ = some (.int .i64 l0) ∧ w8.cell? ⟨w.heap.size, 1, none⟩ = some (.int .i64 l1) ∧ w8.cell? ⟨w.heap.size, 2, none⟩ = some (.int .i64 l2) ∧ w8.cell? ⟨w.heap.size, 3, none⟩ = some (.int .i64 l3) ∧ w8.cell? ⟨w.heap.size, 4, none⟩ = some (.int .i64 l4) ∧ w8.cell? ⟨w.heap.size, 5, none⟩ = some (.int .i64 l5) ∧ w8.cell? ⟨w.heap.size, 6, none⟩ = some (.int .i64 h0) ∧ w8.cell? ⟨w.heap.size, 7, none⟩ = some (.int .i64 h1) ∧ w8.cell? ⟨w.heap.size, 8, none⟩ = some (.int .i64 h2) ∧ w8.cell? ⟨w.heap.size, 9, none⟩ = some (.int .i64 h3) ∧ w8.cell? ⟨w.heap.size, 10, none⟩ = some (.int .i64 h4) ∧ w8.cell? ⟨w.heap.size, 11, none⟩ = some (.int .i64 h5) ∧ w8.cell? ⟨w.heap.size, 12, none⟩ = some (.int .i64 st) ∧ w8.cell? ⟨w.heap.size, 13, none⟩ = some (.int .i64 br) := boxKeep (HQ8.out) HZB.out HXB.out
                  obtain ⟨c0, c1, c2, c3, c4, c5, c6, c7⟩ := RowsAt.eightAt (HA.out.keep (HGL.out.trans (HQ8.out))) hlt
                  have hsA : w.heap.size < w8.heap.size := Nat.lt_of_lt_of_le HZB.out (HQ8.out).size
                  have hbA : b < w8.heap.size := by omega
                  obtain ⟨d0, d1, d2, d3, d4, d5, d6, d7⟩ := RowsAt.eightAt (HA.out.keep (HGL.out.trans (HQ8.out))) hpn
                  go_upto_region 16 with fail
                  refine wp_region_held_drew (S := fun wx => (∀ b o, (⟨min (b + 1) w8.heap.size, 0, none⟩ : Addr) = ⟨b + 1, 0, none⟩ → wx.cell? ⟨b, o, none⟩ = w8.cell? ⟨b, o, none⟩) ∧ Gr w8 wx) (by kernel_rfl) (held_drew w8) (fun hHeld => ?_)
                  refine take_at (i := 0) (oi := _) (d := some 60) (v := ?_) rfl rfl (by kernel_rfl) (by kernel_rfl) (by kernel_rfl) (fun _ _ _ h => h) (Or.inl ⟨by rfl, ?_⟩) hHeld ?_
                  rotate_left
                  next => (intro w hSw; (try dsimp only at hSw); go_simp; try with_reducible rfl)
                  try simp only [Act.put, List.setIfInBounds_toArray, List.set_cons_zero, List.set_cons_succ]
                  refine take_at (i := 1) (oi := _) (d := some 61) (v := ?_) rfl rfl (by kernel_rfl) (by kernel_rfl) (by kernel_rfl) (fun _ _ _ h => h) (Or.inl ⟨by rfl, ?_⟩) hHeld ?_
                  rotate_left
                  next => (intro w hSw; (try dsimp only at hSw); go_simp; try with_reducible rfl)
                  try simp only [Act.put, List.setIfInBounds_toArray, List.set_cons_zero, List.set_cons_succ]
                  refine take_at (i := 2) (oi := _) (d := some 62) (v := ?_) rfl rfl (by kernel_rfl) (by kernel_rfl) (by kernel_rfl) (fun _ _ _ h => h) (Or.inl ⟨by rfl, ?_⟩) hHeld ?_
                  rotate_left
                  next => (intro w hSw; (try dsimp only at hSw); go_simp; try with_reducible rfl)
                  try simp only [Act.put, List.setIfInBounds_toArray, List.set_cons_zero, List.set_cons_succ]
                  refine take_at (i := 3) (oi := _) (d := some 63) (v := ?_) rfl rfl (by kernel_rfl) (by kernel_rfl) (by kernel_rfl) (fun _ _ _ h => h) (Or.inl ⟨by rfl, ?_⟩) hHeld ?_
                  rotate_left
                  next => (intro w hSw; (try dsimp only at hSw); go_simp; try with_reducible rfl)
                  try simp only [Act.put, List.setIfInBounds_toArray, List.set_cons_zero, List.set_cons_succ]
                  refine take_at (i := 4) (oi := _) (d := some 64) (v := ?_) rfl rfl (by kernel_rfl) (by kernel_rfl) (by kernel_rfl) (fun _ _ _ h => h) (Or.inl ⟨by rfl, ?_⟩) hHeld ?_
                  rotate_left
                  next => (intro w hSw; (try dsimp only at hSw); go_simp; try with_reducible rfl)
                  try simp only [Act.put, List.setIfInBounds_toArray, List.set_cons_zero, List.set_cons_succ]
                  refine take_at (i := 5) (oi := _) (d := some 65) (v := ?_) rfl rfl (by kernel_rfl) (by kernel_rfl) (by kernel_rfl) (fun _ _ _ h => h) (Or.inl ⟨by rfl, ?_⟩) hHeld ?_
                  rotate_left
                  next => (intro w hSw; (try dsimp only at hSw); go_simp; try with_reducible rfl)
                  try simp only [Act.put, List.setIfInBounds_toArray, List.set_cons_zero, List.set_cons_succ]
                  refine take_at (i := 6) (oi := _) (d := some 66) (v := ?_) rfl rfl (by kernel_rfl) (by kernel_rfl) (by kernel_rfl) (fun _ _ _ h => h) (Or.inl ⟨by rfl, ?_⟩) hHeld ?_
                  rotate_left
                  next => (intro w hSw; (try dsimp only at hSw); go_simp; try with_reducible rfl)
                  try simp only [Act.put, List.setIfInBounds_toArray, List.set_cons_zero, List.set_cons_succ]
                  refine take_at (i := 7) (oi := _) (d := some 67) (v := ?_) rfl rfl (by kernel_rfl) (by kernel_rfl) (by kernel_rfl) (fun _ _ _ h => h) (Or.inl ⟨by rfl, ?_⟩) hHeld ?_
                  rotate_left
                  next => (intro w hSw; (try dsimp only at hSw); go_simp; try with_reducible rfl)
                  try simp only [Act.put, List.setIfInBounds_toArray, List.set_cons_zero, List.set_cons_succ]
                  refine take_at (i := 8) (oi := _) (d := some 68) (v := ?_) rfl rfl (by kernel_rfl) (by kernel_rfl) (by kernel_rfl) (fun _ _ _ h => h) (Or.inl ⟨by rfl, ?_⟩) hHeld ?_
                  rotate_left
                  next => (intro w hSw; (try dsimp only at hSw); go_simp; try with_reducible rfl)
                  try simp only [Act.put, List.setIfInBounds_toArray, List.set_cons_zero, List.set_cons_succ]
                  refine take_at (i := 9) (oi := _) (d := some 69) (v := ?_) rfl rfl (by kernel_rfl) (by kernel_rfl) (by kernel_rfl) (fun _ _ _ h => h) (Or.inl ⟨by rfl, ?_⟩) hHeld ?_
                  rotate_left
                  next => (intro w hSw; (try dsimp only at hSw); go_simp; try with_reducible rfl)
                  try simp only [Act.put, List.setIfInBounds_toArray, List.set_cons_zero, List.set_cons_succ]
                  refine take_at (i := 10) (oi := _) (d := some 70) (v := ?_) rfl rfl (by kernel_rfl) (by kernel_rfl) (by kernel_rfl) (fun _ _ _ h => h) (Or.inl ⟨by rfl, ?_⟩) hHeld ?_
                  rotate_left
                  next => (intro w hSw; (try dsimp only at hSw); go_simp; try with_reducible rfl)
                  try simp only [Act.put, List.setIfInBounds_toArray, List.set_cons_zero, List.set_cons_succ]
                  refine take_at (i := 11) (oi := _) (d := some 71) (v := ?_) rfl rfl (by kernel_rfl) (by kernel_rfl) (by kernel_rfl) (fun _ _ _ h => h) (Or.inl ⟨by rfl, ?_⟩) hHeld ?_
                  rotate_left
                  next => (intro w hSw; (try dsimp only at hSw); go_simp; try with_reducible rfl)
                  try simp only [Act.put, List.setIfInBounds_toArray, List.set_cons_zero, List.set_cons_succ]
                  refine wpAnyH_ready (rs := [12]) (by kernel_rfl) (by simp) (AllReadyH.cons (o := _) rfl (fun K hK => ?_) AllReadyH.nil)
                  go_simp
                  go_at_call 16
                  refine (HF.out _).mono ?_
                  rintro e w' ⟨rfl, hb⟩
                  refine hK.out _ _ (held_call hHeld hb) (fun hHeld => ?_)
                  clear hK K hb
                  try simp only [Act.put, List.setIfInBounds_toArray, List.set_cons_zero, List.set_cons_succ]
                  refine take_at (i := 13) (oi := _) (d := some 59) (v := ?_) rfl rfl (by kernel_rfl) (by kernel_rfl) (by kernel_rfl) (fun _ _ _ h => h) (Or.inl ⟨by rfl, ?_⟩) hHeld ?_
                  rotate_left
                  next => (intro w hSw; (try dsimp only at hSw); go_simp; try with_reducible rfl)
                  try simp only [Act.put, List.setIfInBounds_toArray, List.set_cons_zero, List.set_cons_succ]
                  refine take_at (i := 14) (oi := _) (d := some 73) (v := ?_) rfl rfl (by kernel_rfl) (by kernel_rfl) (by kernel_rfl) (fun _ _ _ h => h) (Or.inl ⟨by rfl, ?_⟩) hHeld ?_
                  rotate_left
                  next => (intro w hSw; (try dsimp only at hSw); go_simp; try with_reducible rfl)
                  try simp only [Act.put, List.setIfInBounds_toArray, List.set_cons_zero, List.set_cons_succ]
                  refine take_at (i := 15) (oi := _) (d := some 74) (v := ?_) rfl rfl (by kernel_rfl) (by kernel_rfl) (by kernel_rfl) (fun _ _ _ h => h) (Or.inl ⟨by rfl, ?_⟩) hHeld ?_
                  rotate_left
                  next => (intro w hSw; (try dsimp only at hSw); go_simp; try with_reducible rfl)
                  try simp only [Act.put, List.setIfInBounds_toArray, List.set_cons_zero, List.set_cons_succ]
                  refine take_at (i := 16) (oi := _) (d := some 11) (v := ?_) rfl rfl (by kernel_rfl) (by kernel_rfl) (by kernel_rfl) (fun _ _ _ h => h) (Or.inl ⟨by rfl, ?_⟩) hHeld ?_
                  rotate_left
                  next => (intro w hSw; (try dsimp only at hSw); go_simp; try with_reducible rfl)
                  try simp only [Act.put, List.setIfInBounds_toArray, List.set_cons_zero, List.set_cons_succ]
                  refine wpAnyH_done (by kernel_rfl) ?_ _
                  obtain ⟨w9, rfl⟩ : ∃ x : World, x = w' := ⟨_, rfl⟩
                  have HQ9 := Lib.hid (HQ8.out.trans hHeld.2)
                  clear hHeld
                  clear hsA hbA x0 x1 x2 x3 x4 x5 x6 x7 x8 x9 x10 x11 x12 x13 c0 c1 c2 c3 c4 c5 c6 c7 d0 d1 d2 d3 d4 d5 d6 d7
                  obtain ⟨x0, x1, x2, x3, x4, x5, x6, x7, x8, x9, x10, x11, x12, x13⟩ : w9.cell? ⟨w.heap.size, 0, none⟩ = some (.int .i64 l0) ∧ w9.cell? ⟨w.heap.size, 1, none⟩ = some (.int .i64 l1) ∧ w9.cell? ⟨w.heap.size, 2, none⟩ = some (.int .i64 l2) ∧ w9.cell? ⟨w.heap.size, 3, none⟩ = some (.int .i64 l3) ∧ w9.cell? ⟨w.heap.size, 4, none⟩ = some (.int .i64 l4) ∧ w9.cell? ⟨w.heap.size, 5, none⟩ = some (.int .i64 l5) ∧ w9.cell? ⟨w.heap.size, 6, none⟩ = some (.int .i64 h0) ∧ w9.cell? ⟨w.heap.size, 7, none⟩ = some (.int .i64 h1) ∧ w9.cell? ⟨w.heap.size, 8, none⟩ = some (.int .i64 h2) ∧ w9.cell? ⟨w.heap.size, 9, none⟩ = some (.int .i64 h3) ∧ w9.cell? ⟨w.heap.size, 10, none⟩ = some (.int .i64 h4) ∧ w9.cell? ⟨w.heap.size, 11, none⟩ = some (.int .i64 h5) ∧ w9.cell? ⟨w.heap.size, 12, none⟩ = some (.int .i64 st) ∧ w9.cell? ⟨w.heap.size, 13, none⟩ = some (.int .i64 br) := boxKeep (HQ9.out) HZB.out HXB.out
                  obtain ⟨c0, c1, c2, c3, c4, c5, c6, c7⟩ := RowsAt.eightAt (HA.out.keep (HGL.out.trans (HQ9.out))) hlt
                  have hsA : w.heap.size < w9.heap.size := Nat.lt_of_lt_of_le HZB.out (HQ9.out).size
                  have hbA : b < w9.heap.size := by omega
                  obtain ⟨d0, d1, d2, d3, d4, d5, d6, d7⟩ := RowsAt.eightAt (HA.out.keep (HGL.out.trans (HQ9.out))) hpn
                  go_upto_region 17 with fail
                  go_quiet (fail)
                  go_wp2_with fail
                  go_roundw
                  case rel => exact ⟨j + 1, by omega, by first | rfl | go_num, by (show _ = Value.int .i64 (brF f j)); rw [HSV.out], HS.out, HQ9.out.trans ((Gr.refl _).drewN _)⟩
                  case measure => simp [intOf]; omega
            · skip
              have HS : Hid (singB ⟨l0, l1, l2, l3, l4, l5⟩ ⟨h0, h1, h2, h3, h4, h5⟩ st br f j = false) := Lib.hid (by
                have e := HSV.out; have z := HZJ.out; subst z
                simp only [singB, atN]
                rw [e]
                rw [q2, Bool.and_false, Bool.and_false])
              rw [q1] at hH
              have HH := Lib.hid hH
              clear hH
              rw [q2] at hF
              have HF := Lib.hid hF
              clear hF
              clear q1 q2
              as_aux_lemma =>
                obtain ⟨x0, x1, x2, x3, x4, x5, x6, x7, x8, x9, x10, x11, x12, x13⟩ : wp.cell? ⟨w.heap.size, 0, none⟩ = some (.int .i64 l0) ∧ wp.cell? ⟨w.heap.size, 1, none⟩ = some (.int .i64 l1) ∧ wp.cell? ⟨w.heap.size, 2, none⟩ = some (.int .i64 l2) ∧ wp.cell? ⟨w.heap.size, 3, none⟩ = some (.int .i64 l3) ∧ wp.cell? ⟨w.heap.size, 4, none⟩ = some (.int .i64 l4) ∧ wp.cell? ⟨w.heap.size, 5, none⟩ = some (.int .i64 l5) ∧ wp.cell? ⟨w.heap.size, 6, none⟩ = some (.int .i64 h0) ∧ wp.cell? ⟨w.heap.size, 7, none⟩ = some (.int .i64 h1) ∧ wp.cell? ⟨w.heap.size, 8, none⟩ = some (.int .i64 h2) ∧ wp.cell? ⟨w.heap.size, 9, none⟩ = some (.int .i64 h3) ∧ wp.cell? ⟨w.heap.size, 10, none⟩ = some (.int .i64 h4) ∧ wp.cell? ⟨w.heap.size, 11, none⟩ = some (.int .i64 h5) ∧ wp.cell? ⟨w.heap.size, 12, none⟩ = some (.int .i64 st) ∧ wp.cell? ⟨w.heap.size, 13, none⟩ = some (.int .i64 br) := boxKeep (HGW.out) HZB.out HXB.out
                obtain ⟨c0, c1, c2, c3, c4, c5, c6, c7⟩ := RowsAt.eightAt (HA.out.keep (HGL.out.trans (HGW.out))) hlt
                have hsA : w.heap.size < wp.heap.size := Nat.lt_of_lt_of_le HZB.out (HGW.out).size
                have hbA : b < wp.heap.size := by omega
                obtain ⟨d0, d1, d2, d3, d4, d5, d6, d7⟩ := RowsAt.eightAt (HA.out.keep (HGL.out.trans (HGW.out))) hpn
                go_wp2_with fail
                go_quiet (fail)
                go_upto_region 13 with fail
                have hq : Gr wL (wp.drewN nq) := HGW.out.trans ((Gr.refl _).drewN _)
                generalize wp.drewN nq = wq at *
                have HQ := Lib.hid hq
                clear hq
                clear hsA hbA x0 x1 x2 x3 x4 x5 x6 x7 x8 x9 x10 x11 x12 x13 c0 c1 c2 c3 c4 c5 c6 c7 d0 d1 d2 d3 d4 d5 d6 d7
                obtain ⟨x0, x1, x2, x3, x4, x5, x6, x7, x8, x9, x10, x11, x12, x13⟩ : wq.cell? ⟨w.heap.size, 0, none⟩ = some (.int .i64 l0) ∧ wq.cell? ⟨w.heap.size, 1, none⟩ = some (.int .i64 l1) ∧ wq.cell? ⟨w.heap.size, 2, none⟩ = some (.int .i64 l2) ∧ wq.cell? ⟨w.heap.size, 3, none⟩ = some (.int .i64 l3) ∧ wq.cell? ⟨w.heap.size, 4, none⟩ = some (.int .i64 l4) ∧ wq.cell? ⟨w.heap.size, 5, none⟩ = some (.int .i64 l5) ∧ wq.cell? ⟨w.heap.size, 6, none⟩ = some (.int .i64 h0) ∧ wq.cell? ⟨w.heap.size, 7, none⟩ = some (.int .i64 h1) ∧ wq.cell? ⟨w.heap.size, 8, none⟩ = some (.int .i64 h2) ∧ wq.cell? ⟨w.heap.size, 9, none⟩ = some (.int .i64 h3) ∧ wq.cell? ⟨w.heap.size, 10, none⟩ = some (.int .i64 h4) ∧ wq.cell? ⟨w.heap.size, 11, none⟩ = some (.int .i64 h5) ∧ wq.cell? ⟨w.heap.size, 12, none⟩ = some (.int .i64 st) ∧ wq.cell? ⟨w.heap.size, 13, none⟩ = some (.int .i64 br) := boxKeep (HQ.out) HZB.out HXB.out
                obtain ⟨c0, c1, c2, c3, c4, c5, c6, c7⟩ := RowsAt.eightAt (HA.out.keep (HGL.out.trans (HQ.out))) hlt
                have hsA : w.heap.size < wq.heap.size := Nat.lt_of_lt_of_le HZB.out (HQ.out).size
                have hbA : b < wq.heap.size := by omega
                obtain ⟨d0, d1, d2, d3, d4, d5, d6, d7⟩ := RowsAt.eightAt (HA.out.keep (HGL.out.trans (HQ.out))) hpn
                refine wp_region_held_drew (S := fun wx => (∀ b o, (⟨min (b + 1) wq.heap.size, 0, none⟩ : Addr) = ⟨b + 1, 0, none⟩ → wx.cell? ⟨b, o, none⟩ = wq.cell? ⟨b, o, none⟩) ∧ Gr wq wx) (by kernel_rfl) (held_drew wq) (fun hHeld => ?_)
                refine take_at (i := 0) (oi := _) (d := some 48) (v := ?_) rfl rfl (by kernel_rfl) (by kernel_rfl) (by kernel_rfl) (fun _ _ _ h => h) (Or.inl ⟨by rfl, ?_⟩) hHeld ?_
                rotate_left
                next => (intro w hSw; (try dsimp only at hSw); go_simp; try with_reducible rfl)
                try simp only [Act.put, List.setIfInBounds_toArray, List.set_cons_zero, List.set_cons_succ]
                refine take_at (i := 1) (oi := _) (d := some 49) (v := ?_) rfl rfl (by kernel_rfl) (by kernel_rfl) (by kernel_rfl) (fun _ _ _ h => h) (Or.inl ⟨by rfl, ?_⟩) hHeld ?_
                rotate_left
                next => (intro w hSw; (try dsimp only at hSw); go_simp; try with_reducible rfl)
                try simp only [Act.put, List.setIfInBounds_toArray, List.set_cons_zero, List.set_cons_succ]
                refine take_at (i := 2) (oi := _) (d := some 50) (v := ?_) rfl rfl (by kernel_rfl) (by kernel_rfl) (by kernel_rfl) (fun _ _ _ h => h) (Or.inl ⟨by rfl, ?_⟩) hHeld ?_
                rotate_left
                next => (intro w hSw; (try dsimp only at hSw); go_simp; try with_reducible rfl)
                try simp only [Act.put, List.setIfInBounds_toArray, List.set_cons_zero, List.set_cons_succ]
                refine take_at (i := 3) (oi := _) (d := some 51) (v := ?_) rfl rfl (by kernel_rfl) (by kernel_rfl) (by kernel_rfl) (fun _ _ _ h => h) (Or.inl ⟨by rfl, ?_⟩) hHeld ?_
                rotate_left
                next => (intro w hSw; (try dsimp only at hSw); go_simp; try with_reducible rfl)
                try simp only [Act.put, List.setIfInBounds_toArray, List.set_cons_zero, List.set_cons_succ]
                refine take_at (i := 4) (oi := _) (d := some 52) (v := ?_) rfl rfl (by kernel_rfl) (by kernel_rfl) (by kernel_rfl) (fun _ _ _ h => h) (Or.inl ⟨by rfl, ?_⟩) hHeld ?_
                rotate_left
                next => (intro w hSw; (try dsimp only at hSw); go_simp; try with_reducible rfl)
                try simp only [Act.put, List.setIfInBounds_toArray, List.set_cons_zero, List.set_cons_succ]
                refine take_at (i := 5) (oi := _) (d := some 53) (v := ?_) rfl rfl (by kernel_rfl) (by kernel_rfl) (by kernel_rfl) (fun _ _ _ h => h) (Or.inl ⟨by rfl, ?_⟩) hHeld ?_
                rotate_left
                next => (intro w hSw; (try dsimp only at hSw); go_simp; try with_reducible rfl)
                try simp only [Act.put, List.setIfInBounds_toArray, List.set_cons_zero, List.set_cons_succ]
                refine wpAnyH_ready (rs := [6]) (by kernel_rfl) (by simp) (AllReadyH.cons (o := _) rfl (fun K hK => ?_) AllReadyH.nil)
                go_simp
                go_at_call 14
                refine (HH.out _).mono ?_
                rintro e w' ⟨rfl, hb⟩
                refine hK.out _ _ (held_call hHeld hb) (fun hHeld => ?_)
                clear hK K hb
                try simp only [Act.put, List.setIfInBounds_toArray, List.set_cons_zero, List.set_cons_succ]
                refine take_at (i := 7) (oi := _) (d := some 47) (v := ?_) rfl rfl (by kernel_rfl) (by kernel_rfl) (by kernel_rfl) (fun _ _ _ h => h) (Or.inl ⟨by rfl, ?_⟩) hHeld ?_
                rotate_left
                next => (intro w hSw; (try dsimp only at hSw); go_simp; try with_reducible rfl)
                try simp only [Act.put, List.setIfInBounds_toArray, List.set_cons_zero, List.set_cons_succ]
                refine take_at (i := 8) (oi := _) (d := some 55) (v := ?_) rfl rfl (by kernel_rfl) (by kernel_rfl) (by kernel_rfl) (fun _ _ _ h => h) (Or.inl ⟨by rfl, ?_⟩) hHeld ?_
                rotate_left
                next => (intro w hSw; (try dsimp only at hSw); go_simp; try with_reducible rfl)
                try simp only [Act.put, List.setIfInBounds_toArray, List.set_cons_zero, List.set_cons_succ]
                refine take_at (i := 9) (oi := _) (d := some 56) (v := ?_) rfl rfl (by kernel_rfl) (by kernel_rfl) (by kernel_rfl) (fun _ _ _ h => h) (Or.inl ⟨by rfl, ?_⟩) hHeld ?_
                rotate_left
                next => (intro w hSw; (try dsimp only at hSw); go_simp; try with_reducible rfl)
                try simp only [Act.put, List.setIfInBounds_toArray, List.set_cons_zero, List.set_cons_succ]
                refine take_at (i := 10) (oi := _) (d := some 9) (v := ?_) rfl rfl (by kernel_rfl) (by kernel_rfl) (by kernel_rfl) (fun _ _ _ h => h) (Or.inl ⟨by rfl, ?_⟩) hHeld ?_
                rotate_left
                next => (intro w hSw; (try dsimp only at hSw); go_simp; try with_reducible rfl)
                try simp only [Act.put, List.setIfInBounds_toArray, List.set_cons_zero, List.set_cons_succ]
                refine take_at (i := 11) (oi := _) (d := some 10) (v := ?_) rfl rfl (by kernel_rfl) (by kernel_rfl) (by kernel_rfl) (fun _ _ _ h => h) (Or.inl ⟨by rfl, ?_⟩) hHeld ?_
                rotate_left
                next => (intro w hSw; (try dsimp only at hSw); go_simp; try with_reducible rfl)
                try simp only [Act.put, List.setIfInBounds_toArray, List.set_cons_zero, List.set_cons_succ]
                refine wpAnyH_done (by kernel_rfl) ?_ _
                obtain ⟨w8, rfl⟩ : ∃ x : World, x = w' := ⟨_, rfl⟩
                have HQ8 := Lib.hid (HQ.out.trans hHeld.2)
                clear hHeld
                clear hsA hbA x0 x1 x2 x3 x4 x5 x6 x7 x8 x9 x10 x11 x12 x13 c0 c1 c2 c3 c4 c5 c6 c7 d0 d1 d2 d3 d4 d5 d6 d7
                obtain ⟨x0, x1, x2, x3, x4, x5, x6, x7, x8, x9, x10, x11, x12, x13⟩ : w8.cell? ⟨w.heap.size, 0, none⟩ = some (.int .i64 l0) ∧ w8.cell? ⟨w.heap.size, 1, none⟩ = some (.int .i64 l1) ∧ w8.cell? ⟨w.heap.size, 2, none⟩ = some (.int .i64 l2) ∧ w8.cell? ⟨w.heap.size, 3, none⟩ = some (.int .i64 l3) ∧ w8.cell? ⟨w.heap.size, 4, none⟩ = some (.int .i64 l4) ∧ w8.cell? ⟨w.heap.size, 5, none⟩ = some (.int .i64 l5) ∧ w8.cell? ⟨w.heap.size, 6, none⟩ = some (.int .i64 h0) ∧ w8.cell? ⟨w.heap.size, 7, none⟩ = some (.int .i64 h1) ∧ w8.cell? ⟨w.heap.size, 8, none⟩ = some (.int .i64 h2) ∧ w8.cell? ⟨w.heap.size, 9, none⟩ = some (.int .i64 h3) ∧ w8.cell? ⟨w.heap.size, 10, none⟩ = some (.int .i64 h4) ∧ w8.cell? ⟨w.heap.size, 11, none⟩ = some (.int .i64 h5) ∧ w8.cell? ⟨w.heap.size, 12, none⟩ = some (.int .i64 st) ∧ w8.cell? ⟨w.heap.size, 13, none⟩ = some (.int .i64 br) := boxKeep (HQ8.out) HZB.out HXB.out
                obtain ⟨c0, c1, c2, c3, c4, c5, c6, c7⟩ := RowsAt.eightAt (HA.out.keep (HGL.out.trans (HQ8.out))) hlt
                have hsA : w.heap.size < w8.heap.size := Nat.lt_of_lt_of_le HZB.out (HQ8.out).size
                have hbA : b < w8.heap.size := by omega
                obtain ⟨d0, d1, d2, d3, d4, d5, d6, d7⟩ := RowsAt.eightAt (HA.out.keep (HGL.out.trans (HQ8.out))) hpn
                go_upto_region 16 with fail
                refine wp_region_held_drew (S := fun wx => (∀ b o, (⟨min (b + 1) w8.heap.size, 0, none⟩ : Addr) = ⟨b + 1, 0, none⟩ → wx.cell? ⟨b, o, none⟩ = w8.cell? ⟨b, o, none⟩) ∧ Gr w8 wx) (by kernel_rfl) (held_drew w8) (fun hHeld => ?_)
                refine take_at (i := 0) (oi := _) (d := some 60) (v := ?_) rfl rfl (by kernel_rfl) (by kernel_rfl) (by kernel_rfl) (fun _ _ _ h => h) (Or.inl ⟨by rfl, ?_⟩) hHeld ?_
                rotate_left
                next => (intro w hSw; (try dsimp only at hSw); go_simp; try with_reducible rfl)
                try simp only [Act.put, List.setIfInBounds_toArray, List.set_cons_zero, List.set_cons_succ]
                refine take_at (i := 1) (oi := _) (d := some 61) (v := ?_) rfl rfl (by kernel_rfl) (by kernel_rfl) (by kernel_rfl) (fun _ _ _ h => h) (Or.inl ⟨by rfl, ?_⟩) hHeld ?_
                rotate_left
                next => (intro w hSw; (try dsimp only at hSw); go_simp; try with_reducible rfl)
                try simp only [Act.put, List.setIfInBounds_toArray, List.set_cons_zero, List.set_cons_succ]
                refine take_at (i := 2) (oi := _) (d := some 62) (v := ?_) rfl rfl (by kernel_rfl) (by kernel_rfl) (by kernel_rfl) (fun _ _ _ h => h) (Or.inl ⟨by rfl, ?_⟩) hHeld ?_
                rotate_left
                next => (intro w hSw; (try dsimp only at hSw); go_simp; try with_reducible rfl)
                try simp only [Act.put, List.setIfInBounds_toArray, List.set_cons_zero, List.set_cons_succ]
                refine take_at (i := 3) (oi := _) (d := some 63) (v := ?_) rfl rfl (by kernel_rfl) (by kernel_rfl) (by kernel_rfl) (fun _ _ _ h => h) (Or.inl ⟨by rfl, ?_⟩) hHeld ?_
                rotate_left
                next => (intro w hSw; (try dsimp only at hSw); go_simp; try with_reducible rfl)
                try simp only [Act.put, List.setIfInBounds_toArray, List.set_cons_zero, List.set_cons_succ]
                refine take_at (i := 4) (oi := _) (d := some 64) (v := ?_) rfl rfl (by kernel_rfl) (by kernel_rfl) (by kernel_rfl) (fun _ _ _ h => h) (Or.inl ⟨by rfl, ?_⟩) hHeld ?_
                rotate_left
                next => (intro w hSw; (try dsimp only at hSw); go_simp; try with_reducible rfl)
                try simp only [Act.put, List.setIfInBounds_toArray, List.set_cons_zero, List.set_cons_succ]
                refine take_at (i := 5) (oi := _) (d := some 65) (v := ?_) rfl rfl (by kernel_rfl) (by kernel_rfl) (by kernel_rfl) (fun _ _ _ h => h) (Or.inl ⟨by rfl, ?_⟩) hHeld ?_
                rotate_left
                next => (intro w hSw; (try dsimp only at hSw); go_simp; try with_reducible rfl)
                try simp only [Act.put, List.setIfInBounds_toArray, List.set_cons_zero, List.set_cons_succ]
                refine take_at (i := 6) (oi := _) (d := some 66) (v := ?_) rfl rfl (by kernel_rfl) (by kernel_rfl) (by kernel_rfl) (fun _ _ _ h => h) (Or.inl ⟨by rfl, ?_⟩) hHeld ?_
                rotate_left
                next => (intro w hSw; (try dsimp only at hSw); go_simp; try with_reducible rfl)
                try simp only [Act.put, List.setIfInBounds_toArray, List.set_cons_zero, List.set_cons_succ]
                refine take_at (i := 7) (oi := _) (d := some 67) (v := ?_) rfl rfl (by kernel_rfl) (by kernel_rfl) (by kernel_rfl) (fun _ _ _ h => h) (Or.inl ⟨by rfl, ?_⟩) hHeld ?_
                rotate_left
                next => (intro w hSw; (try dsimp only at hSw); go_simp; try with_reducible rfl)
                try simp only [Act.put, List.setIfInBounds_toArray, List.set_cons_zero, List.set_cons_succ]
                refine take_at (i := 8) (oi := _) (d := some 68) (v := ?_) rfl rfl (by kernel_rfl) (by kernel_rfl) (by kernel_rfl) (fun _ _ _ h => h) (Or.inl ⟨by rfl, ?_⟩) hHeld ?_
                rotate_left
                next => (intro w hSw; (try dsimp only at hSw); go_simp; try with_reducible rfl)
                try simp only [Act.put, List.setIfInBounds_toArray, List.set_cons_zero, List.set_cons_succ]
                refine take_at (i := 9) (oi := _) (d := some 69) (v := ?_) rfl rfl (by kernel_rfl) (by kernel_rfl) (by kernel_rfl) (fun _ _ _ h => h) (Or.inl ⟨by rfl, ?_⟩) hHeld ?_
                rotate_left
                next => (intro w hSw; (try dsimp only at hSw); go_simp; try with_reducible rfl)
                try simp only [Act.put, List.setIfInBounds_toArray, List.set_cons_zero, List.set_cons_succ]
                refine take_at (i := 10) (oi := _) (d := some 70) (v := ?_) rfl rfl (by kernel_rfl) (by kernel_rfl) (by kernel_rfl) (fun _ _ _ h => h) (Or.inl ⟨by rfl, ?_⟩) hHeld ?_
                rotate_left
                next => (intro w hSw; (try dsimp only at hSw); go_simp; try with_reducible rfl)
                try simp only [Act.put, List.setIfInBounds_toArray, List.set_cons_zero, List.set_cons_succ]
                refine take_at (i := 11) (oi := _) (d := some 71) (v := ?_) rfl rfl (by kernel_rfl) (by kernel_rfl) (by kernel_rfl) (fun _ _ _ h => h) (Or.inl ⟨by rfl, ?_⟩) hHeld ?_
                rotate_left
                next => (intro w hSw; (try dsimp only at hSw); go_simp; try with_reducible rfl)
                try simp only [Act.put, List.setIfInBounds_toArray, List.set_cons_zero, List.set_cons_succ]
                refine wpAnyH_ready (rs := [12]) (by kernel_rfl) (by simp) (AllReadyH.cons (o := _) rfl (fun K hK => ?_) AllReadyH.nil)
                go_simp
                go_at_call 16
                refine (HF.out _).mono ?_
                rintro e w' ⟨rfl, hb⟩
                refine hK.out _ _ (held_call hHeld hb) (fun hHeld => ?_)
                clear hK K hb
                try simp only [Act.put, List.setIfInBounds_toArray, List.set_cons_zero, List.set_cons_succ]
                refine take_at (i := 13) (oi := _) (d := some 59) (v := ?_) rfl rfl (by kernel_rfl) (by kernel_rfl) (by kernel_rfl) (fun _ _ _ h => h) (Or.inl ⟨by rfl, ?_⟩) hHeld ?_
                rotate_left
                next => (intro w hSw; (try dsimp only at hSw); go_simp; try with_reducible rfl)
                try simp only [Act.put, List.setIfInBounds_toArray, List.set_cons_zero, List.set_cons_succ]
                refine take_at (i := 14) (oi := _) (d := some 73) (v := ?_) rfl rfl (by kernel_rfl) (by kernel_rfl) (by kernel_rfl) (fun _ _ _ h => h) (Or.inl ⟨by rfl, ?_⟩) hHeld ?_
                rotate_left
                next => (intro w hSw; (try dsimp only at hSw); go_simp; try with_reducible rfl)
                try simp only [Act.put, List.setIfInBounds_toArray, List.set_cons_zero, List.set_cons_succ]
                refine take_at (i := 15) (oi := _) (d := some 74) (v := ?_) rfl rfl (by kernel_rfl) (by kernel_rfl) (by kernel_rfl) (fun _ _ _ h => h) (Or.inl ⟨by rfl, ?_⟩) hHeld ?_
                rotate_left
                next => (intro w hSw; (try dsimp only at hSw); go_simp; try with_reducible rfl)
                try simp only [Act.put, List.setIfInBounds_toArray, List.set_cons_zero, List.set_cons_succ]
                refine take_at (i := 16) (oi := _) (d := some 11) (v := ?_) rfl rfl (by kernel_rfl) (by kernel_rfl) (by kernel_rfl) (fun _ _ _ h => h) (Or.inl ⟨by rfl, ?_⟩) hHeld ?_
                rotate_left
                next => (intro w hSw; (try dsimp only at hSw); go_simp; try with_reducible rfl)
                try simp only [Act.put, List.setIfInBounds_toArray, List.set_cons_zero, List.set_cons_succ]
                refine wpAnyH_done (by kernel_rfl) ?_ _
                obtain ⟨w9, rfl⟩ : ∃ x : World, x = w' := ⟨_, rfl⟩
                have HQ9 := Lib.hid (HQ8.out.trans hHeld.2)
                clear hHeld
                clear hsA hbA x0 x1 x2 x3 x4 x5 x6 x7 x8 x9 x10 x11 x12 x13 c0 c1 c2 c3 c4 c5 c6 c7 d0 d1 d2 d3 d4 d5 d6 d7
                obtain ⟨x0, x1, x2, x3, x4, x5, x6, x7, x8, x9, x10, x11, x12, x13⟩ : w9.cell? ⟨w.heap.size, 0, none⟩ = some (.int .i64 l0) ∧ w9.cell? ⟨w.heap.size, 1, none⟩ = some (.int .i64 l1) ∧ w9.cell? ⟨w.heap.size, 2, none⟩ = some (.int .i64 l2) ∧ w9.cell? ⟨w.heap.size, 3, none⟩ = some (.int .i64 l3) ∧ w9.cell? ⟨w.heap.size, 4, none⟩ = some (.int .i64 l4) ∧ w9.cell? ⟨w.heap.size, 5, none⟩ = some (.int .i64 l5) ∧ w9.cell? ⟨w.heap.size, 6, none⟩ = some (.int .i64 h0) ∧ w9.cell? ⟨w.heap.size, 7, none⟩ = some (.int .i64 h1) ∧ w9.cell? ⟨w.heap.size, 8, none⟩ = some (.int .i64 h2) ∧ w9.cell? ⟨w.heap.size, 9, none⟩ = some (.int .i64 h3) ∧ w9.cell? ⟨w.heap.size, 10, none⟩ = some (.int .i64 h4) ∧ w9.cell? ⟨w.heap.size, 11, none⟩ = some (.int .i64 h5) ∧ w9.cell? ⟨w.heap.size, 12, none⟩ = some (.int .i64 st) ∧ w9.cell? ⟨w.heap.size, 13, none⟩ = some (.int .i64 br) := boxKeep (HQ9.out) HZB.out HXB.out
                obtain ⟨c0, c1, c2, c3, c4, c5, c6, c7⟩ := RowsAt.eightAt (HA.out.keep (HGL.out.trans (HQ9.out))) hlt
                have hsA : w.heap.size < w9.heap.size := Nat.lt_of_lt_of_le HZB.out (HQ9.out).size
                have hbA : b < w9.heap.size := by omega
                obtain ⟨d0, d1, d2, d3, d4, d5, d6, d7⟩ := RowsAt.eightAt (HA.out.keep (HGL.out.trans (HQ9.out))) hpn
                go_upto_region 17 with fail
                go_quiet (fail)
                go_wp2_with fail
                go_ret2
                exact ⟨_, rfl, Or.inr ⟨j, hlt, HAL.out, HS.out, rfl⟩, HGL.out.trans (HQ9.out.trans ((Gr.refl _).drewN _))⟩
          · skip
            have HS : Hid (singB ⟨l0, l1, l2, l3, l4, l5⟩ ⟨h0, h1, h2, h3, h4, h5⟩ st br f j = false) := Lib.hid (by
              have e := HSV.out; have z := HZJ.out; subst z
              simp only [singB, atN]
              rw [e]
              rw [q1, Bool.false_and, Bool.and_false])
            rw [q1] at hH
            have HH := Lib.hid hH
            clear hH
            generalize findsB st ⟨f p 2, f p 3, f p 4, f p 5, f p 6, f p 7⟩ ⟨f j 2, f j 3, f j 4, f j 5, f j 6, f j 7⟩ = R at hF
            have HF := Lib.hid hF
            clear hF q1
            as_aux_lemma =>
              obtain ⟨x0, x1, x2, x3, x4, x5, x6, x7, x8, x9, x10, x11, x12, x13⟩ : wp.cell? ⟨w.heap.size, 0, none⟩ = some (.int .i64 l0) ∧ wp.cell? ⟨w.heap.size, 1, none⟩ = some (.int .i64 l1) ∧ wp.cell? ⟨w.heap.size, 2, none⟩ = some (.int .i64 l2) ∧ wp.cell? ⟨w.heap.size, 3, none⟩ = some (.int .i64 l3) ∧ wp.cell? ⟨w.heap.size, 4, none⟩ = some (.int .i64 l4) ∧ wp.cell? ⟨w.heap.size, 5, none⟩ = some (.int .i64 l5) ∧ wp.cell? ⟨w.heap.size, 6, none⟩ = some (.int .i64 h0) ∧ wp.cell? ⟨w.heap.size, 7, none⟩ = some (.int .i64 h1) ∧ wp.cell? ⟨w.heap.size, 8, none⟩ = some (.int .i64 h2) ∧ wp.cell? ⟨w.heap.size, 9, none⟩ = some (.int .i64 h3) ∧ wp.cell? ⟨w.heap.size, 10, none⟩ = some (.int .i64 h4) ∧ wp.cell? ⟨w.heap.size, 11, none⟩ = some (.int .i64 h5) ∧ wp.cell? ⟨w.heap.size, 12, none⟩ = some (.int .i64 st) ∧ wp.cell? ⟨w.heap.size, 13, none⟩ = some (.int .i64 br) := boxKeep (HGW.out) HZB.out HXB.out
              obtain ⟨c0, c1, c2, c3, c4, c5, c6, c7⟩ := RowsAt.eightAt (HA.out.keep (HGL.out.trans (HGW.out))) hlt
              have hsA : w.heap.size < wp.heap.size := Nat.lt_of_lt_of_le HZB.out (HGW.out).size
              have hbA : b < wp.heap.size := by omega
              obtain ⟨d0, d1, d2, d3, d4, d5, d6, d7⟩ := RowsAt.eightAt (HA.out.keep (HGL.out.trans (HGW.out))) hpn
              go_wp2_with fail
              go_quiet (fail)
              go_upto_region 13 with fail
              have hq : Gr wL (wp.drewN nq) := HGW.out.trans ((Gr.refl _).drewN _)
              generalize wp.drewN nq = wq at *
              have HQ := Lib.hid hq
              clear hq
              clear hsA hbA x0 x1 x2 x3 x4 x5 x6 x7 x8 x9 x10 x11 x12 x13 c0 c1 c2 c3 c4 c5 c6 c7 d0 d1 d2 d3 d4 d5 d6 d7
              obtain ⟨x0, x1, x2, x3, x4, x5, x6, x7, x8, x9, x10, x11, x12, x13⟩ : wq.cell? ⟨w.heap.size, 0, none⟩ = some (.int .i64 l0) ∧ wq.cell? ⟨w.heap.size, 1, none⟩ = some (.int .i64 l1) ∧ wq.cell? ⟨w.heap.size, 2, none⟩ = some (.int .i64 l2) ∧ wq.cell? ⟨w.heap.size, 3, none⟩ = some (.int .i64 l3) ∧ wq.cell? ⟨w.heap.size, 4, none⟩ = some (.int .i64 l4) ∧ wq.cell? ⟨w.heap.size, 5, none⟩ = some (.int .i64 l5) ∧ wq.cell? ⟨w.heap.size, 6, none⟩ = some (.int .i64 h0) ∧ wq.cell? ⟨w.heap.size, 7, none⟩ = some (.int .i64 h1) ∧ wq.cell? ⟨w.heap.size, 8, none⟩ = some (.int .i64 h2) ∧ wq.cell? ⟨w.heap.size, 9, none⟩ = some (.int .i64 h3) ∧ wq.cell? ⟨w.heap.size, 10, none⟩ = some (.int .i64 h4) ∧ wq.cell? ⟨w.heap.size, 11, none⟩ = some (.int .i64 h5) ∧ wq.cell? ⟨w.heap.size, 12, none⟩ = some (.int .i64 st) ∧ wq.cell? ⟨w.heap.size, 13, none⟩ = some (.int .i64 br) := boxKeep (HQ.out) HZB.out HXB.out
              obtain ⟨c0, c1, c2, c3, c4, c5, c6, c7⟩ := RowsAt.eightAt (HA.out.keep (HGL.out.trans (HQ.out))) hlt
              have hsA : w.heap.size < wq.heap.size := Nat.lt_of_lt_of_le HZB.out (HQ.out).size
              have hbA : b < wq.heap.size := by omega
              obtain ⟨d0, d1, d2, d3, d4, d5, d6, d7⟩ := RowsAt.eightAt (HA.out.keep (HGL.out.trans (HQ.out))) hpn
              refine wp_region_held_drew (S := fun wx => (∀ b o, (⟨min (b + 1) wq.heap.size, 0, none⟩ : Addr) = ⟨b + 1, 0, none⟩ → wx.cell? ⟨b, o, none⟩ = wq.cell? ⟨b, o, none⟩) ∧ Gr wq wx) (by kernel_rfl) (held_drew wq) (fun hHeld => ?_)
              refine take_at (i := 0) (oi := _) (d := some 48) (v := ?_) rfl rfl (by kernel_rfl) (by kernel_rfl) (by kernel_rfl) (fun _ _ _ h => h) (Or.inl ⟨by rfl, ?_⟩) hHeld ?_
              rotate_left
              next => (intro w hSw; (try dsimp only at hSw); go_simp; try with_reducible rfl)
              try simp only [Act.put, List.setIfInBounds_toArray, List.set_cons_zero, List.set_cons_succ]
              refine take_at (i := 1) (oi := _) (d := some 49) (v := ?_) rfl rfl (by kernel_rfl) (by kernel_rfl) (by kernel_rfl) (fun _ _ _ h => h) (Or.inl ⟨by rfl, ?_⟩) hHeld ?_
              rotate_left
              next => (intro w hSw; (try dsimp only at hSw); go_simp; try with_reducible rfl)
              try simp only [Act.put, List.setIfInBounds_toArray, List.set_cons_zero, List.set_cons_succ]
              refine take_at (i := 2) (oi := _) (d := some 50) (v := ?_) rfl rfl (by kernel_rfl) (by kernel_rfl) (by kernel_rfl) (fun _ _ _ h => h) (Or.inl ⟨by rfl, ?_⟩) hHeld ?_
              rotate_left
              next => (intro w hSw; (try dsimp only at hSw); go_simp; try with_reducible rfl)
              try simp only [Act.put, List.setIfInBounds_toArray, List.set_cons_zero, List.set_cons_succ]
              refine take_at (i := 3) (oi := _) (d := some 51) (v := ?_) rfl rfl (by kernel_rfl) (by kernel_rfl) (by kernel_rfl) (fun _ _ _ h => h) (Or.inl ⟨by rfl, ?_⟩) hHeld ?_
              rotate_left
              next => (intro w hSw; (try dsimp only at hSw); go_simp; try with_reducible rfl)
              try simp only [Act.put, List.setIfInBounds_toArray, List.set_cons_zero, List.set_cons_succ]
              refine take_at (i := 4) (oi := _) (d := some 52) (v := ?_) rfl rfl (by kernel_rfl) (by kernel_rfl) (by kernel_rfl) (fun _ _ _ h => h) (Or.inl ⟨by rfl, ?_⟩) hHeld ?_
              rotate_left
              next => (intro w hSw; (try dsimp only at hSw); go_simp; try with_reducible rfl)
              try simp only [Act.put, List.setIfInBounds_toArray, List.set_cons_zero, List.set_cons_succ]
              refine take_at (i := 5) (oi := _) (d := some 53) (v := ?_) rfl rfl (by kernel_rfl) (by kernel_rfl) (by kernel_rfl) (fun _ _ _ h => h) (Or.inl ⟨by rfl, ?_⟩) hHeld ?_
              rotate_left
              next => (intro w hSw; (try dsimp only at hSw); go_simp; try with_reducible rfl)
              try simp only [Act.put, List.setIfInBounds_toArray, List.set_cons_zero, List.set_cons_succ]
              refine wpAnyH_ready (rs := [6]) (by kernel_rfl) (by simp) (AllReadyH.cons (o := _) rfl (fun K hK => ?_) AllReadyH.nil)
              go_simp
              go_at_call 14
              refine (HH.out _).mono ?_
              rintro e w' ⟨rfl, hb⟩
              refine hK.out _ _ (held_call hHeld hb) (fun hHeld => ?_)
              clear hK K hb
              try simp only [Act.put, List.setIfInBounds_toArray, List.set_cons_zero, List.set_cons_succ]
              refine take_at (i := 7) (oi := _) (d := some 47) (v := ?_) rfl rfl (by kernel_rfl) (by kernel_rfl) (by kernel_rfl) (fun _ _ _ h => h) (Or.inl ⟨by rfl, ?_⟩) hHeld ?_
              rotate_left
              next => (intro w hSw; (try dsimp only at hSw); go_simp; try with_reducible rfl)
              try simp only [Act.put, List.setIfInBounds_toArray, List.set_cons_zero, List.set_cons_succ]
              refine take_at (i := 8) (oi := _) (d := some 55) (v := ?_) rfl rfl (by kernel_rfl) (by kernel_rfl) (by kernel_rfl) (fun _ _ _ h => h) (Or.inl ⟨by rfl, ?_⟩) hHeld ?_
              rotate_left
              next => (intro w hSw; (try dsimp only at hSw); go_simp; try with_reducible rfl)
              try simp only [Act.put, List.setIfInBounds_toArray, List.set_cons_zero, List.set_cons_succ]
              refine take_at (i := 9) (oi := _) (d := some 56) (v := ?_) rfl rfl (by kernel_rfl) (by kernel_rfl) (by kernel_rfl) (fun _ _ _ h => h) (Or.inl ⟨by rfl, ?_⟩) hHeld ?_
              rotate_left
              next => (intro w hSw; (try dsimp only at hSw); go_simp; try with_reducible rfl)
              try simp only [Act.put, List.setIfInBounds_toArray, List.set_cons_zero, List.set_cons_succ]
              refine take_at (i := 10) (oi := _) (d := some 9) (v := ?_) rfl rfl (by kernel_rfl) (by kernel_rfl) (by kernel_rfl) (fun _ _ _ h => h) (Or.inl ⟨by rfl, ?_⟩) hHeld ?_
              rotate_left
              next => (intro w hSw; (try dsimp only at hSw); go_simp; try with_reducible rfl)
              try simp only [Act.put, List.setIfInBounds_toArray, List.set_cons_zero, List.set_cons_succ]
              refine take_at (i := 11) (oi := _) (d := some 10) (v := ?_) rfl rfl (by kernel_rfl) (by kernel_rfl) (by kernel_rfl) (fun _ _ _ h => h) (Or.inl ⟨by rfl, ?_⟩) hHeld ?_
              rotate_left
              next => (intro w hSw; (try dsimp only at hSw); go_simp; try with_reducible rfl)
              try simp only [Act.put, List.setIfInBounds_toArray, List.set_cons_zero, List.set_cons_succ]
              refine wpAnyH_done (by kernel_rfl) ?_ _
              obtain ⟨w8, rfl⟩ : ∃ x : World, x = w' := ⟨_, rfl⟩
              have HQ8 := Lib.hid (HQ.out.trans hHeld.2)
              clear hHeld
              clear hsA hbA x0 x1 x2 x3 x4 x5 x6 x7 x8 x9 x10 x11 x12 x13 c0 c1 c2 c3 c4 c5 c6 c7 d0 d1 d2 d3 d4 d5 d6 d7
              obtain ⟨x0, x1, x2, x3, x4, x5, x6, x7, x8, x9, x10, x11, x12, x13⟩ : w8.cell? ⟨w.heap.size, 0, none⟩ = some (.int .i64 l0) ∧ w8.cell? ⟨w.heap.size, 1, none⟩ = some (.int .i64 l1) ∧ w8.cell? ⟨w.heap.size, 2, none⟩ = some (.int .i64 l2) ∧ w8.cell? ⟨w.heap.size, 3, none⟩ = some (.int .i64 l3) ∧ w8.cell? ⟨w.heap.size, 4, none⟩ = some (.int .i64 l4) ∧ w8.cell? ⟨w.heap.size, 5, none⟩ = some (.int .i64 l5) ∧ w8.cell? ⟨w.heap.size, 6, none⟩ = some (.int .i64 h0) ∧ w8.cell? ⟨w.heap.size, 7, none⟩ = some (.int .i64 h1) ∧ w8.cell? ⟨w.heap.size, 8, none⟩ = some (.int .i64 h2) ∧ w8.cell? ⟨w.heap.size, 9, none⟩ = some (.int .i64 h3) ∧ w8.cell? ⟨w.heap.size, 10, none⟩ = some (.int .i64 h4) ∧ w8.cell? ⟨w.heap.size, 11, none⟩ = some (.int .i64 h5) ∧ w8.cell? ⟨w.heap.size, 12, none⟩ = some (.int .i64 st) ∧ w8.cell? ⟨w.heap.size, 13, none⟩ = some (.int .i64 br) := boxKeep (HQ8.out) HZB.out HXB.out
              obtain ⟨c0, c1, c2, c3, c4, c5, c6, c7⟩ := RowsAt.eightAt (HA.out.keep (HGL.out.trans (HQ8.out))) hlt
              have hsA : w.heap.size < w8.heap.size := Nat.lt_of_lt_of_le HZB.out (HQ8.out).size
              have hbA : b < w8.heap.size := by omega
              obtain ⟨d0, d1, d2, d3, d4, d5, d6, d7⟩ := RowsAt.eightAt (HA.out.keep (HGL.out.trans (HQ8.out))) hpn
              go_upto_region 16 with fail
              refine wp_region_held_drew (S := fun wx => (∀ b o, (⟨min (b + 1) w8.heap.size, 0, none⟩ : Addr) = ⟨b + 1, 0, none⟩ → wx.cell? ⟨b, o, none⟩ = w8.cell? ⟨b, o, none⟩) ∧ Gr w8 wx) (by kernel_rfl) (held_drew w8) (fun hHeld => ?_)
              refine take_at (i := 0) (oi := _) (d := some 60) (v := ?_) rfl rfl (by kernel_rfl) (by kernel_rfl) (by kernel_rfl) (fun _ _ _ h => h) (Or.inl ⟨by rfl, ?_⟩) hHeld ?_
              rotate_left
              next => (intro w hSw; (try dsimp only at hSw); go_simp; try with_reducible rfl)
              try simp only [Act.put, List.setIfInBounds_toArray, List.set_cons_zero, List.set_cons_succ]
              refine take_at (i := 1) (oi := _) (d := some 61) (v := ?_) rfl rfl (by kernel_rfl) (by kernel_rfl) (by kernel_rfl) (fun _ _ _ h => h) (Or.inl ⟨by rfl, ?_⟩) hHeld ?_
              rotate_left
              next => (intro w hSw; (try dsimp only at hSw); go_simp; try with_reducible rfl)
              try simp only [Act.put, List.setIfInBounds_toArray, List.set_cons_zero, List.set_cons_succ]
              refine take_at (i := 2) (oi := _) (d := some 62) (v := ?_) rfl rfl (by kernel_rfl) (by kernel_rfl) (by kernel_rfl) (fun _ _ _ h => h) (Or.inl ⟨by rfl, ?_⟩) hHeld ?_
              rotate_left
              next => (intro w hSw; (try dsimp only at hSw); go_simp; try with_reducible rfl)
              try simp only [Act.put, List.setIfInBounds_toArray, List.set_cons_zero, List.set_cons_succ]
              refine take_at (i := 3) (oi := _) (d := some 63) (v := ?_) rfl rfl (by kernel_rfl) (by kernel_rfl) (by kernel_rfl) (fun _ _ _ h => h) (Or.inl ⟨by rfl, ?_⟩) hHeld ?_
              rotate_left
              next => (intro w hSw; (try dsimp only at hSw); go_simp; try with_reducible rfl)
              try simp only [Act.put, List.setIfInBounds_toArray, List.set_cons_zero, List.set_cons_succ]
              refine take_at (i := 4) (oi := _) (d := some 64) (v := ?_) rfl rfl (by kernel_rfl) (by kernel_rfl) (by kernel_rfl) (fun _ _ _ h => h) (Or.inl ⟨by rfl, ?_⟩) hHeld ?_
              rotate_left
              next => (intro w hSw; (try dsimp only at hSw); go_simp; try with_reducible rfl)
              try simp only [Act.put, List.setIfInBounds_toArray, List.set_cons_zero, List.set_cons_succ]
              refine take_at (i := 5) (oi := _) (d := some 65) (v := ?_) rfl rfl (by kernel_rfl) (by kernel_rfl) (by kernel_rfl) (fun _ _ _ h => h) (Or.inl ⟨by rfl, ?_⟩) hHeld ?_
              rotate_left
              next => (intro w hSw; (try dsimp only at hSw); go_simp; try with_reducible rfl)
              try simp only [Act.put, List.setIfInBounds_toArray, List.set_cons_zero, List.set_cons_succ]
              refine take_at (i := 6) (oi := _) (d := some 66) (v := ?_) rfl rfl (by kernel_rfl) (by kernel_rfl) (by kernel_rfl) (fun _ _ _ h => h) (Or.inl ⟨by rfl, ?_⟩) hHeld ?_
              rotate_left
              next => (intro w hSw; (try dsimp only at hSw); go_simp; try with_reducible rfl)
              try simp only [Act.put, List.setIfInBounds_toArray, List.set_cons_zero, List.set_cons_succ]
              refine take_at (i := 7) (oi := _) (d := some 67) (v := ?_) rfl rfl (by kernel_rfl) (by kernel_rfl) (by kernel_rfl) (fun _ _ _ h => h) (Or.inl ⟨by rfl, ?_⟩) hHeld ?_
              rotate_left
              next => (intro w hSw; (try dsimp only at hSw); go_simp; try with_reducible rfl)
              try simp only [Act.put, List.setIfInBounds_toArray, List.set_cons_zero, List.set_cons_succ]
              refine take_at (i := 8) (oi := _) (d := some 68) (v := ?_) rfl rfl (by kernel_rfl) (by kernel_rfl) (by kernel_rfl) (fun _ _ _ h => h) (Or.inl ⟨by rfl, ?_⟩) hHeld ?_
              rotate_left
              next => (intro w hSw; (try dsimp only at hSw); go_simp; try with_reducible rfl)
              try simp only [Act.put, List.setIfInBounds_toArray, List.set_cons_zero, List.set_cons_succ]
              refine take_at (i := 9) (oi := _) (d := some 69) (v := ?_) rfl rfl (by kernel_rfl) (by kernel_rfl) (by kernel_rfl) (fun _ _ _ h => h) (Or.inl ⟨by rfl, ?_⟩) hHeld ?_
              rotate_left
              next => (intro w hSw; (try dsimp only at hSw); go_simp; try with_reducible rfl)
              try simp only [Act.put, List.setIfInBounds_toArray, List.set_cons_zero, List.set_cons_succ]
              refine take_at (i := 10) (oi := _) (d := some 70) (v := ?_) rfl rfl (by kernel_rfl) (by kernel_rfl) (by kernel_rfl) (fun _ _ _ h => h) (Or.inl ⟨by rfl, ?_⟩) hHeld ?_
              rotate_left
              next => (intro w hSw; (try dsimp only at hSw); go_simp; try with_reducible rfl)
              try simp only [Act.put, List.setIfInBounds_toArray, List.set_cons_zero, List.set_cons_succ]
              refine take_at (i := 11) (oi := _) (d := some 71) (v := ?_) rfl rfl (by kernel_rfl) (by kernel_rfl) (by kernel_rfl) (fun _ _ _ h => h) (Or.inl ⟨by rfl, ?_⟩) hHeld ?_
              rotate_left
              next => (intro w hSw; (try dsimp only at hSw); go_simp; try with_reducible rfl)
              try simp only [Act.put, List.setIfInBounds_toArray, List.set_cons_zero, List.set_cons_succ]
              refine wpAnyH_ready (rs := [12]) (by kernel_rfl) (by simp) (AllReadyH.cons (o := _) rfl (fun K hK => ?_) AllReadyH.nil)
              go_simp
              go_at_call 16
              refine (HF.out _).mono ?_
              rintro e w' ⟨rfl, hb⟩
              refine hK.out _ _ (held_call hHeld hb) (fun hHeld => ?_)
              clear hK K hb
              try simp only [Act.put, List.setIfInBounds_toArray, List.set_cons_zero, List.set_cons_succ]
              refine take_at (i := 13) (oi := _) (d := some 59) (v := ?_) rfl rfl (by kernel_rfl) (by kernel_rfl) (by kernel_rfl) (fun _ _ _ h => h) (Or.inl ⟨by rfl, ?_⟩) hHeld ?_
              rotate_left
              next => (intro w hSw; (try dsimp only at hSw); go_simp; try with_reducible rfl)
              try simp only [Act.put, List.setIfInBounds_toArray, List.set_cons_zero, List.set_cons_succ]
              refine take_at (i := 14) (oi := _) (d := some 73) (v := ?_) rfl rfl (by kernel_rfl) (by kernel_rfl) (by kernel_rfl) (fun _ _ _ h => h) (Or.inl ⟨by rfl, ?_⟩) hHeld ?_
              rotate_left
              next => (intro w hSw; (try dsimp only at hSw); go_simp; try with_reducible rfl)
              try simp only [Act.put, List.setIfInBounds_toArray, List.set_cons_zero, List.set_cons_succ]
              refine take_at (i := 15) (oi := _) (d := some 74) (v := ?_) rfl rfl (by kernel_rfl) (by kernel_rfl) (by kernel_rfl) (fun _ _ _ h => h) (Or.inl ⟨by rfl, ?_⟩) hHeld ?_
              rotate_left
              next => (intro w hSw; (try dsimp only at hSw); go_simp; try with_reducible rfl)
              try simp only [Act.put, List.setIfInBounds_toArray, List.set_cons_zero, List.set_cons_succ]
              refine take_at (i := 16) (oi := _) (d := some 11) (v := ?_) rfl rfl (by kernel_rfl) (by kernel_rfl) (by kernel_rfl) (fun _ _ _ h => h) (Or.inl ⟨by rfl, ?_⟩) hHeld ?_
              rotate_left
              next => (intro w hSw; (try dsimp only at hSw); go_simp; try with_reducible rfl)
              try simp only [Act.put, List.setIfInBounds_toArray, List.set_cons_zero, List.set_cons_succ]
              refine wpAnyH_done (by kernel_rfl) ?_ _
              obtain ⟨w9, rfl⟩ : ∃ x : World, x = w' := ⟨_, rfl⟩
              have HQ9 := Lib.hid (HQ8.out.trans hHeld.2)
              clear hHeld
              clear hsA hbA x0 x1 x2 x3 x4 x5 x6 x7 x8 x9 x10 x11 x12 x13 c0 c1 c2 c3 c4 c5 c6 c7 d0 d1 d2 d3 d4 d5 d6 d7
              obtain ⟨x0, x1, x2, x3, x4, x5, x6, x7, x8, x9, x10, x11, x12, x13⟩ : w9.cell? ⟨w.heap.size, 0, none⟩ = some (.int .i64 l0) ∧ w9.cell? ⟨w.heap.size, 1, none⟩ = some (.int .i64 l1) ∧ w9.cell? ⟨w.heap.size, 2, none⟩ = some (.int .i64 l2) ∧ w9.cell? ⟨w.heap.size, 3, none⟩ = some (.int .i64 l3) ∧ w9.cell? ⟨w.heap.size, 4, none⟩ = some (.int .i64 l4) ∧ w9.cell? ⟨w.heap.size, 5, none⟩ = some (.int .i64 l5) ∧ w9.cell? ⟨w.heap.size, 6, none⟩ = some (.int .i64 h0) ∧ w9.cell? ⟨w.heap.size, 7, none⟩ = some (.int .i64 h1) ∧ w9.cell? ⟨w.heap.size, 8, none⟩ = some (.int .i64 h2) ∧ w9.cell? ⟨w.heap.size, 9, none⟩ = some (.int .i64 h3) ∧ w9.cell? ⟨w.heap.size, 10, none⟩ = some (.int .i64 h4) ∧ w9.cell? ⟨w.heap.size, 11, none⟩ = some (.int .i64 h5) ∧ w9.cell? ⟨w.heap.size, 12, none⟩ = some (.int .i64 st) ∧ w9.cell? ⟨w.heap.size, 13, none⟩ = some (.int .i64 br) := boxKeep (HQ9.out) HZB.out HXB.out
              obtain ⟨c0, c1, c2, c3, c4, c5, c6, c7⟩ := RowsAt.eightAt (HA.out.keep (HGL.out.trans (HQ9.out))) hlt
              have hsA : w.heap.size < w9.heap.size := Nat.lt_of_lt_of_le HZB.out (HQ9.out).size
              have hbA : b < w9.heap.size := by omega
              obtain ⟨d0, d1, d2, d3, d4, d5, d6, d7⟩ := RowsAt.eightAt (HA.out.keep (HGL.out.trans (HQ9.out))) hpn
              go_upto_region 17 with fail
              go_quiet (fail)
              go_wp2_with fail
              go_ret2
              exact ⟨_, rfl, Or.inr ⟨j, hlt, HAL.out, HS.out, rfl⟩, HGL.out.trans (HQ9.out.trans ((Gr.refl _).drewN _))⟩
    · obtain rfl : n = j := by omega
      obtain ⟨wp, rfl⟩ : ∃ wp : World, wp = wr := ⟨_, rfl⟩
      go_wp2_with fail
      go_ret2
      exact ⟨_, rfl, Or.inl ⟨HAL.out, rfl⟩, HGL.out.trans HGW.out⟩
end Go.Proofs.YtiogfohjepobkaaDoor
