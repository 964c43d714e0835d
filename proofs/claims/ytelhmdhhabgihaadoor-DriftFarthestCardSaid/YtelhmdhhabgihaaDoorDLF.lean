/-
  schismalaw25.distance; the law DriftFarthest.
-/
import Derived.Test.YtelhmdhhabgihaaDoorDLJ
import Derived.Test.YtelhmdhhabgihaaDoorSg
namespace Go.Proofs.YtelhmdhhabgihaaDoor
open Go.RowKit

set_option maxRecDepth 100000 in
set_option maxHeartbeats 16000000 in
theorem ldist_any (v0 v1 v2 v3 v4 v5 : Int) (w : World) (hP : Primes w) (hv : allIn ⟨v0, v1, v2, v3, v4, v5⟩ 48 6 = true) (d0 d1 d2 d3 d4 d5 : Int) (hd : distV ⟨v0, v1, v2, v3, v4, v5⟩ = ⟨d0, d1, d2, d3, d4, d5⟩) :
    Calls Tryd.prog 13 #[.agg #[.int .i64 v0, .int .i64 v1, .int .i64 v2, .int .i64 v3, .int .i64 v4, .int .i64 v5]] w fun e w' => e = .returned (.tuple #[.agg #[.int .i64 d0, .int .i64 d1, .int .i64 d2, .int .i64 d3, .int .i64 d4, .int .i64 d5], .bool true]) ∧ Gr w w' := by
  obtain ⟨h1, h2⟩ := mul12_in hv
  rw [distV_law] at hd
  have HOF := Lib.hid (fun W => pof_ok v0 v1 v2 v3 v4 v5 W hv)
  have hDV := fun W => div_ok 0 0 0 0 0 0 (v0 * 12) (v1 * 12) (v2 * 12) (v3 * 12) (v4 * 12) (v5 * 12) W (by decide) h1 (by simp only [Int.zero_sub]; exact h2)
  simp only [Int.zero_sub] at hDV
  have HDV := Lib.hid hDV
  clear hDV
  have hCM := fun W (g : Gr w W) => pcmp_ok (v0 * 12) (v1 * 12) (v2 * 12) (v3 * 12) (v4 * 12) (v5 * 12) (-(v0 * 12)) (-(v1 * 12)) (-(v2 * 12)) (-(v3 * 12)) (-(v4 * 12)) (-(v5 * 12)) W (hP.keep g) h1 h2
  have hS : cmpP (V6.sub ⟨v0 * 12, v1 * 12, v2 * 12, v3 * 12, v4 * 12, v5 * 12⟩ ⟨-(v0 * 12), -(v1 * 12), -(v2 * 12), -(v3 * 12), -(v4 * 12), -(v5 * 12)⟩) = signV ⟨v0, v1, v2, v3, v4, v5⟩ := rfl
  rw [hS] at hCM
  clear hS hP hv h1 h2
  generalize signV ⟨v0, v1, v2, v3, v4, v5⟩ = X at *
  have HCM := Lib.hid hCM
  clear hCM
  by_cases hX : X < 0
  · rw [if_pos hX] at hd
    simp only [V6.mk.injEq] at hd
    obtain ⟨rfl, rfl, rfl, rfl, rfl, rfl⟩ := hd
    have hXb : decide (X < 0) = true := decide_eq_true hX
    go_enter Tryd.func13, Tryd.ntmps13
    go_wp2_with (first | (go_at_call 33; with_reducible refine (HOF.out _).mono ?_; rintro e w' ⟨rfl, hb⟩; have hz := hb.le; obtain ⟨hc, hf⟩ := hb.cells; have hn := hb.cellsN; (try simp only [World.size_alloc] at hc hf hz hn); (try simp only [World.size_setCell] at hc hf hz hn); (try simp only [World.size_drew] at hc hf hz hn)) | (go_at_call 34; with_reducible refine (HDV.out _).mono ?_; rintro e w' ⟨rfl, hb⟩; have hz := hb.le; obtain ⟨hc, hf⟩ := hb.cells; have hn := hb.cellsN; (try simp only [World.size_alloc] at hc hf hz hn); (try simp only [World.size_setCell] at hc hf hz hn); (try simp only [World.size_drew] at hc hf hz hn)) | (go_at_call 14; with_reducible refine (HCM.out _ (by repeat (first | with_reducible exact Gr.refl _ | with_reducible refine Gr.alloc ?_ _ | with_reducible refine Gr.drew ?_ | with_reducible refine Gr.trans ?_ (by assumption) | with_reducible refine Gr.setCell ?_ (by (try simp); (try omega)) _))).mono ?_; rintro e w' ⟨rfl, hb⟩; have hz := hb.le; obtain ⟨hc, hf⟩ := hb.cells; have hn := hb.cellsN; (try simp only [World.size_alloc] at hc hf hz hn); (try simp only [World.size_setCell] at hc hf hz hn); (try simp only [World.size_drew] at hc hf hz hn)))
    refine bodyPost_six (by intro j hj; rcases (show j = 0 ∨ j = 1 ∨ j = 2 ∨ j = 3 ∨ j = 4 ∨ j = 5 by omega) with rfl | rfl | rfl | rfl | rfl | rfl <;> simp [go_sem, *]) ?_
    intro W' hW' s0 s1 s2 s3 s4 s5
    exact bodyPost_ret (v := .tuple #[.agg #[.int .i64 (-(v0 * 12)), .int .i64 (-(v1 * 12)), .int .i64 (-(v2 * 12)), .int .i64 (-(v3 * 12)), .int .i64 (-(v4 * 12)), .int .i64 (-(v5 * 12))], .bool true]) (by simp [results, Tryd.results13, go_sem, s0, s1, s2, s3, s4, s5]) rfl ⟨rfl, hW' _ (by repeat (first | with_reducible exact Gr.refl _ | with_reducible refine Gr.alloc ?_ _ | with_reducible refine Gr.drew ?_ | with_reducible refine Gr.trans ?_ (by assumption) | with_reducible refine Gr.setCell ?_ (by (try simp); (try omega)) _)) (by (try simp); (try omega))⟩
  · rw [if_neg hX] at hd
    simp only [V6.mk.injEq] at hd
    obtain ⟨rfl, rfl, rfl, rfl, rfl, rfl⟩ := hd
    have hXb : decide (X < 0) = false := decide_eq_false hX
    go_enter Tryd.func13, Tryd.ntmps13
    go_wp2_with (first | (go_at_call 33; with_reducible refine (HOF.out _).mono ?_; rintro e w' ⟨rfl, hb⟩; have hz := hb.le; obtain ⟨hc, hf⟩ := hb.cells; have hn := hb.cellsN; (try simp only [World.size_alloc] at hc hf hz hn); (try simp only [World.size_setCell] at hc hf hz hn); (try simp only [World.size_drew] at hc hf hz hn)) | (go_at_call 34; with_reducible refine (HDV.out _).mono ?_; rintro e w' ⟨rfl, hb⟩; have hz := hb.le; obtain ⟨hc, hf⟩ := hb.cells; have hn := hb.cellsN; (try simp only [World.size_alloc] at hc hf hz hn); (try simp only [World.size_setCell] at hc hf hz hn); (try simp only [World.size_drew] at hc hf hz hn)) | (go_at_call 14; with_reducible refine (HCM.out _ (by repeat (first | with_reducible exact Gr.refl _ | with_reducible refine Gr.alloc ?_ _ | with_reducible refine Gr.drew ?_ | with_reducible refine Gr.trans ?_ (by assumption) | with_reducible refine Gr.setCell ?_ (by (try simp); (try omega)) _))).mono ?_; rintro e w' ⟨rfl, hb⟩; have hz := hb.le; obtain ⟨hc, hf⟩ := hb.cells; have hn := hb.cellsN; (try simp only [World.size_alloc] at hc hf hz hn); (try simp only [World.size_setCell] at hc hf hz hn); (try simp only [World.size_drew] at hc hf hz hn)))
    refine bodyPost_six (by intro j hj; rcases (show j = 0 ∨ j = 1 ∨ j = 2 ∨ j = 3 ∨ j = 4 ∨ j = 5 by omega) with rfl | rfl | rfl | rfl | rfl | rfl <;> simp [go_sem, *]) ?_
    intro W' hW' s0 s1 s2 s3 s4 s5
    exact bodyPost_ret (v := .tuple #[.agg #[.int .i64 (v0 * 12), .int .i64 (v1 * 12), .int .i64 (v2 * 12), .int .i64 (v3 * 12), .int .i64 (v4 * 12), .int .i64 (v5 * 12)], .bool true]) (by simp [results, Tryd.results13, go_sem, s0, s1, s2, s3, s4, s5]) rfl ⟨rfl, hW' _ (by repeat (first | with_reducible exact Gr.refl _ | with_reducible refine Gr.alloc ?_ _ | with_reducible refine Gr.drew ?_ | with_reducible refine Gr.trans ?_ (by assumption) | with_reducible refine Gr.setCell ?_ (by (try simp); (try omega)) _)) (by (try simp); (try omega))⟩
set_option maxRecDepth 100000 in
set_option maxHeartbeats 16000000 in
theorem dfar_law (A B : Option Addr) (n ca m d : Nat) (nm : Nat → ByteArray) (f t : Nat → Nat → Int) (w : World) (hP : Primes w) (hL : Logs w) (hA : NamedAt w A n nm f) (hB : RowsAt w 4 B m t) :
    Calls Tryd.prog 3 #[.slice A n ca, .slice B m d] w fun e w' => e = .returned (.bool true) ∧ Gr w w' := by
  have hW1 := fun W (g : Gr w W) => walk_any A B n ca m d nm f t W (hA.keep g) (hB.keep g)
  have hF1 := fun W (g : Gr w W) => far_any A B n ca m d nm f t W (hA.keep g) (hB.keep g) (hP.keep g)
  have HP := Lib.hid hP; have HLG := Lib.hid hL
  rcases walkE_cases nm f n t m with ⟨e1, e2, e3, e4⟩ | ⟨e1, e2⟩
  · rw [e1, e2] at hW1
    rw [e1] at hF1
    have hm15 : m ≤ 15 := (walkOk_parts e3).2.1
    have hIN : ∀ k, k < m + 1 → allIn (rowV (shP f t) k) 48 6 = true := fun k hk => by simp only [rowV]; exact rangeB_at e4 (by omega)
    have hFL := farS_law (shP f t) (by
      have z : rowV (shP f t) 0 = ⟨0, 0, 0, 0, 0, 0⟩ := rfl
      rw [z]
      unfold distV
      rw [(signV_zero ⟨0, 0, 0, 0, 0, 0⟩).2 rfl]
      rfl) (m + 1) (by omega)
    have hFV : farV nm f n t m = ((farS (shP f t) (m + 1)).1 : Int) := by unfold farV; rw [e2]
    rw [hFV] at hF1
    have HW1 := Lib.hid hW1; have HF1 := Lib.hid hF1; have HIN := Lib.hid hIN
    clear hW1 hF1 hP hL hA hB e1 e2 e3 e4 hFV hIN
    generalize shP f t = g at *
    obtain ⟨M, hM⟩ : ∃ M, M = m + 1 := ⟨_, rfl⟩
    rw [← hM] at HW1 HF1 HIN hFL
    have hM16 : M ≤ 16 := by omega
    clear hM
    generalize farS g M = FS at *
    obtain ⟨fi, FD⟩ := FS
    simp only at hFL
    obtain ⟨hfi, rfl, hle, hlt⟩ := hFL
    have HLE := Lib.hid hle; have HLT := Lib.hid hlt
    clear hle hlt
    have HDI := Lib.hid (fun k (hk : k < M) W (q : Gr w W) d0 d1 d2 d3 d4 d5 hd => ldist_any (g k 0) (g k 1) (g k 2) (g k 3) (g k 4) (g k 5) W (HP.out.keep q) (HIN.out k hk) d0 d1 d2 d3 d4 d5 hd)
    have HDA := Lib.hid (fun k (hk : k < M) => distV_in (HIN.out k hk))
    have b1 : decide ((fi : Int) < 0) = false := decide_eq_false (by omega)
    have b2 : decide ((M : Int) ≤ (fi : Int)) = false := decide_eq_false (by omega)
    have b2' : decide (M ≤ fi) = false := decide_eq_false (by omega)
    obtain ⟨y0, y1, y2, y3, y4, y5, hDV⟩ : ∃ y0 y1 y2 y3 y4 y5 : Int, distV (rowV g fi) = ⟨y0, y1, y2, y3, y4, y5⟩ := ⟨_, _, _, _, _, _, rfl⟩
    have HDV := Lib.hid hDV
    clear hDV
    go_enter Tryd.func3, Tryd.ntmps3
    go_wp2_with fail
    go_at_call 10
    refine (dhead_any _ HP.out HLG.out).mono ?_
    rintro e w0 ⟨rfl, hg0⟩
    have HG0 := Lib.hid hg0
    clear hg0
    go_wp2_with fail
    go_at_call 11
    refine (HW1.out _ HG0.out).mono ?_
    rintro e w1 ⟨A1, c1, rfl, hr1, hg1⟩
    have HG1 := Lib.hid (HG0.out.trans hg1); have HR1 := Lib.hid hr1
    clear hg1 hr1
    go_wp2_with fail
    go_at_call 12
    refine (HF1.out _ HG1.out).mono ?_
    rintro e w2 ⟨rfl, hg2⟩
    have HG2 := Lib.hid (HG1.out.trans hg2); have HR2 := Lib.hid (HR1.out.keep hg2)
    clear hg2 HR1
    obtain ⟨b, off, rfl, hbl, s0, s1, s2, s3, s4, s5⟩ := HR2.out.six hfi
    go_wp2_with fail
    go_at_call 13
    refine (HDI.out fi hfi _ HG2.out _ _ _ _ _ _ HDV.out).mono ?_
    rintro e w3 ⟨rfl, hg3⟩
    have HG3 := Lib.hid (HG2.out.trans hg3); have HR3 := Lib.hid (HR2.out.keep hg3)
    clear hg3 HR2 s0 s1 s2 s3 s4 s5 hbl
    have v0' : ∀ W, W = w3.alloc (.cells #[.int .i64 y0, .int .i64 y1, .int .i64 y2, .int .i64 y3, .int .i64 y4, .int .i64 y5] 32) → SixV W w3.heap.size (.int .i64 y0) (.int .i64 y1) (.int .i64 y2) (.int .i64 y3) (.int .i64 y4) (.int .i64 y5) ∧ w3.heap.size < W.heap.size ∧ Gr w3 W := by
      rintro W rfl
      exact ⟨⟨by simp [go_sem], by simp [go_sem], by simp [go_sem], by simp [go_sem], by simp [go_sem], by simp [go_sem]⟩, by simp, (Gr.refl _).alloc _⟩
    have V0 := Lib.hid v0'
    clear v0'
    go_wp2_with fail
    generalize hW4 : w3.alloc (.cells #[.int .i64 y0, .int .i64 y1, .int .i64 y2, .int .i64 y3, .int .i64 y4, .int .i64 y5] 32) = w4
    have HV4 := Lib.hid (V0.out w4 hW4.symm)
    clear V0 hW4
    generalize w3.heap.size = FB at *
    have HG4 := Lib.hid (HG3.out.trans HV4.out.2.2)
    have HR4 := Lib.hid (HR3.out.keep HV4.out.2.2)
    have hFBl := HV4.out.2.1
    clear HR3
    go_loopw [12] (fun iv wr => ∃ i : Nat, i ≤ M ∧ iv = .int .i64 (i : Int) ∧ Gr w4 wr) (fun iv _ => M - (intOf iv).toNat)
    case atStart => exact ⟨0, Nat.zero_le _, rfl, Gr.refl _⟩
    case round =>
      obtain ⟨i, hi, rfl, hg⟩ := hrel
      have HGR := Lib.hid hg
      by_cases hli : i < M
      · have hli' : decide ((i : Int) < (M : Int)) = true := decide_eq_true (by omega)
        have hi0 : (0 : Int) ≤ (i : Int) := by omega
        obtain ⟨b', off', e', hbl, s0, s1, s2, s3, s4, s5⟩ := (HR4.out.keep hg).six hli
        cases e'
        obtain ⟨x0, x1, x2, x3, x4, x5, hDX⟩ : ∃ x0 x1 x2 x3 x4 x5 : Int, distV (rowV g i) = ⟨x0, x1, x2, x3, x4, x5⟩ := ⟨_, _, _, _, _, _, rfl⟩
        have hC1 := HLE.out i hli
        have hC2 := HLT.out i
        have HCM := Lib.hid (fun W (q : Gr w W) => pcmp_ok x0 x1 x2 x3 x4 x5 y0 y1 y2 y3 y4 y5 W (HP.out.keep q) (by rw [← hDX]; exact HDA.out i hli) (by rw [← HDV.out]; exact HDA.out fi hfi))
        rw [hDX, HDV.out] at hC1 hC2
        generalize cmpP (V6.sub ⟨x0, x1, x2, x3, x4, x5⟩ ⟨y0, y1, y2, y3, y4, y5⟩) = X at *
        have q1 : decide (0 < X) = false := decide_eq_false (by omega)
        have HDX := Lib.hid hDX
        have HSIX := Lib.hid (HV4.out.1.keep hg hFBl)
        have hFB2 := Nat.lt_of_lt_of_le hFBl hg.le
        obtain ⟨wo, rfl⟩ : ∃ wo : World, wo = wr := ⟨_, rfl⟩
        clear hDX hg hC1
        by_cases hif : i < fi
        · have q2 : decide ((i : Int) < (fi : Int)) = true := decide_eq_true (by omega)
          have q2' : decide (i < fi) = true := decide_eq_true hif
          have q3 : (X == 0) = false := by have := hC2 hif; simp; omega
          clear hC2 hif
          go_wp2_with fail
          go_at_call 13
          refine (HDI.out i hli _ (HG4.out.trans HGR.out) _ _ _ _ _ _ HDX.out).mono ?_
          rintro e w5 ⟨rfl, hg5⟩
          have HG5 := Lib.hid (HGR.out.trans hg5)
          obtain ⟨z0, z1, z2, z3, z4, z5⟩ := HSIX.out.keep hg5 hFB2
          have hFB3 := Nat.lt_of_lt_of_le hFB2 hg5.le
          clear hg5 s0 s1 s2 s3 s4 s5
          go_wp2_with fail
          go_at_call 14
          refine (HCM.out _ ((HG4.out.trans HG5.out).trans ((Gr.refl _).alloc _))).mono ?_
          rintro e w6 ⟨rfl, hg6⟩
          have HG6 := Lib.hid (HG5.out.trans (((Gr.refl _).alloc _).trans hg6))
          clear hg6 z0 z1 z2 z3 z4 z5
          go_wp2_with fail
          go_roundw
          case rel => exact ⟨i + 1, by omega, by go_num, HG6.out.trans (by repeat (first | with_reducible exact Gr.refl _ | with_reducible refine Gr.alloc ?_ _ | with_reducible refine Gr.drew ?_ | with_reducible refine Gr.trans ?_ (by assumption) | with_reducible refine Gr.setCell ?_ (by (try simp); (try omega)) _))⟩
          case measure => simp [intOf]; omega
        · have q2 : decide ((i : Int) < (fi : Int)) = false := decide_eq_false (by omega)
          have q2' : decide (i < fi) = false := decide_eq_false hif
          clear hC2 hif
          go_wp2_with fail
          go_at_call 13
          refine (HDI.out i hli _ (HG4.out.trans HGR.out) _ _ _ _ _ _ HDX.out).mono ?_
          rintro e w5 ⟨rfl, hg5⟩
          have HG5 := Lib.hid (HGR.out.trans hg5)
          obtain ⟨z0, z1, z2, z3, z4, z5⟩ := HSIX.out.keep hg5 hFB2
          have hFB3 := Nat.lt_of_lt_of_le hFB2 hg5.le
          clear hg5 s0 s1 s2 s3 s4 s5
          go_wp2_with fail
          go_at_call 14
          refine (HCM.out _ ((HG4.out.trans HG5.out).trans ((Gr.refl _).alloc _))).mono ?_
          rintro e w6 ⟨rfl, hg6⟩
          have HG6 := Lib.hid (HG5.out.trans (((Gr.refl _).alloc _).trans hg6))
          clear hg6 z0 z1 z2 z3 z4 z5
          go_wp2_with fail
          go_roundw
          case rel => exact ⟨i + 1, by omega, by go_num, HG6.out.trans (by repeat (first | with_reducible exact Gr.refl _ | with_reducible refine Gr.alloc ?_ _ | with_reducible refine Gr.drew ?_ | with_reducible refine Gr.trans ?_ (by assumption) | with_reducible refine Gr.setCell ?_ (by (try simp); (try omega)) _))⟩
          case measure => simp [intOf]; omega
      · obtain rfl : M = i := by omega
        have hli' : decide ((M : Int) < (M : Int)) = false := decide_eq_false (by omega)
        obtain ⟨wo, rfl⟩ : ∃ wo : World, wo = wr := ⟨_, rfl⟩
        clear hg
        go_wp2_with fail
        go_ret
        exact ⟨rfl, HG4.out.trans HGR.out⟩
  · have hFV : farV nm f n t m = 0 := by unfold farV; rw [e2]; rfl
    rw [e2] at hW1
    rw [hFV] at hF1
    have HW1 := Lib.hid hW1; have HF1 := Lib.hid hF1
    clear hW1 hF1 hP hL hA hB hFV e2
    generalize walkE nm f n t m = E at *
    have hE : (E != 0) = true := by rcases e1 with rfl | rfl <;> rfl
    clear e1
    go_enter Tryd.func3, Tryd.ntmps3
    go_wp2_with fail
    go_at_call 10
    refine (dhead_any _ HP.out HLG.out).mono ?_
    rintro e w0 ⟨rfl, hg0⟩
    have HG0 := Lib.hid hg0
    clear hg0
    go_wp2_with fail
    go_at_call 11
    refine (HW1.out _ HG0.out).mono ?_
    rintro e w1 ⟨A1, c1, rfl, -, hg1⟩
    have HG1 := Lib.hid (HG0.out.trans hg1)
    clear hg1
    go_wp2_with fail
    go_at_call 12
    refine (HF1.out _ HG1.out).mono ?_
    rintro e w2 ⟨rfl, hg2⟩
    have HG2 := Lib.hid (HG1.out.trans hg2)
    clear hg2
    go_wp2_with fail
    go_ret
    exact ⟨rfl, HG2.out⟩
end Go.Proofs.YtelhmdhhabgihaaDoor
