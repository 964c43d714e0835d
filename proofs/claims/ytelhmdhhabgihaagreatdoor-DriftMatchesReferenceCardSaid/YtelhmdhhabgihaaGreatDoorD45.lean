/-
  drift.Far.
  drift.Home.
-/
import Derived.Test.YtelhmdhhabgihaaGreatDoorDr3
import Derived.Test.YtelhmdhhabgihaaGreatDoorD12
import Derived.Test.YtelhmdhhabgihaaGreatDoorFrX
import Derived.Test.YtelhmdhhabgihaaGreatDoorOwnL
namespace Go.Proofs.YtelhmdhhabgihaaGreatDoor
open Go.RowKit

/-- How far a shift is from the unison. -/
def distV (v : V6) : V6 := if signV v = 1 then ⟨v.x0 * 12, v.x1 * 12, v.x2 * 12, v.x3 * 12, v.x4 * 12, v.x5 * 12⟩ else if signV v = -1 then ⟨-(v.x0 * 12), -(v.x1 * 12), -(v.x2 * 12), -(v.x3 * 12), -(v.x4 * 12), -(v.x5 * 12)⟩ else ⟨0, 0, 0, 0, 0, 0⟩
theorem distV_in {v : V6} (h : allIn v 48 6 = true) : allIn (distV v) 576 6 = true := by
  obtain ⟨v0, v1, v2, v3, v4, v5⟩ := v
  obtain ⟨h1, h2⟩ := mul12_in h
  unfold distV
  split
  · exact h1
  · split
    · exact h2
    · decide
theorem shV_dist (v : V6) : shV v = .iface 84 (.agg #[.int .i64 (distV v).x0, .int .i64 (distV v).x1, .int .i64 (distV v).x2, .int .i64 (distV v).x3, .int .i64 (distV v).x4, .int .i64 (distV v).x5]) ∨
    shV v = .iface 86 (.agg #[.int .i64 (distV v).x0, .int .i64 (distV v).x1, .int .i64 (distV v).x2, .int .i64 (distV v).x3, .int .i64 (distV v).x4, .int .i64 (distV v).x5]) ∨
    (shV v = .iface 48 (.agg #[]) ∧ distV v = ⟨0, 0, 0, 0, 0, 0⟩) := by
  rcases signV_cases v with h | h | h
  · refine .inl ?_
    unfold shV distV
    rw [if_pos h, if_pos h]
  · refine .inr (.inl ?_)
    have h1 : ¬ signV v = 1 := by omega
    unfold shV distV
    rw [if_neg h1, if_neg h1, if_pos h, if_pos h]
  · refine .inr (.inr ?_)
    have h1 : ¬ signV v = 1 := by omega
    have h2 : ¬ signV v = -1 := by omega
    unfold shV distV
    rw [if_neg h1, if_neg h1, if_neg h2, if_neg h2]
    exact ⟨rfl, rfl⟩
/-- The first of k sections that is farthest, and how far it is. -/
def farS (g : Nat → Nat → Int) : Nat → Nat × V6
  | 0 => (0, ⟨0, 0, 0, 0, 0, 0⟩)
  | k + 1 => if 0 < cmpP ((distV (rowV g k)).sub (farS g k).2) then (k, distV (rowV g k)) else farS g k
theorem farS_yes (g : Nat → Nat → Int) (k : Nat) (h : 0 < cmpP ((distV (rowV g k)).sub (farS g k).2)) : farS g (k + 1) = (k, distV (rowV g k)) := by rw [farS, if_pos h]
theorem farS_no (g : Nat → Nat → Int) (k : Nat) (h : ¬ 0 < cmpP ((distV (rowV g k)).sub (farS g k).2)) : farS g (k + 1) = farS g k := by rw [farS, if_neg h]
theorem farS_in {g : Nat → Nat → Int} {L : Nat} (h : ∀ k, k < L → allIn (rowV g k) 48 6 = true) : ∀ k, k ≤ L → allIn (farS g k).2 576 6 = true := by
  intro k
  induction k with
  | zero => intro _; exact (show allIn ⟨0, 0, 0, 0, 0, 0⟩ 576 6 = true by decide)
  | succ k ih =>
    intro hk
    rw [farS]
    split
    · exact distV_in (h k (by omega))
    · exact ih (by omega)
/-- The section that Far returns. -/
def farV (nm : Nat → ByteArray) (f : Nat → Nat → Int) (n : Nat) (t : Nat → Nat → Int) (m : Nat) : Int := ((farS (shP f t) (walkN nm f n t m)).1 : Int)
theorem meth_above (n : Nat) (x : Value) (W : World) : (method (n + 1) 84 x "schisma/drift.distance").run Tryz.prog W = .ok (139, x) W := by kernel_rfl
theorem meth_below (n : Nat) (x : Value) (W : World) : (method (n + 1) 86 x "schisma/drift.distance").run Tryz.prog W = .ok (140, x) W := by kernel_rfl
theorem meth_home (n : Nat) (x : Value) (W : World) : (method (n + 1) 48 x "schisma/drift.distance").run Tryz.prog W = .ok (138, x) W := by kernel_rfl
set_option maxRecDepth 100000 in
set_option maxHeartbeats 16000000 in
theorem dist_above (d0 d1 d2 d3 d4 d5 : Int) (w : World) : Calls Tryz.prog 139 #[.agg #[.int .i64 d0, .int .i64 d1, .int .i64 d2, .int .i64 d3, .int .i64 d4, .int .i64 d5]] w fun e w' => e = .returned (.agg #[.int .i64 d0, .int .i64 d1, .int .i64 d2, .int .i64 d3, .int .i64 d4, .int .i64 d5]) ∧ Gr w w' := by
  go_enter Tryz.func139, Tryz.ntmps139
  go_wp2_with fail
  exact bodyPost_ret (v := .agg #[.int .i64 d0, .int .i64 d1, .int .i64 d2, .int .i64 d3, .int .i64 d4, .int .i64 d5]) (by simp [results, Tryz.results139, go_sem]) rfl ⟨rfl, (by repeat (first | with_reducible exact Gr.refl _ | with_reducible refine Gr.alloc ?_ _ | with_reducible refine Gr.drew ?_ | with_reducible refine Gr.trans ?_ (by assumption) | with_reducible refine Gr.setCell ?_ (by (try simp); (try omega)) _))⟩
set_option maxRecDepth 100000 in
set_option maxHeartbeats 16000000 in
theorem dist_below (d0 d1 d2 d3 d4 d5 : Int) (w : World) : Calls Tryz.prog 140 #[.agg #[.int .i64 d0, .int .i64 d1, .int .i64 d2, .int .i64 d3, .int .i64 d4, .int .i64 d5]] w fun e w' => e = .returned (.agg #[.int .i64 d0, .int .i64 d1, .int .i64 d2, .int .i64 d3, .int .i64 d4, .int .i64 d5]) ∧ Gr w w' := by
  go_enter Tryz.func140, Tryz.ntmps140
  go_wp2_with fail
  exact bodyPost_ret (v := .agg #[.int .i64 d0, .int .i64 d1, .int .i64 d2, .int .i64 d3, .int .i64 d4, .int .i64 d5]) (by simp [results, Tryz.results140, go_sem]) rfl ⟨rfl, (by repeat (first | with_reducible exact Gr.refl _ | with_reducible refine Gr.alloc ?_ _ | with_reducible refine Gr.drew ?_ | with_reducible refine Gr.trans ?_ (by assumption) | with_reducible refine Gr.setCell ?_ (by (try simp); (try omega)) _))⟩
set_option maxRecDepth 100000 in
set_option maxHeartbeats 16000000 in
theorem dist_home (w : World) : Calls Tryz.prog 138 #[.agg #[]] w fun e w' => e = .returned (.agg #[.int .i64 0, .int .i64 0, .int .i64 0, .int .i64 0, .int .i64 0, .int .i64 0]) ∧ Gr w w' := by
  go_enter Tryz.func138, Tryz.ntmps138
  go_wp2_with fail
  exact bodyPost_ret (v := .agg #[.int .i64 0, .int .i64 0, .int .i64 0, .int .i64 0, .int .i64 0, .int .i64 0]) (by simp [results, Tryz.results138, go_sem]) rfl ⟨rfl, (by repeat (first | with_reducible exact Gr.refl _ | with_reducible refine Gr.alloc ?_ _ | with_reducible refine Gr.drew ?_ | with_reducible refine Gr.trans ?_ (by assumption) | with_reducible refine Gr.setCell ?_ (by (try simp); (try omega)) _))⟩
set_option maxRecDepth 100000 in
set_option maxHeartbeats 16000000 in
theorem far_any (A B : Option Addr) (n c m d : Nat) (nm : Nat → ByteArray) (f t : Nat → Nat → Int) (w : World) (hA : NamedAt w A n nm f) (hB : RowsAt w 4 B m t) (hP : Primes w) :
    Calls Tryz.prog 10 #[.slice A n c, .slice B m d] w fun e w' => e = .returned (.tuple #[.int .i64 (farV nm f n t m), .int .i64 (walkE nm f n t m)]) ∧ Gr w w' := by
  have hW := dwalk_any A B n c m d nm f t w hA hB hP
  rcases walkE_cases nm f n t m with ⟨e1, e2, e3, e4⟩ | ⟨e1, e2⟩
  · have hFV : farV nm f n t m = ((farS (shP f t) (m + 1)).1 : Int) := by unfold farV; rw [e2]
    rw [e1, e2] at hW
    rw [e1, hFV]
    have hm15 : m ≤ 15 := by
      simp only [walkOk, Bool.and_eq_true, decide_eq_true_eq] at e3
      exact e3.2.1
    have hIN : ∀ k, k < m + 1 → allIn (rowV (shP f t) k) 48 6 = true := fun k hk => by simp only [rowV]; exact rangeB_at e4 (by omega)
    have HW := Lib.hid hW; have HIN := Lib.hid hIN; have HP := Lib.hid hP
    clear hW hIN hA hB hP e1 e2 e3 e4 hFV
    generalize shP f t = g at *
    obtain ⟨L, hL⟩ : ∃ L, L = m + 1 := ⟨_, rfl⟩
    rw [← hL] at HW HIN ⊢
    have hL16 : L ≤ 16 := by omega
    clear hL
    have HFA := Lib.hid (farS_in HIN.out)
    go_enter Tryz.func10, Tryz.ntmps10
    go_wp2_with fail
    go_at_call 20
    refine HW.out.mono ?_
    rintro e w1 ⟨A1, c1, rfl, hv1, hg1⟩
    have HG1 := Lib.hid hg1; have HV1 := Lib.hid hv1
    clear hg1 hv1 HW
    have v0' : ∀ W, W = w1.alloc (.cells #[.int .i64 0, .int .i64 0, .int .i64 0, .int .i64 0, .int .i64 0, .int .i64 0] 54) → SixV W w1.heap.size (.int .i64 0) (.int .i64 0) (.int .i64 0) (.int .i64 0) (.int .i64 0) (.int .i64 0) ∧ w1.heap.size < W.heap.size ∧ (∀ o, W.frozen? ⟨w1.heap.size, o, none⟩ = false) ∧ Gr w1 W := by
      rintro W rfl
      exact ⟨⟨by simp [go_sem], by simp [go_sem], by simp [go_sem], by simp [go_sem], by simp [go_sem], by simp [go_sem]⟩, by simp, fun o => by simp [go_sem], (Gr.refl _).alloc _⟩
    have V0 := Lib.hid v0'
    clear v0'
    go_wp2_with fail
    generalize hW2 : w1.alloc (.cells #[.int .i64 0, .int .i64 0, .int .i64 0, .int .i64 0, .int .i64 0, .int .i64 0] 54) = W2
    have HV0 := Lib.hid (V0.out W2 hW2.symm)
    clear V0 hW2
    obtain ⟨FB, hFB⟩ : ∃ FB, w1.heap.size = FB := ⟨_, rfl⟩
    rw [hFB] at HV0 ⊢
    have HFB := Lib.hid hFB
    clear hFB
    go_loopw [8, 26] (fun fv iv wr => ∃ k : Nat, k ≤ L ∧ fv = .int .i64 ((farS g k).1 : Int) ∧ iv = .int .i64 (k : Int) ∧ Gr w1 wr ∧ SixV wr FB (.int .i64 (farS g k).2.x0) (.int .i64 (farS g k).2.x1) (.int .i64 (farS g k).2.x2) (.int .i64 (farS g k).2.x3) (.int .i64 (farS g k).2.x4) (.int .i64 (farS g k).2.x5) ∧ FB < wr.heap.size ∧ ∀ o, wr.frozen? ⟨FB, o, none⟩ = false) (fun _ iv _ => L - (intOf iv).toNat)
    case atStart => exact ⟨0, Nat.zero_le _, rfl, rfl, HV0.out.2.2.2, HV0.out.1, HV0.out.2.1, HV0.out.2.2.1⟩
    case round =>
      obtain ⟨k, hk, rfl, rfl, hg, hsx, hlb, hfz⟩ := hrel
      have HGR1 := Lib.hid hg; have HGR := Lib.hid (HG1.out.trans hg); have HSX := Lib.hid hsx; have HFZ := Lib.hid hfz
      clear HV0
      obtain ⟨wo, rfl⟩ : ∃ wo : World, wo = wr := ⟨_, rfl⟩
      by_cases hlt : k < L
      · have hlt' : decide ((k : Int) < (L : Int)) = true := decide_eq_true (by omega)
        obtain ⟨b, off, rfl, hbl, hcc⟩ := (HV1.out.keep hg) (by omega)
        have cS := hcc k hlt
        simp only at cS
        obtain ⟨m0, m1, m2, m3, m4, m5⟩ := hsx
        have hFA := HFA.out k hk
        have hDA := distV_in (HIN.out k hlt)
        have hF1 := farS_yes g k
        have hF0 := farS_no g k
        have hDI := shV_dist (rowV g k)
        clear hcc hg hfz
        generalize farS g k = FS at *
        obtain ⟨fi, y0, y1, y2, y3, y4, y5⟩ := FS
        generalize distV (rowV g k) = DV at *
        obtain ⟨d0, d1, d2, d3, d4, d5⟩ := DV
        simp only at m0 m1 m2 m3 m4 m5 hFA hF1 hF0 HSX
        have hCM := fun W (q : Gr w W) => pcmp_ok d0 d1 d2 d3 d4 d5 y0 y1 y2 y3 y4 y5 W (HP.out.keep q) hDA hFA
        generalize cmpP (V6.sub ⟨d0, d1, d2, d3, d4, d5⟩ ⟨y0, y1, y2, y3, y4, y5⟩) = X at *
        have HCM := Lib.hid hCM; have HF1 := Lib.hid hF1; have HF0 := Lib.hid hF0
        clear hCM hF1 hF0 hFA hDA
        rcases hDI with hsv | hsv | ⟨hsv, hz0⟩
        · have HSV := Lib.hid hsv
          have hmt := meth_above
          rw [hsv] at cS
          clear hsv
          by_cases hc : 0 < X
          · have hcb : decide (0 < X) = true := decide_eq_true hc
            have HFN := Lib.hid (HF1.out hc)
            clear hc
            go_wp2_with fail
            go_cut [12, 13] (fun xv ev wx => xv = .int .i64 X ∧ ev = .int .i64 0 ∧ Gr wo wx)
            case first =>
              go_region_held3 (fun wx => (∀ b o, (⟨min (b + 1) wo.heap.size, 0, none⟩ : Addr) = ⟨b + 1, 0, none⟩ → wx.cell? ⟨b, o, none⟩ = wo.cell? ⟨b, o, none⟩) ∧ Gr wo wx) (first | with_reducible exact held_drew _ | with_reducible exact held_call (by assumption) (by assumption) | with_reducible exact held_alloc (by assumption) _ | with_reducible exact held_alloc0 _ _ | with_reducible exact held_anew (by assumption) _ (by omega) | ((repeat (with_reducible refine held_set ?_ (by (try simp); (try omega)) _)); (first | with_reducible assumption | with_reducible exact held_call (by assumption) (by assumption)))) (first | (go_at_call 139; with_reducible refine (dist_above d0 d1 d2 d3 d4 d5 _).mono ?_; rintro e w' ⟨rfl, hb⟩; have hzz := ((held_gr (by assumption)).trans hb).le; have hz := hb.le; obtain ⟨hcx, hfx⟩ := hb.cells; have hn := hb.cellsN; (try simp only [World.size_drew] at hcx hfx hz hn); (try simp only [World.size_setCell] at hcx hfx hz hn); (try simp only [World.size_alloc] at hcx hfx hz hn)) | (go_at_call 22; with_reducible refine (HCM.out _ (HGR.out.trans (held_gr (by assumption)))).mono ?_; rintro e w' ⟨rfl, hb⟩; have hzz := ((held_gr (by assumption)).trans hb).le; have hz := hb.le; obtain ⟨hcx, hfx⟩ := hb.cells; have hn := hb.cellsN; (try simp only [World.size_drew] at hcx hfx hz hn); (try simp only [World.size_setCell] at hcx hfx hz hn); (try simp only [World.size_alloc] at hcx hfx hz hn)))
              all_goals
                go_wp2_with fail
                go_meet
                exact ⟨rfl, rfl, held_gr (by assumption)⟩
            case rest =>
              obtain ⟨rfl, rfl, hgc⟩ := hcut
              have HGC := Lib.hid hgc
              go_wp2_with fail
              (go_at_call 139; with_reducible refine (dist_above d0 d1 d2 d3 d4 d5 _).mono ?_; rintro e w' ⟨rfl, hb⟩; have hz := hb.le; obtain ⟨hc, hf⟩ := hb.cells; have hn := hb.cellsN; (try simp only [World.size_alloc] at hc hf hz hn); (try simp only [World.size_setCell] at hc hf hz hn); (try simp only [World.size_drew] at hc hf hz hn))
              have hgm : Gr wc w' := (by repeat (first | with_reducible exact Gr.refl _ | with_reducible refine Gr.alloc ?_ _ | with_reducible refine Gr.drew ?_ | with_reducible refine Gr.trans ?_ (by assumption) | with_reducible refine Gr.setCell ?_ (by (try simp); (try omega)) _))
              have HG5 := Lib.hid (HGC.out.trans hgm)
              obtain ⟨q0, q1, q2, q3, q4, q5⟩ := HSX.out.keep HG5.out hlb
              have qf : ∀ o, w'.frozen? ⟨FB, o, none⟩ = false := fun o => (Below.frozen (p := ⟨FB, o, none⟩) HG5.out hlb).trans (HFZ.out o)
              have hlb5 := Nat.lt_of_lt_of_le hlb HG5.out.le
              have HS6 := Lib.hid (set6_own (W := w') (b := FB) (SixV.some ⟨q0, q1, q2, q3, q4, q5⟩) (.int .i64 d0) (.int .i64 d1) (.int .i64 d2) (.int .i64 d3) (.int .i64 d4) (.int .i64 d5))
              have HB6 := Lib.hid (set6_below (N := w1.heap.size) (HGR1.out.trans HG5.out) (Nat.le_of_eq HFB.out) (.int .i64 d0) (.int .i64 d1) (.int .i64 d2) (.int .i64 d3) (.int .i64 d4) (.int .i64 d5))
              have HZ6 := Lib.hid (set6_size w' FB (.int .i64 d0) (.int .i64 d1) (.int .i64 d2) (.int .i64 d3) (.int .i64 d4) (.int .i64 d5))
              have HQ6 := Lib.hid (set6_frozen w' FB (.int .i64 d0) (.int .i64 d1) (.int .i64 d2) (.int .i64 d3) (.int .i64 d4) (.int .i64 d5))
              have QF := Lib.hid qf
              clear hb hz hc hf hn hgm hgc
              go_wp2_with fail
              go_roundw
              case rel =>
                refine ⟨k + 1, by omega, by rw [HFN.out], by go_num, HB6.out, ?_, by have := HZ6.out; show FB < (set6 w' FB _ _ _ _ _ _).heap.size; omega, fun o => (HQ6.out _).trans (QF.out o)⟩
                rw [HFN.out]
                exact HS6.out
              case measure => simp [intOf]; omega
          · have hcb : decide (0 < X) = false := decide_eq_false hc
            have HFN := Lib.hid (HF0.out hc)
            clear hc
            go_wp2_with fail
            go_cut [12, 13] (fun xv ev wx => xv = .int .i64 X ∧ ev = .int .i64 0 ∧ Gr wo wx)
            case first =>
              go_region_held3 (fun wx => (∀ b o, (⟨min (b + 1) wo.heap.size, 0, none⟩ : Addr) = ⟨b + 1, 0, none⟩ → wx.cell? ⟨b, o, none⟩ = wo.cell? ⟨b, o, none⟩) ∧ Gr wo wx) (first | with_reducible exact held_drew _ | with_reducible exact held_call (by assumption) (by assumption) | with_reducible exact held_alloc (by assumption) _ | with_reducible exact held_alloc0 _ _ | with_reducible exact held_anew (by assumption) _ (by omega) | ((repeat (with_reducible refine held_set ?_ (by (try simp); (try omega)) _)); (first | with_reducible assumption | with_reducible exact held_call (by assumption) (by assumption)))) (first | (go_at_call 139; with_reducible refine (dist_above d0 d1 d2 d3 d4 d5 _).mono ?_; rintro e w' ⟨rfl, hb⟩; have hzz := ((held_gr (by assumption)).trans hb).le; have hz := hb.le; obtain ⟨hcx, hfx⟩ := hb.cells; have hn := hb.cellsN; (try simp only [World.size_drew] at hcx hfx hz hn); (try simp only [World.size_setCell] at hcx hfx hz hn); (try simp only [World.size_alloc] at hcx hfx hz hn)) | (go_at_call 22; with_reducible refine (HCM.out _ (HGR.out.trans (held_gr (by assumption)))).mono ?_; rintro e w' ⟨rfl, hb⟩; have hzz := ((held_gr (by assumption)).trans hb).le; have hz := hb.le; obtain ⟨hcx, hfx⟩ := hb.cells; have hn := hb.cellsN; (try simp only [World.size_drew] at hcx hfx hz hn); (try simp only [World.size_setCell] at hcx hfx hz hn); (try simp only [World.size_alloc] at hcx hfx hz hn)))
              all_goals
                go_wp2_with fail
                go_meet
                exact ⟨rfl, rfl, held_gr (by assumption)⟩
            case rest =>
              obtain ⟨rfl, rfl, hgc⟩ := hcut
              have HGC := Lib.hid hgc
              have HS6 := Lib.hid (HSX.out.keep hgc hlb)
              have QF : Hid (∀ o, wc.frozen? ⟨FB, o, none⟩ = false) := Lib.hid (fun o => (Below.frozen (p := ⟨FB, o, none⟩) hgc hlb).trans (HFZ.out o))
              have hlb5 := Nat.lt_of_lt_of_le hlb hgc.le
              clear hgc
              go_wp2_with fail
              go_roundw
              case rel =>
                refine ⟨k + 1, by omega, by rw [HFN.out], by go_num, HGR1.out.trans HGC.out, ?_, hlb5, QF.out⟩
                rw [HFN.out]
                exact HS6.out
              case measure => simp [intOf]; omega
        · have HSV := Lib.hid hsv
          have hmt := meth_below
          rw [hsv] at cS
          clear hsv
          by_cases hc : 0 < X
          · have hcb : decide (0 < X) = true := decide_eq_true hc
            have HFN := Lib.hid (HF1.out hc)
            clear hc
            go_wp2_with fail
            go_cut [12, 13] (fun xv ev wx => xv = .int .i64 X ∧ ev = .int .i64 0 ∧ Gr wo wx)
            case first =>
              go_region_held3 (fun wx => (∀ b o, (⟨min (b + 1) wo.heap.size, 0, none⟩ : Addr) = ⟨b + 1, 0, none⟩ → wx.cell? ⟨b, o, none⟩ = wo.cell? ⟨b, o, none⟩) ∧ Gr wo wx) (first | with_reducible exact held_drew _ | with_reducible exact held_call (by assumption) (by assumption) | with_reducible exact held_alloc (by assumption) _ | with_reducible exact held_alloc0 _ _ | with_reducible exact held_anew (by assumption) _ (by omega) | ((repeat (with_reducible refine held_set ?_ (by (try simp); (try omega)) _)); (first | with_reducible assumption | with_reducible exact held_call (by assumption) (by assumption)))) (first | (go_at_call 140; with_reducible refine (dist_below d0 d1 d2 d3 d4 d5 _).mono ?_; rintro e w' ⟨rfl, hb⟩; have hzz := ((held_gr (by assumption)).trans hb).le; have hz := hb.le; obtain ⟨hcx, hfx⟩ := hb.cells; have hn := hb.cellsN; (try simp only [World.size_drew] at hcx hfx hz hn); (try simp only [World.size_setCell] at hcx hfx hz hn); (try simp only [World.size_alloc] at hcx hfx hz hn)) | (go_at_call 22; with_reducible refine (HCM.out _ (HGR.out.trans (held_gr (by assumption)))).mono ?_; rintro e w' ⟨rfl, hb⟩; have hzz := ((held_gr (by assumption)).trans hb).le; have hz := hb.le; obtain ⟨hcx, hfx⟩ := hb.cells; have hn := hb.cellsN; (try simp only [World.size_drew] at hcx hfx hz hn); (try simp only [World.size_setCell] at hcx hfx hz hn); (try simp only [World.size_alloc] at hcx hfx hz hn)))
              all_goals
                go_wp2_with fail
                go_meet
                exact ⟨rfl, rfl, held_gr (by assumption)⟩
            case rest =>
              obtain ⟨rfl, rfl, hgc⟩ := hcut
              have HGC := Lib.hid hgc
              go_wp2_with fail
              (go_at_call 140; with_reducible refine (dist_below d0 d1 d2 d3 d4 d5 _).mono ?_; rintro e w' ⟨rfl, hb⟩; have hz := hb.le; obtain ⟨hc, hf⟩ := hb.cells; have hn := hb.cellsN; (try simp only [World.size_alloc] at hc hf hz hn); (try simp only [World.size_setCell] at hc hf hz hn); (try simp only [World.size_drew] at hc hf hz hn))
              have hgm : Gr wc w' := (by repeat (first | with_reducible exact Gr.refl _ | with_reducible refine Gr.alloc ?_ _ | with_reducible refine Gr.drew ?_ | with_reducible refine Gr.trans ?_ (by assumption) | with_reducible refine Gr.setCell ?_ (by (try simp); (try omega)) _))
              have HG5 := Lib.hid (HGC.out.trans hgm)
              obtain ⟨q0, q1, q2, q3, q4, q5⟩ := HSX.out.keep HG5.out hlb
              have qf : ∀ o, w'.frozen? ⟨FB, o, none⟩ = false := fun o => (Below.frozen (p := ⟨FB, o, none⟩) HG5.out hlb).trans (HFZ.out o)
              have hlb5 := Nat.lt_of_lt_of_le hlb HG5.out.le
              have HS6 := Lib.hid (set6_own (W := w') (b := FB) (SixV.some ⟨q0, q1, q2, q3, q4, q5⟩) (.int .i64 d0) (.int .i64 d1) (.int .i64 d2) (.int .i64 d3) (.int .i64 d4) (.int .i64 d5))
              have HB6 := Lib.hid (set6_below (N := w1.heap.size) (HGR1.out.trans HG5.out) (Nat.le_of_eq HFB.out) (.int .i64 d0) (.int .i64 d1) (.int .i64 d2) (.int .i64 d3) (.int .i64 d4) (.int .i64 d5))
              have HZ6 := Lib.hid (set6_size w' FB (.int .i64 d0) (.int .i64 d1) (.int .i64 d2) (.int .i64 d3) (.int .i64 d4) (.int .i64 d5))
              have HQ6 := Lib.hid (set6_frozen w' FB (.int .i64 d0) (.int .i64 d1) (.int .i64 d2) (.int .i64 d3) (.int .i64 d4) (.int .i64 d5))
              have QF := Lib.hid qf
              clear hb hz hc hf hn hgm hgc
              go_wp2_with fail
              go_roundw
              case rel =>
                refine ⟨k + 1, by omega, by rw [HFN.out], by go_num, HB6.out, ?_, by have := HZ6.out; show FB < (set6 w' FB _ _ _ _ _ _).heap.size; omega, fun o => (HQ6.out _).trans (QF.out o)⟩
                rw [HFN.out]
                exact HS6.out
              case measure => simp [intOf]; omega
          · have hcb : decide (0 < X) = false := decide_eq_false hc
            have HFN := Lib.hid (HF0.out hc)
            clear hc
            go_wp2_with fail
            go_cut [12, 13] (fun xv ev wx => xv = .int .i64 X ∧ ev = .int .i64 0 ∧ Gr wo wx)
            case first =>
              go_region_held3 (fun wx => (∀ b o, (⟨min (b + 1) wo.heap.size, 0, none⟩ : Addr) = ⟨b + 1, 0, none⟩ → wx.cell? ⟨b, o, none⟩ = wo.cell? ⟨b, o, none⟩) ∧ Gr wo wx) (first | with_reducible exact held_drew _ | with_reducible exact held_call (by assumption) (by assumption) | with_reducible exact held_alloc (by assumption) _ | with_reducible exact held_alloc0 _ _ | with_reducible exact held_anew (by assumption) _ (by omega) | ((repeat (with_reducible refine held_set ?_ (by (try simp); (try omega)) _)); (first | with_reducible assumption | with_reducible exact held_call (by assumption) (by assumption)))) (first | (go_at_call 140; with_reducible refine (dist_below d0 d1 d2 d3 d4 d5 _).mono ?_; rintro e w' ⟨rfl, hb⟩; have hzz := ((held_gr (by assumption)).trans hb).le; have hz := hb.le; obtain ⟨hcx, hfx⟩ := hb.cells; have hn := hb.cellsN; (try simp only [World.size_drew] at hcx hfx hz hn); (try simp only [World.size_setCell] at hcx hfx hz hn); (try simp only [World.size_alloc] at hcx hfx hz hn)) | (go_at_call 22; with_reducible refine (HCM.out _ (HGR.out.trans (held_gr (by assumption)))).mono ?_; rintro e w' ⟨rfl, hb⟩; have hzz := ((held_gr (by assumption)).trans hb).le; have hz := hb.le; obtain ⟨hcx, hfx⟩ := hb.cells; have hn := hb.cellsN; (try simp only [World.size_drew] at hcx hfx hz hn); (try simp only [World.size_setCell] at hcx hfx hz hn); (try simp only [World.size_alloc] at hcx hfx hz hn)))
              all_goals
                go_wp2_with fail
                go_meet
                exact ⟨rfl, rfl, held_gr (by assumption)⟩
            case rest =>
              obtain ⟨rfl, rfl, hgc⟩ := hcut
              have HGC := Lib.hid hgc
              have HS6 := Lib.hid (HSX.out.keep hgc hlb)
              have QF : Hid (∀ o, wc.frozen? ⟨FB, o, none⟩ = false) := Lib.hid (fun o => (Below.frozen (p := ⟨FB, o, none⟩) hgc hlb).trans (HFZ.out o))
              have hlb5 := Nat.lt_of_lt_of_le hlb hgc.le
              clear hgc
              go_wp2_with fail
              go_roundw
              case rel =>
                refine ⟨k + 1, by omega, by rw [HFN.out], by go_num, HGR1.out.trans HGC.out, ?_, hlb5, QF.out⟩
                rw [HFN.out]
                exact HS6.out
              case measure => simp [intOf]; omega
        · have HSV := Lib.hid hsv
          have hmt := meth_home
          have hDH : ∀ W, Calls Tryz.prog 138 #[.agg #[]] W fun e w' => e = .returned (.agg #[.int .i64 d0, .int .i64 d1, .int .i64 d2, .int .i64 d3, .int .i64 d4, .int .i64 d5]) ∧ Gr W w' := fun W => by
            obtain ⟨rfl, rfl, rfl, rfl, rfl, rfl⟩ : d0 = 0 ∧ d1 = 0 ∧ d2 = 0 ∧ d3 = 0 ∧ d4 = 0 ∧ d5 = 0 := by simpa using hz0
            exact dist_home W
          have HDH := Lib.hid hDH
          clear hDH hz0
          rw [hsv] at cS
          clear hsv
          by_cases hc : 0 < X
          · have hcb : decide (0 < X) = true := decide_eq_true hc
            have HFN := Lib.hid (HF1.out hc)
            clear hc
            go_wp2_with fail
            go_cut [12, 13] (fun xv ev wx => xv = .int .i64 X ∧ ev = .int .i64 0 ∧ Gr wo wx)
            case first =>
              go_region_held3 (fun wx => (∀ b o, (⟨min (b + 1) wo.heap.size, 0, none⟩ : Addr) = ⟨b + 1, 0, none⟩ → wx.cell? ⟨b, o, none⟩ = wo.cell? ⟨b, o, none⟩) ∧ Gr wo wx) (first | with_reducible exact held_drew _ | with_reducible exact held_call (by assumption) (by assumption) | with_reducible exact held_alloc (by assumption) _ | with_reducible exact held_alloc0 _ _ | with_reducible exact held_anew (by assumption) _ (by omega) | ((repeat (with_reducible refine held_set ?_ (by (try simp); (try omega)) _)); (first | with_reducible assumption | with_reducible exact held_call (by assumption) (by assumption)))) (first | (go_at_call 138; with_reducible refine (HDH.out _).mono ?_; rintro e w' ⟨rfl, hb⟩; have hzz := ((held_gr (by assumption)).trans hb).le; have hz := hb.le; obtain ⟨hcx, hfx⟩ := hb.cells; have hn := hb.cellsN; (try simp only [World.size_drew] at hcx hfx hz hn); (try simp only [World.size_setCell] at hcx hfx hz hn); (try simp only [World.size_alloc] at hcx hfx hz hn)) | (go_at_call 22; with_reducible refine (HCM.out _ (HGR.out.trans (held_gr (by assumption)))).mono ?_; rintro e w' ⟨rfl, hb⟩; have hzz := ((held_gr (by assumption)).trans hb).le; have hz := hb.le; obtain ⟨hcx, hfx⟩ := hb.cells; have hn := hb.cellsN; (try simp only [World.size_drew] at hcx hfx hz hn); (try simp only [World.size_setCell] at hcx hfx hz hn); (try simp only [World.size_alloc] at hcx hfx hz hn)))
              all_goals
                go_wp2_with fail
                go_meet
                exact ⟨rfl, rfl, held_gr (by assumption)⟩
            case rest =>
              obtain ⟨rfl, rfl, hgc⟩ := hcut
              have HGC := Lib.hid hgc
              go_wp2_with fail
              (go_at_call 138; with_reducible refine (HDH.out _).mono ?_; rintro e w' ⟨rfl, hb⟩; have hz := hb.le; obtain ⟨hc, hf⟩ := hb.cells; have hn := hb.cellsN; (try simp only [World.size_alloc] at hc hf hz hn); (try simp only [World.size_setCell] at hc hf hz hn); (try simp only [World.size_drew] at hc hf hz hn))
              have hgm : Gr wc w' := (by repeat (first | with_reducible exact Gr.refl _ | with_reducible refine Gr.alloc ?_ _ | with_reducible refine Gr.drew ?_ | with_reducible refine Gr.trans ?_ (by assumption) | with_reducible refine Gr.setCell ?_ (by (try simp); (try omega)) _))
              have HG5 := Lib.hid (HGC.out.trans hgm)
              obtain ⟨q0, q1, q2, q3, q4, q5⟩ := HSX.out.keep HG5.out hlb
              have qf : ∀ o, w'.frozen? ⟨FB, o, none⟩ = false := fun o => (Below.frozen (p := ⟨FB, o, none⟩) HG5.out hlb).trans (HFZ.out o)
              have hlb5 := Nat.lt_of_lt_of_le hlb HG5.out.le
              have HS6 := Lib.hid (set6_own (W := w') (b := FB) (SixV.some ⟨q0, q1, q2, q3, q4, q5⟩) (.int .i64 d0) (.int .i64 d1) (.int .i64 d2) (.int .i64 d3) (.int .i64 d4) (.int .i64 d5))
              have HB6 := Lib.hid (set6_below (N := w1.heap.size) (HGR1.out.trans HG5.out) (Nat.le_of_eq HFB.out) (.int .i64 d0) (.int .i64 d1) (.int .i64 d2) (.int .i64 d3) (.int .i64 d4) (.int .i64 d5))
              have HZ6 := Lib.hid (set6_size w' FB (.int .i64 d0) (.int .i64 d1) (.int .i64 d2) (.int .i64 d3) (.int .i64 d4) (.int .i64 d5))
              have HQ6 := Lib.hid (set6_frozen w' FB (.int .i64 d0) (.int .i64 d1) (.int .i64 d2) (.int .i64 d3) (.int .i64 d4) (.int .i64 d5))
              have QF := Lib.hid qf
              clear hb hz hc hf hn hgm hgc
              go_wp2_with fail
              go_roundw
              case rel =>
                refine ⟨k + 1, by omega, by rw [HFN.out], by go_num, HB6.out, ?_, by have := HZ6.out; show FB < (set6 w' FB _ _ _ _ _ _).heap.size; omega, fun o => (HQ6.out _).trans (QF.out o)⟩
                rw [HFN.out]
                exact HS6.out
              case measure => simp [intOf]; omega
          · have hcb : decide (0 < X) = false := decide_eq_false hc
            have HFN := Lib.hid (HF0.out hc)
            clear hc
            go_wp2_with fail
            go_cut [12, 13] (fun xv ev wx => xv = .int .i64 X ∧ ev = .int .i64 0 ∧ Gr wo wx)
            case first =>
              go_region_held3 (fun wx => (∀ b o, (⟨min (b + 1) wo.heap.size, 0, none⟩ : Addr) = ⟨b + 1, 0, none⟩ → wx.cell? ⟨b, o, none⟩ = wo.cell? ⟨b, o, none⟩) ∧ Gr wo wx) (first | with_reducible exact held_drew _ | with_reducible exact held_call (by assumption) (by assumption) | with_reducible exact held_alloc (by assumption) _ | with_reducible exact held_alloc0 _ _ | with_reducible exact held_anew (by assumption) _ (by omega) | ((repeat (with_reducible refine held_set ?_ (by (try simp); (try omega)) _)); (first | with_reducible assumption | with_reducible exact held_call (by assumption) (by assumption)))) (first | (go_at_call 138; with_reducible refine (HDH.out _).mono ?_; rintro e w' ⟨rfl, hb⟩; have hzz := ((held_gr (by assumption)).trans hb).le; have hz := hb.le; obtain ⟨hcx, hfx⟩ := hb.cells; have hn := hb.cellsN; (try simp only [World.size_drew] at hcx hfx hz hn); (try simp only [World.size_setCell] at hcx hfx hz hn); (try simp only [World.size_alloc] at hcx hfx hz hn)) | (go_at_call 22; with_reducible refine (HCM.out _ (HGR.out.trans (held_gr (by assumption)))).mono ?_; rintro e w' ⟨rfl, hb⟩; have hzz := ((held_gr (by assumption)).trans hb).le; have hz := hb.le; obtain ⟨hcx, hfx⟩ := hb.cells; have hn := hb.cellsN; (try simp only [World.size_drew] at hcx hfx hz hn); (try simp only [World.size_setCell] at hcx hfx hz hn); (try simp only [World.size_alloc] at hcx hfx hz hn)))
              all_goals
                go_wp2_with fail
                go_meet
                exact ⟨rfl, rfl, held_gr (by assumption)⟩
            case rest =>
              obtain ⟨rfl, rfl, hgc⟩ := hcut
              have HGC := Lib.hid hgc
              have HS6 := Lib.hid (HSX.out.keep hgc hlb)
              have QF : Hid (∀ o, wc.frozen? ⟨FB, o, none⟩ = false) := Lib.hid (fun o => (Below.frozen (p := ⟨FB, o, none⟩) hgc hlb).trans (HFZ.out o))
              have hlb5 := Nat.lt_of_lt_of_le hlb hgc.le
              clear hgc
              go_wp2_with fail
              go_roundw
              case rel =>
                refine ⟨k + 1, by omega, by rw [HFN.out], by go_num, HGR1.out.trans HGC.out, ?_, hlb5, QF.out⟩
                rw [HFN.out]
                exact HS6.out
              case measure => simp [intOf]; omega
      · obtain rfl : L = k := by omega
        have hlt' : decide ((L : Int) < (L : Int)) = false := decide_eq_false (by omega)
        clear hsx
        go_wp2_with fail
        go_ret2
        exact ⟨rfl, HGR.out⟩
  · have hFV : farV nm f n t m = 0 := by unfold farV; rw [e2]; rfl
    rw [e2] at hW
    rw [hFV]
    have HW := Lib.hid hW
    clear hW hA hB hP hFV
    generalize walkE nm f n t m = E at *
    have hE : (E != 0) = true := by rcases e1 with rfl | rfl <;> rfl
    clear e1 e2
    go_enter Tryz.func10, Tryz.ntmps10
    go_wp2_with fail
    go_at_call 20
    refine HW.out.mono ?_
    rintro e w1 ⟨A1, c1, rfl, -, hg1⟩
    go_wp2_with fail
    go_ret2
    exact ⟨rfl, hg1⟩
end Go.Proofs.YtelhmdhhabgihaaGreatDoor

namespace Go.Proofs.YtelhmdhhabgihaaGreatDoor
open Go.RowKit

/-- The first k sections that are at home. -/
def homeL (g : Nat → Nat → Int) : Nat → List Nat
  | 0 => []
  | k + 1 => if signV (rowV g k) = 0 then homeL g k ++ [k] else homeL g k
theorem homeL_len (g : Nat → Nat → Int) : ∀ k, (homeL g k).length ≤ k
  | 0 => Nat.le_refl _
  | k + 1 => by
    have := homeL_len g k
    rw [homeL]
    split
    · simp; omega
    · omega
theorem ta_above (x : Value) (W : World) : (Instr.typeAssert (.iface 84 x) 46 48 true).run Tryz.prog W = .ok (.tuple #[.agg #[], .bool false]) W := by kernel_rfl
theorem ta_below (x : Value) (W : World) : (Instr.typeAssert (.iface 86 x) 46 48 true).run Tryz.prog W = .ok (.tuple #[.agg #[], .bool false]) W := by kernel_rfl
theorem ta_home (W : World) : (Instr.typeAssert (.iface 48 (.agg #[])) 46 48 true).run Tryz.prog W = .ok (.tuple #[.agg #[], .bool true]) W := by kernel_rfl
/-- What Home returns. -/
def HomR (E : Int) (l : List Nat) (w : World) (e : Ending) (w' : World) : Prop := ∃ (A : Option Addr) (c : Nat), e = .returned (.tuple #[.slice A l.length c, .int .i64 E]) ∧ IntsL w' A l ∧ l.length ≤ c ∧ Gr w w'
set_option maxRecDepth 100000 in
set_option maxHeartbeats 16000000 in
theorem home_any (A B : Option Addr) (n c m d : Nat) (nm : Nat → ByteArray) (f t : Nat → Nat → Int) (w : World) (hA : NamedAt w A n nm f) (hB : RowsAt w 4 B m t) (hP : Primes w) :
    Calls Tryz.prog 8 #[.slice A n c, .slice B m d] w (HomR (walkE nm f n t m) (homeL (shP f t) (walkN nm f n t m)) w) := by
  have hW := dwalk_any A B n c m d nm f t w hA hB hP
  rcases walkE_cases nm f n t m with ⟨e1, e2, e3, e4⟩ | ⟨e1, e2⟩
  · rw [e1, e2] at hW
    rw [e1, e2]
    have hm15 : m ≤ 15 := by
      simp only [walkOk, Bool.and_eq_true, decide_eq_true_eq] at e3
      exact e3.2.1
    have HW := Lib.hid hW
    clear hW hA hB hP e1 e2 e3 e4
    generalize shP f t = g at *
    obtain ⟨L, hL⟩ : ∃ L, L = m + 1 := ⟨_, rfl⟩
    rw [← hL] at HW ⊢
    have hL16 : L ≤ 16 := by omega
    clear hL
    obtain ⟨i0, hin, hz0, hz1, hz2⟩ := info_parts infoInt
    have HINF := Lib.hid (And.intro hin (And.intro hz0 (And.intro hz1 hz2)))
    clear hin hz0 hz1 hz2
    go_enter Tryz.func8, Tryz.ntmps8
    go_wp2_with fail
    go_at_call 20
    refine HW.out.mono ?_
    rintro e w1 ⟨A1, c1, rfl, hv1, hg1⟩
    have HG1 := Lib.hid hg1; have HV1 := Lib.hid hv1
    have HL0 : Hid (OwnL w1.heap.size 3 1 w1 (.slice none 0 0) (homeL g 0).length (natC (homeL g 0)) w1) := Lib.hid (OwnL.start _ _ _ _ (Nat.le_refl _))
    clear hg1 hv1 HW
    go_wp2_with fail
    go_loopw [8, 22] (fun lv iv wr => ∃ (LV : Value) (k : Nat), LV = lv ∧ k ≤ L ∧ iv = .int .i64 (k : Int) ∧ OwnL w1.heap.size 3 1 w1 LV (homeL g k).length (natC (homeL g k)) wr) (fun _ iv _ => L - (intOf iv).toNat)
    case atStart => exact ⟨_, 0, rfl, Nat.zero_le _, rfl, HL0.out⟩
    case round =>
      obtain ⟨lv, k, rfl, hk, rfl, hL⟩ := hrel
      have HL2 := Lib.hid hL
      have HGR1 := Lib.hid (hL.toGr (Gr.refl _) (Nat.le_refl _))
      have HGR := Lib.hid (HG1.out.trans HGR1.out)
      have hsz := hL.size
      have hlen := homeL_len g k
      clear HL0
      obtain ⟨wo, rfl⟩ : ∃ wo : World, wo = wr := ⟨_, rfl⟩
      by_cases hlt : k < L
      · have hlt' : decide ((k : Int) < (L : Int)) = true := decide_eq_true (by omega)
        obtain ⟨b, off, rfl, hbl, hcc⟩ := (HV1.out.keep HGR1.out) (by omega)
        have cS := hcc k hlt
        simp only at cS
        obtain ⟨A3, c3', hlv, -, -⟩ := intsL_of_own hL.own
        subst hlv
        clear hL
        rcases signV_cases (rowV g k) with hsg | hsg | hsg
        · have hta := ta_above
          have HS : Hid (homeL g (k + 1) = homeL g k) := Lib.hid (by rw [homeL, if_neg (by omega)])
          obtain ⟨x0, x1, x2, x3, x4, x5, hx⟩ : ∃ x0 x1 x2 x3 x4 x5 : Int, shV (rowV g k) = .iface 84 (.agg #[.int .i64 x0, .int .i64 x1, .int .i64 x2, .int .i64 x3, .int .i64 x4, .int .i64 x5]) := ⟨_, _, _, _, _, _, by unfold shV; rw [if_pos hsg]⟩
          rw [hx] at cS
          clear hx hsg hcc
          go_wp2_with fail
          go_roundw
          case rel => exact ⟨_, k + 1, rfl, by omega, by go_num, by rw [HS.out]; exact HL2.out⟩
          case measure => simp [intOf]; omega
        · have hta := ta_below
          have HS : Hid (homeL g (k + 1) = homeL g k) := Lib.hid (by rw [homeL, if_neg (by omega)])
          obtain ⟨x0, x1, x2, x3, x4, x5, hx⟩ : ∃ x0 x1 x2 x3 x4 x5 : Int, shV (rowV g k) = .iface 86 (.agg #[.int .i64 x0, .int .i64 x1, .int .i64 x2, .int .i64 x3, .int .i64 x4, .int .i64 x5]) := ⟨_, _, _, _, _, _, by unfold shV; rw [if_neg (by omega), if_pos hsg]⟩
          rw [hx] at cS
          clear hx hsg hcc
          go_wp2_with fail
          go_roundw
          case rel => exact ⟨_, k + 1, rfl, by omega, by go_num, by rw [HS.out]; exact HL2.out⟩
          case measure => simp [intOf]; omega
        · have hta := ta_home
          have HS : Hid (homeL g (k + 1) = homeL g k ++ [k]) := Lib.hid (by rw [homeL, if_pos hsg])
          have hx : shV (rowV g k) = .iface 48 (.agg #[]) := by unfold shV; rw [if_neg (by omega), if_neg (by omega)]
          rw [hx] at cS
          clear hx hsg hcc
          go_wp2_with (at_builtin; refine wpList_append_own _ rfl _ _ 25 rfl w1.heap.size 3 i0 (.int .i64 0) 1 8 Tryz.underlying25 HINF.out.1 HINF.out.2.1 HINF.out.2.2.1 HINF.out.2.2.2 rfl (by decide) _ _ _ rfl (HL2.out.own.alloc _) ⟨wo.heap.size, 0, none⟩ 1 1 [.int .i64 (k : Int)] rfl rfl (cell_one_new _ _ _) (by intro u hu; simp at hu; subst hu; rfl) (by unfold maxLen; omega) (by omega) (by simp; omega) ?_; intro lv' w5 hown1 hgrow hnil)
          have HL3 : Hid (OwnL w1.heap.size 3 1 w1 lv' (homeL g (k + 1)).length (natC (homeL g (k + 1))) w5) := Lib.hid (by
            have z := (HL2.out.alloc _).grown hown1 hgrow
            rw [HS.out, natC_snoc, List.length_append]
            exact z)
          clear hown1 hgrow hnil
          go_wp2_with fail
          go_roundw
          case rel => exact ⟨_, k + 1, rfl, by omega, by go_num, HL3.out⟩
          case measure => simp [intOf]; omega
      · obtain rfl : L = k := by omega
        have hlt' : decide ((L : Int) < (L : Int)) = false := decide_eq_false (by omega)
        obtain ⟨A3, c3', hlv, hints, hcap⟩ := intsL_of_own hL.own
        subst hlv
        have HI := Lib.hid (And.intro hints hcap)
        clear hL hints hcap
        go_wp2_with fail
        go_ret2
        exact ⟨_, _, rfl, HI.out.1, HI.out.2, HGR.out⟩
  · rw [e2] at hW ⊢
    have HW := Lib.hid hW
    clear hW hA hB hP
    generalize walkE nm f n t m = E at *
    have hE : (E != 0) = true := by rcases e1 with rfl | rfl <;> rfl
    clear e1 e2
    go_enter Tryz.func8, Tryz.ntmps8
    go_wp2_with fail
    go_at_call 20
    refine HW.out.mono ?_
    rintro e w1 ⟨A1, c1, rfl, -, hg1⟩
    go_wp2_with fail
    go_ret2
    exact ⟨none, 0, rfl, fun h => by simp [homeL] at h, Nat.le_refl _, hg1⟩
end Go.Proofs.YtelhmdhhabgihaaGreatDoor
