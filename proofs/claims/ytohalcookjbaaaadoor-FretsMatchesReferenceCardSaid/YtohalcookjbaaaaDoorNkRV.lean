/-
  schismaref12.Valid.
-/
import Derived.Test.YtohalcookjbaaaaDoorNkSm
import Derived.Test.YtohalcookjbaaaaDoorHeld
namespace Go.Proofs.YtohalcookjbaaaaDoor
open Go.RowKit

set_option maxRecDepth 100000 in
set_option maxHeartbeats 16000000 in
theorem higher_any (a0 a1 a2 a3 a4 a5 b0 b1 b2 b3 b4 b5 : Int) (w : World) (ha : allIn ⟨a0, a1, a2, a3, a4, a5⟩ 576 6 = true) (hb : allIn ⟨b0, b1, b2, b3, b4, b5⟩ 576 6 = true) :
    Calls Tryd.prog 36 #[.agg #[.int .i64 a0, .int .i64 a1, .int .i64 a2, .int .i64 a3, .int .i64 a4, .int .i64 a5], .agg #[.int .i64 b0, .int .i64 b1, .int .i64 b2, .int .i64 b3, .int .i64 b4, .int .i64 b5]] w fun e w' => e = .returned (.bool (decide (0 < cmpP (V6.sub ⟨a0, a1, a2, a3, a4, a5⟩ ⟨b0, b1, b2, b3, b4, b5⟩)))) ∧ Gr w w' := by
  have HC := Lib.hid (fun W => r3cmp_ok a0 a1 a2 a3 a4 a5 b0 b1 b2 b3 b4 b5 W ha hb)
  clear ha hb
  generalize cmpP (V6.sub ⟨a0, a1, a2, a3, a4, a5⟩ ⟨b0, b1, b2, b3, b4, b5⟩) = C at *
  go_enter Tryd.func36, Tryd.ntmps36
  go_wp2_with fail
  (go_at_call 54; with_reducible refine (HC.out _).mono ?_; rintro e w' ⟨rfl, hb⟩; have hz := hb.le; obtain ⟨hc, hf⟩ := hb.cells; have hn := hb.cellsN; (try simp only [World.size_alloc] at hc hf hz hn); (try simp only [World.size_setCell] at hc hf hz hn); (try simp only [World.size_drew] at hc hf hz hn))
  go_wp2_with fail
  go_ret
  exact ⟨ret_bool (by first | rfl | simp), (by repeat (first | with_reducible exact Gr.refl _ | with_reducible refine Gr.alloc ?_ _ | with_reducible refine Gr.drew ?_ | with_reducible refine Gr.trans ?_ (by assumption) | with_reducible refine Gr.setCell ?_ (by (try simp); (try omega)) _))⟩

set_option maxRecDepth 100000 in
set_option maxHeartbeats 16000000 in
theorem rneck_lim (O Q : Option Addr) (no co nf cq : Nat) (sp tl : Int) (o q : Nat → Nat → Int) (w : World) (hno : no ≤ 9223372036854775807) (hnf : nf ≤ 9223372036854775807) (h : ¬ (1 ≤ no ∧ no ≤ 8 ∧ nf ≤ 36 ∧ 0 ≤ sp ∧ sp ≤ 36 ∧ 0 ≤ tl ∧ tl ≤ 50000)) :
    Calls Tryd.prog 14 #[.agg #[.slice O no co, .slice Q nf cq, .int .i64 sp, .int .i64 tl]] w fun e w' => e = .returned (.bool (neckB no o nf q sp tl)) ∧ Gr w w' := by
  rw [neckB_lim h]
  rcases (by omega : (no < 1) ∨ (1 ≤ no ∧ 8 < no) ∨ (1 ≤ no ∧ no ≤ 8 ∧ 36 < nf) ∨ (1 ≤ no ∧ no ≤ 8 ∧ nf ≤ 36 ∧ sp < 0) ∨ (1 ≤ no ∧ no ≤ 8 ∧ nf ≤ 36 ∧ 0 ≤ sp ∧ 36 < sp) ∨ (1 ≤ no ∧ no ≤ 8 ∧ nf ≤ 36 ∧ 0 ≤ sp ∧ sp ≤ 36 ∧ tl < 0) ∨ (1 ≤ no ∧ no ≤ 8 ∧ nf ≤ 36 ∧ 0 ≤ sp ∧ sp ≤ 36 ∧ 0 ≤ tl ∧ 50000 < tl)) with k0 | ⟨k0, k1⟩ | ⟨k0, k1, k2⟩ | ⟨k0, k1, k2, k3⟩ | ⟨k0, k1, k2, k3, k4⟩ | ⟨k0, k1, k2, k3, k4, k5⟩ | ⟨k0, k1, k2, k3, k4, k5, k6⟩
  all_goals
    clear h
    go_enter Tryd.func14, Tryd.ntmps14
    go_wp2_with fail
    go_ret
    exact ⟨rfl, (by repeat (first | with_reducible exact Gr.refl _ | with_reducible refine Gr.alloc ?_ _ | with_reducible refine Gr.drew ?_ | with_reducible refine Gr.trans ?_ (by assumption) | with_reducible refine Gr.setCell ?_ (by (try simp); (try omega)) _))⟩
/-- The pitch before, in a box. -/
structure LastAt (W : World) (M : Nat) (v : V6) : Prop where
  six : SixV W M (.int .i64 v.x0) (.int .i64 v.x1) (.int .i64 v.x2) (.int .i64 v.x3) (.int .i64 v.x4) (.int .i64 v.x5)
  froz : ∀ o, W.frozen? ⟨M, o, none⟩ = false
  lt : M < W.heap.size
theorem LastAt.keep {W W' : World} {M : Nat} {v : V6} (h : LastAt W M v) (g : Gr W W') : LastAt W' M v :=
  ⟨h.six.keep g h.lt, fun o => (Below.frozen (p := ⟨M, o, none⟩) g h.lt).trans (h.froz o), Nat.lt_of_lt_of_le h.lt g.le⟩
theorem LastAt.store {W : World} {M : Nat} {v : V6} (h : LastAt W M v) (u0 u1 u2 u3 u4 u5 : Int) : LastAt (set6 W M (.int .i64 u0) (.int .i64 u1) (.int .i64 u2) (.int .i64 u3) (.int .i64 u4) (.int .i64 u5)) M ⟨u0, u1, u2, u3, u4, u5⟩ :=
  ⟨set6_own h.six.some _ _ _ _ _ _, fun o => by rw [set6_frozen]; exact h.froz o, by rw [set6_size]; exact h.lt⟩

set_option maxRecDepth 100000 in
set_option maxHeartbeats 16000000 in
theorem rneck_in (O Q : Option Addr) (no co nf cq : Nat) (sp tl : Int) (o q : Nat → Nat → Int) (w : World) (hO : RowsAt w 6 O no o) (hQ : RowsAt w 6 Q nf q) (h : 1 ≤ no ∧ no ≤ 8 ∧ nf ≤ 36 ∧ 0 ≤ sp ∧ sp ≤ 36 ∧ 0 ≤ tl ∧ tl ≤ 50000) :
    Calls Tryd.prog 14 #[.agg #[.slice O no co, .slice Q nf cq, .int .i64 sp, .int .i64 tl]] w fun e w' => e = .returned (.bool (neckB no o nf q sp tl)) ∧ Gr w w' := by
  rw [neckB_in h]
  obtain ⟨k1, k2, k3, k4, k5, k6, k7⟩ := h
  have HO := Lib.hid hO; have HQ := Lib.hid hQ
  clear hO hQ
  have d1 : decide ((no : Int) < 1) = false := decide_eq_false (by omega)
  have d1' : decide (no < 1) = false := decide_eq_false (by omega)
  have d1'' : decide (no = 0) = false := decide_eq_false (by omega)
  have d2 : decide (8 < (no : Int)) = false := decide_eq_false (by omega)
  have d2' : decide (8 < no) = false := decide_eq_false (by omega)
  have d3 : decide (36 < (nf : Int)) = false := decide_eq_false (by omega)
  have d3' : decide (36 < nf) = false := decide_eq_false (by omega)
  have d4 : decide (sp < 0) = false := decide_eq_false (by omega)
  have d5 : decide (36 < sp) = false := decide_eq_false (by omega)
  have d6 : decide (tl < 0) = false := decide_eq_false (by omega)
  have d7 : decide (50000 < tl) = false := decide_eq_false (by omega)
  go_enter Tryd.func14, Tryd.ntmps14
  go_upto_region 4 with fail
  have HB := Lib.hid (neckAt_new w O Q no co nf cq sp tl 24)
  have HG0 : Hid (Gr w (w.alloc (.cells #[.slice O no co, .slice Q nf cq, .int .i64 sp, .int .i64 tl] 24))) := Lib.hid ((Gr.refl _).alloc _)
  clear d1 d1' d1'' d2 d2' d3 d3' d4 d5 d6 d7
  have hs0 : w.heap.size + 1 = (w.alloc (.cells #[.slice O no co, .slice Q nf cq, .int .i64 sp, .int .i64 tl] 24)).heap.size := by simp
  generalize hW0 : w.alloc (.cells #[.slice O no co, .slice Q nf cq, .int .i64 sp, .int .i64 tl] 24) = W0 at *
  clear hW0
  rw [hs0]
  have hLA : LastAt (W0.alloc (.cells #[.int .i64 0, .int .i64 0, .int .i64 0, .int .i64 0, .int .i64 0, .int .i64 0] 39)) W0.heap.size (lastV q 0) := ⟨⟨by simp [go_sem, lastV], by simp [go_sem, lastV], by simp [go_sem, lastV], by simp [go_sem, lastV], by simp [go_sem, lastV], by simp [go_sem, lastV]⟩, by intro o'; simp [go_sem], by simp⟩
  have HL0 := Lib.hid hLA
  have HGL : Hid (Gr W0 (W0.alloc (.cells #[.int .i64 0, .int .i64 0, .int .i64 0, .int .i64 0, .int .i64 0, .int .i64 0] 39))) := Lib.hid ((Gr.refl _).alloc _)
  clear hLA
  go_wp2_with fail
  go_loopw [4] (fun i wr => ∃ k : Nat, k ≤ nf ∧ i = .int .i64 (k : Int) ∧ risesB q k = true ∧ Gr W0 wr ∧ LastAt wr W0.heap.size (lastV q k)) (fun i _ => nf - (intOf i).toNat)
  case atStart => exact ⟨0, Nat.zero_le _, rfl, rfl, HGL.out, HL0.out⟩
  case round =>
    obtain ⟨k, hk, rfl, hok, hg, hla⟩ := hrel
    have HOK := Lib.hid hok; have HGR := Lib.hid hg; have HG := Lib.hid (HG0.out.trans hg)
    have HLA := Lib.hid hla
    obtain ⟨hl0, b0, b1, b2, b3⟩ := HB.out.keep hg
    clear hok hg hla HL0 HGL
    obtain ⟨wo, rfl⟩ : ∃ wo : World, wo = wr := ⟨_, rfl⟩
    by_cases hlt : k < nf
    · obtain ⟨b, off, rfl, hbl, c0, c1, c2, c3, c4, c5⟩ := (HQ.out.keep HG.out).six hlt
      have hlt' : decide ((k : Int) < (nf : Int)) = true := decide_eq_true (by omega)
      have hk0 : (0 : Int) ≤ (k : Int) := by omega
      have hk1 : (k : Int) < (nf : Int) := by omega
      have hV := fun W => r3valid_any (q k 0) (q k 1) (q k 2) (q k 3) (q k 4) (q k 5) W
      rcases bool_tf (allIn (rowV q k) 576 6) with hv | hv
      · have hv' : allIn ⟨q k 0, q k 1, q k 2, q k 3, q k 4, q k 5⟩ 576 6 = true := hv
        rw [hv'] at hV
        have HV := Lib.hid hV
        have hlv := lastV_in HOK.out (Nat.le_refl k)
        have hnext := risesB_next HOK.out hv
        have hbad := fun hc => risesB_no hlt (q := q) (.inr hc)
        obtain ⟨⟨e0, e1, e2, e3, e4, e5⟩, ef, hM⟩ := HLA.out
        generalize hlast : lastV q k = LV at *
        obtain ⟨l0, l1, l2, l3, l4, l5⟩ := LV
        simp only at e0 e1 e2 e3 e4 e5
        have hH := fun W => higher_any (q k 0) (q k 1) (q k 2) (q k 3) (q k 4) (q k 5) l0 l1 l2 l3 l4 l5 W hv' hlv
        change ∀ W, Calls Tryd.prog 36 #[.agg #[.int .i64 (q k 0), .int .i64 (q k 1), .int .i64 (q k 2), .int .i64 (q k 3), .int .i64 (q k 4), .int .i64 (q k 5)], .agg #[.int .i64 l0, .int .i64 l1, .int .i64 l2, .int .i64 l3, .int .i64 l4, .int .i64 l5]] W fun e w' => e = .returned (.bool (decide (0 < cmpP ((rowV q k).sub ⟨l0, l1, l2, l3, l4, l5⟩)))) ∧ Gr W w' at hH
        by_cases hc : 0 < cmpP ((rowV q k).sub ⟨l0, l1, l2, l3, l4, l5⟩)
        · have HN := Lib.hid (hnext hc)
          rw [decide_eq_true hc] at hH
          have HH := Lib.hid hH
          clear hV hv hv' hlv hnext hbad hH hc
          go_wp2_with fail
          (go_at_call 35; with_reducible refine (HV.out _).mono ?_; rintro e w' ⟨rfl, hb⟩; have hz := hb.le; obtain ⟨hc, hf⟩ := hb.cells; have hn := hb.cellsN; (try simp only [World.size_alloc] at hc hf hz hn); (try simp only [World.size_setCell] at hc hf hz hn); (try simp only [World.size_drew] at hc hf hz hn))
          have hgw : Gr wo w' := (by repeat (first | with_reducible exact Gr.refl _ | with_reducible refine Gr.alloc ?_ _ | with_reducible refine Gr.drew ?_ | with_reducible refine Gr.trans ?_ (by assumption) | with_reducible refine Gr.setCell ?_ (by (try simp); (try omega)) _))
          obtain ⟨hl2, b0', b1', b2', b3'⟩ := HB.out.keep (HGR.out.trans hgw)
          obtain ⟨⟨e0', e1', e2', e3', e4', e5'⟩, ef', hM'⟩ := HLA.out.keep hgw
          simp only at e0' e1' e2' e3' e4' e5'
          obtain ⟨b', off', hbo, hbl', c0', c1', c2', c3', c4', c5'⟩ := (HQ.out.keep (HG.out.trans hgw)).six hlt
          cases hbo
          have HGW := Lib.hid hgw
          clear hb hz hc hf hn hgw e0 e1 e2 e3 e4 e5 ef hM c0 c1 c2 c3 c4 c5 hl0 b0 b1 b2 b3 hbl
          obtain ⟨wq, rfl⟩ : ∃ wq : World, wq = w' := ⟨_, rfl⟩
          go_upto_region 10 with fail
          go_cut [6] (fun sv wx => sv = .bool true ∧ Gr wq wx)
          case first =>
            go_region_held3 (fun wx => (∀ b o, (⟨min (b + 1) wq.heap.size, 0, none⟩ : Addr) = ⟨b + 1, 0, none⟩ → wx.cell? ⟨b, o, none⟩ = wq.cell? ⟨b, o, none⟩) ∧ Gr wq wx) (first | with_reducible exact held_drew _ | with_reducible exact held_call (by assumption) (by assumption) | with_reducible exact held_alloc (by assumption) _ | with_reducible exact held_alloc0 _ _ | with_reducible exact held_anew (by assumption) _ (by omega) | ((repeat (with_reducible refine held_set ?_ (by (try simp); (try omega)) _)); (first | with_reducible assumption | with_reducible exact held_call (by assumption) (by assumption)))) (first | (go_at_call 36; with_reducible refine (HH.out _).mono ?_; rintro e w' ⟨rfl, hb⟩; have hzz := ((held_gr (by assumption)).trans hb).le; have hz := hb.le; obtain ⟨hcx, hfx⟩ := hb.cells; have hn := hb.cellsN; (try simp only [World.size_drew] at hcx hfx hz hn); (try simp only [World.size_setCell] at hcx hfx hz hn); (try simp only [World.size_alloc] at hcx hfx hz hn)))
            all_goals
              go_wp2_with fail
              go_meet
              exact ⟨rfl, held_gr (by assumption)⟩
          case rest =>
            obtain ⟨rfl, hgc⟩ := hcut
            have hg3 := HGW.out.trans hgc
            obtain ⟨hl0, b0, b1, b2, b3⟩ := HB.out.keep (HGR.out.trans hg3)
            have hla3 := HLA.out.keep hg3
            have HL3 := Lib.hid hla3
            obtain ⟨⟨e0, e1, e2, e3, e4, e5⟩, ef, hM⟩ := hla3
            simp only at e0 e1 e2 e3 e4 e5
            obtain ⟨b', off', hbo, hbl, c0, c1, c2, c3, c4, c5⟩ := (HQ.out.keep (HG.out.trans hg3)).six hlt
            cases hbo
            have HG3 := Lib.hid (HGR.out.trans hg3)
            clear hgc hg3 e0' e1' e2' e3' e4' e5' ef' hM' c0' c1' c2' c3' c4' c5' hl2 b0' b1' b2' b3' hbl'
            obtain ⟨wt, rfl⟩ : ∃ wt : World, wt = wc := ⟨_, rfl⟩
            go_wp2_with fail
            go_roundw
            case rel => exact ⟨k + 1, by omega, by go_num, HN.out, set6_below HG3.out (Nat.le_refl _) _ _ _ _ _ _, HL3.out.store _ _ _ _ _ _⟩
            case measure => simp [intOf]; omega
        · have HN := Lib.hid (hbad hc)
          rw [decide_eq_false hc] at hH
          have HH := Lib.hid hH
          clear hV hv hv' hlv hnext hbad hH hc
          go_wp2_with fail
          (go_at_call 35; with_reducible refine (HV.out _).mono ?_; rintro e w' ⟨rfl, hb⟩; have hz := hb.le; obtain ⟨hc, hf⟩ := hb.cells; have hn := hb.cellsN; (try simp only [World.size_alloc] at hc hf hz hn); (try simp only [World.size_setCell] at hc hf hz hn); (try simp only [World.size_drew] at hc hf hz hn))
          have hgw : Gr wo w' := (by repeat (first | with_reducible exact Gr.refl _ | with_reducible refine Gr.alloc ?_ _ | with_reducible refine Gr.drew ?_ | with_reducible refine Gr.trans ?_ (by assumption) | with_reducible refine Gr.setCell ?_ (by (try simp); (try omega)) _))
          obtain ⟨hl2, b0', b1', b2', b3'⟩ := HB.out.keep (HGR.out.trans hgw)
          obtain ⟨⟨e0', e1', e2', e3', e4', e5'⟩, ef', hM'⟩ := HLA.out.keep hgw
          simp only at e0' e1' e2' e3' e4' e5'
          obtain ⟨b', off', hbo, hbl', c0', c1', c2', c3', c4', c5'⟩ := (HQ.out.keep (HG.out.trans hgw)).six hlt
          cases hbo
          have HGW := Lib.hid hgw
          clear hb hz hc hf hn hgw e0 e1 e2 e3 e4 e5 ef hM c0 c1 c2 c3 c4 c5 hl0 b0 b1 b2 b3 hbl
          obtain ⟨wq, rfl⟩ : ∃ wq : World, wq = w' := ⟨_, rfl⟩
          go_upto_region 10 with fail
          go_cut [6] (fun sv wx => sv = .bool false ∧ Gr wq wx)
          case first =>
            go_region_held3 (fun wx => (∀ b o, (⟨min (b + 1) wq.heap.size, 0, none⟩ : Addr) = ⟨b + 1, 0, none⟩ → wx.cell? ⟨b, o, none⟩ = wq.cell? ⟨b, o, none⟩) ∧ Gr wq wx) (first | with_reducible exact held_drew _ | with_reducible exact held_call (by assumption) (by assumption) | with_reducible exact held_alloc (by assumption) _ | with_reducible exact held_alloc0 _ _ | with_reducible exact held_anew (by assumption) _ (by omega) | ((repeat (with_reducible refine held_set ?_ (by (try simp); (try omega)) _)); (first | with_reducible assumption | with_reducible exact held_call (by assumption) (by assumption)))) (first | (go_at_call 36; with_reducible refine (HH.out _).mono ?_; rintro e w' ⟨rfl, hb⟩; have hzz := ((held_gr (by assumption)).trans hb).le; have hz := hb.le; obtain ⟨hcx, hfx⟩ := hb.cells; have hn := hb.cellsN; (try simp only [World.size_drew] at hcx hfx hz hn); (try simp only [World.size_setCell] at hcx hfx hz hn); (try simp only [World.size_alloc] at hcx hfx hz hn)))
            all_goals
              go_wp2_with fail
              go_meet
              exact ⟨rfl, held_gr (by assumption)⟩
          case rest =>
            obtain ⟨rfl, hgc⟩ := hcut
            have HG3 := Lib.hid (HG.out.trans (HGW.out.trans hgc))
            clear hgc
            go_wp2_with fail
            go_ret
            exact ⟨ret_bool (by rw [HN.out, Bool.false_and]), HG3.out⟩
      · have hv' : allIn ⟨q k 0, q k 1, q k 2, q k 3, q k 4, q k 5⟩ 576 6 = false := hv
        rw [hv'] at hV
        have HV := Lib.hid hV
        have HN := Lib.hid (risesB_no (q := q) hlt (.inl hv))
        clear hV hv hv'
        go_wp2_with fail
        (go_at_call 35; with_reducible refine (HV.out _).mono ?_; rintro e w' ⟨rfl, hb⟩; have hz := hb.le; obtain ⟨hc, hf⟩ := hb.cells; have hn := hb.cellsN; (try simp only [World.size_alloc] at hc hf hz hn); (try simp only [World.size_setCell] at hc hf hz hn); (try simp only [World.size_drew] at hc hf hz hn))
        go_wp2_with fail
        go_ret
        exact ⟨ret_bool (by rw [HN.out, Bool.false_and]), HG.out.trans (by repeat (first | with_reducible exact Gr.refl _ | with_reducible refine Gr.alloc ?_ _ | with_reducible refine Gr.drew ?_ | with_reducible refine Gr.trans ?_ (by assumption) | with_reducible refine Gr.setCell ?_ (by (try simp); (try omega)) _))⟩
    · obtain rfl : nf = k := by omega
      have HRS := HOK
      have HGX := HGR
      have hlt' : decide ((nf : Int) < (nf : Int)) = false := decide_eq_false (by omega)
      go_wp2_with fail
      clear HOK HGR HG HLA hl0 b0 b1 b2 b3
      go_loopw [7] (fun i wr => ∃ s : Nat, s ≤ no ∧ i = .int .i64 (s : Int) ∧ opensB o q nf s = true ∧ Gr W0 wr) (fun i _ => no - (intOf i).toNat)
      case atStart => exact ⟨0, Nat.zero_le _, rfl, rfl, HGX.out⟩
      case round =>
        obtain ⟨s, hs, rfl, hok, hg⟩ := hrel
        have HOK := Lib.hid hok; have HGR := Lib.hid hg; have HG := Lib.hid (HG0.out.trans hg)
        obtain ⟨hl0, b0, b1, b2, b3⟩ := HB.out.keep hg
        clear hok hg
        obtain ⟨wo, rfl⟩ : ∃ wo : World, wo = wr := ⟨_, rfl⟩
        by_cases hls : s < no
        · obtain ⟨b, off, rfl, hbl, c0, c1, c2, c3, c4, c5⟩ := (HO.out.keep HG.out).six hls
          have hls' : decide ((s : Int) < (no : Int)) = true := decide_eq_true (by omega)
          have hs0' : (0 : Int) ≤ (s : Int) := by omega
          have hs1 : (s : Int) < (no : Int) := by omega
          have hV := fun W => r3valid_any (o s 0) (o s 1) (o s 2) (o s 3) (o s 4) (o s 5) W
          rcases bool_tf (allIn (rowV o s) 576 6) with hv | hv
          · have hv' : allIn ⟨o s 0, o s 1, o s 2, o s 3, o s 4, o s 5⟩ 576 6 = true := hv
            rw [hv'] at hV
            have HV := Lib.hid hV; have HVA := Lib.hid hv
            clear hV hv hv'
            go_wp2_with fail
            (go_at_call 35; with_reducible refine (HV.out _).mono ?_; rintro e w' ⟨rfl, hb⟩; have hz := hb.le; obtain ⟨hc, hf⟩ := hb.cells; have hn := hb.cellsN; (try simp only [World.size_alloc] at hc hf hz hn); (try simp only [World.size_setCell] at hc hf hz hn); (try simp only [World.size_drew] at hc hf hz hn))
            have HGW := Lib.hid (HGR.out.trans (show Gr wo w' from (by repeat (first | with_reducible exact Gr.refl _ | with_reducible refine Gr.alloc ?_ _ | with_reducible refine Gr.drew ?_ | with_reducible refine Gr.trans ?_ (by assumption) | with_reducible refine Gr.setCell ?_ (by (try simp); (try omega)) _))))
            clear hb hz hc hf hn hl0 b0 b1 b2 b3 c0 c1 c2 c3 c4 c5 hbl HGR HG
            obtain ⟨w2, rfl⟩ : ∃ w2 : World, w2 = w' := ⟨_, rfl⟩
            go_wp2_with fail
            go_loopw [9] (fun i wr => ∃ k : Nat, k ≤ nf ∧ i = .int .i64 (k : Int) ∧ fitsB (rowV o s) q k = true ∧ Gr W0 wr) (fun i _ => nf - (intOf i).toNat)
            case atStart => exact ⟨0, Nat.zero_le _, rfl, rfl, HGW.out⟩
            case round =>
              obtain ⟨k, hk, rfl, hfk, hg⟩ := hrel
              have HFK := Lib.hid hfk; have HGR := Lib.hid hg; have HG := Lib.hid (HG0.out.trans hg)
              obtain ⟨hl0, b0, b1, b2, b3⟩ := HB.out.keep hg
              clear hfk hg
              obtain ⟨wk, rfl⟩ : ∃ wk : World, wk = wr := ⟨_, rfl⟩
              by_cases hlk : k < nf
              · obtain ⟨b2', off2, rfl, hbl2, d0, d1, d2, d3, d4, d5⟩ := (HQ.out.keep HG.out).six hlk
                obtain ⟨b3', off3, hbo3, hbl3, c0, c1, c2, c3, c4, c5⟩ := (HO.out.keep HG.out).six hls
                cases hbo3
                have hlk' : decide ((k : Int) < (nf : Int)) = true := decide_eq_true (by omega)
                have hk0 : (0 : Int) ≤ (k : Int) := by omega
                have hk1 : (k : Int) < (nf : Int) := by omega
                have hN0 := cellsN_new_drew wk #[.int .i64 0, .int .i64 0, .int .i64 0, .int .i64 0, .int .i64 0, .int .i64 0] 39
                have hma := HVA.out
                have hmb := (risesB_at HRS.out hlk).1
                rcases bool_tf (allIn ((rowV o s).add (rowV q k)) 576 6) with hr | hr
                · have HN : Hid (fitsB (rowV o s) q (k + 1) = true) := Lib.hid (by simp only [fitsB, HFK.out, hr, Bool.and_self])
                  simp only [V6.add, rowV] at hr hma hmb
                  have HM := Lib.hid (fun W => r3mul_ok (o s 0) (o s 1) (o s 2) (o s 3) (o s 4) (o s 5) (q k 0) (q k 1) (q k 2) (q k 3) (q k 4) (q k 5) W hma hmb hr)
                  clear hr hma hmb
                  go_upto_region 23 with fail
                  go_cut [11] (fun sv wx => sv = .int .i64 0 ∧ Gr wk wx)
                  case first =>
                    go_region_held3 (fun wx => (∀ b o, (⟨min (b + 1) wk.heap.size, 0, none⟩ : Addr) = ⟨b + 1, 0, none⟩ → wx.cell? ⟨b, o, none⟩ = wk.cell? ⟨b, o, none⟩) ∧ Gr wk wx) (first | with_reducible exact held_drew _ | with_reducible exact held_call (by assumption) (by assumption) | with_reducible exact held_alloc (by assumption) _ | with_reducible exact held_alloc0 _ _ | with_reducible exact held_anew (by assumption) _ (by omega) | ((repeat (with_reducible refine held_set ?_ (by (try simp); (try omega)) _)); (first | with_reducible assumption | with_reducible exact held_call (by assumption) (by assumption)))) (first | (go_at_call 37; with_reducible refine (HM.out _).mono ?_; rintro e w' ⟨rfl, hb⟩; have hzz := ((held_gr (by assumption)).trans hb).le; have hz := hb.le; obtain ⟨hcx, hfx⟩ := hb.cells; have hn := hb.cellsN; (try simp only [World.size_drew] at hcx hfx hz hn); (try simp only [World.size_setCell] at hcx hfx hz hn); (try simp only [World.size_alloc] at hcx hfx hz hn)))
                    all_goals
                      go_wp2_with fail
                      go_meet
                      exact ⟨rfl, held_gr (by assumption)⟩
                  case rest =>
                    obtain ⟨rfl, hgc⟩ := hcut
                    have HG3 := Lib.hid (HGR.out.trans hgc)
                    clear hgc
                    go_wp2_with fail
                    go_roundw
                    case rel => exact ⟨k + 1, by omega, by go_num, HN.out, HG3.out⟩
                    case measure => simp [intOf]; omega
                · have HN := Lib.hid (opensB_no (nf := nf) hls (.inr (fitsB_no hlk hr)))
                  simp only [V6.add, rowV] at hr hma hmb
                  have HM := Lib.hid (fun W => r3mul_out (o s 0) (o s 1) (o s 2) (o s 3) (o s 4) (o s 5) (q k 0) (q k 1) (q k 2) (q k 3) (q k 4) (q k 5) W hma hmb hr)
                  clear hr hma hmb
                  go_upto_region 23 with fail
                  go_cut [11] (fun sv wx => sv = .int .i64 3 ∧ Gr wk wx)
                  case first =>
                    go_region_held3 (fun wx => (∀ b o, (⟨min (b + 1) wk.heap.size, 0, none⟩ : Addr) = ⟨b + 1, 0, none⟩ → wx.cell? ⟨b, o, none⟩ = wk.cell? ⟨b, o, none⟩) ∧ Gr wk wx) (first | with_reducible exact held_drew _ | with_reducible exact held_call (by assumption) (by assumption) | with_reducible exact held_alloc (by assumption) _ | with_reducible exact held_alloc0 _ _ | with_reducible exact held_anew (by assumption) _ (by omega) | ((repeat (with_reducible refine held_set ?_ (by (try simp); (try omega)) _)); (first | with_reducible assumption | with_reducible exact held_call (by assumption) (by assumption)))) (first | (go_at_call 37; with_reducible refine (HM.out _).mono ?_; rintro e w' ⟨rfl, hb⟩; have hzz := ((held_gr (by assumption)).trans hb).le; have hz := hb.le; obtain ⟨hcx, hfx⟩ := hb.cells; have hn := hb.cellsN; (try simp only [World.size_drew] at hcx hfx hz hn); (try simp only [World.size_setCell] at hcx hfx hz hn); (try simp only [World.size_alloc] at hcx hfx hz hn)))
                    all_goals
                      go_wp2_with fail
                      go_meet
                      exact ⟨rfl, held_gr (by assumption)⟩
                  case rest =>
                    obtain ⟨rfl, hgc⟩ := hcut
                    have HG3 := Lib.hid (HG.out.trans hgc)
                    clear hgc
                    go_wp2_with fail
                    go_ret
                    exact ⟨ret_bool (by rw [HN.out, Bool.and_false]), HG3.out⟩
              · obtain rfl : nf = k := by omega
                have HN := Lib.hid (opensB_next HOK.out HVA.out HFK.out)
                have hlk' : decide ((nf : Int) < (nf : Int)) = false := decide_eq_false (by omega)
                go_wp2_with fail
                go_roundw
                case rel => exact ⟨s + 1, by omega, by go_num, HN.out, HGR.out⟩
                case measure => simp [intOf]; omega
          · have hv' : allIn ⟨o s 0, o s 1, o s 2, o s 3, o s 4, o s 5⟩ 576 6 = false := hv
            rw [hv'] at hV
            have HV := Lib.hid hV
            have HN := Lib.hid (opensB_no (q := q) (nf := nf) hls (.inl hv))
            clear hV hv hv'
            go_wp2_with fail
            (go_at_call 35; with_reducible refine (HV.out _).mono ?_; rintro e w' ⟨rfl, hb⟩; have hz := hb.le; obtain ⟨hc, hf⟩ := hb.cells; have hn := hb.cellsN; (try simp only [World.size_alloc] at hc hf hz hn); (try simp only [World.size_setCell] at hc hf hz hn); (try simp only [World.size_drew] at hc hf hz hn))
            go_wp2_with fail
            go_ret
            exact ⟨ret_bool (by rw [HN.out, Bool.and_false]), HG.out.trans (by repeat (first | with_reducible exact Gr.refl _ | with_reducible refine Gr.alloc ?_ _ | with_reducible refine Gr.drew ?_ | with_reducible refine Gr.trans ?_ (by assumption) | with_reducible refine Gr.setCell ?_ (by (try simp); (try omega)) _))⟩
        · obtain rfl : no = s := by omega
          have hls' : decide ((no : Int) < (no : Int)) = false := decide_eq_false (by omega)
          go_wp2_with fail
          go_ret
          exact ⟨ret_bool (by rw [HOK.out, HRS.out]; rfl), HG.out⟩
theorem rneck_any (O Q : Option Addr) (no co nf cq : Nat) (sp tl : Int) (o q : Nat → Nat → Int) (w : World) (hO : RowsAt w 6 O no o) (hQ : RowsAt w 6 Q nf q) (hno : no ≤ 9223372036854775807) (hnf : nf ≤ 9223372036854775807) :
    Calls Tryd.prog 14 #[.agg #[.slice O no co, .slice Q nf cq, .int .i64 sp, .int .i64 tl]] w fun e w' => e = .returned (.bool (neckB no o nf q sp tl)) ∧ Gr w w' := by
  by_cases h : 1 ≤ no ∧ no ≤ 8 ∧ nf ≤ 36 ∧ 0 ≤ sp ∧ sp ≤ 36 ∧ 0 ≤ tl ∧ tl ≤ 50000
  · exact rneck_in O Q no co nf cq sp tl o q w hO hQ h
  · exact rneck_lim O Q no co nf cq sp tl o q w hno hnf h
end Go.Proofs.YtohalcookjbaaaaDoor
