/-
  The law BrassBest: its walks.
-/
import Derived.Test.YtbaopniofhbjdaaDoorBHead
import Derived.Test.YtbaopniofhbjdaaDoorHeld
import Derived.WalkSmall
namespace Go.Proofs.YtbaopniofhbjdaaDoor
open Go.RowKit

/-- One of the first n is not fine. -/
def anyNo (r : Nat → Bool) : Nat → Bool
  | 0 => false
  | n + 1 => anyNo r n || !r n
theorem anyNo_iff (r : Nat → Bool) (n : Nat) : anyNo r n = true ↔ ∃ i, i < n ∧ r i = false := by
  induction n with
  | zero => simp [anyNo]
  | succ n ih =>
    simp only [anyNo, Bool.or_eq_true, Bool.not_eq_true', ih]
    constructor
    · rintro (⟨i, h1, h2⟩ | h)
      · exact ⟨i, by omega, h2⟩
      · exact ⟨n, by omega, h⟩
    · rintro ⟨i, h1, h2⟩
      by_cases e : i = n
      · subst e; exact .inr h2
      · exact .inl ⟨i, by omega, h2⟩

set_option maxRecDepth 100000 in
set_option maxHeartbeats 16000000 in
theorem bbest_bad (b0 b1 b2 b3 b4 b5 most tol v0 v1 v2 v3 v4 v5 E F : Int) (A : Option Addr) (n c : Nat) (w : World) (hT : Tabs w)
    (hF : ∀ W, Gr w W → Calls Tryd.prog 17 #[.agg #[.int .i64 b0, .int .i64 b1, .int .i64 b2, .int .i64 b3, .int .i64 b4, .int .i64 b5, .slice A n c, .int .i64 most, .int .i64 tol], .agg #[.int .i64 v0, .int .i64 v1, .int .i64 v2, .int .i64 v3, .int .i64 v4, .int .i64 v5]] W fun e w' => ∃ A c, e = .returned (.tuple #[.slice A 0 c, .int .i64 E]) ∧ Gr W w')
    (hB : ∀ W, Gr w W → Calls Tryd.prog 20 #[.agg #[.int .i64 b0, .int .i64 b1, .int .i64 b2, .int .i64 b3, .int .i64 b4, .int .i64 b5, .slice A n c, .int .i64 most, .int .i64 tol], .agg #[.int .i64 v0, .int .i64 v1, .int .i64 v2, .int .i64 v3, .int .i64 v4, .int .i64 v5]] W fun e w' => e = .returned (.tuple #[.agg #[.int .i64 0, .int .i64 0], .int .i64 F]) ∧ Gr W w')
    (hc : (E = 1 ∧ F = 1) ∨ (E = 0 ∧ F = 4)) :
    Calls Tryd.prog 5 #[.agg #[.int .i64 b0, .int .i64 b1, .int .i64 b2, .int .i64 b3, .int .i64 b4, .int .i64 b5, .slice A n c, .int .i64 most, .int .i64 tol], .agg #[.int .i64 v0, .int .i64 v1, .int .i64 v2, .int .i64 v3, .int .i64 v4, .int .i64 v5]] w fun e w' => e = .returned (.bool true) ∧ Gr w w' := by
  have HT := Lib.hid hT; have HF := Lib.hid hF; have HB := Lib.hid hB
  clear hT hF hB
  rcases hc with ⟨rfl, rfl⟩ | ⟨rfl, rfl⟩
  all_goals
    go_enter Tryd.func5, Tryd.ntmps5
    go_wp2_with (first
      | (go_at_call 12; with_reducible refine (bhead_any _ (HT.out.keep (by repeat (first | with_reducible exact Gr.refl _ | with_reducible refine Gr.alloc ?_ _ | with_reducible refine Gr.drew ?_ | with_reducible refine Gr.trans ?_ (by assumption) | with_reducible refine Gr.setCell ?_ (by (try simp); (try omega)) _)))).mono ?_; rintro e w' ⟨rfl, hb⟩; have hz := hb.le; obtain ⟨hc, hf⟩ := hb.cells; (try simp only [World.size_alloc] at hc hf hz); (try simp only [World.size_setCell] at hc hf hz); (try simp only [World.size_drew] at hc hf hz))
      | (go_at_call 17; with_reducible refine (HF.out _ (by repeat (first | with_reducible exact Gr.refl _ | with_reducible refine Gr.alloc ?_ _ | with_reducible refine Gr.drew ?_ | with_reducible refine Gr.trans ?_ (by assumption) | with_reducible refine Gr.setCell ?_ (by (try simp); (try omega)) _))).mono ?_; rintro e w' ⟨A1, c1, rfl, hb⟩; have hz := hb.le; obtain ⟨hc, hf⟩ := hb.cells; (try simp only [World.size_alloc] at hc hf hz))
      | (go_at_call 20; with_reducible refine (HB.out _ (by repeat (first | with_reducible exact Gr.refl _ | with_reducible refine Gr.alloc ?_ _ | with_reducible refine Gr.drew ?_ | with_reducible refine Gr.trans ?_ (by assumption) | with_reducible refine Gr.setCell ?_ (by (try simp); (try omega)) _))).mono ?_; rintro e w' ⟨rfl, hb⟩; have hz := hb.le; obtain ⟨hc, hf⟩ := hb.cells; (try simp only [World.size_alloc] at hc hf hz); (try simp only [World.size_setCell] at hc hf hz); (try simp only [World.size_drew] at hc hf hz)))
    go_ret
    exact ⟨rfl, (by repeat (first | with_reducible exact Gr.refl _ | with_reducible refine Gr.alloc ?_ _ | with_reducible refine Gr.drew ?_ | with_reducible refine Gr.trans ?_ (by assumption) | with_reducible refine Gr.setCell ?_ (by (try simp); (try omega)) _))⟩

set_option maxRecDepth 100000 in
set_option maxHeartbeats 16000000 in
theorem bbest_good (b0 b1 b2 b3 b4 b5 most tol v0 v1 v2 v3 v4 v5 x s F d0 d1 d2 d3 d4 d5 : Int) (A : Option Addr) (n c N : Nat) (g : Nat → Nat → Int) (r : Nat → Bool) (y : Nat → Nat → Int) (C : Nat → Int) (w : World) (hT : Tabs w)
    (hF : ∀ W, Gr w W → Calls Tryd.prog 17 #[.agg #[.int .i64 b0, .int .i64 b1, .int .i64 b2, .int .i64 b3, .int .i64 b4, .int .i64 b5, .slice A n c, .int .i64 most, .int .i64 tol], .agg #[.int .i64 v0, .int .i64 v1, .int .i64 v2, .int .i64 v3, .int .i64 v4, .int .i64 v5]] W fun e w' => ∃ A c, e = .returned (.tuple #[.slice A N c, .int .i64 0]) ∧ RowsAt w' 2 A N g ∧ Gr W w')
    (hB : ∀ W, Gr w W → Calls Tryd.prog 20 #[.agg #[.int .i64 b0, .int .i64 b1, .int .i64 b2, .int .i64 b3, .int .i64 b4, .int .i64 b5, .slice A n c, .int .i64 most, .int .i64 tol], .agg #[.int .i64 v0, .int .i64 v1, .int .i64 v2, .int .i64 v3, .int .i64 v4, .int .i64 v5]] W fun e w' => e = .returned (.tuple #[.agg #[.int .i64 x, .int .i64 s], .int .i64 F]) ∧ Gr W w')
    (hD : ∀ k, k < N → ∀ W, Gr w W → Calls Tryd.prog 26 #[.agg #[.int .i64 b0, .int .i64 b1, .int .i64 b2, .int .i64 b3, .int .i64 b4, .int .i64 b5, .slice A n c, .int .i64 most, .int .i64 tol], .agg #[.int .i64 (g k 0), .int .i64 (g k 1)], .agg #[.int .i64 v0, .int .i64 v1, .int .i64 v2, .int .i64 v3, .int .i64 v4, .int .i64 v5]] W fun e w' => e = .returned (.tuple #[.agg #[.int .i64 (y k 0), .int .i64 (y k 1), .int .i64 (y k 2), .int .i64 (y k 3), .int .i64 (y k 4), .int .i64 (y k 5)], .bool (r k)]) ∧ Gr W w')
    (hN : N ≤ 9223372036854775807)
    (hcase : (F = 3 ∧ anyNo r N = true) ∨ (F = 0 ∧ anyNo r N = false ∧ hasR g x s N = true ∧
      (∀ W, Gr w W → Calls Tryd.prog 26 #[.agg #[.int .i64 b0, .int .i64 b1, .int .i64 b2, .int .i64 b3, .int .i64 b4, .int .i64 b5, .slice A n c, .int .i64 most, .int .i64 tol], .agg #[.int .i64 x, .int .i64 s], .agg #[.int .i64 v0, .int .i64 v1, .int .i64 v2, .int .i64 v3, .int .i64 v4, .int .i64 v5]] W fun e w' => e = .returned (.tuple #[.agg #[.int .i64 d0, .int .i64 d1, .int .i64 d2, .int .i64 d3, .int .i64 d4, .int .i64 d5], .bool true]) ∧ Gr W w') ∧
      (∀ k, k < N → r k = true ∧ ¬ 0 < C k ∧ ∀ W, Gr w W → Calls Tryd.prog 27 #[.agg #[.int .i64 d0, .int .i64 d1, .int .i64 d2, .int .i64 d3, .int .i64 d4, .int .i64 d5], .agg #[.int .i64 (y k 0), .int .i64 (y k 1), .int .i64 (y k 2), .int .i64 (y k 3), .int .i64 (y k 4), .int .i64 (y k 5)]] W fun e w' => e = .returned (.tuple #[.int .i64 (C k), .int .i64 0]) ∧ Gr W w'))) :
    Calls Tryd.prog 5 #[.agg #[.int .i64 b0, .int .i64 b1, .int .i64 b2, .int .i64 b3, .int .i64 b4, .int .i64 b5, .slice A n c, .int .i64 most, .int .i64 tol], .agg #[.int .i64 v0, .int .i64 v1, .int .i64 v2, .int .i64 v3, .int .i64 v4, .int .i64 v5]] w fun e w' => e = .returned (.bool true) ∧ Gr w w' := by
  have HT := Lib.hid hT; have HF := Lib.hid hF; have HB := Lib.hid hB; have HD := Lib.hid hD; have HCASE := Lib.hid hcase
  have hF4 : F = 3 ∨ F = 0 := hcase.imp And.left And.left
  clear hT hF hB hD hcase
  have e4 : (F == 4) = false := by rcases hF4 with rfl | rfl <;> rfl
  go_enter Tryd.func5, Tryd.ntmps5
  go_upto_region 8 with (first
    | (go_at_call 12; with_reducible refine (bhead_any _ (HT.out.keep (by repeat (first | with_reducible exact Gr.refl _ | with_reducible refine Gr.alloc ?_ _ | with_reducible refine Gr.drew ?_ | with_reducible refine Gr.trans ?_ (by assumption) | with_reducible refine Gr.setCell ?_ (by (try simp); (try omega)) _)))).mono ?_; rintro e w' ⟨rfl, hb⟩; have hz := hb.le; obtain ⟨hc, hf⟩ := hb.cells; (try simp only [World.size_alloc] at hc hf hz); (try simp only [World.size_setCell] at hc hf hz); (try simp only [World.size_drew] at hc hf hz))
    | (go_at_call 17; with_reducible refine (HF.out _ (by repeat (first | with_reducible exact Gr.refl _ | with_reducible refine Gr.alloc ?_ _ | with_reducible refine Gr.drew ?_ | with_reducible refine Gr.trans ?_ (by assumption) | with_reducible refine Gr.setCell ?_ (by (try simp); (try omega)) _))).mono ?_; rintro e w2 ⟨A1, c1, rfl, hr, hb2⟩; have HR := Lib.hid hr; clear hr; have hz2 := hb2.le; obtain ⟨hc2, hf2⟩ := hb2.cells; (try simp only [World.size_alloc] at hc2 hf2 hz2))
    | (go_at_call 20; with_reducible refine (HB.out _ (by repeat (first | with_reducible exact Gr.refl _ | with_reducible refine Gr.alloc ?_ _ | with_reducible refine Gr.drew ?_ | with_reducible refine Gr.trans ?_ (by assumption) | with_reducible refine Gr.setCell ?_ (by (try simp); (try omega)) _))).mono ?_; rintro e w3 ⟨rfl, hb3⟩; have hz3 := hb3.le; obtain ⟨hc3, hf3⟩ := hb3.cells; (try simp only [World.size_alloc] at hc3 hf3 hz3)))
  have k1 : HornAt (w3.alloc (.cells #[.int .i64 x, .int .i64 s] 28)) w.heap.size b0 b1 b2 b3 b4 b5 (.slice A n c) most tol := ⟨by simp [go_sem, *], by simp [go_sem, *], by simp [go_sem, *], by simp [go_sem, *], by simp [go_sem, *], by simp [go_sem, *], by simp [go_sem, *], by simp [go_sem, *], by simp [go_sem, *]⟩
  have k2 : SixV (w3.alloc (.cells #[.int .i64 x, .int .i64 s] 28)) (w.heap.size + 1) (.int .i64 v0) (.int .i64 v1) (.int .i64 v2) (.int .i64 v3) (.int .i64 v4) (.int .i64 v5) := ⟨by simp [go_sem, *], by simp [go_sem, *], by simp [go_sem, *], by simp [go_sem, *], by simp [go_sem, *], by simp [go_sem, *]⟩
  have k3 : (w3.alloc (.cells #[.int .i64 x, .int .i64 s] 28)).cell? ⟨w3.heap.size, 0, none⟩ = some (.int .i64 x) := by simp [go_sem]
  have k4 : (w3.alloc (.cells #[.int .i64 x, .int .i64 s] 28)).cell? ⟨w3.heap.size, 1, none⟩ = some (.int .i64 s) := by simp [go_sem]
  have z1 : w.heap.size + 2 ≤ (w3.alloc (.cells #[.int .i64 x, .int .i64 s] 28)).heap.size := by simp; omega
  have z2 : w3.heap.size < (w3.alloc (.cells #[.int .i64 x, .int .i64 s] 28)).heap.size := by simp
  have g1 : Gr w (w3.alloc (.cells #[.int .i64 x, .int .i64 s] 28)) := (by repeat (first | with_reducible exact Gr.refl _ | with_reducible refine Gr.alloc ?_ _ | with_reducible refine Gr.drew ?_ | with_reducible refine Gr.trans ?_ (by assumption) | with_reducible refine Gr.setCell ?_ (by (try simp); (try omega)) _))
  have HRW := Lib.hid (HR.out.keep (show Gr w2 (w3.alloc (.cells #[.int .i64 x, .int .i64 s] 28)) from (by repeat (first | with_reducible exact Gr.refl _ | with_reducible refine Gr.alloc ?_ _ | with_reducible refine Gr.drew ?_ | with_reducible refine Gr.trans ?_ (by assumption) | with_reducible refine Gr.setCell ?_ (by (try simp); (try omega)) _))))
  have HG := Lib.hid g1; have HK1 := Lib.hid k1; have HK2 := Lib.hid k2; have HK3 := Lib.hid (And.intro k3 k4)
  clear hb hz hc hf hb2 hz2 hc2 hf2 hb3 hz3 hc3 hf3 k1 k2 k3 k4 g1 HR HF HB
  generalize (w3.alloc (.cells #[.int .i64 x, .int .i64 s] 28)) = W0 at *
  generalize w3.heap.size = Bq at *
  go_wp2_with fail
  go_loopw [10, 11] (fun o i wr => ∃ k : Nat, k ≤ N ∧ i = .int .i64 k ∧ o = .bool (anyNo r k) ∧ Gr W0 wr) (fun _ i _ => N - (intOf i).toNat)
  case atStart => exact ⟨0, Nat.zero_le _, rfl, rfl, Gr.refl _⟩
  case round =>
    obtain ⟨k, hk, rfl, rfl, hg⟩ := hrel
    have HGW := Lib.hid hg
    have hzw := hg.size
    clear hg
    by_cases hlt : k < N
    · obtain ⟨b, off, rfl, hbl, c0, c1'⟩ := (HRW.out.keep HGW.out).two hlt
      obtain ⟨p0, p1, p2, p3, p4, p5, p6, p7, p8⟩ := HK1.out.keep HGW.out (show w.heap.size < W0.heap.size by omega)
      obtain ⟨u0, u1, u2, u3, u4, u5⟩ := HK2.out.keep HGW.out (show w.heap.size + 1 < W0.heap.size by omega)
      have HDK := Lib.hid (fun W (h : Gr wr W) => HD.out k hlt W (HG.out.trans (HGW.out.trans h)))
      have hN0 := cellsN_new_drew wr #[.int .i64 0, .int .i64 0, .int .i64 0, .int .i64 0, .int .i64 0, .int .i64 0] 23
      obtain ⟨wo, rfl⟩ : ∃ wo : World, wo = wr := ⟨_, rfl⟩
      go_wp2_with fail
      go_cut [12, 13] (fun _ s13 wx => s13 = .bool (r k) ∧ Gr wo wx)
      case first =>
        go_region_held3 (fun wx => (∀ b o, (⟨min (b + 1) wo.heap.size, 0, none⟩ : Addr) = ⟨b + 1, 0, none⟩ → wx.cell? ⟨b, o, none⟩ = wo.cell? ⟨b, o, none⟩) ∧ Gr wo wx) (first | with_reducible exact held_drew _ | with_reducible exact held_call (by assumption) (by assumption) | with_reducible exact held_alloc (by assumption) _ | with_reducible exact held_alloc0 _ _ | with_reducible exact held_anew (by assumption) _ (by omega) | ((repeat (with_reducible refine held_set ?_ (by (try simp); (try omega)) _)); (first | with_reducible assumption | with_reducible exact held_call (by assumption) (by assumption))))
          (first | (go_at_call 26; with_reducible refine (HDK.out _ (held_gr (by assumption))).mono ?_; rintro e w' ⟨rfl, hb⟩; have hzz := ((held_gr (by assumption)).trans hb).le; have hz := hb.le; obtain ⟨hcx, hfx⟩ := hb.cells; have hn := hb.cellsN; (try simp only [World.size_drew] at hcx hfx hz hn); (try simp only [World.size_setCell] at hcx hfx hz hn); (try simp only [World.size_alloc] at hcx hfx hz hn)))
        all_goals
          go_wp2_with fail
          go_meet
          exact ⟨rfl, held_gr (by assumption)⟩
      case rest =>
        obtain ⟨rfl, hgc⟩ := hcut
        have HGC := Lib.hid hgc
        clear hgc p0 p1 p2 p3 p4 p5 p6 p7 p8 u0 u1 u2 u3 u4 u5 c0 c1' hN0
        cases h1 : anyNo r k <;> cases h2 : r k
        all_goals
          go_wp2_with fail
          go_roundw
          case rel => exact ⟨k + 1, by omega, by go_num, by simp [anyNo, h1, h2], HGW.out.trans HGC.out⟩
          case measure => simp [intOf]; omega
    · obtain rfl : k = N := by omega
      rcases HCASE.out with ⟨rfl, hno⟩ | ⟨rfl, hno, hhas, hd, hcm⟩
      · rw [hno]
        clear hno
        obtain ⟨wo, rfl⟩ : ∃ wo : World, wo = wr := ⟨_, rfl⟩
        go_wp2_with fail
        go_ret
        exact ⟨rfl, HG.out.trans HGW.out⟩
      · rw [hno]
        have HHAS := Lib.hid (fun W (h : Gr wr W) => has_any A1 k c1 g x s W (HRW.out.keep (HGW.out.trans h)) hN)
        rw [hhas] at HHAS
        have HD2 := Lib.hid (fun W (h : Gr wr W) => hd W (HG.out.trans (HGW.out.trans h)))
        have HCM := Lib.hid hcm
        obtain ⟨p0, p1, p2, p3, p4, p5, p6, p7, p8⟩ := HK1.out.keep HGW.out (show w.heap.size < W0.heap.size by omega)
        obtain ⟨u0, u1, u2, u3, u4, u5⟩ := HK2.out.keep HGW.out (show w.heap.size + 1 < W0.heap.size by omega)
        have x0 := (Below.cell (p := ⟨Bq, 0, none⟩) HGW.out z2).trans HK3.out.1
        have x1 := (Below.cell (p := ⟨Bq, 1, none⟩) HGW.out z2).trans HK3.out.2
        clear hno hhas hd hcm
        obtain ⟨wo, rfl⟩ : ∃ wo : World, wo = wr := ⟨_, rfl⟩
        go_upto_region 19 with (first
          | (go_at_call 26; with_reducible refine (HD2.out _ (Gr.refl _)).mono ?_; rintro e w5 ⟨rfl, hb5⟩; have hz5 := hb5.le; obtain ⟨hc5, hf5⟩ := hb5.cells; (try simp only [World.size_alloc] at hc5 hf5 hz5))
          | (go_at_call 24; with_reducible refine (HHAS.out _ (by repeat (first | with_reducible exact Gr.refl _ | with_reducible refine Gr.alloc ?_ _ | with_reducible refine Gr.drew ?_ | with_reducible refine Gr.trans ?_ (by assumption) | with_reducible refine Gr.setCell ?_ (by (try simp); (try omega)) _))).mono ?_; rintro e w6 ⟨rfl, hb6⟩))
        have k5 : SixV (w5.alloc (.cells #[.int .i64 d0, .int .i64 d1, .int .i64 d2, .int .i64 d3, .int .i64 d4, .int .i64 d5] 23)) w5.heap.size (.int .i64 d0) (.int .i64 d1) (.int .i64 d2) (.int .i64 d3) (.int .i64 d4) (.int .i64 d5) := ⟨by simp [go_sem], by simp [go_sem], by simp [go_sem], by simp [go_sem], by simp [go_sem], by simp [go_sem]⟩
        have hzd : w5.heap.size < (w5.alloc (.cells #[.int .i64 d0, .int .i64 d1, .int .i64 d2, .int .i64 d3, .int .i64 d4, .int .i64 d5] 23)).heap.size := by simp
        have HK5 := Lib.hid (k5.keep hb6 hzd)
        have hg6 : Gr W0 w6 := HGW.out.trans ((hb5.alloc _).trans hb6)
        have HG6 := Lib.hid hg6
        have hz6 := hg6.size
        have hzd6 : w5.heap.size < w6.heap.size := Nat.lt_of_lt_of_le hzd hb6.size
        clear hb5 hz5 hc5 hf5 hb6 k5 hzd p0 p1 p2 p3 p4 p5 p6 p7 p8 u0 u1 u2 u3 u4 u5 x0 x1 HHAS HD2 hg6
        generalize w5.heap.size = Bd at *
        go_wp2_with fail
        go_loopw [16] (fun i wr => ∃ j : Nat, j ≤ k ∧ i = .int .i64 j ∧ Gr w6 wr) (fun i _ => k - (intOf i).toNat)
        case atStart => exact ⟨0, Nat.zero_le _, rfl, Gr.refl _⟩
        case round =>
          obtain ⟨j, hj, rfl, hg⟩ := hrel
          have HGJ := Lib.hid hg
          have hzj := hg.size
          clear hg
          by_cases hlt2 : j < k
          · obtain ⟨hrj, hcj, hcc⟩ := HCM.out j hlt2
            have HCC := Lib.hid hcc
            obtain ⟨b, off, rfl, hbl, c0, c1'⟩ := (HRW.out.keep (HG6.out.trans HGJ.out)).two hlt2
            obtain ⟨p0, p1, p2, p3, p4, p5, p6, p7, p8⟩ := HK1.out.keep (HG6.out.trans HGJ.out) (show w.heap.size < W0.heap.size by omega)
            obtain ⟨u0, u1, u2, u3, u4, u5⟩ := HK2.out.keep (HG6.out.trans HGJ.out) (show w.heap.size + 1 < W0.heap.size by omega)
            have HDK := Lib.hid (fun W (h : Gr wr W) => HD.out j hlt2 W (HG.out.trans (HG6.out.trans (HGJ.out.trans h))))
            rw [hrj] at HDK
            have hN0 := cellsN_new_drew wr #[.int .i64 0, .int .i64 0, .int .i64 0, .int .i64 0, .int .i64 0, .int .i64 0] 23
            have HK5J := HK5.out.keep HGJ.out hzd6
            have HK5J' := Lib.hid HK5J
            clear hcc HK5J
            obtain ⟨wp, rfl⟩ : ∃ wp : World, wp = wr := ⟨_, rfl⟩
            go_wp2_with fail
            go_cut [17, 18] (fun s17 s18 wx => ∃ B5 : Nat, s17 = .pointer (some ⟨B5, 0, none⟩) ∧ s18 = .bool true ∧ B5 < wx.heap.size ∧ SixV wx B5 (.int .i64 (y j 0)) (.int .i64 (y j 1)) (.int .i64 (y j 2)) (.int .i64 (y j 3)) (.int .i64 (y j 4)) (.int .i64 (y j 5)) ∧ Gr wp wx)
            case first =>
              go_region_held3 (fun wx => (∀ b o, (⟨min (b + 1) wp.heap.size, 0, none⟩ : Addr) = ⟨b + 1, 0, none⟩ → wx.cell? ⟨b, o, none⟩ = wp.cell? ⟨b, o, none⟩) ∧ Gr wp wx) (first | with_reducible exact held_drew _ | with_reducible exact held_call (by assumption) (by assumption) | with_reducible exact held_alloc (by assumption) _ | with_reducible exact held_alloc0 _ _ | with_reducible exact held_anew (by assumption) _ (by omega) | ((repeat (with_reducible refine held_set ?_ (by (try simp); (try omega)) _)); (first | with_reducible assumption | with_reducible exact held_call (by assumption) (by assumption))))
                (first | (go_at_call 26; with_reducible refine (HDK.out _ (held_gr (by assumption))).mono ?_; rintro e w' ⟨rfl, hb⟩; have hzz := ((held_gr (by assumption)).trans hb).le; have hz := hb.le; obtain ⟨hcx, hfx⟩ := hb.cells; have hn := hb.cellsN; (try simp only [World.size_drew] at hcx hfx hz hn); (try simp only [World.size_setCell] at hcx hfx hz hn); (try simp only [World.size_alloc] at hcx hfx hz hn)))
              all_goals
                go_wp2_with fail
                go_meet
                exact ⟨_, rfl, rfl, by (try simp); (try omega), ⟨by simp [go_sem, *], by simp [go_sem, *], by simp [go_sem, *], by simp [go_sem, *], by simp [go_sem, *], by simp [go_sem, *]⟩, held_gr (by assumption)⟩
            case rest =>
              obtain ⟨B5, rfl, rfl, hz7, ⟨t0, t1, t2, t3, t4, t5⟩, hgc⟩ := hcut
              have HGC := Lib.hid hgc
              obtain ⟨s0, s1, s2, s3, s4, s5⟩ := HK5J'.out.keep hgc (by omega)
              have hgw := HG.out.trans (HG6.out.trans (HGJ.out.trans hgc))
              have HGWC := Lib.hid hgw
              clear hgc p0 p1 p2 p3 p4 p5 p6 p7 p8 u0 u1 u2 u3 u4 u5 c0 c1' hN0 hgw
              go_wp2_with (go_at_call 27; with_reducible refine (HCC.out _ HGWC.out).mono ?_; rintro e w9 ⟨rfl, hb9⟩)
              go_roundw
              case rel => exact ⟨j + 1, by omega, by go_num, HGJ.out.trans (HGC.out.trans hb9)⟩
              case measure => simp [intOf]; omega
          · obtain rfl : j = k := by omega
            obtain ⟨wp, rfl⟩ : ∃ wp : World, wp = wr := ⟨_, rfl⟩
            go_wp2_with fail
            go_ret
            exact ⟨rfl, HG.out.trans (HG6.out.trans HGJ.out)⟩
end Go.Proofs.YtbaopniofhbjdaaDoor
