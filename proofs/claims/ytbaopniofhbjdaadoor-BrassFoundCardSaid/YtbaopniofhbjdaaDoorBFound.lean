/-
  The law BrassFound.
-/
import Derived.Test.YtbaopniofhbjdaaDoorBHead
import Derived.BigQuiet
import Derived.Deep.QuietTactic
import Derived.WalkSmall
namespace Go.Proofs.YtbaopniofhbjdaaDoor
open Go.RowKit

theorem Gr.drewN {w w' : World} (h : Gr w w') (n : Nat) : Gr w (w'.drewN n) := below_drewN h n
/-- The rows of a list stand in their order. -/
def SortedR (g : Nat → Nat → Int) (n : Nat) : Prop := ∀ k, k + 1 < n → g k 0 < g (k + 1) 0 ∨ (g k 0 = g (k + 1) 0 ∧ g k 1 < g (k + 1) 1)

set_option maxRecDepth 100000 in
set_option maxHeartbeats 16000000 in
theorem found_bad (b0 b1 b2 b3 b4 b5 most tol v0 v1 v2 v3 v4 v5 x s : Int) (V I : Bool) (A : Option Addr) (n c : Nat) (w : World) (hT : Tabs w)
    (hF : ∀ W, Gr w W → Calls Tryd.prog 17 #[.agg #[.int .i64 b0, .int .i64 b1, .int .i64 b2, .int .i64 b3, .int .i64 b4, .int .i64 b5, .slice A n c, .int .i64 most, .int .i64 tol], .agg #[.int .i64 v0, .int .i64 v1, .int .i64 v2, .int .i64 v3, .int .i64 v4, .int .i64 v5]] W fun e w' => ∃ A c, e = .returned (.tuple #[.slice A 0 c, .int .i64 1]) ∧ Gr W w')
    (hV : ∀ W, Gr w W → Calls Tryd.prog 13 #[.agg #[.int .i64 b0, .int .i64 b1, .int .i64 b2, .int .i64 b3, .int .i64 b4, .int .i64 b5, .slice A n c, .int .i64 most, .int .i64 tol]] W fun e w' => e = .returned (.bool V) ∧ Gr W w')
    (hI : ∀ W, Calls Tryd.prog 22 #[.agg #[.int .i64 v0, .int .i64 v1, .int .i64 v2, .int .i64 v3, .int .i64 v4, .int .i64 v5]] W fun e w' => e = .returned (.bool I) ∧ Gr W w') (hVI : V = false ∨ (V = true ∧ I = false)) :
    Calls Tryd.prog 4 #[.agg #[.int .i64 b0, .int .i64 b1, .int .i64 b2, .int .i64 b3, .int .i64 b4, .int .i64 b5, .slice A n c, .int .i64 most, .int .i64 tol], .agg #[.int .i64 v0, .int .i64 v1, .int .i64 v2, .int .i64 v3, .int .i64 v4, .int .i64 v5], .agg #[.int .i64 x, .int .i64 s]] w fun e w' => e = .returned (.bool true) ∧ Gr w w' := by
  have HT := Lib.hid hT; have HF := Lib.hid hF; have HV := Lib.hid hV; have HI := Lib.hid hI
  clear hT hF hV hI
  rcases hVI with rfl | ⟨rfl, rfl⟩
  all_goals
    go_enter Tryd.func4, Tryd.ntmps4
    go_wp2_with (first
      | (go_at_call 12; with_reducible refine (bhead_any _ (HT.out.keep (by repeat (first | with_reducible exact Gr.refl _ | with_reducible refine Gr.alloc ?_ _ | with_reducible refine Gr.drew ?_ | with_reducible refine Gr.trans ?_ (by assumption) | with_reducible refine Gr.setCell ?_ (by (try simp); (try omega)) _)))).mono ?_; rintro e w' ⟨rfl, hb⟩; have hz := hb.le; obtain ⟨hc, hf⟩ := hb.cells; (try simp only [World.size_alloc] at hc hf hz); (try simp only [World.size_setCell] at hc hf hz); (try simp only [World.size_drew] at hc hf hz))
      | (go_at_call 17; with_reducible refine (HF.out _ (by repeat (first | with_reducible exact Gr.refl _ | with_reducible refine Gr.alloc ?_ _ | with_reducible refine Gr.drew ?_ | with_reducible refine Gr.trans ?_ (by assumption) | with_reducible refine Gr.setCell ?_ (by (try simp); (try omega)) _))).mono ?_; rintro e w' ⟨A1, c1, rfl, hb⟩; have hz := hb.le; obtain ⟨hc, hf⟩ := hb.cells; (try simp only [World.size_alloc] at hc hf hz))
      | (go_at_call 13; with_reducible refine (HV.out _ (by repeat (first | with_reducible exact Gr.refl _ | with_reducible refine Gr.alloc ?_ _ | with_reducible refine Gr.drew ?_ | with_reducible refine Gr.trans ?_ (by assumption) | with_reducible refine Gr.setCell ?_ (by (try simp); (try omega)) _))).mono ?_; rintro e w' ⟨rfl, hb⟩; have hz := hb.le; obtain ⟨hc, hf⟩ := hb.cells; (try simp only [World.size_alloc] at hc hf hz); (try simp only [World.size_setCell] at hc hf hz); (try simp only [World.size_drew] at hc hf hz))
      | (go_at_call 22; with_reducible refine (HI.out _).mono ?_; rintro e w' ⟨rfl, hb⟩; have hz := hb.le; obtain ⟨hc, hf⟩ := hb.cells; (try simp only [World.size_alloc] at hc hf hz); (try simp only [World.size_setCell] at hc hf hz); (try simp only [World.size_drew] at hc hf hz)))
    go_ret
    exact ⟨rfl, (by repeat (first | with_reducible exact Gr.refl _ | with_reducible refine Gr.alloc ?_ _ | with_reducible refine Gr.drew ?_ | with_reducible refine Gr.trans ?_ (by assumption) | with_reducible refine Gr.setCell ?_ (by (try simp); (try omega)) _))⟩

set_option maxRecDepth 100000 in
set_option maxHeartbeats 16000000 in
theorem found_good (b0 b1 b2 b3 b4 b5 most tol v0 v1 v2 v3 v4 v5 x s q0 q1 q2 q3 q4 q5 z0 z1 z2 z3 z4 z5 ez : Int) (A : Option Addr) (n c N : Nat) (g : Nat → Nat → Int) (w : World) (hT : Tabs w)
    (hF : ∀ W, Gr w W → Calls Tryd.prog 17 #[.agg #[.int .i64 b0, .int .i64 b1, .int .i64 b2, .int .i64 b3, .int .i64 b4, .int .i64 b5, .slice A n c, .int .i64 most, .int .i64 tol], .agg #[.int .i64 v0, .int .i64 v1, .int .i64 v2, .int .i64 v3, .int .i64 v4, .int .i64 v5]] W fun e w' => ∃ A c, e = .returned (.tuple #[.slice A N c, .int .i64 0]) ∧ RowsAt w' 2 A N g ∧ Gr W w')
    (hV : ∀ W, Gr w W → Calls Tryd.prog 13 #[.agg #[.int .i64 b0, .int .i64 b1, .int .i64 b2, .int .i64 b3, .int .i64 b4, .int .i64 b5, .slice A n c, .int .i64 most, .int .i64 tol]] W fun e w' => e = .returned (.bool true) ∧ Gr W w')
    (hI : ∀ W, Calls Tryd.prog 22 #[.agg #[.int .i64 v0, .int .i64 v1, .int .i64 v2, .int .i64 v3, .int .i64 v4, .int .i64 v5]] W fun e w' => e = .returned (.bool true) ∧ Gr W w')
    (hO : ∀ W, Calls Tryd.prog 23 #[.agg #[.int .i64 v0, .int .i64 v1, .int .i64 v2, .int .i64 v3, .int .i64 v4, .int .i64 v5]] W fun e w' => e = .returned (.tuple #[.agg #[.int .i64 q0, .int .i64 q1, .int .i64 q2, .int .i64 q3, .int .i64 q4, .int .i64 q5], .int .i64 0]) ∧ Gr W w')
    (hS : ∀ W, Gr w W → Calls Tryd.prog 15 #[.agg #[.int .i64 b0, .int .i64 b1, .int .i64 b2, .int .i64 b3, .int .i64 b4, .int .i64 b5, .slice A n c, .int .i64 most, .int .i64 tol], .agg #[.int .i64 x, .int .i64 s]] W fun e w' => e = .returned (.tuple #[.agg #[.int .i64 z0, .int .i64 z1, .int .i64 z2, .int .i64 z3, .int .i64 z4, .int .i64 z5], .int .i64 ez]) ∧ Gr W w')
    (hN : N ≤ 9223372036854775807) (hso : SortedR g N)
    (hcase : (ez ≠ 0 ∧ hasR g x s N = false) ∨ (ez = 0 ∧ ∃ X : Int, (∀ W, Gr w W → Calls Tryd.prog 25 #[.agg #[.int .i64 q0, .int .i64 q1, .int .i64 q2, .int .i64 q3, .int .i64 q4, .int .i64 q5], .agg #[.int .i64 z0, .int .i64 z1, .int .i64 z2, .int .i64 z3, .int .i64 z4, .int .i64 z5], .int .i64 tol] W fun e w' => e = .returned (.tuple #[.int .i64 X, .int .i64 0]) ∧ Gr W w') ∧ ((hasR g x s N = true ∧ X = 1) ∨ (hasR g x s N = false ∧ ¬ X = 1)))) :
    Calls Tryd.prog 4 #[.agg #[.int .i64 b0, .int .i64 b1, .int .i64 b2, .int .i64 b3, .int .i64 b4, .int .i64 b5, .slice A n c, .int .i64 most, .int .i64 tol], .agg #[.int .i64 v0, .int .i64 v1, .int .i64 v2, .int .i64 v3, .int .i64 v4, .int .i64 v5], .agg #[.int .i64 x, .int .i64 s]] w fun e w' => e = .returned (.bool true) ∧ Gr w w' := by
  have HT := Lib.hid hT; have HF := Lib.hid hF; have HV := Lib.hid hV; have HI := Lib.hid hI; have HO := Lib.hid hO; have HS := Lib.hid hS; have HSO := Lib.hid hso; have HCASE := Lib.hid hcase
  clear hT hF hV hI hO hS hso hcase
  go_enter Tryd.func4, Tryd.ntmps4
  go_upto_region 8 with (first
    | (go_at_call 12; with_reducible refine (bhead_any _ (HT.out.keep (by repeat (first | with_reducible exact Gr.refl _ | with_reducible refine Gr.alloc ?_ _ | with_reducible refine Gr.drew ?_ | with_reducible refine Gr.trans ?_ (by assumption) | with_reducible refine Gr.setCell ?_ (by (try simp); (try omega)) _)))).mono ?_; rintro e w' ⟨rfl, hb⟩; have hz := hb.le; obtain ⟨hc, hf⟩ := hb.cells; (try simp only [World.size_alloc] at hc hf hz); (try simp only [World.size_setCell] at hc hf hz); (try simp only [World.size_drew] at hc hf hz))
    | (go_at_call 17; with_reducible refine (HF.out _ (by repeat (first | with_reducible exact Gr.refl _ | with_reducible refine Gr.alloc ?_ _ | with_reducible refine Gr.drew ?_ | with_reducible refine Gr.trans ?_ (by assumption) | with_reducible refine Gr.setCell ?_ (by (try simp); (try omega)) _))).mono ?_; rintro e w2 ⟨A1, c1, rfl, hr, hb2⟩; have HR := Lib.hid hr; clear hr; have hz2 := hb2.le; obtain ⟨hc2, hf2⟩ := hb2.cells; (try simp only [World.size_alloc] at hc2 hf2 hz2))
    | (go_at_call 13; with_reducible refine (HV.out _ (by repeat (first | with_reducible exact Gr.refl _ | with_reducible refine Gr.alloc ?_ _ | with_reducible refine Gr.drew ?_ | with_reducible refine Gr.trans ?_ (by assumption) | with_reducible refine Gr.setCell ?_ (by (try simp); (try omega)) _))).mono ?_; rintro e w3 ⟨rfl, hb3⟩; have hz3 := hb3.le; obtain ⟨hc3, hf3⟩ := hb3.cells; (try simp only [World.size_alloc] at hc3 hf3 hz3))
    | (go_at_call 22; with_reducible refine (HI.out _).mono ?_; rintro e w4 ⟨rfl, hb4⟩; have hz4 := hb4.le; obtain ⟨hc4, hf4⟩ := hb4.cells; (try simp only [World.size_alloc] at hc4 hf4 hz4))
    | (go_at_call 23; with_reducible refine (HO.out _).mono ?_; rintro e w5 ⟨rfl, hb5⟩; have hz5 := hb5.le; obtain ⟨hc5, hf5⟩ := hb5.cells; (try simp only [World.size_alloc] at hc5 hf5 hz5)))
  have k1 : HornAt (w5.alloc (.cells #[.int .i64 q0, .int .i64 q1, .int .i64 q2, .int .i64 q3, .int .i64 q4, .int .i64 q5] 23)) w.heap.size b0 b1 b2 b3 b4 b5 (.slice A n c) most tol := ⟨by simp [go_sem, *], by simp [go_sem, *], by simp [go_sem, *], by simp [go_sem, *], by simp [go_sem, *], by simp [go_sem, *], by simp [go_sem, *], by simp [go_sem, *], by simp [go_sem, *]⟩
  have k2 : (w5.alloc (.cells #[.int .i64 q0, .int .i64 q1, .int .i64 q2, .int .i64 q3, .int .i64 q4, .int .i64 q5] 23)).cell? ⟨w.heap.size + 1 + 1, 0, none⟩ = some (.int .i64 x) := by simp [go_sem, *]
  have k3 : (w5.alloc (.cells #[.int .i64 q0, .int .i64 q1, .int .i64 q2, .int .i64 q3, .int .i64 q4, .int .i64 q5] 23)).cell? ⟨w.heap.size + 1 + 1, 1, none⟩ = some (.int .i64 s) := by simp [go_sem, *]
  have k4 : SixV (w5.alloc (.cells #[.int .i64 q0, .int .i64 q1, .int .i64 q2, .int .i64 q3, .int .i64 q4, .int .i64 q5] 23)) w5.heap.size (.int .i64 q0) (.int .i64 q1) (.int .i64 q2) (.int .i64 q3) (.int .i64 q4) (.int .i64 q5) := ⟨by simp [go_sem], by simp [go_sem], by simp [go_sem], by simp [go_sem], by simp [go_sem], by simp [go_sem]⟩
  have z1 : w.heap.size + 3 ≤ (w5.alloc (.cells #[.int .i64 q0, .int .i64 q1, .int .i64 q2, .int .i64 q3, .int .i64 q4, .int .i64 q5] 23)).heap.size := by simp; omega
  have z2 : w5.heap.size < (w5.alloc (.cells #[.int .i64 q0, .int .i64 q1, .int .i64 q2, .int .i64 q3, .int .i64 q4, .int .i64 q5] 23)).heap.size := by simp
  have g1 : Gr w (w5.alloc (.cells #[.int .i64 q0, .int .i64 q1, .int .i64 q2, .int .i64 q3, .int .i64 q4, .int .i64 q5] 23)) := (by repeat (first | with_reducible exact Gr.refl _ | with_reducible refine Gr.alloc ?_ _ | with_reducible refine Gr.drew ?_ | with_reducible refine Gr.trans ?_ (by assumption) | with_reducible refine Gr.setCell ?_ (by (try simp); (try omega)) _))
  have HRW := Lib.hid (HR.out.keep (show Gr w2 (w5.alloc (.cells #[.int .i64 q0, .int .i64 q1, .int .i64 q2, .int .i64 q3, .int .i64 q4, .int .i64 q5] 23)) from (by repeat (first | with_reducible exact Gr.refl _ | with_reducible refine Gr.alloc ?_ _ | with_reducible refine Gr.drew ?_ | with_reducible refine Gr.trans ?_ (by assumption) | with_reducible refine Gr.setCell ?_ (by (try simp); (try omega)) _))))
  have HG := Lib.hid g1; have HK1 := Lib.hid k1; have HK2 := Lib.hid (And.intro k2 k3); have HK4 := Lib.hid k4
  clear hb hz hc hf hb2 hz2 hc2 hf2 hb3 hz3 hc3 hf3 hb4 hz4 hc4 hf4 hb5 hz5 hc5 hf5 k1 k2 k3 k4 g1 HR HF HV HI HO
  generalize (w5.alloc (.cells #[.int .i64 q0, .int .i64 q1, .int .i64 q2, .int .i64 q3, .int .i64 q4, .int .i64 q5] 23)) = W0 at *
  generalize w5.heap.size = Bq at *
  go_wp2_with fail
  go_loopw [12] (fun i wr => ∃ k : Nat, (k = 0 ∨ k + 1 ≤ N) ∧ i = .int .i64 ((k : Int) + 1) ∧ Gr W0 wr) (fun i _ => N - (intOf i).toNat)
  case atStart => exact ⟨0, .inl rfl, rfl, Gr.refl _⟩
  case round =>
    obtain ⟨k, hk, rfl, hg⟩ := hrel
    have HGW := Lib.hid hg
    clear hg
    by_cases hlt : k + 1 < N
    · obtain ⟨b, off, rfl, hbl, c0, c1'⟩ := (HRW.out.keep HGW.out).two (show k < N by omega)
      obtain ⟨b', off', e', -, d0, d1⟩ := (HRW.out.keep HGW.out).two hlt
      injection e' with e'
      injection e' with e1 e2
      subst e1 e2
      obtain ⟨wo, rfl⟩ : ∃ wo : World, wo = wr := ⟨_, rfl⟩
      have i1 : (0 : Int) ≤ (k : Int) + 1 := by omega
      have i2 : (k : Int) + 1 < (N : Int) := by omega
      have i3 : (k : Int) < (N : Int) := by omega
      rcases HSO.out k hlt with hs | ⟨hs, hs2⟩
      · have e1 : decide (g (k + 1) 0 < g k 0) = false := by simp; omega
        have e2 : (g (k + 1) 0 == g k 0) = false := by simp; omega
        go_wp2_with fail
        go_quiet (fail)
        go_wp2_with fail
        go_roundw
        case rel => exact ⟨k + 1, by omega, by go_num, HGW.out.drewN _⟩
        case measure => simp [intOf]; omega
      · have e1 : decide (g (k + 1) 0 < g k 0) = false := by simp; omega
        have e2 : (g (k + 1) 0 == g k 0) = true := by simp; omega
        have e3 : decide (g (k + 1) 1 ≤ g k 1) = false := by simp; omega
        go_wp2_with fail
        go_quiet (fail)
        go_wp2_with fail
        go_roundw
        case rel => exact ⟨k + 1, by omega, by go_num, HGW.out.drewN _⟩
        case measure => simp [intOf]; omega
    · obtain ⟨p0, p1, p2, p3, p4, p5, p6, p7, p8⟩ := HK1.out.keep HGW.out (show w.heap.size < W0.heap.size by omega)
      obtain ⟨u0, u1, u2, u3, u4, u5⟩ := HK4.out.keep HGW.out z2
      have hzr := HGW.out.size
      have x0 := (Below.cell (p := ⟨w.heap.size + 1 + 1, 0, none⟩) HGW.out (show w.heap.size + 1 + 1 < W0.heap.size by omega)).trans HK2.out.1
      have x1 := (Below.cell (p := ⟨w.heap.size + 1 + 1, 1, none⟩) HGW.out (show w.heap.size + 1 + 1 < W0.heap.size by omega)).trans HK2.out.2
      have HGR := Lib.hid (HG.out.trans HGW.out)
      have HRR := Lib.hid (HRW.out.keep HGW.out)
      obtain ⟨wo, rfl⟩ : ∃ wo : World, wo = wr := ⟨_, rfl⟩
      rcases HCASE.out with ⟨hez, hno⟩ | ⟨rfl, X, hnear, hX⟩
      · have HH := Lib.hid (fun W (h : Gr wo W) => has_any A1 N c1 g x s W (HRR.out.keep h) hN)
        rw [hno] at HH
        clear hno
        go_wp2_with (first
          | (go_at_call 15; with_reducible refine (HS.out _ (HGR.out.trans (by repeat (first | with_reducible exact Gr.refl _ | with_reducible refine Gr.alloc ?_ _ | with_reducible refine Gr.drew ?_ | with_reducible refine Gr.trans ?_ (by assumption) | with_reducible refine Gr.setCell ?_ (by (try simp); (try omega)) _)))).mono ?_; rintro e w' ⟨rfl, hb⟩; have hz := hb.le; obtain ⟨hc, hf⟩ := hb.cells; (try simp only [World.size_alloc] at hc hf hz); (try simp only [World.size_setCell] at hc hf hz); (try simp only [World.size_drew] at hc hf hz))
          | (go_at_call 24; with_reducible refine (HH.out _ (by repeat (first | with_reducible exact Gr.refl _ | with_reducible refine Gr.alloc ?_ _ | with_reducible refine Gr.drew ?_ | with_reducible refine Gr.trans ?_ (by assumption) | with_reducible refine Gr.setCell ?_ (by (try simp); (try omega)) _))).mono ?_; rintro e w' ⟨rfl, hb⟩; have hz := hb.le; obtain ⟨hc, hf⟩ := hb.cells; (try simp only [World.size_alloc] at hc hf hz); (try simp only [World.size_setCell] at hc hf hz); (try simp only [World.size_drew] at hc hf hz)))
        go_ret
        exact ⟨rfl, HGR.out.trans (by repeat (first | with_reducible exact Gr.refl _ | with_reducible refine Gr.alloc ?_ _ | with_reducible refine Gr.drew ?_ | with_reducible refine Gr.trans ?_ (by assumption) | with_reducible refine Gr.setCell ?_ (by (try simp); (try omega)) _))⟩
      · have HNEAR := Lib.hid hnear
        clear hnear
        rcases hX with ⟨hh, rfl⟩ | ⟨hh, hX⟩
        · have HH := Lib.hid (fun W (h : Gr wo W) => has_any A1 N c1 g x s W (HRR.out.keep h) hN)
          rw [hh] at HH
          clear hh
          go_wp2_with (first
            | (go_at_call 15; with_reducible refine (HS.out _ (HGR.out.trans (by repeat (first | with_reducible exact Gr.refl _ | with_reducible refine Gr.alloc ?_ _ | with_reducible refine Gr.drew ?_ | with_reducible refine Gr.trans ?_ (by assumption) | with_reducible refine Gr.setCell ?_ (by (try simp); (try omega)) _)))).mono ?_; rintro e w' ⟨rfl, hb⟩; have hz := hb.le; obtain ⟨hc, hf⟩ := hb.cells; (try simp only [World.size_alloc] at hc hf hz); (try simp only [World.size_setCell] at hc hf hz); (try simp only [World.size_drew] at hc hf hz))
            | (go_at_call 25; with_reducible refine (HNEAR.out _ (HGR.out.trans (by repeat (first | with_reducible exact Gr.refl _ | with_reducible refine Gr.alloc ?_ _ | with_reducible refine Gr.drew ?_ | with_reducible refine Gr.trans ?_ (by assumption) | with_reducible refine Gr.setCell ?_ (by (try simp); (try omega)) _)))).mono ?_; rintro e w' ⟨rfl, hb⟩; have hz := hb.le; obtain ⟨hc, hf⟩ := hb.cells; (try simp only [World.size_alloc] at hc hf hz); (try simp only [World.size_setCell] at hc hf hz); (try simp only [World.size_drew] at hc hf hz))
            | (go_at_call 24; with_reducible refine (HH.out _ (by repeat (first | with_reducible exact Gr.refl _ | with_reducible refine Gr.alloc ?_ _ | with_reducible refine Gr.drew ?_ | with_reducible refine Gr.trans ?_ (by assumption) | with_reducible refine Gr.setCell ?_ (by (try simp); (try omega)) _))).mono ?_; rintro e w' ⟨rfl, hb⟩; have hz := hb.le; obtain ⟨hc, hf⟩ := hb.cells; (try simp only [World.size_alloc] at hc hf hz); (try simp only [World.size_setCell] at hc hf hz); (try simp only [World.size_drew] at hc hf hz)))
          go_ret
          exact ⟨rfl, HGR.out.trans (by repeat (first | with_reducible exact Gr.refl _ | with_reducible refine Gr.alloc ?_ _ | with_reducible refine Gr.drew ?_ | with_reducible refine Gr.trans ?_ (by assumption) | with_reducible refine Gr.setCell ?_ (by (try simp); (try omega)) _))⟩
        · have e1 : (X == 1) = false := by simpa using hX
          have HH := Lib.hid (fun W (h : Gr wo W) => has_any A1 N c1 g x s W (HRR.out.keep h) hN)
          rw [hh] at HH
          clear hh
          go_wp2_with (first
            | (go_at_call 15; with_reducible refine (HS.out _ (HGR.out.trans (by repeat (first | with_reducible exact Gr.refl _ | with_reducible refine Gr.alloc ?_ _ | with_reducible refine Gr.drew ?_ | with_reducible refine Gr.trans ?_ (by assumption) | with_reducible refine Gr.setCell ?_ (by (try simp); (try omega)) _)))).mono ?_; rintro e w' ⟨rfl, hb⟩; have hz := hb.le; obtain ⟨hc, hf⟩ := hb.cells; (try simp only [World.size_alloc] at hc hf hz); (try simp only [World.size_setCell] at hc hf hz); (try simp only [World.size_drew] at hc hf hz))
            | (go_at_call 25; with_reducible refine (HNEAR.out _ (HGR.out.trans (by repeat (first | with_reducible exact Gr.refl _ | with_reducible refine Gr.alloc ?_ _ | with_reducible refine Gr.drew ?_ | with_reducible refine Gr.trans ?_ (by assumption) | with_reducible refine Gr.setCell ?_ (by (try simp); (try omega)) _)))).mono ?_; rintro e w' ⟨rfl, hb⟩; have hz := hb.le; obtain ⟨hc, hf⟩ := hb.cells; (try simp only [World.size_alloc] at hc hf hz); (try simp only [World.size_setCell] at hc hf hz); (try simp only [World.size_drew] at hc hf hz))
            | (go_at_call 24; with_reducible refine (HH.out _ (by repeat (first | with_reducible exact Gr.refl _ | with_reducible refine Gr.alloc ?_ _ | with_reducible refine Gr.drew ?_ | with_reducible refine Gr.trans ?_ (by assumption) | with_reducible refine Gr.setCell ?_ (by (try simp); (try omega)) _))).mono ?_; rintro e w' ⟨rfl, hb⟩; have hz := hb.le; obtain ⟨hc, hf⟩ := hb.cells; (try simp only [World.size_alloc] at hc hf hz); (try simp only [World.size_setCell] at hc hf hz); (try simp only [World.size_drew] at hc hf hz)))
          go_ret
          exact ⟨rfl, HGR.out.trans (by repeat (first | with_reducible exact Gr.refl _ | with_reducible refine Gr.alloc ?_ _ | with_reducible refine Gr.drew ?_ | with_reducible refine Gr.trans ?_ (by assumption) | with_reducible refine Gr.setCell ?_ (by (try simp); (try omega)) _))⟩
end Go.Proofs.YtbaopniofhbjdaaDoor
