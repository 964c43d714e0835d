/-
  The law BrassValves: its walks.
-/
import Derived.Test.YtbaopniofhbjdaaDoorBHead
import Derived.Test.YtbaopniofhbjdaaDoorHeld
import Derived.BigQuiet
import Derived.Deep.QuietTactic
import Derived.WalkSmall
namespace Go.Proofs.YtbaopniofhbjdaaDoor
open Go.RowKit

set_option maxRecDepth 100000 in
set_option maxHeartbeats 16000000 in
theorem valves_bad (b0 b1 b2 b3 b4 b5 most tol x s v : Int) (A : Option Addr) (n c : Nat) (w : World) (hT : Tabs w)
    (hV : ∀ W, Gr w W → Calls Tryd.prog 13 #[.agg #[.int .i64 b0, .int .i64 b1, .int .i64 b2, .int .i64 b3, .int .i64 b4, .int .i64 b5, .slice A n c, .int .i64 most, .int .i64 tol]] W fun e w' => e = .returned (.bool false) ∧ Gr W w') :
    Calls Tryd.prog 9 #[.agg #[.int .i64 b0, .int .i64 b1, .int .i64 b2, .int .i64 b3, .int .i64 b4, .int .i64 b5, .slice A n c, .int .i64 most, .int .i64 tol], .agg #[.int .i64 x, .int .i64 s], .int .i64 v] w fun e w' => e = .returned (.bool true) ∧ Gr w w' := by
  have HT := Lib.hid hT; have HV := Lib.hid hV
  clear hT hV
  go_enter Tryd.func9, Tryd.ntmps9
  go_wp2_with (first
    | (go_at_call 12; with_reducible refine (bhead_any _ (HT.out.keep (by repeat (first | with_reducible exact Gr.refl _ | with_reducible refine Gr.alloc ?_ _ | with_reducible refine Gr.drew ?_ | with_reducible refine Gr.trans ?_ (by assumption) | with_reducible refine Gr.setCell ?_ (by (try simp); (try omega)) _)))).mono ?_; rintro e w' ⟨rfl, hb⟩; have hz := hb.le; obtain ⟨hc, hf⟩ := hb.cells; (try simp only [World.size_alloc] at hc hf hz); (try simp only [World.size_setCell] at hc hf hz); (try simp only [World.size_drew] at hc hf hz))
    | (go_at_call 13; with_reducible refine (HV.out _ (by repeat (first | with_reducible exact Gr.refl _ | with_reducible refine Gr.alloc ?_ _ | with_reducible refine Gr.drew ?_ | with_reducible refine Gr.trans ?_ (by assumption) | with_reducible refine Gr.setCell ?_ (by (try simp); (try omega)) _))).mono ?_; rintro e w' ⟨rfl, hb⟩; have hz := hb.le; obtain ⟨hc, hf⟩ := hb.cells; (try simp only [World.size_alloc] at hc hf hz); (try simp only [World.size_setCell] at hc hf hz); (try simp only [World.size_drew] at hc hf hz)))
  go_ret
  exact ⟨rfl, (by repeat (first | with_reducible exact Gr.refl _ | with_reducible refine Gr.alloc ?_ _ | with_reducible refine Gr.drew ?_ | with_reducible refine Gr.trans ?_ (by assumption) | with_reducible refine Gr.setCell ?_ (by (try simp); (try omega)) _))⟩
theorem tdiv_pow (s : Int) (k : Nat) (h : 0 ≤ s) : s.tdiv ((2 : Int) ^ k) = s / 2 ^ k := Int.tdiv_eq_ediv_of_nonneg h

set_option maxRecDepth 100000 in
set_option maxHeartbeats 16000000 in
theorem valves_skip (b0 b1 b2 b3 b4 b5 most tol x s v : Int) (A : Option Addr) (n c : Nat) (w : World) (hT : Tabs w)
    (hV : ∀ W, Gr w W → Calls Tryd.prog 13 #[.agg #[.int .i64 b0, .int .i64 b1, .int .i64 b2, .int .i64 b3, .int .i64 b4, .int .i64 b5, .slice A n c, .int .i64 most, .int .i64 tol]] W fun e w' => e = .returned (.bool true) ∧ Gr W w')
    (h0 : ∀ W, Gr w W → Calls Tryd.prog 15 #[.agg #[.int .i64 b0, .int .i64 b1, .int .i64 b2, .int .i64 b3, .int .i64 b4, .int .i64 b5, .slice A n c, .int .i64 most, .int .i64 tol], .agg #[.int .i64 1, .int .i64 0]] W fun e w' => e = .returned (.tuple #[.agg #[.int .i64 b0, .int .i64 b1, .int .i64 b2, .int .i64 b3, .int .i64 b4, .int .i64 b5], .int .i64 0]) ∧ Gr W w')
    (hs : v < 0 ∨ (0 ≤ v ∧ (n : Int) ≤ v) ∨ (0 ≤ v ∧ v < (n : Int) ∧ s < 0)) :
    Calls Tryd.prog 9 #[.agg #[.int .i64 b0, .int .i64 b1, .int .i64 b2, .int .i64 b3, .int .i64 b4, .int .i64 b5, .slice A n c, .int .i64 most, .int .i64 tol], .agg #[.int .i64 x, .int .i64 s], .int .i64 v] w fun e w' => e = .returned (.bool true) ∧ Gr w w' := by
  have HT := Lib.hid hT; have HV := Lib.hid hV; have H0 := Lib.hid h0; have HS := Lib.hid hs
  clear hT hV h0 hs
  have HQ := eq6P_yes b0 b1 b2 b3 b4 b5
  go_enter Tryd.func9, Tryd.ntmps9
  go_upto_region 7 with (first
    | (go_at_call 12; with_reducible refine (bhead_any _ (HT.out.keep (by repeat (first | with_reducible exact Gr.refl _ | with_reducible refine Gr.alloc ?_ _ | with_reducible refine Gr.drew ?_ | with_reducible refine Gr.trans ?_ (by assumption) | with_reducible refine Gr.setCell ?_ (by (try simp); (try omega)) _)))).mono ?_; rintro e w' ⟨rfl, hb⟩; have hz := hb.le; obtain ⟨hc, hf⟩ := hb.cells; (try simp only [World.size_alloc] at hc hf hz); (try simp only [World.size_setCell] at hc hf hz); (try simp only [World.size_drew] at hc hf hz))
    | (go_at_call 13; with_reducible refine (HV.out _ (by repeat (first | with_reducible exact Gr.refl _ | with_reducible refine Gr.alloc ?_ _ | with_reducible refine Gr.drew ?_ | with_reducible refine Gr.trans ?_ (by assumption) | with_reducible refine Gr.setCell ?_ (by (try simp); (try omega)) _))).mono ?_; rintro e w1 ⟨rfl, hb1⟩; have hz1 := hb1.le; obtain ⟨hc1, hf1⟩ := hb1.cells; (try simp only [World.size_alloc] at hc1 hf1 hz1))
    | (go_at_call 15; with_reducible refine (H0.out _ (by repeat (first | with_reducible exact Gr.refl _ | with_reducible refine Gr.alloc ?_ _ | with_reducible refine Gr.drew ?_ | with_reducible refine Gr.trans ?_ (by assumption) | with_reducible refine Gr.setCell ?_ (by (try simp); (try omega)) _))).mono ?_; rintro e w2 ⟨rfl, hb2⟩; have hz2 := hb2.le; obtain ⟨hc2, hf2⟩ := hb2.cells; (try simp only [World.size_alloc] at hc2 hf2 hz2)))
  have k1 : HornAt (w2.alloc (.cells #[.int .i64 b0, .int .i64 b1, .int .i64 b2, .int .i64 b3, .int .i64 b4, .int .i64 b5] 23)) w.heap.size b0 b1 b2 b3 b4 b5 (.slice A n c) most tol := ⟨by simp [go_sem, *], by simp [go_sem, *], by simp [go_sem, *], by simp [go_sem, *], by simp [go_sem, *], by simp [go_sem, *], by simp [go_sem, *], by simp [go_sem, *], by simp [go_sem, *]⟩
  have k2 : (w2.alloc (.cells #[.int .i64 b0, .int .i64 b1, .int .i64 b2, .int .i64 b3, .int .i64 b4, .int .i64 b5] 23)).cell? ⟨w.heap.size + 1, 0, none⟩ = some (.int .i64 x) := by simp [go_sem, *]
  have k3 : (w2.alloc (.cells #[.int .i64 b0, .int .i64 b1, .int .i64 b2, .int .i64 b3, .int .i64 b4, .int .i64 b5] 23)).cell? ⟨w.heap.size + 1, 1, none⟩ = some (.int .i64 s) := by simp [go_sem, *]
  have hzW : w.heap.size + 2 ≤ (w2.alloc (.cells #[.int .i64 b0, .int .i64 b1, .int .i64 b2, .int .i64 b3, .int .i64 b4, .int .i64 b5] 23)).heap.size := by simp; omega
  have g1 : Gr w (w2.alloc (.cells #[.int .i64 b0, .int .i64 b1, .int .i64 b2, .int .i64 b3, .int .i64 b4, .int .i64 b5] 23)) := (by repeat (first | with_reducible exact Gr.refl _ | with_reducible refine Gr.alloc ?_ _ | with_reducible refine Gr.drew ?_ | with_reducible refine Gr.trans ?_ (by assumption) | with_reducible refine Gr.setCell ?_ (by (try simp); (try omega)) _))
  have HG := Lib.hid g1
  obtain ⟨p0, p1, p2, p3, p4, p5, p6, p7, p8⟩ := k1
  clear hb hz hc hf hb1 hz1 hc1 hf1 hb2 hz2 hc2 hf2 g1 HQ
  generalize (w2.alloc (.cells #[.int .i64 b0, .int .i64 b1, .int .i64 b2, .int .i64 b3, .int .i64 b4, .int .i64 b5] 23)) = W0 at *
  rcases HS.out with h | ⟨h, h'⟩ | ⟨h, h', h''⟩
  · have e1 : decide (v < 0) = true := by simpa using h
    go_quiet (fail)
    go_wp2_with fail
    go_ret
    exact ⟨rfl, HG.out.drewN _⟩
  · have e1 : decide (v < 0) = false := by simpa using h
    have e2 : decide (v ≥ (n : Int)) = true := by simpa using h'
    go_quiet (fail)
    go_wp2_with fail
    go_ret
    exact ⟨rfl, HG.out.drewN _⟩
  · have e1 : decide (v < 0) = false := by simpa using h
    have e2 : decide (v ≥ (n : Int)) = false := by simpa using h'
    have e3 : decide (s < 0) = true := by simpa using h''
    go_quiet (fail)
    go_wp2_with fail
    go_ret
    exact ⟨rfl, HG.out.drewN _⟩

set_option maxRecDepth 100000 in
set_option maxHeartbeats 16000000 in
theorem valves_on (b0 b1 b2 b3 b4 b5 most tol x s : Int) (A : Option Addr) (n c k : Nat) (w : World) (hn : n ≤ 4) (hk : k < n) (hT : Tabs w)
    (hV : ∀ W, Gr w W → Calls Tryd.prog 13 #[.agg #[.int .i64 b0, .int .i64 b1, .int .i64 b2, .int .i64 b3, .int .i64 b4, .int .i64 b5, .slice A n c, .int .i64 most, .int .i64 tol]] W fun e w' => e = .returned (.bool true) ∧ Gr W w')
    (h0 : ∀ W, Gr w W → Calls Tryd.prog 15 #[.agg #[.int .i64 b0, .int .i64 b1, .int .i64 b2, .int .i64 b3, .int .i64 b4, .int .i64 b5, .slice A n c, .int .i64 most, .int .i64 tol], .agg #[.int .i64 1, .int .i64 0]] W fun e w' => e = .returned (.tuple #[.agg #[.int .i64 b0, .int .i64 b1, .int .i64 b2, .int .i64 b3, .int .i64 b4, .int .i64 b5], .int .i64 0]) ∧ Gr W w')
    (hs : 0 ≤ s) (hs2 : s ≤ 9223372036854775807) (hon : s / 2 ^ k % 2 = 1) :
    Calls Tryd.prog 9 #[.agg #[.int .i64 b0, .int .i64 b1, .int .i64 b2, .int .i64 b3, .int .i64 b4, .int .i64 b5, .slice A n c, .int .i64 most, .int .i64 tol], .agg #[.int .i64 x, .int .i64 s], .int .i64 (k : Int)] w fun e w' => e = .returned (.bool true) ∧ Gr w w' := by
  have HT := Lib.hid hT; have HV := Lib.hid hV; have H0 := Lib.hid h0; have HON := Lib.hid hon
  clear hT hV h0 hon
  have HQ := eq6P_yes b0 b1 b2 b3 b4 b5
  go_enter Tryd.func9, Tryd.ntmps9
  go_upto_region 7 with (first
    | (go_at_call 12; with_reducible refine (bhead_any _ (HT.out.keep (by repeat (first | with_reducible exact Gr.refl _ | with_reducible refine Gr.alloc ?_ _ | with_reducible refine Gr.drew ?_ | with_reducible refine Gr.trans ?_ (by assumption) | with_reducible refine Gr.setCell ?_ (by (try simp); (try omega)) _)))).mono ?_; rintro e w' ⟨rfl, hb⟩; have hz := hb.le; obtain ⟨hc, hf⟩ := hb.cells; (try simp only [World.size_alloc] at hc hf hz); (try simp only [World.size_setCell] at hc hf hz); (try simp only [World.size_drew] at hc hf hz))
    | (go_at_call 13; with_reducible refine (HV.out _ (by repeat (first | with_reducible exact Gr.refl _ | with_reducible refine Gr.alloc ?_ _ | with_reducible refine Gr.drew ?_ | with_reducible refine Gr.trans ?_ (by assumption) | with_reducible refine Gr.setCell ?_ (by (try simp); (try omega)) _))).mono ?_; rintro e w1 ⟨rfl, hb1⟩; have hz1 := hb1.le; obtain ⟨hc1, hf1⟩ := hb1.cells; (try simp only [World.size_alloc] at hc1 hf1 hz1))
    | (go_at_call 15; with_reducible refine (H0.out _ (by repeat (first | with_reducible exact Gr.refl _ | with_reducible refine Gr.alloc ?_ _ | with_reducible refine Gr.drew ?_ | with_reducible refine Gr.trans ?_ (by assumption) | with_reducible refine Gr.setCell ?_ (by (try simp); (try omega)) _))).mono ?_; rintro e w2 ⟨rfl, hb2⟩; have hz2 := hb2.le; obtain ⟨hc2, hf2⟩ := hb2.cells; (try simp only [World.size_alloc] at hc2 hf2 hz2)))
  have k1 : HornAt (w2.alloc (.cells #[.int .i64 b0, .int .i64 b1, .int .i64 b2, .int .i64 b3, .int .i64 b4, .int .i64 b5] 23)) w.heap.size b0 b1 b2 b3 b4 b5 (.slice A n c) most tol := ⟨by simp [go_sem, *], by simp [go_sem, *], by simp [go_sem, *], by simp [go_sem, *], by simp [go_sem, *], by simp [go_sem, *], by simp [go_sem, *], by simp [go_sem, *], by simp [go_sem, *]⟩
  have k2 : (w2.alloc (.cells #[.int .i64 b0, .int .i64 b1, .int .i64 b2, .int .i64 b3, .int .i64 b4, .int .i64 b5] 23)).cell? ⟨w.heap.size + 1, 0, none⟩ = some (.int .i64 x) := by simp [go_sem, *]
  have k3 : (w2.alloc (.cells #[.int .i64 b0, .int .i64 b1, .int .i64 b2, .int .i64 b3, .int .i64 b4, .int .i64 b5] 23)).cell? ⟨w.heap.size + 1, 1, none⟩ = some (.int .i64 s) := by simp [go_sem, *]
  have hzW : w.heap.size + 2 ≤ (w2.alloc (.cells #[.int .i64 b0, .int .i64 b1, .int .i64 b2, .int .i64 b3, .int .i64 b4, .int .i64 b5] 23)).heap.size := by simp; omega
  have g1 : Gr w (w2.alloc (.cells #[.int .i64 b0, .int .i64 b1, .int .i64 b2, .int .i64 b3, .int .i64 b4, .int .i64 b5] 23)) := (by repeat (first | with_reducible exact Gr.refl _ | with_reducible refine Gr.alloc ?_ _ | with_reducible refine Gr.drew ?_ | with_reducible refine Gr.trans ?_ (by assumption) | with_reducible refine Gr.setCell ?_ (by (try simp); (try omega)) _))
  have HG := Lib.hid g1
  obtain ⟨p0, p1, p2, p3, p4, p5, p6, p7, p8⟩ := k1
  clear hb hz hc hf hb1 hz1 hc1 hf1 hb2 hz2 hc2 hf2 g1 HQ
  generalize (w2.alloc (.cells #[.int .i64 b0, .int .i64 b1, .int .i64 b2, .int .i64 b3, .int .i64 b4, .int .i64 b5] 23)) = W0 at *
  have e1 : decide ((k : Int) < 0) = false := by simp
  have e2 : decide ((k : Int) ≥ (n : Int)) = false := by simp; omega
  have e2' : decide (n ≤ k) = false := by simp; omega
  have e3 : decide (s < 0) = false := by simpa using hs
  have hp1 : (1 : Int) ≤ 2 ^ k := by have := Int.pow_pos (n := 2) (m := k) (by omega); omega
  have hp2 : (2 : Int) ^ k ≤ 8 := by rcases (show k = 0 ∨ k = 1 ∨ k = 2 ∨ k = 3 by omega) with rfl | rfl | rfl | rfl <;> decide
  have hd : 0 ≤ s / 2 ^ k := Int.ediv_nonneg hs (by omega)
  have e4 : (s / 2 ^ k % 2 == 1) = true := by rw [beq_iff_eq]; exact HON.out
  go_quiet (fail)
  go_wp2_with fail
  go_ret
  exact ⟨rfl, HG.out.drewN _⟩

set_option maxRecDepth 100000 in
set_option maxHeartbeats 16000000 in
theorem valves_out (b0 b1 b2 b3 b4 b5 most tol x s z0 z1 z2 z3 z4 z5 ez : Int) (A : Option Addr) (n c k : Nat) (w : World) (hn : n ≤ 4) (hk : k < n) (hT : Tabs w)
    (hV : ∀ W, Gr w W → Calls Tryd.prog 13 #[.agg #[.int .i64 b0, .int .i64 b1, .int .i64 b2, .int .i64 b3, .int .i64 b4, .int .i64 b5, .slice A n c, .int .i64 most, .int .i64 tol]] W fun e w' => e = .returned (.bool true) ∧ Gr W w')
    (h0 : ∀ W, Gr w W → Calls Tryd.prog 15 #[.agg #[.int .i64 b0, .int .i64 b1, .int .i64 b2, .int .i64 b3, .int .i64 b4, .int .i64 b5, .slice A n c, .int .i64 most, .int .i64 tol], .agg #[.int .i64 1, .int .i64 0]] W fun e w' => e = .returned (.tuple #[.agg #[.int .i64 b0, .int .i64 b1, .int .i64 b2, .int .i64 b3, .int .i64 b4, .int .i64 b5], .int .i64 0]) ∧ Gr W w')
    (h1 : ∀ W, Gr w W → Calls Tryd.prog 15 #[.agg #[.int .i64 b0, .int .i64 b1, .int .i64 b2, .int .i64 b3, .int .i64 b4, .int .i64 b5, .slice A n c, .int .i64 most, .int .i64 tol], .agg #[.int .i64 x, .int .i64 s]] W fun e w' => e = .returned (.tuple #[.agg #[.int .i64 z0, .int .i64 z1, .int .i64 z2, .int .i64 z3, .int .i64 z4, .int .i64 z5], .int .i64 ez]) ∧ Gr W w')
    (h2 : ∀ s' W, Gr w W → Calls Tryd.prog 15 #[.agg #[.int .i64 b0, .int .i64 b1, .int .i64 b2, .int .i64 b3, .int .i64 b4, .int .i64 b5, .slice A n c, .int .i64 most, .int .i64 tol], .agg #[.int .i64 x, .int .i64 s']] W fun e w' => ∃ t0 t1 t2 t3 t4 t5 et, e = .returned (.tuple #[.agg #[.int .i64 t0, .int .i64 t1, .int .i64 t2, .int .i64 t3, .int .i64 t4, .int .i64 t5], .int .i64 et]) ∧ Gr W w')
    (hez : ez ≠ 0) (hs : 0 ≤ s) (hs2 : s ≤ 9223372036854775807) (hon : ¬ s / 2 ^ k % 2 = 1) :
    Calls Tryd.prog 9 #[.agg #[.int .i64 b0, .int .i64 b1, .int .i64 b2, .int .i64 b3, .int .i64 b4, .int .i64 b5, .slice A n c, .int .i64 most, .int .i64 tol], .agg #[.int .i64 x, .int .i64 s], .int .i64 (k : Int)] w fun e w' => e = .returned (.bool true) ∧ Gr w w' := by
  have HT := Lib.hid hT; have HV := Lib.hid hV; have H0 := Lib.hid h0; have HON := Lib.hid hon; have H1 := Lib.hid h1; have H2 := Lib.hid h2
  clear hT hV h0 hon h1 h2
  have HQ := eq6P_yes b0 b1 b2 b3 b4 b5
  go_enter Tryd.func9, Tryd.ntmps9
  go_upto_region 7 with (first
    | (go_at_call 12; with_reducible refine (bhead_any _ (HT.out.keep (by repeat (first | with_reducible exact Gr.refl _ | with_reducible refine Gr.alloc ?_ _ | with_reducible refine Gr.drew ?_ | with_reducible refine Gr.trans ?_ (by assumption) | with_reducible refine Gr.setCell ?_ (by (try simp); (try omega)) _)))).mono ?_; rintro e w' ⟨rfl, hb⟩; have hz := hb.le; obtain ⟨hc, hf⟩ := hb.cells; (try simp only [World.size_alloc] at hc hf hz); (try simp only [World.size_setCell] at hc hf hz); (try simp only [World.size_drew] at hc hf hz))
    | (go_at_call 13; with_reducible refine (HV.out _ (by repeat (first | with_reducible exact Gr.refl _ | with_reducible refine Gr.alloc ?_ _ | with_reducible refine Gr.drew ?_ | with_reducible refine Gr.trans ?_ (by assumption) | with_reducible refine Gr.setCell ?_ (by (try simp); (try omega)) _))).mono ?_; rintro e w1 ⟨rfl, hb1⟩; have hz1 := hb1.le; obtain ⟨hc1, hf1⟩ := hb1.cells; (try simp only [World.size_alloc] at hc1 hf1 hz1))
    | (go_at_call 15; with_reducible refine (H0.out _ (by repeat (first | with_reducible exact Gr.refl _ | with_reducible refine Gr.alloc ?_ _ | with_reducible refine Gr.drew ?_ | with_reducible refine Gr.trans ?_ (by assumption) | with_reducible refine Gr.setCell ?_ (by (try simp); (try omega)) _))).mono ?_; rintro e w2 ⟨rfl, hb2⟩; have hz2 := hb2.le; obtain ⟨hc2, hf2⟩ := hb2.cells; (try simp only [World.size_alloc] at hc2 hf2 hz2)))
  have k1 : HornAt (w2.alloc (.cells #[.int .i64 b0, .int .i64 b1, .int .i64 b2, .int .i64 b3, .int .i64 b4, .int .i64 b5] 23)) w.heap.size b0 b1 b2 b3 b4 b5 (.slice A n c) most tol := ⟨by simp [go_sem, *], by simp [go_sem, *], by simp [go_sem, *], by simp [go_sem, *], by simp [go_sem, *], by simp [go_sem, *], by simp [go_sem, *], by simp [go_sem, *], by simp [go_sem, *]⟩
  have k2 : (w2.alloc (.cells #[.int .i64 b0, .int .i64 b1, .int .i64 b2, .int .i64 b3, .int .i64 b4, .int .i64 b5] 23)).cell? ⟨w.heap.size + 1, 0, none⟩ = some (.int .i64 x) := by simp [go_sem, *]
  have k3 : (w2.alloc (.cells #[.int .i64 b0, .int .i64 b1, .int .i64 b2, .int .i64 b3, .int .i64 b4, .int .i64 b5] 23)).cell? ⟨w.heap.size + 1, 1, none⟩ = some (.int .i64 s) := by simp [go_sem, *]
  have hzW : w.heap.size + 2 ≤ (w2.alloc (.cells #[.int .i64 b0, .int .i64 b1, .int .i64 b2, .int .i64 b3, .int .i64 b4, .int .i64 b5] 23)).heap.size := by simp; omega
  have g1 : Gr w (w2.alloc (.cells #[.int .i64 b0, .int .i64 b1, .int .i64 b2, .int .i64 b3, .int .i64 b4, .int .i64 b5] 23)) := (by repeat (first | with_reducible exact Gr.refl _ | with_reducible refine Gr.alloc ?_ _ | with_reducible refine Gr.drew ?_ | with_reducible refine Gr.trans ?_ (by assumption) | with_reducible refine Gr.setCell ?_ (by (try simp); (try omega)) _))
  have HG := Lib.hid g1
  obtain ⟨p0, p1, p2, p3, p4, p5, p6, p7, p8⟩ := k1
  clear hb hz hc hf hb1 hz1 hc1 hf1 hb2 hz2 hc2 hf2 g1 HQ
  generalize (w2.alloc (.cells #[.int .i64 b0, .int .i64 b1, .int .i64 b2, .int .i64 b3, .int .i64 b4, .int .i64 b5] 23)) = W0 at *
  have e1 : decide ((k : Int) < 0) = false := by simp
  have e2 : decide ((k : Int) ≥ (n : Int)) = false := by simp; omega
  have e2' : decide (n ≤ k) = false := by simp; omega
  have e3 : decide (s < 0) = false := by simpa using hs
  have hp1 : (1 : Int) ≤ 2 ^ k := by have := Int.pow_pos (n := 2) (m := k) (by omega); omega
  have hp2 : (2 : Int) ^ k ≤ 8 := by rcases (show k = 0 ∨ k = 1 ∨ k = 2 ∨ k = 3 by omega) with rfl | rfl | rfl | rfl <;> decide
  have hd : 0 ≤ s / 2 ^ k := Int.ediv_nonneg hs (by omega)
  have e4 : (s / 2 ^ k % 2 == 1) = false := by rw [beq_eq_false_iff_ne]; exact HON.out
  go_quiet (fail)
  have HG1 := Lib.hid (HG.out.drewN nq)
  go_upto_region 10 with (go_at_call 15; with_reducible refine (H1.out _ HG1.out).mono ?_; rintro e w8 ⟨rfl, hb8⟩)
  have g0 : Gr W0 w8 := ((Gr.refl W0).drewN nq).trans hb8
  have hz8 := g0.size
  have kk : ∀ B o, B < W0.heap.size → (w8.alloc (.cells #[.int .i64 z0, .int .i64 z1, .int .i64 z2, .int .i64 z3, .int .i64 z4, .int .i64 z5] 23)).cell? ⟨B, o, none⟩ = W0.cell? ⟨B, o, none⟩ := fun B o hB => Below.cell (p := ⟨B, o, none⟩) (g0.alloc _) hB
  have g2 : Gr w (w8.alloc (.cells #[.int .i64 z0, .int .i64 z1, .int .i64 z2, .int .i64 z3, .int .i64 z4, .int .i64 z5] 23)) := HG1.out.trans (hb8.alloc _)
  have HG2 := Lib.hid g2
  have hzo : w.heap.size + 2 ≤ (w8.alloc (.cells #[.int .i64 z0, .int .i64 z1, .int .i64 z2, .int .i64 z3, .int .i64 z4, .int .i64 z5] 23)).heap.size := by simp; omega
  have r0 := (kk w.heap.size 0 (by omega)).trans p0
  have r1 := (kk w.heap.size 1 (by omega)).trans p1
  have r2 := (kk w.heap.size 2 (by omega)).trans p2
  have r3 := (kk w.heap.size 3 (by omega)).trans p3
  have r4 := (kk w.heap.size 4 (by omega)).trans p4
  have r5 := (kk w.heap.size 5 (by omega)).trans p5
  have r6 := (kk w.heap.size 6 (by omega)).trans p6
  have r7 := (kk w.heap.size 7 (by omega)).trans p7
  have r8 := (kk w.heap.size 8 (by omega)).trans p8
  have y0 := (kk (w.heap.size + 1) 0 (by omega)).trans k2
  have y1 := (kk (w.heap.size + 1) 1 (by omega)).trans k3
  have hN0 := cellsN_new_drew (w8.alloc (.cells #[.int .i64 z0, .int .i64 z1, .int .i64 z2, .int .i64 z3, .int .i64 z4, .int .i64 z5] 23)) #[.int .i64 0, .int .i64 0, .int .i64 0, .int .i64 0, .int .i64 0, .int .i64 0] 23
  clear hb8 g0 hz8 kk g2 p0 p1 p2 p3 p4 p5 p6 p7 p8 k2 k3 hzW H0 H1 e1 e2 e2' e3 e4
  generalize (w8.alloc (.cells #[.int .i64 z0, .int .i64 z1, .int .i64 z2, .int .i64 z3, .int .i64 z4, .int .i64 z5] 23)) = wo at *
  go_cut [12, 13] (fun _ _ wx => Gr wo wx)
  case first =>
    go_region_held3 (fun wx => (∀ b o, (⟨min (b + 1) wo.heap.size, 0, none⟩ : Addr) = ⟨b + 1, 0, none⟩ → wx.cell? ⟨b, o, none⟩ = wo.cell? ⟨b, o, none⟩) ∧ Gr wo wx) (first | with_reducible exact held_drew _ | with_reducible exact held_call (by assumption) (by assumption) | with_reducible exact held_alloc (by assumption) _ | with_reducible exact held_alloc0 _ _ | with_reducible exact held_anew (by assumption) _ (by omega) | ((repeat (with_reducible refine held_set ?_ (by (try simp); (try omega)) _)); (first | with_reducible assumption | with_reducible exact held_call (by assumption) (by assumption))))
      (first | (go_at_call 15; with_reducible refine (H2.out _ _ (HG2.out.trans (held_gr (by assumption)))).mono ?_; rintro e w' ⟨t0, t1, t2, t3, t4, t5, et, rfl, hb⟩; have hzz := ((held_gr (by assumption)).trans hb).le; have hz := hb.le; obtain ⟨hcx, hfx⟩ := hb.cells; have hn := hb.cellsN; (try simp only [World.size_drew] at hcx hfx hz hn); (try simp only [World.size_setCell] at hcx hfx hz hn); (try simp only [World.size_alloc] at hcx hfx hz hn)))
    all_goals
      go_wp2_with fail
      go_meet
      exact held_gr (by assumption)
  case rest =>
    have HGC := Lib.hid (HG2.out.trans hcut)
    clear hcut
    go_wp2_with fail
    go_ret
    exact ⟨rfl, HGC.out⟩
end Go.Proofs.YtbaopniofhbjdaaDoor
