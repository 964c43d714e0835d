/-
  The law BrassHarmonics returns true for every input.
-/
import Derived.Test.YtbaopniofhbjdaaDoorRatio
import Derived.Test.YtbaopniofhbjdaaDoorBPlain
namespace Go.Proofs.YtbaopniofhbjdaaDoor
open Go.RowKit

set_option maxRecDepth 100000 in
set_option maxHeartbeats 16000000 in
theorem harm_bad (b0 b1 b2 b3 b4 b5 most tol x y s z0 z1 z2 z3 z4 z5 e1 t0 t1 t2 t3 t4 t5 e2 : Int) (A : Option Addr) (n c : Nat) (w : World) (hT : Tabs w)
    (h1 : ∀ W, Gr w W → Calls Tryd.prog 15 #[.agg #[.int .i64 b0, .int .i64 b1, .int .i64 b2, .int .i64 b3, .int .i64 b4, .int .i64 b5, .slice A n c, .int .i64 most, .int .i64 tol], .agg #[.int .i64 x, .int .i64 s]] W fun e w' => e = .returned (.tuple #[.agg #[.int .i64 z0, .int .i64 z1, .int .i64 z2, .int .i64 z3, .int .i64 z4, .int .i64 z5], .int .i64 e1]) ∧ Gr W w')
    (h2 : ∀ W, Gr w W → Calls Tryd.prog 15 #[.agg #[.int .i64 b0, .int .i64 b1, .int .i64 b2, .int .i64 b3, .int .i64 b4, .int .i64 b5, .slice A n c, .int .i64 most, .int .i64 tol], .agg #[.int .i64 y, .int .i64 s]] W fun e w' => e = .returned (.tuple #[.agg #[.int .i64 t0, .int .i64 t1, .int .i64 t2, .int .i64 t3, .int .i64 t4, .int .i64 t5], .int .i64 e2]) ∧ Gr W w')
    (hb : e1 ≠ 0 ∨ (e1 = 0 ∧ e2 ≠ 0)) :
    Calls Tryd.prog 10 #[.agg #[.int .i64 b0, .int .i64 b1, .int .i64 b2, .int .i64 b3, .int .i64 b4, .int .i64 b5, .slice A n c, .int .i64 most, .int .i64 tol], .int .i64 x, .int .i64 y, .int .i64 s] w fun e w' => e = .returned (.bool true) ∧ Gr w w' := by
  have HT := Lib.hid hT; have H1 := Lib.hid h1; have H2 := Lib.hid h2
  clear hT h1 h2
  rcases hb with hb | ⟨rfl, hb⟩
  all_goals
    go_enter Tryd.func10, Tryd.ntmps10
    go_upto_region 4 with (first
      | (go_at_call 12; with_reducible refine (bhead_any _ (HT.out.keep (by repeat (first | with_reducible exact Gr.refl _ | with_reducible refine Gr.alloc ?_ _ | with_reducible refine Gr.drew ?_ | with_reducible refine Gr.trans ?_ (by assumption) | with_reducible refine Gr.setCell ?_ (by (try simp); (try omega)) _)))).mono ?_; rintro e w' ⟨rfl, hb⟩; have hz := hb.le; obtain ⟨hc, hf⟩ := hb.cells; (try simp only [World.size_alloc] at hc hf hz); (try simp only [World.size_setCell] at hc hf hz); (try simp only [World.size_drew] at hc hf hz))
      | (go_at_call 15; have tok : True := trivial; with_reducible refine (H1.out _ (by repeat (first | with_reducible exact Gr.refl _ | with_reducible refine Gr.alloc ?_ _ | with_reducible refine Gr.drew ?_ | with_reducible refine Gr.trans ?_ (by assumption) | with_reducible refine Gr.setCell ?_ (by (try simp); (try omega)) _))).mono ?_; rintro e w1 ⟨rfl, hb1⟩; clear H1; have hz1 := hb1.le; obtain ⟨hc1, hf1⟩ := hb1.cells; (try simp only [World.size_alloc] at hc1 hf1 hz1))
      | (go_at_call 15; with_reducible refine (H2.out _ (by repeat (first | with_reducible exact Gr.refl _ | with_reducible refine Gr.alloc ?_ _ | with_reducible refine Gr.drew ?_ | with_reducible refine Gr.trans ?_ (by assumption) | with_reducible refine Gr.setCell ?_ (by (try simp); (try omega)) _))).mono ?_; rintro e w2 ⟨rfl, hb2⟩; have hz2 := hb2.le; obtain ⟨hc2, hf2⟩ := hb2.cells; (try simp only [World.size_alloc] at hc2 hf2 hz2)))
    go_wp2_with fail
    go_ret
    exact ⟨rfl, (by repeat (first | with_reducible exact Gr.refl _ | with_reducible refine Gr.alloc ?_ _ | with_reducible refine Gr.drew ?_ | with_reducible refine Gr.trans ?_ (by assumption) | with_reducible refine Gr.setCell ?_ (by (try simp); (try omega)) _))⟩

set_option maxRecDepth 100000 in
set_option maxHeartbeats 16000000 in
theorem harm_good (b0 b1 b2 b3 b4 b5 most tol s z0 z1 z2 z3 z4 z5 t0 t1 t2 t3 t4 t5 C v0 v1 v2 v3 v4 v5 : Int) (x y : Nat) (A : Option Addr) (n c : Nat) (w : World) (hT : Tabs w)
    (h1 : ∀ W, Gr w W → Calls Tryd.prog 15 #[.agg #[.int .i64 b0, .int .i64 b1, .int .i64 b2, .int .i64 b3, .int .i64 b4, .int .i64 b5, .slice A n c, .int .i64 most, .int .i64 tol], .agg #[.int .i64 (x : Int), .int .i64 s]] W fun e w' => e = .returned (.tuple #[.agg #[.int .i64 z0, .int .i64 z1, .int .i64 z2, .int .i64 z3, .int .i64 z4, .int .i64 z5], .int .i64 0]) ∧ Gr W w')
    (h2 : ∀ W, Gr w W → Calls Tryd.prog 15 #[.agg #[.int .i64 b0, .int .i64 b1, .int .i64 b2, .int .i64 b3, .int .i64 b4, .int .i64 b5, .slice A n c, .int .i64 most, .int .i64 tol], .agg #[.int .i64 (y : Int), .int .i64 s]] W fun e w' => e = .returned (.tuple #[.agg #[.int .i64 t0, .int .i64 t1, .int .i64 t2, .int .i64 t3, .int .i64 t4, .int .i64 t5], .int .i64 0]) ∧ Gr W w')
    (h3 : ∀ W, Gr w W → Calls Tryd.prog 31 #[.int .i64 (x : Int), .int .i64 (y : Int)] W fun e w' => e = .returned (.tuple #[.agg #[.int .i64 v0, .int .i64 v1, .int .i64 v2, .int .i64 v3, .int .i64 v4, .int .i64 v5], .int .i64 0]) ∧ Gr W w')
    (h4 : ∀ W, Calls Tryd.prog 23 #[.agg #[.int .i64 v0, .int .i64 v1, .int .i64 v2, .int .i64 v3, .int .i64 v4, .int .i64 v5]] W fun e w' => e = .returned (.tuple #[.agg #[.int .i64 (v0 * 12), .int .i64 (v1 * 12), .int .i64 (v2 * 12), .int .i64 (v3 * 12), .int .i64 (v4 * 12), .int .i64 (v5 * 12)], .int .i64 0]) ∧ Gr W w')
    (h5 : ∀ W, Calls Tryd.prog 32 #[.agg #[.int .i64 z0, .int .i64 z1, .int .i64 z2, .int .i64 z3, .int .i64 z4, .int .i64 z5], .agg #[.int .i64 t0, .int .i64 t1, .int .i64 t2, .int .i64 t3, .int .i64 t4, .int .i64 t5]] W fun e w' => e = .returned (.tuple #[.agg #[.int .i64 (v0 * 12), .int .i64 (v1 * 12), .int .i64 (v2 * 12), .int .i64 (v3 * 12), .int .i64 (v4 * 12), .int .i64 (v5 * 12)], .int .i64 0]) ∧ Gr W w')
    (h6 : ∀ W, Gr w W → Calls Tryd.prog 27 #[.agg #[.int .i64 z0, .int .i64 z1, .int .i64 z2, .int .i64 z3, .int .i64 z4, .int .i64 z5], .agg #[.int .i64 t0, .int .i64 t1, .int .i64 t2, .int .i64 t3, .int .i64 t4, .int .i64 t5]] W fun e w' => e = .returned (.tuple #[.int .i64 C, .int .i64 0]) ∧ Gr W w')
    (hC : (C = -1 ∧ x < y) ∨ (C = 0 ∧ x = y) ∨ (C = 1 ∧ y < x)) :
    Calls Tryd.prog 10 #[.agg #[.int .i64 b0, .int .i64 b1, .int .i64 b2, .int .i64 b3, .int .i64 b4, .int .i64 b5, .slice A n c, .int .i64 most, .int .i64 tol], .int .i64 (x : Int), .int .i64 (y : Int), .int .i64 s] w fun e w' => e = .returned (.bool true) ∧ Gr w w' := by
  have HT := Lib.hid hT; have H1 := Lib.hid h1; have H2 := Lib.hid h2; have H3 := Lib.hid h3; have H4 := Lib.hid h4; have H5 := Lib.hid h5; have H6 := Lib.hid h6; have HCC := Lib.hid hC
  clear hT h1 h2 h3 h4 h5 h6 hC
  have HQ := eq6P_yes (v0 * 12) (v1 * 12) (v2 * 12) (v3 * 12) (v4 * 12) (v5 * 12)
  go_enter Tryd.func10, Tryd.ntmps10
  go_upto_region 10 with (first
    | (go_at_call 12; with_reducible refine (bhead_any _ (HT.out.keep (by repeat (first | with_reducible exact Gr.refl _ | with_reducible refine Gr.alloc ?_ _ | with_reducible refine Gr.drew ?_ | with_reducible refine Gr.trans ?_ (by assumption) | with_reducible refine Gr.setCell ?_ (by (try simp); (try omega)) _)))).mono ?_; rintro e w' ⟨rfl, hb⟩; have hz := hb.le; obtain ⟨hc, hf⟩ := hb.cells; (try simp only [World.size_alloc] at hc hf hz); (try simp only [World.size_setCell] at hc hf hz); (try simp only [World.size_drew] at hc hf hz))
    | (go_at_call 15; with_reducible refine (H1.out _ (by repeat (first | with_reducible exact Gr.refl _ | with_reducible refine Gr.alloc ?_ _ | with_reducible refine Gr.drew ?_ | with_reducible refine Gr.trans ?_ (by assumption) | with_reducible refine Gr.setCell ?_ (by (try simp); (try omega)) _))).mono ?_; rintro e w1 ⟨rfl, hb1⟩; clear H1; have hz1 := hb1.le; obtain ⟨hc1, hf1⟩ := hb1.cells; (try simp only [World.size_alloc] at hc1 hf1 hz1))
    | (go_at_call 15; with_reducible refine (H2.out _ (by repeat (first | with_reducible exact Gr.refl _ | with_reducible refine Gr.alloc ?_ _ | with_reducible refine Gr.drew ?_ | with_reducible refine Gr.trans ?_ (by assumption) | with_reducible refine Gr.setCell ?_ (by (try simp); (try omega)) _))).mono ?_; rintro e w2 ⟨rfl, hb2⟩; have hz2 := hb2.le; obtain ⟨hc2, hf2⟩ := hb2.cells; (try simp only [World.size_alloc] at hc2 hf2 hz2))
    | (go_at_call 31; with_reducible refine (H3.out _ (by repeat (first | with_reducible exact Gr.refl _ | with_reducible refine Gr.alloc ?_ _ | with_reducible refine Gr.drew ?_ | with_reducible refine Gr.trans ?_ (by assumption) | with_reducible refine Gr.setCell ?_ (by (try simp); (try omega)) _))).mono ?_; rintro e w3 ⟨rfl, hb3⟩; have hz3 := hb3.le; obtain ⟨hc3, hf3⟩ := hb3.cells; (try simp only [World.size_alloc] at hc3 hf3 hz3))
    | (go_at_call 23; with_reducible refine (H4.out _).mono ?_; rintro e w4 ⟨rfl, hb4⟩; have hz4 := hb4.le; obtain ⟨hc4, hf4⟩ := hb4.cells; (try simp only [World.size_alloc] at hc4 hf4 hz4))
    | (go_at_call 32; with_reducible refine (H5.out _).mono ?_; rintro e w5 ⟨rfl, hb5⟩; have hz5 := hb5.le; obtain ⟨hc5, hf5⟩ := hb5.cells; (try simp only [World.size_alloc] at hc5 hf5 hz5))
    | (go_at_call 27; with_reducible refine (H6.out _ (by repeat (first | with_reducible exact Gr.refl _ | with_reducible refine Gr.alloc ?_ _ | with_reducible refine Gr.drew ?_ | with_reducible refine Gr.trans ?_ (by assumption) | with_reducible refine Gr.setCell ?_ (by (try simp); (try omega)) _))).mono ?_; rintro e w6 ⟨rfl, hb6⟩; have hz6 := hb6.le; obtain ⟨hc6, hf6⟩ := hb6.cells; (try simp only [World.size_alloc] at hc6 hf6 hz6)))
  have g1 : Gr w w6 := (by repeat (first | with_reducible exact Gr.refl _ | with_reducible refine Gr.alloc ?_ _ | with_reducible refine Gr.drew ?_ | with_reducible refine Gr.trans ?_ (by assumption) | with_reducible refine Gr.setCell ?_ (by (try simp); (try omega)) _))
  have HG := Lib.hid g1
  rcases HCC.out with ⟨rfl, hxy⟩ | ⟨rfl, rfl⟩ | ⟨rfl, hxy⟩
  · have e1 : decide (y < x) = false := by simp; omega
    have e2 : decide (x < y) = true := by simp; omega
    go_wp2_with fail
    go_ret
    exact ⟨rfl, HG.out⟩
  · go_wp2_with fail
    go_ret
    exact ⟨rfl, HG.out⟩
  · have e1 : decide (y < x) = true := by simp; omega
    have e2 : decide (x < y) = false := by simp; omega
    go_wp2_with fail
    go_ret
    exact ⟨rfl, HG.out⟩
def ratioSgn (x y : Nat) : Bool := cmpP ⟨((pvI x 0 : Int) - pvI y 0) * 12, ((pvI x 1 : Int) - pvI y 1) * 12, ((pvI x 2 : Int) - pvI y 2) * 12, ((pvI x 3 : Int) - pvI y 3) * 12, ((pvI x 4 : Int) - pvI y 4) * 12, ((pvI x 5 : Int) - pvI y 5) * 12⟩ == (if x < y then -1 else if x = y then 0 else 1)
theorem ratioSgn_all : ∀ x, x < 17 → ∀ y, y < 17 → 1 ≤ x → 1 ≤ y → ratioSgn x y = true := by decide +kernel
theorem ratio_sign (x y : Nat) (hx : x < 17) (hx1 : 1 ≤ x) (hy : y < 17) (hy1 : 1 ≤ y) : (cmpP ⟨((pvI x 0 : Int) - pvI y 0) * 12, ((pvI x 1 : Int) - pvI y 1) * 12, ((pvI x 2 : Int) - pvI y 2) * 12, ((pvI x 3 : Int) - pvI y 3) * 12, ((pvI x 4 : Int) - pvI y 4) * 12, ((pvI x 5 : Int) - pvI y 5) * 12⟩ = -1 ∧ x < y) ∨ (cmpP ⟨((pvI x 0 : Int) - pvI y 0) * 12, ((pvI x 1 : Int) - pvI y 1) * 12, ((pvI x 2 : Int) - pvI y 2) * 12, ((pvI x 3 : Int) - pvI y 3) * 12, ((pvI x 4 : Int) - pvI y 4) * 12, ((pvI x 5 : Int) - pvI y 5) * 12⟩ = 0 ∧ x = y) ∨ (cmpP ⟨((pvI x 0 : Int) - pvI y 0) * 12, ((pvI x 1 : Int) - pvI y 1) * 12, ((pvI x 2 : Int) - pvI y 2) * 12, ((pvI x 3 : Int) - pvI y 3) * 12, ((pvI x 4 : Int) - pvI y 4) * 12, ((pvI x 5 : Int) - pvI y 5) * 12⟩ = 1 ∧ y < x) := by
  have h := ratioSgn_all x hx y hy hx1 hy1
  unfold ratioSgn at h
  rw [beq_iff_eq] at h
  rcases Nat.lt_trichotomy x y with k | k | k
  · rw [if_pos k] at h; exact .inl ⟨h, k⟩
  · rw [if_neg (by omega), if_pos k] at h; exact .inr (.inl ⟨h, k⟩)
  · rw [if_neg (by omega), if_neg (by omega)] at h; exact .inr (.inr ⟨h, k⟩)
set_option maxHeartbeats 2000000 in
theorem harm_law (b0 b1 b2 b3 b4 b5 most tol x y s : Int) (A : Option Addr) (n c : Nat) (f : Nat → Nat → Int) (hn : n ≤ 9223372036854775807) (w : World) (hT : Tabs w) (hV : RowsAt w 6 A n f) :
    Calls Tryd.prog 10 #[.agg #[.int .i64 b0, .int .i64 b1, .int .i64 b2, .int .i64 b3, .int .i64 b4, .int .i64 b5, .slice A n c, .int .i64 most, .int .i64 tol], .int .i64 x, .int .i64 y, .int .i64 s] w fun e w' => e = .returned (.bool true) ∧ Gr w w' := by
  obtain ⟨z0, z1, z2, z3, z4, z5, e1, h1, ha1⟩ := Sound_all b0 b1 b2 b3 b4 b5 most tol x s A n c f hn
  obtain ⟨t0, t1, t2, t3, t4, t5, e2, h2, ha2⟩ := Sound_all b0 b1 b2 b3 b4 b5 most tol y s A n c f hn
  have k1 := fun W (g : Gr w W) => h1 W (hT.keep g) (hV.keep g)
  have k2 := fun W (g : Gr w W) => h2 W (hT.keep g) (hV.keep g)
  have good : ∀ {x : Int} {z : V6} {ez : Int}, SndAll ⟨b0, b1, b2, b3, b4, b5⟩ f n most tol x s z ez → ez = 0 → hornOk ⟨b0, b1, b2, b3, b4, b5⟩ n f most tol = true ∧ isBlow n most x s ∧ allIn (soundV ⟨b0, b1, b2, b3, b4, b5⟩ f n x.toNat s.toNat) 576 6 = true ∧ z = soundV ⟨b0, b1, b2, b3, b4, b5⟩ f n x.toNat s.toNat := by
    rintro x z ez (⟨-, -, h⟩ | ⟨-, -, -, h⟩ | ⟨h1, h2, h3, h4, -⟩ | ⟨-, -, -, -, h⟩) rfl
    · omega
    · omega
    · exact ⟨h1, h2, h3, h4⟩
    · omega
  by_cases he1 : e1 = 0
  · by_cases he2 : e2 = 0
    · obtain ⟨hok, ⟨hx1, hx2, -, -⟩, hin1, hz⟩ := good ha1 he1
      obtain ⟨-, ⟨hy1, hy2, -, -⟩, hin2, ht⟩ := good ha2 he2
      subst he1 he2
      obtain ⟨-, -, -, hm, -, -, -⟩ := hornOk_parts hok
      obtain ⟨X, rfl⟩ : ∃ X : Nat, x = (X : Int) := ⟨x.toNat, by omega⟩
      obtain ⟨Y, rfl⟩ : ∃ Y : Nat, y = (Y : Int) := ⟨y.toNat, by omega⟩
      simp only [Int.toNat_natCast] at hz ht hin1 hin2
      have hzi : allIn ⟨z0, z1, z2, z3, z4, z5⟩ 576 6 = true := by rw [hz]; exact hin1
      have hti : allIn ⟨t0, t1, t2, t3, t4, t5⟩ 576 6 = true := by rw [ht]; exact hin2
      simp only [soundV, V6.mk.injEq] at hz ht
      obtain ⟨a0, a1, a2, a3, a4, a5⟩ := hz
      obtain ⟨c0, c1, c2, c3, c4, c5⟩ := ht
      have d : ∀ i, soundF ⟨b0, b1, b2, b3, b4, b5⟩ f n X s.toNat i - soundF ⟨b0, b1, b2, b3, b4, b5⟩ f n Y s.toNat i = ((pvI X i : Int) - pvI Y i) * 12 := fun i => by unfold soundF; omega
      have d0 : z0 - t0 = ((pvI X 0 : Int) - pvI Y 0) * 12 := by rw [a0, c0]; exact d 0
      have d1 : z1 - t1 = ((pvI X 1 : Int) - pvI Y 1) * 12 := by rw [a1, c1]; exact d 1
      have d2 : z2 - t2 = ((pvI X 2 : Int) - pvI Y 2) * 12 := by rw [a2, c2]; exact d 2
      have d3 : z3 - t3 = ((pvI X 3 : Int) - pvI Y 3) * 12 := by rw [a3, c3]; exact d 3
      have d4 : z4 - t4 = ((pvI X 4 : Int) - pvI Y 4) * 12 := by rw [a4, c4]; exact d 4
      have d5 : z5 - t5 = ((pvI X 5 : Int) - pvI Y 5) * 12 := by rw [a5, c5]; exact d 5
      have bd : ∀ i, -5 ≤ (pvI X i : Int) - pvI Y i ∧ (pvI X i : Int) - pvI Y i ≤ 5 := fun i => by have := pvI_le X i; have := pvI_le Y i; omega
      have hvi : allIn ⟨(pvI X 0 : Int) - pvI Y 0, (pvI X 1 : Int) - pvI Y 1, (pvI X 2 : Int) - pvI Y 2, (pvI X 3 : Int) - pvI Y 3, (pvI X 4 : Int) - pvI Y 4, (pvI X 5 : Int) - pvI Y 5⟩ 48 6 = true := allIn_mk fun k hk => by
        rcases (show k = 0 ∨ k = 1 ∨ k = 2 ∨ k = 3 ∨ k = 4 ∨ k = 5 by omega) with rfl | rfl | rfl | rfl | rfl | rfl <;> simp only [V6.get]
        · have := bd 0; omega
        · have := bd 1; omega
        · have := bd 2; omega
        · have := bd 3; omega
        · have := bd 4; omega
        · have := bd 5; omega
      have hdi : allIn ⟨z0 - t0, z1 - t1, z2 - t2, z3 - t3, z4 - t4, z5 - t5⟩ 576 6 = true := allIn_mk fun k hk => by
        rcases (show k = 0 ∨ k = 1 ∨ k = 2 ∨ k = 3 ∨ k = 4 ∨ k = 5 by omega) with rfl | rfl | rfl | rfl | rfl | rfl <;> simp only [V6.get]
        · have := bd 0; omega
        · have := bd 1; omega
        · have := bd 2; omega
        · have := bd 3; omega
        · have := bd 4; omega
        · have := bd 5; omega
      have hD := fun W => div_ok z0 z1 z2 z3 z4 z5 t0 t1 t2 t3 t4 t5 W hzi hti hdi
      have hC := fun W (g : Gr w W) => pcmp_ok z0 z1 z2 z3 z4 z5 t0 t1 t2 t3 t4 t5 W (hT.keep g).primes hzi hti
      have hsg := ratio_sign X Y (by omega) (by omega) (by omega) (by omega)
      rw [← d0, ← d1, ← d2, ← d3, ← d4, ← d5] at hsg
      rw [d0, d1, d2, d3, d4, d5] at hD
      exact harm_good b0 b1 b2 b3 b4 b5 most tol s z0 z1 z2 z3 z4 z5 t0 t1 t2 t3 t4 t5 _ _ _ _ _ _ _ X Y A n c w hT k1 k2 (fun W g => ratio_small X Y W (hT.keep g).primes (by omega) (by omega) (by omega) (by omega)) (fun W => pof_ok _ _ _ _ _ _ W hvi) hD hC hsg
    · exact harm_bad b0 b1 b2 b3 b4 b5 most tol x y s z0 z1 z2 z3 z4 z5 e1 t0 t1 t2 t3 t4 t5 e2 A n c w hT k1 k2 (.inr ⟨he1, he2⟩)
  · exact harm_bad b0 b1 b2 b3 b4 b5 most tol x y s z0 z1 z2 z3 z4 z5 e1 t0 t1 t2 t3 t4 t5 e2 A n c w hT k1 k2 (.inl he1)
end Go.Proofs.YtbaopniofhbjdaaDoor
