/-
  The law BrassTransposed: its walks.
-/
import Derived.Test.YtbaopniofhbjdaaDoorBHead
import Derived.Test.YtbaopniofhbjdaaDoorHeld
import Derived.WalkSmall
namespace Go.Proofs.YtbaopniofhbjdaaDoor
open Go.RowKit

set_option maxRecDepth 100000 in
set_option maxHeartbeats 2000000 in
theorem bounded_any (a0 a1 a2 a3 a4 a5 b : Int) (hb : 0 ≤ b) (hb2 : b ≤ 1000000) (w : World) :
    Calls Tryd.prog 28 #[.agg #[.int .i64 a0, .int .i64 a1, .int .i64 a2, .int .i64 a3, .int .i64 a4, .int .i64 a5], .int .i64 b] w
      fun e w' => e = .returned (.bool (allIn ⟨a0, a1, a2, a3, a4, a5⟩ b 6)) ∧ Gr w w' := by
  go_enter Tryd.func28, Tryd.ntmps28
  go_wp2_with fail
  go_loop [5] (fun i => ∃ k : Nat, k ≤ 6 ∧ i = .int .i64 k ∧ Hid (allIn ⟨a0, a1, a2, a3, a4, a5⟩ b k = true)) (fun i => 6 - (intOf i).toNat)
  case atStart => exact ⟨0, by omega, rfl, rfl⟩
  case round =>
    obtain ⟨k, hk, rfl, hall⟩ := hrel
    by_cases hlt : k < 6
    · have hx : (w.alloc (.cells #[.int .i64 a0, .int .i64 a1, .int .i64 a2, .int .i64 a3, .int .i64 a4, .int .i64 a5] 22)).cell? ⟨w.heap.size, k, none⟩ = some (.int .i64 (V6.get ⟨a0, a1, a2, a3, a4, a5⟩ k)) := by
        rcases (show k = 0 ∨ k = 1 ∨ k = 2 ∨ k = 3 ∨ k = 4 ∨ k = 5 by omega) with rfl | rfl | rfl | rfl | rfl | rfl <;> simp [go_sem, V6.get]
      generalize hg : (⟨a0, a1, a2, a3, a4, a5⟩ : V6) = v at hx hall ⊢
      have HG := Lib.hid hg; clear hg
      generalize hv : v.get k = x at hx
      have HV := Lib.hid hv; clear hv
      by_cases h1 : x < -b
      · go_wp2_with fail
        go_ret
        exact ⟨ret_bool (by rw [HG.out]; exact (allIn_no v b k hlt (by rw [HV.out]; omega)).symm), (by repeat (first | exact Gr.refl _ | refine Gr.alloc ?_ _ | refine Gr.drew ?_ | refine Gr.trans ?_ (by assumption) | refine Gr.setCell ?_ (by (try simp); (try omega)) _))⟩
      · by_cases h2 : b < x
        · go_wp2_with fail
          go_ret
          exact ⟨ret_bool (by rw [HG.out]; exact (allIn_no v b k hlt (by rw [HV.out]; omega)).symm), (by repeat (first | exact Gr.refl _ | refine Gr.alloc ?_ _ | refine Gr.drew ?_ | refine Gr.trans ?_ (by assumption) | refine Gr.setCell ?_ (by (try simp); (try omega)) _))⟩
        · go_wp2_with fail
          go_round
          case rel => exact ⟨k + 1, by omega, by go_num, allIn_next v b k hall.out (by rw [HV.out]; omega) (by rw [HV.out]; omega)⟩
          case measure => simp [intOf]; omega
    · obtain rfl : k = 6 := by omega
      have HA : Hid (allIn ⟨a0, a1, a2, a3, a4, a5⟩ b 6 = true) := hall
      go_wp2_with fail
      go_ret
      exact ⟨ret_bool HA.out.symm, (by repeat (first | exact Gr.refl _ | refine Gr.alloc ?_ _ | refine Gr.drew ?_ | refine Gr.trans ?_ (by assumption) | refine Gr.setCell ?_ (by (try simp); (try omega)) _))⟩

set_option maxRecDepth 100000 in
set_option maxHeartbeats 16000000 in
theorem trans_bad (b0 b1 b2 b3 b4 b5 most tol v0 v1 v2 v3 v4 v5 y0 y1 y2 y3 y4 y5 : Int) (V : Bool) (A : Option Addr) (n c : Nat) (w : World) (hT : Tabs w)
    (hV : ∀ W, Gr w W → Calls Tryd.prog 13 #[.agg #[.int .i64 b0, .int .i64 b1, .int .i64 b2, .int .i64 b3, .int .i64 b4, .int .i64 b5, .slice A n c, .int .i64 most, .int .i64 tol]] W fun e w' => e = .returned (.bool V) ∧ Gr W w')
    (hc : V = false ∨ (V = true ∧ allIn ⟨b0, b1, b2, b3, b4, b5⟩ 100 6 = false) ∨ (V = true ∧ allIn ⟨b0, b1, b2, b3, b4, b5⟩ 100 6 = true ∧ allIn ⟨y0, y1, y2, y3, y4, y5⟩ 10 6 = false) ∨ (V = true ∧ allIn ⟨b0, b1, b2, b3, b4, b5⟩ 100 6 = true ∧ allIn ⟨y0, y1, y2, y3, y4, y5⟩ 10 6 = true ∧ allIn ⟨v0, v1, v2, v3, v4, v5⟩ 38 6 = false)) :
    Calls Tryd.prog 7 #[.agg #[.int .i64 b0, .int .i64 b1, .int .i64 b2, .int .i64 b3, .int .i64 b4, .int .i64 b5, .slice A n c, .int .i64 most, .int .i64 tol], .agg #[.int .i64 v0, .int .i64 v1, .int .i64 v2, .int .i64 v3, .int .i64 v4, .int .i64 v5], .agg #[.int .i64 y0, .int .i64 y1, .int .i64 y2, .int .i64 y3, .int .i64 y4, .int .i64 y5]] w fun e w' => e = .returned (.bool true) ∧ Gr w w' := by
  have HT := Lib.hid hT; have HV := Lib.hid hV
  have H1 := Lib.hid (fun W => bounded_any b0 b1 b2 b3 b4 b5 100 (by omega) (by omega) W)
  have H2 := Lib.hid (fun W => bounded_any y0 y1 y2 y3 y4 y5 10 (by omega) (by omega) W)
  have H3 := Lib.hid (fun W => bounded_any v0 v1 v2 v3 v4 v5 38 (by omega) (by omega) W)
  clear hT hV
  rcases hc with rfl | ⟨rfl, h1⟩ | ⟨rfl, h1, h2⟩ | ⟨rfl, h1, h2, h3⟩
  all_goals
    try rw [h1] at H1
    try rw [h2] at H2
    try rw [h3] at H3
    go_enter Tryd.func7, Tryd.ntmps7
    go_wp2_with (first
      | (go_at_call 12; with_reducible refine (bhead_any _ (HT.out.keep (by repeat (first | with_reducible exact Gr.refl _ | with_reducible refine Gr.alloc ?_ _ | with_reducible refine Gr.drew ?_ | with_reducible refine Gr.trans ?_ (by assumption) | with_reducible refine Gr.setCell ?_ (by (try simp); (try omega)) _)))).mono ?_; rintro e w' ⟨rfl, hb⟩; have hz := hb.le; obtain ⟨hc, hf⟩ := hb.cells; (try simp only [World.size_alloc] at hc hf hz); (try simp only [World.size_setCell] at hc hf hz); (try simp only [World.size_drew] at hc hf hz))
      | (go_at_call 13; with_reducible refine (HV.out _ (by repeat (first | with_reducible exact Gr.refl _ | with_reducible refine Gr.alloc ?_ _ | with_reducible refine Gr.drew ?_ | with_reducible refine Gr.trans ?_ (by assumption) | with_reducible refine Gr.setCell ?_ (by (try simp); (try omega)) _))).mono ?_; rintro e w' ⟨rfl, hb⟩; have hz := hb.le; obtain ⟨hc, hf⟩ := hb.cells; (try simp only [World.size_alloc] at hc hf hz); (try simp only [World.size_setCell] at hc hf hz); (try simp only [World.size_drew] at hc hf hz))
      | (go_at_call 28; with_reducible refine (H1.out _).mono ?_; rintro e w' ⟨rfl, hb⟩; have hz := hb.le; obtain ⟨hc, hf⟩ := hb.cells; (try simp only [World.size_alloc] at hc hf hz); (try simp only [World.size_setCell] at hc hf hz); (try simp only [World.size_drew] at hc hf hz))
      | (go_at_call 28; with_reducible refine (H2.out _).mono ?_; rintro e w' ⟨rfl, hb⟩; have hz := hb.le; obtain ⟨hc, hf⟩ := hb.cells; (try simp only [World.size_alloc] at hc hf hz); (try simp only [World.size_setCell] at hc hf hz); (try simp only [World.size_drew] at hc hf hz))
      | (go_at_call 28; with_reducible refine (H3.out _).mono ?_; rintro e w' ⟨rfl, hb⟩; have hz := hb.le; obtain ⟨hc, hf⟩ := hb.cells; (try simp only [World.size_alloc] at hc hf hz); (try simp only [World.size_setCell] at hc hf hz); (try simp only [World.size_drew] at hc hf hz)))
    go_ret
    exact ⟨rfl, (by repeat (first | with_reducible exact Gr.refl _ | with_reducible refine Gr.alloc ?_ _ | with_reducible refine Gr.drew ?_ | with_reducible refine Gr.trans ?_ (by assumption) | with_reducible refine Gr.setCell ?_ (by (try simp); (try omega)) _))⟩
/-- All of the first n rows are bounded. -/
def rowsIn (f : Nat → Nat → Int) (b : Int) : Nat → Bool
  | 0 => true
  | n + 1 => rowsIn f b n && allIn ⟨f n 0, f n 1, f n 2, f n 3, f n 4, f n 5⟩ b 6
theorem rowsIn_iff (f : Nat → Nat → Int) (b : Int) (n : Nat) : rowsIn f b n = true ↔ ∀ i, i < n → allIn ⟨f i 0, f i 1, f i 2, f i 3, f i 4, f i 5⟩ b 6 = true := by
  induction n with
  | zero => simp [rowsIn]
  | succ n ih =>
    simp only [rowsIn, Bool.and_eq_true, ih]
    constructor
    · rintro ⟨h1, h2⟩ i hi
      by_cases e : i = n
      · subst e; exact h2
      · exact h1 i (by omega)
    · exact fun h => ⟨fun i hi => h i (by omega), h n (by omega)⟩

/-- The horn and the interval while they are moved, exponent by exponent. -/
structure TrRel (b v y : V6) (V6c most tol : Value) (Bg Bw k : Nat) (W : World) : Prop where
  lt : Bg < Bw
  sz : Bw < W.heap.size
  g : ∀ j, j < 6 → W.cell? ⟨Bg, j, none⟩ = some (.int .i64 (if j < k then b.get j + 12 * y.get j else b.get j))
  w : ∀ j, j < 6 → W.cell? ⟨Bw, j, none⟩ = some (.int .i64 (if j < k then v.get j + y.get j else v.get j))
  c6 : W.cell? ⟨Bg, 6, none⟩ = some V6c
  c7 : W.cell? ⟨Bg, 7, none⟩ = some most
  c8 : W.cell? ⟨Bg, 8, none⟩ = some tol
  gf : ∀ j, W.frozen? ⟨Bg, j, none⟩ = false
  wf : ∀ j, W.frozen? ⟨Bw, j, none⟩ = false
theorem TrRel.keep {b v y : V6} {c m t : Value} {Bg Bw k : Nat} {W W' : World} (h : TrRel b v y c m t Bg Bw k W) (g : Gr W W') : TrRel b v y c m t Bg Bw k W' := by
  have h1 := h.lt
  have h2 := h.sz
  have k1 : ∀ B o, B ≤ Bw → W'.cell? ⟨B, o, none⟩ = W.cell? ⟨B, o, none⟩ := fun B o hB => Below.cell (p := ⟨B, o, none⟩) g (show B < W.heap.size by omega)
  have k2 : ∀ B o, B ≤ Bw → W'.frozen? ⟨B, o, none⟩ = W.frozen? ⟨B, o, none⟩ := fun B o hB => Below.frozen (p := ⟨B, o, none⟩) g (show B < W.heap.size by omega)
  exact ⟨h1, Nat.lt_of_lt_of_le h2 g.size, fun j hj => (k1 _ _ (by omega)).trans (h.g j hj), fun j hj => (k1 _ _ (by omega)).trans (h.w j hj), (k1 _ _ (by omega)).trans h.c6, (k1 _ _ (by omega)).trans h.c7, (k1 _ _ (by omega)).trans h.c8, fun j => (k2 _ _ (by omega)).trans (h.gf j), fun j => (k2 _ _ (by omega)).trans (h.wf j)⟩
theorem TrRel.step {b v y : V6} {c m t : Value} {Bg Bw k : Nat} {W : World} (h : TrRel b v y c m t Bg Bw k W) (hk : k < 6) : TrRel b v y c m t Bg Bw (k + 1) ((W.setCell ⟨Bg, k, none⟩ (.int .i64 (b.get k + 12 * y.get k))).setCell ⟨Bw, k, none⟩ (.int .i64 (v.get k + y.get k))) := by
  obtain ⟨h1, h2, h3, h4, h5, h6, h7, h8, h9⟩ := h
  have og : ∀ (W : World) (o : Nat) (x : Value), (W.setCell ⟨Bw, k, none⟩ x).cell? ⟨Bg, o, none⟩ = W.cell? ⟨Bg, o, none⟩ := fun W o x => World.cell?_setCell_other _ _ _ _ (fun e => by injection e; omega)
  have ow : ∀ (W : World) (o : Nat) (x : Value), (W.setCell ⟨Bg, k, none⟩ x).cell? ⟨Bw, o, none⟩ = W.cell? ⟨Bw, o, none⟩ := fun W o x => World.cell?_setCell_other _ _ _ _ (fun e => by injection e; omega)
  have gk := h3 k hk
  have wk := h4 k hk
  refine ⟨h1, by simpa using h2, fun j hj => ?_, fun j hj => ?_, ?_, ?_, ?_, fun j => ?_, fun j => ?_⟩
  · rw [og]
    by_cases e : j = k
    · subst e
      rw [if_pos (by omega)]
      simp [go_sem, gk]
    · have := h3 j hj
      rw [World.cell?_setCell_other _ _ _ _ (fun e' => by injection e'; omega), this]
      by_cases h : j < k
      · rw [if_pos h, if_pos (by omega)]
      · rw [if_neg h, if_neg (by omega)]
  · by_cases e : j = k
    · subst e
      rw [if_pos (by omega)]
      refine World.cell?_setCell_same' _ _ _ ?_
      rw [ow, wk]; rfl
    · have := h4 j hj
      rw [World.cell?_setCell_other _ _ _ _ (fun e' => by injection e'; omega), ow, this]
      by_cases h : j < k
      · rw [if_pos h, if_pos (by omega)]
      · rw [if_neg h, if_neg (by omega)]
  · rw [og, World.cell?_setCell_other _ _ _ _ (fun e' => by injection e'; omega)]; exact h5
  · rw [og, World.cell?_setCell_other _ _ _ _ (fun e' => by injection e'; omega)]; exact h6
  · rw [og, World.cell?_setCell_other _ _ _ _ (fun e' => by injection e'; omega)]; exact h7
  · simp only [World.frozen?_setCell]; exact h8 j
  · simp only [World.frozen?_setCell]; exact h9 j

set_option maxRecDepth 100000 in
set_option maxHeartbeats 16000000 in
theorem trans_good (b0 b1 b2 b3 b4 b5 most tol v0 v1 v2 v3 v4 v5 y0 y1 y2 y3 y4 y5 : Int) (A : Option Addr) (n c N : Nat) (f g : Nat → Nat → Int) (w : World) (hT : Tabs w) (hR : RowsAt w 6 A n f) (hn : n ≤ 9223372036854775807) (hN : N ≤ 9223372036854775807)
    (hV : ∀ W, Gr w W → Calls Tryd.prog 13 #[.agg #[.int .i64 b0, .int .i64 b1, .int .i64 b2, .int .i64 b3, .int .i64 b4, .int .i64 b5, .slice A n c, .int .i64 most, .int .i64 tol]] W fun e w' => e = .returned (.bool true) ∧ Gr W w')
    (h1 : allIn ⟨b0, b1, b2, b3, b4, b5⟩ 100 6 = true) (h2 : allIn ⟨y0, y1, y2, y3, y4, y5⟩ 10 6 = true) (h3 : allIn ⟨v0, v1, v2, v3, v4, v5⟩ 38 6 = true)
    (hF : rowsIn f 70 n = true → ∀ W, Gr w W → Calls Tryd.prog 17 #[.agg #[.int .i64 b0, .int .i64 b1, .int .i64 b2, .int .i64 b3, .int .i64 b4, .int .i64 b5, .slice A n c, .int .i64 most, .int .i64 tol], .agg #[.int .i64 v0, .int .i64 v1, .int .i64 v2, .int .i64 v3, .int .i64 v4, .int .i64 v5]] W fun e w' => ∃ A c, e = .returned (.tuple #[.slice A N c, .int .i64 0]) ∧ RowsAt w' 2 A N g ∧ Gr W w')
    (hF2 : rowsIn f 70 n = true → ∀ W, Gr w W → Calls Tryd.prog 17 #[.agg #[.int .i64 (b0 + 12 * y0), .int .i64 (b1 + 12 * y1), .int .i64 (b2 + 12 * y2), .int .i64 (b3 + 12 * y3), .int .i64 (b4 + 12 * y4), .int .i64 (b5 + 12 * y5), .slice A n c, .int .i64 most, .int .i64 tol], .agg #[.int .i64 (v0 + y0), .int .i64 (v1 + y1), .int .i64 (v2 + y2), .int .i64 (v3 + y3), .int .i64 (v4 + y4), .int .i64 (v5 + y5)]] W fun e w' => ∃ A c, e = .returned (.tuple #[.slice A N c, .int .i64 0]) ∧ RowsAt w' 2 A N g ∧ Gr W w') :
    Calls Tryd.prog 7 #[.agg #[.int .i64 b0, .int .i64 b1, .int .i64 b2, .int .i64 b3, .int .i64 b4, .int .i64 b5, .slice A n c, .int .i64 most, .int .i64 tol], .agg #[.int .i64 v0, .int .i64 v1, .int .i64 v2, .int .i64 v3, .int .i64 v4, .int .i64 v5], .agg #[.int .i64 y0, .int .i64 y1, .int .i64 y2, .int .i64 y3, .int .i64 y4, .int .i64 y5]] w fun e w' => e = .returned (.bool true) ∧ Gr w w' := by
  have HT := Lib.hid hT; have HV := Lib.hid hV; have HF := Lib.hid hF; have HF2 := Lib.hid hF2; have HR := Lib.hid hR
  have H1 := Lib.hid (fun W => bounded_any b0 b1 b2 b3 b4 b5 100 (by omega) (by omega) W)
  have H2 := Lib.hid (fun W => bounded_any y0 y1 y2 y3 y4 y5 10 (by omega) (by omega) W)
  have H3 := Lib.hid (fun W => bounded_any v0 v1 v2 v3 v4 v5 38 (by omega) (by omega) W)
  rw [h1] at H1
  rw [h2] at H2
  rw [h3] at H3
  clear hT hV hF hF2 hR
  have HA1 := Lib.hid (allIn_at h1); have HA2 := Lib.hid (allIn_at h2); have HA3 := Lib.hid (allIn_at h3)
  clear h1 h2 h3
  go_enter Tryd.func7, Tryd.ntmps7
  go_upto_region 4 with (first
    | (go_at_call 12; with_reducible refine (bhead_any _ (HT.out.keep (by repeat (first | with_reducible exact Gr.refl _ | with_reducible refine Gr.alloc ?_ _ | with_reducible refine Gr.drew ?_ | with_reducible refine Gr.trans ?_ (by assumption) | with_reducible refine Gr.setCell ?_ (by (try simp); (try omega)) _)))).mono ?_; rintro e w' ⟨rfl, hb⟩; have hz := hb.le; obtain ⟨hc, hf⟩ := hb.cells; (try simp only [World.size_alloc] at hc hf hz); (try simp only [World.size_setCell] at hc hf hz); (try simp only [World.size_drew] at hc hf hz))
    | (go_at_call 13; with_reducible refine (HV.out _ (by repeat (first | with_reducible exact Gr.refl _ | with_reducible refine Gr.alloc ?_ _ | with_reducible refine Gr.drew ?_ | with_reducible refine Gr.trans ?_ (by assumption) | with_reducible refine Gr.setCell ?_ (by (try simp); (try omega)) _))).mono ?_; rintro e w' ⟨rfl, hb⟩; have hz := hb.le; obtain ⟨hc, hf⟩ := hb.cells; (try simp only [World.size_alloc] at hc hf hz); (try simp only [World.size_setCell] at hc hf hz); (try simp only [World.size_drew] at hc hf hz))
    | (go_at_call 28; with_reducible refine (H1.out _).mono ?_; rintro e w' ⟨rfl, hb⟩; have hz := hb.le; obtain ⟨hc, hf⟩ := hb.cells; (try simp only [World.size_alloc] at hc hf hz); (try simp only [World.size_setCell] at hc hf hz); (try simp only [World.size_drew] at hc hf hz))
    | (go_at_call 28; with_reducible refine (H2.out _).mono ?_; rintro e w' ⟨rfl, hb⟩; have hz := hb.le; obtain ⟨hc, hf⟩ := hb.cells; (try simp only [World.size_alloc] at hc hf hz); (try simp only [World.size_setCell] at hc hf hz); (try simp only [World.size_drew] at hc hf hz))
    | (go_at_call 28; with_reducible refine (H3.out _).mono ?_; rintro e w1 ⟨rfl, hb1⟩; have hz1 := hb1.le; obtain ⟨hc1, hf1⟩ := hb1.cells; (try simp only [World.size_alloc] at hc1 hf1 hz1)))
  have k1 : HornAt w1 w.heap.size b0 b1 b2 b3 b4 b5 (.slice A n c) most tol := ⟨by simp [go_sem, *], by simp [go_sem, *], by simp [go_sem, *], by simp [go_sem, *], by simp [go_sem, *], by simp [go_sem, *], by simp [go_sem, *], by simp [go_sem, *], by simp [go_sem, *]⟩
  have k2 : SixV w1 (w.heap.size + 1) (.int .i64 v0) (.int .i64 v1) (.int .i64 v2) (.int .i64 v3) (.int .i64 v4) (.int .i64 v5) := ⟨by simp [go_sem, *], by simp [go_sem, *], by simp [go_sem, *], by simp [go_sem, *], by simp [go_sem, *], by simp [go_sem, *]⟩
  have k3 : SixV w1 (w.heap.size + 1 + 1) (.int .i64 y0) (.int .i64 y1) (.int .i64 y2) (.int .i64 y3) (.int .i64 y4) (.int .i64 y5) := ⟨by simp [go_sem, *], by simp [go_sem, *], by simp [go_sem, *], by simp [go_sem, *], by simp [go_sem, *], by simp [go_sem, *]⟩
  have g1 : Gr w w1 := (by repeat (first | with_reducible exact Gr.refl _ | with_reducible refine Gr.alloc ?_ _ | with_reducible refine Gr.drew ?_ | with_reducible refine Gr.trans ?_ (by assumption) | with_reducible refine Gr.setCell ?_ (by (try simp); (try omega)) _))
  have z1 : w.heap.size + 3 ≤ w1.heap.size := by omega
  have HG := Lib.hid g1; have HK1 := Lib.hid k1; have HK2 := Lib.hid k2; have HK3 := Lib.hid k3
  clear hb hz hc hf hb1 hz1 hc1 hf1 k1 k2 k3 g1 HV H1 H2 H3
  go_wp2_with fail
  go_loopw [8] (fun i wr => ∃ k : Nat, k ≤ n ∧ i = .int .i64 k ∧ rowsIn f 70 k = true ∧ Gr w1 wr) (fun i _ => n - (intOf i).toNat)
  case atStart => exact ⟨0, Nat.zero_le _, rfl, rfl, Gr.refl _⟩
  case round =>
    obtain ⟨k, hk, rfl, hrk, hg⟩ := hrel
    have HGW := Lib.hid hg; have HRK := Lib.hid hrk
    have hzw := hg.size
    obtain ⟨p0, p1, p2, p3, p4, p5, p6, p7, p8⟩ := HK1.out.keep hg (show w.heap.size < w1.heap.size by omega)
    clear hg hrk
    by_cases hlt : k < n
    · obtain ⟨b, off, rfl, hbl, c0, c1', c2, c3, c4, c5⟩ := (HR.out.keep (HG.out.trans HGW.out)).six hlt
      have HB := Lib.hid (fun W => bounded_any (f k 0) (f k 1) (f k 2) (f k 3) (f k 4) (f k 5) 70 (by omega) (by omega) W)
      obtain ⟨wo, rfl⟩ : ∃ wo : World, wo = wr := ⟨_, rfl⟩
      cases hbd : allIn ⟨f k 0, f k 1, f k 2, f k 3, f k 4, f k 5⟩ 70 6 with
      | true =>
        have HN : Hid (rowsIn f 70 (k + 1) = true) := Lib.hid (by simp [rowsIn, HRK.out, hbd])
        rw [hbd] at HB
        clear hbd
        go_wp2_with (go_at_call 28; with_reducible refine (HB.out _).mono ?_; rintro e w2 ⟨rfl, hb2⟩)
        go_roundw
        case rel => exact ⟨k + 1, by omega, by go_num, HN.out, HGW.out.trans hb2⟩
        case measure => simp [intOf]; omega
      | false =>
        rw [hbd] at HB
        clear hbd
        go_wp2_with (go_at_call 28; with_reducible refine (HB.out _).mono ?_; rintro e w2 ⟨rfl, hb2⟩)
        go_ret
        exact ⟨rfl, HG.out.trans (HGW.out.trans hb2)⟩
    · obtain rfl : k = n := by omega
      obtain ⟨u0, u1, u2, u3, u4, u5⟩ := HK2.out.keep HGW.out (show w.heap.size + 1 < w1.heap.size by omega)
      have HF' := Lib.hid (HF.out HRK.out); have HF2' := Lib.hid (HF2.out HRK.out)
      clear HF HF2
      obtain ⟨wo, rfl⟩ : ∃ wo : World, wo = wr := ⟨_, rfl⟩
      go_wp2_with fail
      have hrel0 : TrRel ⟨b0, b1, b2, b3, b4, b5⟩ ⟨v0, v1, v2, v3, v4, v5⟩ ⟨y0, y1, y2, y3, y4, y5⟩ (.slice A k c) (.int .i64 most) (.int .i64 tol) wo.heap.size (wo.heap.size + 1) 0 ((wo.alloc (.cells #[.int .i64 b0, .int .i64 b1, .int .i64 b2, .int .i64 b3, .int .i64 b4, .int .i64 b5, .slice A k c, .int .i64 most, .int .i64 tol] 26)).alloc (.cells #[.int .i64 v0, .int .i64 v1, .int .i64 v2, .int .i64 v3, .int .i64 v4, .int .i64 v5] 29)) := by
        refine ⟨by omega, by simp, fun j hj => ?_, fun j hj => ?_, by simp [go_sem], by simp [go_sem], by simp [go_sem], fun j => by simp [go_sem], fun j => by simp [go_sem]⟩
        · rcases (show j = 0 ∨ j = 1 ∨ j = 2 ∨ j = 3 ∨ j = 4 ∨ j = 5 by omega) with rfl | rfl | rfl | rfl | rfl | rfl <;> simp [go_sem, V6.get]
        · rcases (show j = 0 ∨ j = 1 ∨ j = 2 ∨ j = 3 ∨ j = 4 ∨ j = 5 by omega) with rfl | rfl | rfl | rfl | rfl | rfl <;> simp [go_sem, V6.get]
      have HREL0 := Lib.hid hrel0
      have HG0 := Lib.hid (HGW.out.trans (((Gr.refl wo).alloc (.cells #[.int .i64 b0, .int .i64 b1, .int .i64 b2, .int .i64 b3, .int .i64 b4, .int .i64 b5, .slice A k c, .int .i64 most, .int .i64 tol] 26)).alloc (.cells #[.int .i64 v0, .int .i64 v1, .int .i64 v2, .int .i64 v3, .int .i64 v4, .int .i64 v5] 29)))
      have hzo : w1.heap.size ≤ wo.heap.size := hzw
      clear hrel0 p0 p1 p2 p3 p4 p5 p6 p7 p8 u0 u1 u2 u3 u4 u5
      generalize ((wo.alloc (.cells #[.int .i64 b0, .int .i64 b1, .int .i64 b2, .int .i64 b3, .int .i64 b4, .int .i64 b5, .slice A k c, .int .i64 most, .int .i64 tol] 26)).alloc (.cells #[.int .i64 v0, .int .i64 v1, .int .i64 v2, .int .i64 v3, .int .i64 v4, .int .i64 v5] 29)) = W0 at *
      generalize wo.heap.size = Bg at *
      go_loopw [11] (fun i wr => ∃ j : Nat, j ≤ 6 ∧ i = .int .i64 j ∧ Gr w1 wr ∧ TrRel ⟨b0, b1, b2, b3, b4, b5⟩ ⟨v0, v1, v2, v3, v4, v5⟩ ⟨y0, y1, y2, y3, y4, y5⟩ (.slice A k c) (.int .i64 most) (.int .i64 tol) Bg (Bg + 1) j wr) (fun i _ => 6 - (intOf i).toNat)
      case atStart => exact ⟨0, by omega, rfl, HG0.out, HREL0.out⟩
      case round =>
        obtain ⟨j, hj, rfl, hg, hr⟩ := hrel
        have HGJ := Lib.hid hg; have HRJ := Lib.hid hr
        have hzj := hg.size
        clear hg
        by_cases hlt2 : j < 6
        · have gj := hr.g j hlt2
          have wj := hr.w j hlt2
          rw [if_neg (by omega)] at gj wj
          have gf := hr.gf j
          have wf := hr.wf j
          have i1 := HA1.out j hlt2
          have i2 := HA2.out j hlt2
          have i3 := HA3.out j hlt2
          have hsz := hr.sz
          have yj : wr.cell? ⟨w.heap.size + 1 + 1, j, none⟩ = some (.int .i64 (V6.get ⟨y0, y1, y2, y3, y4, y5⟩ j)) := by
            refine (Below.cell (p := ⟨w.heap.size + 1 + 1, j, none⟩) HGJ.out (show w.heap.size + 1 + 1 < w1.heap.size by omega)).trans ?_
            obtain ⟨t0, t1, t2, t3, t4, t5⟩ := HK3.out
            rcases (show j = 0 ∨ j = 1 ∨ j = 2 ∨ j = 3 ∨ j = 4 ∨ j = 5 by omega) with rfl | rfl | rfl | rfl | rfl | rfl <;> assumption
          have HST := Lib.hid (hr.step hlt2)
          clear hr
          generalize V6.get ⟨b0, b1, b2, b3, b4, b5⟩ j = xb at gj i1 HST
          generalize V6.get ⟨v0, v1, v2, v3, v4, v5⟩ j = xv at wj i3 HST
          generalize V6.get ⟨y0, y1, y2, y3, y4, y5⟩ j = xy at yj i2 HST
          obtain ⟨wp, rfl⟩ : ∃ wp : World, wp = wr := ⟨_, rfl⟩
          go_wp2_with fail
          go_region
          all_goals
            go_wp2_with fail
            go_region
            all_goals
              go_wp2_with fail
              go_roundw
              case rel => exact ⟨j + 1, by omega, by go_num, (((HGJ.out.setCell (by simp only; omega) _).setCell (by simp only; omega) _).drew).drew, HST.out.keep (((Gr.refl _).drew).drew)⟩
              case measure => simp [intOf]; omega
        · obtain rfl : j = 6 := by omega
          obtain ⟨p0, p1, p2, p3, p4, p5, p6, p7, p8⟩ := HK1.out.keep HGJ.out (show w.heap.size < w1.heap.size by omega)
          obtain ⟨u0, u1, u2, u3, u4, u5⟩ := HK2.out.keep HGJ.out (show w.heap.size + 1 < w1.heap.size by omega)
          have g0 := hr.g 0 (by omega); have g1 := hr.g 1 (by omega); have g2 := hr.g 2 (by omega); have g3 := hr.g 3 (by omega); have g4 := hr.g 4 (by omega); have g5 := hr.g 5 (by omega)
          have g6 := hr.c6; have g7 := hr.c7; have g8 := hr.c8
          have q0 := hr.w 0 (by omega); have q1 := hr.w 1 (by omega); have q2 := hr.w 2 (by omega); have q3 := hr.w 3 (by omega); have q4 := hr.w 4 (by omega); have q5 := hr.w 5 (by omega)
          have hsz := hr.sz
          rw [if_pos (by omega)] at g0 g1 g2 g3 g4 g5 q0 q1 q2 q3 q4 q5
          simp only [V6.get] at g0 g1 g2 g3 g4 g5 q0 q1 q2 q3 q4 q5
          have HGW2 := Lib.hid (HG.out.trans HGJ.out)
          clear hr
          obtain ⟨wp, rfl⟩ : ∃ wp : World, wp = wr := ⟨_, rfl⟩
          have hsame : ((N == N && sameR g g N) = true) := by rw [beq_self_eq_true, Bool.true_and, sameR_iff]; exact fun _ _ => ⟨rfl, rfl⟩
          have HSM := Lib.hid (fun (A1 A2 : Option Addr) (c1 c2 : Nat) W (h1 : RowsAt W 2 A1 N g) (h2 : RowsAt W 2 A2 N g) => by
            have h := same_any A1 N c1 g A2 N c2 g W h1 h2 hN hN
            rw [hsame] at h
            exact h)
          clear hsame
          go_wp2_with (first
            | (go_at_call 17; with_reducible refine (HF'.out _ HGW2.out).mono ?_; rintro e w5 ⟨A1, c1, rfl, hr1, hb5⟩; have HR5 := Lib.hid hr1; clear hr1; have hz5 := hb5.le; obtain ⟨hc5, hf5⟩ := hb5.cells)
            | (go_at_call 17; with_reducible refine (HF2'.out _ (HGW2.out.trans hb5)).mono ?_; rintro e w6 ⟨A2, c2, rfl, hr1, hb6⟩; have HR6 := Lib.hid hr1; clear hr1; have hz6 := hb6.le)
            | (go_at_call 19; with_reducible refine (HSM.out _ _ _ _ _ (HR5.out.keep hb6) HR6.out).mono ?_; rintro e w7 ⟨rfl, hb7⟩))
          go_ret
          exact ⟨rfl, HGW2.out.trans (hb5.trans (hb6.trans hb7))⟩
end Go.Proofs.YtbaopniofhbjdaaDoor
