/-
  schismaref13: Valid, Blow, Primes.
  schismaref04.Pure and schismaref13.Sound.
  schismaref13.Sound of a valid blow.
  schismaref13.Sound at every input, and Plays.
-/
import Derived.Test.YtbaopniofhbjdaaDoorR3
import Derived.Test.YtbaopniofhbjdaaDoorSound2
import Derived.Test.YtbaopniofhbjdaaDoorBrassAll
import Derived.Test.YtbaopniofhbjdaaDoorHeld
import Derived.Test.YtbaopniofhbjdaaDoorRN
namespace Go.Proofs.YtbaopniofhbjdaaDoor
open Go.RowKit

set_option maxRecDepth 100000 in
set_option maxHeartbeats 4000000 in
theorem r13valid_bad0 (b0 b1 b2 b3 b4 b5 most tol : Int) (A : Option Addr) (n c : Nat) (f : Nat → Nat → Int) (w : World) (hva : allIn ⟨b0, b1, b2, b3, b4, b5⟩ 576 6 = false) :
    Calls Tryd.prog 14 #[.agg #[.int .i64 b0, .int .i64 b1, .int .i64 b2, .int .i64 b3, .int .i64 b4, .int .i64 b5, .slice A n c, .int .i64 most, .int .i64 tol]] w
      fun e w' => e = .returned (.bool (hornOk ⟨b0, b1, b2, b3, b4, b5⟩ n f most tol)) ∧ Gr w w' := by
  have e : hornOk ⟨b0, b1, b2, b3, b4, b5⟩ n f most tol = false := by simp [hornOk, hva]
  rw [e]
  go_enter Tryd.func14, Tryd.ntmps14
  go_wp2_with (go_at_call 55; with_reducible refine (r3valid_any _ _ _ _ _ _ _).mono ?_; rintro e w' ⟨rfl, hb⟩; have hz := hb.le; obtain ⟨hc, hf⟩ := hb.cells; (try simp only [World.size_alloc] at hc hf hz); (try simp only [World.size_setCell] at hc hf hz); (try simp only [World.size_drew] at hc hf hz))
  go_ret
  exact ⟨rfl, (by repeat (first | exact Gr.refl _ | refine Gr.alloc ?_ _ | refine Gr.drew ?_ | refine Gr.trans ?_ (by assumption) | refine Gr.setCell ?_ (by (try simp); (try omega)) _))⟩
set_option maxRecDepth 100000 in
set_option maxHeartbeats 4000000 in
theorem r13valid_bad1 (b0 b1 b2 b3 b4 b5 most tol : Int) (A : Option Addr) (n c : Nat) (f : Nat → Nat → Int) (w : World) (hva : allIn ⟨b0, b1, b2, b3, b4, b5⟩ 576 6 = true) (hn : n ≤ 9223372036854775807) (h : ¬ (n ≤ 4 ∧ 1 ≤ most ∧ most ≤ 16 ∧ 0 ≤ tol ∧ tol ≤ 50000)) :
    Calls Tryd.prog 14 #[.agg #[.int .i64 b0, .int .i64 b1, .int .i64 b2, .int .i64 b3, .int .i64 b4, .int .i64 b5, .slice A n c, .int .i64 most, .int .i64 tol]] w
      fun e w' => e = .returned (.bool (hornOk ⟨b0, b1, b2, b3, b4, b5⟩ n f most tol)) ∧ Gr w w' := by
  rw [hornOk_no h]
  rcases (by omega : 4 < n ∨ (n ≤ 4 ∧ most < 1) ∨ (n ≤ 4 ∧ 1 ≤ most ∧ 16 < most) ∨ (n ≤ 4 ∧ 1 ≤ most ∧ most ≤ 16 ∧ tol < 0) ∨ (n ≤ 4 ∧ 1 ≤ most ∧ most ≤ 16 ∧ 0 ≤ tol ∧ 50000 < tol)) with h1 | ⟨h1, h2⟩ | ⟨h1, h2, h3⟩ | ⟨h1, h2, h3, h4⟩ | ⟨h1, h2, h3, h4, h5⟩
  all_goals
    clear h
    go_enter Tryd.func14, Tryd.ntmps14
    go_wp2_with (go_at_call 55; with_reducible refine (r3valid_any _ _ _ _ _ _ _).mono ?_; rintro e w' ⟨rfl, hb⟩; have hz := hb.le; obtain ⟨hc, hf⟩ := hb.cells; (try simp only [World.size_alloc] at hc hf hz); (try simp only [World.size_setCell] at hc hf hz); (try simp only [World.size_drew] at hc hf hz))
    go_ret
    exact ⟨rfl, (by repeat (first | exact Gr.refl _ | refine Gr.alloc ?_ _ | refine Gr.drew ?_ | refine Gr.trans ?_ (by assumption) | refine Gr.setCell ?_ (by (try simp); (try omega)) _))⟩
theorem r3cmp_one (a0 a1 a2 a3 a4 a5 : Int) (w : World) (hva : allIn ⟨a0, a1, a2, a3, a4, a5⟩ 576 6 = true) :
    Calls Tryd.prog 56 #[.agg #[.int .i64 a0, .int .i64 a1, .int .i64 a2, .int .i64 a3, .int .i64 a4, .int .i64 a5], .agg #[.int .i64 0, .int .i64 0, .int .i64 0, .int .i64 0, .int .i64 0, .int .i64 0]] w
      fun e w' => e = .returned (.tuple #[.int .i64 (cmpP ⟨a0, a1, a2, a3, a4, a5⟩), .int .i64 0]) ∧ Gr w w' := by
  have h := r3cmp_ok a0 a1 a2 a3 a4 a5 0 0 0 0 0 0 w hva (by decide +kernel)
  rwa [sub_zero6] at h
theorem horn_at (w' : World) (B : Nat) (b0 b1 b2 b3 b4 b5 most tol : Int) (v : Value) (h : ∀ j u, #[Value.int .i64 b0, .int .i64 b1, .int .i64 b2, .int .i64 b3, .int .i64 b4, .int .i64 b5, v, .int .i64 most, .int .i64 tol][j]? = some u → w'.cell? ⟨B, j, none⟩ = some u) : HornAt w' B b0 b1 b2 b3 b4 b5 v most tol :=
  ⟨h 0 _ rfl, h 1 _ rfl, h 2 _ rfl, h 3 _ rfl, h 4 _ rfl, h 5 _ rfl, h 6 _ rfl, h 7 _ rfl, h 8 _ rfl⟩

set_option maxRecDepth 100000 in
set_option maxHeartbeats 8000000 in
theorem r13valid_in (b0 b1 b2 b3 b4 b5 most tol : Int) (A : Option Addr) (n c : Nat) (f : Nat → Nat → Int) (w : World) (hV : RowsAt w 6 A n f) (hva : allIn ⟨b0, b1, b2, b3, b4, b5⟩ 576 6 = true) (h1 : n ≤ 4) (h2 : 1 ≤ most) (h3 : most ≤ 16) (h4 : 0 ≤ tol) (h5 : tol ≤ 50000) :
    Calls Tryd.prog 14 #[.agg #[.int .i64 b0, .int .i64 b1, .int .i64 b2, .int .i64 b3, .int .i64 b4, .int .i64 b5, .slice A n c, .int .i64 most, .int .i64 tol]] w
      fun e w' => e = .returned (.bool (hornOk ⟨b0, b1, b2, b3, b4, b5⟩ n f most tol)) ∧ Gr w w' := by
  rw [hornOk_in hva ⟨h1, h2, h3, h4, h5⟩]
  have HV := Lib.hid hV
  clear hV
  go_enter Tryd.func14, Tryd.ntmps14
  go_wp2_with (go_at_call 55; with_reducible refine (r3valid_any _ _ _ _ _ _ _).mono ?_; rintro e w' ⟨rfl, hb⟩; have hz := hb.le; obtain ⟨hc, hf⟩ := hb.cells; (try simp only [World.size_alloc] at hc hf hz); (try simp only [World.size_setCell] at hc hf hz); (try simp only [World.size_drew] at hc hf hz))
  have HH : Hid (w'.cell? ⟨w.heap.size, 6, none⟩ = some (.slice A n c)) := Lib.hid (by simp [go_sem, *])
  have HG0 := Lib.hid (show Gr w w' from (by repeat (first | exact Gr.refl _ | refine Gr.alloc ?_ _ | refine Gr.drew ?_ | refine Gr.trans ?_ (by assumption) | refine Gr.setCell ?_ (by (try simp); (try omega)) _)))
  have HZ : Hid (w.heap.size < w'.heap.size) := Lib.hid (by omega)
  clear hb hc hf hz hva
  go_loopw [3] (fun i wr => ∃ k : Nat, k ≤ n ∧ i = .int .i64 k ∧ valvesOk f k = true ∧ Gr w' wr) (fun i _ => n - (intOf i).toNat)
  case atStart => exact ⟨0, Nat.zero_le _, rfl, rfl, Gr.refl _⟩
  case round =>
    obtain ⟨k, hk, rfl, hok, hg⟩ := hrel
    have HOK := Lib.hid hok; have HG := Lib.hid (HG0.out.trans hg); have HGW := Lib.hid hg
    have hh := (Below.cell (p := ⟨w.heap.size, 6, none⟩) hg HZ.out).trans HH.out
    clear hok hg
    by_cases hlt : k < n
    · obtain ⟨b, off, rfl, hbl, c0, c1, c2, c3, c4, c5⟩ := (HV.out.keep HG.out).six hlt
      obtain ⟨wo, rfl⟩ : ∃ wo : World, wo = wr := ⟨_, rfl⟩
      rcases (by cases allIn (valveV f k) 576 6 <;> simp : allIn (valveV f k) 576 6 = true ∨ allIn (valveV f k) 576 6 = false) with hv1 | hv1
      · have HC := Lib.hid (fun W => r3cmp_one _ _ _ _ _ _ W hv1)
        have hrg := cmpP_range (valveV f k)
        by_cases hpos : 0 < cmpP (valveV f k)
        · have HN := Lib.hid (valvesOk_next HOK.out hv1 hpos)
          change Hid (∀ W, Calls Tryd.prog 56 #[.agg #[.int .i64 (f k 0), .int .i64 (f k 1), .int .i64 (f k 2), .int .i64 (f k 3), .int .i64 (f k 4), .int .i64 (f k 5)], .agg #[.int .i64 0, .int .i64 0, .int .i64 0, .int .i64 0, .int .i64 0, .int .i64 0]] W fun e w' => e = .returned (.tuple #[.int .i64 (cmpP (valveV f k)), .int .i64 0]) ∧ Gr W w') at HC
          rw [show cmpP (valveV f k) = 1 by omega] at HC
          clear hv1 hpos hrg
          go_wp2_with (go_at_call 56; with_reducible refine (HC.out _).mono ?_; rintro e w' ⟨rfl, hb⟩; have hz := hb.le; obtain ⟨hc, hf⟩ := hb.cells; (try simp only [World.size_alloc] at hc hf hz); (try simp only [World.size_setCell] at hc hf hz); (try simp only [World.size_drew] at hc hf hz))
          go_roundw
          case rel => exact ⟨k + 1, by omega, by go_num, HN.out, HGW.out.trans hb⟩
          case measure => simp [intOf]; omega
        · have HN := Lib.hid (valvesOk_no hlt (.inr hpos))
          change Hid (∀ W, Calls Tryd.prog 56 #[.agg #[.int .i64 (f k 0), .int .i64 (f k 1), .int .i64 (f k 2), .int .i64 (f k 3), .int .i64 (f k 4), .int .i64 (f k 5)], .agg #[.int .i64 0, .int .i64 0, .int .i64 0, .int .i64 0, .int .i64 0, .int .i64 0]] W fun e w' => e = .returned (.tuple #[.int .i64 (cmpP (valveV f k)), .int .i64 0]) ∧ Gr W w') at HC
          have hne : (cmpP (valveV f k) == 1) = false := by rw [beq_eq_false_iff_ne]; omega
          have hne2 : (cmpP (valveV f k) != 1) = true := by simp; omega
          clear hv1 hpos hrg
          generalize cmpP (valveV f k) = y at hne hne2 HC
          go_wp2_with (go_at_call 56; with_reducible refine (HC.out _).mono ?_; rintro e w' ⟨rfl, hb⟩; have hz := hb.le; obtain ⟨hc, hf⟩ := hb.cells; (try simp only [World.size_alloc] at hc hf hz); (try simp only [World.size_setCell] at hc hf hz); (try simp only [World.size_drew] at hc hf hz))
          go_ret
          exact ⟨ret_bool HN.out.symm, HG.out.trans hb⟩
      · have HN := Lib.hid (valvesOk_no hlt (.inl hv1))
        have HC := Lib.hid (fun W => r3cmp_bad _ _ _ _ _ _ 0 0 0 0 0 0 W (.inl hv1))
        clear hv1
        go_wp2_with (go_at_call 56; with_reducible refine (HC.out _).mono ?_; rintro e w' ⟨rfl, hb⟩; have hz := hb.le; obtain ⟨hc, hf⟩ := hb.cells; (try simp only [World.size_alloc] at hc hf hz); (try simp only [World.size_setCell] at hc hf hz); (try simp only [World.size_drew] at hc hf hz))
        go_ret
        exact ⟨ret_bool HN.out.symm, HG.out.trans hb⟩
    · obtain rfl : k = n := by omega
      obtain ⟨wo, rfl⟩ : ∃ wo : World, wo = wr := ⟨_, rfl⟩
      go_wp2_with fail
      go_ret
      exact ⟨ret_bool HOK.out.symm, HG.out⟩
theorem r13valid_any (b0 b1 b2 b3 b4 b5 most tol : Int) (A : Option Addr) (n c : Nat) (f : Nat → Nat → Int) (w : World) (hV : RowsAt w 6 A n f) (hn : n ≤ 9223372036854775807) :
    Calls Tryd.prog 14 #[.agg #[.int .i64 b0, .int .i64 b1, .int .i64 b2, .int .i64 b3, .int .i64 b4, .int .i64 b5, .slice A n c, .int .i64 most, .int .i64 tol]] w
      fun e w' => e = .returned (.bool (hornOk ⟨b0, b1, b2, b3, b4, b5⟩ n f most tol)) ∧ Gr w w' := by
  cases hva : allIn ⟨b0, b1, b2, b3, b4, b5⟩ 576 6 with
  | false => exact r13valid_bad0 _ _ _ _ _ _ _ _ A n c f w hva
  | true =>
    by_cases h : n ≤ 4 ∧ 1 ≤ most ∧ most ≤ 16 ∧ 0 ≤ tol ∧ tol ≤ 50000
    · exact r13valid_in _ _ _ _ _ _ _ _ A n c f w hV hva h.1 h.2.1 h.2.2.1 h.2.2.2.1 h.2.2.2.2
    · exact r13valid_bad1 _ _ _ _ _ _ _ _ A n c f w hva hn h

/-- A blow of a horn. -/
def blowB (x s most : Int) (n : Nat) : Bool := decide (1 ≤ x) && (decide (x ≤ most) && (decide (0 ≤ s) && decide (s < ((2 ^ n : Nat) : Int))))
set_option maxRecDepth 100000 in
set_option maxHeartbeats 4000000 in
theorem r13blow_any (b0 b1 b2 b3 b4 b5 most tol x s : Int) (A : Option Addr) (n c : Nat) (w : World) (hn : n ≤ 4) :
    Calls Tryd.prog 59 #[.agg #[.int .i64 b0, .int .i64 b1, .int .i64 b2, .int .i64 b3, .int .i64 b4, .int .i64 b5, .slice A n c, .int .i64 most, .int .i64 tol], .agg #[.int .i64 x, .int .i64 s]] w
      fun e w' => e = .returned (.bool (blowB x s most n)) ∧ Gr w w' := by
  have hmn : min n 64 = n := by omega
  have hw0 : IntKind.i64.wrap (2 ^ n) = 2 ^ n := IntWalk.i64_in _ (by have h1 : (1 : Int) ≤ 2 ^ n := (by have := Int.pow_pos (n := 2) (m := n) (by omega); omega); have h2 : (2 : Int) ^ n ≤ 16 := (by rcases (show n = 0 ∨ n = 1 ∨ n = 2 ∨ n = 3 ∨ n = 4 by omega) with rfl | rfl | rfl | rfl | rfl <;> decide); omega)
  have hp : ((2 ^ n : Nat) : Int) = (2 : Int) ^ n := by simp
  unfold blowB
  rw [hp]
  clear hp
  rcases (by omega : 1 ≤ x ∨ x < 1) with e1 | e1
  · have d1 : decide (1 ≤ x) = true := by simpa using e1
    rcases (by omega : x ≤ most ∨ most < x) with e2 | e2
    · have d2 : decide (x ≤ most) = true := by simpa using e2
      rcases (by omega : 0 ≤ s ∨ s < 0) with e3 | e3
      · have d3 : decide (0 ≤ s) = true := by simpa using e3
        rcases Int.lt_or_le s ((2 : Int) ^ n) with e4 | e4
        · have d4 : decide (s < (2 : Int) ^ n) = true := by simpa using e4
          rw [d1, d2, d3, d4]
          clear e1 e2 e3 e4
          go_enter Tryd.func59, Tryd.ntmps59
          go_wp2
          go_quiet (fail)
          go_wp2
          go_ret
          exact ⟨rfl, Gr.drewN (by repeat (first | with_reducible exact Gr.refl _ | with_reducible refine Gr.alloc ?_ _ | with_reducible refine Gr.drew ?_ | with_reducible refine Gr.trans ?_ (by assumption) | with_reducible refine Gr.setCell ?_ (by (try simp); (try omega)) _)) _⟩
        · have d4 : decide (s < (2 : Int) ^ n) = false := by simpa using e4
          rw [d1, d2, d3, d4]
          clear e1 e2 e3 e4
          go_enter Tryd.func59, Tryd.ntmps59
          go_wp2
          go_quiet (fail)
          go_wp2
          go_ret
          exact ⟨rfl, Gr.drewN (by repeat (first | with_reducible exact Gr.refl _ | with_reducible refine Gr.alloc ?_ _ | with_reducible refine Gr.drew ?_ | with_reducible refine Gr.trans ?_ (by assumption) | with_reducible refine Gr.setCell ?_ (by (try simp); (try omega)) _)) _⟩
      · have d3 : decide (0 ≤ s) = false := by simp; omega
        rw [d1, d2, d3]
        clear e1 e2 e3
        go_enter Tryd.func59, Tryd.ntmps59
        go_wp2
        go_quiet (fail)
        go_wp2
        go_ret
        exact ⟨rfl, Gr.drewN (by repeat (first | with_reducible exact Gr.refl _ | with_reducible refine Gr.alloc ?_ _ | with_reducible refine Gr.drew ?_ | with_reducible refine Gr.trans ?_ (by assumption) | with_reducible refine Gr.setCell ?_ (by (try simp); (try omega)) _)) _⟩
    · have d2 : decide (x ≤ most) = false := by simp; omega
      rw [d1, d2]
      clear e1 e2
      go_enter Tryd.func59, Tryd.ntmps59
      go_wp2
      go_quiet (fail)
      go_wp2
      go_ret
      exact ⟨rfl, Gr.drewN (by repeat (first | with_reducible exact Gr.refl _ | with_reducible refine Gr.alloc ?_ _ | with_reducible refine Gr.drew ?_ | with_reducible refine Gr.trans ?_ (by assumption) | with_reducible refine Gr.setCell ?_ (by (try simp); (try omega)) _)) _⟩
  · have d1 : decide (1 ≤ x) = false := by simp; omega
    rw [d1]
    clear e1
    go_enter Tryd.func59, Tryd.ntmps59
    go_wp2
    go_quiet (fail)
    go_wp2
    go_ret
    exact ⟨rfl, Gr.drewN (by repeat (first | with_reducible exact Gr.refl _ | with_reducible refine Gr.alloc ?_ _ | with_reducible refine Gr.drew ?_ | with_reducible refine Gr.trans ?_ (by assumption) | with_reducible refine Gr.setCell ?_ (by (try simp); (try omega)) _)) _⟩

set_option maxRecDepth 100000 in
set_option maxHeartbeats 4000000 in
theorem r13primes_any (x : Nat) (w : World) (hx0 : 1 ≤ x) (hx : x ≤ 16) :
    Calls Tryd.prog 60 #[.int .i64 (x : Int)] w fun e w' => e = .returned (.agg #[.int .i64 (pvI x 0 : Int), .int .i64 (pvI x 1 : Int), .int .i64 (pvI x 2 : Int), .int .i64 (pvI x 3 : Int), .int .i64 (pvI x 4 : Int), .int .i64 (pvI x 5 : Int)]) ∧ Gr w w' := by
  go_enter Tryd.func60, Tryd.ntmps60
  go_wp2
  obtain ⟨W0, hW0⟩ : ∃ W0, ((w.alloc (.cells #[.int .i64 0, .int .i64 0, .int .i64 0, .int .i64 0, .int .i64 0, .int .i64 0] 29)).alloc (.cells #[.int .i64 0, .int .i64 0, .int .i64 0, .int .i64 0, .int .i64 0, .int .i64 0] 29)).alloc (.cells #[.int .i64 2, .int .i64 3, .int .i64 5, .int .i64 7, .int .i64 11, .int .i64 13] 22) = W0 := ⟨_, rfl⟩
  have hp0 : ∀ j, j < 6 → W0.cell? ⟨w.heap.size + 1 + 1, j, none⟩ = some (.int .i64 (pN j : Int)) := by
    intro j hj
    subst hW0
    obtain rfl | rfl | rfl | rfl | rfl | rfl : j = 0 ∨ j = 1 ∨ j = 2 ∨ j = 3 ∨ j = 4 ∨ j = 5 := by omega
    all_goals simp [go_sem, pN]
  have hv0 : ∀ j, j < 6 → W0.cell? ⟨w.heap.size + 1, j, none⟩ = some (.int .i64 0) := by
    intro j hj
    subst hW0
    obtain rfl | rfl | rfl | rfl | rfl | rfl : j = 0 ∨ j = 1 ∨ j = 2 ∨ j = 3 ∨ j = 4 ∨ j = 5 := by omega
    all_goals simp [go_sem]
  have hr0 : ∀ j, j < 6 → W0.cell? ⟨w.heap.size, j, none⟩ = some (.int .i64 0) := by
    intro j hj
    subst hW0
    obtain rfl | rfl | rfl | rfl | rfl | rfl : j = 0 ∨ j = 1 ∨ j = 2 ∨ j = 3 ∨ j = 4 ∨ j = 5 := by omega
    all_goals simp [go_sem]
  have hvf : ∀ j, W0.frozen? ⟨w.heap.size + 1, j, none⟩ = false := by intro j; subst hW0; simp [go_sem]
  have hrf : ∀ j, W0.frozen? ⟨w.heap.size, j, none⟩ = false := by intro j; subst hW0; simp [go_sem]
  have hsz0 : W0.heap.size = w.heap.size + 3 := by subst hW0; simp
  have HG := Lib.hid (show Gr w W0 by subst hW0; exact (((Gr.refl w).alloc _).alloc _).alloc _)
  rw [hW0]
  have HA0 : Hid (ArrRel 6 (fun j => if j < 0 then (pvI x j : Int) else 0) (w.heap.size + 1) (w.heap.size + 3) W0 W0) := Lib.hid ⟨But.refl _ _ _, by omega, by omega, fun j hj => by rw [if_neg (by omega)]; exact hv0 j hj, hvf⟩
  have HP0 := Lib.hid hp0; have HR0 := Lib.hid hr0; have HRF := Lib.hid hrf
  clear hW0 hp0 hv0 hr0 hvf hrf hsz0
  go_loopw [0, 5] (fun v i wr => ∃ k : Nat, k ≤ 6 ∧ i = .int .i64 k ∧ v = .int .i64 (remI x k : Int) ∧ ArrRel 6 (fun j => if j < k then (pvI x j : Int) else 0) (w.heap.size + 1) (w.heap.size + 3) W0 wr) (fun _ i _ => 6 - (intOf i).toNat)
  case atStart => exact ⟨0, by omega, rfl, rfl, HA0.out⟩
  case round =>
    obtain ⟨k, hk, rfl, rfl, hR⟩ := hrel
    have HR := Lib.hid hR
    clear HA0 hR
    by_cases hlt : k < 6
    · obtain ⟨hq1, hq2⟩ := pN_two k
      obtain ⟨hm1, hm2⟩ := remI_bd (by omega : 0 < x) k
      have HRM := Lib.hid (show remI x (k + 1) = rm (pN k) 5 (remI x k) from rfl)
      have HPV := Lib.hid (show pvI x k = vp (pN k) 5 (remI x k) from rfl)
      have HPC := Lib.hid (HP0.out k hlt)
      generalize pN k = q at *
      generalize remI x k = m0 at *
      obtain ⟨wo, rfl⟩ : ∃ wo : World, wo = wr := ⟨_, rfl⟩
      have HA1 : Hid (ArrRel 6 (fun j => if j = k then ((0 : Nat) : Int) else if j < k then (pvI x j : Int) else 0) (w.heap.size + 1) (w.heap.size + 3) W0 wo) := Lib.hid (HR.out.congr fun j hj => by
        by_cases hjk : j = k
        · subst hjk; simp
        · rw [if_neg hjk])
      have HD := Lib.hid (Div5.start (q := q) hm1 (by omega))
      rw [← HPV.out, ← HRM.out] at HD
      go_wp2
      go_loopw [0] (fun v wr => ∃ m g t : Nat, v = .int .i64 (m : Int) ∧ m ≤ 16 ∧ t ≤ 5 ∧ Div5 q m g t (pvI x k) (remI x (k + 1)) ∧ ArrRel 6 (fun j => if j = k then (t : Int) else if j < k then (pvI x j : Int) else 0) (w.heap.size + 1) (w.heap.size + 3) W0 wr) (fun v _ => (intOf v).toNat)
      case atStart => exact ⟨m0, 5, 0, rfl, by omega, by omega, HD.out, HA1.out⟩
      case round =>
        obtain ⟨m, g, t, rfl, hm16, ht5, hD, hA⟩ := hrel
        have HDD := Lib.hid hD; have HAA := Lib.hid hA
        clear hD hA HA1 HD
        have hpc := (HAA.out.but.cell (p := ⟨w.heap.size + 1 + 1, k, none⟩) (show w.heap.size + 1 + 1 < w.heap.size + 3 by omega) (show w.heap.size + 1 + 1 ≠ w.heap.size + 1 by omega)).trans HPC.out
        by_cases hmod : m % q = 0
        · obtain ⟨g', hd', hlt'⟩ := HDD.out.step hq1 hmod
          have hmm : ((m : Int) % (q : Int) == 0) = true := by
            rw [beq_iff_eq]; omega
          have hyc := HAA.out.cell k hlt
          have fyc := HAA.out.froz k
          have hsz := HAA.out.size
          simp only [if_true] at hyc
          have HST := Lib.hid (HAA.out.store hlt ((t + 1 : Nat) : Int))
          rw [show ((t + 1 : Nat) : Int) = (t : Int) + 1 by omega] at HST
          have HDN := Lib.hid hd'; have HLT := Lib.hid hlt'
          have hd1 : 0 ≤ (m : Int) / (q : Int) := Int.ediv_nonneg (by omega) (by omega)
          have hd2 : (m : Int) / (q : Int) ≤ 16 := by rw [← Int.natCast_ediv]; have := HLT.out; omega
          clear hmod
          go_wp2
          go_roundw
          case rel => exact ⟨m / q, g', t + 1, by rw [Int.natCast_ediv], by have := HLT.out; omega, by have := HDN.out.2.2.1; omega, HDN.out, (HST.out.congr fun j hj => by
            split
            · omega
            · rfl)⟩
          case measure => simp only [intOf]; rw [← Int.natCast_ediv]; have := HLT.out; omega
        · have hmm : ((m : Int) % (q : Int) == 0) = false := by
            rw [beq_eq_false_iff_ne]; omega
          obtain ⟨he, hr⟩ := HDD.out.stop hmod
          have HE := Lib.hid he; have HRR := Lib.hid hr
          have HA4 := Lib.hid (HAA.out.congr (u' := fun j => if j < k + 1 then (pvI x j : Int) else 0) fun j hj => by
            by_cases hjk : j = k
            · subst j
              rw [if_pos rfl, if_pos (by omega), HE.out]
            · rw [if_neg hjk]
              by_cases hjl : j < k
              · rw [if_pos hjl, if_pos (by omega)]
              · rw [if_neg hjl, if_neg (by omega)])
          have hsz := HAA.out.size
          clear he hr hmod
          obtain ⟨wi, rfl⟩ : ∃ wi : World, wi = wr := ⟨_, rfl⟩
          go_wp2
          go_roundw
          case rel => exact ⟨k + 1, by omega, by go_num, by rw [HRR.out], HA4.out⟩
          case measure => simp [intOf]; omega
    · obtain rfl : k = 6 := by omega
      have c0 := HR.out.cell 0 (by omega); have c1 := HR.out.cell 1 (by omega); have c2 := HR.out.cell 2 (by omega); have c3 := HR.out.cell 3 (by omega); have c4 := HR.out.cell 4 (by omega); have c5 := HR.out.cell 5 (by omega)
      simp only [Nat.reduceLT, if_true] at c0 c1 c2 c3 c4 c5
      have hsz := HR.out.size
      have hgr : Gr w wr := HG.out.but HR.out.but (by omega) (by omega)
      have r : ∀ j, j < 6 → wr.cell? ⟨w.heap.size, j, none⟩ = some (.int .i64 0) := fun j hj => by
        rw [HR.out.but.cell (p := ⟨w.heap.size, j, none⟩) (show w.heap.size < w.heap.size + 3 by omega) (show w.heap.size ≠ w.heap.size + 1 by omega)]
        exact HR0.out j hj
      have rf : ∀ j, wr.frozen? ⟨w.heap.size, j, none⟩ = false := fun j =>
        (HR.out.but.frozen (p := ⟨w.heap.size, j, none⟩) (show w.heap.size < w.heap.size + 3 by omega) (show w.heap.size ≠ w.heap.size + 1 by omega)).trans (HRF.out j)
      have r0 := r 0 (by omega); have r1 := r 1 (by omega); have r2 := r 2 (by omega); have r3 := r 3 (by omega); have r4 := r 4 (by omega); have r5 := r 5 (by omega)
      have RR := Lib.hid (fun j hj => by rw [r j hj]; rfl : ∀ j, j < 6 → (wr.cell? ⟨w.heap.size, j, none⟩).isSome = true)
      clear r
      go_wp2
      refine bodyPost_six RR.out ?_
      intro W' hW' s0 s1 s2 s3 s4 s5
      exact bodyPost_ret (v := .agg #[.int .i64 (pvI x 0 : Int), .int .i64 (pvI x 1 : Int), .int .i64 (pvI x 2 : Int), .int .i64 (pvI x 3 : Int), .int .i64 (pvI x 4 : Int), .int .i64 (pvI x 5 : Int)]) (by simp [results, Tryd.results60, go_sem, s0, s1, s2, s3, s4, s5]) rfl ⟨rfl, hW' _ hgr (by omega)⟩
end Go.Proofs.YtbaopniofhbjdaaDoor

namespace Go.Proofs.YtbaopniofhbjdaaDoor
open Go.RowKit

set_option maxRecDepth 100000 in
set_option maxHeartbeats 4000000 in
theorem rpure_ok (v0 v1 v2 v3 v4 v5 : Int) (w : World) (hv : allIn ⟨v0, v1, v2, v3, v4, v5⟩ 48 6 = true) :
    Calls Tryd.prog 83 #[.agg #[.int .i64 v0, .int .i64 v1, .int .i64 v2, .int .i64 v3, .int .i64 v4, .int .i64 v5]] w fun e w' => e = .returned (.agg #[.int .i64 (v0 * 12), .int .i64 (v1 * 12), .int .i64 (v2 * 12), .int .i64 (v3 * 12), .int .i64 (v4 * 12), .int .i64 (v5 * 12)]) ∧ Gr w w' := by
  have GA := allIn_at hv
  clear hv
  go_enter Tryd.func83, Tryd.ntmps83
  go_wp2
  obtain ⟨W0, hW0⟩ : ∃ W0, ((w.alloc (.cells #[.int .i64 v0, .int .i64 v1, .int .i64 v2, .int .i64 v3, .int .i64 v4, .int .i64 v5] 29)).alloc (.cells #[.int .i64 0, .int .i64 0, .int .i64 0, .int .i64 0, .int .i64 0, .int .i64 0] 23)).alloc (.cells #[.int .i64 0, .int .i64 0, .int .i64 0, .int .i64 0, .int .i64 0, .int .i64 0] 23) = W0 := ⟨_, rfl⟩
  have hx0 : ∀ j, j < 6 → W0.cell? ⟨w.heap.size, j, none⟩ = some (.int .i64 (V6.get ⟨v0, v1, v2, v3, v4, v5⟩ j)) := by
    intro j hj
    subst hW0
    obtain rfl | rfl | rfl | rfl | rfl | rfl : j = 0 ∨ j = 1 ∨ j = 2 ∨ j = 3 ∨ j = 4 ∨ j = 5 := by omega
    all_goals simp [go_sem, V6.get]
  have hv0 : ∀ j, j < 6 → W0.cell? ⟨w.heap.size + 1 + 1, j, none⟩ = some (.int .i64 0) := by
    intro j hj
    subst hW0
    obtain rfl | rfl | rfl | rfl | rfl | rfl : j = 0 ∨ j = 1 ∨ j = 2 ∨ j = 3 ∨ j = 4 ∨ j = 5 := by omega
    all_goals simp [go_sem]
  have hr0 : ∀ j, j < 6 → W0.cell? ⟨w.heap.size + 1, j, none⟩ = some (.int .i64 0) := by
    intro j hj
    subst hW0
    obtain rfl | rfl | rfl | rfl | rfl | rfl : j = 0 ∨ j = 1 ∨ j = 2 ∨ j = 3 ∨ j = 4 ∨ j = 5 := by omega
    all_goals simp [go_sem]
  have hvf : ∀ j, W0.frozen? ⟨w.heap.size + 1 + 1, j, none⟩ = false := by intro j; subst hW0; simp [go_sem]
  have hrf : ∀ j, W0.frozen? ⟨w.heap.size + 1, j, none⟩ = false := by intro j; subst hW0; simp [go_sem]
  have hsz0 : W0.heap.size = w.heap.size + 3 := by subst hW0; simp
  have HG := Lib.hid (show Gr w W0 by subst hW0; exact (((Gr.refl w).alloc _).alloc _).alloc _)
  rw [hW0]
  have HA0 : Hid (ArrRel 6 (newTo (fun j => V6.get ⟨v0, v1, v2, v3, v4, v5⟩ j * 12) (fun _ => 0) 0) (w.heap.size + 1 + 1) (w.heap.size + 3) W0 W0) := Lib.hid ⟨But.refl _ _ _, by omega, by omega, fun j hj => by rw [newTo, if_neg (by omega)]; exact hv0 j hj, hvf⟩
  clear hW0 hv0 hvf hsz0
  go_loopw [4] (fun i wr => ∃ k : Nat, k ≤ 6 ∧ i = .int .i64 k ∧ ArrRel 6 (newTo (fun j => V6.get ⟨v0, v1, v2, v3, v4, v5⟩ j * 12) (fun _ => 0) k) (w.heap.size + 1 + 1) (w.heap.size + 3) W0 wr) (fun i _ => 6 - (intOf i).toNat)
  case atStart => exact ⟨0, by omega, rfl, HA0.out⟩
  case round =>
    obtain ⟨k, hk, rfl, hR⟩ := hrel
    have hsz := hR.size
    by_cases hlt : k < 6
    · have hx := (hR.but.cell (p := ⟨w.heap.size, k, none⟩) (by (try simp); (try omega)) (by (try simp); (try omega))).trans (hx0 k hlt)
      have ho := hR.cell k hlt
      have fx := hR.froz k
      have bx := GA k hlt
      rw [newTo, if_neg (by omega)] at ho
      have HST := Lib.hid (hR.store hlt (V6.get ⟨v0, v1, v2, v3, v4, v5⟩ k * 12))
      rw [Int.mul_comm] at HST
      clear hR hx0 hr0 hrf GA HA0
      generalize hgx : V6.get ⟨v0, v1, v2, v3, v4, v5⟩ k = x at hx bx HST
      have HX := Lib.hid hgx
      clear hgx
      go_wp2
      go_roundw
      case rel =>
        refine ⟨k + 1, by omega, by go_num, (ArrRel.congr HST.out fun j hj => ?_)⟩
        have := newTo_step (fun j => V6.get ⟨v0, v1, v2, v3, v4, v5⟩ j * 12) (fun _ => 0) k j
        rw [this, HX.out, Int.mul_comm]
      case measure => simp [intOf]; omega
    · obtain rfl : k = 6 := by omega
      have c0 := hR.cell 0 (by omega); have c1 := hR.cell 1 (by omega); have c2 := hR.cell 2 (by omega); have c3 := hR.cell 3 (by omega); have c4 := hR.cell 4 (by omega); have c5 := hR.cell 5 (by omega)
      simp only [newTo, V6.get, Nat.reduceLT, if_true] at c0 c1 c2 c3 c4 c5
      have hgr : Gr w wr := HG.out.but hR.but (by omega) (by omega)
      have r : ∀ j, j < 6 → wr.cell? ⟨w.heap.size + 1, j, none⟩ = some (.int .i64 0) := fun j hj => (hR.but.cell (p := ⟨w.heap.size + 1, j, none⟩) (by (try simp); (try omega)) (by (try simp); (try omega))).trans (hr0 j hj)
      have rf : ∀ j, wr.frozen? ⟨w.heap.size + 1, j, none⟩ = false := fun j => (hR.but.frozen (p := ⟨w.heap.size + 1, j, none⟩) (by (try simp); (try omega)) (by (try simp); (try omega))).trans (hrf j)
      have r0 := r 0 (by omega); have r1 := r 1 (by omega); have r2 := r 2 (by omega); have r3 := r 3 (by omega); have r4 := r 4 (by omega); have r5 := r 5 (by omega)
      have RR := Lib.hid (fun j hj => by rw [r j hj]; rfl : ∀ j, j < 6 → (wr.cell? ⟨w.heap.size + 1, j, none⟩).isSome = true)
      clear r hx0 hr0 hrf GA HA0 hR
      go_wp2
      refine bodyPost_six RR.out ?_
      intro W' hW' s0 s1 s2 s3 s4 s5
      exact bodyPost_ret (v := .agg #[.int .i64 (v0 * 12), .int .i64 (v1 * 12), .int .i64 (v2 * 12), .int .i64 (v3 * 12), .int .i64 (v4 * 12), .int .i64 (v5 * 12)]) (by simp [results, Tryd.results83, go_sem, s0, s1, s2, s3, s4, s5]) rfl ⟨rfl, hW' _ hgr (by omega)⟩

set_option maxRecDepth 100000 in
set_option maxHeartbeats 4000000 in
theorem r13sound_bad (b0 b1 b2 b3 b4 b5 most tol x s : Int) (V : Bool) (A : Option Addr) (n c : Nat) (w : World) (hn : V = true → n ≤ 4)
    (hV : ∀ W, Gr w W → Calls Tryd.prog 14 #[.agg #[.int .i64 b0, .int .i64 b1, .int .i64 b2, .int .i64 b3, .int .i64 b4, .int .i64 b5, .slice A n c, .int .i64 most, .int .i64 tol]] W fun e w' => e = .returned (.bool V) ∧ Gr W w')
    (hb : V = false ∨ (V = true ∧ blowB x s most n = false)) :
    Calls Tryd.prog 16 #[.agg #[.int .i64 b0, .int .i64 b1, .int .i64 b2, .int .i64 b3, .int .i64 b4, .int .i64 b5, .slice A n c, .int .i64 most, .int .i64 tol], .agg #[.int .i64 x, .int .i64 s]] w
      fun e w' => e = .returned (.tuple #[.agg #[.int .i64 0, .int .i64 0, .int .i64 0, .int .i64 0, .int .i64 0, .int .i64 0], .int .i64 1]) ∧ Gr w w' := by
  have HV := Lib.hid hV; have HN := Lib.hid hn
  clear hV hn
  rcases hb with rfl | ⟨rfl, hb⟩
  · go_enter Tryd.func16, Tryd.ntmps16
    go_wp2_with (go_at_call 14; with_reducible refine (HV.out _ (by repeat (first | with_reducible exact Gr.refl _ | with_reducible refine Gr.alloc ?_ _ | with_reducible refine Gr.drew ?_ | with_reducible refine Gr.trans ?_ (by assumption) | with_reducible refine Gr.setCell ?_ (by (try simp); (try omega)) _))).mono ?_; rintro e w' ⟨rfl, hb⟩; have hz := hb.le; obtain ⟨hc, hf⟩ := hb.cells; (try simp only [World.size_alloc] at hc hf hz); (try simp only [World.size_setCell] at hc hf hz); (try simp only [World.size_drew] at hc hf hz))
    refine bodyPost_six (by intro j hj; rcases (show j = 0 ∨ j = 1 ∨ j = 2 ∨ j = 3 ∨ j = 4 ∨ j = 5 by omega) with rfl | rfl | rfl | rfl | rfl | rfl <;> simp [go_sem, *]) ?_
    intro W' hW' s0 s1 s2 s3 s4 s5
    exact bodyPost_ret (v := .tuple #[.agg #[.int .i64 0, .int .i64 0, .int .i64 0, .int .i64 0, .int .i64 0, .int .i64 0], .int .i64 1]) (by simp [results, Tryd.results16, go_sem, s0, s1, s2, s3, s4, s5]) rfl ⟨rfl, hW' _ (by repeat (first | with_reducible exact Gr.refl _ | with_reducible refine Gr.alloc ?_ _ | with_reducible refine Gr.drew ?_ | with_reducible refine Gr.trans ?_ (by assumption) | with_reducible refine Gr.setCell ?_ (by (try simp); (try omega)) _)) (by (try simp); (try omega))⟩
  · have HB := Lib.hid (fun W => r13blow_any b0 b1 b2 b3 b4 b5 most tol x s A n c W (HN.out rfl))
    rw [hb] at HB
    clear hb
    go_enter Tryd.func16, Tryd.ntmps16
    go_wp2_with (first | (go_at_call 14; with_reducible refine (HV.out _ (by repeat (first | with_reducible exact Gr.refl _ | with_reducible refine Gr.alloc ?_ _ | with_reducible refine Gr.drew ?_ | with_reducible refine Gr.trans ?_ (by assumption) | with_reducible refine Gr.setCell ?_ (by (try simp); (try omega)) _))).mono ?_; rintro e w' ⟨rfl, hb⟩; have hz := hb.le; obtain ⟨hc, hf⟩ := hb.cells; have hn := hb.cellsN; (try simp only [World.size_alloc] at hc hf hz hn); (try simp only [World.size_setCell] at hc hf hz hn); (try simp only [World.size_drew] at hc hf hz hn)) | (go_at_call 59; with_reducible refine (HB.out _).mono ?_; rintro e w' ⟨rfl, hb⟩; have hz := hb.le; obtain ⟨hc, hf⟩ := hb.cells; have hn := hb.cellsN; (try simp only [World.size_alloc] at hc hf hz hn); (try simp only [World.size_setCell] at hc hf hz hn); (try simp only [World.size_drew] at hc hf hz hn)))
    refine bodyPost_six (by intro j hj; rcases (show j = 0 ∨ j = 1 ∨ j = 2 ∨ j = 3 ∨ j = 4 ∨ j = 5 by omega) with rfl | rfl | rfl | rfl | rfl | rfl <;> simp [go_sem, *]) ?_
    intro W' hW' s0 s1 s2 s3 s4 s5
    exact bodyPost_ret (v := .tuple #[.agg #[.int .i64 0, .int .i64 0, .int .i64 0, .int .i64 0, .int .i64 0, .int .i64 0], .int .i64 1]) (by simp [results, Tryd.results16, go_sem, s0, s1, s2, s3, s4, s5]) rfl ⟨rfl, hW' _ (by repeat (first | with_reducible exact Gr.refl _ | with_reducible refine Gr.alloc ?_ _ | with_reducible refine Gr.drew ?_ | with_reducible refine Gr.trans ?_ (by assumption) | with_reducible refine Gr.setCell ?_ (by (try simp); (try omega)) _)) (by (try simp); (try omega))⟩
end Go.Proofs.YtbaopniofhbjdaaDoor

namespace Go.Proofs.YtbaopniofhbjdaaDoor
open Go.RowKit

theorem bit_yes {s k : Nat} (h : bitOn s k = true) : ((s : Int) / 2 ^ k % 2 == 1) = true := by
  simp only [bitOn, beq_iff_eq] at h
  rw [beq_iff_eq]
  have e : (s : Int) / 2 ^ k = ((s / 2 ^ k : Nat) : Int) := by simp
  rw [e]; omega
theorem bit_no {s k : Nat} (h : bitOn s k = false) : ((s : Int) / 2 ^ k % 2 == 1) = false := by
  simp only [bitOn, beq_eq_false_iff_ne] at h
  rw [beq_eq_false_iff_ne]
  have e : (s : Int) / 2 ^ k = ((s / 2 ^ k : Nat) : Int) := by simp
  rw [e]; omega

set_option maxRecDepth 100000 in
set_option maxHeartbeats 16000000 in
theorem r13sound_ok (b0 b1 b2 b3 b4 b5 most tol z0 z1 z2 z3 z4 z5 ez : Int) (x s : Nat) (A : Option Addr) (n c : Nat) (f : Nat → Nat → Int) (w : World) (hR : RowsAt w 6 A n f)
    (hok : hornOk ⟨b0, b1, b2, b3, b4, b5⟩ n f most tol = true) (hbl : blowB x s most n = true)
    (hz : (allIn (soundV ⟨b0, b1, b2, b3, b4, b5⟩ f n x s) 576 6 = true ∧ (⟨z0, z1, z2, z3, z4, z5⟩ : V6) = soundV ⟨b0, b1, b2, b3, b4, b5⟩ f n x s ∧ ez = 0) ∨ (allIn (soundV ⟨b0, b1, b2, b3, b4, b5⟩ f n x s) 576 6 = false ∧ (⟨z0, z1, z2, z3, z4, z5⟩ : V6) = ⟨0, 0, 0, 0, 0, 0⟩ ∧ ez = 3)) :
    Calls Tryd.prog 16 #[.agg #[.int .i64 b0, .int .i64 b1, .int .i64 b2, .int .i64 b3, .int .i64 b4, .int .i64 b5, .slice A n c, .int .i64 most, .int .i64 tol], .agg #[.int .i64 (x : Int), .int .i64 (s : Int)]] w
      fun e w' => e = .returned (.tuple #[.agg #[.int .i64 z0, .int .i64 z1, .int .i64 z2, .int .i64 z3, .int .i64 z4, .int .i64 z5], .int .i64 ez]) ∧ Gr w w' := by
  obtain ⟨hva, hn4, hm1, hm16, -, -, hvo⟩ := hornOk_parts hok
  have HZ := Lib.hid hz
  have HV : Hid (∀ W, Gr w W → Calls Tryd.prog 14 #[.agg #[.int .i64 b0, .int .i64 b1, .int .i64 b2, .int .i64 b3, .int .i64 b4, .int .i64 b5, .slice A n c, .int .i64 most, .int .i64 tol]] W fun e w' => e = .returned (.bool true) ∧ Gr W w') := Lib.hid fun W hg => by
    have h := r13valid_any b0 b1 b2 b3 b4 b5 most tol A n c f W (hR.keep hg) (by omega)
    rwa [hok] at h
  have HB : Hid (∀ W, Calls Tryd.prog 59 #[.agg #[.int .i64 b0, .int .i64 b1, .int .i64 b2, .int .i64 b3, .int .i64 b4, .int .i64 b5, .slice A n c, .int .i64 most, .int .i64 tol], .agg #[.int .i64 (x : Int), .int .i64 (s : Int)]] W fun e w' => e = .returned (.bool true) ∧ Gr W w') := Lib.hid fun W => by
    have h := r13blow_any b0 b1 b2 b3 b4 b5 most tol x s A n c W hn4
    rwa [hbl] at h
  have hx : 1 ≤ x ∧ x ≤ 16 ∧ s < 2 ^ n := by
    simp only [blowB, Bool.and_eq_true, decide_eq_true_eq] at hbl
    have h4 : (s : Int) < ((2 ^ n : Nat) : Int) := hbl.2.2.2
    omega
  obtain ⟨hx0, hx16, hs⟩ := hx
  have hs16 : s < 16 := Nat.lt_of_lt_of_le hs (Nat.pow_le_pow_right (by omega) hn4)
  have HR := Lib.hid hR; have HVA := Lib.hid (allIn_at hva); have HVO := Lib.hid (fun k hk => valve_bd (k := k) hvo hk)
  clear hR hok hva hvo hbl hz hs
  go_enter Tryd.func16, Tryd.ntmps16
  go_upto_region 5 with (first | (go_at_call 14; with_reducible refine (HV.out _ (by repeat (first | with_reducible exact Gr.refl _ | with_reducible refine Gr.alloc ?_ _ | with_reducible refine Gr.drew ?_ | with_reducible refine Gr.trans ?_ (by assumption) | with_reducible refine Gr.setCell ?_ (by (try simp); (try omega)) _))).mono ?_; rintro e w' ⟨rfl, hb⟩; have hz := hb.le; obtain ⟨hc, hf⟩ := hb.cells; have hn := hb.cellsN; (try simp only [World.size_alloc] at hc hf hz hn); (try simp only [World.size_setCell] at hc hf hz hn); (try simp only [World.size_drew] at hc hf hz hn)) | (go_at_call 59; with_reducible refine (HB.out _).mono ?_; rintro e w' ⟨rfl, hb⟩; have hz := hb.le; obtain ⟨hc, hf⟩ := hb.cells; have hn := hb.cellsN; (try simp only [World.size_alloc] at hc hf hz hn); (try simp only [World.size_setCell] at hc hf hz hn); (try simp only [World.size_drew] at hc hf hz hn)) | (go_at_call 60; with_reducible refine (r13primes_any x _ hx0 hx16).mono ?_; rintro e w' ⟨rfl, hb⟩; have hz := hb.le; obtain ⟨hc, hf⟩ := hb.cells; have hn := hb.cellsN; (try simp only [World.size_alloc] at hc hf hz hn); (try simp only [World.size_setCell] at hc hf hz hn); (try simp only [World.size_drew] at hc hf hz hn)))
  obtain ⟨W0, hW0⟩ : ∃ W0, (w'.alloc (.cells #[.int .i64 (pvI x 0 : Int), .int .i64 (pvI x 1 : Int), .int .i64 (pvI x 2 : Int), .int .i64 (pvI x 3 : Int), .int .i64 (pvI x 4 : Int), .int .i64 (pvI x 5 : Int)] 29)).alloc (.cells #[.int .i64 b0, .int .i64 b1, .int .i64 b2, .int .i64 b3, .int .i64 b4, .int .i64 b5] 23) = W0 := ⟨_, rfl⟩
  have hz3 : w.heap.size + 3 ≤ w'.heap.size := by omega
  have hgw : Gr w' W0 := by subst hW0; exact ((Gr.refl _).alloc _).alloc _
  have hh0 : W0.cell? ⟨w.heap.size, 6, none⟩ = some (.slice A n c) := (Below.cell (p := ⟨w.heap.size, 6, none⟩) hgw (by show w.heap.size < _; omega)).trans (by simp [go_sem, *])
  have hs0 : W0.cell? ⟨w.heap.size + 1, 1, none⟩ = some (.int .i64 (s : Int)) := (Below.cell (p := ⟨w.heap.size + 1, 1, none⟩) hgw (by show w.heap.size + 1 < _; omega)).trans (by simp [go_sem, *])
  have hr0 : ∀ j, j < 6 → W0.cell? ⟨w.heap.size + 1 + 1, j, none⟩ = some (.int .i64 0) := by
    intro j hj
    refine (Below.cell (p := ⟨w.heap.size + 1 + 1, j, none⟩) hgw (by show w.heap.size + 1 + 1 < _; omega)).trans ?_
    obtain rfl | rfl | rfl | rfl | rfl | rfl : j = 0 ∨ j = 1 ∨ j = 2 ∨ j = 3 ∨ j = 4 ∨ j = 5 := by omega
    all_goals simp [go_sem, *]
  have hrf : ∀ j, W0.frozen? ⟨w.heap.size + 1 + 1, j, none⟩ = false := by
    intro j
    refine (Below.frozen (p := ⟨w.heap.size + 1 + 1, j, none⟩) hgw (by show w.heap.size + 1 + 1 < _; omega)).trans ?_
    simp [go_sem, *]
  have hv0 : ∀ j, j < 6 → W0.cell? ⟨w'.heap.size, j, none⟩ = some (.int .i64 (pvI x j : Int)) := by
    intro j hj
    subst hW0
    obtain rfl | rfl | rfl | rfl | rfl | rfl : j = 0 ∨ j = 1 ∨ j = 2 ∨ j = 3 ∨ j = 4 ∨ j = 5 := by omega
    all_goals simp [go_sem]
  have hp0 : ∀ j, j < 6 → W0.cell? ⟨w'.heap.size + 1, j, none⟩ = some (.int .i64 (V6.get ⟨b0, b1, b2, b3, b4, b5⟩ j)) := by
    intro j hj
    subst hW0
    obtain rfl | rfl | rfl | rfl | rfl | rfl : j = 0 ∨ j = 1 ∨ j = 2 ∨ j = 3 ∨ j = 4 ∨ j = 5 := by omega
    all_goals simp [go_sem, V6.get]
  have hpf : ∀ j, W0.frozen? ⟨w'.heap.size + 1, j, none⟩ = false := by intro j; subst hW0; simp [go_sem]
  have hsz0 : W0.heap.size = w'.heap.size + 2 := by subst hW0; simp
  have HG := Lib.hid (show Gr w W0 by subst hW0; exact (by repeat (first | with_reducible exact Gr.refl _ | with_reducible refine Gr.alloc ?_ _ | with_reducible refine Gr.drew ?_ | with_reducible refine Gr.trans ?_ (by assumption) | with_reducible refine Gr.setCell ?_ (by (try simp); (try omega)) _)))
  rw [hW0]
  generalize hS : w'.heap.size = S at hv0 hp0 hpf hsz0 hz3 ⊢
  have HR0 := Lib.hid hr0; have HRF := Lib.hid hrf; have HH0 := Lib.hid hh0; have HS0 := Lib.hid hs0; have HV0 := Lib.hid hv0
  have HA0 : Hid (ArrRel 6 (soundTo ⟨b0, b1, b2, b3, b4, b5⟩ f n x s 0) (S + 1) (S + 2) W0 W0) := Lib.hid ⟨But.refl _ _ _, by omega, by omega, fun j hj => by rw [soundTo, if_neg (by omega)]; exact hp0 j hj, hpf⟩
  clear hS hgw hW0 hr0 hrf hh0 hs0 hv0 hp0 hpf hsz0 HV HB
  clear hc hf hz hn
  go_wp2_with fail
  go_loopw [8] (fun i wr => ∃ k : Nat, k ≤ 6 ∧ i = .int .i64 k ∧ ArrRel 6 (soundTo ⟨b0, b1, b2, b3, b4, b5⟩ f n x s k) (S + 1) (S + 2) W0 wr) (fun i _ => 6 - (intOf i).toNat)
  case atStart => exact ⟨0, by omega, rfl, HA0.out⟩
  case round =>
    obtain ⟨k, hk, rfl, hAR⟩ := hrel
    have HAR := Lib.hid hAR
    clear HA0 hAR
    by_cases hlt : k < 6
    · have hvc := (HAR.out.but.cell (p := ⟨S, k, none⟩) (by (try simp); (try omega)) (by (try simp); (try omega))).trans (HV0.out k hlt)
      have hyc := HAR.out.cell k hlt
      have fyc := HAR.out.froz k
      have hsz := HAR.out.size
      rw [soundTo, if_neg (by omega)] at hyc
      have hbb := HVA.out k hlt
      have hpv : pvI x k ≤ 5 := vp_le _ _ _
      have HA1 : Hid (ArrRel 6 (fun j => if j = k then V6.get ⟨b0, b1, b2, b3, b4, b5⟩ k + 12 * (pvI x k : Int) - vsum f s k 0 else soundTo ⟨b0, b1, b2, b3, b4, b5⟩ f n x s k j) (S + 1) (S + 2) W0 (wr.setCell ⟨S + 1, k, none⟩ (.int .i64 (V6.get ⟨b0, b1, b2, b3, b4, b5⟩ k + 12 * (pvI x k : Int)))).drew) := Lib.hid ((HAR.out.store hlt _).drew.congr fun j hj => by
        by_cases hjk : j = k
        · rw [if_pos hjk, if_pos hjk]; show _ = _ - 0; omega
        · rw [if_neg hjk, if_neg hjk])
      generalize hy0 : V6.get ⟨b0, b1, b2, b3, b4, b5⟩ k = y0 at hyc hbb HA1
      generalize hp0 : pvI x k = pv at hvc hpv HA1
      have HY0 := Lib.hid hy0; have HPV := Lib.hid hp0
      clear hy0 hp0
      go_wp2
      go_region
      go_wp2
      clear hvc hyc fyc hsz
      generalize (wr.setCell ⟨S + 1, k, none⟩ (.int .i64 (y0 + 12 * (pv : Int)))).drew = W2 at HA1 ⊢
      go_loopw [9] (fun i wr => ∃ kk : Nat, kk ≤ n ∧ i = .int .i64 kk ∧ ArrRel 6 (fun j => if j = k then y0 + 12 * (pv : Int) - vsum f s k kk else soundTo ⟨b0, b1, b2, b3, b4, b5⟩ f n x s k j) (S + 1) (S + 2) W0 wr) (fun i _ => n - (intOf i).toNat)
      case atStart => exact ⟨0, Nat.zero_le _, rfl, HA1.out⟩
      case round =>
        obtain ⟨kk, hkk, rfl, hA⟩ := hrel
        have HA3 := Lib.hid hA
        clear hA HA1 HAR
        obtain ⟨wi, rfl⟩ : ∃ wi : World, wi = wr := ⟨_, rfl⟩
        have hsz := HA3.out.size
        have hhc := (HA3.out.but.cell (p := ⟨w.heap.size, 6, none⟩) (by (try simp); (try omega)) (by (try simp); (try omega))).trans HH0.out
        by_cases hlk : kk < n
        · have hgr : Gr w wi := HG.out.but HA3.out.but (by omega) (by omega)
          obtain ⟨b, off, rfl, hbl, hcell⟩ := (HR.out.keep hgr).at_ hlk
          have hfc := hcell k hlt
          have hsc := (HA3.out.but.cell (p := ⟨w.heap.size + 1, 1, none⟩) (by (try simp); (try omega)) (by (try simp); (try omega))).trans HS0.out
          have hyc := HA3.out.cell k hlt
          have fyc := HA3.out.froz k
          simp only [if_true] at hyc
          have hvb := HVO.out kk hlk k hlt
          have hvs := vsum_bd (vs := f) (s := s) (i := k) (B := 576) (k := kk) (fun j hj => HVO.out j (by omega) k hlt) (by omega)
          clear hgr hcell
          have hmn : min kk 64 = kk := by omega
          have hp1 : (1 : Int) ≤ 2 ^ kk := by have := Int.pow_pos (n := 2) (m := kk) (by omega); omega
          have hp2 : (2 : Int) ^ kk ≤ 8 := by rcases (show kk = 0 ∨ kk = 1 ∨ kk = 2 ∨ kk = 3 by omega) with rfl | rfl | rfl | rfl <;> decide
          have hw0 : IntKind.i64.wrap (2 ^ kk) = 2 ^ kk := IntWalk.i64_in _ (by omega)
          have hd1 : 0 ≤ (s : Int) / 2 ^ kk := Int.ediv_nonneg (by omega) (by omega)
          have hd2 : (s : Int) / 2 ^ kk ≤ 16 := by have := Int.ediv_le_self (2 ^ kk) (show 0 ≤ (s : Int) by omega); omega
          have hne : ((2 : Int) ^ kk == 0) = false := by rw [beq_eq_false_iff_ne]; omega
          cases hon : bitOn s kk with
          | false =>
            have hbit := bit_no hon
            have HNX := Lib.hid (HA3.out.drew.congr (u' := fun j => if j = k then y0 + 12 * (pv : Int) - vsum f s k (kk + 1) else soundTo ⟨b0, b1, b2, b3, b4, b5⟩ f n x s k j) fun j hj => by rw [vsum_no hon])
            clear hon
            go_wp2
            go_region
            go_wp2
            go_roundw
            case rel => exact ⟨kk + 1, by omega, by go_num, HNX.out⟩
            case measure => simp [intOf]; omega
          | true =>
            have hbit := bit_yes hon
            have HNX := Lib.hid (((HA3.out.drew.store hlt (y0 + 12 * (pv : Int) - vsum f s k kk - f kk k)).drew).congr (u' := fun j => if j = k then y0 + 12 * (pv : Int) - vsum f s k (kk + 1) else soundTo ⟨b0, b1, b2, b3, b4, b5⟩ f n x s k j) fun j hj => by
              rw [vsum_yes hon]
              by_cases hjk : j = k
              · rw [if_pos hjk, if_pos hjk]; omega
              · rw [if_neg hjk, if_neg hjk, if_neg hjk])
            clear hon
            generalize vsum f s k kk = vv at *
            generalize f kk k = fk at *
            go_wp2
            go_region
            go_wp2
            clear hbit hd1 hd2 hne hw0 hp1 hp2 hmn
            go_region
            go_wp2
            go_roundw
            case rel => exact ⟨kk + 1, by omega, by go_num, HNX.out⟩
            case measure => simp [intOf]; omega
        · obtain rfl : kk = n := by omega
          have HA4 := Lib.hid (HA3.out.congr (u' := soundTo ⟨b0, b1, b2, b3, b4, b5⟩ f kk x s (k + 1)) fun j hj => by
            unfold soundTo
            by_cases hjk : j = k
            · subst j
              rw [if_pos rfl, if_pos (by omega), soundF, HPV.out, HY0.out]
            · rw [if_neg hjk]
              by_cases hjl : j < k
              · rw [if_pos hjl, if_pos (by omega)]
              · rw [if_neg hjl, if_neg (by omega)])
          go_wp2
          go_roundw
          case rel => exact ⟨k + 1, by omega, by go_num, HA4.out⟩
          case measure => simp [intOf]; omega
    · obtain rfl : k = 6 := by omega
      have c0 := HAR.out.cell 0 (by omega); have c1 := HAR.out.cell 1 (by omega); have c2 := HAR.out.cell 2 (by omega); have c3 := HAR.out.cell 3 (by omega); have c4 := HAR.out.cell 4 (by omega); have c5 := HAR.out.cell 5 (by omega)
      simp only [soundTo, Nat.reduceLT, if_true] at c0 c1 c2 c3 c4 c5
      have hsz := HAR.out.size
      have hgr : Gr w wr := HG.out.but HAR.out.but (by omega) (by omega)
      have r : ∀ j, j < 6 → wr.cell? ⟨w.heap.size + 1 + 1, j, none⟩ = some (.int .i64 0) := fun j hj => (HAR.out.but.cell (p := ⟨w.heap.size + 1 + 1, j, none⟩) (by (try simp); (try omega)) (by (try simp); (try omega))).trans (HR0.out j hj)
      have rf : ∀ j, wr.frozen? ⟨w.heap.size + 1 + 1, j, none⟩ = false := fun j => (HAR.out.but.frozen (p := ⟨w.heap.size + 1 + 1, j, none⟩) (by (try simp); (try omega)) (by (try simp); (try omega))).trans (HRF.out j)
      have r0 := r 0 (by omega); have r1 := r 1 (by omega); have r2 := r 2 (by omega); have r3 := r 3 (by omega); have r4 := r 4 (by omega); have r5 := r 5 (by omega)
      clear r HAR
      have hzr : w.heap.size + 1 + 1 < wr.heap.size := by omega
      have HVD : Hid (∀ W, Calls Tryd.prog 55 #[.agg #[.int .i64 (soundF ⟨b0, b1, b2, b3, b4, b5⟩ f n x s 0), .int .i64 (soundF ⟨b0, b1, b2, b3, b4, b5⟩ f n x s 1), .int .i64 (soundF ⟨b0, b1, b2, b3, b4, b5⟩ f n x s 2), .int .i64 (soundF ⟨b0, b1, b2, b3, b4, b5⟩ f n x s 3), .int .i64 (soundF ⟨b0, b1, b2, b3, b4, b5⟩ f n x s 4), .int .i64 (soundF ⟨b0, b1, b2, b3, b4, b5⟩ f n x s 5)]] W fun e w' => e = .returned (.bool (allIn (soundV ⟨b0, b1, b2, b3, b4, b5⟩ f n x s) 576 6)) ∧ Gr W w') := Lib.hid fun W => r3valid_any _ _ _ _ _ _ W
      rcases HZ.out with ⟨e1, e2, rfl⟩ | ⟨e1, e2, rfl⟩
      · injection e2 with h0 h1 h2 h3 h4 h5
        subst h0 h1 h2 h3 h4 h5
        rw [e1] at HVD
        clear e1
        go_wp2_with (go_at_call 55; with_reducible refine (HVD.out _).mono ?_; rintro e w' ⟨rfl, hb⟩; have hz := hb.le; obtain ⟨hc, hf⟩ := hb.cells; (try simp only [World.size_alloc] at hc hf hz); (try simp only [World.size_setCell] at hc hf hz); (try simp only [World.size_drew] at hc hf hz))
        refine bodyPost_six (by intro j hj; rcases (show j = 0 ∨ j = 1 ∨ j = 2 ∨ j = 3 ∨ j = 4 ∨ j = 5 by omega) with rfl | rfl | rfl | rfl | rfl | rfl <;> simp [go_sem, *]) ?_
        intro W' hW' s0 s1 s2 s3 s4 s5
        exact bodyPost_ret (v := .tuple #[.agg #[.int .i64 (soundF ⟨b0, b1, b2, b3, b4, b5⟩ f n x s 0), .int .i64 (soundF ⟨b0, b1, b2, b3, b4, b5⟩ f n x s 1), .int .i64 (soundF ⟨b0, b1, b2, b3, b4, b5⟩ f n x s 2), .int .i64 (soundF ⟨b0, b1, b2, b3, b4, b5⟩ f n x s 3), .int .i64 (soundF ⟨b0, b1, b2, b3, b4, b5⟩ f n x s 4), .int .i64 (soundF ⟨b0, b1, b2, b3, b4, b5⟩ f n x s 5)], .int .i64 0]) (by simp [results, Tryd.results16, go_sem, s0, s1, s2, s3, s4, s5]) rfl ⟨rfl, hW' _ (by repeat (first | with_reducible exact Gr.refl _ | with_reducible refine Gr.alloc ?_ _ | with_reducible refine Gr.drew ?_ | with_reducible refine Gr.trans ?_ (by assumption) | with_reducible refine Gr.setCell ?_ (by (try simp); (try omega)) _)) (by (try simp); (try omega))⟩
      · injection e2 with h0 h1 h2 h3 h4 h5
        subst h0 h1 h2 h3 h4 h5
        rw [e1] at HVD
        clear e1
        go_wp2_with (go_at_call 55; with_reducible refine (HVD.out _).mono ?_; rintro e w' ⟨rfl, hb⟩; have hz := hb.le; obtain ⟨hc, hf⟩ := hb.cells; (try simp only [World.size_alloc] at hc hf hz); (try simp only [World.size_setCell] at hc hf hz); (try simp only [World.size_drew] at hc hf hz))
        refine bodyPost_six (by intro j hj; rcases (show j = 0 ∨ j = 1 ∨ j = 2 ∨ j = 3 ∨ j = 4 ∨ j = 5 by omega) with rfl | rfl | rfl | rfl | rfl | rfl <;> simp [go_sem, *]) ?_
        intro W' hW' s0 s1 s2 s3 s4 s5
        exact bodyPost_ret (v := .tuple #[.agg #[.int .i64 0, .int .i64 0, .int .i64 0, .int .i64 0, .int .i64 0, .int .i64 0], .int .i64 3]) (by simp [results, Tryd.results16, go_sem, s0, s1, s2, s3, s4, s5]) rfl ⟨rfl, hW' _ (by repeat (first | with_reducible exact Gr.refl _ | with_reducible refine Gr.alloc ?_ _ | with_reducible refine Gr.drew ?_ | with_reducible refine Gr.trans ?_ (by assumption) | with_reducible refine Gr.setCell ?_ (by (try simp); (try omega)) _)) (by (try simp); (try omega))⟩
end Go.Proofs.YtbaopniofhbjdaaDoor

namespace Go.Proofs.YtbaopniofhbjdaaDoor
open Go.RowKit

theorem bool_tf' (b : Bool) : b = true ∨ b = false := by cases b <;> simp
theorem blowB_iff (x s most : Int) (n : Nat) : blowB x s most n = true ↔ isBlow n most x s := by
  simp [blowB, isBlow]
theorem r13sound_all (b0 b1 b2 b3 b4 b5 most tol x s z0 z1 z2 z3 z4 z5 ez : Int) (A : Option Addr) (n c : Nat) (f : Nat → Nat → Int) (hn : n ≤ 9223372036854775807)
    (h : SndAll ⟨b0, b1, b2, b3, b4, b5⟩ f n most tol x s ⟨z0, z1, z2, z3, z4, z5⟩ ez) : ∀ w, RowsAt w 6 A n f →
    Calls Tryd.prog 16 #[.agg #[.int .i64 b0, .int .i64 b1, .int .i64 b2, .int .i64 b3, .int .i64 b4, .int .i64 b5, .slice A n c, .int .i64 most, .int .i64 tol], .agg #[.int .i64 x, .int .i64 s]] w
      fun e w' => e = .returned (.tuple #[.agg #[.int .i64 z0, .int .i64 z1, .int .i64 z2, .int .i64 z3, .int .i64 z4, .int .i64 z5], .int .i64 ez]) ∧ Gr w w' := by
  intro w hR
  have hV := fun W (hg : Gr w W) => r13valid_any b0 b1 b2 b3 b4 b5 most tol A n c f W (hR.keep hg) hn
  rcases h with ⟨h1, h2, rfl⟩ | ⟨h1, h2, h3, rfl⟩ | ⟨h1, h2, h3, h4, rfl⟩ | ⟨h1, h2, h3, h4, rfl⟩
  · injection h2 with e0 e1 e2 e3 e4 e5
    subst e0 e1 e2 e3 e4 e5
    rw [h1] at hV
    exact r13sound_bad _ _ _ _ _ _ _ _ _ _ false A n c w (fun h => by cases h) hV (.inl rfl)
  · injection h3 with e0 e1 e2 e3 e4 e5
    subst e0 e1 e2 e3 e4 e5
    have hn4 := (hornOk_parts h1).2.1
    rw [h1] at hV
    exact r13sound_bad _ _ _ _ _ _ _ _ _ _ true A n c w (fun _ => hn4) hV (.inr ⟨rfl, by rw [← Bool.not_eq_true, blowB_iff]; exact h2⟩)
  · have h2' := h2
    obtain ⟨x, rfl⟩ : ∃ m : Nat, x = (m : Int) := ⟨x.toNat, by have := h2.1; omega⟩
    obtain ⟨s, rfl⟩ : ∃ m : Nat, s = (m : Int) := ⟨s.toNat, by have := h2.2.2.1; omega⟩
    exact r13sound_ok _ _ _ _ _ _ _ _ _ _ _ _ _ _ 0 x s A n c f w hR h1 ((blowB_iff _ _ _ _).2 h2') (.inl ⟨h3, h4, rfl⟩)
  · have h2' := h2
    obtain ⟨x, rfl⟩ : ∃ m : Nat, x = (m : Int) := ⟨x.toNat, by have := h2.1; omega⟩
    obtain ⟨s, rfl⟩ : ∃ m : Nat, s = (m : Int) := ⟨s.toNat, by have := h2.2.2.1; omega⟩
    exact r13sound_ok _ _ _ _ _ _ _ _ _ _ _ _ _ _ 3 x s A n c f w hR h1 ((blowB_iff _ _ _ _).2 h2') (.inr ⟨h3, h4, rfl⟩)

set_option maxRecDepth 100000 in
set_option maxHeartbeats 4000000 in
theorem r13plays_any (b0 b1 b2 b3 b4 b5 most tol v0 v1 v2 v3 v4 v5 : Int) (x s : Nat) (A : Option Addr) (n c : Nat) (f : Nat → Nat → Int) (w : World) (hR : RowsAt w 6 A n f)
    (hok : hornOk ⟨b0, b1, b2, b3, b4, b5⟩ n f most tol = true) (hbl : isBlow n most x s) (hv : allIn ⟨v0, v1, v2, v3, v4, v5⟩ 48 6 = true) :
    Calls Tryd.prog 62 #[.agg #[.int .i64 b0, .int .i64 b1, .int .i64 b2, .int .i64 b3, .int .i64 b4, .int .i64 b5, .slice A n c, .int .i64 most, .int .i64 tol], .agg #[.int .i64 (x : Int), .int .i64 (s : Int)], .agg #[.int .i64 v0, .int .i64 v1, .int .i64 v2, .int .i64 v3, .int .i64 v4, .int .i64 v5]] w
      fun e w' => e = .returned (.bool (playsB ⟨b0, b1, b2, b3, b4, b5⟩ f n tol ⟨v0, v1, v2, v3, v4, v5⟩ x s)) ∧ Gr w w' := by
  obtain ⟨-, hn4, -, -, ht0, ht5, -⟩ := hornOk_parts hok
  have HR := Lib.hid hR
  rcases bool_tf' (allIn (soundV ⟨b0, b1, b2, b3, b4, b5⟩ f n x s) 576 6) with hs | hs
  · have HS := Lib.hid (r13sound_all b0 b1 b2 b3 b4 b5 most tol x s _ _ _ _ _ _ 0 A n c f (by omega) (.inr (.inr (.inl ⟨hok, hbl, hs, rfl, rfl⟩))))
    have HP := Lib.hid (fun W => rpure_ok v0 v1 v2 v3 v4 v5 W hv)
    have hva := atV_in hv
    have HN := Lib.hid (fun W => rnear_ok _ _ _ _ _ _ _ _ _ _ _ _ tol W hva hs ht0 (by omega))
    have HE : Hid (playsB ⟨b0, b1, b2, b3, b4, b5⟩ f n tol ⟨v0, v1, v2, v3, v4, v5⟩ x s = (surelyI (sumLo ((atV ⟨v0, v1, v2, v3, v4, v5⟩).sub (soundV ⟨b0, b1, b2, b3, b4, b5⟩ f n x s)) 6) (sumHi ((atV ⟨v0, v1, v2, v3, v4, v5⟩).sub (soundV ⟨b0, b1, b2, b3, b4, b5⟩ f n x s)) 6) (-10000 * tol) (10000 * tol) == 1)) := Lib.hid (by simp [playsB, hs])
    simp only [Int.toNat_natCast] at HS
    simp only [atV, soundV, V6.sub] at HN HE HS
    generalize surelyI (sumLo _ 6) (sumHi _ 6) (-10000 * tol) (10000 * tol) = X at HN HE
    rw [HE.out]
    generalize soundF ⟨b0, b1, b2, b3, b4, b5⟩ f n x s 0 = z0 at HN HS
    generalize soundF ⟨b0, b1, b2, b3, b4, b5⟩ f n x s 1 = z1 at HN HS
    generalize soundF ⟨b0, b1, b2, b3, b4, b5⟩ f n x s 2 = z2 at HN HS
    generalize soundF ⟨b0, b1, b2, b3, b4, b5⟩ f n x s 3 = z3 at HN HS
    generalize soundF ⟨b0, b1, b2, b3, b4, b5⟩ f n x s 4 = z4 at HN HS
    generalize soundF ⟨b0, b1, b2, b3, b4, b5⟩ f n x s 5 = z5 at HN HS
    clear hs hok hbl hv hva HE hR
    go_enter Tryd.func62, Tryd.ntmps62
    go_upto_region 4 with (go_at_call 16; with_reducible refine (HS.out _ (HR.out.keep (by repeat (first | with_reducible exact Gr.refl _ | with_reducible refine Gr.alloc ?_ _ | with_reducible refine Gr.drew ?_ | with_reducible refine Gr.trans ?_ (by assumption) | with_reducible refine Gr.setCell ?_ (by (try simp); (try omega)) _)))).mono ?_; rintro e w' ⟨rfl, hb⟩; have hz := hb.le; obtain ⟨hc, hf⟩ := hb.cells; have hn := hb.cellsN; (try simp only [World.size_alloc] at hc hf hz hn); (try simp only [World.size_setCell] at hc hf hz hn); (try simp only [World.size_drew] at hc hf hz hn))
    have hz3 : w.heap.size + 3 ≤ w'.heap.size := by omega
    have k1 : SixV (w'.alloc (.cells #[.int .i64 z0, .int .i64 z1, .int .i64 z2, .int .i64 z3, .int .i64 z4, .int .i64 z5] 23)) (w.heap.size + 1 + 1) (.int .i64 v0) (.int .i64 v1) (.int .i64 v2) (.int .i64 v3) (.int .i64 v4) (.int .i64 v5) := ⟨by simp [go_sem, *], by simp [go_sem, *], by simp [go_sem, *], by simp [go_sem, *], by simp [go_sem, *], by simp [go_sem, *]⟩
    have k2 : SixV (w'.alloc (.cells #[.int .i64 z0, .int .i64 z1, .int .i64 z2, .int .i64 z3, .int .i64 z4, .int .i64 z5] 23)) w'.heap.size (.int .i64 z0) (.int .i64 z1) (.int .i64 z2) (.int .i64 z3) (.int .i64 z4) (.int .i64 z5) := ⟨by simp [go_sem], by simp [go_sem], by simp [go_sem], by simp [go_sem], by simp [go_sem], by simp [go_sem]⟩
    have k3 : (w'.alloc (.cells #[.int .i64 z0, .int .i64 z1, .int .i64 z2, .int .i64 z3, .int .i64 z4, .int .i64 z5] 23)).cell? ⟨w.heap.size, 8, none⟩ = some (.int .i64 tol) := by simp [go_sem, *]
    have hsz : (w'.alloc (.cells #[.int .i64 z0, .int .i64 z1, .int .i64 z2, .int .i64 z3, .int .i64 z4, .int .i64 z5] 23)).heap.size = w'.heap.size + 1 := by simp
    have HG := Lib.hid (show Gr w (w'.alloc (.cells #[.int .i64 z0, .int .i64 z1, .int .i64 z2, .int .i64 z3, .int .i64 z4, .int .i64 z5] 23)) from (by repeat (first | with_reducible exact Gr.refl _ | with_reducible refine Gr.alloc ?_ _ | with_reducible refine Gr.drew ?_ | with_reducible refine Gr.trans ?_ (by assumption) | with_reducible refine Gr.setCell ?_ (by (try simp); (try omega)) _)))
    generalize hS : w'.heap.size = S at k2 hsz hz3 ⊢
    generalize w'.alloc (.cells #[.int .i64 z0, .int .i64 z1, .int .i64 z2, .int .i64 z3, .int .i64 z4, .int .i64 z5] 23) = wo at k1 k2 k3 hsz HG ⊢
    obtain ⟨p0, p1, p2, p3, p4, p5⟩ := k1
    obtain ⟨u0, u1, u2, u3, u4, u5⟩ := k2
    have hs1 : w.heap.size + 1 + 1 < wo.heap.size := by omega
    have hs2 : S < wo.heap.size := by omega
    clear hb hc hf hz hn hS hsz
    go_region_held3 (fun wx => (∀ b o, (⟨min (b + 1) wo.heap.size, 0, none⟩ : Addr) = ⟨b + 1, 0, none⟩ → wx.cell? ⟨b, o, none⟩ = wo.cell? ⟨b, o, none⟩) ∧ Gr wo wx) (first | with_reducible exact held_drew _ | with_reducible exact held_call (by assumption) (by assumption) | with_reducible exact held_alloc (by assumption) _ | with_reducible exact held_alloc0 _ _ | with_reducible exact held_anew (by assumption) _ (by omega) | ((repeat (with_reducible refine held_set ?_ (by (try simp); (try omega)) _)); (first | with_reducible assumption | with_reducible exact held_call (by assumption) (by assumption)))) (first | (go_at_call 83; with_reducible refine (HP.out _).mono ?_; rintro e w' ⟨rfl, hb⟩; have hzz := ((held_gr (by assumption)).trans hb).le; have hz := hb.le; obtain ⟨hcx, hfx⟩ := hb.cells; have hn := hb.cellsN; (try simp only [World.size_drew] at hcx hfx hz hn); (try simp only [World.size_setCell] at hcx hfx hz hn); (try simp only [World.size_alloc] at hcx hfx hz hn)) | (go_at_call 52; with_reducible refine (HN.out _).mono ?_; rintro e w' ⟨rfl, hb⟩; have hzz := ((held_gr (by assumption)).trans hb).le; have hz := hb.le; obtain ⟨hcx, hfx⟩ := hb.cells; have hn := hb.cellsN; (try simp only [World.size_drew] at hcx hfx hz hn); (try simp only [World.size_setCell] at hcx hfx hz hn); (try simp only [World.size_alloc] at hcx hfx hz hn)))
    all_goals
      have HG2 := Lib.hid (show Gr wo w' from held_gr (by assumption))
      by_cases hX : X = 1
      · subst hX
        go_wp2_with fail
        go_ret
        exact ⟨rfl, HG.out.trans HG2.out⟩
      · have hxb : (X == 1) = false := by simpa using hX
        clear hX
        go_wp2_with fail
        go_ret
        exact ⟨ret_bool (by first | rfl | simp [hxb]), HG.out.trans HG2.out⟩
  · have HS := Lib.hid (r13sound_all b0 b1 b2 b3 b4 b5 most tol x s 0 0 0 0 0 0 3 A n c f (by omega) (.inr (.inr (.inr ⟨hok, hbl, hs, rfl, rfl⟩))))
    have e : playsB ⟨b0, b1, b2, b3, b4, b5⟩ f n tol ⟨v0, v1, v2, v3, v4, v5⟩ x s = false := by simp [playsB, hs]
    rw [e]
    clear hs hok hbl hv e hR
    go_enter Tryd.func62, Tryd.ntmps62
    go_wp2_with (go_at_call 16; with_reducible refine (HS.out _ (HR.out.keep (by repeat (first | with_reducible exact Gr.refl _ | with_reducible refine Gr.alloc ?_ _ | with_reducible refine Gr.drew ?_ | with_reducible refine Gr.trans ?_ (by assumption) | with_reducible refine Gr.setCell ?_ (by (try simp); (try omega)) _)))).mono ?_; rintro e w' ⟨rfl, hb⟩; have hz := hb.le; obtain ⟨hc, hf⟩ := hb.cells; have hn := hb.cellsN; (try simp only [World.size_alloc] at hc hf hz hn); (try simp only [World.size_setCell] at hc hf hz hn); (try simp only [World.size_drew] at hc hf hz hn))
    go_ret
    exact ⟨rfl, (by repeat (first | with_reducible exact Gr.refl _ | with_reducible refine Gr.alloc ?_ _ | with_reducible refine Gr.drew ?_ | with_reducible refine Gr.trans ?_ (by assumption) | with_reducible refine Gr.setCell ?_ (by (try simp); (try omega)) _))⟩
end Go.Proofs.YtbaopniofhbjdaaDoor
