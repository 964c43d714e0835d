/-
  brass.Valid and the sound of a blow.
-/
import Derived.Test.YtbaopniofhbjdaaDoorPCmp
import Derived.Test.YtbaopniofhbjdaaDoorRowsAt
import Derived.Test.YtbaopniofhbjdaaDoorBrassPlain
namespace Go.Proofs.YtbaopniofhbjdaaDoor
open Go.RowKit

/-- A horn in a world: six exponents, n valves with exponents f behind A. -/
def valveV (f : Nat → Nat → Int) (k : Nat) : V6 := ⟨f k 0, f k 1, f k 2, f k 3, f k 4, f k 5⟩
/-- Each of the first n valves is a valid pitch above the unison. -/
def valvesOk (f : Nat → Nat → Int) : Nat → Bool
  | 0 => true
  | n + 1 => valvesOk f n && (allIn (valveV f n) 576 6 && decide (0 < cmpP (valveV f n)))
theorem valvesOk_at {f : Nat → Nat → Int} {n k : Nat} (h : valvesOk f n = true) (hk : k < n) : allIn (valveV f k) 576 6 = true ∧ 0 < cmpP (valveV f k) := by
  induction n with
  | zero => omega
  | succ n ih =>
    simp only [valvesOk, Bool.and_eq_true, decide_eq_true_eq] at h
    by_cases e : k = n
    · subst e; exact h.2
    · exact ih h.1 (by omega)
theorem valvesOk_no {f : Nat → Nat → Int} {n k : Nat} (hk : k < n) (h : allIn (valveV f k) 576 6 = false ∨ ¬ 0 < cmpP (valveV f k)) : valvesOk f n = false := by
  rw [← Bool.not_eq_true]
  intro h'
  obtain ⟨h1, h2⟩ := valvesOk_at h' hk
  rcases h with h | h
  · rw [h1] at h; cases h
  · exact h h2
theorem valvesOk_next {f : Nat → Nat → Int} {n : Nat} (h : valvesOk f n = true) (h1 : allIn (valveV f n) 576 6 = true) (h2 : 0 < cmpP (valveV f n)) : valvesOk f (n + 1) = true := by
  simp only [valvesOk, h, h1, Bool.and_eq_true, decide_eq_true_eq]; exact ⟨trivial, trivial, h2⟩
/-- A horn is valid. -/
def hornOk (base : V6) (n : Nat) (f : Nat → Nat → Int) (most tol : Int) : Bool :=
  allIn base 576 6 && decide (n ≤ 4) && decide (1 ≤ most) && decide (most ≤ 16) && decide (0 ≤ tol) && decide (tol ≤ 50000) && valvesOk f n

theorem sub_zero6 (v : V6) : V6.sub v ⟨0, 0, 0, 0, 0, 0⟩ = v := by
  cases v; simp [V6.sub]

/-- A pitch compared with the unison. -/
theorem pcmp_one (a0 a1 a2 a3 a4 a5 : Int) (w : World) (hP : Primes w) (hva : allIn ⟨a0, a1, a2, a3, a4, a5⟩ 576 6 = true) :
    Calls Tryd.prog 27 #[.agg #[.int .i64 a0, .int .i64 a1, .int .i64 a2, .int .i64 a3, .int .i64 a4, .int .i64 a5], .agg #[.int .i64 0, .int .i64 0, .int .i64 0, .int .i64 0, .int .i64 0, .int .i64 0]] w
      fun e w' => e = .returned (.tuple #[.int .i64 (cmpP ⟨a0, a1, a2, a3, a4, a5⟩), .int .i64 0]) ∧ Gr w w' := by
  have h := pcmp_ok a0 a1 a2 a3 a4 a5 0 0 0 0 0 0 w hP hva (by decide +kernel)
  rwa [sub_zero6] at h

theorem hornOk_no {base : V6} {n : Nat} {f : Nat → Nat → Int} {most tol : Int} (h : ¬ (n ≤ 4 ∧ 1 ≤ most ∧ most ≤ 16 ∧ 0 ≤ tol ∧ tol ≤ 50000)) : hornOk base n f most tol = false := by
  rw [← Bool.not_eq_true]
  intro h'
  simp only [hornOk, Bool.and_eq_true, decide_eq_true_eq] at h'
  omega
theorem hornOk_in {base : V6} {n : Nat} {f : Nat → Nat → Int} {most tol : Int} (hb : allIn base 576 6 = true) (h : n ≤ 4 ∧ 1 ≤ most ∧ most ≤ 16 ∧ 0 ≤ tol ∧ tol ≤ 50000) : hornOk base n f most tol = valvesOk f n := by
  simp [hornOk, hb, h.1, h.2.1, h.2.2.1, h.2.2.2.1, h.2.2.2.2]

set_option maxRecDepth 100000 in
set_option maxHeartbeats 4000000 in
theorem hornValid_bad0 (b0 b1 b2 b3 b4 b5 most tol : Int) (A : Option Addr) (n c : Nat) (f : Nat → Nat → Int) (w : World) (hva : allIn ⟨b0, b1, b2, b3, b4, b5⟩ 576 6 = false) :
    Calls Tryd.prog 13 #[.agg #[.int .i64 b0, .int .i64 b1, .int .i64 b2, .int .i64 b3, .int .i64 b4, .int .i64 b5, .slice A n c, .int .i64 most, .int .i64 tol]] w
      fun e w' => e = .returned (.bool (hornOk ⟨b0, b1, b2, b3, b4, b5⟩ n f most tol)) ∧ Gr w w' := by
  have e : hornOk ⟨b0, b1, b2, b3, b4, b5⟩ n f most tol = false := by simp [hornOk, hva]
  rw [e]
  go_enter Tryd.func13, Tryd.ntmps13
  go_wp2_with (go_at_call 54; with_reducible refine (pitchValid_any _ _ _ _ _ _ _).mono ?_; rintro e w' ⟨rfl, hb⟩; have hz := hb.le; obtain ⟨hc, hf⟩ := hb.cells; (try simp only [World.size_alloc] at hc hf hz); (try simp only [World.size_setCell] at hc hf hz); (try simp only [World.size_drew] at hc hf hz))
  go_ret
  exact ⟨rfl, (by repeat (first | exact Gr.refl _ | refine Gr.alloc ?_ _ | refine Gr.drew ?_ | refine Gr.trans ?_ (by assumption) | refine Gr.setCell ?_ (by (try simp); (try omega)) _))⟩
set_option maxRecDepth 100000 in
set_option maxHeartbeats 4000000 in
theorem hornValid_bad1 (b0 b1 b2 b3 b4 b5 most tol : Int) (A : Option Addr) (n c : Nat) (f : Nat → Nat → Int) (w : World) (hva : allIn ⟨b0, b1, b2, b3, b4, b5⟩ 576 6 = true) (hn : n ≤ 9223372036854775807) (h : ¬ (n ≤ 4 ∧ 1 ≤ most ∧ most ≤ 16 ∧ 0 ≤ tol ∧ tol ≤ 50000)) :
    Calls Tryd.prog 13 #[.agg #[.int .i64 b0, .int .i64 b1, .int .i64 b2, .int .i64 b3, .int .i64 b4, .int .i64 b5, .slice A n c, .int .i64 most, .int .i64 tol]] w
      fun e w' => e = .returned (.bool (hornOk ⟨b0, b1, b2, b3, b4, b5⟩ n f most tol)) ∧ Gr w w' := by
  rw [hornOk_no h]
  rcases (by omega : 4 < n ∨ (n ≤ 4 ∧ most < 1) ∨ (n ≤ 4 ∧ 1 ≤ most ∧ 16 < most) ∨ (n ≤ 4 ∧ 1 ≤ most ∧ most ≤ 16 ∧ tol < 0) ∨ (n ≤ 4 ∧ 1 ≤ most ∧ most ≤ 16 ∧ 0 ≤ tol ∧ 50000 < tol)) with h1 | ⟨h1, h2⟩ | ⟨h1, h2, h3⟩ | ⟨h1, h2, h3, h4⟩ | ⟨h1, h2, h3, h4, h5⟩
  all_goals
    clear h
    go_enter Tryd.func13, Tryd.ntmps13
    go_wp2_with (go_at_call 54; with_reducible refine (pitchValid_any _ _ _ _ _ _ _).mono ?_; rintro e w' ⟨rfl, hb⟩; have hz := hb.le; obtain ⟨hc, hf⟩ := hb.cells; (try simp only [World.size_alloc] at hc hf hz); (try simp only [World.size_setCell] at hc hf hz); (try simp only [World.size_drew] at hc hf hz))
    go_ret
    exact ⟨rfl, (by repeat (first | exact Gr.refl _ | refine Gr.alloc ?_ _ | refine Gr.drew ?_ | refine Gr.trans ?_ (by assumption) | refine Gr.setCell ?_ (by (try simp); (try omega)) _))⟩
set_option maxRecDepth 100000 in
set_option maxHeartbeats 8000000 in
theorem hornValid_in (b0 b1 b2 b3 b4 b5 most tol : Int) (A : Option Addr) (n c : Nat) (f : Nat → Nat → Int) (w : World) (hP : Primes w) (hV : RowsAt w 6 A n f) (hva : allIn ⟨b0, b1, b2, b3, b4, b5⟩ 576 6 = true) (h1 : n ≤ 4) (h2 : 1 ≤ most) (h3 : most ≤ 16) (h4 : 0 ≤ tol) (h5 : tol ≤ 50000) :
    Calls Tryd.prog 13 #[.agg #[.int .i64 b0, .int .i64 b1, .int .i64 b2, .int .i64 b3, .int .i64 b4, .int .i64 b5, .slice A n c, .int .i64 most, .int .i64 tol]] w
      fun e w' => e = .returned (.bool (hornOk ⟨b0, b1, b2, b3, b4, b5⟩ n f most tol)) ∧ Gr w w' := by
  rw [hornOk_in hva ⟨h1, h2, h3, h4, h5⟩]
  have HP := Lib.hid hP; have HV := Lib.hid hV
  clear hP hV
  go_enter Tryd.func13, Tryd.ntmps13
  go_wp2_with (go_at_call 54; with_reducible refine (pitchValid_any _ _ _ _ _ _ _).mono ?_; rintro e w' ⟨rfl, hb⟩; have hz := hb.le; obtain ⟨hc, hf⟩ := hb.cells; (try simp only [World.size_alloc] at hc hf hz); (try simp only [World.size_setCell] at hc hf hz); (try simp only [World.size_drew] at hc hf hz))
  have HG0 := Lib.hid (show Gr w w' from (by repeat (first | exact Gr.refl _ | refine Gr.alloc ?_ _ | refine Gr.drew ?_ | refine Gr.trans ?_ (by assumption) | refine Gr.setCell ?_ (by (try simp); (try omega)) _)))
  clear hb hc hf hz hva
  go_loopw [40] (fun i wr => ∃ k : Nat, k ≤ n ∧ i = .int .i64 k ∧ valvesOk f k = true ∧ Gr w wr) (fun i _ => n - (intOf i).toNat)
  case atStart => exact ⟨0, Nat.zero_le _, rfl, rfl, HG0.out⟩
  case round =>
    obtain ⟨k, hk, rfl, hok, hg⟩ := hrel
    have HOK := Lib.hid hok; have HG := Lib.hid hg
    clear hok hg
    by_cases hlt : k < n
    · obtain ⟨b, off, rfl, hbl, c0, c1, c2, c3, c4, c5⟩ := (HV.out.keep HG.out).six hlt
      obtain ⟨wo, rfl⟩ : ∃ wo : World, wo = wr := ⟨_, rfl⟩
      cases hv1 : allIn (valveV f k) 576 6 with
      | false =>
        have HN := Lib.hid (valvesOk_no hlt (.inl hv1))
        have HC := Lib.hid (fun W => pcmp_bad1 _ _ _ _ _ _ 0 0 0 0 0 0 W hv1)
        clear hv1
        go_wp2_with (go_at_call 27; with_reducible refine (HC.out _).mono ?_; rintro e w' ⟨rfl, hb⟩; have hz := hb.le; obtain ⟨hc, hf⟩ := hb.cells; (try simp only [World.size_alloc] at hc hf hz); (try simp only [World.size_setCell] at hc hf hz); (try simp only [World.size_drew] at hc hf hz))
        go_ret
        exact ⟨ret_bool HN.out.symm, HG.out.trans (((Gr.refl _).alloc _).trans hb)⟩
      | true =>
        have HC := Lib.hid (fun W (h : Primes W) => pcmp_one _ _ _ _ _ _ W h hv1)
        by_cases hpos : 0 < cmpP (valveV f k)
        · have HN := Lib.hid (valvesOk_next HOK.out hv1 hpos)
          change Hid (∀ W, Primes W → Calls Tryd.prog 27 #[.agg #[.int .i64 (f k 0), .int .i64 (f k 1), .int .i64 (f k 2), .int .i64 (f k 3), .int .i64 (f k 4), .int .i64 (f k 5)], .agg #[.int .i64 0, .int .i64 0, .int .i64 0, .int .i64 0, .int .i64 0, .int .i64 0]] W fun e w' => e = .returned (.tuple #[.int .i64 (cmpP (valveV f k)), .int .i64 0]) ∧ Gr W w') at HC
          clear hv1
          generalize cmpP (valveV f k) = y at hpos HC
          go_wp2_with (go_at_call 27; with_reducible refine (HC.out _ (HP.out.keep (HG.out.trans ((Gr.refl _).alloc _)))).mono ?_; rintro e w' ⟨rfl, hb⟩; have hz := hb.le; obtain ⟨hc, hf⟩ := hb.cells; (try simp only [World.size_alloc] at hc hf hz); (try simp only [World.size_setCell] at hc hf hz); (try simp only [World.size_drew] at hc hf hz))
          go_roundw
          case rel => exact ⟨k + 1, by omega, by go_num, HN.out, HG.out.trans (((Gr.refl _).alloc _).trans hb)⟩
          case measure => simp [intOf]; omega
        · have HN := Lib.hid (valvesOk_no hlt (.inr hpos))
          change Hid (∀ W, Primes W → Calls Tryd.prog 27 #[.agg #[.int .i64 (f k 0), .int .i64 (f k 1), .int .i64 (f k 2), .int .i64 (f k 3), .int .i64 (f k 4), .int .i64 (f k 5)], .agg #[.int .i64 0, .int .i64 0, .int .i64 0, .int .i64 0, .int .i64 0, .int .i64 0]] W fun e w' => e = .returned (.tuple #[.int .i64 (cmpP (valveV f k)), .int .i64 0]) ∧ Gr W w') at HC
          clear hv1
          generalize cmpP (valveV f k) = y at hpos HC
          go_wp2_with (go_at_call 27; with_reducible refine (HC.out _ (HP.out.keep (HG.out.trans ((Gr.refl _).alloc _)))).mono ?_; rintro e w' ⟨rfl, hb⟩; have hz := hb.le; obtain ⟨hc, hf⟩ := hb.cells; (try simp only [World.size_alloc] at hc hf hz); (try simp only [World.size_setCell] at hc hf hz); (try simp only [World.size_drew] at hc hf hz))
          go_ret
          exact ⟨ret_bool HN.out.symm, HG.out.trans (((Gr.refl _).alloc _).trans hb)⟩
    · obtain rfl : k = n := by omega
      obtain ⟨wo, rfl⟩ : ∃ wo : World, wo = wr := ⟨_, rfl⟩
      go_wp2_with fail
      go_ret
      exact ⟨ret_bool HOK.out.symm, HG.out⟩
theorem hornValid_any (b0 b1 b2 b3 b4 b5 most tol : Int) (A : Option Addr) (n c : Nat) (f : Nat → Nat → Int) (w : World) (hP : Primes w) (hV : RowsAt w 6 A n f) (hn : n ≤ 9223372036854775807) :
    Calls Tryd.prog 13 #[.agg #[.int .i64 b0, .int .i64 b1, .int .i64 b2, .int .i64 b3, .int .i64 b4, .int .i64 b5, .slice A n c, .int .i64 most, .int .i64 tol]] w
      fun e w' => e = .returned (.bool (hornOk ⟨b0, b1, b2, b3, b4, b5⟩ n f most tol)) ∧ Gr w w' := by
  cases hva : allIn ⟨b0, b1, b2, b3, b4, b5⟩ 576 6 with
  | false => exact hornValid_bad0 _ _ _ _ _ _ _ _ A n c f w hva
  | true =>
    by_cases h : n ≤ 4 ∧ 1 ≤ most ∧ most ≤ 16 ∧ 0 ≤ tol ∧ tol ≤ 50000
    · exact hornValid_in _ _ _ _ _ _ _ _ A n c f w hP hV hva h.1 h.2.1 h.2.2.1 h.2.2.2.1 h.2.2.2.2
    · exact hornValid_bad1 _ _ _ _ _ _ _ _ A n c f w hva hn h
end Go.Proofs.YtbaopniofhbjdaaDoor
