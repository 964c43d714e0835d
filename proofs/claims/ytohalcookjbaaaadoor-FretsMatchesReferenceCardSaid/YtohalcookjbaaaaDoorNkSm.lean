/-
  Lists of pairs: membership and equality (schismalaw12.has, schismaref12.Same).
-/
import Derived.Test.YtohalcookjbaaaaDoorNkK
namespace Go.Proofs.YtohalcookjbaaaaDoor
open Go.RowKit

/-- A pair is among the first n rows. -/
def hasR (g : Nat → Nat → Int) (x s : Int) : Nat → Bool
  | 0 => false
  | n + 1 => hasR g x s n || (g n 0 == x && g n 1 == s)
theorem hasR_iff (g : Nat → Nat → Int) (x s : Int) (n : Nat) : hasR g x s n = true ↔ ∃ i, i < n ∧ g i 0 = x ∧ g i 1 = s := by
  induction n with
  | zero => simp [hasR]
  | succ n ih =>
    simp only [hasR, Bool.or_eq_true, Bool.and_eq_true, beq_iff_eq, ih]
    constructor
    · rintro (⟨i, h1, h2⟩ | h)
      · exact ⟨i, by omega, h2⟩
      · exact ⟨n, by omega, h⟩
    · rintro ⟨i, h1, h2⟩
      by_cases e : i = n
      · subst e; exact .inr h2
      · exact .inl ⟨i, by omega, h2⟩
/-- The first n rows of two lists are the same. -/
def sameR (g h : Nat → Nat → Int) : Nat → Bool
  | 0 => true
  | n + 1 => sameR g h n && (g n 0 == h n 0 && g n 1 == h n 1)
theorem sameR_iff (g h : Nat → Nat → Int) (n : Nat) : sameR g h n = true ↔ ∀ i, i < n → g i 0 = h i 0 ∧ g i 1 = h i 1 := by
  induction n with
  | zero => simp [sameR]
  | succ n ih =>
    simp only [sameR, Bool.and_eq_true, beq_iff_eq, ih]
    constructor
    · rintro ⟨h1, h2⟩ i hi
      by_cases e : i = n
      · subst e; exact h2
      · exact h1 i (by omega)
    · intro h'
      exact ⟨fun i hi => h' i (by omega), h' n (by omega)⟩

set_option maxRecDepth 100000 in
set_option maxHeartbeats 4000000 in
theorem has_any (A : Option Addr) (n c : Nat) (g : Nat → Nat → Int) (x s : Int) (w : World) (hR : RowsAt w 2 A n g) (hn : n ≤ 9223372036854775807) :
    Calls Tryd.prog 25 #[.slice A n c, .agg #[.int .i64 x, .int .i64 s]] w fun e w' => e = .returned (.bool (hasR g x s n)) ∧ Gr w w' := by
  have HR := Lib.hid hR
  clear hR
  go_enter Tryd.func25, Tryd.ntmps25
  go_wp2_with fail
  go_loopw [9] (fun i wr => ∃ k : Nat, k ≤ n ∧ i = .int .i64 k ∧ hasR g x s k = false ∧ Gr (w.alloc (.cells #[.int .i64 x, .int .i64 s] 37)) wr) (fun i _ => n - (intOf i).toNat)
  case atStart => exact ⟨0, Nat.zero_le _, rfl, rfl, Gr.refl _⟩
  case round =>
    obtain ⟨k, hk, rfl, hno, hg⟩ := hrel
    have HNO := Lib.hid hno; have HG := Lib.hid hg
    have x0 := hg.cells.1 w.heap.size 0 (by simp [go_sem])
    have x1 := hg.cells.1 w.heap.size 1 (by simp [go_sem])
    simp [go_sem] at x0 x1
    have hzw : w.heap.size < wr.heap.size := by have := hg.le; simp at this; omega
    clear hno hg
    by_cases hlt : k < n
    · obtain ⟨b, off, rfl, hbl, c0, c1⟩ := (HR.out.keep (((Gr.refl w).alloc _).trans HG.out)).two hlt
      obtain ⟨wo, rfl⟩ : ∃ wo : World, wo = wr := ⟨_, rfl⟩
      by_cases h0 : g k 0 = x
      · by_cases h1 : g k 1 = s
        · have HY := Lib.hid ((hasR_iff g x s n).2 ⟨k, hlt, h0, h1⟩)
          rw [h0] at c0
          rw [h1] at c1
          have hEQ : ∀ W, (Op.equalIn 10000 37 (.agg #[.int .i64 x, .int .i64 s]) (.agg #[.int .i64 x, .int .i64 s])).run Tryd.prog W = .ok true W := fun W => by rw [eqFret]; simp
          clear h0 h1
          go_wp2_with fail
          go_ret
          exact ⟨ret_bool HY.out.symm, (((Gr.refl w).alloc _).trans HG.out).trans (by repeat (first | with_reducible exact Gr.refl _ | with_reducible refine Gr.alloc ?_ _ | with_reducible refine Gr.drew ?_ | with_reducible refine Gr.trans ?_ (by assumption) | with_reducible refine Gr.setCell ?_ (by (try simp); (try omega)) _))⟩
        · have HN : Hid (hasR g x s (k + 1) = false) := Lib.hid (by simp [hasR, HNO.out, h1])
          have hEQ : ∀ W, (Op.equalIn 10000 37 (.agg #[.int .i64 (g k 0), .int .i64 (g k 1)]) (.agg #[.int .i64 x, .int .i64 s])).run Tryd.prog W = .ok false W := fun W => by rw [eqFret]; simp [h1]
          clear h0 h1
          go_wp2_with fail
          go_roundw
          case rel => exact ⟨k + 1, by omega, by go_num, HN.out, HG.out.trans (by repeat (first | with_reducible exact Gr.refl _ | with_reducible refine Gr.alloc ?_ _ | with_reducible refine Gr.drew ?_ | with_reducible refine Gr.trans ?_ (by assumption) | with_reducible refine Gr.setCell ?_ (by (try simp); (try omega)) _))⟩
          case measure => simp [intOf]; omega
      · have HN : Hid (hasR g x s (k + 1) = false) := Lib.hid (by simp [hasR, HNO.out, h0])
        have hEQ : ∀ W, (Op.equalIn 10000 37 (.agg #[.int .i64 (g k 0), .int .i64 (g k 1)]) (.agg #[.int .i64 x, .int .i64 s])).run Tryd.prog W = .ok false W := fun W => by rw [eqFret]; simp [h0]
        clear h0
        go_wp2_with fail
        go_roundw
        case rel => exact ⟨k + 1, by omega, by go_num, HN.out, HG.out.trans (by repeat (first | with_reducible exact Gr.refl _ | with_reducible refine Gr.alloc ?_ _ | with_reducible refine Gr.drew ?_ | with_reducible refine Gr.trans ?_ (by assumption) | with_reducible refine Gr.setCell ?_ (by (try simp); (try omega)) _))⟩
        case measure => simp [intOf]; omega
    · obtain rfl : k = n := by omega
      go_wp2_with fail
      go_ret
      exact ⟨ret_bool HNO.out.symm, ((Gr.refl w).alloc _).trans HG.out⟩

set_option maxRecDepth 100000 in
set_option maxHeartbeats 4000000 in
theorem same_any (A : Option Addr) (n c : Nat) (g : Nat → Nat → Int) (A' : Option Addr) (n' c' : Nat) (h : Nat → Nat → Int) (w : World) (hR : RowsAt w 2 A n g) (hR' : RowsAt w 2 A' n' h) (hn : n ≤ 9223372036854775807) (hn' : n' ≤ 9223372036854775807) :
    Calls Tryd.prog 17 #[.slice A n c, .slice A' n' c'] w fun e w' => e = .returned (.bool (n == n' && sameR g h n)) ∧ Gr w w' := by
  by_cases hne : n = n'
  · subst hne
    have HR := Lib.hid hR; have HR' := Lib.hid hR'
    clear hR hR'
    rw [beq_self_eq_true, Bool.true_and]
    go_enter Tryd.func17, Tryd.ntmps17
    go_wp2_with fail
    go_loopw [5] (fun i wr => ∃ k : Nat, k ≤ n ∧ i = .int .i64 k ∧ sameR g h k = true ∧ Gr w wr) (fun i _ => n - (intOf i).toNat)
    case atStart => exact ⟨0, Nat.zero_le _, rfl, rfl, Gr.refl _⟩
    case round =>
      obtain ⟨k, hk, rfl, hno, hg⟩ := hrel
      have HNO := Lib.hid hno; have HG := Lib.hid hg
      clear hno hg
      by_cases hlt : k < n
      · obtain ⟨b, off, rfl, hbl, c0, c1⟩ := (HR.out.keep HG.out).two hlt
        obtain ⟨b', off', rfl, hbl', d0, d1⟩ := (HR'.out.keep HG.out).two hlt
        obtain ⟨wo, rfl⟩ : ∃ wo : World, wo = wr := ⟨_, rfl⟩
        by_cases h0 : g k 0 = h k 0
        · by_cases h1 : g k 1 = h k 1
          · have HN : Hid (sameR g h (k + 1) = true) := Lib.hid (by simp [sameR, HNO.out, h0, h1])
            rw [h0] at c0
            rw [h1] at c1
            clear h0 h1
            go_wp2_with fail
            go_region
            all_goals
              go_wp2_with fail
              go_roundw
              case rel => exact ⟨k + 1, by omega, by go_num, HN.out, HG.out.drew⟩
              case measure => simp [intOf]; omega
          · have HY : Hid (sameR g h n = false) := Lib.hid (by rw [← Bool.not_eq_true, sameR_iff]; intro h'; exact h1 (h' k hlt).2)
            clear h0
            go_wp2_with fail
            go_region
            all_goals
              go_wp2_with fail
              go_ret
              exact ⟨ret_bool HY.out.symm, HG.out.drew⟩
        · have HY : Hid (sameR g h n = false) := Lib.hid (by rw [← Bool.not_eq_true, sameR_iff]; intro h'; exact h0 (h' k hlt).1)
          go_wp2_with fail
          go_region
          all_goals
            go_wp2_with fail
            go_ret
            exact ⟨ret_bool HY.out.symm, HG.out.drew⟩
      · obtain rfl : k = n := by omega
        obtain ⟨wo, rfl⟩ : ∃ wo : World, wo = wr := ⟨_, rfl⟩
        go_wp2_with fail
        go_ret
        exact ⟨ret_bool HNO.out.symm, HG.out⟩
  · have e : (n == n') = false := by simpa using hne
    rw [e, Bool.false_and]
    have hi : ¬ (n : Int) = (n' : Int) := by omega
    clear hR hR' hne e
    go_enter Tryd.func17, Tryd.ntmps17
    go_wp2_with fail
    go_ret
    exact ⟨rfl, (by repeat (first | exact Gr.refl _ | refine Gr.alloc ?_ _ | refine Gr.drew ?_ | refine Gr.trans ?_ (by assumption) | refine Gr.setCell ?_ (by (try simp); (try omega)) _))⟩

/-- Whether there are few strings, frets, notes. -/
def fewB (no nf n : Nat) : Bool := decide (no ≤ 6 ∧ nf ≤ 15 ∧ n ≤ 4)
set_option maxRecDepth 100000 in
set_option maxHeartbeats 4000000 in
theorem few_any (O Q A : Option Addr) (no co nf cq n c : Nat) (sp tl : Int) (w : World) :
    Calls Tryd.prog 12 #[.agg #[.slice O no co, .slice Q nf cq, .int .i64 sp, .int .i64 tl], .slice A n c] w fun e w' => e = .returned (.bool (fewB no nf n)) ∧ Gr w w' := by
  rcases (by omega : 6 < no ∨ (no ≤ 6 ∧ 15 < nf) ∨ (no ≤ 6 ∧ nf ≤ 15 ∧ 4 < n) ∨ (no ≤ 6 ∧ nf ≤ 15 ∧ n ≤ 4)) with q1 | ⟨q1, q2⟩ | ⟨q1, q2, q3⟩ | ⟨q1, q2, q3⟩
  · rw [show fewB no nf n = false from decide_eq_false (by omega)]
    have d1 : decide ((no : Int) ≤ 6) = false := decide_eq_false (by omega)
    have d1' : decide (no ≤ 6) = false := decide_eq_false (by omega)
    go_enter Tryd.func12, Tryd.ntmps12
    go_wp2_with fail
    go_ret
    exact ⟨rfl, (by repeat (first | with_reducible exact Gr.refl _ | with_reducible refine Gr.alloc ?_ _ | with_reducible refine Gr.drew ?_ | with_reducible refine Gr.trans ?_ (by assumption) | with_reducible refine Gr.setCell ?_ (by (try simp); (try omega)) _))⟩
  · rw [show fewB no nf n = false from decide_eq_false (by omega)]
    have d1 : decide ((no : Int) ≤ 6) = true := decide_eq_true (by omega)
    have d2 : decide ((nf : Int) ≤ 15) = false := decide_eq_false (by omega)
    have d2' : decide (nf ≤ 15) = false := decide_eq_false (by omega)
    go_enter Tryd.func12, Tryd.ntmps12
    go_wp2_with fail
    go_ret
    exact ⟨rfl, (by repeat (first | with_reducible exact Gr.refl _ | with_reducible refine Gr.alloc ?_ _ | with_reducible refine Gr.drew ?_ | with_reducible refine Gr.trans ?_ (by assumption) | with_reducible refine Gr.setCell ?_ (by (try simp); (try omega)) _))⟩
  · rw [show fewB no nf n = false from decide_eq_false (by omega)]
    have d1 : decide ((no : Int) ≤ 6) = true := decide_eq_true (by omega)
    have d2 : decide ((nf : Int) ≤ 15) = true := decide_eq_true (by omega)
    have d3 : decide ((n : Int) ≤ 4) = false := decide_eq_false (by omega)
    have d3' : decide (n ≤ 4) = false := decide_eq_false (by omega)
    go_enter Tryd.func12, Tryd.ntmps12
    go_wp2_with fail
    go_ret
    exact ⟨rfl, (by repeat (first | with_reducible exact Gr.refl _ | with_reducible refine Gr.alloc ?_ _ | with_reducible refine Gr.drew ?_ | with_reducible refine Gr.trans ?_ (by assumption) | with_reducible refine Gr.setCell ?_ (by (try simp); (try omega)) _))⟩
  · rw [show fewB no nf n = true from decide_eq_true (by omega)]
    have d1 : decide ((no : Int) ≤ 6) = true := decide_eq_true (by omega)
    have d2 : decide ((nf : Int) ≤ 15) = true := decide_eq_true (by omega)
    have d3 : decide ((n : Int) ≤ 4) = true := decide_eq_true (by omega)
    go_enter Tryd.func12, Tryd.ntmps12
    go_wp2_with fail
    go_ret
    exact ⟨rfl, (by repeat (first | with_reducible exact Gr.refl _ | with_reducible refine Gr.alloc ?_ _ | with_reducible refine Gr.drew ?_ | with_reducible refine Gr.trans ?_ (by assumption) | with_reducible refine Gr.setCell ?_ (by (try simp); (try omega)) _))⟩
end Go.Proofs.YtohalcookjbaaaaDoor
