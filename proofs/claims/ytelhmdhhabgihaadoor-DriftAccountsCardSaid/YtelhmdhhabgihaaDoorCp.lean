/-
  comma.Counts in plain words: the first mask of independent columns, and Cramer's rule.
-/
import Derived.Test.YtelhmdhhabgihaaDoorSu
import Derived.Test.YtelhmdhhabgihaaDoorSg
namespace Go.Proofs.YtelhmdhhabgihaaDoor
open Go.RowKit

/-- The columns of a mask. -/
def jsOf (M : Nat) : List Nat := [0, 1, 2, 3, 4, 5].filter fun c => M / 2 ^ c % 2 == 1
/-- How many columns below c a mask has. -/
def cntM (M c : Nat) : Nat := ((List.range c).filter fun k => M / 2 ^ k % 2 == 1).length
theorem jsOf_snoc : ∀ j : Nat, j < 6 → ∀ M : Nat, M < 2 ^ j → jsOf (M + 2 ^ j) = jsOf M ++ [j] := by decide +kernel
theorem jsOf_facts : ∀ M : Nat, M < 64 → cntM M 6 = (jsOf M).length ∧ popR 6 M = (jsOf M).length := by decide +kernel
theorem cntM_in : ∀ M : Nat, M < 64 → ∀ c : Nat, c < 6 → M / 2 ^ c % 2 = 1 → (jsOf M).getD (cntM M c) 0 = c ∧ cntM M (c + 1) = cntM M c + 1 := by decide +kernel
theorem cntM_out : ∀ M : Nat, M < 64 → ∀ c : Nat, c < 6 → M / 2 ^ c % 2 = 0 → cntM M (c + 1) = cntM M c := by decide +kernel
theorem cntM_inj' : ∀ M : Nat, M < 64 → ∀ c : Nat, c < 6 → ∀ d : Nat, d < 6 → (M / 2 ^ c % 2 = 1 ∧ M / 2 ^ d % 2 = 1 ∧ cntM M c = cntM M d) → c = d := by decide +kernel
theorem cntM_inj (M : Nat) (hM : M < 64) (c : Nat) (hc : c < 6) (d : Nat) (hd : d < 6) (h1 : M / 2 ^ c % 2 = 1) (h2 : M / 2 ^ d % 2 = 1) (h3 : cntM M c = cntM M d) : c = d := cntM_inj' M hM c hc d hd ⟨h1, h2, h3⟩
/-- The determinant on chosen columns is the one on all columns of which the others are used. -/
theorem detW_mask (f : Nat → Nat → Int) {M : Nat} (hM : M < 64) : ∀ (is : List Nat) (U V : Nat → Bool), (∀ c, c < 6 → (M / 2 ^ c % 2 = 1 → U c = V (cntM M c)) ∧ (M / 2 ^ c % 2 = 0 → U c = true)) →
    detW f (jsOf M) is V = detW f [0, 1, 2, 3, 4, 5] is U
  | [], _, _, _ => rfl
  | i :: is, U, V, h => by
    have key : ∀ c, c ≤ 6 → dsum (fun k => f i ((jsOf M).getD k 0)) (detW f (jsOf M) is) V (cntM M c) = dsum (fun k => f i (([0, 1, 2, 3, 4, 5] : List Nat).getD k 0)) (detW f [0, 1, 2, 3, 4, 5] is) U c := by
      intro c
      induction c with
      | zero => intro _; rfl
      | succ c ih =>
        intro hc
        have i0 := ih (by omega)
        obtain ⟨h1, h2⟩ := h c (by omega)
        rcases (by omega : M / 2 ^ c % 2 = 0 ∨ M / 2 ^ c % 2 = 1) with hb | hb
        · rw [cntM_out M hM c (by omega) hb, dsum_used (h2 hb)]
          exact i0
        · obtain ⟨e1, e2⟩ := cntM_in M hM c (by omega) hb
          have eu := h1 hb
          rw [e2]
          cases hv : V (cntM M c) with
          | true => rw [dsum_used hv, dsum_used (eu.trans hv)]; exact i0
          | false =>
            rw [dsum_free hv, dsum_free (eu.trans hv), i0, e1, js_get c (by omega)]
            rw [detW_mask f hM is (updB U c true) (updB V (cntM M c) true) (fun d hd => ⟨fun hbd => ?_, fun hbd => ?_⟩)]
            · unfold updB
              by_cases e : d = c
              · subst e; simp
              · have ne : cntM M d ≠ cntM M c := fun e3 => e (cntM_inj M hM d hd c (by omega) hbd hb e3)
                simp only [e, ne, if_false]
                exact (h d hd).1 hbd
            · have ne : d ≠ c := fun e => by subst e; omega
              rw [updB_ne _ true ne]
              exact (h d hd).2 hbd
    rw [detW, detW]
    have := key 6 (Nat.le_refl _)
    rw [(jsOf_facts M hM).1] at this
    rw [this]
    rfl
theorem detM_js (f : Nat → Nat → Int) (n : Nat) {M : Nat} (hM : M < 64) : detM f 0 n M = detW f (jsOf M) (List.range n) (fun _ => false) := by
  unfold detM
  rw [List.range_eq_range']
  refine (detW_mask f hM _ (mU M) (fun _ => false) fun c hc => ⟨fun h => ?_, fun h => ?_⟩).symm
  · unfold mU; rw [h]; rfl
  · unfold mU; rw [h]; rfl
theorem frame_mask (f : Nat → Nat → Int) (n : Nat) : ∀ j, j ≤ 6 → ∃ M, M < 2 ^ j ∧ (frameP f n (List.range j)).2 = jsOf M := by
  intro j
  induction j with
  | zero => intro _; exact ⟨0, by omega, rfl⟩
  | succ j ih =>
    intro hj
    obtain ⟨M, h1, h2⟩ := ih (by omega)
    rw [List.range_succ, frameP_snoc]
    have hp : 2 ^ (j + 1) = 2 ^ j + 2 ^ j := by rw [Nat.pow_succ]; omega
    unfold stepF
    split
    · exact ⟨M + 2 ^ j, by omega, by rw [h2, jsOf_snoc j (by omega) M h1]⟩
    · exact ⟨M, by omega, h2⟩
/-- A valid list has a first mask of as many columns on which its rows are independent. -/
theorem first_mask {f : Nat → Nat → Int} {n : Nat} (h : rankP f n = n) : ∃ M, M < 64 ∧ popR 6 M = n ∧ detM f 0 n M ≠ 0 ∧ ∀ m, m < M → popR 6 m = n → detM f 0 n m = 0 := by
  obtain ⟨js, hjs, h1, -, h3⟩ := frame_range h
  obtain ⟨M0, h4, h5⟩ := frame_mask f n 6 (Nat.le_refl _)
  have e : (frameP f n [0, 1, 2, 3, 4, 5]).2 = jsOf M0 := h5
  rw [e] at hjs
  subst hjs
  have hM : M0 < 64 := h4
  have hP : popR 6 M0 = n ∧ detM f 0 n M0 ≠ 0 := ⟨by rw [(jsOf_facts M0 hM).2, h1], by rw [detM_js f n hM]; exact h3⟩
  have key : ∀ k, (∃ M, M < 64 ∧ popR 6 M = n ∧ detM f 0 n M ≠ 0 ∧ ∀ m, m < M → popR 6 m = n → detM f 0 n m = 0) ∨ ∀ m, m < k → popR 6 m = n → m < 64 → detM f 0 n m = 0 := by
    intro k
    induction k with
    | zero => exact .inr fun m hm => by omega
    | succ k ih =>
      rcases ih with ih | ih
      · exact .inl ih
      · by_cases c : k < 64 ∧ popR 6 k = n ∧ detM f 0 n k ≠ 0
        · exact .inl ⟨k, c.1, c.2.1, c.2.2, fun m hm hp => ih m hm hp (by omega)⟩
        · refine .inr fun m hm hp hm64 => ?_
          by_cases e : m = k
          · subst e
            rcases Classical.em (detM f 0 n m = 0) with z | z
            · exact z
            · exact absurd ⟨hm64, hp, z⟩ c
          · exact ih m (by omega) hp hm64
  rcases key (M0 + 1) with h | h
  · exact h
  · exact absurd (h M0 (by omega) hP.1 hM) hP.2
theorem setRow_upd (f : Nat → Nat → Int) (i : Nat) (v : Nat → Int) : setRow f i v = updRow f i v := by
  funext k j
  unfold setRow updRow
  by_cases e : k = i <;> simp [e]
/-- Cramer's rule for a mask. -/
theorem detM_cramer (f : Nat → Nat → Int) (a : Nat → Int) {n i M : Nat} (hi : i < n) {v : Nat → Int} (hv : ∀ c, c < 6 → v c = rowSum f a n c) : detM (setRow f i v) 0 n M = a i * detM f 0 n M := by
  unfold detM
  rw [setRow_upd, ← List.range_eq_range']
  have h := detW_cramer f [0, 1, 2, 3, 4, 5] a hi (mU M) n (Nat.le_refl _)
  rw [if_pos hi] at h
  rw [← h]
  refine detW_congr (fun k _ c hc => ?_) _
  have hc6 : c < 6 := hc
  rw [js_get c hc6]
  unfold updRow
  split
  · exact hv c hc6
  · rfl
theorem setRow_back (f : Nat → Nat → Int) (i : Nat) (v : Nat → Int) : setRow (setRow f i v) i (f i) = f := by
  funext k j
  unfold setRow
  by_cases e : k = i
  · subst e; simp
  · simp [e]
end Go.Proofs.YtelhmdhhabgihaaDoor
