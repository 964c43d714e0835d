/-
  schismaref14.Serves, the plain side: its pass over the phrase says whether a list serves.
-/
import Derived.Test.YtiogfohjepobkaaDoorBrP
namespace Go.Proofs.YtiogfohjepobkaaDoor
open Go.RowKit

/-- The length of the run and the number of breaths, before note i; or none where the list does not serve. -/
def svSt (g : Nat → Int) (m : Nat → Bool) (br : Int) (n : Nat) (u : Nat → Int) (k : Nat) : Nat → Option (Int × Nat)
  | 0 => some (0, 0)
  | i + 1 => match svSt g m br n u k i with
    | none => none
    | some (run, at_) =>
      if br < run + g i then none
      else if at_ < k ∧ u at_ = (i : Int) then (if m i = false ∨ i + 1 = n then none else some (0, at_ + 1))
      else some (run + g i, at_)
/-- Whether a list serves. -/
def svB (g : Nat → Int) (m : Nat → Bool) (br : Int) (n : Nat) (u : Nat → Int) (k : Nat) : Bool :=
  match svSt g m br n u k n with
  | none => false
  | some (_, at_) => decide (at_ = k)
theorem svSt_none {g : Nat → Int} {m : Nat → Bool} {br : Int} {n : Nat} {u : Nat → Int} {k i : Nat} (h : svSt g m br n u k i = none) : ∀ j, i ≤ j → svSt g m br n u k j = none := by
  intro j hj
  induction j with
  | zero => obtain rfl : i = 0 := by omega
            exact h
  | succ j ih =>
    by_cases e : i = j + 1
    · subst e; exact h
    · simp only [svSt, ih (by omega)]
theorem svB_none {g : Nat → Int} {m : Nat → Bool} {br : Int} {n : Nat} {u : Nat → Int} {k i : Nat} (h : svSt g m br n u k i = none) (hi : i ≤ n) : svB g m br n u k = false := by
  simp only [svB, svSt_none h n hi]

/-- What the pass knows before note i. -/
structure SvI (g : Nat → Int) (m : Nat → Bool) (br : Int) (n : Nat) (u : Nat → Int) (k i : Nat) (run : Int) (at_ : Nat) : Prop where
  le : at_ ≤ k
  inc : ∀ j, j + 1 < at_ → u j < u (j + 1)
  ok : ∀ j, j < at_ → ∃ x : Nat, u j = (x : Int) ∧ m x = true ∧ x + 1 < n ∧ x < i
  start : ∃ s, s ≤ i ∧ run = preS g i - preS g s ∧ (s = 0 ∨ ∃ j, at_ = j + 1 ∧ 0 < s ∧ u j = (s : Int) - 1)
  win : ∀ a t, a ≤ t → t < i → br < preS g (t + 1) - preS g a → ∃ j x : Nat, j < at_ ∧ u j = (x : Int) ∧ a ≤ x ∧ x < t
theorem svSt_inv {g : Nat → Int} {m : Nat → Bool} {br : Int} {n : Nat} (hok : lenOk g n = true) {u : Nat → Int} {k : Nat} : ∀ i, i ≤ n → ∀ run at_, svSt g m br n u k i = some (run, at_) → SvI g m br n u k i run at_ := by
  intro i
  induction i with
  | zero =>
    intro _ run at_ h
    simp only [svSt, Option.some.injEq, Prod.mk.injEq] at h
    obtain ⟨rfl, rfl⟩ := h
    exact ⟨Nat.zero_le _, fun j h => by omega, fun j h => by omega, ⟨0, Nat.le_refl _, by omega, Or.inl rfl⟩, fun a t _ h => by omega⟩
  | succ i ih =>
    intro hi run at_ h
    simp only [svSt] at h
    split at h
    · cases h
    · rename_i run0 at0 e0
      have H := ih (by omega) run0 at0 e0
      obtain ⟨s, hs, hrun, hst⟩ := H.start
      split at h
      · cases h
      · rename_i hbr
        have hwin : ∀ a t, a ≤ t → t < i + 1 → br < preS g (t + 1) - preS g a → ∃ j x : Nat, j < at0 ∧ u j = (x : Int) ∧ a ≤ x ∧ x < t := by
          intro a t ha ht hsum
          by_cases et : t < i
          · exact H.win a t ha et hsum
          · obtain rfl : t = i := by omega
            simp only [preS] at hsum
            by_cases ea : s ≤ a
            · have := preS_le hok ea (show a ≤ n by omega)
              omega
            · rcases hst with e1 | ⟨j, e1, e2, e3⟩
              · omega
              · exact ⟨j, s - 1, by omega, by omega, by omega, by omega⟩
        split at h
        · rename_i hat
          split at h
          · cases h
          · rename_i hm
            simp only [Option.some.injEq, Prod.mk.injEq] at h
            obtain ⟨rfl, rfl⟩ := h
            have hmi : m i = true := by cases e : m i with
              | true => rfl
              | false => exact (hm (Or.inl e)).elim
            have hin : i + 1 ≠ n := fun e => hm (Or.inr e)
            refine ⟨by omega, fun j hj => ?_, fun j hj => ?_, ⟨i + 1, Nat.le_refl _, by omega, Or.inr ⟨at0, rfl, by omega, by omega⟩⟩, fun a t ha ht hsum => ?_⟩
            · by_cases ej : j + 1 < at0
              · exact H.inc j ej
              · obtain ⟨x, q1, _, _, q2⟩ := H.ok j (by omega)
                obtain rfl : j + 1 = at0 := by omega
                omega
            · by_cases ej : j < at0
              · obtain ⟨x, q1, q2, q3, q4⟩ := H.ok j ej
                exact ⟨x, q1, q2, q3, by omega⟩
              · obtain rfl : j = at0 := by omega
                exact ⟨i, hat.2, hmi, by omega, by omega⟩
            · obtain ⟨j, x, q1, q2⟩ := hwin a t ha ht hsum
              exact ⟨j, x, by omega, q2⟩
        · simp only [Option.some.injEq, Prod.mk.injEq] at h
          obtain ⟨rfl, rfl⟩ := h
          refine ⟨H.le, H.inc, fun j hj => ?_, ⟨s, by omega, by simp only [preS]; omega, hst⟩, hwin⟩
          obtain ⟨x, q1, q2, q3, q4⟩ := H.ok j hj
          exact ⟨x, q1, q2, q3, by omega⟩
theorem svB_srv {g : Nat → Int} {m : Nat → Bool} {br : Int} {n : Nat} (hok : lenOk g n = true) {u : Nat → Int} {k : Nat} (h : svB g m br n u k = true) : Srv g m br n u k := by
  unfold svB at h
  split at h
  · cases h
  · rename_i run at_ e
    obtain rfl : at_ = k := of_decide_eq_true h
    have H := svSt_inv hok n (Nat.le_refl n) run at_ e
    exact ⟨H.inc, fun j hj => by obtain ⟨x, q1, q2, q3, _⟩ := H.ok j hj; exact ⟨x, q1, q2, q3⟩, H.win⟩
theorem srv_svSt {g : Nat → Int} {m : Nat → Bool} {br : Int} {n : Nat} {u : Nat → Int} {k : Nat} (h : Srv g m br n u k) : ∀ i, i ≤ n → ∃ run at_, svSt g m br n u k i = some (run, at_) ∧ at_ ≤ k ∧ (∀ j, j < at_ → u j < (i : Int)) ∧ (∀ j, at_ ≤ j → j < k → (i : Int) ≤ u j) ∧
    ∃ s, s ≤ i ∧ run = preS g i - preS g s ∧ ((s = 0 ∧ at_ = 0) ∨ ∃ j, at_ = j + 1 ∧ 0 < s ∧ u j = (s : Int) - 1) := by
  intro i
  induction i with
  | zero =>
    intro _
    refine ⟨0, 0, rfl, Nat.zero_le _, fun j h => by omega, fun j _ hj => ?_, 0, Nat.le_refl _, by omega, Or.inl ⟨rfl, rfl⟩⟩
    obtain ⟨x, q, _⟩ := h.ok j hj
    omega
  | succ i ih =>
    intro hi
    obtain ⟨run, at_, e, h0, h1, h2, s, hs, hrun, hst⟩ := ih (by omega)
    have hb : ¬ br < run + g i := by
      intro hlt
      obtain ⟨j, x, q1, q2, q3, q4⟩ := h.win s i hs (by omega) (by simp only [preS]; omega)
      have hja : j < at_ := Nat.lt_of_not_le fun hc => by have := h2 j hc q1; omega
      rcases hst with e1 | ⟨j', e1, e2, e3⟩
      · omega
      · by_cases ej : j = j'
        · subst ej; omega
        · have := h.lt (show j < j' by omega) (by omega)
          omega
    simp only [svSt, e, if_neg hb]
    by_cases ha : at_ < k ∧ u at_ = (i : Int)
    · obtain ⟨x, q1, q2, q3⟩ := h.ok at_ ha.1
      obtain rfl : x = i := by omega
      rw [if_pos ha, if_neg (fun h' => h'.elim (fun h'' => by rw [q2] at h''; cases h'') (fun h'' => by omega))]
      refine ⟨0, at_ + 1, rfl, ha.1, fun j hj => ?_, fun j hj hk => ?_, x + 1, Nat.le_refl _, by omega, Or.inr ⟨at_, rfl, by omega, by omega⟩⟩
      · by_cases ej : j < at_
        · have := h1 j ej; omega
        · obtain rfl : j = at_ := by omega
          omega
      · have := h.lt (show at_ < j by omega) hk
        omega
    · rw [if_neg ha]
      refine ⟨_, _, rfl, h0, fun j hj => by have := h1 j hj; omega, fun j hj hk => ?_, s, by omega, by simp only [preS]; omega, hst⟩
      have h3 := h2 j hj hk
      by_cases ej : j = at_
      · subst ej
        have : u j ≠ (i : Int) := fun e => ha ⟨hk, e⟩
        omega
      · have h4 := h2 at_ (Nat.le_refl _) (by omega)
        have := h.lt (show at_ < j by omega) hk
        omega
theorem srv_svB {g : Nat → Int} {m : Nat → Bool} {br : Int} {n : Nat} {u : Nat → Int} {k : Nat} (h : Srv g m br n u k) : svB g m br n u k = true := by
  obtain ⟨run, at_, e, h0, _, h2, _⟩ := srv_svSt h n (Nat.le_refl n)
  simp only [svB, e, decide_eq_true_eq]
  refine Nat.le_antisymm h0 (Nat.le_of_not_lt fun hlt => ?_)
  have := h2 at_ (Nat.le_refl _) hlt
  obtain ⟨x, q1, _, q2⟩ := h.ok at_ hlt
  omega
end Go.Proofs.YtiogfohjepobkaaDoor
