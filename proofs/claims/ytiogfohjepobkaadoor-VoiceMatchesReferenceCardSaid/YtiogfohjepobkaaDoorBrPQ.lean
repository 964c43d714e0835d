/-
  package voice: lists of breaths that serve: the breaths by runs serve, are fewest, and latest (plain words).
  schismaref14.Serves, the plain side: its pass over the phrase says whether a list serves.
-/
import Derived.Test.YtiogfohjepobkaaDoorBrea1
namespace Go.Proofs.YtiogfohjepobkaaDoor
open Go.RowKit

theorem preS_le {g : Nat → Int} {n : Nat} (hok : lenOk g n = true) {a b : Nat} (h : a ≤ b) (hb : b ≤ n) : preS g a ≤ preS g b := by
  induction b with
  | zero => obtain rfl : a = 0 := by omega
            exact Int.le_refl _
  | succ b ih =>
    by_cases e : a = b + 1
    · subst e; exact Int.le_refl _
    · have h1 := ih (by omega) (by omega)
      have h2 := lenOk_at hok b (by omega)
      simp only [preS]; omega
theorem lastM_ge {m : Nat → Bool} {fr t x : Nat} (h1 : fr ≤ x) (h2 : x < t) (h3 : m x = true) : (x : Int) ≤ lastM m fr t := by
  induction t with
  | zero => omega
  | succ t ih =>
    simp only [lastM]
    split
    · omega
    · rename_i hn
      by_cases e : x = t
      · subst e; exact (hn ⟨h1, h3⟩).elim
      · exact ih (by omega)
theorem lastM_may {m : Nat → Bool} {fr t : Nat} (h : 0 ≤ lastM m fr t) : m (lastM m fr t).toNat = true := by
  induction t with
  | zero => simp [lastM] at h
  | succ t ih =>
    simp only [lastM] at h ⊢
    split
    · rename_i hn; exact hn.2
    · rename_i hn; rw [if_neg hn] at h; exact ih h

/-- A list of k places serves. -/
structure Srv (g : Nat → Int) (m : Nat → Bool) (br : Int) (n : Nat) (u : Nat → Int) (k : Nat) : Prop where
  inc : ∀ j, j + 1 < k → u j < u (j + 1)
  ok : ∀ j, j < k → ∃ x : Nat, u j = (x : Int) ∧ m x = true ∧ x + 1 < n
  win : ∀ a t, a ≤ t → t < n → br < preS g (t + 1) - preS g a → ∃ j x : Nat, j < k ∧ u j = (x : Int) ∧ a ≤ x ∧ x < t
theorem inc_lt {u : Nat → Int} {k : Nat} (h : ∀ j, j + 1 < k → u j < u (j + 1)) {i j : Nat} (hij : i < j) (hj : j < k) : u i < u j := by
  induction j with
  | zero => omega
  | succ j ih =>
    have := h j hj
    by_cases e : i = j
    · subst e; exact this
    · have := ih (by omega) (by omega); omega
theorem Srv.lt {g : Nat → Int} {m : Nat → Bool} {br : Int} {n k : Nat} {u : Nat → Int} (h : Srv g m br n u k) {i j : Nat} (hij : i < j) (hj : j < k) : u i < u j := inc_lt h.inc hij hj
/-- Weaker demands are served as well. -/
theorem Srv.more {g g' : Nat → Int} {m m' : Nat → Bool} {br br' : Int} {n k : Nat} {u : Nat → Int} (h : Srv g m br n u k) (hm : ∀ x, x < n → m x = true → m' x = true)
    (hw : ∀ a t, a ≤ t → t < n → br' < preS g' (t + 1) - preS g' a → br < preS g (t + 1) - preS g a) : Srv g' m' br' n u k :=
  ⟨h.inc, fun j hj => by obtain ⟨x, h1, h2, h3⟩ := h.ok j hj; exact ⟨x, h1, hm x (by omega) h2, h3⟩, fun a t ha ht hs => h.win a t ha ht (hw a t ha ht hs)⟩

/-- Where a run begins. -/
theorem Runs.start {g : Nat → Int} {m : Nat → Bool} {br : Int} {n : Nat} {l : List Int} {fr : Nat} (h : Runs g m br n l fr) : fr = 0 ∨ ∃ j, l.length = j + 1 ∧ l[j]? = some ((fr : Int) - 1) ∧ 0 < fr := by
  cases h with
  | nil => exact Or.inl rfl
  | @snoc pre fr t x h1 h2 h3 h4 h5 =>
    refine Or.inr ⟨pre.length, by simp, ?_, by omega⟩
    simp; omega
theorem Runs.inc {g : Nat → Int} {m : Nat → Bool} {br : Int} {n : Nat} {l : List Int} {fr : Nat} (h : Runs g m br n l fr) : ∀ j x y, l[j]? = some x → l[j + 1]? = some y → x < y := by
  induction h with
  | nil => intro j x y h; simp at h
  | @snoc pre fr t l h1 h2 h3 h4 h5 ih =>
    intro j x y hx hy
    by_cases e : j + 1 < pre.length
    · rw [List.getElem?_append_left (by omega)] at hx hy
      exact ih j x y hx hy
    · have hlt := (List.getElem?_eq_some_iff.1 hy).1
      rw [List.length_append, List.length_singleton] at hlt
      have e1 : j + 1 = pre.length := by omega
      rw [e1] at hy
      simp at hy
      subst hy
      rcases h1.start with e0 | ⟨i, q1, q2, q3⟩
      · have := h1.le; omega
      · obtain rfl : i = j := by omega
        rw [List.getElem?_append_left (by omega), q2] at hx
        have hl := lastM_lt m fr t
        have := Option.some.inj hx
        omega
theorem Runs.ok {g : Nat → Int} {m : Nat → Bool} {br : Int} {n : Nat} {l : List Int} {fr : Nat} (h : Runs g m br n l fr) : ∀ (j : Nat) (y : Int), l[j]? = some y → ∃ x : Nat, y = (x : Int) ∧ m x = true ∧ x + 1 < n := by
  induction h with
  | nil => intro j y h; simp at h
  | @snoc pre fr t l h1 h2 h3 h4 h5 ih =>
    intro j y hy
    by_cases e : j < pre.length
    · rw [List.getElem?_append_left e] at hy
      exact ih j y hy
    · have hlt := (List.getElem?_eq_some_iff.1 hy).1
      rw [List.length_append, List.length_singleton] at hlt
      obtain rfl : j = pre.length := by omega
      simp at hy
      subst hy
      have hl := lastM_lt m fr t
      subst h4
      exact ⟨(lastM m fr t).toNat, by omega, lastM_may h5, by omega⟩
theorem Runs.win {g : Nat → Int} {m : Nat → Bool} {br : Int} {n : Nat} (hok : lenOk g n = true) {l : List Int} {fr : Nat} (h : Runs g m br n l fr) : ∀ a t, a ≤ t → t < fr → br < preS g (t + 1) - preS g a → ∃ j x : Nat, l[j]? = some (x : Int) ∧ a ≤ x ∧ x < t := by
  induction h with
  | nil => intro a t _ h; omega
  | @snoc pre fr t' l h1 h2 h3 h4 h5 ih =>
    intro a t ha ht hs
    by_cases e : t < fr
    · obtain ⟨j, x, q1, q2, q3⟩ := ih a t ha e hs
      exact ⟨j, x, by rw [List.getElem?_append_left (List.getElem?_eq_some_iff.1 q1).1]; exact q1, q2, q3⟩
    · have hl := lastM_lt m fr t'
      rw [h4] at hl
      by_cases ea : fr ≤ a
      · have s1 := preS_le hok ea (show a ≤ n by omega)
        have s2 := preS_le hok (show t + 1 ≤ t' by omega) (show t' ≤ n by omega)
        have s3 := h2.2.2.1
        omega
      · rcases h1.start with e0 | ⟨i, q1, q2, q3⟩
        · omega
        · refine ⟨i, fr - 1, ?_, by omega, by omega⟩
          rw [List.getElem?_append_left (by omega), q2]
          congr 1; omega
/-- The breaths by runs serve. -/
theorem BrOk.srv {g : Nat → Int} {m : Nat → Bool} {br : Int} {n : Nat} (hok : lenOk g n = true) {l : List Int} (h : BrOk g m br n l) {u : Nat → Int} (hu : ∀ j y, l[j]? = some y → u j = y) : Srv g m br n u l.length := by
  obtain ⟨fr, h1, h2⟩ := h
  have hg : ∀ j, j < l.length → l[j]? = some (u j) := fun j hj => by
    have e := List.getElem?_eq_getElem hj
    rw [hu j _ e]; exact e
  refine ⟨fun j hj => h1.inc j _ _ (hg j (by omega)) (hg (j + 1) hj), fun j hj => h1.ok j _ (hg j hj), fun a t ha ht hs => ?_⟩
  by_cases e : t < fr
  · obtain ⟨j, x, q1, q2, q3⟩ := h1.win hok a t ha e hs
    exact ⟨j, x, (List.getElem?_eq_some_iff.1 q1).1, hu j _ q1, q2, q3⟩
  · by_cases ea : fr ≤ a
    · have s1 := preS_le hok ea (show a ≤ n by omega)
      have s2 := preS_le hok (show t + 1 ≤ n by omega) (Nat.le_refl n)
      have s3 := h2.2.2.1
      omega
    · rcases h1.start with e0 | ⟨i, q1, q2, q3⟩
      · omega
      · exact ⟨i, fr - 1, by omega, by rw [hu i _ q2]; omega, by omega, by omega⟩
/-- Where a list serves, the runs never stop. -/
theorem Srv.good {g : Nat → Int} {m : Nat → Bool} {br : Int} {n k : Nat} {u : Nat → Int} (h : Srv g m br n u k) {pre : List Int} (hb : BrBad g m br n pre) : False := by
  obtain ⟨fr, t, h1, h2, h3, h4⟩ := hb
  obtain ⟨j, x, q1, q2, q3, q4⟩ := h.win fr t h2.1 h3 (h2.2.2.2 h3)
  obtain ⟨x', e, hm, _⟩ := h.ok j q1
  obtain rfl : x' = x := by omega
  have := lastM_ge q3 q4 hm
  omega
/-- No list that serves is shorter, and none has a later breath. -/
theorem Srv.latest {g : Nat → Int} {m : Nat → Bool} {br : Int} {n k : Nat} {u : Nat → Int} (h : Srv g m br n u k) {l : List Int} {fr : Nat} (hr : Runs g m br n l fr) : ∀ j y, l[j]? = some y → j < k ∧ u j ≤ y := by
  induction hr with
  | nil => intro j y hy; simp at hy
  | @snoc pre fr t l h1 h2 h3 h4 h5 ih =>
    intro j y hy
    by_cases e : j < pre.length
    · rw [List.getElem?_append_left e] at hy
      exact ih j y hy
    · have hlt := (List.getElem?_eq_some_iff.1 hy).1
      rw [List.length_append, List.length_singleton] at hlt
      obtain rfl : j = pre.length := by omega
      simp at hy
      subst hy
      obtain ⟨j', x, q1, q2, q3, q4⟩ := h.win fr t h2.1 h3 (h2.2.2.2 h3)
      have hj : pre.length ≤ j' := by
        rcases h1.start with e0 | ⟨i, p1, p2, p3⟩
        · have := h1.le; omega
        · have hi := (ih i _ p2).2
          refine Nat.le_of_not_lt fun hlt' => ?_
          by_cases ei : j' = i
          · subst ei; omega
          · have := h.lt (show j' < i by omega) (ih i _ p2).1
            omega
      refine ⟨by omega, ?_⟩
      obtain ⟨x', e1, hm, _⟩ := h.ok pre.length (by omega)
      have hux : u pre.length ≤ u j' := by
        by_cases ej : pre.length = j'
        · rw [ej]; exact Int.le_refl _
        · exact Int.le_of_lt (h.lt (by omega) q1)
      have hl := lastM_lt m fr t
      rw [h4] at hl
      by_cases ef : fr ≤ x'
      · have := lastM_ge ef (show x' < t by omega) hm
        rw [h4] at this
        omega
      · omega
theorem Srv.len {g : Nat → Int} {m : Nat → Bool} {br : Int} {n k : Nat} {u : Nat → Int} (h : Srv g m br n u k) {l : List Int} (hb : BrOk g m br n l) : l.length ≤ k := by
  obtain ⟨fr, h1, _⟩ := hb
  by_cases e : l.length = 0
  · omega
  · have := (h.latest h1 (l.length - 1) _ (List.getElem?_eq_getElem (by omega))).1
    omega
end Go.Proofs.YtiogfohjepobkaaDoor

namespace Go.Proofs.YtiogfohjepobkaaDoor
open Go.RowKit

/-- The length of the run and the number of breaths, before note i; or none where the list does not serve. -/
def svSt (g : Nat → Int) (m : Nat → Bool) (br : Int) (n : Nat) (u : Nat → Int) (k : Nat) : Nat → Option (Int × Nat)
  | 0 => some (0, 0)
  | i + 1 => match svSt g m br n u k i with
    | none => none
    | some (run, at_) =>
      if br < run + g i then none
      else if at_ < k ∧ u at_ = (i : Int) then (if m i = false ∨ i + 1 = n then none else some (0, at_ + 1))
      else some (run + g i, at_)
/-- Whether a list serves. -/
def svB (g : Nat → Int) (m : Nat → Bool) (br : Int) (n : Nat) (u : Nat → Int) (k : Nat) : Bool :=
  match svSt g m br n u k n with
  | none => false
  | some (_, at_) => decide (at_ = k)
theorem svSt_none {g : Nat → Int} {m : Nat → Bool} {br : Int} {n : Nat} {u : Nat → Int} {k i : Nat} (h : svSt g m br n u k i = none) : ∀ j, i ≤ j → svSt g m br n u k j = none := by
  intro j hj
  induction j with
  | zero => obtain rfl : i = 0 := by omega
            exact h
  | succ j ih =>
    by_cases e : i = j + 1
    · subst e; exact h
    · simp only [svSt, ih (by omega)]
theorem svB_none {g : Nat → Int} {m : Nat → Bool} {br : Int} {n : Nat} {u : Nat → Int} {k i : Nat} (h : svSt g m br n u k i = none) (hi : i ≤ n) : svB g m br n u k = false := by
  simp only [svB, svSt_none h n hi]

/-- What the pass knows before note i. -/
structure SvI (g : Nat → Int) (m : Nat → Bool) (br : Int) (n : Nat) (u : Nat → Int) (k i : Nat) (run : Int) (at_ : Nat) : Prop where
  le : at_ ≤ k
  inc : ∀ j, j + 1 < at_ → u j < u (j + 1)
  ok : ∀ j, j < at_ → ∃ x : Nat, u j = (x : Int) ∧ m x = true ∧ x + 1 < n ∧ x < i
  start : ∃ s, s ≤ i ∧ run = preS g i - preS g s ∧ (s = 0 ∨ ∃ j, at_ = j + 1 ∧ 0 < s ∧ u j = (s : Int) - 1)
  win : ∀ a t, a ≤ t → t < i → br < preS g (t + 1) - preS g a → ∃ j x : Nat, j < at_ ∧ u j = (x : Int) ∧ a ≤ x ∧ x < t
theorem svSt_inv {g : Nat → Int} {m : Nat → Bool} {br : Int} {n : Nat} (hok : lenOk g n = true) {u : Nat → Int} {k : Nat} : ∀ i, i ≤ n → ∀ run at_, svSt g m br n u k i = some (run, at_) → SvI g m br n u k i run at_ := by
  intro i
  induction i with
  | zero =>
    intro _ run at_ h
    simp only [svSt, Option.some.injEq, Prod.mk.injEq] at h
    obtain ⟨rfl, rfl⟩ := h
    exact ⟨Nat.zero_le _, fun j h => by omega, fun j h => by omega, ⟨0, Nat.le_refl _, by omega, Or.inl rfl⟩, fun a t _ h => by omega⟩
  | succ i ih =>
    intro hi run at_ h
    simp only [svSt] at h
    split at h
    · cases h
    · rename_i run0 at0 e0
      have H := ih (by omega) run0 at0 e0
      obtain ⟨s, hs, hrun, hst⟩ := H.start
      split at h
      · cases h
      · rename_i hbr
        have hwin : ∀ a t, a ≤ t → t < i + 1 → br < preS g (t + 1) - preS g a → ∃ j x : Nat, j < at0 ∧ u j = (x : Int) ∧ a ≤ x ∧ x < t := by
          intro a t ha ht hsum
          by_cases et : t < i
          · exact H.win a t ha et hsum
          · obtain rfl : t = i := by omega
            simp only [preS] at hsum
            by_cases ea : s ≤ a
            · have := preS_le hok ea (show a ≤ n by omega)
              omega
            · rcases hst with e1 | ⟨j, e1, e2, e3⟩
              · omega
              · exact ⟨j, s - 1, by omega, by omega, by omega, by omega⟩
        split at h
        · rename_i hat
          split at h
          · cases h
          · rename_i hm
            simp only [Option.some.injEq, Prod.mk.injEq] at h
            obtain ⟨rfl, rfl⟩ := h
            have hmi : m i = true := by cases e : m i with
              | true => rfl
              | false => exact (hm (Or.inl e)).elim
            have hin : i + 1 ≠ n := fun e => hm (Or.inr e)
            refine ⟨by omega, fun j hj => ?_, fun j hj => ?_, ⟨i + 1, Nat.le_refl _, by omega, Or.inr ⟨at0, rfl, by omega, by omega⟩⟩, fun a t ha ht hsum => ?_⟩
            · by_cases ej : j + 1 < at0
              · exact H.inc j ej
              · obtain ⟨x, q1, _, _, q2⟩ := H.ok j (by omega)
                obtain rfl : j + 1 = at0 := by omega
                omega
            · by_cases ej : j < at0
              · obtain ⟨x, q1, q2, q3, q4⟩ := H.ok j ej
                exact ⟨x, q1, q2, q3, by omega⟩
              · obtain rfl : j = at0 := by omega
                exact ⟨i, hat.2, hmi, by omega, by omega⟩
            · obtain ⟨j, x, q1, q2⟩ := hwin a t ha ht hsum
              exact ⟨j, x, by omega, q2⟩
        · simp only [Option.some.injEq, Prod.mk.injEq] at h
          obtain ⟨rfl, rfl⟩ := h
          refine ⟨H.le, H.inc, fun j hj => ?_, ⟨s, by omega, by simp only [preS]; omega, hst⟩, hwin⟩
          obtain ⟨x, q1, q2, q3, q4⟩ := H.ok j hj
          exact ⟨x, q1, q2, q3, by omega⟩
theorem svB_srv {g : Nat → Int} {m : Nat → Bool} {br : Int} {n : Nat} (hok : lenOk g n = true) {u : Nat → Int} {k : Nat} (h : svB g m br n u k = true) : Srv g m br n u k := by
  unfold svB at h
  split at h
  · cases h
  · rename_i run at_ e
    obtain rfl : at_ = k := of_decide_eq_true h
    have H := svSt_inv hok n (Nat.le_refl n) run at_ e
    exact ⟨H.inc, fun j hj => by obtain ⟨x, q1, q2, q3, _⟩ := H.ok j hj; exact ⟨x, q1, q2, q3⟩, H.win⟩
theorem srv_svSt {g : Nat → Int} {m : Nat → Bool} {br : Int} {n : Nat} {u : Nat → Int} {k : Nat} (h : Srv g m br n u k) : ∀ i, i ≤ n → ∃ run at_, svSt g m br n u k i = some (run, at_) ∧ at_ ≤ k ∧ (∀ j, j < at_ → u j < (i : Int)) ∧ (∀ j, at_ ≤ j → j < k → (i : Int) ≤ u j) ∧
    ∃ s, s ≤ i ∧ run = preS g i - preS g s ∧ ((s = 0 ∧ at_ = 0) ∨ ∃ j, at_ = j + 1 ∧ 0 < s ∧ u j = (s : Int) - 1) := by
  intro i
  induction i with
  | zero =>
    intro _
    refine ⟨0, 0, rfl, Nat.zero_le _, fun j h => by omega, fun j _ hj => ?_, 0, Nat.le_refl _, by omega, Or.inl ⟨rfl, rfl⟩⟩
    obtain ⟨x, q, _⟩ := h.ok j hj
    omega
  | succ i ih =>
    intro hi
    obtain ⟨run, at_, e, h0, h1, h2, s, hs, hrun, hst⟩ := ih (by omega)
    have hb : ¬ br < run + g i := by
      intro hlt
      obtain ⟨j, x, q1, q2, q3, q4⟩ := h.win s i hs (by omega) (by simp only [preS]; omega)
      have hja : j < at_ := Nat.lt_of_not_le fun hc => by have := h2 j hc q1; omega
      rcases hst with e1 | ⟨j', e1, e2, e3⟩
      · omega
      · by_cases ej : j = j'
        · subst ej; omega
        · have := h.lt (show j < j' by omega) (by omega)
          omega
    simp only [svSt, e, if_neg hb]
    by_cases ha : at_ < k ∧ u at_ = (i : Int)
    · obtain ⟨x, q1, q2, q3⟩ := h.ok at_ ha.1
      obtain rfl : x = i := by omega
      rw [if_pos ha, if_neg (fun h' => h'.elim (fun h'' => by rw [q2] at h''; cases h'') (fun h'' => by omega))]
      refine ⟨0, at_ + 1, rfl, ha.1, fun j hj => ?_, fun j hj hk => ?_, x + 1, Nat.le_refl _, by omega, Or.inr ⟨at_, rfl, by omega, by omega⟩⟩
      · by_cases ej : j < at_
        · have := h1 j ej; omega
        · obtain rfl : j = at_ := by omega
          omega
      · have := h.lt (show at_ < j by omega) hk
        omega
    · rw [if_neg ha]
      refine ⟨_, _, rfl, h0, fun j hj => by have := h1 j hj; omega, fun j hj hk => ?_, s, by omega, by simp only [preS]; omega, hst⟩
      have h3 := h2 j hj hk
      by_cases ej : j = at_
      · subst ej
        have : u j ≠ (i : Int) := fun e => ha ⟨hk, e⟩
        omega
      · have h4 := h2 at_ (Nat.le_refl _) (by omega)
        have := h.lt (show at_ < j by omega) hk
        omega
theorem srv_svB {g : Nat → Int} {m : Nat → Bool} {br : Int} {n : Nat} {u : Nat → Int} {k : Nat} (h : Srv g m br n u k) : svB g m br n u k = true := by
  obtain ⟨run, at_, e, h0, _, h2, _⟩ := srv_svSt h n (Nat.le_refl n)
  simp only [svB, e, decide_eq_true_eq]
  refine Nat.le_antisymm h0 (Nat.le_of_not_lt fun hlt => ?_)
  have := h2 at_ (Nat.le_refl _) hlt
  obtain ⟨x, q1, _, q2⟩ := h.ok at_ hlt
  omega
end Go.Proofs.YtiogfohjepobkaaDoor
