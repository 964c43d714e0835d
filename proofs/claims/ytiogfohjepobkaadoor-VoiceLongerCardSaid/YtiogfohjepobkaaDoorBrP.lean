/-
  package voice: lists of breaths that serve: the breaths by runs serve, are fewest, and latest (plain words).
-/
import Derived.Test.YtiogfohjepobkaaDoorBrea1
namespace Go.Proofs.YtiogfohjepobkaaDoor
open Go.RowKit

theorem preS_le {g : Nat → Int} {n : Nat} (hok : lenOk g n = true) {a b : Nat} (h : a ≤ b) (hb : b ≤ n) : preS g a ≤ preS g b := by
  induction b with
  | zero => obtain rfl : a = 0 := by omega
            exact Int.le_refl _
  | succ b ih =>
    by_cases e : a = b + 1
    · subst e; exact Int.le_refl _
    · have h1 := ih (by omega) (by omega)
      have h2 := lenOk_at hok b (by omega)
      simp only [preS]; omega
theorem lastM_ge {m : Nat → Bool} {fr t x : Nat} (h1 : fr ≤ x) (h2 : x < t) (h3 : m x = true) : (x : Int) ≤ lastM m fr t := by
  induction t with
  | zero => omega
  | succ t ih =>
    simp only [lastM]
    split
    · omega
    · rename_i hn
      by_cases e : x = t
      · subst e; exact (hn ⟨h1, h3⟩).elim
      · exact ih (by omega)
theorem lastM_may {m : Nat → Bool} {fr t : Nat} (h : 0 ≤ lastM m fr t) : m (lastM m fr t).toNat = true := by
  induction t with
  | zero => simp [lastM] at h
  | succ t ih =>
    simp only [lastM] at h ⊢
    split
    · rename_i hn; exact hn.2
    · rename_i hn; rw [if_neg hn] at h; exact ih h

/-- A list of k places serves. -/
structure Srv (g : Nat → Int) (m : Nat → Bool) (br : Int) (n : Nat) (u : Nat → Int) (k : Nat) : Prop where
  inc : ∀ j, j + 1 < k → u j < u (j + 1)
  ok : ∀ j, j < k → ∃ x : Nat, u j = (x : Int) ∧ m x = true ∧ x + 1 < n
  win : ∀ a t, a ≤ t → t < n → br < preS g (t + 1) - preS g a → ∃ j x : Nat, j < k ∧ u j = (x : Int) ∧ a ≤ x ∧ x < t
theorem inc_lt {u : Nat → Int} {k : Nat} (h : ∀ j, j + 1 < k → u j < u (j + 1)) {i j : Nat} (hij : i < j) (hj : j < k) : u i < u j := by
  induction j with
  | zero => omega
  | succ j ih =>
    have := h j hj
    by_cases e : i = j
    · subst e; exact this
    · have := ih (by omega) (by omega); omega
theorem Srv.lt {g : Nat → Int} {m : Nat → Bool} {br : Int} {n k : Nat} {u : Nat → Int} (h : Srv g m br n u k) {i j : Nat} (hij : i < j) (hj : j < k) : u i < u j := inc_lt h.inc hij hj
/-- Weaker demands are served as well. -/
theorem Srv.more {g g' : Nat → Int} {m m' : Nat → Bool} {br br' : Int} {n k : Nat} {u : Nat → Int} (h : Srv g m br n u k) (hm : ∀ x, x < n → m x = true → m' x = true)
    (hw : ∀ a t, a ≤ t → t < n → br' < preS g' (t + 1) - preS g' a → br < preS g (t + 1) - preS g a) : Srv g' m' br' n u k :=
  ⟨h.inc, fun j hj => by obtain ⟨x, h1, h2, h3⟩ := h.ok j hj; exact ⟨x, h1, hm x (by omega) h2, h3⟩, fun a t ha ht hs => h.win a t ha ht (hw a t ha ht hs)⟩

/-- Where a run begins. -/
theorem Runs.start {g : Nat → Int} {m : Nat → Bool} {br : Int} {n : Nat} {l : List Int} {fr : Nat} (h : Runs g m br n l fr) : fr = 0 ∨ ∃ j, l.length = j + 1 ∧ l[j]? = some ((fr : Int) - 1) ∧ 0 < fr := by
  cases h with
  | nil => exact Or.inl rfl
  | @snoc pre fr t x h1 h2 h3 h4 h5 =>
    refine Or.inr ⟨pre.length, by simp, ?_, by omega⟩
    simp; omega
theorem Runs.inc {g : Nat → Int} {m : Nat → Bool} {br : Int} {n : Nat} {l : List Int} {fr : Nat} (h : Runs g m br n l fr) : ∀ j x y, l[j]? = some x → l[j + 1]? = some y → x < y := by
  induction h with
  | nil => intro j x y h; simp at h
  | @snoc pre fr t l h1 h2 h3 h4 h5 ih =>
    intro j x y hx hy
    by_cases e : j + 1 < pre.length
    · rw [List.getElem?_append_left (by omega)] at hx hy
      exact ih j x y hx hy
    · have hlt := (List.getElem?_eq_some_iff.1 hy).1
      rw [List.length_append, List.length_singleton] at hlt
      have e1 : j + 1 = pre.length := by omega
      rw [e1] at hy
      simp at hy
      subst hy
      rcases h1.start with e0 | ⟨i, q1, q2, q3⟩
      · have := h1.le; omega
      · obtain rfl : i = j := by omega
        rw [List.getElem?_append_left (by omega), q2] at hx
        have hl := lastM_lt m fr t
        have := Option.some.inj hx
        omega
theorem Runs.ok {g : Nat → Int} {m : Nat → Bool} {br : Int} {n : Nat} {l : List Int} {fr : Nat} (h : Runs g m br n l fr) : ∀ (j : Nat) (y : Int), l[j]? = some y → ∃ x : Nat, y = (x : Int) ∧ m x = true ∧ x + 1 < n := by
  induction h with
  | nil => intro j y h; simp at h
  | @snoc pre fr t l h1 h2 h3 h4 h5 ih =>
    intro j y hy
    by_cases e : j < pre.length
    · rw [List.getElem?_append_left e] at hy
      exact ih j y hy
    · have hlt := (List.getElem?_eq_some_iff.1 hy).1
      rw [List.length_append, List.length_singleton] at hlt
      obtain rfl : j = pre.length := by omega
      simp at hy
      subst hy
      have hl := lastM_lt m fr t
      subst h4
      exact ⟨(lastM m fr t).toNat, by omega, lastM_may h5, by omega⟩
theorem Runs.win {g : Nat → Int} {m : Nat → Bool} {br : Int} {n : Nat} (hok : lenOk g n = true) {l : List Int} {fr : Nat} (h : Runs g m br n l fr) : ∀ a t, a ≤ t → t < fr → br < preS g (t + 1) - preS g a → ∃ j x : Nat, l[j]? = some (x : Int) ∧ a ≤ x ∧ x < t := by
  induction h with
  | nil => intro a t _ h; omega
  | @snoc pre fr t' l h1 h2 h3 h4 h5 ih =>
    intro a t ha ht hs
    by_cases e : t < fr
    · obtain ⟨j, x, q1, q2, q3⟩ := ih a t ha e hs
      exact ⟨j, x, by rw [List.getElem?_append_left (List.getElem?_eq_some_iff.1 q1).1]; exact q1, q2, q3⟩
    · have hl := lastM_lt m fr t'
      rw [h4] at hl
      by_cases ea : fr ≤ a
      · have s1 := preS_le hok ea (show a ≤ n by omega)
        have s2 := preS_le hok (show t + 1 ≤ t' by omega) (show t' ≤ n by omega)
        have s3 := h2.2.2.1
        omega
      · rcases h1.start with e0 | ⟨i, q1, q2, q3⟩
        · omega
        · refine ⟨i, fr - 1, ?_, by omega, by omega⟩
          rw [List.getElem?_append_left (by omega), q2]
          congr 1; omega
/-- The breaths by runs serve. -/
theorem BrOk.srv {g : Nat → Int} {m : Nat → Bool} {br : Int} {n : Nat} (hok : lenOk g n = true) {l : List Int} (h : BrOk g m br n l) {u : Nat → Int} (hu : ∀ j y, l[j]? = some y → u j = y) : Srv g m br n u l.length := by
  obtain ⟨fr, h1, h2⟩ := h
  have hg : ∀ j, j < l.length → l[j]? = some (u j) := fun j hj => by
    have e := List.getElem?_eq_getElem hj
    rw [hu j _ e]; exact e
  refine ⟨fun j hj => h1.inc j _ _ (hg j (by omega)) (hg (j + 1) hj), fun j hj => h1.ok j _ (hg j hj), fun a t ha ht hs => ?_⟩
  by_cases e : t < fr
  · obtain ⟨j, x, q1, q2, q3⟩ := h1.win hok a t ha e hs
    exact ⟨j, x, (List.getElem?_eq_some_iff.1 q1).1, hu j _ q1, q2, q3⟩
  · by_cases ea : fr ≤ a
    · have s1 := preS_le hok ea (show a ≤ n by omega)
      have s2 := preS_le hok (show t + 1 ≤ n by omega) (Nat.le_refl n)
      have s3 := h2.2.2.1
      omega
    · rcases h1.start with e0 | ⟨i, q1, q2, q3⟩
      · omega
      · exact ⟨i, fr - 1, by omega, by rw [hu i _ q2]; omega, by omega, by omega⟩
/-- Where a list serves, the runs never stop. -/
theorem Srv.good {g : Nat → Int} {m : Nat → Bool} {br : Int} {n k : Nat} {u : Nat → Int} (h : Srv g m br n u k) {pre : List Int} (hb : BrBad g m br n pre) : False := by
  obtain ⟨fr, t, h1, h2, h3, h4⟩ := hb
  obtain ⟨j, x, q1, q2, q3, q4⟩ := h.win fr t h2.1 h3 (h2.2.2.2 h3)
  obtain ⟨x', e, hm, _⟩ := h.ok j q1
  obtain rfl : x' = x := by omega
  have := lastM_ge q3 q4 hm
  omega
/-- No list that serves is shorter, and none has a later breath. -/
theorem Srv.latest {g : Nat → Int} {m : Nat → Bool} {br : Int} {n k : Nat} {u : Nat → Int} (h : Srv g m br n u k) {l : List Int} {fr : Nat} (hr : Runs g m br n l fr) : ∀ j y, l[j]? = some y → j < k ∧ u j ≤ y := by
  induction hr with
  | nil => intro j y hy; simp at hy
  | @snoc pre fr t l h1 h2 h3 h4 h5 ih =>
    intro j y hy
    by_cases e : j < pre.length
    · rw [List.getElem?_append_left e] at hy
      exact ih j y hy
    · have hlt := (List.getElem?_eq_some_iff.1 hy).1
      rw [List.length_append, List.length_singleton] at hlt
      obtain rfl : j = pre.length := by omega
      simp at hy
      subst hy
      obtain ⟨j', x, q1, q2, q3, q4⟩ := h.win fr t h2.1 h3 (h2.2.2.2 h3)
      have hj : pre.length ≤ j' := by
        rcases h1.start with e0 | ⟨i, p1, p2, p3⟩
        · have := h1.le; omega
        · have hi := (ih i _ p2).2
          refine Nat.le_of_not_lt fun hlt' => ?_
          by_cases ei : j' = i
          · subst ei; omega
          · have := h.lt (show j' < i by omega) (ih i _ p2).1
            omega
      refine ⟨by omega, ?_⟩
      obtain ⟨x', e1, hm, _⟩ := h.ok pre.length (by omega)
      have hux : u pre.length ≤ u j' := by
        by_cases ej : pre.length = j'
        · rw [ej]; exact Int.le_refl _
        · exact Int.le_of_lt (h.lt (by omega) q1)
      have hl := lastM_lt m fr t
      rw [h4] at hl
      by_cases ef : fr ≤ x'
      · have := lastM_ge ef (show x' < t by omega) hm
        rw [h4] at this
        omega
      · omega
theorem Srv.len {g : Nat → Int} {m : Nat → Bool} {br : Int} {n k : Nat} {u : Nat → Int} (h : Srv g m br n u k) {l : List Int} (hb : BrOk g m br n l) : l.length ≤ k := by
  obtain ⟨fr, h1, _⟩ := hb
  by_cases e : l.length = 0
  · omega
  · have := (h.latest h1 (l.length - 1) _ (List.getElem?_eq_getElem (by omega))).1
    omega
end Go.Proofs.YtiogfohjepobkaaDoor
