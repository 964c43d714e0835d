/-
  The nearest blow of a list is nearest.
-/
import Derived.Test.YtbaopniofhbjdaaDoorBPlain
namespace Go.Proofs.YtbaopniofhbjdaaDoor

/-- One pitch is not above another one. -/
def leP (u v : V6) : Prop := 0 ≤ cmpP (v.sub u)
theorem V6.sub_self (v : V6) : v.sub v = ⟨0, 0, 0, 0, 0, 0⟩ := by simp [V6.sub]
theorem V6.sub_split (u v w : V6) : w.sub u = (w.sub v).add (v.sub u) := by
  simp only [V6.sub, V6.add, V6.mk.injEq]
  refine ⟨?_, ?_, ?_, ?_, ?_, ?_⟩ <;> omega
theorem V6.sub_neg (u v : V6) : (u.sub v).neg = v.sub u := by
  simp only [V6.sub, V6.neg, V6.mk.injEq]
  refine ⟨?_, ?_, ?_, ?_, ?_, ?_⟩ <;> omega
theorem leP_refl (v : V6) : leP v v := by rw [leP, V6.sub_self, cmpP_zero]; exact Int.le_refl 0
theorem leP_trans {u v w : V6} (h : leP u v) (k : leP v w) : leP u w := by
  rw [leP, V6.sub_split u v w]
  exact (cmpP_add _ _).1 k h
theorem leP_iff (u v : V6) : leP u v ↔ cmpP (u.sub v) ≤ 0 := by
  rw [leP, ← V6.sub_neg u v, cmpP_neg]; omega
theorem leP_total (u v : V6) : leP u v ∨ leP v u := by
  rw [leP_iff, leP]; omega
theorem pick_min {m Q : Nat} (base : V6) (f : Nat → Nat → Int) (n : Nat) (v : V6) : ∀ (l : List (BlowIx m Q)) (a q : BlowIx m Q), l.foldl (pickB base f n v) (some a) = some q → leP (distB base f n v q) (distB base f n v a) ∧ ∀ p ∈ l, leP (distB base f n v q) (distB base f n v p)
  | [], a, q, h => by
    simp at h; subst h
    exact ⟨leP_refl _, by simp⟩
  | b :: l, a, q, h => by
    simp only [List.foldl_cons, pickB] at h
    by_cases hc : cmpP ((distB base f n v b).sub (distB base f n v a)) < 0
    · rw [if_pos hc] at h
      obtain ⟨h1, h2⟩ := pick_min base f n v l b q h
      have hba : leP (distB base f n v b) (distB base f n v a) := (leP_iff _ _).2 (by omega)
      refine ⟨leP_trans h1 hba, fun p hp => ?_⟩
      rcases List.mem_cons.1 hp with rfl | hp
      · exact h1
      · exact h2 p hp
    · rw [if_neg hc] at h
      obtain ⟨h1, h2⟩ := pick_min base f n v l a q h
      have hab : leP (distB base f n v a) (distB base f n v b) := by rw [leP]; omega
      refine ⟨h1, fun p hp => ?_⟩
      rcases List.mem_cons.1 hp with rfl | hp
      · exact leP_trans h1 hab
      · exact h2 p hp
theorem bestL_min {m Q : Nat} {base : V6} {f : Nat → Nat → Int} {n : Nat} {v : V6} {l : List (BlowIx m Q)} {q : BlowIx m Q} (h : bestL base f n v l = some q) : ∀ p ∈ l, leP (distB base f n v q) (distB base f n v p) := by
  cases l with
  | nil => simp
  | cons a l =>
    have h' : l.foldl (pickB base f n v) (some a) = some q := h
    obtain ⟨h1, h2⟩ := pick_min base f n v l a q h'
    intro p hp
    rcases List.mem_cons.1 hp with rfl | hp
    · exact h1
    · exact h2 p hp
theorem bestL_some {m Q : Nat} (base : V6) (f : Nat → Nat → Int) (n : Nat) (v : V6) {l : List (BlowIx m Q)} (h : l ≠ []) : ∃ q, bestL base f n v l = some q := by
  cases l with
  | nil => exact (h rfl).elim
  | cons a l =>
    have key : ∀ (l : List (BlowIx m Q)) (a : BlowIx m Q), ∃ q, l.foldl (pickB base f n v) (some a) = some q := by
      intro l
      induction l with
      | nil => exact fun a => ⟨a, rfl⟩
      | cons b l ih =>
        intro a
        simp only [List.foldl_cons, pickB]
        split
        · exact ih b
        · exact ih a
    exact key l a
end Go.Proofs.YtbaopniofhbjdaaDoor
