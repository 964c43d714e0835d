/-
  The first list, and a chord without one of its notes (plain words).
-/
import Derived.Test.YtohalcookjbaaaaDoorNkC
namespace Go.Proofs.YtohalcookjbaaaaDoor
open Go.RowKit

def ltP (a b : Nat × Nat) : Prop := a.1 < b.1 ∨ (a.1 = b.1 ∧ a.2 < b.2)
/-- A list of frets comes before another one. -/
def befB : List (Nat × Nat) → List (Nat × Nat) → Bool
  | a :: l, b :: r => if a = b then befB l r else decide (a.1 < b.1 ∨ (a.1 = b.1 ∧ a.2 < b.2))
  | _, _ => false
theorem onS_sorted (P : Nat → Nat → Bool) (s : Nat) : ∀ m, (onS P s m).Pairwise ltP
  | 0 => List.Pairwise.nil
  | m + 1 => by
    rw [onS, List.pairwise_append]
    refine ⟨onS_sorted P s m, by split <;> simp, fun a ha b hb => ?_⟩
    obtain ⟨h1, h2, -⟩ := mem_onS.1 ha
    split at hb
    · obtain rfl := List.mem_singleton.1 hb
      exact .inr ⟨h1, h2⟩
    · cases hb
theorem onAll_sorted (P : Nat → Nat → Bool) (m : Nat) : ∀ n, (onAll P m n).Pairwise ltP
  | 0 => List.Pairwise.nil
  | n + 1 => by
    rw [onAll, List.pairwise_append]
    refine ⟨onAll_sorted P m n, onS_sorted P n m, fun a ha b hb => ?_⟩
    obtain ⟨h1, -⟩ := mem_onAll.1 ha
    obtain ⟨h2, -⟩ := mem_onS.1 hb
    exact .inl (by omega)
theorem sorted_lt {o : List (Nat × Nat)} (h : o.Pairwise ltP) {i j : Nat} {a b : Nat × Nat} (ha : o[i]? = some a) (hb : o[j]? = some b) (hl : ltP a b) : i < j := by
  rcases Nat.lt_trichotomy i j with q | q | q
  · exact q
  · subst q
    rw [ha] at hb; cases hb
    rcases hl with h | h <;> omega
  · obtain ⟨hi, rfl⟩ := List.getElem?_eq_some_iff.1 ha
    obtain ⟨hj, rfl⟩ := List.getElem?_eq_some_iff.1 hb
    have := List.pairwise_iff_getElem.1 h j i hj hi q
    rcases hl with h | h <;> rcases this with k | k <;> omega
theorem srch_first {sp : Int} : ∀ {os : List (List (Nat × Nat))} {pre r l : List (Nat × Nat)}, (∀ o ∈ os, o.Pairwise ltP) → srch sp os pre = some (pre ++ r) → heldL sp pre = true → Drawn os l → heldL sp (pre ++ l) = true → befB l r = false
  | [], pre, r, _, _, h, _, .nil, _ => by simp [befB]
  | o :: os, pre, r, _, hs, h, hp, .cons (f := g) (l := l) hg hd, hh => by
    rw [srch_cons] at h
    obtain ⟨i, f, h1, h2, h3⟩ := findSome_take h
    unfold tryF at h2
    split at h2
    · rename_i hf
      obtain ⟨r', h4, h5, h6⟩ := srch_some hf h2
      rw [List.append_assoc] at h4
      obtain rfl : r = f :: r' := by simpa using List.append_cancel_left h4
      have hh' : heldL sp ((pre ++ [g]) ++ l) = true := by simpa using hh
      by_cases e : g = f
      · subst e
        simp only [befB, if_true]
        exact srch_first (fun o ho => hs o (List.mem_cons_of_mem _ ho)) (by rw [h2]; simp) hf hd hh'
      · simp only [befB, if_neg e]
        refine decide_eq_false fun hl => ?_
        obtain ⟨j, hj⟩ := List.getElem?_of_mem hg
        have hji := sorted_lt (hs o List.mem_cons_self) hj h1 hl
        have := h3 j g hji hj
        unfold tryF at this
        obtain ⟨r2, hr2⟩ := srch_finds hd hh'
        rw [if_pos (heldL_pre hh'), hr2] at this
        cases this
    · cases h2
/-- The product of the numbers of options. -/
def prodN (os : List (List (Nat × Nat))) : Nat := os.foldr (fun l x => max l.length 1 * x) 1
theorem prodN_pos : ∀ os, 1 ≤ prodN os
  | [] => Nat.le_refl _
  | l :: os => Nat.mul_pos (by omega) (prodN_pos os)
theorem min_mul (x m p : Nat) (hp : 1 ≤ p) : min (min (x * m) 10001 * p) 10001 = min (x * (m * p)) 10001 := by
  rcases Nat.le_total (x * m) 10001 with h | h
  · rw [Nat.min_eq_left h, Nat.mul_assoc]
  · rw [Nat.min_eq_right h]
    have h1 : 10001 ≤ 10001 * p := Nat.le_mul_of_pos_right _ hp
    have h2 : 10001 ≤ x * (m * p) := by rw [← Nat.mul_assoc]; exact Nat.le_trans h (Nat.le_mul_of_pos_right _ hp)
    rw [Nat.min_eq_right h1, Nat.min_eq_right h2]
theorem capP_eq (os : List (List (Nat × Nat))) : capP os = min (prodN os) 10001 := by
  have key : ∀ (os : List (List (Nat × Nat))) (x : Nat), x ≤ 10001 → os.foldl (fun x l => min (x * max l.length 1) 10001) x = min (x * prodN os) 10001 := by
    intro os
    induction os with
    | nil => intro x h; simp [prodN]; omega
    | cons l os ih =>
      intro x h
      rw [List.foldl_cons, ih _ (Nat.min_le_right _ _), min_mul _ _ _ (prodN_pos os)]
      rfl
  have := key os 1 (by omega)
  rw [Nat.one_mul] at this
  exact this
theorem prodN_erase : ∀ (os : List (List (Nat × Nat))) (i : Nat), prodN (os.eraseIdx i) ≤ prodN os
  | [], i => by simp
  | l :: os, 0 => by
    show prodN os ≤ max l.length 1 * prodN os
    exact Nat.le_mul_of_pos_left _ (by omega)
  | l :: os, i + 1 => Nat.mul_le_mul_left _ (prodN_erase os i)
theorem drawn_erase : ∀ {os : List (List (Nat × Nat))} {l : List (Nat × Nat)}, Drawn os l → ∀ i, Drawn (os.eraseIdx i) (l.eraseIdx i)
  | [], _, .nil, i => by simpa using Drawn.nil
  | o :: os, _, .cons hf hd, 0 => hd
  | o :: os, _, .cons hf hd, i + 1 => .cons hf (drawn_erase hd i)
theorem erase_getD (l : List (Nat × Nat)) (i j : Nat) : (l.eraseIdx i).getD j (0, 0) = l.getD (if j < i then j else j + 1) (0, 0) := by
  simp only [List.getD, List.getElem?_eraseIdx]
  split <;> rfl
theorem heldL_erase {sp : Int} {l : List (Nat × Nat)} (h : heldL sp l = true) (i : Nat) : heldL sp (l.eraseIdx i) = true := by
  by_cases hi : i < l.length
  · unfold heldL at h ⊢
    rw [heldB_iff] at h ⊢
    rw [List.length_eraseIdx, if_pos hi]
    intro a b hb ha
    have e : ∀ a k, frF (l.eraseIdx i) a k = frF l (if a < i then a else a + 1) k := fun a k => by unfold frF; rw [erase_getD]
    have := h (if a < i then a else a + 1) (if b < i then b else b + 1) (by split <;> split <;> omega) (by split <;> omega)
    unfold okP at this ⊢
    rw [e, e, e, e]
    exact this
  · rw [List.eraseIdx_of_length_le (by omega)]; exact h
theorem noneB_erase {os : List (List (Nat × Nat))} (h : noneB os = false) (i : Nat) : noneB (os.eraseIdx i) = false := by
  unfold noneB at h ⊢
  rw [List.any_eq_false] at h ⊢
  exact fun x hx => h x (List.mem_of_mem_eraseIdx hx)
/-- A chord that can be played can be played without one of its notes. -/
theorem chE_erase {sp : Int} {os : List (List (Nat × Nat))} (h : chE sp os = 0) (i : Nat) : chE sp (os.eraseIdx i) = 0 := by
  rcases chE_cases sp os with ⟨_, h2, h3, h4⟩ | ⟨_, ⟨q, _⟩ | ⟨q, _⟩ | ⟨q, _⟩⟩
  · obtain ⟨l, h5, h6, h7⟩ := srch_some (by rfl) h4
    rw [List.nil_append] at h5
    rw [h5] at h7
    obtain ⟨r, hr⟩ := srch_finds (pre := []) (drawn_erase h6 i) (by rw [List.nil_append]; exact heldL_erase h7 i)
    have hc : ¬ 10000 < capP (os.eraseIdx i) := by
      rw [capP_eq] at h3 ⊢
      have := prodN_erase os i
      omega
    unfold chE
    rw [noneB_erase h2, hr]
    simp [hc]
  all_goals rw [q] at h; cases h
end Go.Proofs.YtohalcookjbaaaaDoor
