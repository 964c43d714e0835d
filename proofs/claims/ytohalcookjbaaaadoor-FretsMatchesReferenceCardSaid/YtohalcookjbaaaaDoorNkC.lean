/-
  What Chord returns (plain words).
-/
import Derived.Test.YtohalcookjbaaaaDoorNkS
namespace Go.Proofs.YtohalcookjbaaaaDoor
open Go.RowKit

/-- The first i intervals are valid. -/
def vecsB (f : Nat → Nat → Int) : Nat → Bool
  | 0 => true
  | i + 1 => vecsB f i && allIn (rowV f i) 48 6
theorem vecsB_at {f : Nat → Nat → Int} {n : Nat} (h : vecsB f n = true) {k : Nat} (hk : k < n) : allIn (rowV f k) 48 6 = true := by
  induction n with
  | zero => omega
  | succ n ih =>
    simp only [vecsB, Bool.and_eq_true] at h
    by_cases e : k = n
    · subst e; exact h.2
    · exact ih h.1 (by omega)
theorem vecsB_no {f : Nat → Nat → Int} {n k : Nat} (hk : k < n) (h : allIn (rowV f k) 48 6 = false) : vecsB f n = false := by
  cases e : vecsB f n with
  | false => rfl
  | true => rw [vecsB_at e hk] at h; cases h
theorem vecsB_next {f : Nat → Nat → Int} {n : Nat} (h : vecsB f n = true) (h1 : allIn (rowV f n) 48 6 = true) : vecsB f (n + 1) = true := by simp only [vecsB, h, h1, Bool.and_self]
theorem vecsB_iff {f : Nat → Nat → Int} {n : Nat} : vecsB f n = true ↔ ∀ k, k < n → allIn (rowV f k) 48 6 = true := by
  refine ⟨fun h k hk => vecsB_at h hk, fun h => ?_⟩
  induction n with
  | zero => rfl
  | succ n ih => exact vecsB_next (ih fun k hk => h k (by omega)) (h n (by omega))
/-- The frets that play each of the first i intervals. -/
def optsF (F : V6 → List (Nat × Nat)) (f : Nat → Nat → Int) : Nat → List (List (Nat × Nat))
  | 0 => []
  | i + 1 => optsF F f i ++ [F (rowV f i)]
theorem optsF_len (F : V6 → List (Nat × Nat)) (f : Nat → Nat → Int) : ∀ n, (optsF F f n).length = n
  | 0 => rfl
  | n + 1 => by simp [optsF, optsF_len F f n]
theorem optsF_at (F : V6 → List (Nat × Nat)) (f : Nat → Nat → Int) : ∀ {n k : Nat}, k < n → (optsF F f n)[k]? = some (F (rowV f k))
  | 0, k, h => by omega
  | n + 1, k, h => by
    have hl := optsF_len F f n
    by_cases e : k = n
    · subst e; simp [optsF, hl]
    · rw [optsF, List.getElem?_append_left (by omega)]; exact optsF_at F f (by omega)
/-- Whether an interval cannot be played. -/
def noneB (os : List (List (Nat × Nat))) : Bool := os.any fun l => decide (l.length = 0)
theorem noneB_snoc (os : List (List (Nat × Nat))) (l : List (Nat × Nat)) : noneB (os ++ [l]) = (noneB os || decide (l.length = 0)) := by simp [noneB]
/-- How many lists there are, up to 10001. -/
def capP (os : List (List (Nat × Nat))) : Nat := os.foldl (fun x l => min (x * max l.length 1) 10001) 1
theorem capP_snoc (os : List (List (Nat × Nat))) (l : List (Nat × Nat)) : capP (os ++ [l]) = min (capP os * max l.length 1) 10001 := by simp [capP]
theorem capP_range (os : List (List (Nat × Nat))) : 1 ≤ capP os ∧ capP os ≤ 10001 := by
  have key : ∀ (os : List (List (Nat × Nat))) (x : Nat), 1 ≤ x → x ≤ 10001 → 1 ≤ os.foldl (fun x l => min (x * max l.length 1) 10001) x ∧ os.foldl (fun x l => min (x * max l.length 1) 10001) x ≤ 10001 := by
    intro os
    induction os with
    | nil => intro x h1 h2; exact ⟨h1, h2⟩
    | cons l os ih =>
      intro x h1 h2
      rw [List.foldl_cons]
      have : 1 ≤ x * max l.length 1 := Nat.mul_pos h1 (by omega)
      exact ih _ (by omega) (by omega)
  exact key os 1 (by omega) (by omega)
/-- The error that Chord returns at valid inputs. -/
def chE (sp : Int) (os : List (List (Nat × Nat))) : Int := if noneB os then 4 else if 10000 < capP os then 2 else match srch sp os [] with
  | none => 20
  | some _ => 0
/-- The list that Chord returns at valid inputs. -/
def chL (sp : Int) (os : List (List (Nat × Nat))) : List (Nat × Nat) := if noneB os then [] else if 10000 < capP os then [] else match srch sp os [] with
  | none => []
  | some r => r
def chordOk (no : Nat) (o : Nat → Nat → Int) (nf : Nat) (q : Nat → Nat → Int) (sp tl : Int) (f : Nat → Nat → Int) (n : Nat) : Bool := neckB no o nf q sp tl && (decide (n ≤ 12) && vecsB f n)
/-- What Chord returns. -/
def chordE (no : Nat) (o : Nat → Nat → Int) (nf : Nat) (q : Nat → Nat → Int) (sp tl : Int) (f : Nat → Nat → Int) (n : Nat) : Int := if chordOk no o nf q sp tl f n then chE sp (optsF (findF no o nf q tl) f n) else 1
def chordL (no : Nat) (o : Nat → Nat → Int) (nf : Nat) (q : Nat → Nat → Int) (sp tl : Int) (f : Nat → Nat → Int) (n : Nat) : List (Nat × Nat) := if chordOk no o nf q sp tl f n then chL sp (optsF (findF no o nf q tl) f n) else []
theorem chE_cases (sp : Int) (os : List (List (Nat × Nat))) : (chE sp os = 0 ∧ noneB os = false ∧ ¬ 10000 < capP os ∧ srch sp os [] = some (chL sp os)) ∨ (chL sp os = [] ∧ (chE sp os = 4 ∧ noneB os = true ∨ chE sp os = 2 ∧ noneB os = false ∧ 10000 < capP os ∨ chE sp os = 20 ∧ noneB os = false ∧ ¬ 10000 < capP os ∧ srch sp os [] = none)) := by
  unfold chE chL
  cases hn : noneB os with
  | true => right; simp
  | false =>
    by_cases hc : 10000 < capP os
    · right; simp [hc]
    · cases hs : srch sp os [] with
      | none => right; simp [hc]
      | some r => left; simp [hc]
theorem chordE_cases (no : Nat) (o : Nat → Nat → Int) (nf : Nat) (q : Nat → Nat → Int) (sp tl : Int) (f : Nat → Nat → Int) (n : Nat) :
    (chordE no o nf q sp tl f n = 0 ∧ chordOk no o nf q sp tl f n = true ∧ ∃ l, chordL no o nf q sp tl f n = l ∧ Drawn (optsF (findF no o nf q tl) f n) l ∧ heldL sp l = true) ∨
    (chordL no o nf q sp tl f n = [] ∧ (chordE no o nf q sp tl f n = 1 ∨ chordE no o nf q sp tl f n = 2 ∨ chordE no o nf q sp tl f n = 4 ∨ chordE no o nf q sp tl f n = 20)) := by
  unfold chordE chordL
  cases hk : chordOk no o nf q sp tl f n with
  | false => right; simp
  | true =>
    simp only [if_true]
    rcases chE_cases sp (optsF (findF no o nf q tl) f n) with ⟨h1, h2, h3, h4⟩ | ⟨h1, h2⟩
    · left
      obtain ⟨l, h5, h6, h7⟩ := srch_some (by rfl) h4
      rw [List.nil_append] at h5
      exact ⟨h1, by first | rfl | trivial, _, rfl, by rw [h5]; exact h6, h7⟩
    · right
      refine ⟨h1, ?_⟩
      rcases h2 with ⟨h, _⟩ | ⟨h, _⟩ | ⟨h, _⟩
      · exact .inr (.inr (.inl h))
      · exact .inr (.inl h)
      · exact .inr (.inr (.inr h))
end Go.Proofs.YtohalcookjbaaaaDoor
