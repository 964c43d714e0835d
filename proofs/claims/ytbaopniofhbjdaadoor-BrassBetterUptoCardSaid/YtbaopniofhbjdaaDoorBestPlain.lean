/-
  The nearest blow of a list, in plain numbers.
-/
import Derived.Test.YtbaopniofhbjdaaDoorBest1
import Derived.Test.YtbaopniofhbjdaaDoorOwnRows
namespace Go.Proofs.YtbaopniofhbjdaaDoor
open Go.RowKit

/-- The distance of a blow from an interval. -/
def distB {m Q : Nat} (base : V6) (f : Nat → Nat → Int) (n : Nat) (v : V6) (p : BlowIx m Q) : V6 := distV (soundV base f n (p.1.1 + 1) p.1.2) (atV v)
def okB {m Q : Nat} (base : V6) (f : Nat → Nat → Int) (n : Nat) (v : V6) (p : BlowIx m Q) : Bool := allIn (distB base f n v p) 576 6
/-- The better one of the best so far and the next. -/
def pickB {m Q : Nat} (base : V6) (f : Nat → Nat → Int) (n : Nat) (v : V6) (acc : Option (BlowIx m Q)) (p : BlowIx m Q) : Option (BlowIx m Q) := match acc with
  | none => some p
  | some q => if cmpP ((distB base f n v p).sub (distB base f n v q)) < 0 then some p else some q
def bestL {m Q : Nat} (base : V6) (f : Nat → Nat → Int) (n : Nat) (v : V6) (l : List (BlowIx m Q)) : Option (BlowIx m Q) := l.foldl (pickB base f n v) none
theorem bestL_snoc {m Q : Nat} (base : V6) (f : Nat → Nat → Int) (n : Nat) (v : V6) (l : List (BlowIx m Q)) (p : BlowIx m Q) : bestL base f n v (l ++ [p]) = pickB base f n v (bestL base f n v l) p := by simp [bestL]
theorem take_snoc {α : Type} {l : List α} {k : Nat} {p : α} (h : l[k]? = some p) : l.take (k + 1) = l.take k ++ [p] := by
  rw [List.take_add_one, h]; rfl
/-- The blow that a search returned: its numbers. -/
def accX {m Q : Nat} : Option (BlowIx m Q) → Int
  | none => 0
  | some p => (p.1.1 : Int) + 1
def accS {m Q : Nat} : Option (BlowIx m Q) → Int
  | none => 0
  | some p => (p.1.2 : Int)
def accV {m Q : Nat} (base : V6) (f : Nat → Nat → Int) (n : Nat) (v : V6) : Option (BlowIx m Q) → V6
  | none => ⟨0, 0, 0, 0, 0, 0⟩
  | some p => distB base f n v p
/-- What Best returns, of the list that Find returned. -/
def BestRes {m Q : Nat} (base : V6) (f : Nat → Nat → Int) (n : Nat) (v : V6) (l : List (BlowIx m Q)) (X S E : Int) : Prop :=
  (l = [] ∧ X = 0 ∧ S = 0 ∧ E = 4) ∨ (l ≠ [] ∧ (∃ p ∈ l, okB base f n v p = false) ∧ X = 0 ∧ S = 0 ∧ E = 3) ∨
  (l ≠ [] ∧ (∀ p ∈ l, okB base f n v p = true) ∧ X = accX (bestL base f n v l) ∧ S = accS (bestL base f n v l) ∧ E = 0)
theorem bestRes_is {m Q : Nat} (base : V6) (f : Nat → Nat → Int) (n : Nat) (v : V6) (l : List (BlowIx m Q)) : ∃ X S E, BestRes base f n v l X S E := by
  by_cases h : l = []
  · exact ⟨0, 0, 4, .inl ⟨h, rfl, rfl, rfl⟩⟩
  · by_cases h2 : ∃ p ∈ l, okB base f n v p = false
    · exact ⟨0, 0, 3, .inr (.inl ⟨h, h2, rfl, rfl, rfl⟩)⟩
    · refine ⟨_, _, 0, .inr (.inr ⟨h, fun p hp => ?_, rfl, rfl, rfl⟩)⟩
      cases e : okB base f n v p with
      | true => rfl
      | false => exact (h2 ⟨p, hp, e⟩).elim
theorem BestRes.bad {m Q : Nat} {base : V6} {f : Nat → Nat → Int} {n : Nat} {v : V6} {l : List (BlowIx m Q)} {X S E : Int} (h : BestRes base f n v l X S E) {p : BlowIx m Q} (hp : p ∈ l) (hb : okB base f n v p = false) : X = 0 ∧ S = 0 ∧ E = 3 := by
  rcases h with ⟨h, -⟩ | ⟨-, -, h1, h2, h3⟩ | ⟨-, h, -⟩
  · subst h; cases hp
  · exact ⟨h1, h2, h3⟩
  · rw [h p hp] at hb; cases hb
theorem BestRes.good {m Q : Nat} {base : V6} {f : Nat → Nat → Int} {n : Nat} {v : V6} {l : List (BlowIx m Q)} {X S E : Int} (h : BestRes base f n v l X S E) (hne : l ≠ []) (ha : ∀ p ∈ l, okB base f n v p = true) : X = accX (bestL base f n v l) ∧ S = accS (bestL base f n v l) ∧ E = 0 := by
  rcases h with ⟨h, -⟩ | ⟨-, ⟨p, hp, h⟩, -⟩ | ⟨-, -, h1, h2, h3⟩
  · exact (hne h).elim
  · rw [ha p hp] at h; cases h
  · exact ⟨h1, h2, h3⟩
theorem BestRes.empty {m Q : Nat} {base : V6} {f : Nat → Nat → Int} {n : Nat} {v : V6} {l : List (BlowIx m Q)} {X S E : Int} (h : BestRes base f n v l X S E) (he : l = []) : X = 0 ∧ S = 0 ∧ E = 4 := by
  rcases h with ⟨-, h⟩ | ⟨h, -⟩ | ⟨h, -⟩
  · exact h
  · exact (h he).elim
  · exact (h he).elim
/-- What the closure does with a blow. -/
theorem try_out {m Q : Nat} (base : V6) (f : Nat → Nat → Int) (n : Nat) (v : V6) (acc : Option (BlowIx m Q)) (p : BlowIx m Q) (C : Int) (hC : C = cmpP ((distB base f n v p).sub (accV base f n v acc))) :
    ((accX acc = 0 ∧ accS acc = 0 ∨ ¬ accX acc = 0 ∧ C < 0) ∧ pickB base f n v acc p = some p) ∨ (¬ accX acc = 0 ∧ ¬ C < 0 ∧ pickB base f n v acc p = acc) := by
  subst hC
  cases acc with
  | none => exact .inl ⟨.inl ⟨rfl, rfl⟩, rfl⟩
  | some q =>
    have hx : ¬ accX (some q) = 0 := by show ¬ (q.1.1 : Int) + 1 = 0; omega
    by_cases h : cmpP ((distB base f n v p).sub (distB base f n v q)) < 0
    · exact .inl ⟨.inr ⟨hx, h⟩, by simp [pickB, h]⟩
    · exact .inr ⟨hx, h, by simp [pickB, h]⟩
theorem bestL_mem {m Q : Nat} (base : V6) (f : Nat → Nat → Int) (n : Nat) (v : V6) (l : List (BlowIx m Q)) (q : BlowIx m Q) (h : bestL base f n v l = some q) : q ∈ l := by
  have key : ∀ (l : List (BlowIx m Q)) (acc : Option (BlowIx m Q)) q, l.foldl (pickB base f n v) acc = some q → acc = some q ∨ q ∈ l := by
    intro l
    induction l with
    | nil => intro acc q h; exact .inl h
    | cons p l ih =>
      intro acc q h
      rcases ih _ _ h with h | h
      · cases acc with
        | none => simp [pickB] at h; exact .inr (by simp [h])
        | some a =>
          simp only [pickB] at h
          split at h
          · cases h; exact .inr (by simp)
          · exact .inl h
      · exact .inr (List.mem_cons_of_mem _ h)
  rcases key l none q h with h | h
  · cases h
  · exact h
theorem accV_in {m Q : Nat} (base : V6) (f : Nat → Nat → Int) (n : Nat) (v : V6) (l : List (BlowIx m Q)) (h : ∀ p ∈ l, okB base f n v p = true) : allIn (accV base f n v (bestL base f n v l)) 576 6 = true := by
  cases e : bestL base f n v l with
  | none => exact (by decide +kernel : allIn ⟨0, 0, 0, 0, 0, 0⟩ 576 6 = true)
  | some q => exact h q (bestL_mem _ _ _ _ _ _ e)
end Go.Proofs.YtbaopniofhbjdaaDoor
