/-
  Necks: when one is valid, and what a fret sounds (plain words).
-/
import Derived.Test.YtohalcookjbaaaaDoorRowsAt
import Derived.Test.YtohalcookjbaaaaDoorPCmp
import Derived.Test.YtohalcookjbaaaaDoorNear
namespace Go.Proofs.YtohalcookjbaaaaDoor
open Go.RowKit

/-- Row k of a list of pitches. -/
def rowV (f : Nat → Nat → Int) (k : Nat) : V6 := ⟨f k 0, f k 1, f k 2, f k 3, f k 4, f k 5⟩
/-- The pitch before fret k. -/
def lastV (q : Nat → Nat → Int) : Nat → V6
  | 0 => ⟨0, 0, 0, 0, 0, 0⟩
  | k + 1 => rowV q k
/-- The first k frets are valid and rise. -/
def risesB (q : Nat → Nat → Int) : Nat → Bool
  | 0 => true
  | k + 1 => risesB q k && (allIn (rowV q k) 576 6 && decide (0 < cmpP ((rowV q k).sub (lastV q k))))
/-- The first k frets can be played on a string. -/
def fitsB (p : V6) (q : Nat → Nat → Int) : Nat → Bool
  | 0 => true
  | k + 1 => fitsB p q k && allIn (p.add (rowV q k)) 576 6
/-- The first s strings are valid. -/
def opensB (o q : Nat → Nat → Int) (nf : Nat) : Nat → Bool
  | 0 => true
  | s + 1 => opensB o q nf s && (allIn (rowV o s) 576 6 && fitsB (rowV o s) q nf)
def limB (no nf : Nat) (sp tl : Int) : Bool := decide (1 ≤ no ∧ no ≤ 8 ∧ nf ≤ 36 ∧ 0 ≤ sp ∧ sp ≤ 36 ∧ 0 ≤ tl ∧ tl ≤ 50000)
/-- Whether a neck is valid. -/
def neckB (no : Nat) (o : Nat → Nat → Int) (nf : Nat) (q : Nat → Nat → Int) (sp tl : Int) : Bool := limB no nf sp tl && (risesB q nf && opensB o q nf no)

theorem risesB_at {q : Nat → Nat → Int} {n : Nat} (h : risesB q n = true) {k : Nat} (hk : k < n) : allIn (rowV q k) 576 6 = true ∧ 0 < cmpP ((rowV q k).sub (lastV q k)) := by
  induction n with
  | zero => omega
  | succ n ih =>
    simp only [risesB, Bool.and_eq_true, decide_eq_true_eq] at h
    by_cases e : k = n
    · subst e; exact h.2
    · exact ih h.1 (by omega)
theorem risesB_le {q : Nat → Nat → Int} {n : Nat} (h : risesB q n = true) {k : Nat} (hk : k ≤ n) : risesB q k = true := by
  induction n with
  | zero => obtain rfl : k = 0 := by omega
            rfl
  | succ n ih =>
    by_cases e : k = n + 1
    · subst e; exact h
    · simp only [risesB, Bool.and_eq_true] at h
      exact ih h.1 (by omega)
theorem risesB_no {q : Nat → Nat → Int} {n k : Nat} (hk : k < n) (h : allIn (rowV q k) 576 6 = false ∨ ¬ 0 < cmpP ((rowV q k).sub (lastV q k))) : risesB q n = false := by
  cases e : risesB q n with
  | false => rfl
  | true =>
    obtain ⟨h1, h2⟩ := risesB_at e hk
    rcases h with h | h
    · rw [h1] at h; cases h
    · exact (h h2).elim
theorem risesB_next {q : Nat → Nat → Int} {n : Nat} (h : risesB q n = true) (h1 : allIn (rowV q n) 576 6 = true) (h2 : 0 < cmpP ((rowV q n).sub (lastV q n))) : risesB q (n + 1) = true := by
  simp only [risesB, h, h1, decide_eq_true h2, Bool.and_self]
theorem lastV_in {q : Nat → Nat → Int} {n : Nat} (h : risesB q n = true) {k : Nat} (hk : k ≤ n) : allIn (lastV q k) 576 6 = true := by
  cases k with
  | zero => rfl
  | succ k => exact (risesB_at h (by omega)).1
theorem fitsB_at {p : V6} {q : Nat → Nat → Int} {n : Nat} (h : fitsB p q n = true) {k : Nat} (hk : k < n) : allIn (p.add (rowV q k)) 576 6 = true := by
  induction n with
  | zero => omega
  | succ n ih =>
    simp only [fitsB, Bool.and_eq_true] at h
    by_cases e : k = n
    · subst e; exact h.2
    · exact ih h.1 (by omega)
theorem fitsB_no {p : V6} {q : Nat → Nat → Int} {n k : Nat} (hk : k < n) (h : allIn (p.add (rowV q k)) 576 6 = false) : fitsB p q n = false := by
  cases e : fitsB p q n with
  | false => rfl
  | true => rw [fitsB_at e hk] at h; cases h
theorem opensB_at {o q : Nat → Nat → Int} {nf n : Nat} (h : opensB o q nf n = true) {s : Nat} (hs : s < n) : allIn (rowV o s) 576 6 = true ∧ fitsB (rowV o s) q nf = true := by
  induction n with
  | zero => omega
  | succ n ih =>
    simp only [opensB, Bool.and_eq_true] at h
    by_cases e : s = n
    · subst e; exact h.2
    · exact ih h.1 (by omega)
theorem opensB_no {o q : Nat → Nat → Int} {nf n s : Nat} (hs : s < n) (h : allIn (rowV o s) 576 6 = false ∨ fitsB (rowV o s) q nf = false) : opensB o q nf n = false := by
  cases e : opensB o q nf n with
  | false => rfl
  | true =>
    obtain ⟨h1, h2⟩ := opensB_at e hs
    rcases h with h | h
    · rw [h1] at h; cases h
    · rw [h2] at h; cases h
theorem opensB_next {o q : Nat → Nat → Int} {nf n : Nat} (h : opensB o q nf n = true) (h1 : allIn (rowV o n) 576 6 = true) (h2 : fitsB (rowV o n) q nf = true) : opensB o q nf (n + 1) = true := by
  simp only [opensB, h, h1, h2, Bool.and_self]
theorem neckB_parts {no nf : Nat} {o q : Nat → Nat → Int} {sp tl : Int} (h : neckB no o nf q sp tl = true) : (1 ≤ no ∧ no ≤ 8 ∧ nf ≤ 36 ∧ 0 ≤ sp ∧ sp ≤ 36 ∧ 0 ≤ tl ∧ tl ≤ 50000) ∧ risesB q nf = true ∧ opensB o q nf no = true := by
  simp only [neckB, limB, Bool.and_eq_true, decide_eq_true_eq] at h
  exact h
theorem neckB_lim {no nf : Nat} {o q : Nat → Nat → Int} {sp tl : Int} (h : ¬ (1 ≤ no ∧ no ≤ 8 ∧ nf ≤ 36 ∧ 0 ≤ sp ∧ sp ≤ 36 ∧ 0 ≤ tl ∧ tl ≤ 50000)) : neckB no o nf q sp tl = false := by
  unfold neckB limB; rw [decide_eq_false h, Bool.false_and]
theorem neckB_in {no nf : Nat} {o q : Nat → Nat → Int} {sp tl : Int} (h : 1 ≤ no ∧ no ≤ 8 ∧ nf ≤ 36 ∧ 0 ≤ sp ∧ sp ≤ 36 ∧ 0 ≤ tl ∧ tl ≤ 50000) : neckB no o nf q sp tl = (risesB q nf && opensB o q nf no) := by
  unfold neckB limB; rw [decide_eq_true h, Bool.true_and]

/-- What string s sounds at fret k. -/
def soundF (o q : Nat → Nat → Int) (s : Nat) : Nat → V6
  | 0 => rowV o s
  | k + 1 => (rowV o s).add (rowV q k)
theorem soundF_in {no nf : Nat} {o q : Nat → Nat → Int} {sp tl : Int} (h : neckB no o nf q sp tl = true) {s k : Nat} (hs : s < no) (hk : k ≤ nf) : allIn (soundF o q s k) 576 6 = true := by
  obtain ⟨-, -, h3⟩ := neckB_parts h
  obtain ⟨h4, h5⟩ := opensB_at h3 hs
  cases k with
  | zero => exact h4
  | succ k => exact fitsB_at h5 (by omega)
/-- An interval as a pitch. -/
def atV (v : V6) : V6 := ⟨v.x0 * 12, v.x1 * 12, v.x2 * 12, v.x3 * 12, v.x4 * 12, v.x5 * 12⟩
theorem atV_in {v : V6} (h : allIn v 48 6 = true) : allIn (atV v) 576 6 = true := by
  obtain ⟨x0, x1, x2, x3, x4, x5⟩ := v
  simp only [atV, allIn, V6.get, Bool.and_eq_true, decide_eq_true_eq] at h ⊢
  repeat' apply And.intro
  all_goals first | rfl | omega | trivial
def nearB (u v : V6) (tl : Int) : Bool := decide (surelyI (sumLo (u.sub v) 6) (sumHi (u.sub v) 6) (-10000 * tl) (10000 * tl) = 1)
/-- Whether a fret plays an interval. -/
def playsF (o q : Nat → Nat → Int) (tl : Int) (v : V6) (s k : Nat) : Bool := nearB (atV v) (soundF o q s k) tl

/-- The frets of string s below k that P picks. -/
def onS (P : Nat → Nat → Bool) (s : Nat) : Nat → List (Nat × Nat)
  | 0 => []
  | k + 1 => onS P s k ++ (if P s k then [(s, k)] else [])
/-- The frets of the strings below s that P picks. -/
def onAll (P : Nat → Nat → Bool) (m : Nat) : Nat → List (Nat × Nat)
  | 0 => []
  | s + 1 => onAll P m s ++ onS P s m
def findF (no : Nat) (o : Nat → Nat → Int) (nf : Nat) (q : Nat → Nat → Int) (tl : Int) (v : V6) : List (Nat × Nat) := onAll (playsF o q tl v) (nf + 1) no
theorem mem_onS {P : Nat → Nat → Bool} {s : Nat} : ∀ {m : Nat} {x : Nat × Nat}, x ∈ onS P s m ↔ x.1 = s ∧ x.2 < m ∧ P s x.2 = true
  | 0, x => by simp [onS]
  | m + 1, x => by
    have ih := mem_onS (P := P) (s := s) (m := m) (x := x)
    obtain ⟨a, b⟩ := x
    simp only [onS, List.mem_append, ih]
    cases hp : P s m with
    | true =>
      simp only [if_true, List.mem_singleton, Prod.mk.injEq]
      constructor
      · rintro (⟨h1, h2, h3⟩ | ⟨h1, h2⟩)
        · exact ⟨h1, by omega, h3⟩
        · subst h2; exact ⟨h1, by omega, hp⟩
      · rintro ⟨h1, h2, h3⟩
        by_cases e : b = m
        · exact .inr ⟨h1, e⟩
        · exact .inl ⟨h1, by omega, h3⟩
    | false =>
      simp only [Bool.false_eq_true, if_false, List.not_mem_nil, or_false]
      constructor
      · rintro ⟨h1, h2, h3⟩; exact ⟨h1, by omega, h3⟩
      · rintro ⟨h1, h2, h3⟩
        refine ⟨h1, ?_, h3⟩
        rcases Nat.lt_or_ge b m with e | e
        · exact e
        · obtain rfl : b = m := by omega
          rw [hp] at h3; cases h3
theorem mem_onAll {P : Nat → Nat → Bool} {m : Nat} : ∀ {n : Nat} {x : Nat × Nat}, x ∈ onAll P m n ↔ x.1 < n ∧ x.2 < m ∧ P x.1 x.2 = true
  | 0, x => by simp [onAll]
  | n + 1, x => by
    have ih := mem_onAll (P := P) (m := m) (n := n) (x := x)
    simp only [onAll, List.mem_append, ih, mem_onS]
    constructor
    · rintro (⟨h1, h2, h3⟩ | ⟨h1, h2, h3⟩)
      · exact ⟨by omega, h2, h3⟩
      · exact ⟨by omega, h2, by rw [h1]; exact h3⟩
    · rintro ⟨h1, h2, h3⟩
      by_cases e : x.1 = n
      · exact .inr ⟨e, h2, by rw [← e]; exact h3⟩
      · exact .inl ⟨by omega, h2, h3⟩
theorem onS_len (P : Nat → Nat → Bool) (s : Nat) : ∀ m, (onS P s m).length ≤ m
  | 0 => by simp [onS]
  | m + 1 => by
    have := onS_len P s m
    simp only [onS, List.length_append]
    split <;> simp <;> omega
theorem onAll_len (P : Nat → Nat → Bool) (m : Nat) : ∀ n, (onAll P m n).length ≤ n * m
  | 0 => by simp [onAll]
  | n + 1 => by
    have := onAll_len P m n
    have := onS_len P n m
    simp only [onAll, List.length_append, Nat.succ_mul]
    omega
/-- A list of pairs of numbers, as rows. -/
def frF (l : List (Nat × Nat)) (i j : Nat) : Int := if j = 0 then ((l.getD i (0, 0)).1 : Int) else ((l.getD i (0, 0)).2 : Int)
def frCells (l : List (Nat × Nat)) : List Value := l.flatMap fun p => [.int .i64 (p.1 : Int), .int .i64 (p.2 : Int)]
theorem frCells_snoc (l : List (Nat × Nat)) (p : Nat × Nat) : frCells (l ++ [p]) = frCells l ++ [.int .i64 (p.1 : Int), .int .i64 (p.2 : Int)] := by simp [frCells]
theorem frCells_len (l : List (Nat × Nat)) : (frCells l).length = l.length * 2 := by
  induction l with
  | nil => rfl
  | cons p l ih => simp only [frCells, List.flatMap_cons, List.length_append] at ih ⊢; simp at ih ⊢; omega
theorem frCells_at : ∀ (l : List (Nat × Nat)) (i j : Nat), i < l.length → j < 2 → (frCells l)[i * 2 + j]? = some (.int .i64 (frF l i j))
  | [], i, j, h, _ => by simp at h
  | p :: l, 0, j, _, hj => by
    obtain rfl | rfl : j = 0 ∨ j = 1 := by omega
    · rfl
    · rfl
  | p :: l, i + 1, j, h, hj => by
    have ih := frCells_at l i j (by simpa using h) hj
    have e : frCells (p :: l) = [.int .i64 (p.1 : Int), .int .i64 (p.2 : Int)] ++ frCells l := rfl
    rw [e, List.getElem?_append_right (by simp; omega), show (i + 1) * 2 + j - [Value.int .i64 (p.1 : Int), .int .i64 (p.2 : Int)].length = i * 2 + j by simp; omega, ih]
    simp [frF]
end Go.Proofs.YtohalcookjbaaaaDoor
