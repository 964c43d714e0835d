/-
  The list of blows that play an interval: its members and its order.
-/
import Derived.Test.YtbaopniofhbjdaaDoorBrassAll
namespace Go.Proofs.YtbaopniofhbjdaaDoor
open Go.RowKit

def ltB {m q : Nat} (a b : BlowIx m q) : Prop := a.1.1 < b.1.1 ∨ (a.1.1 = b.1.1 ∧ a.1.2 < b.1.2)
theorem rowTo_mem {m q i j : Nat} {p : BlowIx m q} (h : p ∈ rowTo m q i j) : p.1.1 = i ∧ p.1.2 < j := by
  induction j with
  | zero => simp [rowTo] at h
  | succ j ih =>
    by_cases e : i < m ∧ j < q
    · rw [rowTo_yes e] at h
      rcases List.mem_append.1 h with h | h
      · have := ih h; omega
      · obtain rfl := List.mem_singleton.1 h
        exact ⟨rfl, by show j < j + 1; omega⟩
    · rw [rowTo, dif_neg e, List.append_nil] at h
      have := ih h; omega
theorem blowsTo_mem {m q i : Nat} {p : BlowIx m q} (h : p ∈ blowsTo m q i) : p.1.1 < i := by
  induction i with
  | zero => simp [blowsTo] at h
  | succ i ih =>
    rw [blowsTo] at h
    rcases List.mem_append.1 h with h | h
    · have := ih h; omega
    · have := rowTo_mem h; omega
theorem rowTo_sorted (m q i j : Nat) : (rowTo m q i j).Pairwise ltB := by
  induction j with
  | zero => simp [rowTo]
  | succ j ih =>
    by_cases e : i < m ∧ j < q
    · rw [rowTo_yes e, List.pairwise_append]
      refine ⟨ih, by simp, fun a ha b hb => ?_⟩
      obtain rfl := List.mem_singleton.1 hb
      have := rowTo_mem ha
      exact .inr ⟨this.1, this.2⟩
    · rw [rowTo, dif_neg e, List.append_nil]; exact ih
theorem blowsTo_sorted (m q i : Nat) : (blowsTo m q i).Pairwise ltB := by
  induction i with
  | zero => simp [blowsTo]
  | succ i ih =>
    rw [blowsTo, List.pairwise_append]
    refine ⟨ih, rowTo_sorted _ _ _ _, fun a ha b hb => .inl ?_⟩
    have h1 := blowsTo_mem ha
    have h2 := rowTo_mem hb
    omega
theorem findAll_sorted (base : V6) (f : Nat → Nat → Int) (n : Nat) (most tol : Int) (v : V6) : (findAll base f n most tol v).Pairwise ltB := by
  rw [findAll]
  split
  · exact List.Pairwise.filter _ (blowsTo_sorted _ _ _)
  · exact List.Pairwise.nil
theorem mem_findAll {base : V6} {f : Nat → Nat → Int} {n : Nat} {most tol : Int} {v : V6} {p : BlowIx most.toNat (2 ^ n)} : p ∈ findAll base f n most tol v ↔ goodFV base f n most tol v = true ∧ playsB base f n tol v (p.1.1 + 1) p.1.2 = true := by
  rw [findAll]
  split
  · rename_i h
    rw [mem_findL]
    constructor
    · exact fun h' => ⟨h, h'.2⟩
    · obtain ⟨⟨i, j⟩, hi, hj⟩ := p
      exact fun h' => ⟨mem_blows ⟨hi, hj⟩ hi, h'.2⟩
  · rename_i h
    simp [h]
theorem blowF_0 {m q : Nat} {L : List (BlowIx m q)} {i : Nat} {p : BlowIx m q} (h : L[i]? = some p) : blowF L i 0 = (p.1.1 : Int) + 1 := pairF_0 h
theorem blowF_1 {m q : Nat} {L : List (BlowIx m q)} {i : Nat} {p : BlowIx m q} (h : L[i]? = some p) : blowF L i 1 = (p.1.2 : Int) := pairF_1 h
/-- A pair is in the list of a list's rows. -/
theorem hasL_iff {m q : Nat} (L : List (BlowIx m q)) (x s : Int) : hasR (blowF L) x s L.length = true ↔ ∃ p ∈ L, (p.1.1 : Int) + 1 = x ∧ (p.1.2 : Int) = s := by
  rw [hasR_iff]
  constructor
  · rintro ⟨i, hi, h1, h2⟩
    have e := List.getElem?_eq_getElem hi
    refine ⟨L[i], List.getElem_mem hi, ?_, ?_⟩
    · rw [← h1]; exact (blowF_0 e).symm
    · rw [← h2]; exact (blowF_1 e).symm
  · rintro ⟨p, hp, h1, h2⟩
    obtain ⟨i, hi, rfl⟩ := List.getElem_of_mem hp
    have e := List.getElem?_eq_getElem hi
    exact ⟨i, hi, (blowF_0 e).trans h1, (blowF_1 e).trans h2⟩
theorem hasAll_iff (base : V6) (f : Nat → Nat → Int) (n : Nat) (most tol : Int) (v : V6) (x s : Int) : hasR (blowF (findAll base f n most tol v)) x s (findAll base f n most tol v).length = true ↔ goodFV base f n most tol v = true ∧ isBlow n most x s ∧ playsB base f n tol v x.toNat s.toNat = true := by
  rw [hasL_iff]
  constructor
  · rintro ⟨⟨⟨i, j⟩, hi, hj⟩, hp, h1, h2⟩
    obtain ⟨h3, h4⟩ := mem_findAll.1 hp
    dsimp only at h1 h2 h4 hi hj
    refine ⟨h3, ⟨by omega, by omega, by omega, by omega⟩, ?_⟩
    rw [show x.toNat = i + 1 by omega, show s.toNat = j by omega]
    exact h4
  · rintro ⟨h1, ⟨h2, h3, h4, h5⟩, h6⟩
    refine ⟨⟨(x.toNat - 1, s.toNat), by omega, by omega⟩, mem_findAll.2 ⟨h1, ?_⟩, ?_, ?_⟩
    · dsimp only
      rw [show x.toNat - 1 + 1 = x.toNat by omega]; exact h6
    · dsimp only; omega
    · dsimp only; omega
theorem blowF_sorted {m q : Nat} {L : List (BlowIx m q)} (h : L.Pairwise ltB) (k : Nat) (hk : k + 1 < L.length) : blowF L k 0 < blowF L (k + 1) 0 ∨ (blowF L k 0 = blowF L (k + 1) 0 ∧ blowF L k 1 < blowF L (k + 1) 1) := by
  have e1 := List.getElem?_eq_getElem (show k < L.length by omega)
  have e2 := List.getElem?_eq_getElem hk
  have hp := List.pairwise_iff_getElem.1 h k (k + 1) (by omega) hk (by omega)
  have a0 : blowF L k 0 = (L[k].1.1 : Int) + 1 := blowF_0 e1
  have a1 : blowF L k 1 = (L[k].1.2 : Int) := blowF_1 e1
  have b0 : blowF L (k + 1) 0 = (L[k + 1].1.1 : Int) + 1 := blowF_0 e2
  have b1 : blowF L (k + 1) 1 = (L[k + 1].1.2 : Int) := blowF_1 e2
  rw [a0, a1, b0, b1]
  rcases hp with hp | hp <;> omega
theorem findAll_len {base : V6} {f : Nat → Nat → Int} {n : Nat} {most tol : Int} {v : V6} : (findAll base f n most tol v).length ≤ 9223372036854775807 := by
  cases hg : goodFV base f n most tol v with
  | false => rw [findAll_no hg]; simp
  | true =>
    rw [findAll_yes hg]
    simp only [goodFV, Bool.and_eq_true] at hg
    have h1 := List.length_filter_le (fun p : BlowIx most.toNat (2 ^ n) => playsB base f n tol v (p.1.1 + 1) p.1.2) (blowsTo most.toNat (2 ^ n) most.toNat)
    have h2 := blowsTo_len most.toNat (2 ^ n) most.toNat
    obtain ⟨-, hn4, -, hm16, -, -, -⟩ := hornOk_parts hg.1
    have h3 : 2 ^ n ≤ 16 := Nat.pow_le_pow_right (by omega) hn4
    have h4 : most.toNat * 2 ^ n ≤ 16 * 16 := Nat.mul_le_mul (by omega) h3
    unfold findL
    omega
theorem playsB_near {base : V6} {f : Nat → Nat → Int} {n : Nat} {tol : Int} {v : V6} {x s : Nat} (h : allIn (soundV base f n x s) 576 6 = true) : playsB base f n tol v x s = (surelyI (sumLo ((atV v).sub (soundV base f n x s)) 6) (sumHi ((atV v).sub (soundV base f n x s)) 6) (-10000 * tol) (10000 * tol) == 1) := by
  simp [playsB, h]
theorem allIn_mk {v : V6} {b : Int} (h : ∀ k, k < 6 → -b ≤ v.get k ∧ v.get k ≤ b) : allIn v b 6 = true := by
  have h0 := h 0 (by omega); have h1 := h 1 (by omega); have h2 := h 2 (by omega); have h3 := h 3 (by omega); have h4 := h 4 (by omega); have h5 := h 5 (by omega)
  simp [allIn, h0, h1, h2, h3, h4, h5]
end Go.Proofs.YtbaopniofhbjdaaDoor
