/-
  Determinants by expansion: exchanged rows, equal rows, sums of rows; independent rows.
  Chapter 25 in plain words: accounts and shifts, joined, repeated and exchanged takes.
-/
import Derived.Test.YtelhmdhhabgihaaGreatDoorMnX
import Derived.Test.YtelhmdhhabgihaaGreatDoorD12
namespace Go.Proofs.YtelhmdhhabgihaaGreatDoor
open Go.RowKit

/-- The sum of the first n values. -/
def sumN (h : Nat → Int) : Nat → Int
  | 0 => 0
  | n + 1 => sumN h n + h n
theorem sumN_congr {h g : Nat → Int} : ∀ n, (∀ k, k < n → h k = g k) → sumN h n = sumN g n := by
  intro n
  induction n with
  | zero => intro _; rfl
  | succ n ih => intro e; simp only [sumN]; rw [ih (fun k hk => e k (by omega)), e n (by omega)]
theorem sumN_zero (n : Nat) : sumN (fun _ => 0) n = 0 := by
  induction n with
  | zero => rfl
  | succ n ih => simp only [sumN]; rw [ih]; rfl
theorem sumN_add (h g : Nat → Int) (n : Nat) : sumN (fun k => h k + g k) n = sumN h n + sumN g n := by
  induction n with
  | zero => rfl
  | succ n ih => simp only [sumN]; rw [ih]; omega
theorem sumN_neg (h : Nat → Int) (n : Nat) : sumN (fun k => -h k) n = -sumN h n := by
  induction n with
  | zero => rfl
  | succ n ih => simp only [sumN]; rw [ih]; omega
theorem sumN_mul (a : Int) (h : Nat → Int) (n : Nat) : sumN (fun k => a * h k) n = a * sumN h n := by
  induction n with
  | zero => simp [sumN]
  | succ n ih => simp only [sumN]; rw [ih, Int.mul_add]
theorem sumN_swap (g : Nat → Nat → Int) (m n : Nat) : sumN (fun k => sumN (fun l => g k l) m) n = sumN (fun l => sumN (fun k => g k l) n) m := by
  induction n with
  | zero => simp only [sumN]; rw [sumN_zero]
  | succ n ih => simp only [sumN]; rw [ih, sumN_add]
/-- The sign of the next column. -/
def sgU (U : Nat → Bool) : Nat → Int
  | 0 => 1
  | k + 1 => if U k then sgU U k else -sgU U k
theorem dsum_snd (x : Nat → Int) (D : (Nat → Bool) → Int) (U : Nat → Bool) (k : Nat) : (dsum x D U k).2 = sgU U k := by
  induction k with
  | zero => rfl
  | succ k ih =>
    cases h : U k with
    | true => rw [dsum_used h, ih, sgU, if_pos h]
    | false => rw [dsum_free h, sgU, if_neg (by simp [h]), ← ih]
theorem dsum_fst (x : Nat → Int) (D : (Nat → Bool) → Int) (U : Nat → Bool) (n : Nat) : (dsum x D U n).1 = sumN (fun k => if U k then 0 else sgU U k * x k * D (updB U k true)) n := by
  induction n with
  | zero => rfl
  | succ k ih =>
    simp only [sumN]
    cases h : U k with
    | true => rw [dsum_used h, ih, if_pos rfl]; omega
    | false => rw [dsum_free h, ih, if_neg (by simp), dsum_snd]
theorem updB_same (U : Nat → Bool) (k : Nat) (b : Bool) : updB U k b k = b := by simp [updB]
theorem updB_ne (U : Nat → Bool) {k j : Nat} (b : Bool) (h : j ≠ k) : updB U k b j = U j := by simp [updB, h]
theorem updB_comm (U : Nat → Bool) (k l : Nat) : updB (updB U k true) l true = updB (updB U l true) k true := by
  funext j
  simp only [updB]
  by_cases a : j = k <;> by_cases b : j = l <;> simp [a, b]
theorem sgU_upd {U : Nat → Bool} {k : Nat} (h : U k = false) (l : Nat) : sgU (updB U k true) l = if k < l then -sgU U l else sgU U l := by
  induction l with
  | zero => rw [if_neg (by omega)]; rfl
  | succ l ih =>
    rw [sgU]
    by_cases e : l = k
    · subst e
      rw [updB_same, if_pos rfl, ih, if_neg (by omega), if_pos (by omega), sgU, if_neg (by simp [h])]
      omega
    · rw [updB_ne U true e, ih, sgU]
      by_cases c : k < l
      · have c2 : k < l + 1 := by omega
        rw [if_pos c, if_pos c2]
        cases U l <;> simp
      · have c2 : ¬ k < l + 1 := by omega
        rw [if_neg c, if_neg c2]
theorem detW_cons (f : Nat → Nat → Int) (js : List Nat) (i : Nat) (is : List Nat) (U : Nat → Bool) : detW f js (i :: is) U = sumN (fun k => if U k then 0 else sgU U k * f i (js.getD k 0) * detW f js is (updB U k true)) js.length := by
  rw [detW, dsum_fst]
/-- What two columns bring. -/
def twoC (M : (Nat → Bool) → Int) (U : Nat → Bool) (k l : Nat) : Int := if U k then 0 else if updB U k true l then 0 else sgU U k * sgU (updB U k true) l * M (updB (updB U k true) l true)
theorem twoC_anti (M : (Nat → Bool) → Int) (U : Nat → Bool) (k l : Nat) : twoC M U k l + twoC M U l k = 0 := by
  unfold twoC
  by_cases e : k = l
  · subst e
    rw [updB_same]
    cases U k <;> simp
  · have e' : l ≠ k := fun h => e h.symm
    rw [updB_ne U true e, updB_ne U true e']
    cases hk : U k with
    | true => simp
    | false =>
      cases hl : U l with
      | true => simp
      | false =>
        simp only [Bool.false_eq_true, if_false]
        rw [sgU_upd hk, sgU_upd hl, updB_comm U k l]
        by_cases c : k < l
        · rw [if_pos c, if_neg (by omega)]; grind
        · rw [if_neg c, if_pos (by omega)]; grind
theorem detW_two (f : Nat → Nat → Int) (js : List Nat) (i i' : Nat) (is : List Nat) (U : Nat → Bool) : detW f js (i :: i' :: is) U = sumN (fun k => sumN (fun l => twoC (detW f js is) U k l * (f i (js.getD k 0) * f i' (js.getD l 0))) js.length) js.length := by
  rw [detW_cons]
  apply sumN_congr
  intro k _
  cases hk : U k with
  | true =>
    rw [if_pos rfl]
    rw [← sumN_zero js.length]
    apply sumN_congr
    intro l _
    unfold twoC
    rw [if_pos hk]; simp
  | false =>
    rw [if_neg (by simp), detW_cons, ← sumN_mul]
    apply sumN_congr
    intro l _
    unfold twoC
    rw [hk]
    generalize updB U k true l = y
    cases y with
    | true => simp
    | false => simp only [Bool.false_eq_true, if_false]; grind
theorem detW_swap2 (f : Nat → Nat → Int) (js : List Nat) (i i' : Nat) (is : List Nat) (U : Nat → Bool) : detW f js (i :: i' :: is) U = -detW f js (i' :: i :: is) U := by
  rw [detW_two, detW_two, sumN_swap, ← sumN_neg]
  apply sumN_congr
  intro k _
  rw [← sumN_neg]
  apply sumN_congr
  intro l _
  have h := twoC_anti (detW f js is) U k l
  have h2 : twoC (detW f js is) U l k = -twoC (detW f js is) U k l := by omega
  rw [h2]; grind
theorem detW_perm {f : Nat → Nat → Int} {js : List Nat} {is is' : List Nat} (h : is.Perm is') : (∀ U, detW f js is U = detW f js is' U) ∨ (∀ U, detW f js is U = -detW f js is' U) := by
  induction h with
  | nil => exact .inl fun _ => rfl
  | cons i _ ih =>
    rcases ih with ih | ih
    · refine .inl fun U => ?_
      rw [detW_cons, detW_cons]
      exact sumN_congr _ fun k _ => by rw [ih]
    · refine .inr fun U => ?_
      rw [detW_cons, detW_cons, ← sumN_neg]
      exact sumN_congr _ fun k _ => by
        rw [ih]
        cases U k with
        | true => simp
        | false => simp only [Bool.false_eq_true, if_false]; grind
  | swap i j l => exact .inr fun U => detW_swap2 _ _ _ _ _ _
  | trans _ _ h1 h2 =>
    rcases h1 with h1 | h1 <;> rcases h2 with h2 | h2
    · exact .inl fun U => by rw [h1, h2]
    · exact .inr fun U => by rw [h1, h2]
    · exact .inr fun U => by rw [h1, h2]
    · exact .inl fun U => by rw [h1, h2]; omega
theorem detW_twice {f : Nat → Nat → Int} {js : List Nat} {is : List Nat} (h : ¬ is.Nodup) (U : Nat → Bool) : detW f js is U = 0 := by
  induction is generalizing U with
  | nil => exact absurd List.nodup_nil h
  | cons i is ih =>
    by_cases hm : i ∈ is
    · have hp : (i :: is).Perm (i :: i :: is.erase i) := List.Perm.cons i (List.perm_cons_erase hm)
      have h0 := detW_swap2 f js i i (is.erase i) U
      rcases detW_perm (f := f) (js := js) hp with e | e
      · rw [e]; omega
      · rw [e]; omega
    · have hn : ¬ is.Nodup := fun hh => h (List.nodup_cons.2 ⟨hm, hh⟩)
      rw [detW_cons]
      exact (sumN_congr (g := fun _ => 0) _ fun k _ => by rw [ih hn, Int.mul_zero, ite_self]).trans (sumN_zero _)
theorem perm_range : ∀ (n : Nat) (l : List Nat), l.Nodup → (∀ i ∈ l, i < n) → l.length ≤ n ∧ (l.length = n → l.Perm (List.range n)) := by
  intro n
  induction n with
  | zero =>
    intro l _ h
    have : l = [] := by
      cases l with
      | nil => rfl
      | cons a l => exact absurd (h a (by simp)) (by omega)
    subst this
    simp
  | succ n ih =>
    intro l hd h
    by_cases hm : n ∈ l
    · have hp := List.perm_cons_erase hm
      have hd2 : (l.erase n).Nodup := hd.erase n
      have h2 : ∀ i ∈ l.erase n, i < n := by
        intro i hi
        have a := (hd.mem_erase_iff).1 hi
        have := h i a.2
        omega
      have hl := hp.length_eq
      simp only [List.length_cons] at hl
      obtain ⟨i1, i2⟩ := ih _ hd2 h2
      refine ⟨by omega, fun hlen => ?_⟩
      have i3 := i2 (by omega)
      rw [List.range_succ]
      exact hp.trans ((List.Perm.cons n i3).trans (List.perm_append_comm (l₁ := [n]) (l₂ := List.range n)))
    · obtain ⟨i1, i2⟩ := ih l hd (fun i hi => by
        have := h i hi
        have : i ≠ n := fun e => hm (e ▸ hi)
        omega)
      exact ⟨by omega, fun hlen => by omega⟩
/-- Row i replaced. -/
def updRow (f : Nat → Nat → Int) (i : Nat) (v : Nat → Int) : Nat → Nat → Int := fun k => if k = i then v else f k
theorem updRow_same (f : Nat → Nat → Int) (i : Nat) (v : Nat → Int) : updRow f i v i = v := by simp [updRow]
theorem updRow_ne (f : Nat → Nat → Int) {i k : Nat} (v : Nat → Int) (h : k ≠ i) : updRow f i v k = f k := by simp [updRow, h]
theorem detW_congr {f g : Nat → Nat → Int} {js : List Nat} : ∀ {is : List Nat}, (∀ i ∈ is, ∀ k, k < js.length → f i (js.getD k 0) = g i (js.getD k 0)) → ∀ U, detW f js is U = detW g js is U
  | [], _, _ => rfl
  | i :: is, h, U => by
    rw [detW_cons, detW_cons]
    exact sumN_congr _ fun k hk => by
      rw [h i (by simp) k hk, detW_congr (is := is) (fun i' hi' => h i' (by simp [hi']))]
theorem detW_skip {f : Nat → Nat → Int} {js is : List Nat} {i : Nat} (v : Nat → Int) (h : i ∉ is) (U : Nat → Bool) : detW (updRow f i v) js is U = detW f js is U := by
  refine detW_congr (fun k hk c _ => ?_) U
  have hne : k ≠ i := fun e => h (by rw [← e]; exact hk)
  rw [updRow_ne f v hne]
theorem detW_lin (f : Nat → Nat → Int) (js : List Nat) (i : Nat) (v u z : Nat → Int) (a b : Int) (hv : ∀ k, k < js.length → v (js.getD k 0) = a * u (js.getD k 0) + b * z (js.getD k 0)) (post : List Nat) (hq : i ∉ post) :
    ∀ (pre : List Nat), i ∉ pre → ∀ U, detW (updRow f i v) js (pre ++ i :: post) U = a * detW (updRow f i u) js (pre ++ i :: post) U + b * detW (updRow f i z) js (pre ++ i :: post) U := by
  intro pre
  induction pre with
  | nil =>
    intro _ U
    simp only [List.nil_append]
    rw [detW_cons, detW_cons, detW_cons, ← sumN_mul, ← sumN_mul, ← sumN_add]
    refine sumN_congr _ fun k hk => ?_
    rw [updRow_same, updRow_same, updRow_same, hv k hk, detW_skip v hq, detW_skip u hq, detW_skip z hq]
    cases U k with
    | true => simp
    | false => simp only [Bool.false_eq_true, if_false]; grind
  | cons p pre ih =>
    intro hp U
    have hne : p ≠ i := fun e => hp (by simp [e])
    have ihp := ih (fun e => hp (by simp [e]))
    simp only [List.cons_append]
    rw [detW_cons, detW_cons, detW_cons, ← sumN_mul, ← sumN_mul, ← sumN_add]
    refine sumN_congr _ fun k hk => ?_
    rw [updRow_ne f v hne, updRow_ne f u hne, updRow_ne f z hne, ihp]
    cases U k with
    | true => simp
    | false => simp only [Bool.false_eq_true, if_false]; grind
theorem detW_move (f : Nat → Nat → Int) (js : List Nat) (i j : Nat) (post : List Nat) (hq : i ∉ post) : ∀ (pre : List Nat), i ∉ pre → ∀ U, detW (updRow f i (f j)) js (pre ++ i :: post) U = detW f js (pre ++ j :: post) U := by
  intro pre
  induction pre with
  | nil =>
    intro _ U
    simp only [List.nil_append]
    rw [detW_cons, detW_cons]
    exact sumN_congr _ fun k hk => by rw [updRow_same, detW_skip _ hq]
  | cons p pre ih =>
    intro hp U
    have hne : p ≠ i := fun e => hp (by simp [e])
    have ihp := ih (fun e => hp (by simp [e]))
    simp only [List.cons_append]
    rw [detW_cons, detW_cons]
    exact sumN_congr _ fun k hk => by rw [updRow_ne _ _ hne, ihp]
/-- The sum of the first n rows, each so many times. -/
def rowSum (f : Nat → Nat → Int) (a : Nat → Int) (n : Nat) (c : Nat) : Int := sumN (fun j => a j * f j c) n
theorem range_split {n i : Nat} (h : i < n) : ∃ pre post : List Nat, List.range n = pre ++ i :: post ∧ i ∉ pre ∧ i ∉ post ∧ ∀ m, m < n → m ≠ i → m ∈ pre ∨ m ∈ post := by
  obtain ⟨pre, post, e⟩ := List.append_of_mem (List.mem_range.2 h)
  have hd : (List.range n).Nodup := List.nodup_range
  rw [e] at hd
  rw [List.nodup_append] at hd
  obtain ⟨h1, h2, h3⟩ := hd
  rw [List.nodup_cons] at h2
  refine ⟨pre, post, e, fun hm => h3 i hm i (by simp) rfl, h2.1, fun m hm hne => ?_⟩
  have : m ∈ pre ++ i :: post := by rw [← e]; exact List.mem_range.2 hm
  simp only [List.mem_append, List.mem_cons] at this
  rcases this with h | h | h
  · exact .inl h
  · exact absurd h hne
  · exact .inr h
/-- Cramer: the row i replaced by a sum of rows. -/
theorem detW_cramer (f : Nat → Nat → Int) (js : List Nat) (a : Nat → Int) {n i : Nat} (hi : i < n) (U : Nat → Bool) : ∀ m, m ≤ n → detW (updRow f i (rowSum f a m)) js (List.range n) U = if i < m then a i * detW f js (List.range n) U else 0 := by
  obtain ⟨pre, post, e, h1, h2, h3⟩ := range_split hi
  intro m
  induction m with
  | zero =>
    intro _
    rw [if_neg (by omega), e]
    have := detW_lin f js i (rowSum f a 0) (fun _ => 0) (fun _ => 0) 0 0 (fun k _ => by simp [rowSum, sumN]) post h2 pre h1 U
    rw [this]; simp
  | succ m ih =>
    intro hm
    have i0 := ih (by omega)
    rw [e] at i0 ⊢
    have := detW_lin f js i (rowSum f a (m + 1)) (rowSum f a m) (f m) 1 (a m) (fun k _ => by simp [rowSum, sumN]) post h2 pre h1 U
    rw [this, i0, detW_move f js i m post h2 pre h1 U]
    by_cases hmi : m = i
    · subst hmi
      rw [if_neg (by omega), if_pos (by omega)]; omega
    · have hz : detW f js (pre ++ m :: post) U = 0 := by
        refine detW_twice (fun hd => ?_) U
        rw [List.nodup_append] at hd
        obtain ⟨q1, q2, q3⟩ := hd
        rw [List.nodup_cons] at q2
        rcases h3 m (by omega) hmi with h | h
        · exact q3 m h m (by simp) rfl
        · exact q2.1 h
      rw [hz]
      by_cases c : i < m
      · rw [if_pos c, if_pos (by omega)]; omega
      · rw [if_neg c, if_neg (by omega)]; omega
/-- Rows of which a determinant is not 0 are independent. -/
theorem rows_indep {f : Nat → Nat → Int} {js : List Nat} {n : Nat} (hd : detW f js (List.range n) (fun _ => false) ≠ 0) {a : Nat → Int} (h : ∀ k, k < js.length → rowSum f a n (js.getD k 0) = 0) : ∀ i, i < n → a i = 0 := by
  intro i hi
  have h1 := detW_cramer f js a hi (fun _ => false) n (Nat.le_refl _)
  rw [if_pos hi] at h1
  have h2 : detW (updRow f i (rowSum f a n)) js (List.range n) (fun _ => false) = 0 := by
    obtain ⟨pre, post, e, q1, q2, q3⟩ := range_split hi
    rw [e]
    have := detW_lin f js i (rowSum f a n) (fun _ => 0) (fun _ => 0) 0 0 (fun k hk => by rw [h k hk]; rfl) post q2 pre q1 (fun _ => false)
    rw [this]; simp
  rw [h2] at h1
  have h3 := (Int.mul_eq_zero.1 h1.symm)
  rcases h3 with h3 | h3
  · exact h3
  · exact absurd h3 hd
end Go.Proofs.YtelhmdhhabgihaaGreatDoor

namespace Go.Proofs.YtelhmdhhabgihaaGreatDoor
open Go.RowKit

theorem accP_sum (t : Nat → Nat → Int) (k j : Nat) : accP t k j = sumN (fun r => if (j : Int) = t r 1 then t r 2 else 0) k := by
  induction k with
  | zero => rfl
  | succ k ih =>
    simp only [sumN]
    rw [← ih, accP]
    show (if (j : Int) = t k 1 then accP t k j + t k 2 else accP t k j) = _
    split <;> omega
theorem sumN_one (x : Int) (F : Nat → Int) (i : Nat) : ∀ n, sumN (fun j => if j = i then x * F j else 0) n = if i < n then x * F i else 0 := by
  intro n
  induction n with
  | zero => rfl
  | succ n ih =>
    simp only [sumN]
    rw [ih]
    by_cases e : n = i
    · subst e; rw [if_neg (by omega), if_pos rfl, if_pos (by omega)]; omega
    · rw [if_neg e]
      by_cases c : i < n
      · rw [if_pos c, if_pos (by omega)]; omega
      · rw [if_neg c, if_neg (by omega)]; omega
/-- A shift is the sum of the commas that were taken. -/
theorem shP_acc {f t : Nat → Nat → Int} {n m : Nat} (h : takesB n t m = true) : ∀ k, k ≤ m → ∀ c, shP f t k c = rowSum f (accP t k) n c := by
  intro k
  induction k with
  | zero =>
    intro _ c
    unfold rowSum
    rw [sumN_congr (g := fun _ => 0) n (fun j _ => by simp [accP]), sumN_zero]
    rfl
  | succ k ih =>
    intro hk c
    have p := takeB_parts (takesB_at h (show k < m by omega))
    have i := ih (by omega) c
    obtain ⟨y, hy⟩ := Int.eq_ofNat_of_zero_le p.2.1
    have hyn : y < n := by have := p.2.2.1; omega
    show shP f t k c + t k 2 * f (t k 1).toNat c = _
    rw [i]
    unfold rowSum
    have e1 : sumN (fun j => accP t (k + 1) j * f j c) n = sumN (fun j => accP t k j * f j c + (if j = y then t k 2 * f j c else 0)) n := by
      refine sumN_congr n fun j _ => ?_
      show (if (j : Int) = t k 1 then accP t k j + t k 2 else accP t k j) * f j c = _
      rw [hy]
      by_cases e : j = y
      · subst e; rw [if_pos (by rfl), if_pos rfl, Int.add_mul]
      · rw [if_neg (by omega), if_neg e]; omega
    rw [e1, sumN_add, sumN_one (t k 2) (fun j => f j c) y n, if_pos hyn, hy]
    rfl
theorem sumN_two (h : Nat → Int) {i k : Nat} (hne : i ≠ k) : ∀ m, sumN h m = sumN (fun r => if r = i then 0 else if r = k then 0 else h r) m + (if i < m then h i else 0) + (if k < m then h k else 0) := by
  intro m
  induction m with
  | zero => rfl
  | succ m ih =>
    simp only [sumN]
    rw [ih]
    by_cases e : m = i
    · subst e
      have a : (k < m + 1) = (k < m) := propext ⟨fun _ => by omega, fun _ => by omega⟩
      rw [if_neg (show ¬ m < m by omega), if_pos rfl, if_pos (show m < m + 1 by omega)]
      simp only [a]
      omega
    · have a : (i < m + 1) = (i < m) := propext ⟨fun _ => by omega, fun _ => by omega⟩
      by_cases e2 : m = k
      · subst e2
        rw [if_neg (show ¬ m < m by omega), if_neg e, if_pos rfl, if_pos (show m < m + 1 by omega)]
        simp only [a]
        omega
      · have b : (k < m + 1) = (k < m) := propext ⟨fun _ => by omega, fun _ => by omega⟩
        rw [if_neg e, if_neg e2]
        simp only [a, b]
        omega
/-- Indices i and k exchanged. -/
def swN (i k r : Nat) : Nat := if r = i then k else if r = k then i else r
theorem sumN_exch (h : Nat → Int) {i k m : Nat} (hi : i < m) (hk : k < m) : sumN (fun r => h (swN i k r)) m = sumN h m := by
  by_cases e : i = k
  · subst e
    refine sumN_congr m fun r _ => ?_
    unfold swN
    by_cases c : r = i
    · subst c; simp
    · simp [c]
  · rw [sumN_two (fun r => h (swN i k r)) e m, sumN_two h e m, if_pos hi, if_pos hk, if_pos hi, if_pos hk]
    have e1 : sumN (fun r => if r = i then 0 else if r = k then 0 else h (swN i k r)) m = sumN (fun r => if r = i then 0 else if r = k then 0 else h r) m := sumN_congr m fun r _ => by
      by_cases c : r = i
      · simp [c]
      · by_cases c2 : r = k
        · simp [c2]
        · simp [swN, c, c2]
    have e2 : swN i k i = k := by simp [swN]
    have e3 : swN i k k = i := by
      unfold swN
      by_cases c : k = i
      · rw [if_pos c, c]
      · rw [if_neg c, if_pos rfl]
    simp only [e1, e2, e3]
    omega
/-- Takes with comma, count and desk of i and k exchanged. -/
def exT (t : Nat → Nat → Int) (i k r j : Nat) : Int := if j = 0 then t r 0 else t (swN i k r) j
theorem swN_lt {i k m r : Nat} (hi : i < m) (hk : k < m) (hr : r < m) : swN i k r < m := by
  unfold swN
  split
  · exact hk
  · split <;> assumption
theorem takesB_mk {n : Nat} {t : Nat → Nat → Int} {m : Nat} (h : ∀ k, k < m → takeB n k (t k 0) (t k 1) (t k 2) (t k 3) = true) : takesB n t m = true := by
  induction m with
  | zero => rfl
  | succ m ih =>
    simp only [takesB, Bool.and_eq_true]
    exact ⟨ih fun k hk => h k (by omega), h m (by omega)⟩
theorem takeB_mk {n k : Nat} {s c x d : Int} (h : s = (k : Int) + 1 ∧ 0 ≤ c ∧ c < (n : Int) ∧ 0 ≤ d ∧ d < 8 ∧ ((x = 0 ∧ c = 0) ∨ x = 1 ∨ x = -1)) : takeB n k s c x d = true := by
  simpa only [takeB, decide_eq_true_eq] using h
theorem takesB_ex {n m i k : Nat} {t : Nat → Nat → Int} (h : takesB n t m = true) (hi : i < m) (hk : k < m) : takesB n (exT t i k) m = true := by
  refine takesB_mk fun r hr => takeB_mk ?_
  have a := takeB_parts (takesB_at h hr)
  have b := takeB_parts (takesB_at h (swN_lt hi hk hr))
  exact ⟨a.1, b.2⟩
theorem accP_ex {m i k : Nat} {t : Nat → Nat → Int} (hi : i < m) (hk : k < m) (j : Nat) : accP (exT t i k) m j = accP t m j := by
  rw [accP_sum, accP_sum]
  exact sumN_exch (fun r => if (j : Int) = t r 1 then t r 2 else 0) hi hk
theorem shP_eq {f t t' : Nat → Nat → Int} {n m m' : Nat} (h : takesB n t m = true) (h' : takesB n t' m' = true) (e : ∀ j, j < n → accP t m j = accP t' m' j) (c : Nat) : shP f t m c = shP f t' m' c := by
  rw [shP_acc h m (Nat.le_refl _), shP_acc h' m' (Nat.le_refl _)]
  unfold rowSum
  exact sumN_congr n fun j hj => by rw [e j hj]
/-- Takes joined to others. -/
def jnT (t t2 : Nat → Nat → Int) (m : Nat) (i j : Nat) : Int := if i < m then t i j else if j = 0 then (i : Int) + 1 else t2 (i - m) j
theorem accP_congr {t t' : Nat → Nat → Int} {k : Nat} (h : ∀ r, r < k → t r 1 = t' r 1 ∧ t r 2 = t' r 2) (j : Nat) : accP t k j = accP t' k j := by
  rw [accP_sum, accP_sum]
  exact sumN_congr k fun r hr => by rw [(h r hr).1, (h r hr).2]
theorem accP_join (t t2 : Nat → Nat → Int) (m : Nat) (j : Nat) : ∀ k, accP (jnT t t2 m) (m + k) j = accP t m j + accP t2 k j := by
  intro k
  induction k with
  | zero =>
    rw [Nat.add_zero, accP_congr (t' := t) (fun r hr => by simp [jnT, hr])]
    show accP t m j = accP t m j + 0
    omega
  | succ k ih =>
    show (if (j : Int) = jnT t t2 m (m + k) 1 then accP (jnT t t2 m) (m + k) j + jnT t t2 m (m + k) 2 else accP (jnT t t2 m) (m + k) j) = accP t m j + (if (j : Int) = t2 k 1 then accP t2 k j + t2 k 2 else accP t2 k j)
    have e1 : ∀ c, c ≠ 0 → jnT t t2 m (m + k) c = t2 k c := fun c hc => by
      unfold jnT
      rw [if_neg (by omega), if_neg hc, Nat.add_sub_cancel_left]
    rw [e1 1 (by omega), e1 2 (by omega), ih]
    split <;> omega
theorem takesB_join {n m k : Nat} {t t2 : Nat → Nat → Int} (h : takesB n t m = true) (h2 : takesB n t2 k = true) : takesB n (jnT t t2 m) (m + k) = true := by
  refine takesB_mk fun r hr => takeB_mk ?_
  by_cases c : r < m
  · have a := takeB_parts (takesB_at h c)
    simp only [jnT, if_pos c]
    exact a
  · have a := takeB_parts (takesB_at h2 (show r - m < k by omega))
    simp only [jnT, if_neg c, if_true]
    simp only [show (1 : Nat) ≠ 0 from by decide, show (2 : Nat) ≠ 0 from by decide, show (3 : Nat) ≠ 0 from by decide, if_false]
    exact ⟨trivial, a.2⟩
theorem mod_row {m q k : Nat} (hk : k < m) : (q * m + k) % m = k := by
  rw [Nat.mul_comm, Nat.mul_add_mod, Nat.mod_eq_of_lt hk]
theorem accP_times (t : Nat → Nat → Int) (m : Nat) (j : Nat) : ∀ q, (∀ k, k ≤ m → accP (tmT t m) (q * m + k) j = (q : Int) * accP t m j + accP t k j) := by
  intro q
  induction q with
  | zero =>
    intro k
    induction k with
    | zero => intro _; simp [accP]
    | succ k ih =>
      intro hk
      have i := ih (by omega)
      show (if (j : Int) = tmT t m (0 * m + k) 1 then accP (tmT t m) (0 * m + k) j + tmT t m (0 * m + k) 2 else accP (tmT t m) (0 * m + k) j) = ((0 : Nat) : Int) * accP t m j + (if (j : Int) = t k 1 then accP t k j + t k 2 else accP t k j)
      have e1 : ∀ c, c ≠ 0 → tmT t m (0 * m + k) c = t k c := fun c hc => by
        unfold tmT; rw [if_neg hc, mod_row (by omega)]
      rw [e1 1 (by omega), e1 2 (by omega), i]
      split <;> omega
  | succ q ihq =>
    intro k
    induction k with
    | zero =>
      intro _
      have i := ihq m (Nat.le_refl _)
      rw [Nat.add_zero, show (q + 1) * m = q * m + m by rw [Nat.succ_mul], i]
      simp only [accP]
      rw [Int.natCast_add, Int.add_mul]; simp
    | succ k ih =>
      intro hk
      have i := ih (by omega)
      show (if (j : Int) = tmT t m ((q + 1) * m + k) 1 then accP (tmT t m) ((q + 1) * m + k) j + tmT t m ((q + 1) * m + k) 2 else accP (tmT t m) ((q + 1) * m + k) j) = ((q + 1 : Nat) : Int) * accP t m j + (if (j : Int) = t k 1 then accP t k j + t k 2 else accP t k j)
      have e1 : ∀ c, c ≠ 0 → tmT t m ((q + 1) * m + k) c = t k c := fun c hc => by
        unfold tmT; rw [if_neg hc, mod_row (by omega)]
      rw [e1 1 (by omega), e1 2 (by omega), i]
      split <;> omega
theorem accP_times0 (t : Nat → Nat → Int) (m q : Nat) (j : Nat) : accP (tmT t m) (q * m) j = (q : Int) * accP t m j := by
  have := accP_times t m j q 0 (by omega)
  rw [Nat.add_zero] at this
  rw [this]
  simp [accP]
theorem takesB_times {n m : Nat} {t : Nat → Nat → Int} (h : takesB n t m = true) (q : Nat) : takesB n (tmT t m) (q * m) = true := by
  refine takesB_mk fun r hr => takeB_mk ?_
  have hm : 0 < m := by
    rcases Nat.eq_zero_or_pos m with e | e
    · subst e; omega
    · exact e
  have a := takeB_parts (takesB_at h (Nat.mod_lt r hm))
  simp only [tmT, show (1 : Nat) ≠ 0 from by decide, show (2 : Nat) ≠ 0 from by decide, show (3 : Nat) ≠ 0 from by decide, if_false, if_true]
  exact ⟨trivial, a.2⟩
theorem tmT_tmT (t : Nat → Nat → Int) (m q : Nat) (i j : Nat) : tmT (tmT t m) (q * m) i j = tmT t m i j := by
  unfold tmT
  by_cases e : j = 0
  · rw [if_pos e, if_pos e]
  · rw [if_neg e, if_neg e, if_neg e, Nat.mod_mul_left_mod]
end Go.Proofs.YtelhmdhhabgihaaGreatDoor
