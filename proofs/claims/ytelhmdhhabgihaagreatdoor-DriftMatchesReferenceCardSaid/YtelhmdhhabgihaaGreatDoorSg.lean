/-
  A shift is the unison exactly if its sign is 0.
-/
import Derived.Test.YtelhmdhhabgihaaGreatDoorD45
import Derived.Test.YtelhmdhhabgihaaGreatDoorPlX
import Derived.Test.YtelhmdhhabgihaaGreatDoorFrX
namespace Go.Proofs.YtelhmdhhabgihaaGreatDoor
open Go.RowKit

theorem cop_same {p a b : Nat} (h : a = 0 ∨ b = 0) : Nat.Coprime (p ^ a) (p ^ b) := by
  rcases h with rfl | rfl
  · rw [Nat.pow_zero]; exact Nat.coprime_one_left _
  · rw [Nat.pow_zero]; exact Nat.coprime_one_right _
theorem prodP_cop {a0 a1 a2 a3 a4 a5 b0 b1 b2 b3 b4 b5 : Nat} (h0 : a0 = 0 ∨ b0 = 0) (h1 : a1 = 0 ∨ b1 = 0) (h2 : a2 = 0 ∨ b2 = 0) (h3 : a3 = 0 ∨ b3 = 0) (h4 : a4 = 0 ∨ b4 = 0) (h5 : a5 = 0 ∨ b5 = 0) :
    Nat.Coprime (prodP a0 a1 a2 a3 a4 a5) (prodP b0 b1 b2 b3 b4 b5) := by
  unfold prodP
  repeat' (first | apply Nat.Coprime.mul_left | apply Nat.Coprime.mul_right)
  all_goals first | exact cop_same (by assumption) | exact cop_pow (by decide) _ _
theorem pow_one {p a : Nat} (hp : 2 ≤ p) (h : p ^ a = 1) : a = 0 := by
  rcases Nat.eq_zero_or_pos a with e | e
  · exact e
  · have := Nat.pow_le_pow_right (show 0 < p by omega) e
    rw [Nat.pow_one] at this
    omega
theorem mul_one_of {a b : Nat} (h : a * b = 1) : a = 1 ∧ b = 1 := ⟨Nat.eq_one_of_mul_eq_one_right h, Nat.eq_one_of_mul_eq_one_left h⟩
theorem prodP_one {a0 a1 a2 a3 a4 a5 : Nat} (h : prodP a0 a1 a2 a3 a4 a5 = 1) : a0 = 0 ∧ a1 = 0 ∧ a2 = 0 ∧ a3 = 0 ∧ a4 = 0 ∧ a5 = 0 := by
  unfold prodP at h
  obtain ⟨h, e5⟩ := mul_one_of h
  obtain ⟨h, e4⟩ := mul_one_of h
  obtain ⟨h, e3⟩ := mul_one_of h
  obtain ⟨h, e2⟩ := mul_one_of h
  obtain ⟨e0, e1⟩ := mul_one_of h
  exact ⟨pow_one (by omega) e0, pow_one (by omega) e1, pow_one (by omega) e2, pow_one (by omega) e3, pow_one (by omega) e4, pow_one (by omega) e5⟩
theorem cmpP_zero_of {v : V6} (h : cmpP v = 0) : v = ⟨0, 0, 0, 0, 0, 0⟩ := by
  have hc := cmpP_cases v
  have he : v.num = v.den := by omega
  have hcop : Nat.Coprime v.num v.den := prodP_cop (by omega) (by omega) (by omega) (by omega) (by omega) (by omega)
  have h1 : v.num = 1 := by
    rw [← he] at hcop
    exact (Nat.coprime_self _).1 hcop
  have h2 : v.den = 1 := by omega
  obtain ⟨a0, a1, a2, a3, a4, a5⟩ := prodP_one h1
  obtain ⟨b0, b1, b2, b3, b4, b5⟩ := prodP_one h2
  obtain ⟨v0, v1, v2, v3, v4, v5⟩ := v
  simp only at a0 a1 a2 a3 a4 a5 b0 b1 b2 b3 b4 b5
  simp only [V6.mk.injEq]
  omega
theorem signV_zero (v : V6) : signV v = 0 ↔ v = ⟨0, 0, 0, 0, 0, 0⟩ := by
  constructor
  · intro h
    have := cmpP_zero_of h
    obtain ⟨v0, v1, v2, v3, v4, v5⟩ := v
    simp only [V6.sub, V6.mk.injEq] at this ⊢
    omega
  · rintro rfl
    decide +kernel
/-- Independent rows: what a valid list has. -/
theorem foldF_det {f : Nat → Nat → Int} {n : Nat} : ∀ (o : List Nat) (s : List Nat × List Nat), detW f s.2 s.1 (fun _ => false) ≠ 0 → detW f (o.foldl (stepF f n) s).2 (o.foldl (stepF f n) s).1 (fun _ => false) ≠ 0
  | [], s, h => h
  | j :: o, s, h => by
    rw [List.foldl_cons]
    refine foldF_det o _ ?_
    unfold stepF
    split
    · rename_i i hi
      have := List.find?_some hi
      simpa using this
    · exact h
theorem frame_range {f : Nat → Nat → Int} {n : Nat} (h : rankP f n = n) : ∃ js : List Nat, js = (frameP f n [0, 1, 2, 3, 4, 5]).2 ∧ js.length = n ∧ (∀ j ∈ js, j < 6) ∧ detW f js (List.range n) (fun _ => false) ≠ 0 := by
  have hi := frameP_inv f n [0, 1, 2, 3, 4, 5] (by decide)
  have hd := foldF_det (f := f) (n := n) [0, 1, 2, 3, 4, 5] ([], []) (by simp [detW])
  change detW f (frameP f n [0, 1, 2, 3, 4, 5]).2 (frameP f n [0, 1, 2, 3, 4, 5]).1 (fun _ => false) ≠ 0 at hd
  unfold rankP at h
  generalize frameP f n [0, 1, 2, 3, 4, 5] = s at *
  obtain ⟨is, js⟩ := s
  obtain ⟨h1, h2, h3, h4⟩ := hi
  simp only at h1 h2 h3 h4 hd h
  refine ⟨js, rfl, by omega, h4, ?_⟩
  have hnd : is.Nodup := by
    rcases Classical.em is.Nodup with c | c
    · exact c
    · exact absurd (detW_twice c _) hd
  have hp := (perm_range n is hnd h3).2 h
  rcases detW_perm (f := f) (js := js) hp with e | e
  · rw [e] at hd; exact hd
  · rw [e] at hd; omega
theorem rank_indep {f : Nat → Nat → Int} {n : Nat} (h : rankP f n = n) {a : Nat → Int} (hz : ∀ c, c < 6 → rowSum f a n c = 0) : ∀ i, i < n → a i = 0 := by
  obtain ⟨js, -, h1, h2, h3⟩ := frame_range h
  refine rows_indep h3 fun k hk => hz _ ?_
  rw [List.getD_eq_getElem?_getD, List.getElem?_eq_getElem hk]
  exact h2 _ (List.getElem_mem hk)
/-- A shift of valid takes is the unison exactly if the account is 0. -/
theorem shift_zero {nm : Nat → ByteArray} {f t : Nat → Nat → Int} {n m : Nat} (hc : commaB nm f n = true) (ht : takesB n t m = true) {k : Nat} (hk : k ≤ m) : rowV (shP f t) k = ⟨0, 0, 0, 0, 0, 0⟩ ↔ ∀ j, j < n → accP t k j = 0 := by
  have hr := (commaB_parts hc).2.2.2.2.2
  constructor
  · intro h
    refine rank_indep hr fun c hc6 => ?_
    rw [← shP_acc ht k hk c]
    simp only [rowV, V6.mk.injEq] at h
    rcases (show c = 0 ∨ c = 1 ∨ c = 2 ∨ c = 3 ∨ c = 4 ∨ c = 5 by omega) with rfl | rfl | rfl | rfl | rfl | rfl
    · exact h.1
    · exact h.2.1
    · exact h.2.2.1
    · exact h.2.2.2.1
    · exact h.2.2.2.2.1
    · exact h.2.2.2.2.2
  · intro h
    have z : ∀ c, shP f t k c = 0 := fun c => by
      rw [shP_acc ht k hk c]
      unfold rowSum
      rw [sumN_congr (g := fun _ => 0) n (fun j hj => by rw [h j hj]; simp), sumN_zero]
    simp only [rowV, z]
/-- How far a shift is, as the law says it. -/
theorem distV_law (v : V6) : distV v = if signV v < 0 then ⟨-(v.x0 * 12), -(v.x1 * 12), -(v.x2 * 12), -(v.x3 * 12), -(v.x4 * 12), -(v.x5 * 12)⟩ else ⟨v.x0 * 12, v.x1 * 12, v.x2 * 12, v.x3 * 12, v.x4 * 12, v.x5 * 12⟩ := by
  rcases signV_cases v with h | h | h
  · unfold distV; rw [if_pos h, if_neg (by omega)]
  · unfold distV; rw [if_neg (by omega), if_pos h, if_pos (by omega)]
  · unfold distV
    rw [if_neg (by omega), if_neg (by omega), if_neg (by omega)]
    rw [(signV_zero v).1 h]
    rfl
theorem V6.sub_sub (u v z : V6) : V6.add (u.sub v) (v.sub z) = u.sub z := by
  obtain ⟨u0, u1, u2, u3, u4, u5⟩ := u
  obtain ⟨v0, v1, v2, v3, v4, v5⟩ := v
  obtain ⟨z0, z1, z2, z3, z4, z5⟩ := z
  simp only [V6.sub, V6.add, V6.mk.injEq]
  omega
theorem V6.sub_neg (u v : V6) : (u.sub v).neg = v.sub u := by
  obtain ⟨u0, u1, u2, u3, u4, u5⟩ := u
  obtain ⟨v0, v1, v2, v3, v4, v5⟩ := v
  simp only [V6.sub, V6.neg, V6.mk.injEq]
  omega
theorem V6.sub_self (u : V6) : u.sub u = ⟨0, 0, 0, 0, 0, 0⟩ := by
  obtain ⟨u0, u1, u2, u3, u4, u5⟩ := u
  simp only [V6.sub, V6.mk.injEq]
  omega
/-- The farthest section: none is farther, and each earlier one is nearer. -/
theorem farS_law (g : Nat → Nat → Int) (h0 : distV (rowV g 0) = ⟨0, 0, 0, 0, 0, 0⟩) : ∀ k, 0 < k → (farS g k).1 < k ∧ (farS g k).2 = distV (rowV g (farS g k).1) ∧
    (∀ j, j < k → cmpP ((distV (rowV g j)).sub (farS g k).2) ≤ 0) ∧ ∀ j, j < (farS g k).1 → cmpP ((distV (rowV g j)).sub (farS g k).2) < 0 := by
  intro k
  induction k with
  | zero => intro h; omega
  | succ k ih =>
    intro _
    rcases Nat.eq_zero_or_pos k with e | e
    · subst e
      have hz : farS g 0 = (0, ⟨0, 0, 0, 0, 0, 0⟩) := rfl
      have h1 : farS g 1 = (0, ⟨0, 0, 0, 0, 0, 0⟩) := by
        rw [farS_no g 0 (by rw [hz, h0, V6.sub_self, cmpP_zero]; omega), hz]
      rw [h1]
      refine ⟨by simp, h0.symm, fun j hj => ?_, fun j hj => by simp at hj⟩
      obtain rfl : j = 0 := by omega
      rw [h0, V6.sub_self, cmpP_zero]; omega
    · obtain ⟨i1, i2, i3, i4⟩ := ih e
      by_cases c : 0 < cmpP ((distV (rowV g k)).sub (farS g k).2)
      · rw [farS_yes g k c]
        simp only
        have lt : ∀ j, j < k → cmpP ((distV (rowV g j)).sub (distV (rowV g k))) < 0 := by
          intro j hj
          have a := i3 j hj
          have b := cmpP_neg ((distV (rowV g j)).sub (farS g k).2)
          rw [V6.sub_neg] at b
          have q := (cmpP_add ((distV (rowV g k)).sub (farS g k).2) ((farS g k).2.sub (distV (rowV g j)))).2.1 c (by omega)
          rw [V6.sub_sub] at q
          have z := cmpP_neg ((distV (rowV g k)).sub (distV (rowV g j)))
          rw [V6.sub_neg] at z
          omega
        refine ⟨Nat.lt_succ_self k, trivial, fun j hj => ?_, lt⟩
        by_cases hjk : j = k
        · subst hjk; rw [V6.sub_self, cmpP_zero]; omega
        · exact Int.le_of_lt (lt j (by omega))
      · rw [farS_no g k c]
        refine ⟨by omega, i2, fun j hj => ?_, i4⟩
        by_cases hjk : j = k
        · subst hjk; omega
        · exact i3 j (by omega)
end Go.Proofs.YtelhmdhhabgihaaGreatDoor
