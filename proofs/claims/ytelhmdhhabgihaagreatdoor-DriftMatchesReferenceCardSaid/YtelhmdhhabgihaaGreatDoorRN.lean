/-
  NPlain
  schismaref04: Surely, Lower, Upper.
  schismaref04: Exponents.
  schismaref04: Gap, Near.
-/
import Derived.Test.YtelhmdhhabgihaaGreatDoorNear
import Derived.Test.YtelhmdhhabgihaaGreatDoorR3V
import Derived.Deep.RegionHeld3
namespace Go.Proofs.YtelhmdhhabgihaaGreatDoor
open Go.RowKit

def loE (k : Nat) (e : Int) : Int := e * (if e < 0 then logHi k else logLo k)
def hiE (k : Nat) (e : Int) : Int := e * (if e < 0 then logLo k else logHi k)
theorem sumLo_succ (v : V6) (n : Nat) : sumLo v (n + 1) = sumLo v n + loE n (v.get n) := rfl
theorem sumHi_succ (v : V6) (n : Nat) : sumHi v (n + 1) = sumHi v n + hiE n (v.get n) := rfl
theorem loE_le (k : Nat) (hk : k < 6) (e : Int) : loE k e ≤ e * logLo k ∧ loE k e ≤ e * logHi k ∧ (loE k e = e * logLo k ∨ loE k e = e * logHi k) := by
  obtain ⟨h1, h2, h3⟩ := log_bd k hk
  unfold loE
  split
  · refine ⟨?_, Int.le_refl _, Or.inr rfl⟩
    exact Int.mul_le_mul_of_nonpos_left (by omega) h2
  · refine ⟨Int.le_refl _, ?_, Or.inl rfl⟩
    exact Int.mul_le_mul_of_nonneg_left h2 (by omega)
theorem hiE_ge (k : Nat) (hk : k < 6) (e : Int) : e * logLo k ≤ hiE k e ∧ e * logHi k ≤ hiE k e ∧ (hiE k e = e * logLo k ∨ hiE k e = e * logHi k) := by
  obtain ⟨h1, h2, h3⟩ := log_bd k hk
  unfold hiE
  split
  · refine ⟨Int.le_refl _, ?_, Or.inl rfl⟩
    exact Int.mul_le_mul_of_nonpos_left (by omega) h2
  · refine ⟨?_, Int.le_refl _, Or.inr rfl⟩
    exact Int.mul_le_mul_of_nonneg_left h2 (by omega)
theorem loE_add (k : Nat) (hk : k < 6) (x y : Int) : loE k x + loE k y ≤ loE k (x + y) := by
  obtain ⟨a1, a2, a3⟩ := loE_le k hk x
  obtain ⟨b1, b2, b3⟩ := loE_le k hk y
  obtain ⟨c1, c2, c3⟩ := loE_le k hk (x + y)
  rw [Int.add_mul, Int.add_mul] at c3
  omega
theorem hiE_add (k : Nat) (hk : k < 6) (x y : Int) : hiE k (x + y) ≤ hiE k x + hiE k y := by
  obtain ⟨a1, a2, a3⟩ := hiE_ge k hk x
  obtain ⟨b1, b2, b3⟩ := hiE_ge k hk y
  obtain ⟨c1, c2, c3⟩ := hiE_ge k hk (x + y)
  rw [Int.add_mul, Int.add_mul] at c3
  omega
theorem loE_neg (k : Nat) (e : Int) : loE k (-e) = -hiE k e ∧ hiE k (-e) = -loE k e := by
  unfold loE hiE
  by_cases h : e < 0
  · rw [if_neg (by omega), if_pos h, if_neg (by omega), if_pos h, Int.neg_mul, Int.neg_mul]; exact ⟨rfl, rfl⟩
  · by_cases h0 : e = 0
    · subst h0; simp
    · rw [if_pos (by omega), if_neg h, if_pos (by omega), if_neg h, Int.neg_mul, Int.neg_mul]; exact ⟨rfl, rfl⟩
theorem get_sub (u v : V6) (k : Nat) (hk : k < 6) : (u.sub v).get k = u.get k - v.get k := by
  obtain rfl | rfl | rfl | rfl | rfl | rfl : k = 0 ∨ k = 1 ∨ k = 2 ∨ k = 3 ∨ k = 4 ∨ k = 5 := by omega
  all_goals rfl
theorem get_add (u v : V6) (k : Nat) (hk : k < 6) : (u.add v).get k = u.get k + v.get k := by
  obtain rfl | rfl | rfl | rfl | rfl | rfl : k = 0 ∨ k = 1 ∨ k = 2 ∨ k = 3 ∨ k = 4 ∨ k = 5 := by omega
  all_goals rfl
theorem sum_add (u v : V6) (n : Nat) (hn : n ≤ 6) : sumLo u n + sumLo v n ≤ sumLo (u.add v) n ∧ sumHi (u.add v) n ≤ sumHi u n + sumHi v n := by
  induction n with
  | zero => simp [sumLo, sumHi]
  | succ n ih =>
    obtain ⟨i1, i2⟩ := ih (by omega)
    have a := loE_add n (by omega) (u.get n) (v.get n)
    have b := hiE_add n (by omega) (u.get n) (v.get n)
    rw [← get_add u v n (by omega)] at a b
    simp only [sumLo_succ, sumHi_succ]
    omega
theorem sum_swap (u v : V6) (n : Nat) (hn : n ≤ 6) : sumLo (v.sub u) n = -sumHi (u.sub v) n ∧ sumHi (v.sub u) n = -sumLo (u.sub v) n := by
  induction n with
  | zero => simp [sumLo, sumHi]
  | succ n ih =>
    obtain ⟨i1, i2⟩ := ih (by omega)
    have e : (v.sub u).get n = -(u.sub v).get n := by rw [get_sub _ _ _ (by omega), get_sub _ _ _ (by omega)]; omega
    obtain ⟨a, b⟩ := loE_neg n ((u.sub v).get n)
    simp only [sumLo_succ, sumHi_succ, e, a, b]
    omega
theorem sum_tri (u v r : V6) : sumLo (u.sub v) 6 + sumLo (v.sub r) 6 ≤ sumLo (u.sub r) 6 ∧ sumHi (u.sub r) 6 ≤ sumHi (u.sub v) 6 + sumHi (v.sub r) 6 := by
  have h := sum_add (u.sub v) (v.sub r) 6 (by omega)
  have e : (u.sub v).add (v.sub r) = u.sub r := by
    simp only [V6.sub, V6.add, V6.mk.injEq]; omega
  rwa [e] at h
theorem sum_le (u : V6) (n : Nat) (hn : n ≤ 6) : sumLo u n ≤ sumHi u n := by
  induction n with
  | zero => simp [sumLo, sumHi]
  | succ n ih =>
    have := ih (by omega)
    have a := loE_le n (by omega) (u.get n)
    have b := hiE_ge n (by omega) (u.get n)
    simp only [sumLo_succ, sumHi_succ]
    omega
theorem surely_swap (lo hi b : Int) : surelyI (-hi) (-lo) (-10000 * b) (10000 * b) = surelyI lo hi (-10000 * b) (10000 * b) := by
  unfold surelyI
  by_cases h : -10000 * b ≤ lo ∧ hi ≤ 10000 * b
  · rw [if_pos h, if_pos (by omega)]
  · rw [if_neg h, if_neg (by omega)]
    by_cases h2 : hi < -10000 * b ∨ 10000 * b < lo
    · rw [if_pos h2, if_pos (by omega)]
    · rw [if_neg h2, if_neg (by omega)]
theorem surely_vals' (lo hi low high : Int) : surelyI lo hi low high = -1 ∨ surelyI lo hi low high = 0 ∨ surelyI lo hi low high = 1 := by
  unfold surelyI
  split
  · simp
  · split <;> simp
theorem surely_one {lo hi low high : Int} (h : surelyI lo hi low high = 1) : low ≤ lo ∧ hi ≤ high := by
  unfold surelyI at h
  split at h
  · assumption
  · split at h <;> omega
theorem surely_neg {lo hi low high : Int} (h : surelyI lo hi low high = -1) : hi < low ∨ high < lo := by
  unfold surelyI at h
  split at h
  · omega
  · split at h
    · assumption
    · omega
theorem surely_mk {lo hi low high : Int} (h : low ≤ lo ∧ hi ≤ high) : surelyI lo hi low high = 1 := if_pos h
theorem surely_mkneg {lo hi low high : Int} (h0 : lo ≤ hi) (h : hi < low ∨ high < lo) : surelyI lo hi low high = -1 := by
  rw [surelyI, if_neg (by omega), if_pos h]
theorem near_self (u : V6) (b : Int) (hb : 0 ≤ b) : surelyI (sumLo (u.sub u) 6) (sumHi (u.sub u) 6) (-10000 * b) (10000 * b) = 1 := by
  have h := sum_swap u u 6 (by omega)
  have h2 := sum_le (u.sub u) 6 (by omega)
  have h3 : sumLo (u.sub u) 6 = 0 ∧ sumHi (u.sub u) 6 = 0 := by
    have e : u.sub u = ⟨0, 0, 0, 0, 0, 0⟩ := by simp only [V6.sub, V6.mk.injEq]; omega
    rw [e]; decide +kernel
  exact surely_mk (by omega)

end Go.Proofs.YtelhmdhhabgihaaGreatDoor

namespace Go.Proofs.YtelhmdhhabgihaaGreatDoor
open Go.RowKit

theorem rlower0 (w : World) : Calls Tryz.prog 42 #[.int .i64 0] w fun e w' => e = .returned (.int .i64 1000000000) ∧ Gr w w' := by
  go_enter Tryz.func42, Tryz.ntmps42
  go_wp2
  go_ret
  exact ⟨rfl, (by repeat (first | exact Gr.refl _ | refine Gr.alloc ?_ _ | refine Gr.drew ?_ | refine Gr.trans ?_ (by assumption) | refine Gr.setCell ?_ (by (try simp); (try omega)) _))⟩

theorem rlower1 (w : World) : Calls Tryz.prog 42 #[.int .i64 1] w fun e w' => e = .returned (.int .i64 1584962500) ∧ Gr w w' := by
  go_enter Tryz.func42, Tryz.ntmps42
  go_wp2
  go_ret
  exact ⟨rfl, (by repeat (first | exact Gr.refl _ | refine Gr.alloc ?_ _ | refine Gr.drew ?_ | refine Gr.trans ?_ (by assumption) | refine Gr.setCell ?_ (by (try simp); (try omega)) _))⟩

theorem rlower2 (w : World) : Calls Tryz.prog 42 #[.int .i64 2] w fun e w' => e = .returned (.int .i64 2321928094) ∧ Gr w w' := by
  go_enter Tryz.func42, Tryz.ntmps42
  go_wp2
  go_ret
  exact ⟨rfl, (by repeat (first | exact Gr.refl _ | refine Gr.alloc ?_ _ | refine Gr.drew ?_ | refine Gr.trans ?_ (by assumption) | refine Gr.setCell ?_ (by (try simp); (try omega)) _))⟩

theorem rlower3 (w : World) : Calls Tryz.prog 42 #[.int .i64 3] w fun e w' => e = .returned (.int .i64 2807354922) ∧ Gr w w' := by
  go_enter Tryz.func42, Tryz.ntmps42
  go_wp2
  go_ret
  exact ⟨rfl, (by repeat (first | exact Gr.refl _ | refine Gr.alloc ?_ _ | refine Gr.drew ?_ | refine Gr.trans ?_ (by assumption) | refine Gr.setCell ?_ (by (try simp); (try omega)) _))⟩

theorem rlower4 (w : World) : Calls Tryz.prog 42 #[.int .i64 4] w fun e w' => e = .returned (.int .i64 3459431618) ∧ Gr w w' := by
  go_enter Tryz.func42, Tryz.ntmps42
  go_wp2
  go_ret
  exact ⟨rfl, (by repeat (first | exact Gr.refl _ | refine Gr.alloc ?_ _ | refine Gr.drew ?_ | refine Gr.trans ?_ (by assumption) | refine Gr.setCell ?_ (by (try simp); (try omega)) _))⟩

theorem rlower5 (w : World) : Calls Tryz.prog 42 #[.int .i64 5] w fun e w' => e = .returned (.int .i64 3700439718) ∧ Gr w w' := by
  go_enter Tryz.func42, Tryz.ntmps42
  go_wp2
  go_ret
  exact ⟨rfl, (by repeat (first | exact Gr.refl _ | refine Gr.alloc ?_ _ | refine Gr.drew ?_ | refine Gr.trans ?_ (by assumption) | refine Gr.setCell ?_ (by (try simp); (try omega)) _))⟩

theorem rupper0 (w : World) : Calls Tryz.prog 43 #[.int .i64 0] w fun e w' => e = .returned (.int .i64 1000000000) ∧ Gr w w' := by
  go_enter Tryz.func43, Tryz.ntmps43
  go_wp2_with (go_at_call 42; with_reducible refine (rlower0 _).mono ?_; rintro e w' ⟨rfl, hb⟩; have hz := hb.le; obtain ⟨hc, hf⟩ := hb.cells; (try simp only [World.size_alloc] at hc hf hz); (try simp only [World.size_setCell] at hc hf hz); (try simp only [World.size_drew] at hc hf hz))
  go_ret
  exact ⟨rfl, (by repeat (first | exact Gr.refl _ | refine Gr.alloc ?_ _ | refine Gr.drew ?_ | refine Gr.trans ?_ (by assumption) | refine Gr.setCell ?_ (by (try simp); (try omega)) _))⟩

theorem rupper1 (w : World) : Calls Tryz.prog 43 #[.int .i64 1] w fun e w' => e = .returned (.int .i64 1584962501) ∧ Gr w w' := by
  go_enter Tryz.func43, Tryz.ntmps43
  go_wp2_with (go_at_call 42; with_reducible refine (rlower1 _).mono ?_; rintro e w' ⟨rfl, hb⟩; have hz := hb.le; obtain ⟨hc, hf⟩ := hb.cells; (try simp only [World.size_alloc] at hc hf hz); (try simp only [World.size_setCell] at hc hf hz); (try simp only [World.size_drew] at hc hf hz))
  go_ret
  exact ⟨rfl, (by repeat (first | exact Gr.refl _ | refine Gr.alloc ?_ _ | refine Gr.drew ?_ | refine Gr.trans ?_ (by assumption) | refine Gr.setCell ?_ (by (try simp); (try omega)) _))⟩

theorem rupper2 (w : World) : Calls Tryz.prog 43 #[.int .i64 2] w fun e w' => e = .returned (.int .i64 2321928095) ∧ Gr w w' := by
  go_enter Tryz.func43, Tryz.ntmps43
  go_wp2_with (go_at_call 42; with_reducible refine (rlower2 _).mono ?_; rintro e w' ⟨rfl, hb⟩; have hz := hb.le; obtain ⟨hc, hf⟩ := hb.cells; (try simp only [World.size_alloc] at hc hf hz); (try simp only [World.size_setCell] at hc hf hz); (try simp only [World.size_drew] at hc hf hz))
  go_ret
  exact ⟨rfl, (by repeat (first | exact Gr.refl _ | refine Gr.alloc ?_ _ | refine Gr.drew ?_ | refine Gr.trans ?_ (by assumption) | refine Gr.setCell ?_ (by (try simp); (try omega)) _))⟩

theorem rupper3 (w : World) : Calls Tryz.prog 43 #[.int .i64 3] w fun e w' => e = .returned (.int .i64 2807354923) ∧ Gr w w' := by
  go_enter Tryz.func43, Tryz.ntmps43
  go_wp2_with (go_at_call 42; with_reducible refine (rlower3 _).mono ?_; rintro e w' ⟨rfl, hb⟩; have hz := hb.le; obtain ⟨hc, hf⟩ := hb.cells; (try simp only [World.size_alloc] at hc hf hz); (try simp only [World.size_setCell] at hc hf hz); (try simp only [World.size_drew] at hc hf hz))
  go_ret
  exact ⟨rfl, (by repeat (first | exact Gr.refl _ | refine Gr.alloc ?_ _ | refine Gr.drew ?_ | refine Gr.trans ?_ (by assumption) | refine Gr.setCell ?_ (by (try simp); (try omega)) _))⟩

theorem rupper4 (w : World) : Calls Tryz.prog 43 #[.int .i64 4] w fun e w' => e = .returned (.int .i64 3459431619) ∧ Gr w w' := by
  go_enter Tryz.func43, Tryz.ntmps43
  go_wp2_with (go_at_call 42; with_reducible refine (rlower4 _).mono ?_; rintro e w' ⟨rfl, hb⟩; have hz := hb.le; obtain ⟨hc, hf⟩ := hb.cells; (try simp only [World.size_alloc] at hc hf hz); (try simp only [World.size_setCell] at hc hf hz); (try simp only [World.size_drew] at hc hf hz))
  go_ret
  exact ⟨rfl, (by repeat (first | exact Gr.refl _ | refine Gr.alloc ?_ _ | refine Gr.drew ?_ | refine Gr.trans ?_ (by assumption) | refine Gr.setCell ?_ (by (try simp); (try omega)) _))⟩

theorem rupper5 (w : World) : Calls Tryz.prog 43 #[.int .i64 5] w fun e w' => e = .returned (.int .i64 3700439719) ∧ Gr w w' := by
  go_enter Tryz.func43, Tryz.ntmps43
  go_wp2_with (go_at_call 42; with_reducible refine (rlower5 _).mono ?_; rintro e w' ⟨rfl, hb⟩; have hz := hb.le; obtain ⟨hc, hf⟩ := hb.cells; (try simp only [World.size_alloc] at hc hf hz); (try simp only [World.size_setCell] at hc hf hz); (try simp only [World.size_drew] at hc hf hz))
  go_ret
  exact ⟨rfl, (by repeat (first | exact Gr.refl _ | refine Gr.alloc ?_ _ | refine Gr.drew ?_ | refine Gr.trans ?_ (by assumption) | refine Gr.setCell ?_ (by (try simp); (try omega)) _))⟩

theorem rlower_any (k : Nat) (hk : k < 6) (w : World) : Calls Tryz.prog 42 #[.int .i64 (k : Int)] w fun e w' => e = .returned (.int .i64 (logLo k)) ∧ Gr w w' := by
  obtain rfl | rfl | rfl | rfl | rfl | rfl : k = 0 ∨ k = 1 ∨ k = 2 ∨ k = 3 ∨ k = 4 ∨ k = 5 := by omega
  · exact rlower0 w
  · exact rlower1 w
  · exact rlower2 w
  · exact rlower3 w
  · exact rlower4 w
  · exact rlower5 w
theorem rupper_any (k : Nat) (hk : k < 6) (w : World) : Calls Tryz.prog 43 #[.int .i64 (k : Int)] w fun e w' => e = .returned (.int .i64 (logHi k)) ∧ Gr w w' := by
  obtain rfl | rfl | rfl | rfl | rfl | rfl : k = 0 ∨ k = 1 ∨ k = 2 ∨ k = 3 ∨ k = 4 ∨ k = 5 := by omega
  · exact rupper0 w
  · exact rupper1 w
  · exact rupper2 w
  · exact rupper3 w
  · exact rupper4 w
  · exact rupper5 w
theorem ExpRel.call {v : V6} {W1 : World} {B k : Nat} {wr w' : World} (h : ExpRel v W1 B k wr) (g : Gr wr w') : ExpRel v W1 B k w' := by
  have hs := h.size
  have hle := g.le
  have hc : ∀ o, w'.cell? ⟨B + 1 + 1, o, none⟩ = wr.cell? ⟨B + 1 + 1, o, none⟩ := fun o => Below.cell (p := ⟨B + 1 + 1, o, none⟩) g hs
  have hf : ∀ o, w'.frozen? ⟨B + 1 + 1, o, none⟩ = wr.frozen? ⟨B + 1 + 1, o, none⟩ := fun o => Below.frozen (p := ⟨B + 1 + 1, o, none⟩) g hs
  exact ⟨h.below.trans (Below.mono g (by omega)), by omega, (hc 0).trans h.lo, (hc 1).trans h.hi, (hf 0).trans h.flo, (hf 1).trans h.fhi⟩
theorem ExpRel.drew {v : V6} {W1 : World} {B k : Nat} {wr : World} (h : ExpRel v W1 B k wr) : ExpRel v W1 B k wr.drew := ⟨h.below.drew, h.size, h.lo, h.hi, h.flo, h.fhi⟩
theorem sumLo_mn (v : V6) (k : Nat) (hk : k < 6) : sumLo v (k + 1) = sumLo v k + mn (v.get k * logLo k) (v.get k * logHi k) := by
  rw [sumLo_succ]
  obtain ⟨a, b, c⟩ := loE_le k hk (v.get k)
  unfold mn
  split <;> omega
theorem sumHi_mx (v : V6) (k : Nat) (hk : k < 6) : sumHi v (k + 1) = sumHi v k + mx (v.get k * logLo k) (v.get k * logHi k) := by
  rw [sumHi_succ]
  obtain ⟨a, b, c⟩ := hiE_ge k hk (v.get k)
  unfold mx
  split <;> omega
theorem mx_facts (a b : Int) : a ≤ mx a b ∧ b ≤ mx a b ∧ (mx a b = a ∨ mx a b = b) ∧ mx b a = mx a b := by
  unfold mx
  split <;> split <;> omega
theorem mn_facts (a b : Int) : mn a b ≤ a ∧ mn a b ≤ b ∧ (mn a b = a ∨ mn a b = b) ∧ mn b a = mn a b := by
  unfold mn
  split <;> split <;> omega
end Go.Proofs.YtelhmdhhabgihaaGreatDoor

namespace Go.Proofs.YtelhmdhhabgihaaGreatDoor
open Go.RowKit

set_option maxHeartbeats 2000000 in
theorem rexponents_any (p0 p1 p2 p3 p4 p5 : Int) (w : World) (hv : allIn ⟨p0, p1, p2, p3, p4, p5⟩ 1152 6 = true) :
    Calls Tryz.prog 26 #[.agg #[.int .i64 p0, .int .i64 p1, .int .i64 p2, .int .i64 p3, .int .i64 p4, .int .i64 p5]] w
      fun e w' => e = .returned (.agg #[.int .i64 (sumLo ⟨p0, p1, p2, p3, p4, p5⟩ 6), .int .i64 (sumHi ⟨p0, p1, p2, p3, p4, p5⟩ 6)]) ∧ Gr w w' := by
  have HV := Lib.hid hv; clear hv
  go_enter Tryz.func26, Tryz.ntmps26
  go_wp2_with fail
  go_loopw [4] (fun i wr => ∃ k : Nat, k ≤ 6 ∧ i = .int .i64 k ∧ ExpRel ⟨p0, p1, p2, p3, p4, p5⟩ (((w.alloc (.cells #[.int .i64 p0, .int .i64 p1, .int .i64 p2, .int .i64 p3, .int .i64 p4, .int .i64 p5] 52)).alloc (.cells #[.int .i64 0, .int .i64 0] 59)).alloc (.cells #[.int .i64 0, .int .i64 0] 59)) w.heap.size k wr) (fun i _ => 6 - (intOf i).toNat)
  case atStart => exact ⟨0, by omega, rfl, ⟨Below.refl _ _, by simp, by simp [go_sem, sumLo], by simp [go_sem, sumHi], by simp [go_sem], by simp [go_sem]⟩⟩
  case round =>
    obtain ⟨k, hk, rfl, hR⟩ := hrel
    have hv := HV.out
    by_cases hlt : k < 6
    · have hx : wr.cell? ⟨w.heap.size, k, none⟩ = some (.int .i64 (V6.get ⟨p0, p1, p2, p3, p4, p5⟩ k)) := by
        rw [Below.cell (p := ⟨w.heap.size, k, none⟩) hR.below (by simp)]
        obtain rfl | rfl | rfl | rfl | rfl | rfl : k = 0 ∨ k = 1 ∨ k = 2 ∨ k = 3 ∨ k = 4 ∨ k = 5 := by omega
        all_goals simp [go_sem, V6.get]
      have x1 := (allIn_get hv k hlt).1
      have x2 := (allIn_get hv k hlt).2
      obtain ⟨y1, y2, y3⟩ := log_bd k hlt
      have m1 := mul_bd x1 x2 (show 0 ≤ logLo k by omega) (by omega)
      have m2 := mul_bd x1 x2 (show 0 ≤ logHi k by omega) (by omega)
      obtain ⟨s1, s2⟩ := sum_bd hv k hk
      have HL := Lib.hid (sumLo_mn ⟨p0, p1, p2, p3, p4, p5⟩ k hlt)
      have HH := Lib.hid (sumHi_mx ⟨p0, p1, p2, p3, p4, p5⟩ k hlt)
      clear hv
      generalize V6.get ⟨p0, p1, p2, p3, p4, p5⟩ k = x at hx x1 x2 m1 m2 HL HH
      have w1 : IntKind.i64.wrap (x * logLo k) = x * logLo k := IntWalk.i64_in _ (by omega)
      have w2 : IntKind.i64.wrap (x * logHi k) = x * logHi k := IntWalk.i64_in _ (by omega)
      have hz0 : w.heap.size < wr.heap.size := by have := hR.size; omega
      go_wp2
      go_region_held3 (fun wx => wx.cell? ⟨w.heap.size, k, none⟩ = some (.int .i64 x) ∧ ExpRel ⟨p0, p1, p2, p3, p4, p5⟩ (((w.alloc (.cells #[.int .i64 p0, .int .i64 p1, .int .i64 p2, .int .i64 p3, .int .i64 p4, .int .i64 p5] 52)).alloc (.cells #[.int .i64 0, .int .i64 0] 59)).alloc (.cells #[.int .i64 0, .int .i64 0] 59)) w.heap.size k wx) ((first | exact ⟨hx, hR.drew⟩ | exact ⟨(Below.cell (p := ⟨w.heap.size, k, none⟩) hb hz0).trans hx, hR.drew.call hb⟩))
        (first | (go_at_call 42; refine (rlower_any k hlt _).mono ?_; rintro e w' ⟨rfl, hb⟩))
      have hx2 := (Below.cell (p := ⟨w.heap.size, k, none⟩) hb hz0).trans hx
      have hR2 := hR.drew.call hb
      have hz2 : w.heap.size < w'.heap.size := by have := hR2.size; omega
      have HR1 := Lib.hid hR
      clear hx hb hz0 hR
      go_wp2
      go_region_held3 (fun wx => wx.cell? ⟨w.heap.size, k, none⟩ = some (.int .i64 x) ∧ ExpRel ⟨p0, p1, p2, p3, p4, p5⟩ (((w.alloc (.cells #[.int .i64 p0, .int .i64 p1, .int .i64 p2, .int .i64 p3, .int .i64 p4, .int .i64 p5] 52)).alloc (.cells #[.int .i64 0, .int .i64 0] 59)).alloc (.cells #[.int .i64 0, .int .i64 0] 59)) w.heap.size k wx) ((first | exact ⟨hx2, hR2.drew⟩ | exact ⟨(Below.cell (p := ⟨w.heap.size, k, none⟩) hb hz2).trans hx2, hR2.drew.call hb⟩))
        (first | (go_at_call 43; refine (rupper_any k hlt _).mono ?_; rintro e w' ⟨rfl, hb⟩))
      have hR3 := hR2.drew.call hb
      obtain ⟨hbe, hsz, clo, chi, flo, fhi⟩ := hR3
      clear hx2 hb hz2 hR2
      generalize logLo k = y at *
      generalize logHi k = z at *
      generalize sumLo ⟨p0, p1, p2, p3, p4, p5⟩ k = p at *
      generalize sumHi ⟨p0, p1, p2, p3, p4, p5⟩ k = q at *
      have hm1 : (if x * z < x * y then x * z else x * y) = mn (x * y) (x * z) := rfl
      have hm2 : (if x * y < x * z then x * z else x * y) = mx (x * y) (x * z) := rfl
      have e1 := mn_facts (x * y) (x * z)
      have e2 := mx_facts (x * y) (x * z)
      have f1 : -4608000000000 ≤ mn (x * y) (x * z) := by omega
      have f2 : mn (x * y) (x * z) ≤ 4608000000000 := by omega
      have f3 : -4608000000000 ≤ mx (x * y) (x * z) := by omega
      have f4 : mx (x * y) (x * z) ≤ 4608000000000 := by omega
      clear e1 e2
      go_wp2
      go_roundw
      case rel =>
        refine ⟨k + 1, by omega, by go_num, ⟨?_, by simp; omega, ?_, ?_, ?_, ?_⟩⟩
        · exact (by repeat (first | assumption | refine Below.drew ?_ | refine Below.setCell ?_ (by (try simp); (try omega)) _ | refine Below.alloc ?_ (by (try simp); (try omega)) _))
        · rw [HL.out]; simp [go_sem, *]
        · rw [HH.out]; simp [go_sem, *]
        · simp [go_sem, *]
        · simp [go_sem, *]
      case measure => simp [intOf]; omega
    · obtain rfl : k = 6 := by omega
      obtain ⟨hbe, hsz, clo, chi, flo, fhi⟩ := hR
      have hc : ∀ b o, b < w.heap.size + 2 → wr.cell? ⟨b, o, none⟩ = _ := fun b o hb => Below.cell (p := ⟨b, o, none⟩) hbe hb
      have hf : ∀ b o, b < w.heap.size + 2 → wr.frozen? ⟨b, o, none⟩ = _ := fun b o hb => Below.frozen (p := ⟨b, o, none⟩) hbe hb
      have hz0 : w.heap.size < wr.heap.size := by omega
      have hz1 : w.heap.size + 1 < wr.heap.size := by omega
      have hw : Gr w wr := Gr.below (Gr.alloc (Gr.alloc (Gr.alloc (Gr.refl _) _) _) _) hbe (by omega)
      go_wp2
      exact bodyPost_ret (v := .agg #[.int .i64 (sumLo ⟨p0, p1, p2, p3, p4, p5⟩ 6), .int .i64 (sumHi ⟨p0, p1, p2, p3, p4, p5⟩ 6)]) (by simp [results, Tryz.results26, go_sem, *]) rfl ⟨rfl, (by repeat (first | exact Gr.refl _ | refine Gr.alloc ?_ _ | refine Gr.drew ?_ | refine Gr.trans ?_ (by assumption) | refine Gr.setCell ?_ (by (try simp); (try omega)) _))⟩
end Go.Proofs.YtelhmdhhabgihaaGreatDoor

