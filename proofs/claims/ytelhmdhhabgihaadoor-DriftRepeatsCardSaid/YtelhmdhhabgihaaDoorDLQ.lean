/-
  The law DriftRepeats.
-/
import Derived.Test.YtelhmdhhabgihaaDoorDLP
namespace Go.Proofs.YtelhmdhhabgihaaDoor
open Go.RowKit

theorem sum_le (u : V6) (n : Nat) (hn : n ≤ 6) : sumLo u n ≤ sumHi u n := by
  induction n with
  | zero => simp [sumLo, sumHi]
  | succ n ih =>
    have := ih (by omega)
    have b := log_bd n (by omega)
    simp only [sumLo, sumHi]
    by_cases c : u.get n < 0
    · simp only [if_pos c]
      have := Int.mul_le_mul_of_nonpos_left (show u.get n ≤ 0 by omega) b.2.1
      omega
    · simp only [if_neg c]
      have := Int.mul_le_mul_of_nonneg_left b.2.1 (show 0 ≤ u.get n by omega)
      omega
/-- So many times the exponents. -/
def scV (k : Int) (v : V6) : V6 := ⟨k * v.x0, k * v.x1, k * v.x2, k * v.x3, k * v.x4, k * v.x5⟩
theorem scV_get (k : Int) (v : V6) (j : Nat) (hj : j < 6) : (scV k v).get j = k * v.get j := by
  obtain rfl | rfl | rfl | rfl | rfl | rfl : j = 0 ∨ j = 1 ∨ j = 2 ∨ j = 3 ∨ j = 4 ∨ j = 5 := by omega
  all_goals rfl
theorem neg_get (v : V6) (j : Nat) (hj : j < 6) : v.neg.get j = -v.get j := by
  obtain rfl | rfl | rfl | rfl | rfl | rfl : j = 0 ∨ j = 1 ∨ j = 2 ∨ j = 3 ∨ j = 4 ∨ j = 5 := by omega
  all_goals rfl
theorem sum_scale (k : Nat) (v : V6) : ∀ n, n ≤ 6 → sumLo (scV (k : Int) v) n = (k : Int) * sumLo v n ∧ sumHi (scV (k : Int) v) n = (k : Int) * sumHi v n := by
  intro n
  induction n with
  | zero => intro _; simp [sumLo, sumHi]
  | succ n ih =>
    intro hn
    obtain ⟨i1, i2⟩ := ih (by omega)
    rcases Nat.eq_zero_or_pos k with rfl | hk
    · simp only [sumLo, sumHi, i1, i2, scV_get _ v n (by omega)]
      simp
    · have hs : ((k : Int) * v.get n < 0) = (v.get n < 0) := by
        apply propext
        constructor
        · intro h
          rcases Int.lt_or_le (v.get n) 0 with c | c
          · exact c
          · have := Int.mul_nonneg (show (0 : Int) ≤ (k : Int) by omega) c
            omega
        · intro h
          exact Int.mul_neg_of_pos_of_neg (by omega) h
      simp only [sumLo, sumHi, i1, i2, scV_get _ v n (by omega), hs]
      constructor <;> rw [Int.mul_add, Int.mul_assoc]
theorem sum_negV (v : V6) : ∀ n, n ≤ 6 → sumLo v.neg n = -sumHi v n ∧ sumHi v.neg n = -sumLo v n := by
  intro n
  induction n with
  | zero => intro _; simp [sumLo, sumHi]
  | succ n ih =>
    intro hn
    obtain ⟨i1, i2⟩ := ih (by omega)
    simp only [sumLo, sumHi, i1, i2, neg_get v n (by omega)]
    rcases Int.lt_trichotomy (v.get n) 0 with c | c | c
    · have c2 : ¬ -v.get n < 0 := by omega
      simp only [if_pos c, if_neg c2, Int.neg_mul]
      omega
    · rw [c]; simp
    · have c2 : -v.get n < 0 := by omega
      have c3 : ¬ v.get n < 0 := by omega
      simp only [if_pos c2, if_neg c3, Int.neg_mul]
      omega
/-- The sizes of k times a shift, if it is not the unison. -/
theorem shift_sizes (v : V6) (k : Nat) : (sumLo (scV (k : Int) ⟨v.x0 * 12, v.x1 * 12, v.x2 * 12, v.x3 * 12, v.x4 * 12, v.x5 * 12⟩) 6 = (k : Int) * sumLo (distV v) 6) ∨ (sumHi (scV (k : Int) ⟨v.x0 * 12, v.x1 * 12, v.x2 * 12, v.x3 * 12, v.x4 * 12, v.x5 * 12⟩) 6 = -((k : Int) * sumLo (distV v) 6)) := by
  have a := sum_scale k ⟨v.x0 * 12, v.x1 * 12, v.x2 * 12, v.x3 * 12, v.x4 * 12, v.x5 * 12⟩ 6 (by omega)
  rw [distV_law]
  by_cases c : signV v < 0
  · rw [if_pos c]
    right
    have b := sum_negV ⟨v.x0 * 12, v.x1 * 12, v.x2 * 12, v.x3 * 12, v.x4 * 12, v.x5 * 12⟩ 6 (by omega)
    have e : (V6.neg ⟨v.x0 * 12, v.x1 * 12, v.x2 * 12, v.x3 * 12, v.x4 * 12, v.x5 * 12⟩) = ⟨-(v.x0 * 12), -(v.x1 * 12), -(v.x2 * 12), -(v.x3 * 12), -(v.x4 * 12), -(v.x5 * 12)⟩ := rfl
    rw [e] at b
    rw [a.2, b.1, Int.mul_neg, Int.neg_neg]
  · rw [if_neg c]
    left
    exact a.1
theorem near_far {v : V6} {k : Nat} {x : Int} (hk : x * 10000 < (k : Int) * sumLo (distV v) 6) : surelyI (sumLo (scV (k : Int) ⟨v.x0 * 12, v.x1 * 12, v.x2 * 12, v.x3 * 12, v.x4 * 12, v.x5 * 12⟩) 6) (sumHi (scV (k : Int) ⟨v.x0 * 12, v.x1 * 12, v.x2 * 12, v.x3 * 12, v.x4 * 12, v.x5 * 12⟩) 6) (-10000 * x) (10000 * x) = -1 := by
  have hle := sum_le (scV (k : Int) ⟨v.x0 * 12, v.x1 * 12, v.x2 * 12, v.x3 * 12, v.x4 * 12, v.x5 * 12⟩) 6 (by omega)
  have hs := shift_sizes v k
  generalize sumLo (scV (k : Int) ⟨v.x0 * 12, v.x1 * 12, v.x2 * 12, v.x3 * 12, v.x4 * 12, v.x5 * 12⟩) 6 = lo at *
  generalize sumHi (scV (k : Int) ⟨v.x0 * 12, v.x1 * 12, v.x2 * 12, v.x3 * 12, v.x4 * 12, v.x5 * 12⟩) 6 = hi at *
  generalize (k : Int) * sumLo (distV v) 6 = z at *
  unfold surelyI
  rw [if_neg (by omega), if_pos (by omega)]
theorem near_not {v : V6} {k : Nat} {x : Int} (hx : 0 ≤ x) (h : 0 < sumLo (distV v) 6) (hk : (k : Int) * sumLo (distV v) 6 ≤ x * 10000) : surelyI (sumLo (scV (k : Int) ⟨v.x0 * 12, v.x1 * 12, v.x2 * 12, v.x3 * 12, v.x4 * 12, v.x5 * 12⟩) 6) (sumHi (scV (k : Int) ⟨v.x0 * 12, v.x1 * 12, v.x2 * 12, v.x3 * 12, v.x4 * 12, v.x5 * 12⟩) 6) (-10000 * x) (10000 * x) ≠ -1 := by
  have hle := sum_le (scV (k : Int) ⟨v.x0 * 12, v.x1 * 12, v.x2 * 12, v.x3 * 12, v.x4 * 12, v.x5 * 12⟩) 6 (by omega)
  have hs := shift_sizes v k
  have hz : 0 ≤ (k : Int) * sumLo (distV v) 6 := Int.mul_nonneg (by omega) (by omega)
  generalize sumLo (scV (k : Int) ⟨v.x0 * 12, v.x1 * 12, v.x2 * 12, v.x3 * 12, v.x4 * 12, v.x5 * 12⟩) 6 = lo at *
  generalize sumHi (scV (k : Int) ⟨v.x0 * 12, v.x1 * 12, v.x2 * 12, v.x3 * 12, v.x4 * 12, v.x5 * 12⟩) 6 = hi at *
  generalize (k : Int) * sumLo (distV v) 6 = z at *
  unfold surelyI
  split
  · omega
  · rw [if_neg (by omega)]; omega
theorem repV_facts {nm : Nat → ByteArray} {f : Nat → Nat → Int} {n : Nat} {t : Nat → Nat → Int} {m : Nat} {x : Int} (h : repE nm f n t m x = 0) : walkOk nm f n t m = true ∧ 0 ≤ x ∧ x ≤ 2400000 ∧ rangeB f t m = true ∧ 0 < sumLo (repD f t m) 6 ∧ ∃ J : Nat, repV nm f n t m x = (J : Int) + 1 ∧ (J : Int) * sumLo (repD f t m) 6 ≤ x * 10000 ∧ x * 10000 < ((J : Int) + 1) * sumLo (repD f t m) 6 := by
  have hV : repV nm f n t m x = (x * 10000).tdiv (sumLo (repD f t m) 6) + 1 := by unfold repV; rw [if_pos h]
  unfold repE at h
  split at h
  · rename_i h1
    simp only [Bool.and_eq_true, decide_eq_true_eq] at h1
    split at h
    · rename_i h2
      split at h
      · rename_i h3
        refine ⟨h1.1, h1.2.1, h1.2.2, h2, h3, (x * 10000 / sumLo (repD f t m) 6).toNat, ?_⟩
        have hq : 0 ≤ x * 10000 / sumLo (repD f t m) 6 := Int.ediv_nonneg (by omega) (by omega)
        have hc : (((x * 10000 / sumLo (repD f t m) 6).toNat : Nat) : Int) = x * 10000 / sumLo (repD f t m) 6 := Int.toNat_of_nonneg hq
        rw [hV, hc, Int.tdiv_eq_ediv_of_nonneg (by omega)]
        have m1 := Int.mul_ediv_add_emod (x * 10000) (sumLo (repD f t m) 6)
        have m2 := Int.emod_nonneg (x * 10000) (show sumLo (repD f t m) 6 ≠ 0 by omega)
        have m3 := Int.emod_lt_of_pos (x * 10000) h3
        refine ⟨rfl, ?_, ?_⟩
        · have e := Int.mul_comm (x * 10000 / sumLo (repD f t m) 6) (sumLo (repD f t m) 6)
          omega
        · rw [Int.add_mul, Int.one_mul]
          have e := Int.mul_comm (x * 10000 / sumLo (repD f t m) 6) (sumLo (repD f t m) 6)
          omega
      · omega
    · omega
  · omega
theorem repV_mono {nm : Nat → ByteArray} {f : Nat → Nat → Int} {n : Nat} {t : Nat → Nat → Int} {m : Nat} {x y : Int} (h : repE nm f n t m x = 0) (hxy : x ≤ y) (hy : y ≤ 2400000) : repE nm f n t m y = 0 ∧ repV nm f n t m x ≤ repV nm f n t m y := by
  obtain ⟨h1, h2, h3, h4, h5, -⟩ := repV_facts h
  have hE : repE nm f n t m y = 0 := by
    unfold repE
    rw [if_pos (by rw [h1, Bool.true_and, decide_eq_true_eq]; omega), if_pos h4, if_pos h5]
  refine ⟨hE, ?_⟩
  unfold repV
  rw [if_pos h, if_pos hE, Int.tdiv_eq_ediv_of_nonneg (by omega), Int.tdiv_eq_ediv_of_nonneg (by omega)]
  have := Int.ediv_le_ediv h5 (show x * 10000 ≤ y * 10000 by omega)
  omega
set_option maxRecDepth 100000 in
set_option maxHeartbeats 16000000 in
theorem drep_law (A B : Option Addr) (n ca m d : Nat) (nm : Nat → ByteArray) (f t : Nat → Nat → Int) (x y : Int) (w : World) (hP : Primes w) (hL : Logs w) (hA : NamedAt w A n nm f) (hB : RowsAt w 4 B m t) :
    Calls Tryd.prog 8 #[.slice A n ca, .slice B m d, .int .i64 x, .int .i64 y] w fun e w' => e = .returned (.bool true) ∧ Gr w w' := by
  have hR1 := fun W (g : Gr w W) => repeats_any A B n ca m d nm f t W x (hA.keep g) (hB.keep g) (hP.keep g) (hL.keep g)
  have hR2 := fun W (g : Gr w W) => repeats_any A B n ca m d nm f t W y (hA.keep g) (hB.keep g) (hP.keep g) (hL.keep g)
  have HP := Lib.hid hP; have HLG := Lib.hid hL
  by_cases hE : repE nm f n t m x = 0
  · obtain ⟨h1, h2, h3, h4, h5, J, hJ, hlo, hhi⟩ := repV_facts hE
    have HLST := Lib.hid (fun k (hk : k ≤ 15) W (g : Gr w W) => last_any A B n ca m d nm f t k W (hA.keep g) (hB.keep g) h1 hk)
    have HMON := Lib.hid (fun h q => repV_mono (y := y) hE h q)
    have HNA : Hid (∀ y0 y1 y2 y3 y4 y5 : Int, (allIn ⟨y0, y1, y2, y3, y4, y5⟩ 576 6 = true ∧ (⟨y0, y1, y2, y3, y4, y5⟩ : V6) = ⟨((J + 1 : Nat) : Int) * (shP f t m 0 * 12), ((J + 1 : Nat) : Int) * (shP f t m 1 * 12), ((J + 1 : Nat) : Int) * (shP f t m 2 * 12), ((J + 1 : Nat) : Int) * (shP f t m 3 * 12), ((J + 1 : Nat) : Int) * (shP f t m 4 * 12), ((J + 1 : Nat) : Int) * (shP f t m 5 * 12)⟩) → ∀ W, Gr w W → Calls Tryd.prog 24 #[.agg #[.int .i64 y0, .int .i64 y1, .int .i64 y2, .int .i64 y3, .int .i64 y4, .int .i64 y5], .agg #[.int .i64 0, .int .i64 0, .int .i64 0, .int .i64 0, .int .i64 0, .int .i64 0], .int .i64 x] W fun e w' => e = .returned (.tuple #[.int .i64 (-1), .int .i64 0]) ∧ Gr W w') := Lib.hid (fun y0 y1 y2 y3 y4 y5 h W g => by
      have z := near_ok y0 y1 y2 y3 y4 y5 0 0 0 0 0 0 x W (hL.keep g) h.1 (by decide) h2 h3
      simp only [Int.sub_zero] at z
      rw [h.2] at z
      have q := near_far (v := rowV (shP f t) m) (k := J + 1) (by rw [Int.natCast_add]; exact hhi)
      unfold scV at q
      simp only [rowV] at q
      rw [q] at z
      exact z)
    have HNB : Hid (∀ y0 y1 y2 y3 y4 y5 : Int, (allIn ⟨y0, y1, y2, y3, y4, y5⟩ 576 6 = true ∧ (⟨y0, y1, y2, y3, y4, y5⟩ : V6) = ⟨(J : Int) * (shP f t m 0 * 12), (J : Int) * (shP f t m 1 * 12), (J : Int) * (shP f t m 2 * 12), (J : Int) * (shP f t m 3 * 12), (J : Int) * (shP f t m 4 * 12), (J : Int) * (shP f t m 5 * 12)⟩) → ∃ X : Int, (∀ W, Gr w W → Calls Tryd.prog 24 #[.agg #[.int .i64 y0, .int .i64 y1, .int .i64 y2, .int .i64 y3, .int .i64 y4, .int .i64 y5], .agg #[.int .i64 0, .int .i64 0, .int .i64 0, .int .i64 0, .int .i64 0, .int .i64 0], .int .i64 x] W fun e w' => e = .returned (.tuple #[.int .i64 (X), .int .i64 0]) ∧ Gr W w') ∧ X ≠ -1) := Lib.hid (fun y0 y1 y2 y3 y4 y5 h => by
      have q := near_not (v := rowV (shP f t) m) (k := J) h2 h5 hlo
      unfold scV at q
      simp only [rowV] at q
      refine ⟨_, fun W g => ?_, q⟩
      have z := near_ok y0 y1 y2 y3 y4 y5 0 0 0 0 0 0 x W (hL.keep g) h.1 (by decide) h2 h3
      simp only [Int.sub_zero] at z
      rw [h.2] at z
      exact z)
    obtain ⟨K, hK⟩ : ∃ K, K = J + 1 := ⟨_, rfl⟩
    rw [← hK] at HNA
    have hJK : repV nm f n t m x = (K : Int) := by rw [hJ, hK]; simp
    rw [hJK] at HMON
    rw [hE, hJK] at hR1
    have hwK : IntKind.i64.wrap ((K : Int) - 1) = (J : Int) := by
      have : repV nm f n t m x ≤ 24000000001 := by
        rw [hJ]
        have a1 : (J : Int) * 1 ≤ (J : Int) * sumLo (repD f t m) 6 := Int.mul_le_mul_of_nonneg_left (by omega) (by omega)
        omega
      exact (IntWalk.i64_in _ ⟨by omega, by omega⟩).trans (by omega)
    have hK1 : decide ((K : Int) < 1) = false := decide_eq_false (by omega)
    have HR1 := Lib.hid hR1
    have HKJ := Lib.hid hK
    have hJ0 : (0 : Int) ≤ (J : Int) := by omega
    clear hK
    clear hR1 hP hL hA hB hE h1 h2 h3 h4 h5 hJ hlo hhi hJK
    by_cases hm : x ≤ y ∧ y ≤ 2400000
    · obtain ⟨m1, m2⟩ := HMON.out hm.1 hm.2
      rw [m1] at hR2
      have c1 : decide (x ≤ y) = true := decide_eq_true hm.1
      have c2 : decide (y ≤ 2400000) = true := decide_eq_true hm.2
      generalize repV nm f n t m y = V2 at *
      have c3 : decide (V2 < (K : Int)) = false := decide_eq_false (by omega)
      have HR2 := Lib.hid hR2
      clear hR2 m1 m2 hm HMON
      go_enter Tryd.func8, Tryd.ntmps8
      go_wp2_with fail
      go_at_call 10
      refine (dhead_any _ HP.out HLG.out).mono ?_
      rintro e w0 ⟨rfl, hg0⟩
      have HG0 := Lib.hid hg0
      clear hg0
      go_wp2_with fail
      go_at_call 22
      refine (HR1.out _ HG0.out).mono ?_
      rintro e w1 ⟨rfl, hg1⟩
      have HG1 := Lib.hid (HG0.out.trans hg1)
      clear hg1
      go_wp2_with fail
      go_at_call 22
      refine (HR2.out _ HG1.out).mono ?_
      rintro e w2 ⟨rfl, hg2⟩
      have HG2 := Lib.hid (HG1.out.trans hg2)
      clear hg2
      by_cases h15 : 15 < K
      · have b15 : decide (15 < (K : Int)) = true := decide_eq_true (by omega)
        have b15' : decide (15 < K) = true := decide_eq_true h15
        go_wp2_with fail
        go_ret
        exact ⟨rfl, HG2.out⟩
      · have b15 : decide (15 < (K : Int)) = false := decide_eq_false (by omega)
        have b15' : decide (15 < K) = false := decide_eq_false h15
        have HLA := Lib.hid (fun W q => HLST.out K (by omega) W q)
        have HLB := Lib.hid (fun W q => HLST.out J (by have := HKJ.out; omega) W q)
        clear h15 HLST
        go_wp2_with fail
        go_at_call 23
        refine (HLA.out _ HG2.out).mono ?_
        rintro e w3 ⟨y0, y1, y2, y3, y4, y5, ok, rfl, hok, hg3⟩
        have HG3 := Lib.hid (HG2.out.trans hg3)
        clear hg3
        cases ok with
        | false =>
          clear hok
          have HG4 := Lib.hid (HG3.out.trans ((Gr.refl w3).alloc (.cells #[.int .i64 y0, .int .i64 y1, .int .i64 y2, .int .i64 y3, .int .i64 y4, .int .i64 y5] 32)))
          go_wp2_with fail
          go_at_call 23
          refine (HLB.out _ HG4.out).mono ?_
          rintro e w5 ⟨z0, z1, z2, z3, z4, z5, ok, rfl, hok, hg5⟩
          have HG5 := Lib.hid (HG4.out.trans hg5)
          clear hg5
          cases ok with
          | false =>
            go_wp2_with fail
            go_ret
            exact ⟨rfl, HG5.out.trans (by repeat (first | with_reducible exact Gr.refl _ | with_reducible refine Gr.alloc ?_ _ | with_reducible refine Gr.drew ?_ | with_reducible refine Gr.trans ?_ (by assumption) | with_reducible refine Gr.setCell ?_ (by (try simp); (try omega)) _))⟩
          | true =>
            obtain ⟨X, hX, hX1⟩ := HNB.out z0 z1 z2 z3 z4 z5 (hok rfl)
            have hXb : (X == -1) = false := by simp [hX1]
            have hXc : (X != -1) = true := by simp [hX1]
            have HX := Lib.hid hX
            clear hok hX hX1
            go_wp2_with fail
            go_at_call 24
            refine (HX.out _ (HG5.out.trans ((Gr.refl _).alloc _))).mono ?_
            rintro e w6 ⟨rfl, hg6⟩
            have HG6 := Lib.hid (HG5.out.trans (((Gr.refl _).alloc _).trans hg6))
            clear hg6
            go_wp2_with fail
            go_ret
            exact ⟨rfl, HG6.out⟩
        | true =>
          have HX := Lib.hid (HNA.out y0 y1 y2 y3 y4 y5 (hok rfl))
          clear hok
          go_wp2_with fail
          go_at_call 24
          refine (HX.out _ (HG3.out.trans ((Gr.refl _).alloc _))).mono ?_
          rintro e w4 ⟨rfl, hg4⟩
          have HG4 := Lib.hid (HG3.out.trans (((Gr.refl _).alloc _).trans hg4))
          clear hg4
          go_wp2_with fail
          go_at_call 23
          refine (HLB.out _ HG4.out).mono ?_
          rintro e w5 ⟨z0, z1, z2, z3, z4, z5, ok, rfl, hok, hg5⟩
          have HG5 := Lib.hid (HG4.out.trans hg5)
          clear hg5
          cases ok with
          | false =>
            go_wp2_with fail
            go_ret
            exact ⟨rfl, HG5.out.trans (by repeat (first | with_reducible exact Gr.refl _ | with_reducible refine Gr.alloc ?_ _ | with_reducible refine Gr.drew ?_ | with_reducible refine Gr.trans ?_ (by assumption) | with_reducible refine Gr.setCell ?_ (by (try simp); (try omega)) _))⟩
          | true =>
            obtain ⟨X, hX, hX1⟩ := HNB.out z0 z1 z2 z3 z4 z5 (hok rfl)
            have hXb : (X == -1) = false := by simp [hX1]
            have hXc : (X != -1) = true := by simp [hX1]
            have HX := Lib.hid hX
            clear hok hX hX1
            go_wp2_with fail
            go_at_call 24
            refine (HX.out _ (HG5.out.trans ((Gr.refl _).alloc _))).mono ?_
            rintro e w6 ⟨rfl, hg6⟩
            have HG6 := Lib.hid (HG5.out.trans (((Gr.refl _).alloc _).trans hg6))
            clear hg6
            go_wp2_with fail
            go_ret
            exact ⟨rfl, HG6.out⟩
    · have HR2 := Lib.hid hR2
      clear hR2 HR2 HMON
      by_cases hm1 : x ≤ y
      · have c1 : decide (x ≤ y) = true := decide_eq_true hm1
        have c2 : decide (y ≤ 2400000) = false := decide_eq_false (by omega)
        clear hm hm1
        go_enter Tryd.func8, Tryd.ntmps8
        go_wp2_with fail
        go_at_call 10
        refine (dhead_any _ HP.out HLG.out).mono ?_
        rintro e w0 ⟨rfl, hg0⟩
        have HG0 := Lib.hid hg0
        clear hg0
        go_wp2_with fail
        go_at_call 22
        refine (HR1.out _ HG0.out).mono ?_
        rintro e w1 ⟨rfl, hg1⟩
        have HG1 := Lib.hid (HG0.out.trans hg1)
        clear hg1
        by_cases h15 : 15 < K
        · have b15 : decide (15 < (K : Int)) = true := decide_eq_true (by omega)
          have b15' : decide (15 < K) = true := decide_eq_true h15
          go_wp2_with fail
          go_ret
          exact ⟨rfl, HG1.out⟩
        · have b15 : decide (15 < (K : Int)) = false := decide_eq_false (by omega)
          have b15' : decide (15 < K) = false := decide_eq_false h15
          have HLA := Lib.hid (fun W q => HLST.out K (by omega) W q)
          have HLB := Lib.hid (fun W q => HLST.out J (by have := HKJ.out; omega) W q)
          clear h15 HLST
          go_wp2_with fail
          go_at_call 23
          refine (HLA.out _ HG1.out).mono ?_
          rintro e w3 ⟨y0, y1, y2, y3, y4, y5, ok, rfl, hok, hg3⟩
          have HG3 := Lib.hid (HG1.out.trans hg3)
          clear hg3
          cases ok with
          | false =>
            clear hok
            have HG4 := Lib.hid (HG3.out.trans ((Gr.refl w3).alloc (.cells #[.int .i64 y0, .int .i64 y1, .int .i64 y2, .int .i64 y3, .int .i64 y4, .int .i64 y5] 32)))
            go_wp2_with fail
            go_at_call 23
            refine (HLB.out _ HG4.out).mono ?_
            rintro e w5 ⟨z0, z1, z2, z3, z4, z5, ok, rfl, hok, hg5⟩
            have HG5 := Lib.hid (HG4.out.trans hg5)
            clear hg5
            cases ok with
            | false =>
              go_wp2_with fail
              go_ret
              exact ⟨rfl, HG5.out.trans (by repeat (first | with_reducible exact Gr.refl _ | with_reducible refine Gr.alloc ?_ _ | with_reducible refine Gr.drew ?_ | with_reducible refine Gr.trans ?_ (by assumption) | with_reducible refine Gr.setCell ?_ (by (try simp); (try omega)) _))⟩
            | true =>
              obtain ⟨X, hX, hX1⟩ := HNB.out z0 z1 z2 z3 z4 z5 (hok rfl)
              have hXb : (X == -1) = false := by simp [hX1]
              have hXc : (X != -1) = true := by simp [hX1]
              have HX := Lib.hid hX
              clear hok hX hX1
              go_wp2_with fail
              go_at_call 24
              refine (HX.out _ (HG5.out.trans ((Gr.refl _).alloc _))).mono ?_
              rintro e w6 ⟨rfl, hg6⟩
              have HG6 := Lib.hid (HG5.out.trans (((Gr.refl _).alloc _).trans hg6))
              clear hg6
              go_wp2_with fail
              go_ret
              exact ⟨rfl, HG6.out⟩
          | true =>
            have HX := Lib.hid (HNA.out y0 y1 y2 y3 y4 y5 (hok rfl))
            clear hok
            go_wp2_with fail
            go_at_call 24
            refine (HX.out _ (HG3.out.trans ((Gr.refl _).alloc _))).mono ?_
            rintro e w4 ⟨rfl, hg4⟩
            have HG4 := Lib.hid (HG3.out.trans (((Gr.refl _).alloc _).trans hg4))
            clear hg4
            go_wp2_with fail
            go_at_call 23
            refine (HLB.out _ HG4.out).mono ?_
            rintro e w5 ⟨z0, z1, z2, z3, z4, z5, ok, rfl, hok, hg5⟩
            have HG5 := Lib.hid (HG4.out.trans hg5)
            clear hg5
            cases ok with
            | false =>
              go_wp2_with fail
              go_ret
              exact ⟨rfl, HG5.out.trans (by repeat (first | with_reducible exact Gr.refl _ | with_reducible refine Gr.alloc ?_ _ | with_reducible refine Gr.drew ?_ | with_reducible refine Gr.trans ?_ (by assumption) | with_reducible refine Gr.setCell ?_ (by (try simp); (try omega)) _))⟩
            | true =>
              obtain ⟨X, hX, hX1⟩ := HNB.out z0 z1 z2 z3 z4 z5 (hok rfl)
              have hXb : (X == -1) = false := by simp [hX1]
              have hXc : (X != -1) = true := by simp [hX1]
              have HX := Lib.hid hX
              clear hok hX hX1
              go_wp2_with fail
              go_at_call 24
              refine (HX.out _ (HG5.out.trans ((Gr.refl _).alloc _))).mono ?_
              rintro e w6 ⟨rfl, hg6⟩
              have HG6 := Lib.hid (HG5.out.trans (((Gr.refl _).alloc _).trans hg6))
              clear hg6
              go_wp2_with fail
              go_ret
              exact ⟨rfl, HG6.out⟩
      · have c1 : decide (x ≤ y) = false := decide_eq_false hm1
        clear hm hm1
        go_enter Tryd.func8, Tryd.ntmps8
        go_wp2_with fail
        go_at_call 10
        refine (dhead_any _ HP.out HLG.out).mono ?_
        rintro e w0 ⟨rfl, hg0⟩
        have HG0 := Lib.hid hg0
        clear hg0
        go_wp2_with fail
        go_at_call 22
        refine (HR1.out _ HG0.out).mono ?_
        rintro e w1 ⟨rfl, hg1⟩
        have HG1 := Lib.hid (HG0.out.trans hg1)
        clear hg1
        by_cases h15 : 15 < K
        · have b15 : decide (15 < (K : Int)) = true := decide_eq_true (by omega)
          have b15' : decide (15 < K) = true := decide_eq_true h15
          go_wp2_with fail
          go_ret
          exact ⟨rfl, HG1.out⟩
        · have b15 : decide (15 < (K : Int)) = false := decide_eq_false (by omega)
          have b15' : decide (15 < K) = false := decide_eq_false h15
          have HLA := Lib.hid (fun W q => HLST.out K (by omega) W q)
          have HLB := Lib.hid (fun W q => HLST.out J (by have := HKJ.out; omega) W q)
          clear h15 HLST
          go_wp2_with fail
          go_at_call 23
          refine (HLA.out _ HG1.out).mono ?_
          rintro e w3 ⟨y0, y1, y2, y3, y4, y5, ok, rfl, hok, hg3⟩
          have HG3 := Lib.hid (HG1.out.trans hg3)
          clear hg3
          cases ok with
          | false =>
            clear hok
            have HG4 := Lib.hid (HG3.out.trans ((Gr.refl w3).alloc (.cells #[.int .i64 y0, .int .i64 y1, .int .i64 y2, .int .i64 y3, .int .i64 y4, .int .i64 y5] 32)))
            go_wp2_with fail
            go_at_call 23
            refine (HLB.out _ HG4.out).mono ?_
            rintro e w5 ⟨z0, z1, z2, z3, z4, z5, ok, rfl, hok, hg5⟩
            have HG5 := Lib.hid (HG4.out.trans hg5)
            clear hg5
            cases ok with
            | false =>
              go_wp2_with fail
              go_ret
              exact ⟨rfl, HG5.out.trans (by repeat (first | with_reducible exact Gr.refl _ | with_reducible refine Gr.alloc ?_ _ | with_reducible refine Gr.drew ?_ | with_reducible refine Gr.trans ?_ (by assumption) | with_reducible refine Gr.setCell ?_ (by (try simp); (try omega)) _))⟩
            | true =>
              obtain ⟨X, hX, hX1⟩ := HNB.out z0 z1 z2 z3 z4 z5 (hok rfl)
              have hXb : (X == -1) = false := by simp [hX1]
              have hXc : (X != -1) = true := by simp [hX1]
              have HX := Lib.hid hX
              clear hok hX hX1
              go_wp2_with fail
              go_at_call 24
              refine (HX.out _ (HG5.out.trans ((Gr.refl _).alloc _))).mono ?_
              rintro e w6 ⟨rfl, hg6⟩
              have HG6 := Lib.hid (HG5.out.trans (((Gr.refl _).alloc _).trans hg6))
              clear hg6
              go_wp2_with fail
              go_ret
              exact ⟨rfl, HG6.out⟩
          | true =>
            have HX := Lib.hid (HNA.out y0 y1 y2 y3 y4 y5 (hok rfl))
            clear hok
            go_wp2_with fail
            go_at_call 24
            refine (HX.out _ (HG3.out.trans ((Gr.refl _).alloc _))).mono ?_
            rintro e w4 ⟨rfl, hg4⟩
            have HG4 := Lib.hid (HG3.out.trans (((Gr.refl _).alloc _).trans hg4))
            clear hg4
            go_wp2_with fail
            go_at_call 23
            refine (HLB.out _ HG4.out).mono ?_
            rintro e w5 ⟨z0, z1, z2, z3, z4, z5, ok, rfl, hok, hg5⟩
            have HG5 := Lib.hid (HG4.out.trans hg5)
            clear hg5
            cases ok with
            | false =>
              go_wp2_with fail
              go_ret
              exact ⟨rfl, HG5.out.trans (by repeat (first | with_reducible exact Gr.refl _ | with_reducible refine Gr.alloc ?_ _ | with_reducible refine Gr.drew ?_ | with_reducible refine Gr.trans ?_ (by assumption) | with_reducible refine Gr.setCell ?_ (by (try simp); (try omega)) _))⟩
            | true =>
              obtain ⟨X, hX, hX1⟩ := HNB.out z0 z1 z2 z3 z4 z5 (hok rfl)
              have hXb : (X == -1) = false := by simp [hX1]
              have hXc : (X != -1) = true := by simp [hX1]
              have HX := Lib.hid hX
              clear hok hX hX1
              go_wp2_with fail
              go_at_call 24
              refine (HX.out _ (HG5.out.trans ((Gr.refl _).alloc _))).mono ?_
              rintro e w6 ⟨rfl, hg6⟩
              have HG6 := Lib.hid (HG5.out.trans (((Gr.refl _).alloc _).trans hg6))
              clear hg6
              go_wp2_with fail
              go_ret
              exact ⟨rfl, HG6.out⟩
  · have hV : repV nm f n t m x = 0 := by unfold repV; rw [if_neg hE]
    rw [hV] at hR1
    have HR1 := Lib.hid hR1
    clear hR1 hR2 hP hL hA hB hV
    generalize repE nm f n t m x = E at *
    have hEb : (E != 0) = true := by simpa using hE
    clear hE
    go_enter Tryd.func8, Tryd.ntmps8
    go_wp2_with fail
    go_at_call 10
    refine (dhead_any _ HP.out HLG.out).mono ?_
    rintro e w0 ⟨rfl, hg0⟩
    have HG0 := Lib.hid hg0
    clear hg0
    go_wp2_with fail
    go_at_call 22
    refine (HR1.out _ HG0.out).mono ?_
    rintro e w1 ⟨rfl, hg1⟩
    have HG1 := Lib.hid (HG0.out.trans hg1)
    clear hg1
    go_wp2_with fail
    go_ret
    exact ⟨rfl, HG1.out⟩
end Go.Proofs.YtelhmdhhabgihaaDoor
