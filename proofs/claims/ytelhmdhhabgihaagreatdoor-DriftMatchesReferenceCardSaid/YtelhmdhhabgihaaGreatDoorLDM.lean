/-
  The law DriftMatchesReference.
-/
import Derived.Test.YtelhmdhhabgihaaGreatDoorRDX
import Derived.Test.YtelhmdhhabgihaaGreatDoorDHd
namespace Go.Proofs.YtelhmdhhabgihaaGreatDoor
open Go.RowKit

theorem intAt_ints {w : World} {A : Option Addr} {l : List Nat} (h : IntsL w A l) : IntAt w A l.length (fun i => ((l.getD i 0 : Nat) : Int)) := by
  intro hl
  obtain ⟨b, off, e, hb, hc⟩ := h hl
  exact ⟨b, off, e, hb, fun i hi => hc i _ (by rw [List.getD_eq_getElem?_getD, List.getElem?_eq_getElem hi]; rfl)⟩
theorem walkN_le (nm : Nat → ByteArray) (f : Nat → Nat → Int) (n : Nat) (t : Nat → Nat → Int) (m : Nat) : walkN nm f n t m ≤ 16 := by
  rcases walkE_cases nm f n t m with ⟨-, e2, e3, -⟩ | ⟨-, e2⟩
  · simp only [walkOk, Bool.and_eq_true, decide_eq_true_eq] at e3
    omega
  · omega
theorem timN_le (nm : Nat → ByteArray) (f : Nat → Nat → Int) (n : Nat) (t : Nat → Nat → Int) (m : Nat) (x : Int) : timN nm f n t m x ≤ 225 := by
  unfold timN
  split
  · next h =>
    unfold timE at h
    split at h
    · next h1 =>
      simp only [Bool.and_eq_true, decide_eq_true_eq, walkOk] at h1
      exact Nat.mul_le_mul (show x.toNat ≤ 15 by omega) h1.1.2.1
    · cases h
  · omega
theorem same16_yes (A B : Option Addr) (n c d : Nat) (u : Nat → Int) (w : World) (hA : IntAt w A n u) (hB : IntAt w B n u) (hn : n ≤ 16) :
    Calls Tryz.prog 7 #[.slice A n c, .slice B n d] w fun e w' => e = .returned (.bool true) ∧ Gr w w' := by
  have z := same16_any A B n c n d u u w hA hB (by omega)
  rw [show (decide (n = n) && eqTo u u n) = true by rw [(eqTo_iff _ _ _).2 (fun _ _ => rfl)]; simp] at z
  exact z
set_option maxRecDepth 100000 in
set_option maxHeartbeats 16000000 in
theorem dmatch_law (A B : Option Addr) (n ca m d : Nat) (nm : Nat → ByteArray) (f t : Nat → Nat → Int) (x : Int) (w : World) (hP : Primes w) (hL : Logs w) (hA : NamedAt w A n nm f) (hB : RowsAt w 4 B m t) :
    Calls Tryz.prog 3 #[.slice A n ca, .slice B m d, .int .i64 x] w fun e w' => e = .returned (.bool true) ∧ Gr w w' := by
  have hn16 : (if walkOk nm f n t m then n else 0) ≤ 16 := by
    split
    · next h =>
      simp only [walkOk, Bool.and_eq_true] at h
      have := (commaB_parts h.1).2.1
      omega
    · omega
  have hh16 : (homeL (shP f t) (walkN nm f n t m)).length ≤ 16 := Nat.le_trans (homeL_len _ _) (walkN_le nm f n t m)
  have ht := timN_le nm f n t m x
  have HA1 := Lib.hid (fun W (g : Gr w W) => account_any A B n ca m d nm f t W (hA.keep g) (hB.keep g))
  have HA2 := Lib.hid (fun W (g : Gr w W) => raccount_any A B n ca m d nm f t W (hA.keep g) (hB.keep g))
  have HH1 := Lib.hid (fun W (g : Gr w W) => home_any A B n ca m d nm f t W (hA.keep g) (hB.keep g) (hP.keep g))
  have HH2 := Lib.hid (fun W (g : Gr w W) => rhome_any A B n ca m d nm f t W (hA.keep g) (hB.keep g))
  have HF1 := Lib.hid (fun W (g : Gr w W) => far_any A B n ca m d nm f t W (hA.keep g) (hB.keep g) (hP.keep g))
  have HF2 := Lib.hid (fun W (g : Gr w W) => rfar_any A B n ca m d nm f t W (hA.keep g) (hB.keep g))
  have HR1 := Lib.hid (fun W (g : Gr w W) => repeats_any A B n ca m d nm f t W x (hA.keep g) (hB.keep g) (hP.keep g) (hL.keep g))
  have HR2 := Lib.hid (fun W (g : Gr w W) => rrepeats_any A B n ca m d nm f t W x (hA.keep g) (hB.keep g))
  have HT1 := Lib.hid (fun W (g : Gr w W) => times_any A B n ca m d nm f t W (hA.keep g) (hB.keep g) x)
  have HT2 := Lib.hid (fun W (g : Gr w W) => rtimes_any A B n ca m d nm f t W (hA.keep g) (hB.keep g) x)
  have HP := Lib.hid hP; have HLG := Lib.hid hL
  clear hP hL hA hB
  generalize (if walkOk nm f n t m then n else 0) = L1 at *
  generalize (if walkOk nm f n t m then (0 : Int) else 1) = E1 at *
  generalize accP t m = u at *
  generalize homeL (shP f t) (walkN nm f n t m) = hl at *
  generalize farV nm f n t m = V3 at *
  generalize walkE nm f n t m = E2 at *
  generalize repV nm f n t m x = V4 at *
  generalize repE nm f n t m x = E4 at *
  generalize timN nm f n t m x = N5 at *
  generalize timE nm f n t m x = E5 at *
  generalize tmT t m = g5 at *
  go_enter Tryz.func3, Tryz.ntmps3
  go_wp2_with fail
  go_at_call 4
  refine (dhead_any _ HP.out HLG.out).mono ?_
  rintro e w0 ⟨rfl, hg0⟩
  have HG0 := Lib.hid hg0
  clear hg0
  go_wp2_with fail
  go_at_call 5
  refine (HA1.out _ HG0.out).mono ?_
  rintro e w1 ⟨A1, c1, rfl, hi1, -, hg1⟩
  have HG1 := Lib.hid (HG0.out.trans hg1); have HI1 := Lib.hid hi1
  clear hg1 hi1
  go_wp2_with fail
  go_at_call 6
  refine (HA2.out _ HG1.out).mono ?_
  rintro e w2 ⟨A2, c2, rfl, hi2, -, hg2⟩
  have HG2 := Lib.hid (HG1.out.trans hg2); have HI2 := Lib.hid hi2; have HJ2 := Lib.hid (HI1.out.keep hg2)
  clear hg2 hi2 HI1
  go_wp2_with fail
  go_at_call 7
  refine (same16_yes A1 A2 L1 c1 c2 u _ HJ2.out HI2.out hn16).mono ?_
  rintro e w3 ⟨rfl, hg3⟩
  have HG3 := Lib.hid (HG2.out.trans hg3)
  clear hg3 HI2 HJ2
  go_wp2_with fail
  go_at_call 8
  refine (HH1.out _ HG3.out).mono ?_
  rintro e w4 ⟨A4, c4, rfl, hi4, -, hg4⟩
  have HG4 := Lib.hid (HG3.out.trans hg4); have HI4 := Lib.hid (intAt_ints hi4)
  clear hg4 hi4
  go_wp2_with fail
  go_at_call 9
  refine (HH2.out _ HG4.out).mono ?_
  rintro e w5 ⟨A5, c5, rfl, hi5, -, hg5⟩
  have HG5 := Lib.hid (HG4.out.trans hg5); have HI5 := Lib.hid (intAt_ints hi5); have HJ5 := Lib.hid (HI4.out.keep hg5)
  clear hg5 hi5 HI4
  go_wp2_with fail
  go_at_call 7
  refine (same16_yes A4 A5 hl.length c4 c5 _ _ HJ5.out HI5.out hh16).mono ?_
  rintro e w6 ⟨rfl, hg6⟩
  have HG6 := Lib.hid (HG5.out.trans hg6)
  clear hg6 HI5 HJ5
  go_wp2_with fail
  go_at_call 10
  refine (HF1.out _ HG6.out).mono ?_
  rintro e w7 ⟨rfl, hg7⟩
  have HG7 := Lib.hid (HG6.out.trans hg7)
  clear hg7
  go_wp2_with fail
  go_at_call 11
  refine (HF2.out _ HG7.out).mono ?_
  rintro e w8 ⟨rfl, hg8⟩
  have HG8 := Lib.hid (HG7.out.trans hg8)
  clear hg8
  go_wp2_with fail
  go_at_call 12
  refine (HR1.out _ HG8.out).mono ?_
  rintro e w9 ⟨rfl, hg9⟩
  have HG9 := Lib.hid (HG8.out.trans hg9)
  clear hg9
  go_wp2_with fail
  go_at_call 13
  refine (HR2.out _ HG9.out).mono ?_
  rintro e w10 ⟨rfl, hg10⟩
  have HG10 := Lib.hid (HG9.out.trans hg10)
  clear hg10
  go_wp2_with fail
  go_at_call 14
  refine (HT1.out _ HG10.out).mono ?_
  rintro e w11 ⟨A11, c11, rfl, hr11, -, hg11⟩
  have HG11 := Lib.hid (HG10.out.trans hg11); have HR11 := Lib.hid hr11
  clear hg11 hr11
  go_wp2_with fail
  go_at_call 15
  refine (HT2.out _ HG11.out).mono ?_
  rintro e w12 ⟨A12, c12, rfl, hr12, -, hg12⟩
  have HG12 := Lib.hid (HG11.out.trans hg12); have HR12 := Lib.hid hr12; have HS12 := Lib.hid (HR11.out.keep hg12)
  clear hg12 hr12
  go_wp2_with fail
  go_at_call 16
  refine (sameT_any A11 A12 N5 c11 c12 g5 _ HS12.out HR12.out (by omega)).mono ?_
  rintro e w13 ⟨rfl, hg13⟩
  have HG13 := Lib.hid (HG12.out.trans hg13)
  clear hg13
  go_wp2_with fail
  go_ret
  exact ⟨rfl, HG13.out⟩
end Go.Proofs.YtelhmdhhabgihaaGreatDoor
