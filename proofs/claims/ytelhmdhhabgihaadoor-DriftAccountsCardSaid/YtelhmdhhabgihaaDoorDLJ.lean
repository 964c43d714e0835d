/-
  The law DriftJoined.
-/
import Derived.Test.YtelhmdhhabgihaaDoorDHd
import Derived.Test.YtelhmdhhabgihaaDoorDJn
namespace Go.Proofs.YtelhmdhhabgihaaDoor
open Go.RowKit

theorem walkOk_parts {nm : Nat → ByteArray} {f : Nat → Nat → Int} {n : Nat} {t : Nat → Nat → Int} {m : Nat} (h : walkOk nm f n t m = true) : commaB nm f n = true ∧ m ≤ 15 ∧ takesB n t m = true := by
  simpa only [walkOk, Bool.and_eq_true, decide_eq_true_eq] using h
theorem walkOk_mk {nm : Nat → ByteArray} {f : Nat → Nat → Int} {n : Nat} {t : Nat → Nat → Int} {m : Nat} (h : commaB nm f n = true ∧ m ≤ 15 ∧ takesB n t m = true) : walkOk nm f n t m = true := by
  simpa only [walkOk, Bool.and_eq_true, decide_eq_true_eq] using h
set_option maxRecDepth 100000 in
set_option maxHeartbeats 16000000 in
theorem djoined_law (A B C : Option Addr) (n ca m d k c : Nat) (nm : Nat → ByteArray) (f t t2 : Nat → Nat → Int) (w : World) (hP : Primes w) (hL : Logs w) (hA : NamedAt w A n nm f) (hB : RowsAt w 4 B m t) (hC : RowsAt w 4 C k t2) :
    Calls Tryd.prog 5 #[.slice A n ca, .slice B m d, .slice C k c] w fun e w' => e = .returned (.bool true) ∧ Gr w w' := by
  have hA1 := fun W (g : Gr w W) => account_any A B n ca m d nm f t W (hA.keep g) (hB.keep g)
  have hA2 := fun W (g : Gr w W) => account_any A C n ca k c nm f t2 W (hA.keep g) (hC.keep g)
  have HP := Lib.hid hP; have HLG := Lib.hid hL
  rcases btf (walkOk nm f n t m) with h1 | h1
  · rcases btf (walkOk nm f n t2 k) with h2 | h2
    · rw [h1, if_pos rfl, if_pos rfl] at hA1
      rw [h2, if_pos rfl, if_pos rfl] at hA2
      obtain ⟨k1, k2, k3⟩ := walkOk_parts h1
      obtain ⟨l1, l2, l3⟩ := walkOk_parts h2
      have hw1 : IntKind.i64.wrap ((m : Int) + (k : Int)) = (m : Int) + (k : Int) := IntWalk.i64_in _ ⟨by omega, by omega⟩
      have HA1 := Lib.hid hA1; have HA2 := Lib.hid hA2
      by_cases hmk : m + k ≤ 15
      · have h3 : walkOk nm f n (jnT t t2 m) (m + k) = true := walkOk_mk ⟨k1, hmk, takesB_join k3 l3⟩
        have hA3 := fun W (g : Gr w W) D e (hD : RowsAt W 4 D (m + k) (jnT t t2 m)) => account_any A D n ca (m + k) e nm f (jnT t t2 m) W (hA.keep g) hD
        rw [h3, if_pos rfl, if_pos rfl] at hA3
        have HJ := Lib.hid (fun W (g : Gr w W) => joined_any B C m d k c t t2 W (hB.keep g) (hC.keep g) k2 l2)
        have HA3 := Lib.hid hA3
        have hlt : decide (15 < (m : Int) + (k : Int)) = false := decide_eq_false (by omega)
        have hn6 := (commaB_parts k1).2.1
        have HSUM := Lib.hid (fun j => accP_join t t2 m j k)
        have hB1 := accP_bd k3 m (Nat.le_refl _)
        have hB2 := accP_bd l3 k (Nat.le_refl _)
        have HBD := Lib.hid (And.intro hB1 hB2)
        clear hA1 hA2 hA3 hP hL hA hB hC h1 h2 h3 k1 k3 l1 l3 hB1 hB2
        generalize accP t m = u at *
        generalize accP t2 k = v at *
        generalize accP (jnT t t2 m) (m + k) = z at *
        go_enter Tryd.func5, Tryd.ntmps5
        go_wp2_with fail
        go_at_call 10
        refine (dhead_any _ HP.out HLG.out).mono ?_
        rintro e w0 ⟨rfl, hg0⟩
        have HG0 := Lib.hid hg0
        clear hg0
        go_wp2_with fail
        go_at_call 16
        refine (HA1.out _ HG0.out).mono ?_
        rintro e w1 ⟨A1, c1, rfl, hi1, hc1, hg1⟩
        have HI1 := Lib.hid hi1; have HG1 := Lib.hid (HG0.out.trans hg1)
        clear hi1 hg1
        go_wp2_with fail
        go_at_call 16
        refine (HA2.out _ HG1.out).mono ?_
        rintro e w2 ⟨A2, c2, rfl, hi2, hc2, hg2⟩
        have HI2 := Lib.hid hi2; have HG2 := Lib.hid (HG1.out.trans hg2); have HJ1 := Lib.hid (HI1.out.keep hg2)
        clear hi2 hg2 HI1
        go_wp2_with fail
        go_at_call 18
        refine (HJ.out _ HG2.out).mono ?_
        rintro e w3 ⟨A3, c3, rfl, hr3, hc3, hg3⟩
        have HR3 := Lib.hid hr3; have HG3 := Lib.hid (HG2.out.trans hg3); have HK1 := Lib.hid (HJ1.out.keep hg3); have HK2 := Lib.hid (HI2.out.keep hg3)
        clear hr3 hg3 HJ1 HI2
        go_wp2_with fail
        go_at_call 16
        refine (HA3.out _ HG3.out A3 c3 HR3.out).mono ?_
        rintro e w4 ⟨A4, c4, rfl, hi4, hc4, hg4⟩
        have HI4 := Lib.hid hi4; have HG4 := Lib.hid (HG3.out.trans hg4); have HL1 := Lib.hid (HK1.out.keep hg4); have HL2 := Lib.hid (HK2.out.keep hg4)
        clear hi4 hg4 HK1 HK2 HA1 HA2 HA3 HJ HR3
        go_wp2_with fail
        go_loopw [14] (fun iv wr => ∃ i : Nat, i ≤ n ∧ iv = .int .i64 (i : Int) ∧ Gr w4 wr) (fun iv _ => n - (intOf iv).toNat)
        case atStart => exact ⟨0, Nat.zero_le _, rfl, Gr.refl _⟩
        case round =>
          obtain ⟨i, hi, rfl, hg⟩ := hrel
          have HGR := Lib.hid hg
          by_cases hli : i < n
          · have hli' : (i : Int) < (n : Int) := by omega
            have hi0 : (0 : Int) ≤ (i : Int) := by omega
            obtain ⟨b4, o4, rfl, hb4, q4⟩ := (HI4.out.keep hg).one hli
            obtain ⟨b1, o1, rfl, hb1, q1⟩ := (HL1.out.keep hg).one hli
            obtain ⟨b2, o2, rfl, hb2, q2⟩ := (HL2.out.keep hg).one hli
            rw [HSUM.out i] at q4
            have r1 := HBD.out.1 i
            have r2 := HBD.out.2 i
            have hw : IntKind.i64.wrap (u i + v i) = u i + v i := IntWalk.i64_in _ ⟨by omega, by omega⟩
            obtain ⟨wp, rfl⟩ : ∃ wp : World, wp = wr := ⟨_, rfl⟩
            clear hg
            go_wp2_with fail
            go_quiet (fail)
            go_wp2_with fail
            go_roundw
            case rel => exact ⟨i + 1, by omega, by go_num, HGR.out.trans ((Gr.refl _).drewN _)⟩
            case measure => simp [intOf]; omega
          · obtain rfl : n = i := by omega
            obtain ⟨wp, rfl⟩ : ∃ wp : World, wp = wr := ⟨_, rfl⟩
            clear hg
            go_wp2_with fail
            go_ret
            exact ⟨rfl, HG4.out.trans HGR.out⟩
      · have hlt : decide (15 < (m : Int) + (k : Int)) = true := decide_eq_true (by omega)
        clear hA1 hA2 hP hL hA hB hC h1 h2 k1 k3 l1 l3
        go_enter Tryd.func5, Tryd.ntmps5
        go_wp2_with fail
        go_at_call 10
        refine (dhead_any _ HP.out HLG.out).mono ?_
        rintro e w0 ⟨rfl, hg0⟩
        have HG0 := Lib.hid hg0
        clear hg0
        go_wp2_with fail
        go_at_call 16
        refine (HA1.out _ HG0.out).mono ?_
        rintro e w1 ⟨A1, c1, rfl, -, -, hg1⟩
        have HG1 := Lib.hid (HG0.out.trans hg1)
        clear hg1
        go_wp2_with fail
        go_at_call 16
        refine (HA2.out _ HG1.out).mono ?_
        rintro e w2 ⟨A2, c2, rfl, -, -, hg2⟩
        have HG2 := Lib.hid (HG1.out.trans hg2)
        clear hg2
        go_wp2_with fail
        go_ret
        exact ⟨rfl, HG2.out⟩
    · rw [h1, if_pos rfl, if_pos rfl] at hA1
      rw [h2, if_neg (by simp), if_neg (by simp)] at hA2
      have HA1 := Lib.hid hA1; have HA2 := Lib.hid hA2
      clear hA1 hA2 hP hL hA hB hC h1 h2
      go_enter Tryd.func5, Tryd.ntmps5
      go_wp2_with fail
      go_at_call 10
      refine (dhead_any _ HP.out HLG.out).mono ?_
      rintro e w0 ⟨rfl, hg0⟩
      have HG0 := Lib.hid hg0
      clear hg0
      go_wp2_with fail
      go_at_call 16
      refine (HA1.out _ HG0.out).mono ?_
      rintro e w1 ⟨A1, c1, rfl, -, -, hg1⟩
      have HG1 := Lib.hid (HG0.out.trans hg1)
      clear hg1
      go_wp2_with fail
      go_at_call 16
      refine (HA2.out _ HG1.out).mono ?_
      rintro e w2 ⟨A2, c2, rfl, -, -, hg2⟩
      have HG2 := Lib.hid (HG1.out.trans hg2)
      clear hg2
      go_wp2_with fail
      go_ret
      exact ⟨rfl, HG2.out⟩
  · rw [h1, if_neg (by simp), if_neg (by simp)] at hA1
    have HA1 := Lib.hid hA1; have HA2 := Lib.hid hA2
    clear hA1 hA2 hP hL hA hB hC h1
    go_enter Tryd.func5, Tryd.ntmps5
    go_wp2_with fail
    go_at_call 10
    refine (dhead_any _ HP.out HLG.out).mono ?_
    rintro e w0 ⟨rfl, hg0⟩
    have HG0 := Lib.hid hg0
    clear hg0
    go_wp2_with fail
    go_at_call 16
    refine (HA1.out _ HG0.out).mono ?_
    rintro e w1 ⟨A1, c1, rfl, -, -, hg1⟩
    have HG1 := Lib.hid (HG0.out.trans hg1)
    clear hg1
    go_wp2_with fail
    go_at_call 16
    refine (HA2.out _ HG1.out).mono ?_
    rintro e w2 ⟨A2, c2, rfl, -, -, hg2⟩
    have HG2 := Lib.hid (HG1.out.trans hg2)
    clear hg2
    go_wp2_with fail
    all_goals
      go_ret
      exact ⟨rfl, HG2.out⟩
end Go.Proofs.YtelhmdhhabgihaaDoor
