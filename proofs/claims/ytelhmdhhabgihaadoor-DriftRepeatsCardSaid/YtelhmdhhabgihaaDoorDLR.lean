/-
  schismaref25.Same at equal lists; the law DriftRepeated.
-/
import Derived.Test.YtelhmdhhabgihaaDoorDLJ
namespace Go.Proofs.YtelhmdhhabgihaaDoor
open Go.RowKit

theorem rows_congr {w : World} {sz n : Nat} {A : Option Addr} {g g' : Nat → Nat → Int} (h : RowsAt w sz A n g) (e : ∀ i, i < n → ∀ j, j < sz → g i j = g' i j) : RowsAt w sz A n g' := by
  intro hn
  obtain ⟨b, off, ha, hb, hc⟩ := h hn
  exact ⟨b, off, ha, hb, fun i hi j hj => by rw [hc i hi j hj, e i hi j hj]⟩
set_option maxRecDepth 100000 in
set_option maxHeartbeats 16000000 in
theorem sameT_any (A B : Option Addr) (n c d : Nat) (g : Nat → Nat → Int) (w : World) (hA : RowsAt w 4 A n g) (hB : RowsAt w 4 B n g) (hn : n ≤ 4611686018427387904) :
    Calls Tryd.prog 20 #[.slice A n c, .slice B n d] w fun e w' => e = .returned (.bool true) ∧ Gr w w' := by
  have HA := Lib.hid hA; have HB := Lib.hid hB
  clear hA hB
  have hb1 : ((n : Int) == (n : Int)) = true := by simp
  have hb2 : ((n : Int) != (n : Int)) = false := by simp
  go_enter Tryd.func20, Tryd.ntmps20
  go_wp2
  go_loopw [5] (fun i wr => ∃ j : Nat, j ≤ n ∧ i = .int .i64 j ∧ Gr w wr) (fun i _ => n - (intOf i).toNat)
  case atStart => exact ⟨0, Nat.zero_le _, rfl, Gr.refl _⟩
  case round =>
    obtain ⟨j, hj, rfl, hg⟩ := hrel
    have HG := Lib.hid hg
    clear hg
    by_cases hlt : j < n
    · obtain ⟨b, off, rfl, hb, hc⟩ := (HA.out.keep HG.out).at_ hlt
      obtain ⟨b', off', rfl, hb', hc'⟩ := (HB.out.keep HG.out).at_ hlt
      have a0 := hc 0 (by omega); have a1 := hc 1 (by omega); have a2 := hc 2 (by omega); have a3 := hc 3 (by omega)
      have e0 := hc' 0 (by omega); have e1 := hc' 1 (by omega); have e2 := hc' 2 (by omega); have e3 := hc' 3 (by omega)
      simp only [Nat.add_zero] at a0 e0
      clear hc hc'
      obtain ⟨wp, rfl⟩ : ∃ wp : World, wp = wr := ⟨_, rfl⟩
      have hlt' : (j : Int) < (n : Int) := by omega
      have hj0 : (0 : Int) ≤ (j : Int) := by omega
      generalize g j 0 = x0 at *
      generalize g j 1 = x1 at *
      generalize g j 2 = x2 at *
      generalize g j 3 = x3 at *
      go_wp2_with fail
      go_quiet (fail)
      go_wp2_with fail
      go_roundw
      case rel => exact ⟨j + 1, by omega, by go_num, HG.out.trans ((Gr.refl _).drewN _)⟩
      case measure => simp [intOf]; omega
    · obtain rfl : n = j := by omega
      obtain ⟨wp, rfl⟩ : ∃ wp : World, wp = wr := ⟨_, rfl⟩
      go_wp2
      go_ret
      exact ⟨rfl, HG.out⟩
theorem timE_cases (nm : Nat → ByteArray) (f : Nat → Nat → Int) (n : Nat) (t : Nat → Nat → Int) (m : Nat) (x : Int) : (timE nm f n t m x ≠ 0 ∧ timN nm f n t m x = 0) ∨ (timE nm f n t m x = 0 ∧ walkOk nm f n t m = true ∧ ∃ X : Nat, x = (X : Int) ∧ X ≤ 15 ∧ X * m ≤ 15 ∧ timN nm f n t m x = X * m) := by
  by_cases h : timE nm f n t m x = 0
  · refine .inr ⟨h, ?_⟩
    have hN : timN nm f n t m x = x.toNat * m := by unfold timN; rw [if_pos h]
    rw [hN]
    unfold timE at h
    split at h
    · rename_i h1
      simp only [Bool.and_eq_true, decide_eq_true_eq] at h1
      split at h
      · rename_i h2
        obtain ⟨X, rfl⟩ := Int.eq_ofNat_of_zero_le h1.2.1
        refine ⟨h1.1, X, rfl, by omega, ?_, rfl⟩
        have : ((X * m : Nat) : Int) = (X : Int) * (m : Int) := Int.natCast_mul X m
        omega
      · omega
    · omega
  · exact .inl ⟨h, by unfold timN; rw [if_neg h]⟩
theorem timE_ok {nm : Nat → ByteArray} {f : Nat → Nat → Int} {n : Nat} {t : Nat → Nat → Int} {m : Nat} (h : walkOk nm f n t m = true) {X : Nat} (hX : X ≤ 15) : timE nm f n t m (X : Int) = if X * m ≤ 15 then 0 else 2 := by
  unfold timE
  rw [if_pos (by rw [h, Bool.true_and, decide_eq_true_eq]; omega)]
  have : ((X * m : Nat) : Int) = (X : Int) * (m : Int) := Int.natCast_mul X m
  by_cases c : X * m ≤ 15
  · rw [if_pos c, if_pos (by omega)]
  · rw [if_neg c, if_neg (by omega)]
theorem timN_ok {nm : Nat → ByteArray} {f : Nat → Nat → Int} {n : Nat} {t : Nat → Nat → Int} {m : Nat} (h : walkOk nm f n t m = true) {X : Nat} (hX : X ≤ 15) : timN nm f n t m (X : Int) = if X * m ≤ 15 then X * m else 0 := by
  unfold timN
  rw [timE_ok h hX]
  by_cases c : X * m ≤ 15
  · rw [if_pos c, if_pos rfl, if_pos c]; rfl
  · rw [if_neg c, if_neg (by omega), if_neg c]
theorem walkOk_times {nm : Nat → ByteArray} {f : Nat → Nat → Int} {n : Nat} {t : Nat → Nat → Int} {m X : Nat} (h : walkOk nm f n t m = true) (hX : X * m ≤ 15) : walkOk nm f n (tmT t m) (X * m) = true := by
  obtain ⟨a, b, c⟩ := walkOk_parts h
  exact walkOk_mk ⟨a, hX, takesB_times c X⟩
set_option maxRecDepth 100000 in
set_option maxHeartbeats 16000000 in
theorem drepeated_law (A B : Option Addr) (n ca m d : Nat) (nm : Nat → ByteArray) (f t : Nat → Nat → Int) (x y : Int) (w : World) (hP : Primes w) (hL : Logs w) (hA : NamedAt w A n nm f) (hB : RowsAt w 4 B m t) :
    Calls Tryd.prog 6 #[.slice A n ca, .slice B m d, .int .i64 x, .int .i64 y] w fun e w' => e = .returned (.bool true) ∧ Gr w w' := by
  have hT1 := fun W (g : Gr w W) => times_any A B n ca m d nm f t W (hA.keep g) (hB.keep g) x
  have HP := Lib.hid hP; have HLG := Lib.hid hL
  rcases timE_cases nm f n t m x with ⟨hE, hN⟩ | ⟨hE, hok, X, rfl, hX, hXm, hN⟩
  · rw [hN] at hT1
    have HT1 := Lib.hid hT1
    clear hT1 hP hL hA hB hN
    generalize timE nm f n t m x = E at *
    have hEb : (E != 0) = true := by simp [hE]
    clear hE
    go_enter Tryd.func6, Tryd.ntmps6
    go_wp2_with fail
    go_at_call 10
    refine (dhead_any _ HP.out HLG.out).mono ?_
    rintro e w0 ⟨rfl, hg0⟩
    have HG0 := Lib.hid hg0
    clear hg0
    go_wp2_with fail
    go_at_call 19
    refine (HT1.out _ HG0.out).mono ?_
    rintro e w1 ⟨A1, c1, rfl, -, -, hg1⟩
    have HG1 := Lib.hid (HG0.out.trans hg1)
    clear hg1
    go_wp2_with fail
    go_ret
    exact ⟨rfl, HG1.out⟩
  · rw [hN, hE] at hT1
    have hok2 := walkOk_times hok hXm
    obtain ⟨k1, k2, k3⟩ := walkOk_parts hok
    have hn6 := (commaB_parts k1).2.1
    have hA1 := fun W (g : Gr w W) => account_any A B n ca m d nm f t W (hA.keep g) (hB.keep g)
    have hA2 := fun W (g : Gr w W) D e (hD : RowsAt W 4 D (X * m) (tmT t m)) => account_any A D n ca (X * m) e nm f (tmT t m) W (hA.keep g) hD
    rw [hok, if_pos rfl, if_pos rfl] at hA1
    rw [hok2, if_pos rfl, if_pos rfl] at hA2
    have HACC := Lib.hid (fun j => accP_times0 t m X j)
    have HBD := Lib.hid (accP_bd k3 m (Nat.le_refl _))
    have HT1 := Lib.hid hT1; have HA1 := Lib.hid hA1; have HA2 := Lib.hid hA2
    have hT2 := fun W (g : Gr w W) D e (hD : RowsAt W 4 D (X * m) (tmT t m)) (Y : Nat) (hY : Y ≤ 15) => times_any A D n ca (X * m) e nm f (tmT t m) W (hA.keep g) hD (Y : Int)
    have hT3 := fun W (g : Gr w W) (Z : Nat) (hZ : Z ≤ 15) => times_any A B n ca m d nm f t W (hA.keep g) (hB.keep g) (Z : Int)
    have HT2 : Hid (∀ W, Gr w W → ∀ D e, RowsAt W 4 D (X * m) (tmT t m) → ∀ Y : Nat, Y ≤ 15 → Calls Tryd.prog 19 #[.slice A n ca, .slice D (X * m) e, .int .i64 (Y : Int)] W (TimR (if Y * (X * m) ≤ 15 then Y * (X * m) else 0) (if Y * (X * m) ≤ 15 then 0 else 2) (tmT t m) W)) := Lib.hid (fun W g D e hD Y hY => by
      have z := hT2 W g D e hD Y hY
      rw [timE_ok hok2 hY, timN_ok hok2 hY] at z
      refine z.mono ?_
      rintro e w' ⟨A1, c1, h1, h2, h3, h4⟩
      exact ⟨A1, c1, h1, rows_congr h2 (fun i _ j _ => tmT_tmT t m X i j), h3, h4⟩)
    have HT3 : Hid (∀ W, Gr w W → ∀ Y : Nat, Y * X ≤ 15 → Calls Tryd.prog 19 #[.slice A n ca, .slice B m d, .int .i64 ((Y : Int) * (X : Int))] W (TimR (if Y * (X * m) ≤ 15 then Y * (X * m) else 0) (if Y * (X * m) ≤ 15 then 0 else 2) (tmT t m) W)) := Lib.hid (fun W g Y hY => by
      have z := hT3 W g (Y * X) hY
      rw [timE_ok hok hY, timN_ok hok hY, Int.natCast_mul, Nat.mul_assoc] at z
      exact z)
    have hXm1 : (X : Int) * (m : Int) = ((X * m : Nat) : Int) := (Int.natCast_mul X m).symm
    have hwm : IntKind.i64.wrap ((X : Int) * (m : Int)) = (X : Int) * (m : Int) := IntWalk.i64_in _ ⟨by omega, by omega⟩
    have hnq : ((((X * m : Nat) : Int)) != (X : Int) * (m : Int)) = false := by rw [hXm1]; simp
    clear hT1 hA1 hA2 hT2 hT3 hP hL hA hB hok hok2 k1 k3 hN hE hXm1
    have HCAST : Hid ((X : Int) * (m : Int) = ((X * m : Nat) : Int)) := Lib.hid (Int.natCast_mul X m).symm
    generalize accP t m = u at *
    generalize accP (tmT t m) (X * m) = v at *
    generalize tmT t m = tt at *
    generalize hXM : X * m = XM at *
    clear hXM
    go_enter Tryd.func6, Tryd.ntmps6
    go_wp2_with fail
    go_at_call 10
    refine (dhead_any _ HP.out HLG.out).mono ?_
    rintro e w0 ⟨rfl, hg0⟩
    have HG0 := Lib.hid hg0
    clear hg0
    go_wp2_with fail
    go_at_call 19
    refine (HT1.out _ HG0.out).mono ?_
    rintro e w1 ⟨A1, c1, rfl, hr1, hc1, hg1⟩
    have HG1 := Lib.hid (HG0.out.trans hg1); have HR1 := Lib.hid hr1
    clear hg1 hr1
    go_wp2_with fail
    go_at_call 16
    refine (HA1.out _ HG1.out).mono ?_
    rintro e w2 ⟨A2, c2, rfl, hi2, hc2, hg2⟩
    have HG2 := Lib.hid (HG1.out.trans hg2); have HR2 := Lib.hid (HR1.out.keep hg2); have HI2 := Lib.hid hi2
    clear hi2 hg2 HR1
    go_wp2_with fail
    go_at_call 16
    refine (HA2.out _ HG2.out A1 c1 HR2.out).mono ?_
    rintro e w3 ⟨A3, c3, rfl, hi3, hc3, hg3⟩
    have HG3 := Lib.hid (HG2.out.trans hg3); have HR3 := Lib.hid (HR2.out.keep hg3); have HI3 := Lib.hid hi3; have HJ3 := Lib.hid (HI2.out.keep hg3)
    clear hi3 hg3 HR2 HI2
    go_wp2_with fail
    go_loopw [16] (fun iv wr => ∃ i : Nat, i ≤ n ∧ iv = .int .i64 (i : Int) ∧ Gr w3 wr) (fun iv _ => n - (intOf iv).toNat)
    case atStart => exact ⟨0, Nat.zero_le _, rfl, Gr.refl _⟩
    case round =>
      obtain ⟨i, hi, rfl, hg⟩ := hrel
      have HGR := Lib.hid hg
      by_cases hli : i < n
      · have hli' : (i : Int) < (n : Int) := by omega
        have hi0 : (0 : Int) ≤ (i : Int) := by omega
        obtain ⟨b4, o4, rfl, hb4, q4⟩ := (HI3.out.keep hg).one hli
        obtain ⟨b1, o1, rfl, hb1, q1⟩ := (HJ3.out.keep hg).one hli
        rw [HACC.out i] at q4
        have r1 := HBD.out i
        have hw : IntKind.i64.wrap ((X : Int) * u i) = (X : Int) * u i := by
          have a : -(15 * 15) ≤ (X : Int) * u i ∧ (X : Int) * u i ≤ 15 * 15 := by
            have b1 : (X : Int) * u i ≤ (X : Int) * 15 := Int.mul_le_mul_of_nonneg_left (by omega) (by omega)
            have b2 : (X : Int) * (-15) ≤ (X : Int) * u i := Int.mul_le_mul_of_nonneg_left (by omega) (by omega)
            omega
          exact IntWalk.i64_in _ ⟨by omega, by omega⟩
        obtain ⟨wp, rfl⟩ : ∃ wp : World, wp = wr := ⟨_, rfl⟩
        clear hg
        go_wp2_with fail
        go_quiet (fail)
        go_wp2_with fail
        go_roundw
        case rel => exact ⟨i + 1, by omega, by go_num, HGR.out.trans ((Gr.refl _).drewN _)⟩
        case measure => simp [intOf]; omega
      · obtain rfl : n = i := by omega
        obtain ⟨wp, rfl⟩ : ∃ wp : World, wp = wr := ⟨_, rfl⟩
        clear hg
        by_cases hy0 : y < 0
        · have p1 : decide (y < 0) = true := decide_eq_true hy0
          clear hy0
          go_wp2_with fail
          go_ret
          exact ⟨rfl, HG3.out.trans HGR.out⟩
        · obtain ⟨Y, rfl⟩ := Int.eq_ofNat_of_zero_le (show 0 ≤ y by omega)
          have p1 : decide ((Y : Int) < 0) = false := decide_eq_false hy0
          clear hy0
          by_cases hy1 : 15 < Y
          · have p2 : decide (15 < (Y : Int)) = true := decide_eq_true (by omega)
            have p2' : decide (15 < Y) = true := decide_eq_true hy1
            clear hy1
            go_wp2_with fail
            go_ret
            exact ⟨rfl, HG3.out.trans HGR.out⟩
          · have p2 : decide (15 < (Y : Int)) = false := decide_eq_false (by omega)
            have p2' : decide (15 < Y) = false := decide_eq_false hy1
            have hYX : (Y : Int) * (X : Int) = ((Y * X : Nat) : Int) := (Int.natCast_mul Y X).symm
            have hYX2 : Y * X ≤ 15 * 15 := Nat.mul_le_mul (by omega) (by omega)
            have hw5 : IntKind.i64.wrap ((Y : Int) * (X : Int)) = (Y : Int) * (X : Int) := IntWalk.i64_in _ ⟨by omega, by omega⟩
            by_cases hy2 : Y * X ≤ 15
            · have p3 : decide (15 < (Y : Int) * (X : Int)) = false := decide_eq_false (by omega)
              have HY1 := Lib.hid (show Y ≤ 15 by omega); have HY2 := Lib.hid hy2
              have HR4 := Lib.hid (HR3.out.keep HGR.out)
              have hL1 : (if Y * XM ≤ 15 then Y * XM else 0) ≤ 15 := by split <;> omega
              have HL1 := Lib.hid hL1
              have HT2' := Lib.hid (fun W g D e hD => HT2.out W g D e hD Y HY1.out)
              have HT3' := Lib.hid (fun W g => HT3.out W g Y HY2.out)
              clear hy1 hy2 hYX hYX2 hL1 HT2 HT3
              generalize (if Y * XM ≤ 15 then Y * XM else 0) = LL at *
              generalize (if Y * XM ≤ 15 then (0 : Int) else 2) = EE at *
              go_wp2_with fail
              go_at_call 19
              refine (HT2'.out _ (HG3.out.trans HGR.out) A1 c1 HR4.out).mono ?_
              rintro e w5 ⟨A5, c5, rfl, hr5, hc5, hg5⟩
              have HG5 := Lib.hid ((HG3.out.trans HGR.out).trans hg5); have HR5 := Lib.hid hr5
              clear hr5 hg5
              go_wp2_with fail
              go_at_call 19
              refine (HT3'.out _ HG5.out).mono ?_
              rintro e w6 ⟨A6, c6, rfl, hr6, hc6, hg6⟩
              have HG6 := Lib.hid (HG5.out.trans hg6); have HR6 := Lib.hid hr6; have HR7 := Lib.hid (HR5.out.keep hg6)
              clear hr6 hg6
              go_wp2_with fail
              go_at_call 20
              refine (sameT_any A5 A6 LL c5 c6 tt _ HR7.out HR6.out (by have := HL1.out; omega)).mono ?_
              rintro e w7 ⟨rfl, hg7⟩
              have HG7 := Lib.hid (HG6.out.trans hg7)
              clear hg7
              go_wp2_with fail
              go_ret
              exact ⟨rfl, HG7.out⟩
            · have p3 : decide (15 < (Y : Int) * (X : Int)) = true := decide_eq_true (by omega)
              clear hy1 hy2 hYX hYX2
              go_wp2_with fail
              go_ret
              exact ⟨rfl, HG3.out.trans HGR.out⟩
end Go.Proofs.YtelhmdhhabgihaaDoor
