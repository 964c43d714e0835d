/-
  The law DriftAccounts.
-/
import Derived.Test.YtelhmdhhabgihaaDoorCt
import Derived.Test.YtelhmdhhabgihaaDoorDHd
namespace Go.Proofs.YtelhmdhhabgihaaDoor
open Go.RowKit

set_option maxRecDepth 100000 in
set_option maxHeartbeats 16000000 in
theorem daccounts_bad (A B : Option Addr) (n ca m d : Nat) (nm : Nat → ByteArray) (f t : Nat → Nat → Int) (w : World) (hP : Primes w) (hL : Logs w) (hA : NamedAt w A n nm f) (hB : RowsAt w 4 B m t) (hbad : walkE nm f n t m ≠ 0) :
    Calls Tryd.prog 9 #[.slice A n ca, .slice B m d] w fun e w' => e = .returned (.bool true) ∧ Gr w w' := by
  have hA1 := fun W (g : Gr w W) => account_any A B n ca m d nm f t W (hA.keep g) (hB.keep g)
  have hW1 := fun W (g : Gr w W) => walk_any A B n ca m d nm f t W (hA.keep g) (hB.keep g)
  have HP := Lib.hid hP; have HLG := Lib.hid hL
  have hE : (walkE nm f n t m = 1 ∧ walkOk nm f n t m = false) ∨ (walkE nm f n t m = 3 ∧ walkOk nm f n t m = true) := by
    rcases btf (walkOk nm f n t m) with h | h
    · refine .inr ⟨?_, h⟩
      unfold walkE at hbad ⊢
      rw [if_pos h] at hbad ⊢
      split
      · next h2 => rw [if_pos h2] at hbad; exact absurd rfl hbad
      · rfl
    · refine .inl ⟨?_, h⟩
      unfold walkE
      rw [if_neg (by rw [h]; simp)]
  generalize walkN nm f n t m = N1 at *
  rcases hE with ⟨h1, h2⟩ | ⟨h1, h2⟩
  all_goals
    rw [h1] at hW1
    rw [h2] at hA1
    first
      | rw [if_pos rfl, if_pos rfl] at hA1
      | rw [if_neg (by simp), if_neg (by simp)] at hA1
    have HA1 := Lib.hid hA1; have HW1 := Lib.hid hW1
    clear hA1 hW1 hP hL hA hB h1 h2 hbad
    go_enter Tryd.func9, Tryd.ntmps9
    go_wp2_with fail
    go_at_call 10
    refine (dhead_any _ HP.out HLG.out).mono ?_
    rintro e w0 ⟨rfl, hg0⟩
    have HG0 := Lib.hid hg0
    clear hg0
    go_wp2_with fail
    go_at_call 11
    refine (HW1.out _ HG0.out).mono ?_
    rintro e w1 ⟨A1, c1, rfl, -, hg1⟩
    have HG1 := Lib.hid (HG0.out.trans hg1)
    clear hg1
    go_wp2_with fail
    go_at_call 16
    refine (HA1.out _ HG1.out).mono ?_
    rintro e w2 ⟨A2, c2, rfl, -, -, hg2⟩
    have HG2 := Lib.hid (HG1.out.trans hg2)
    clear hg2
    go_wp2_with fail
    go_ret
    exact ⟨rfl, HG2.out⟩
set_option maxRecDepth 100000 in
set_option maxHeartbeats 16000000 in
theorem daccounts_ok (A B : Option Addr) (n ca m d : Nat) (nm : Nat → ByteArray) (f t : Nat → Nat → Int) (w : World) (hP : Primes w) (hL : Logs w) (hA : NamedAt w A n nm f) (hB : RowsAt w 4 B m t) (h0 : walkE nm f n t m = 0) :
    Calls Tryd.prog 9 #[.slice A n ca, .slice B m d] w fun e w' => e = .returned (.bool true) ∧ Gr w w' := by
  have hA1 := fun W (g : Gr w W) => account_any A B n ca m d nm f t W (hA.keep g) (hB.keep g)
  have hW1 := fun W (g : Gr w W) => walk_any A B n ca m d nm f t W (hA.keep g) (hB.keep g)
  have HP := Lib.hid hP; have HLG := Lib.hid hL
  rcases walkE_cases nm f n t m with ⟨-, hN, hok, hrg⟩ | ⟨h | h, -⟩
  rotate_left
  · rw [h0] at h; cases h
  · rw [h0] at h; cases h
  rw [h0, hN] at hW1
  rw [hok, if_pos rfl, if_pos rfl] at hA1
  obtain ⟨k1, k2, k3⟩ := walkOk_parts hok
  have hn6 := (commaB_parts k1).2.1
  have hbd : ∀ j, j < n → -15 ≤ accP t m j ∧ accP t m j ≤ 15 := fun j _ => by
    have := accP_bd k3 m (Nat.le_refl _) j
    omega
  have hsh := shP_acc (f := f) k3 m (Nat.le_refl _)
  have hin := rangeB_at hrg (Nat.le_refl m)
  simp only [hsh] at hin
  have HSU := Lib.hid (fun W (g : Gr w W) D e (hD : IntAt W D n (accP t m)) => csum_ok A D n ca e nm f (accP t m) W (hA.keep g) hD k1 hbd _ _ _ _ _ _ ⟨rfl, rfl, rfl, rfl, rfl, rfl⟩ hin)
  have HCO := Lib.hid (fun W (g : Gr w W) => ccounts_ok A n ca nm f (accP t m) (rowSum f (accP t m) n) W (hA.keep g) k1 hbd (fun _ _ => rfl) hin)
  have HSM := Lib.hid (fun W (D E : Option Addr) c1 c2 (h1 : IntAt W D n (accP t m)) (h2 : IntAt W E n (accP t m)) => show Calls Tryd.prog 21 #[.slice D n c1, .slice E n c2] W fun e w' => e = .returned (.bool true) ∧ Gr W w' from by
    have z := same16_any D E n c1 n c2 (accP t m) (accP t m) W h1 h2 (by omega)
    rw [show (decide (n = n) && eqTo (accP t m) (accP t m) n) = true by rw [(eqTo_iff _ _ _).2 (fun _ _ => rfl)]; simp] at z
    exact z)
  have HSH := Lib.hid hsh
  have HA1 := Lib.hid hA1; have HW1 := Lib.hid hW1
  clear hA1 hW1 hP hL hA hB h0 hN hok hrg k1 k3 hbd hsh hin
  generalize accP t m = u at *
  generalize rowSum f u n = v at *
  obtain ⟨N2, hN2⟩ : ∃ N2 : Nat, N2 = m + 1 := ⟨_, rfl⟩
  rw [← hN2] at HW1
  have hm1 : (m : Int) < (N2 : Int) := by omega
  have hm2 : m < N2 := by omega
  have hw1 : IntKind.i64.wrap ((m : Int) + 1) = (N2 : Int) := (IntWalk.i64_in _ ⟨by omega, by omega⟩).trans (by omega)
  clear hN2
  go_enter Tryd.func9, Tryd.ntmps9
  go_wp2_with fail
  go_at_call 10
  refine (dhead_any _ HP.out HLG.out).mono ?_
  rintro e w0 ⟨rfl, hg0⟩
  have HG0 := Lib.hid hg0
  clear hg0
  go_wp2_with fail
  go_at_call 11
  refine (HW1.out _ HG0.out).mono ?_
  rintro e w1 ⟨A1, c1, rfl, hr1, hg1⟩
  have HG1 := Lib.hid (HG0.out.trans hg1); have HR1 := Lib.hid hr1
  clear hg1 hr1
  go_wp2_with fail
  go_at_call 16
  refine (HA1.out _ HG1.out).mono ?_
  rintro e w2 ⟨A2, c2, rfl, hi2, -, hg2⟩
  have HG2 := Lib.hid (HG1.out.trans hg2); have HI2 := Lib.hid hi2; have HR2 := Lib.hid (HR1.out.keep hg2)
  clear hg2 hi2 HR1
  go_wp2_with fail
  go_at_call 25
  refine (HSU.out _ HG2.out _ c2 HI2.out).mono ?_
  rintro e w3 ⟨rfl, hg3⟩
  have HG3 := Lib.hid (HG2.out.trans hg3); have HI3 := Lib.hid (HI2.out.keep hg3); have HR3 := Lib.hid (HR2.out.keep hg3)
  clear hg3 HI2 HR2
  have HBOX := Lib.hid (show ∀ W T, W = w3.alloc (.cells #[.int .i64 (v 0), .int .i64 (v 1), .int .i64 (v 2), .int .i64 (v 3), .int .i64 (v 4), .int .i64 (v 5)] T) → SixV W w3.heap.size (.int .i64 (v 0)) (.int .i64 (v 1)) (.int .i64 (v 2)) (.int .i64 (v 3)) (.int .i64 (v 4)) (.int .i64 (v 5)) ∧ w3.heap.size < W.heap.size ∧ Gr w3 W by
    rintro W T rfl
    exact ⟨⟨by simp [go_sem], by simp [go_sem], by simp [go_sem], by simp [go_sem], by simp [go_sem], by simp [go_sem]⟩, by simp, (Gr.refl _).alloc _⟩)
  go_upto_region 9 with fail
  generalize hW4 : w3.alloc (.cells #[.int .i64 (v 0), .int .i64 (v 1), .int .i64 (v 2), .int .i64 (v 3), .int .i64 (v 4), .int .i64 (v 5)] 35) = w4
  obtain ⟨hx4, hl4, hg4⟩ := HBOX.out w4 _ hW4.symm
  have HX4 := Lib.hid hx4
  obtain ⟨b0, b1, b2, b3, b4, b5⟩ := hx4
  have HG4 := Lib.hid (HG3.out.trans hg4); have HI4 := Lib.hid (HI3.out.keep hg4); have HR4 := Lib.hid (HR3.out.keep hg4)
  clear hg4 hW4 HBOX HI3 HR3
  generalize w3.heap.size = XB at *
  go_wp2_with fail
  go_at_call 26
  refine (HCO.out _ HG4.out).mono ?_
  rintro e w5 ⟨A5, c5, rfl, hi5, -, hg5⟩
  have HG5 := Lib.hid (HG4.out.trans hg5); have HI5 := Lib.hid (HI4.out.keep hg5); have HJ5 := Lib.hid hi5
  have hr5 := HR4.out.keep hg5
  have hl5 := Nat.lt_of_lt_of_le hl4 hg5.le
  obtain ⟨p0, p1, p2, p3, p4, p5⟩ := HX4.out.keep hg5 hl4
  obtain ⟨b, off, rfl, hbl, hcc⟩ := hr5 (by omega)
  have q0 := hcc m hm2 0 (by omega); have q1 := hcc m hm2 1 (by omega); have q2 := hcc m hm2 2 (by omega); have q3 := hcc m hm2 3 (by omega); have q4 := hcc m hm2 4 (by omega); have q5 := hcc m hm2 5 (by omega)
  rw [HSH.out] at q0 q1 q2 q3 q4 q5
  simp only [Nat.add_zero] at q0
  clear hcc hr5 hg5 hi5 b0 b1 b2 b3 b4 b5 HI4 HR4 HX4
  have HQ := eq6V_yes (v 0) (v 1) (v 2) (v 3) (v 4) (v 5)
  have hm0 : (0 : Int) ≤ (m : Int) := by omega
  go_wp2_with fail
  go_region_held3 (fun wx => (∀ b o, (⟨min (b + 1) w5.heap.size, 0, none⟩ : Addr) = ⟨b + 1, 0, none⟩ → wx.cell? ⟨b, o, none⟩ = w5.cell? ⟨b, o, none⟩) ∧ Gr w5 wx) (first | with_reducible exact held_drew _ | with_reducible exact held_call (by assumption) (by assumption) | with_reducible exact held_alloc (by assumption) _ | with_reducible exact held_alloc0 _ _ | with_reducible exact held_anew (by assumption) _ (by omega) | ((repeat (with_reducible refine held_set ?_ (by (try simp); (try omega)) _)); (first | with_reducible assumption | with_reducible exact held_call (by assumption) (by assumption)))) (first | (go_at_call 21; with_reducible refine (HSM.out _ _ _ _ _ (HI5.out.keep (held_gr (by assumption))) (HJ5.out.keep (held_gr (by assumption)))).mono ?_; rintro e w' ⟨rfl, hb⟩; have hzz := ((held_gr (by assumption)).trans hb).le; have hz := hb.le; obtain ⟨hcx, hfx⟩ := hb.cells; have hn := hb.cellsN; (try simp only [World.size_drew] at hcx hfx hz hn); (try simp only [World.size_setCell] at hcx hfx hz hn); (try simp only [World.size_alloc] at hcx hfx hz hn)))
  all_goals
    go_wp2_with fail
    go_ret
    exact ⟨rfl, HG5.out.trans (held_gr (by assumption))⟩
theorem daccounts_law (A B : Option Addr) (n ca m d : Nat) (nm : Nat → ByteArray) (f t : Nat → Nat → Int) (w : World) (hP : Primes w) (hL : Logs w) (hA : NamedAt w A n nm f) (hB : RowsAt w 4 B m t) :
    Calls Tryd.prog 9 #[.slice A n ca, .slice B m d] w fun e w' => e = .returned (.bool true) ∧ Gr w w' := by
  by_cases h : walkE nm f n t m = 0
  · exact daccounts_ok A B n ca m d nm f t w hP hL hA hB h
  · exact daccounts_bad A B n ca m d nm f t w hP hL hA hB h
end Go.Proofs.YtelhmdhhabgihaaDoor
