/-
  schismalaw25.sample and head: the examples.
-/
import Derived.Test.YtelhmdhhabgihaaGreatDoorD12
import Derived.Test.YtelhmdhhabgihaaGreatDoorD45
import Derived.Test.YtelhmdhhabgihaaGreatDoorDr6
import Derived.Test.YtelhmdhhabgihaaGreatDoorSm
namespace Go.Proofs.YtelhmdhhabgihaaGreatDoor
open Go.RowKit

/-- The example's names. -/
def smN (i : Nat) : ByteArray := if i = 0 then { data := #[115, 121, 110, 116, 111, 110, 105, 99] } else { data := #[115, 99, 104, 105, 115, 109, 97] }
/-- The example's commas. -/
def smF (i j : Nat) : Int := if i = 0 then (if j = 0 then -4 else if j = 1 then 4 else if j = 2 then -1 else 0) else (if j = 0 then -15 else if j = 1 then 8 else if j = 2 then 1 else 0)
/-- The example's takes. -/
def smT (i j : Nat) : Int := if i = 0 then (if j = 0 then 1 else if j = 1 then 0 else if j = 2 then 1 else 0) else if i = 1 then (if j = 0 then 2 else if j = 1 then 0 else if j = 2 then -1 else 1) else (if j = 0 then 3 else if j = 1 then 1 else if j = 2 then -1 else 0)
theorem sm_ok : walkOk smN smF 2 smT 3 = true := by decide +kernel
theorem sm_range : rangeB smF smT 3 = true := by decide +kernel
theorem sm_walk : walkE smN smF 2 smT 3 = 0 := by unfold walkE; rw [if_pos sm_ok, if_pos sm_range]
theorem sm_walkN : walkN smN smF 2 smT 3 = 4 := by unfold walkN; rw [if_pos sm_walk]
theorem sm_acc : accP smT 3 0 = 0 ∧ accP smT 3 1 = -1 := by decide +kernel
theorem sm_far : (farS (shP smF smT) 4).1 = 1 := by decide +kernel
theorem sm_home : homeL (shP smF smT) 4 = [0, 2] := by decide +kernel
theorem sm_tim : timE smN smF 2 smT 3 2 = 0 ∧ timE smN smF 2 smT 3 6 = 2 := by
  unfold timE
  rw [sm_ok]
  decide +kernel
theorem sm_rep : 0 < sumLo (repD smF smT 3) 6 ∧ (19530000 : Int).tdiv (sumLo (repD smF smT 3) 6) = 0 ∧ (19540000 : Int).tdiv (sumLo (repD smF smT 3) 6) = 1 := by decide +kernel
theorem sm_ok2 : walkOk smN smF 2 smT 2 = true := by decide +kernel
theorem sm_range2 : rangeB smF smT 2 = true := by decide +kernel
theorem sm_rep2 : ¬ 0 < sumLo (repD smF smT 2) 6 := by decide +kernel
theorem sm_repE (x : Int) (h : 0 ≤ x ∧ x ≤ 2400000) : repE smN smF 2 smT 3 x = 0 := by
  unfold repE
  rw [if_pos (by rw [sm_ok]; simp [h]), if_pos sm_range, if_pos sm_rep.1]
theorem sm_repV1 : repV smN smF 2 smT 3 1953 = 1 := by
  unfold repV
  rw [if_pos (sm_repE _ (by omega)), show (1953 : Int) * 10000 = 19530000 from rfl, sm_rep.2.1]
  rfl
theorem sm_repV2 : repV smN smF 2 smT 3 1954 = 2 := by
  unfold repV
  rw [if_pos (sm_repE _ (by omega)), show (1954 : Int) * 10000 = 19540000 from rfl, sm_rep.2.2]
  rfl
theorem sm_repE0 : repE smN smF 2 smT 2 0 = 4 := by
  unfold repE
  rw [if_pos (by rw [sm_ok2]; simp), if_pos sm_range2, if_neg sm_rep2]
/-- What sample returns. -/
def SamR (w : World) (e : Ending) (w' : World) : Prop := ∃ (A B : Option Addr), e = .returned (.tuple #[.slice A 2 2, .slice B 3 3]) ∧ NamedAt w' A 2 smN smF ∧ RowsAt w' 4 B 3 smT ∧ Gr w w'
set_option maxRecDepth 100000 in
set_option maxHeartbeats 16000000 in
theorem sample_any (w : World) : Calls Tryz.prog 17 #[] w (SamR w) := by
  have HG1 : Hid (∀ W, W = w.alloc (.cells #[.string { data := #[115, 121, 110, 116, 111, 110, 105, 99] }, .int .i64 (-4), .int .i64 4, .int .i64 (-1), .int .i64 0, .int .i64 0, .int .i64 0, .string { data := #[115, 99, 104, 105, 115, 109, 97] }, .int .i64 (-15), .int .i64 8, .int .i64 1, .int .i64 0, .int .i64 0, .int .i64 0] 65) → NamedAt W (some ⟨w.heap.size, 0, none⟩) 2 smN smF ∧ Gr w W) := Lib.hid (by
    rintro W rfl
    refine ⟨fun _ => ⟨_, 0, rfl, by simp, fun i hi => ?_⟩, (Gr.refl _).alloc _⟩
    obtain rfl | rfl : i = 0 ∨ i = 1 := by omega
    · refine ⟨by simp [go_sem, smN], by unfold maxLen; decide, fun j hj => ?_⟩
      obtain rfl | rfl | rfl | rfl | rfl | rfl : j = 0 ∨ j = 1 ∨ j = 2 ∨ j = 3 ∨ j = 4 ∨ j = 5 := by omega
      all_goals simp [go_sem, smF]
    · refine ⟨by simp [go_sem, smN], by unfold maxLen; decide, fun j hj => ?_⟩
      obtain rfl | rfl | rfl | rfl | rfl | rfl : j = 0 ∨ j = 1 ∨ j = 2 ∨ j = 3 ∨ j = 4 ∨ j = 5 := by omega
      all_goals simp [go_sem, smF])
  have HG2 : Hid (∀ W0 W S, S = W0.heap.size → W = W0.alloc (.cells #[.int .i64 1, .int .i64 0, .int .i64 1, .int .i64 0, .int .i64 2, .int .i64 0, .int .i64 (-1), .int .i64 1, .int .i64 3, .int .i64 1, .int .i64 (-1), .int .i64 0] 40) → RowsAt W 4 (some ⟨S, 0, none⟩) 3 smT ∧ Gr W0 W) := Lib.hid (by
    rintro W0 W S rfl rfl
    refine ⟨fun _ => ⟨_, 0, rfl, by simp, fun i hi j hj => ?_⟩, (Gr.refl _).alloc _⟩
    obtain rfl | rfl | rfl : i = 0 ∨ i = 1 ∨ i = 2 := by omega
    all_goals
      obtain rfl | rfl | rfl | rfl : j = 0 ∨ j = 1 ∨ j = 2 ∨ j = 3 := by omega
      all_goals simp [go_sem, smT])
  go_enter Tryz.func17, Tryz.ntmps17
  go_wp2_with fail
  go_ret2
  refine ⟨_, _, rfl, (HG1.out _ rfl).1.keep (HG2.out _ _ _ rfl rfl).2, (HG2.out _ _ _ (by simp) rfl).1, (HG1.out _ rfl).2.trans (HG2.out _ _ _ rfl rfl).2⟩
theorem intAt_two (W : World) (x y : Int) (T : TypeId) (u : Nat → Int) (h0 : u 0 = x) (h1 : u 1 = y) : IntAt (W.alloc (.cells #[.int .i64 x, .int .i64 y] T)) (some ⟨W.heap.size, 0, none⟩) 2 u := by
  intro _
  refine ⟨_, 0, rfl, by simp, fun i hi => ?_⟩
  obtain rfl | rfl : i = 0 ∨ i = 1 := by omega
  · rw [h0]; simp [go_sem]
  · rw [h1]; simp [go_sem]
theorem intAt_of {w : World} {A : Option Addr} {l : List Nat} (h : IntsL w A l) : IntAt w A l.length (fun i => ((l.getD i 0 : Nat) : Int)) := by
  intro hn
  obtain ⟨b, off, e, hb, hc⟩ := h hn
  refine ⟨b, off, e, hb, fun i hi => hc i _ ?_⟩
  rw [List.getD_eq_getElem?_getD, List.getElem?_eq_getElem hi]; rfl
set_option maxRecDepth 100000 in
set_option maxHeartbeats 16000000 in
theorem dhead_any (w : World) (hP : Primes w) (hL : Logs w) : Calls Tryz.prog 4 #[] w fun e w' => e = .returned (.bool true) ∧ Gr w w' := by
  have HSM := Lib.hid (sample_any w)
  have hAC := fun A B W (hA : NamedAt W A 2 smN smF) (hB : RowsAt W 4 B 3 smT) => account_any A B 2 2 3 3 smN smF smT W hA hB
  have hFR := fun A B W (hA : NamedAt W A 2 smN smF) (hB : RowsAt W 4 B 3 smT) (g : Gr w W) => far_any A B 2 2 3 3 smN smF smT W hA hB (hP.keep g)
  have hHM := fun A B W (hA : NamedAt W A 2 smN smF) (hB : RowsAt W 4 B 3 smT) (g : Gr w W) => home_any A B 2 2 3 3 smN smF smT W hA hB (hP.keep g)
  have hT2 := fun A B W (hA : NamedAt W A 2 smN smF) (hB : RowsAt W 4 B 3 smT) => times_any A B 2 2 3 3 smN smF smT W hA hB 2
  have hT6 := fun A B W (hA : NamedAt W A 2 smN smF) (hB : RowsAt W 4 B 3 smT) => times_any A B 2 2 3 3 smN smF smT W hA hB 6
  have hR1 := fun A B W (hA : NamedAt W A 2 smN smF) (hB : RowsAt W 4 B 3 smT) (g : Gr w W) => repeats_any A B 2 2 3 3 smN smF smT W 1953 hA hB (hP.keep g) (hL.keep g)
  have hR2 := fun A B W (hA : NamedAt W A 2 smN smF) (hB : RowsAt W 4 B 3 smT) (g : Gr w W) => repeats_any A B 2 2 3 3 smN smF smT W 1954 hA hB (hP.keep g) (hL.keep g)
  have hR0 := fun A B W (hA : NamedAt W A 2 smN smF) (hB : RowsAt W 4 B 2 smT) (g : Gr w W) => repeats_any A B 2 2 2 3 smN smF smT W 0 hA hB (hP.keep g) (hL.keep g)
  rw [sm_ok, if_pos rfl, if_pos rfl] at hAC
  unfold farV at hFR
  rw [sm_walk, sm_walkN, sm_far] at hFR
  rw [sm_walk, sm_walkN, sm_home] at hHM
  have e2 : timN smN smF 2 smT 3 2 = 6 := by unfold timN; rw [if_pos sm_tim.1]; rfl
  have e6 : timN smN smF 2 smT 3 6 = 0 := by unfold timN; rw [sm_tim.2]; rfl
  rw [sm_tim.1, e2] at hT2
  rw [sm_tim.2, e6] at hT6
  rw [sm_repE 1953 (by omega), sm_repV1] at hR1
  rw [sm_repE 1954 (by omega), sm_repV2] at hR2
  have er0 : repV smN smF 2 smT 2 0 = 0 := by unfold repV; rw [sm_repE0]; rfl
  rw [sm_repE0, er0] at hR0
  have HAC := Lib.hid hAC; have HFR := Lib.hid hFR; have HHM := Lib.hid hHM; have HT2 := Lib.hid hT2; have HT6 := Lib.hid hT6; have HR1 := Lib.hid hR1; have HR2 := Lib.hid hR2; have HR0 := Lib.hid hR0
  clear hAC hFR hHM hT2 hT6 hR1 hR2 hR0 e2 e6 er0 hP hL
  have HCUT : Hid (∀ W A, RowsAt W 4 A 3 smT → RowsAt W 4 A 2 smT) := Lib.hid (fun W A h hn => by
    obtain ⟨b, off, e, hb, hc⟩ := h (by omega)
    exact ⟨b, off, e, hb, fun i hi => hc i (by omega)⟩)
  go_enter Tryz.func4, Tryz.ntmps4
  go_wp2_with fail
  go_at_call 17
  refine HSM.out.mono ?_
  rintro e w1 ⟨A, B, rfl, hA, hB, hg1⟩
  have HA := Lib.hid hA; have HB := Lib.hid hB; have HG1 := Lib.hid hg1
  clear hA hB hg1 HSM
  go_wp2_with fail
  go_at_call 5
  refine (HAC.out A B _ HA.out HB.out).mono ?_
  rintro e w2 ⟨A2, c2, rfl, hi2, -, hg2⟩
  have HI2 := Lib.hid hi2; have HG2 := Lib.hid hg2
  clear hi2 hg2
  go_wp2_with fail
  go_at_call 10
  refine (HFR.out A B _ (HA.out.keep HG2.out) (HB.out.keep HG2.out) (HG1.out.trans HG2.out)).mono ?_
  rintro e w3 ⟨rfl, hg3⟩
  have HG3 := Lib.hid (HG2.out.trans hg3); have HI3 := Lib.hid (HI2.out.keep hg3)
  clear hg3
  go_wp2_with fail
  go_at_call 8
  refine (HHM.out A B _ (HA.out.keep HG3.out) (HB.out.keep HG3.out) (HG1.out.trans HG3.out)).mono ?_
  rintro e w4 ⟨A4, c4, rfl, hi4, -, hg4⟩
  have HG4 := Lib.hid (HG3.out.trans hg4); have HI4 := Lib.hid (HI3.out.keep hg4); have HH4 := Lib.hid (intAt_of hi4)
  clear hi4 hg4
  go_wp2_with fail
  go_at_call 14
  refine (HT2.out A B _ (HA.out.keep HG4.out) (HB.out.keep HG4.out)).mono ?_
  rintro e w5 ⟨A5, c5, rfl, hr5, hc5, hg5⟩
  have HG5 := Lib.hid (HG4.out.trans hg5); have HI5 := Lib.hid (HI4.out.keep hg5); have HH5 := Lib.hid (HH4.out.keep hg5); have HR5 := Lib.hid hr5
  clear hr5 hg5
  go_wp2_with fail
  go_at_call 12
  refine (HR1.out A B _ (HA.out.keep HG5.out) (HB.out.keep HG5.out) (HG1.out.trans HG5.out)).mono ?_
  rintro e w6 ⟨rfl, hg6⟩
  have HG6 := Lib.hid (HG5.out.trans hg6); have HI6 := Lib.hid (HI5.out.keep hg6); have HH6 := Lib.hid (HH5.out.keep hg6); have HR6 := Lib.hid (HR5.out.keep hg6)
  clear hg6
  go_wp2_with fail
  go_at_call 12
  refine (HR2.out A B _ (HA.out.keep HG6.out) (HB.out.keep HG6.out) (HG1.out.trans HG6.out)).mono ?_
  rintro e w7 ⟨rfl, hg7⟩
  have HG7 := Lib.hid (HG6.out.trans hg7); have HI7 := Lib.hid (HI6.out.keep hg7); have HH7 := Lib.hid (HH6.out.keep hg7); have HR7 := Lib.hid (HR6.out.keep hg7)
  clear hg7
  obtain ⟨bB, oB, rfl, hbB, -⟩ := HB.out (by omega)
  go_wp2_with fail
  go_at_call 12
  refine (HR0.out A (some ⟨bB, oB, none⟩) _ (HA.out.keep HG7.out) (HCUT.out _ _ (HB.out.keep HG7.out)) (HG1.out.trans HG7.out)).mono ?_
  rintro e w8 ⟨rfl, hg8⟩
  have HG8 := Lib.hid (HG7.out.trans hg8); have HI8 := Lib.hid (HI7.out.keep hg8); have HH8 := Lib.hid (HH7.out.keep hg8); have HR8 := Lib.hid (HR7.out.keep hg8)
  clear hg8
  go_wp2_with fail
  go_at_call 14
  refine (HT6.out A (some ⟨bB, oB, none⟩) _ (HA.out.keep HG8.out) (HB.out.keep HG8.out)).mono ?_
  rintro e w9 ⟨A9, c9, rfl, -, -, hg9⟩
  have HG9 := Lib.hid (HG8.out.trans hg9); have HI9 := Lib.hid (HI8.out.keep hg9); have HH9 := Lib.hid (HH8.out.keep hg9); have HR9 := Lib.hid (HR8.out.keep hg9)
  clear hg9 HI2 HI3 HI4 HI5 HI6 HI7 HI8 HH4 HH5 HH6 HH7 HH8 HR5 HR6 HR7 HR8 HG2 HG3 HG4 HG5 HG6 HG7 HG8 HR1 HR2 HR0 HT2 HT6 HHM HFR HAC HCUT
  have HGG := Lib.hid (HG1.out.trans HG9.out)
  go_wp2_with fail
  go_at_call 7
  refine (same16_any A2 (some ⟨w9.heap.size, 0, none⟩) 2 c2 2 2 (accP smT 3) (fun i => if i = 0 then 0 else -1) _ (HI9.out.keep ((Gr.refl _).alloc _)) (intAt_two w9 0 (-1) _ _ rfl rfl) (by omega)).mono ?_
  rintro e wa ⟨rfl, hga⟩
  have HGA := Lib.hid (((Gr.refl w9).alloc _).trans hga)
  clear hga
  rw [show (decide (2 = 2) && eqTo (accP smT 3) (fun i => if i = 0 then 0 else -1) 2) = true by decide +kernel]
  go_wp2_with fail
  go_at_call 7
  refine (same16_any A4 (some ⟨wa.heap.size, 0, none⟩) 2 c4 2 2 (fun i => (([0, 2].getD i 0 : Nat) : Int)) (fun i => if i = 0 then 0 else 2) _ ((HH9.out.keep HGA.out).keep ((Gr.refl _).alloc _)) (intAt_two wa 0 2 _ _ rfl rfl) (by omega)).mono ?_
  rintro e wb ⟨rfl, hgb⟩
  have HGB := Lib.hid (HGA.out.trans (((Gr.refl wa).alloc _).trans hgb))
  clear hgb
  rw [show (decide (2 = 2) && eqTo (fun i => (([0, 2].getD i 0 : Nat) : Int)) (fun i => if i = 0 then 0 else 2) 2) = true by decide +kernel]
  obtain ⟨b5, o5, rfl, hb5, hcc⟩ := (HR9.out.keep HGB.out) (by omega)
  have q0 := hcc 3 (by omega) 0 (by omega); have q1 := hcc 3 (by omega) 1 (by omega); have q2 := hcc 3 (by omega) 2 (by omega); have q3 := hcc 3 (by omega) 3 (by omega)
  have p0 := hcc 5 (by omega) 0 (by omega); have p1 := hcc 5 (by omega) 1 (by omega); have p2 := hcc 5 (by omega) 2 (by omega); have p3 := hcc 5 (by omega) 3 (by omega)
  rw [show tmT smT 3 3 0 = 4 by decide +kernel] at q0
  rw [show tmT smT 3 3 1 = 0 by decide +kernel] at q1
  rw [show tmT smT 3 3 2 = 1 by decide +kernel] at q2
  rw [show tmT smT 3 3 3 = 0 by decide +kernel] at q3
  rw [show tmT smT 3 5 0 = 6 by decide +kernel] at p0
  rw [show tmT smT 3 5 1 = 1 by decide +kernel] at p1
  rw [show tmT smT 3 5 2 = -1 by decide +kernel] at p2
  rw [show tmT smT 3 5 3 = 0 by decide +kernel] at p3
  simp only [Nat.add_assoc] at q0 q1 q2 q3 p0 p1 p2 p3
  have HGZ := Lib.hid (HGG.out.trans HGB.out)
  clear hcc
  go_wp2_with fail
  go_ret
  exact ⟨rfl, HGZ.out.trans (by repeat (first | with_reducible exact Gr.refl _ | with_reducible refine Gr.alloc ?_ _ | with_reducible refine Gr.drew ?_ | with_reducible refine Gr.trans ?_ (by assumption) | with_reducible refine Gr.setCell ?_ (by (try simp); (try omega)) _))⟩
end Go.Proofs.YtelhmdhhabgihaaGreatDoor
