/-
  schismaref08.Takes.
  schismaref08.Walk: the same as comma.Walk.
-/
import Derived.Test.YtelhmdhhabgihaaGreatDoorRCX
namespace Go.Proofs.YtelhmdhhabgihaaGreatDoor
open Go.RowKit

set_option maxRecDepth 100000 in
set_option maxHeartbeats 16000000 in
theorem rtakes_any (A B : Option Addr) (n c m d : Nat) (t : Nat → Nat → Int) (w : World) (hB : RowsAt w 4 B m t) :
    Calls Tryz.prog 32 #[.slice A n c, .slice B m d] w fun e w' => e = .returned (.bool (decide (m ≤ 15) && takesB n t m)) ∧ Gr w w' := by
  by_cases h15 : m ≤ 15
  · have d0 : decide (15 < (m : Int)) = false := decide_eq_false (by omega)
    have d0' : decide (15 < m) = false := decide_eq_false (by omega)
    rw [decide_eq_true h15, Bool.true_and]
    have HB := Lib.hid hB
    have HNO := Lib.hid (fun k (hk : k < m) h => takesB_no (n := n) (t := t) hk h)
    obtain ⟨R, hR⟩ : ∃ R, R = takesB n t m := ⟨_, rfl⟩
    have HR := Lib.hid hR
    rw [← hR] at HNO ⊢
    clear hB hR
    go_enter Tryz.func32, Tryz.ntmps32
    go_wp2_with fail
    go_loopw [5] (fun iv wr => ∃ k : Nat, k ≤ m ∧ iv = .int .i64 (k : Int) ∧ takesB n t k = true ∧ Gr w wr) (fun iv _ => m - (intOf iv).toNat)
    case atStart => exact ⟨0, Nat.zero_le _, rfl, rfl, Gr.refl _⟩
    case round =>
      obtain ⟨k, hk, rfl, hok, hg⟩ := hrel
      have HOK := Lib.hid hok; have HG := Lib.hid hg
      clear hok hg
      obtain ⟨wo, rfl⟩ : ∃ wo : World, wo = wr := ⟨_, rfl⟩
      by_cases hlt : k < m
      · have hlt' : decide ((k : Int) < (m : Int)) = true := decide_eq_true (by omega)
        have hi0 : (0 : Int) ≤ (k : Int) := by omega
        have hi1 : (k : Int) < (m : Int) := by omega
        obtain ⟨b, off, rfl, hbl, hcc⟩ := (HB.out.keep HG.out).at_ hlt
        have c0 := hcc 0 (by omega); have c1 := hcc 1 (by omega); have c2 := hcc 2 (by omega); have c3 := hcc 3 (by omega)
        simp only [Nat.add_zero] at c0
        have hw : IntKind.i64.wrap ((k : Int) + 1) = (k : Int) + 1 := IntWalk.i64_in _ ⟨by omega, by omega⟩
        have HT1 : Hid (takesB n t (k + 1) = takeB n k (t k 0) (t k 1) (t k 2) (t k 3)) := Lib.hid (by rw [takesB, HOK.out, Bool.true_and])
        have HT0 := Lib.hid (HNO.out k hlt)
        clear hcc
        generalize t k 0 = s at *
        generalize t k 1 = cc at *
        generalize t k 2 = x at *
        generalize t k 3 = dd at *
        go_upto_region 7 with fail
        have HZ := Lib.hid (show ∀ W, W = wo.alloc (.cells #[.int .i64 s, .int .i64 cc, .int .i64 x, .int .i64 dd] 40) → W.cell? ⟨wo.heap.size, 0, none⟩ = some (.int .i64 s) ∧ W.cell? ⟨wo.heap.size, 1, none⟩ = some (.int .i64 cc) ∧ W.cell? ⟨wo.heap.size, 2, none⟩ = some (.int .i64 x) ∧ W.cell? ⟨wo.heap.size, 3, none⟩ = some (.int .i64 dd) ∧ Gr wo W ∧ wo.heap.size < W.heap.size by
          rintro W rfl
          exact ⟨by simp [go_sem], by simp [go_sem], by simp [go_sem], by simp [go_sem], (Gr.refl _).alloc _, by simp⟩)
        generalize hWq : wo.alloc (.cells #[.int .i64 s, .int .i64 cc, .int .i64 x, .int .i64 dd] 40) = wq
        clear c0 c1 c2 c3 hbl
        obtain ⟨p0, p1, p2, p3, pg, pz⟩ := HZ.out wq hWq.symm
        have HGQ := Lib.hid (HG.out.trans pg)
        clear HZ hWq pg
        by_cases h0 : s = (k : Int) + 1
        · have b0 : (s != (k : Int) + 1) = false := by simpa using h0
          by_cases h1 : 0 ≤ cc
          · have b1 : decide (cc < 0) = false := decide_eq_false (by omega)
            by_cases h2 : cc < (n : Int)
            · have b2 : decide ((n : Int) ≤ cc) = false := decide_eq_false (by omega)
              by_cases h3 : -1 ≤ x
              · have b3 : decide (x < -1) = false := decide_eq_false (by omega)
                by_cases h4 : x ≤ 1
                · have b4 : decide (1 < x) = false := decide_eq_false (by omega)
                  by_cases h5 : 0 ≤ dd
                  · have b5 : decide (dd < 0) = false := decide_eq_false (by omega)
                    by_cases h6 : dd < 8
                    · have b6 : decide (8 ≤ dd) = false := decide_eq_false (by omega)
                      by_cases h7 : x = 0
                      · have b7 : (x == 0) = true := by simpa using h7
                        by_cases h8 : cc = 0
                        · have b8 : (cc != 0) = false := by simpa using h8
                          have HN : Hid (takesB n t (k + 1) = true) := Lib.hid (by rw [HT1.out]; exact decide_eq_true (by omega))
                          clear HT1 HT0 h0 h7 h8
                          go_wp2_with fail
                          go_roundw
                          case rel => exact ⟨k + 1, by omega, by go_num, HN.out, HGQ.out⟩
                          case measure => simp [intOf]; omega
                        · have b8 : (cc != 0) = true := by simpa using h8
                          have HRF : Hid (R = false) := Lib.hid (HT0.out (decide_eq_false (fun h => by omega)))
                          clear HT1 HT0 h0 h7
                          go_wp2_with fail
                          go_ret
                          exact ⟨ret_bool HRF.out.symm, HGQ.out⟩
                      · have b7 : (x == 0) = false := by simpa using h7
                        have HN : Hid (takesB n t (k + 1) = true) := Lib.hid (by rw [HT1.out]; exact decide_eq_true (by omega))
                        clear HT1 HT0 h0
                        go_wp2_with fail
                        go_roundw
                        case rel => exact ⟨k + 1, by omega, by go_num, HN.out, HGQ.out⟩
                        case measure => simp [intOf]; omega
                    · have b6 : decide (8 ≤ dd) = true := decide_eq_true (by omega)
                      have HRF : Hid (R = false) := Lib.hid (HT0.out (decide_eq_false (fun h => by omega)))
                      clear HT1 HT0 h0
                      go_wp2_with fail
                      go_ret
                      exact ⟨ret_bool HRF.out.symm, HGQ.out⟩
                  · have b5 : decide (dd < 0) = true := decide_eq_true (by omega)
                    have HRF : Hid (R = false) := Lib.hid (HT0.out (decide_eq_false (fun h => by omega)))
                    clear HT1 HT0 h0
                    go_wp2_with fail
                    go_ret
                    exact ⟨ret_bool HRF.out.symm, HGQ.out⟩
                · have b4 : decide (1 < x) = true := decide_eq_true (by omega)
                  have HRF : Hid (R = false) := Lib.hid (HT0.out (decide_eq_false (fun h => by omega)))
                  clear HT1 HT0 h0
                  go_wp2_with fail
                  go_ret
                  exact ⟨ret_bool HRF.out.symm, HGQ.out⟩
              · have b3 : decide (x < -1) = true := decide_eq_true (by omega)
                have HRF : Hid (R = false) := Lib.hid (HT0.out (decide_eq_false (fun h => by omega)))
                clear HT1 HT0 h0
                go_wp2_with fail
                go_ret
                exact ⟨ret_bool HRF.out.symm, HGQ.out⟩
            · have b2 : decide ((n : Int) ≤ cc) = true := decide_eq_true (by omega)
              have HRF : Hid (R = false) := Lib.hid (HT0.out (decide_eq_false (fun h => by omega)))
              clear HT1 HT0 h0
              go_wp2_with fail
              go_ret
              exact ⟨ret_bool HRF.out.symm, HGQ.out⟩
          · have b1 : decide (cc < 0) = true := decide_eq_true (by omega)
            have HRF : Hid (R = false) := Lib.hid (HT0.out (decide_eq_false (fun h => by omega)))
            clear HT1 HT0 h0
            go_wp2_with fail
            go_ret
            exact ⟨ret_bool HRF.out.symm, HGQ.out⟩
        · have b0 : (s != (k : Int) + 1) = true := by simpa using h0
          have HRF : Hid (R = false) := Lib.hid (HT0.out (decide_eq_false (fun h => by omega)))
          clear HT1 HT0
          go_wp2_with fail
          go_ret
          exact ⟨ret_bool HRF.out.symm, HGQ.out⟩
      · obtain rfl : m = k := by omega
        have hlt' : decide ((m : Int) < (m : Int)) = false := decide_eq_false (by omega)
        have HF : Hid (R = true) := Lib.hid (HR.out.trans HOK.out)
        go_wp2_with fail
        go_ret
        exact ⟨ret_bool HF.out.symm, HG.out⟩
  · have d0 : decide (15 < (m : Int)) = true := decide_eq_true (by omega)
    have d0' : decide (15 < m) = true := decide_eq_true (by omega)
    rw [decide_eq_false h15, Bool.false_and]
    clear hB
    go_enter Tryz.func32, Tryz.ntmps32
    go_wp2_with fail
    go_ret
    exact ⟨rfl, Gr.refl _⟩
end Go.Proofs.YtelhmdhhabgihaaGreatDoor

namespace Go.Proofs.YtelhmdhhabgihaaGreatDoor
open Go.RowKit

set_option maxRecDepth 100000 in
set_option maxHeartbeats 16000000 in
theorem rwalk_arg (A B : Option Addr) (n c m d : Nat) (nm : Nat → ByteArray) (f t : Nat → Nat → Int) (w : World) (hA : NamedAt w A n nm f) (hB : RowsAt w 4 B m t) (hbad : walkOk nm f n t m = false) :
    Calls Tryz.prog 21 #[.slice A n c, .slice B m d] w (WalkR 0 1 (shP f t) w) := by
  have hV := fun W (g : Gr w W) => rcomma_any A n c nm f W (hA.keep g)
  have hT := fun W (g : Gr w W) => rtakes_any A B n c m d t W (hB.keep g)
  rcases btf (commaB nm f n) with h | h
  · rw [h] at hV
    unfold walkOk at hbad
    rw [h, Bool.true_and] at hbad
    rw [hbad] at hT
    have HV := Lib.hid hV; have HT := Lib.hid hT
    clear hV hT hA hB h hbad
    go_enter Tryz.func21, Tryz.ntmps21
    go_wp2_with fail
    go_at_call 31
    refine (HV.out _ (Gr.refl _)).mono ?_
    rintro e w1 ⟨rfl, hg1⟩
    have HG1 := Lib.hid hg1
    clear hg1
    go_wp2_with fail
    go_at_call 32
    refine (HT.out _ HG1.out).mono ?_
    rintro e w2 ⟨rfl, hg2⟩
    have HG2 := Lib.hid (HG1.out.trans hg2)
    clear hg2
    go_wp2_with fail
    go_ret2
    exact walkR_none ⟨rfl, HG2.out⟩
  · rw [h] at hV
    have HV := Lib.hid hV
    clear hV hT hA hB h hbad
    go_enter Tryz.func21, Tryz.ntmps21
    go_wp2_with fail
    go_at_call 31
    refine (HV.out _ (Gr.refl _)).mono ?_
    rintro e w1 ⟨rfl, hg1⟩
    have HG1 := Lib.hid hg1
    clear hg1
    go_wp2_with fail
    go_ret2
    exact walkR_none ⟨rfl, HG1.out⟩
set_option maxRecDepth 100000 in
set_option maxHeartbeats 16000000 in
theorem rwalk_in (A B : Option Addr) (n c m d : Nat) (nm : Nat → ByteArray) (f t : Nat → Nat → Int) (w : World) (hA : NamedAt w A n nm f) (hB : RowsAt w 4 B m t) (hok : walkOk nm f n t m = true) :
    Calls Tryz.prog 21 #[.slice A n c, .slice B m d] w (WalkR (if rangeB f t m then m + 1 else 0) (if rangeB f t m then 0 else 3) (shP f t) w) := by
  have hV := fun W (g : Gr w W) => rcomma_any A n c nm f W (hA.keep g)
  have hT := fun W (g : Gr w W) => rtakes_any A B n c m d t W (hB.keep g)
  unfold walkOk at hok
  simp only [Bool.and_eq_true, decide_eq_true_eq] at hok
  obtain ⟨h1, h15, htk⟩ := hok
  rw [h1] at hV
  rw [decide_eq_true h15, htk] at hT
  have hn6 := (commaB_parts h1).2.1
  have hbd := rowsOk_bd (commaB_parts h1).2.2.2.1
  have HV := Lib.hid hV; have HT := Lib.hid hT; have HA := Lib.hid hA; have HB := Lib.hid hB; have HTK := Lib.hid (fun k (hk : k < m) => takesB_at htk hk); have HBD := Lib.hid hbd
  obtain ⟨i0, hin, hz0, hz1, hz2⟩ := info_parts (show (Tryz.prog.info? 53).map (fun i => (i.zero, i.size, i.bytes)) = some (some (.agg #[.int .i64 0, .int .i64 0, .int .i64 0, .int .i64 0, .int .i64 0, .int .i64 0]), 6, 48) by kernel_rfl)
  have HINF := Lib.hid (And.intro hin (And.intro hz0 (And.intro hz1 hz2)))
  clear hin hz0 hz1 hz2 hV hT h1 hA hB htk hbd
  obtain ⟨L, hL⟩ : ∃ L : Nat, L = if rangeB f t m then m + 1 else 0 := ⟨_, rfl⟩
  obtain ⟨E, hE⟩ : ∃ E : Int, E = if rangeB f t m then 0 else 3 := ⟨_, rfl⟩
  rw [← hL, ← hE]
  have HLT : Hid (rangeB f t m = true → L = m + 1 ∧ E = 0) := Lib.hid (fun h => by rw [hL, hE, h]; exact ⟨rfl, rfl⟩)
  have HLF : Hid (rangeB f t m = false → L = 0 ∧ E = 3) := Lib.hid (fun h => by rw [hL, hE, h]; exact ⟨rfl, rfl⟩)
  clear hL hE
  go_enter Tryz.func21, Tryz.ntmps21
  go_wp2_with fail
  go_at_call 31
  refine (HV.out _ (Gr.refl _)).mono ?_
  rintro e w1 ⟨rfl, hg1⟩
  have HG1 := Lib.hid hg1
  clear hg1
  go_wp2_with fail
  go_at_call 32
  refine (HT.out _ HG1.out).mono ?_
  rintro e wo ⟨rfl, hg2⟩
  have HGW := Lib.hid (HG1.out.trans hg2)
  clear hg2
  have hS0 : ∀ W, W = (wo.alloc (.cells #[.int .i64 0, .int .i64 0, .int .i64 0, .int .i64 0, .int .i64 0, .int .i64 0] 53)).alloc (.cells #[.int .i64 0, .int .i64 0, .int .i64 0, .int .i64 0, .int .i64 0, .int .i64 0] 53) → WkS wo wo.heap.size (shP f t 0) (shP f t) (.slice (some ⟨wo.heap.size + 1, 0, none⟩) 1 1) 1 W := by
    rintro W rfl
    refine ⟨((Gr.refl _).alloc _).alloc _, Nat.le_refl _, by simp, fun j hj => ?_, fun j => by simp [go_sem], ?_⟩
    · obtain rfl | rfl | rfl | rfl | rfl | rfl : j = 0 ∨ j = 1 ∨ j = 2 ∨ j = 3 ∨ j = 4 ∨ j = 5 := by omega
      all_goals simp [go_sem, shP]
    · have z := World.ownsRow_lit (base := wo.heap.size + 1) (e := 53) (size := 6) (wo.alloc (.cells #[.int .i64 0, .int .i64 0, .int .i64 0, .int .i64 0, .int .i64 0, .int .i64 0] 53)) #[.int .i64 0, .int .i64 0, .int .i64 0, .int .i64 0, .int .i64 0, .int .i64 0] 1 (by simp) (by decide) (by simp)
      rw [World.size_alloc] at z
      exact z
  have HS0 := Lib.hid hS0
  clear hS0
  go_wp2_with fail
  generalize hW : (wo.alloc (.cells #[.int .i64 0, .int .i64 0, .int .i64 0, .int .i64 0, .int .i64 0, .int .i64 0] 53)).alloc (.cells #[.int .i64 0, .int .i64 0, .int .i64 0, .int .i64 0, .int .i64 0, .int .i64 0] 53) = W2
  have HS1 := Lib.hid (HS0.out W2 hW.symm)
  clear hW HS0
  generalize hVB : wo.heap.size = VB at *
  have HVB := Lib.hid hVB
  clear hVB
  go_loopw [8, 9] (fun lv iv wr => ∃ (LV : Value) (k : Nat), LV = lv ∧ k ≤ m ∧ iv = .int .i64 (k : Int) ∧ rangeB f t k = true ∧ WkS wo VB (shP f t k) (shP f t) LV (k + 1) wr) (fun _ iv _ => m - (intOf iv).toNat)
  case atStart => exact ⟨_, 0, rfl, Nat.zero_le _, rfl, rfl, HS1.out⟩
  case round =>
    obtain ⟨lv, k, rfl, hk, rfl, hrg, hS⟩ := hrel
    have HS := Lib.hid hS; have HRG := Lib.hid hrg
    have HGR := Lib.hid (HGW.out.trans hS.gr)
    have hsz := hS.lt
    have hbdS := allIn_get (rangeB_at hrg (Nat.le_refl k))
    have HBS : Hid (∀ j, j < 6 → -48 ≤ shP f t k j ∧ shP f t k j ≤ 48) := Lib.hid (fun j hj => by have z := hbdS j hj; rwa [get_row (shP f t) k j hj] at z)
    have hglo := hS.gr.le
    clear hS hrg HS1 hbdS
    obtain ⟨wp, rfl⟩ : ∃ wp : World, wp = wr := ⟨_, rfl⟩
    by_cases hlt : k < m
    · have hlt' : decide ((k : Int) < (m : Int)) = true := decide_eq_true (by omega)
      obtain ⟨b, off, rfl, hbl, hcc⟩ := HB.out.at_ hlt
      obtain ⟨p1, p2, p3, p4, p5, p6⟩ := takeB_parts (HTK.out k hlt)
      obtain ⟨i, hi⟩ := Int.eq_ofNat_of_zero_le p2
      have hin : i < n := by omega
      have HSH : Hid (shP f t (k + 1) = fun j => shP f t k j + t k 2 * f i j) := Lib.hid (by funext j; rw [shP, hi]; rfl)
      have c1 := hcc 1 (by omega); have c2 := hcc 2 (by omega)
      rw [hi] at c1
      have hxx : -1 ≤ t k 2 ∧ t k 2 ≤ 1 := by omega
      have hi0 : (0 : Int) ≤ (i : Int) := by omega
      have hi1 : (i : Int) < (n : Int) := by omega
      have hk0 : (0 : Int) ≤ (k : Int) := by omega
      have hk1 : (k : Int) < (m : Int) := by omega
      have hbV : b < VB := by have := HGW.out.le; have := HVB.out; omega
      have HCA := Lib.hid (show ∀ W, But VB wp.heap.size wp W → W.cell? ⟨b, off + k * 4 + 1, none⟩ = some (.int .i64 (i : Int)) ∧ W.cell? ⟨b, off + k * 4 + 2, none⟩ = some (.int .i64 (t k 2)) from fun W hW => by
        have e : ∀ o, W.cell? ⟨b, o, none⟩ = w.cell? ⟨b, o, none⟩ := fun o => (hW.cell (p := ⟨b, o, none⟩) (by show b < wp.heap.size; omega) (by show b ≠ VB; omega)).trans (Below.cell (p := ⟨b, o, none⟩) HGR.out hbl)
        exact ⟨(e _).trans c1, (e _).trans c2⟩)
      obtain ⟨bn, offn, hEn, hbn, hcn⟩ := HA.out (show 0 < n by omega)
      have hcn2 := (hcn i hin).2.2
      have hnV : bn < VB := by have := HGW.out.le; have := HVB.out; omega
      have HCN := Lib.hid (show ∀ W, But VB wp.heap.size wp W → ∀ j, j < 6 → W.cell? ⟨bn, offn + i * 7 + 1 + j, none⟩ = some (.int .i64 (f i j)) from fun W hW j hj => by
        have e : W.cell? ⟨bn, offn + i * 7 + (j + 1), none⟩ = w.cell? ⟨bn, offn + i * 7 + (j + 1), none⟩ := (hW.cell (p := ⟨bn, offn + i * 7 + (j + 1), none⟩) (by show bn < wp.heap.size; omega) (by show bn ≠ VB; omega)).trans (Below.cell (p := ⟨bn, offn + i * 7 + (j + 1), none⟩) HGR.out hbn)
        rw [show offn + i * 7 + 1 + j = offn + i * 7 + (j + 1) by omega]
        exact e.trans (hcn2 j hj))
      cases hEn
      have hbf := HBD.out i hin
      have HBF := Lib.hid hbf
      clear hcc hcn hcn2 p1 p2 p3 p4 p5 p6 hi c1 c2 hbf
      generalize t k 2 = x at *
      obtain ⟨K1, hK1⟩ : ∃ K1 : Nat → Int, K1 = shP f t (k + 1) := ⟨_, rfl⟩
      rw [← hK1] at HSH
      generalize hK0 : shP f t k = K0 at HSH HBS HS
      have HA0 := Lib.hid HS.out.arr
      have hmx : ∀ j, j < 6 → (if j = 0 then K1 0 else K0 j) = (if j = 0 then K1 0 else K0 j) := fun _ _ => rfl
      clear hmx
      go_wp2_with fail
      go_loopw [10] (fun jv wr => ∃ j : Nat, j ≤ 6 ∧ jv = .int .i64 (j : Int) ∧ ArrRel 6 (mixT K1 K0 j) VB wp.heap.size wp wr) (fun jv _ => 6 - (intOf jv).toNat)
      case atStart => exact ⟨0, by omega, rfl, HA0.out.congr (fun j _ => by simp [mixT])⟩
      case round =>
        obtain ⟨j, hj, rfl, hR⟩ := hrel
        have hszr := hR.size
        have HBUT := Lib.hid hR.but
        have hvl := hR.lt
        obtain ⟨wq, rfl⟩ : ∃ wq : World, wq = wr := ⟨_, rfl⟩
        by_cases hj6 : j < 6
        · have hj6' : decide ((j : Int) < 6) = true := decide_eq_true (by omega)
          have hj0 : (0 : Int) ≤ (j : Int) := by omega
          have hj1 : (j : Int) < 6 := by omega
          have hx := hR.cell j hj6
          have fx := hR.froz j
          obtain ⟨y1, y2⟩ := HCA.out _ HBUT.out
          have y3 := HCN.out _ HBUT.out j hj6
          have bv := HBS.out j hj6
          have bf := HBF.out j hj6
          rw [mixT, if_neg (by omega)] at hx
          have HST := Lib.hid (hR.store hj6 (K0 j + x * f i j))
          have hbq : b < wq.heap.size := by omega
          have hnq : bn < wq.heap.size := by omega
          clear hR
          have hxz : -48 ≤ x * f i j ∧ x * f i j ≤ 48 := by
            rcases (by omega : x = -1 ∨ x = 0 ∨ x = 1) with rfl | rfl | rfl <;> omega
          generalize hgx : K0 j = y at hx bv HST
          generalize hgy : f i j = z at y3 bf HST hxz
          have HX := Lib.hid hgx; have HYY := Lib.hid hgy
          clear hgx hgy bf
          have hw1 : IntKind.i64.wrap (x * z) = x * z := IntWalk.i64_in _ ⟨by omega, by omega⟩
          have hw2 : IntKind.i64.wrap (y + x * z) = y + x * z := IntWalk.i64_in _ ⟨by omega, by omega⟩
          have hv1 : wrap64 (x * z) = x * z := (IntWalk.i64_left _).symm.trans hw1
          have hv2 : wrap64 (y + x * z) = y + x * z := (IntWalk.i64_left _).symm.trans hw2
          clear hbl hbn hbV hnV
          go_wp2_with fail
          go_region
          all_goals
            go_wp2_with fail
            go_roundw
            case rel =>
              refine ⟨j + 1, by omega, by go_num, (ArrRel.congr (ArrRel.drew HST.out) fun q hq => ?_)⟩
              have := mixT_step K1 K0 j q
              rw [← this, ← HX.out, ← HYY.out]
              have hk1 : K1 j = K0 j + x * f i j := by rw [HSH.out]
              rw [hk1]
            case measure => simp [intOf]; omega
        · obtain rfl : j = 6 := by omega
          have HRE := Lib.hid (hR.congr (u' := K1) (fun j hj => by simp [mixT, hj]))
          have hS3 := HS.out.added HRE.out
          have hE1 := hK1
          rw [hK1] at hS3
          have HS3 := Lib.hid hS3
          have hsz3 := hS3.lt
          have v0 := hS3.cell 0 (by omega); have v1 := hS3.cell 1 (by omega); have v2 := hS3.cell 2 (by omega); have v3 := hS3.cell 3 (by omega); have v4 := hS3.cell 4 (by omega); have v5 := hS3.cell 5 (by omega)
          have HIV := Lib.hid (fun W => r8interval_any (shP f t (k + 1) 0) (shP f t (k + 1) 1) (shP f t (k + 1) 2) (shP f t (k + 1) 3) (shP f t (k + 1) 4) (shP f t (k + 1) 5) W)
          have HR1 : Hid (rangeB f t (k + 1) = allIn ⟨shP f t (k + 1) 0, shP f t (k + 1) 1, shP f t (k + 1) 2, shP f t (k + 1) 3, shP f t (k + 1) 4, shP f t (k + 1) 5⟩ 48 6) := Lib.hid (by rw [rangeB, HRG.out, Bool.true_and])
          have HR0 : Hid (allIn ⟨shP f t (k + 1) 0, shP f t (k + 1) 1, shP f t (k + 1) 2, shP f t (k + 1) 3, shP f t (k + 1) 4, shP f t (k + 1) 5⟩ 48 6 = false → rangeB f t m = false) := Lib.hid (fun h => rangeB_no hlt h)
          clear hS3 hR HRE HSH hK1 hK0 hE1 HA0 HS
          generalize allIn ⟨shP f t (k + 1) 0, shP f t (k + 1) 1, shP f t (k + 1) 2, shP f t (k + 1) 3, shP f t (k + 1) 4, shP f t (k + 1) 5⟩ 48 6 = R at *
          rcases btf R with rfl | rfl
          · go_wp2_with fail
            go_at_call 33
            refine (HIV.out _).mono ?_
            rintro e w4 ⟨rfl, hgm⟩
            have HS4 := Lib.hid (HS3.out.keep hgm)
            have v0' := HS4.out.cell 0 (by omega); have v1' := HS4.out.cell 1 (by omega); have v2' := HS4.out.cell 2 (by omega); have v3' := HS4.out.cell 3 (by omega); have v4' := HS4.out.cell 4 (by omega); have v5' := HS4.out.cell 5 (by omega)
            have hsz4 := HS4.out.lt
            clear hgm HS3 v0 v1 v2 v3 v4 v5 HR0
            go_wp2_with (at_builtin; refine wpList_append_own _ rfl _ _ 49 rfl (VB + 1) 53 i0 (.agg #[.int .i64 0, .int .i64 0, .int .i64 0, .int .i64 0, .int .i64 0, .int .i64 0]) 6 48 Tryz.underlying49 HINF.out.1 HINF.out.2.1 HINF.out.2.2.1 HINF.out.2.2.2 rfl (by decide) _ _ _ rfl (HS4.out.own.alloc _) ⟨w4.heap.size, 0, none⟩ 1 1 [.int .i64 (shP f t (k + 1) 0), .int .i64 (shP f t (k + 1) 1), .int .i64 (shP f t (k + 1) 2), .int .i64 (shP f t (k + 1) 3), .int .i64 (shP f t (k + 1) 4), .int .i64 (shP f t (k + 1) 5)] rfl rfl (cell_six_new _ _ _ _ _ _ _ _) (by intro u hu; simp at hu; rcases hu with rfl | rfl | rfl | rfl | rfl | rfl <;> rfl) (by unfold maxLen; omega) (by omega) (by simp; omega) ?_; intro lv2 w5 hown1 hgrow hnil)
            have HN := Lib.hid (HS4.out.pushed ((Gr.refl _).alloc _) hown1 hgrow)
            clear hown1 hgrow hnil
            go_wp2_with fail
            go_roundw
            case rel => exact ⟨_, k + 1, rfl, by omega, by go_num, HR1.out, HN.out⟩
            case measure => simp [intOf]; omega
          · have HLE := Lib.hid (HLF.out (HR0.out rfl))
            go_wp2_with fail
            go_at_call 33
            refine (HIV.out _).mono ?_
            rintro e w4 ⟨rfl, hgm⟩
            have HGM := Lib.hid ((HGW.out.trans HS3.out.gr).trans hgm)
            clear hgm
            go_wp2_with fail
            go_ret2
            rw [HLE.out.1, HLE.out.2]
            exact walkR_none ⟨rfl, HGM.out⟩
    · obtain rfl : m = k := by omega
      have hlt' : decide ((m : Int) < (m : Int)) = false := decide_eq_false (by omega)
      have HLE := Lib.hid (HLT.out HRG.out)
      obtain ⟨A3, c3, rfl, hrows, -⟩ := rows_of_own HS.out.own (shP f t) (fun i j hi hj => rowCells_at _ _ i j hi hj)
      have HRW := Lib.hid hrows
      clear hrows
      go_wp2_with fail
      go_ret2
      rw [HLE.out.1, HLE.out.2]
      exact ⟨A3, c3, rfl, HRW.out, HGR.out⟩
theorem rwalk_any (A B : Option Addr) (n c m d : Nat) (nm : Nat → ByteArray) (f t : Nat → Nat → Int) (w : World) (hA : NamedAt w A n nm f) (hB : RowsAt w 4 B m t) :
    Calls Tryz.prog 21 #[.slice A n c, .slice B m d] w (WalkR (walkN nm f n t m) (walkE nm f n t m) (shP f t) w) := by
  rcases btf (walkOk nm f n t m) with h | h
  · have z := rwalk_in A B n c m d nm f t w hA hB h
    have e1 : walkE nm f n t m = (if rangeB f t m then 0 else 3) := by unfold walkE; rw [if_pos h]
    have e2 : walkN nm f n t m = (if rangeB f t m then m + 1 else 0) := by
      unfold walkN
      rw [e1]
      cases rangeB f t m <;> simp
    rw [e1, e2]
    exact z
  · have e1 : walkE nm f n t m = 1 := by unfold walkE; rw [if_neg (by simp [h])]
    have e2 : walkN nm f n t m = 0 := by unfold walkN; rw [e1]; rfl
    rw [e1, e2]
    exact (rwalk_arg A B n c m d nm f t w hA hB h)
end Go.Proofs.YtelhmdhhabgihaaGreatDoor
