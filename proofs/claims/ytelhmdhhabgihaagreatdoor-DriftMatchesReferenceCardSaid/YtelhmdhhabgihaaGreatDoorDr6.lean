/-
  drift.Repeats.
-/
import Derived.Test.YtelhmdhhabgihaaGreatDoorD45
import Derived.Test.YtelhmdhhabgihaaGreatDoorSizeOf
namespace Go.Proofs.YtelhmdhhabgihaaGreatDoor
open Go.RowKit

/-- How far the last section is. -/
def repD (f t : Nat → Nat → Int) (m : Nat) : V6 := distV (rowV (shP f t) m)
/-- The error that Repeats returns. -/
def repE (nm : Nat → ByteArray) (f : Nat → Nat → Int) (n : Nat) (t : Nat → Nat → Int) (m : Nat) (x : Int) : Int :=
  if walkOk nm f n t m && decide (0 ≤ x ∧ x ≤ 2400000) then (if rangeB f t m then (if 0 < sumLo (repD f t m) 6 then 0 else 4) else 3) else 1
/-- The number that Repeats returns. -/
def repV (nm : Nat → ByteArray) (f : Nat → Nat → Int) (n : Nat) (t : Nat → Nat → Int) (m : Nat) (x : Int) : Int :=
  if repE nm f n t m x = 0 then (x * 10000).tdiv (sumLo (repD f t m) 6) + 1 else 0
set_option maxRecDepth 100000 in
set_option maxHeartbeats 16000000 in
theorem repeats_any (A B : Option Addr) (n c m d : Nat) (nm : Nat → ByteArray) (f t : Nat → Nat → Int) (w : World) (x : Int) (hA : NamedAt w A n nm f) (hB : RowsAt w 4 B m t) (hP : Primes w) (hL : Logs w) :
    Calls Tryz.prog 12 #[.slice A n c, .slice B m d, .int .i64 x] w fun e w' => e = .returned (.tuple #[.int .i64 (repV nm f n t m x), .int .i64 (repE nm f n t m x)]) ∧ Gr w w' := by
  have hV := dvalid_any A B n c m d nm f t w hA hB
  rcases btf (walkOk nm f n t m && decide (0 ≤ x ∧ x ≤ 2400000)) with hall | hall
  · simp only [Bool.and_eq_true, decide_eq_true_eq] at hall
    obtain ⟨hok, hx0, hx1⟩ := hall
    have hW := fun W (g : Gr w W) => dwalk_any A B n c m d nm f t W (hA.keep g) (hB.keep g) (hP.keep g)
    rw [hok] at hV
    have hm15 : m ≤ 15 := by
      simp only [walkOk, Bool.and_eq_true, decide_eq_true_eq] at hok
      exact hok.2.1
    have d1 : decide (x < 0) = false := decide_eq_false (by omega)
    have d2 : decide (2400000 < x) = false := decide_eq_false (by omega)
    rcases btf (rangeB f t m) with hr | hr
    · have e1 : walkE nm f n t m = 0 := by unfold walkE; rw [if_pos hok, if_pos hr]
      have e2 : walkN nm f n t m = m + 1 := by unfold walkN; rw [if_pos e1]
      have hDA : allIn (distV (rowV (shP f t) m)) 576 6 = true := distV_in (by simp only [rowV]; exact rangeB_at hr (Nat.le_refl _))
      have hDI := shV_dist (rowV (shP f t) m)
      have hE : repE nm f n t m x = if 0 < sumLo (repD f t m) 6 then 0 else 4 := by unfold repE; rw [if_pos (by simp [hok, hx0, hx1]), if_pos hr]
      have hRV : repV nm f n t m x = if repE nm f n t m x = 0 then (x * 10000).tdiv (sumLo (repD f t m) 6) + 1 else 0 := rfl
      rw [hE] at hRV
      rw [hE, hRV]
      unfold repD
      rw [e1, e2] at hW
      have HV := Lib.hid hV; have HW := Lib.hid hW
      clear hV hW hA hB hok hr e1 e2 hE hRV
      generalize shP f t = g at *
      generalize distV (rowV g m) = DV at *
      obtain ⟨d0, d1', d2', d3, d4, d5⟩ := DV
      have HOF := Lib.hid (fun W (q : Gr w W) => of_ok d0 d1' d2' d3 d4 d5 W (hL.keep q) hDA)
      generalize sumLo ⟨d0, d1', d2', d3, d4, d5⟩ 6 = LO at *
      generalize sumHi ⟨d0, d1', d2', d3, d4, d5⟩ 6 = HI at *
      clear hDA hP hL
      have hw1 : IntKind.i64.wrap (x * 10000) = x * 10000 := IntWalk.i64_in _ ⟨by omega, by omega⟩
      obtain ⟨E, V, hEV, hPOS⟩ : ∃ E V : Int, (E = (if 0 < LO then 0 else 4) ∧ V = (if E = 0 then (x * 10000).tdiv LO + 1 else 0)) ∧ ((0 < LO ∧ E = 0 ∧ V = (x * 10000).tdiv LO + 1) ∨ (¬ 0 < LO ∧ E = 4 ∧ V = 0)) := by
        refine ⟨_, _, ⟨rfl, rfl⟩, ?_⟩
        by_cases h : 0 < LO
        · left; simp [h]
        · right; simp [h]
      rw [← hEV.1, ← hEV.2]
      clear hEV
      have hq1 : 0 < LO → 0 ≤ (x * 10000).tdiv LO ∧ (x * 10000).tdiv LO ≤ 24000000000 := fun h => by
        have a := Int.tdiv_nonneg (a := x * 10000) (b := LO) (by omega) (by omega)
        have b := Int.tdiv_le_self (a := x * 10000) LO (by omega)
        omega
      have hw2 : 0 < LO → IntKind.i64.wrap ((x * 10000).tdiv LO) = (x * 10000).tdiv LO := fun h => IntWalk.i64_in _ ⟨by have := hq1 h; omega, by have := hq1 h; omega⟩
      have hw3 : 0 < LO → IntKind.i64.wrap ((x * 10000).tdiv LO + 1) = (x * 10000).tdiv LO + 1 := fun h => IntWalk.i64_in _ ⟨by have := hq1 h; omega, by have := hq1 h; omega⟩
      clear hq1
      rcases hDI with hsv | hsv | ⟨hsv, hz0⟩
      · have hmt := meth_above
        rcases hPOS with ⟨hp, rfl, rfl⟩ | ⟨hp, rfl, rfl⟩
        · have hpb : decide (LO ≤ 0) = false := decide_eq_false (by omega)
          have hlz : (LO == 0) = false := by simp; omega
          have hw2 := hw2 hp
          have hw3 := hw3 hp
          clear hp
          go_enter Tryz.func12, Tryz.ntmps12
          go_wp2_with fail
          go_at_call 18
          refine HV.out.mono ?_
          rintro e w1 ⟨rfl, hg1⟩
          have HG1 := Lib.hid hg1
          clear hg1
          go_wp2_with fail
          go_at_call 20
          refine (HW.out _ HG1.out).mono ?_
          rintro e w2 ⟨A1, c1, rfl, hv1, hg2⟩
          have HG2 := Lib.hid (HG1.out.trans hg2)
          obtain ⟨b, off, rfl, hbl, hcc⟩ := hv1 (by omega)
          have cS := hcc m (by omega)
          simp only at cS
          rw [hsv] at cS
          clear hcc hv1 hg2
          go_wp2_with fail
          (go_at_call 139; with_reducible refine (dist_above d0 d1' d2' d3 d4 d5 _).mono ?_; rintro e w' ⟨rfl, hb⟩; have hz := hb.le; obtain ⟨hc, hf⟩ := hb.cells; have hn := hb.cellsN; (try simp only [World.size_alloc] at hc hf hz hn); (try simp only [World.size_setCell] at hc hf hz hn); (try simp only [World.size_drew] at hc hf hz hn))
          have HG3 := Lib.hid (HG2.out.trans hb)
          clear hb hz hc hf hn
          obtain ⟨w3, rfl⟩ : ∃ w3 : World, w3 = w' := ⟨_, rfl⟩
          go_wp2_with fail
          (go_at_call 25; with_reducible refine (HOF.out _ HG3.out).mono ?_; rintro e w' ⟨rfl, hb⟩; have hz := hb.le; obtain ⟨hc, hf⟩ := hb.cells; have hn := hb.cellsN; (try simp only [World.size_alloc] at hc hf hz hn); (try simp only [World.size_setCell] at hc hf hz hn); (try simp only [World.size_drew] at hc hf hz hn))
          have HG4 := Lib.hid (HG3.out.trans hb)
          clear hb hz hc hf hn
          obtain ⟨w4, rfl⟩ : ∃ w4 : World, w4 = w' := ⟨_, rfl⟩
          go_wp2_with fail
          next hzz => exact absurd hzz (by simpa using hlz)
          go_ret2
          exact ⟨rfl, HG4.out.trans (by repeat (first | with_reducible exact Gr.refl _ | with_reducible refine Gr.alloc ?_ _ | with_reducible refine Gr.drew ?_ | with_reducible refine Gr.trans ?_ (by assumption) | with_reducible refine Gr.setCell ?_ (by (try simp); (try omega)) _))⟩
        · have hpb : decide (LO ≤ 0) = true := decide_eq_true (by omega)
          clear hp
          go_enter Tryz.func12, Tryz.ntmps12
          go_wp2_with fail
          go_at_call 18
          refine HV.out.mono ?_
          rintro e w1 ⟨rfl, hg1⟩
          have HG1 := Lib.hid hg1
          clear hg1
          go_wp2_with fail
          go_at_call 20
          refine (HW.out _ HG1.out).mono ?_
          rintro e w2 ⟨A1, c1, rfl, hv1, hg2⟩
          have HG2 := Lib.hid (HG1.out.trans hg2)
          obtain ⟨b, off, rfl, hbl, hcc⟩ := hv1 (by omega)
          have cS := hcc m (by omega)
          simp only at cS
          rw [hsv] at cS
          clear hcc hv1 hg2
          go_wp2_with fail
          (go_at_call 139; with_reducible refine (dist_above d0 d1' d2' d3 d4 d5 _).mono ?_; rintro e w' ⟨rfl, hb⟩; have hz := hb.le; obtain ⟨hc, hf⟩ := hb.cells; have hn := hb.cellsN; (try simp only [World.size_alloc] at hc hf hz hn); (try simp only [World.size_setCell] at hc hf hz hn); (try simp only [World.size_drew] at hc hf hz hn))
          have HG3 := Lib.hid (HG2.out.trans hb)
          clear hb hz hc hf hn
          obtain ⟨w3, rfl⟩ : ∃ w3 : World, w3 = w' := ⟨_, rfl⟩
          go_wp2_with fail
          (go_at_call 25; with_reducible refine (HOF.out _ HG3.out).mono ?_; rintro e w' ⟨rfl, hb⟩; have hz := hb.le; obtain ⟨hc, hf⟩ := hb.cells; have hn := hb.cellsN; (try simp only [World.size_alloc] at hc hf hz hn); (try simp only [World.size_setCell] at hc hf hz hn); (try simp only [World.size_drew] at hc hf hz hn))
          have HG4 := Lib.hid (HG3.out.trans hb)
          clear hb hz hc hf hn
          obtain ⟨w4, rfl⟩ : ∃ w4 : World, w4 = w' := ⟨_, rfl⟩
          go_wp2_with fail
          go_ret2
          exact ⟨rfl, HG4.out.trans (by repeat (first | with_reducible exact Gr.refl _ | with_reducible refine Gr.alloc ?_ _ | with_reducible refine Gr.drew ?_ | with_reducible refine Gr.trans ?_ (by assumption) | with_reducible refine Gr.setCell ?_ (by (try simp); (try omega)) _))⟩
      · have hmt := meth_below
        rcases hPOS with ⟨hp, rfl, rfl⟩ | ⟨hp, rfl, rfl⟩
        · have hpb : decide (LO ≤ 0) = false := decide_eq_false (by omega)
          have hlz : (LO == 0) = false := by simp; omega
          have hw2 := hw2 hp
          have hw3 := hw3 hp
          clear hp
          go_enter Tryz.func12, Tryz.ntmps12
          go_wp2_with fail
          go_at_call 18
          refine HV.out.mono ?_
          rintro e w1 ⟨rfl, hg1⟩
          have HG1 := Lib.hid hg1
          clear hg1
          go_wp2_with fail
          go_at_call 20
          refine (HW.out _ HG1.out).mono ?_
          rintro e w2 ⟨A1, c1, rfl, hv1, hg2⟩
          have HG2 := Lib.hid (HG1.out.trans hg2)
          obtain ⟨b, off, rfl, hbl, hcc⟩ := hv1 (by omega)
          have cS := hcc m (by omega)
          simp only at cS
          rw [hsv] at cS
          clear hcc hv1 hg2
          go_wp2_with fail
          (go_at_call 140; with_reducible refine (dist_below d0 d1' d2' d3 d4 d5 _).mono ?_; rintro e w' ⟨rfl, hb⟩; have hz := hb.le; obtain ⟨hc, hf⟩ := hb.cells; have hn := hb.cellsN; (try simp only [World.size_alloc] at hc hf hz hn); (try simp only [World.size_setCell] at hc hf hz hn); (try simp only [World.size_drew] at hc hf hz hn))
          have HG3 := Lib.hid (HG2.out.trans hb)
          clear hb hz hc hf hn
          obtain ⟨w3, rfl⟩ : ∃ w3 : World, w3 = w' := ⟨_, rfl⟩
          go_wp2_with fail
          (go_at_call 25; with_reducible refine (HOF.out _ HG3.out).mono ?_; rintro e w' ⟨rfl, hb⟩; have hz := hb.le; obtain ⟨hc, hf⟩ := hb.cells; have hn := hb.cellsN; (try simp only [World.size_alloc] at hc hf hz hn); (try simp only [World.size_setCell] at hc hf hz hn); (try simp only [World.size_drew] at hc hf hz hn))
          have HG4 := Lib.hid (HG3.out.trans hb)
          clear hb hz hc hf hn
          obtain ⟨w4, rfl⟩ : ∃ w4 : World, w4 = w' := ⟨_, rfl⟩
          go_wp2_with fail
          next hzz => exact absurd hzz (by simpa using hlz)
          go_ret2
          exact ⟨rfl, HG4.out.trans (by repeat (first | with_reducible exact Gr.refl _ | with_reducible refine Gr.alloc ?_ _ | with_reducible refine Gr.drew ?_ | with_reducible refine Gr.trans ?_ (by assumption) | with_reducible refine Gr.setCell ?_ (by (try simp); (try omega)) _))⟩
        · have hpb : decide (LO ≤ 0) = true := decide_eq_true (by omega)
          clear hp
          go_enter Tryz.func12, Tryz.ntmps12
          go_wp2_with fail
          go_at_call 18
          refine HV.out.mono ?_
          rintro e w1 ⟨rfl, hg1⟩
          have HG1 := Lib.hid hg1
          clear hg1
          go_wp2_with fail
          go_at_call 20
          refine (HW.out _ HG1.out).mono ?_
          rintro e w2 ⟨A1, c1, rfl, hv1, hg2⟩
          have HG2 := Lib.hid (HG1.out.trans hg2)
          obtain ⟨b, off, rfl, hbl, hcc⟩ := hv1 (by omega)
          have cS := hcc m (by omega)
          simp only at cS
          rw [hsv] at cS
          clear hcc hv1 hg2
          go_wp2_with fail
          (go_at_call 140; with_reducible refine (dist_below d0 d1' d2' d3 d4 d5 _).mono ?_; rintro e w' ⟨rfl, hb⟩; have hz := hb.le; obtain ⟨hc, hf⟩ := hb.cells; have hn := hb.cellsN; (try simp only [World.size_alloc] at hc hf hz hn); (try simp only [World.size_setCell] at hc hf hz hn); (try simp only [World.size_drew] at hc hf hz hn))
          have HG3 := Lib.hid (HG2.out.trans hb)
          clear hb hz hc hf hn
          obtain ⟨w3, rfl⟩ : ∃ w3 : World, w3 = w' := ⟨_, rfl⟩
          go_wp2_with fail
          (go_at_call 25; with_reducible refine (HOF.out _ HG3.out).mono ?_; rintro e w' ⟨rfl, hb⟩; have hz := hb.le; obtain ⟨hc, hf⟩ := hb.cells; have hn := hb.cellsN; (try simp only [World.size_alloc] at hc hf hz hn); (try simp only [World.size_setCell] at hc hf hz hn); (try simp only [World.size_drew] at hc hf hz hn))
          have HG4 := Lib.hid (HG3.out.trans hb)
          clear hb hz hc hf hn
          obtain ⟨w4, rfl⟩ : ∃ w4 : World, w4 = w' := ⟨_, rfl⟩
          go_wp2_with fail
          go_ret2
          exact ⟨rfl, HG4.out.trans (by repeat (first | with_reducible exact Gr.refl _ | with_reducible refine Gr.alloc ?_ _ | with_reducible refine Gr.drew ?_ | with_reducible refine Gr.trans ?_ (by assumption) | with_reducible refine Gr.setCell ?_ (by (try simp); (try omega)) _))⟩
      · have hmt := meth_home
        have hDH : ∀ W, Calls Tryz.prog 138 #[.agg #[]] W fun e w' => e = .returned (.agg #[.int .i64 d0, .int .i64 d1', .int .i64 d2', .int .i64 d3, .int .i64 d4, .int .i64 d5]) ∧ Gr W w' := fun W => by
          obtain ⟨rfl, rfl, rfl, rfl, rfl, rfl⟩ : d0 = 0 ∧ d1' = 0 ∧ d2' = 0 ∧ d3 = 0 ∧ d4 = 0 ∧ d5 = 0 := by simpa using hz0
          exact dist_home W
        have HDH := Lib.hid hDH
        clear hDH hz0
        rcases hPOS with ⟨hp, rfl, rfl⟩ | ⟨hp, rfl, rfl⟩
        · have hpb : decide (LO ≤ 0) = false := decide_eq_false (by omega)
          have hlz : (LO == 0) = false := by simp; omega
          have hw2 := hw2 hp
          have hw3 := hw3 hp
          clear hp
          go_enter Tryz.func12, Tryz.ntmps12
          go_wp2_with fail
          go_at_call 18
          refine HV.out.mono ?_
          rintro e w1 ⟨rfl, hg1⟩
          have HG1 := Lib.hid hg1
          clear hg1
          go_wp2_with fail
          go_at_call 20
          refine (HW.out _ HG1.out).mono ?_
          rintro e w2 ⟨A1, c1, rfl, hv1, hg2⟩
          have HG2 := Lib.hid (HG1.out.trans hg2)
          obtain ⟨b, off, rfl, hbl, hcc⟩ := hv1 (by omega)
          have cS := hcc m (by omega)
          simp only at cS
          rw [hsv] at cS
          clear hcc hv1 hg2
          go_wp2_with fail
          (go_at_call 138; with_reducible refine (HDH.out _).mono ?_; rintro e w' ⟨rfl, hb⟩; have hz := hb.le; obtain ⟨hc, hf⟩ := hb.cells; have hn := hb.cellsN; (try simp only [World.size_alloc] at hc hf hz hn); (try simp only [World.size_setCell] at hc hf hz hn); (try simp only [World.size_drew] at hc hf hz hn))
          have HG3 := Lib.hid (HG2.out.trans hb)
          clear hb hz hc hf hn
          obtain ⟨w3, rfl⟩ : ∃ w3 : World, w3 = w' := ⟨_, rfl⟩
          go_wp2_with fail
          (go_at_call 25; with_reducible refine (HOF.out _ HG3.out).mono ?_; rintro e w' ⟨rfl, hb⟩; have hz := hb.le; obtain ⟨hc, hf⟩ := hb.cells; have hn := hb.cellsN; (try simp only [World.size_alloc] at hc hf hz hn); (try simp only [World.size_setCell] at hc hf hz hn); (try simp only [World.size_drew] at hc hf hz hn))
          have HG4 := Lib.hid (HG3.out.trans hb)
          clear hb hz hc hf hn
          obtain ⟨w4, rfl⟩ : ∃ w4 : World, w4 = w' := ⟨_, rfl⟩
          go_wp2_with fail
          next hzz => exact absurd hzz (by simpa using hlz)
          go_ret2
          exact ⟨rfl, HG4.out.trans (by repeat (first | with_reducible exact Gr.refl _ | with_reducible refine Gr.alloc ?_ _ | with_reducible refine Gr.drew ?_ | with_reducible refine Gr.trans ?_ (by assumption) | with_reducible refine Gr.setCell ?_ (by (try simp); (try omega)) _))⟩
        · have hpb : decide (LO ≤ 0) = true := decide_eq_true (by omega)
          clear hp
          go_enter Tryz.func12, Tryz.ntmps12
          go_wp2_with fail
          go_at_call 18
          refine HV.out.mono ?_
          rintro e w1 ⟨rfl, hg1⟩
          have HG1 := Lib.hid hg1
          clear hg1
          go_wp2_with fail
          go_at_call 20
          refine (HW.out _ HG1.out).mono ?_
          rintro e w2 ⟨A1, c1, rfl, hv1, hg2⟩
          have HG2 := Lib.hid (HG1.out.trans hg2)
          obtain ⟨b, off, rfl, hbl, hcc⟩ := hv1 (by omega)
          have cS := hcc m (by omega)
          simp only at cS
          rw [hsv] at cS
          clear hcc hv1 hg2
          go_wp2_with fail
          (go_at_call 138; with_reducible refine (HDH.out _).mono ?_; rintro e w' ⟨rfl, hb⟩; have hz := hb.le; obtain ⟨hc, hf⟩ := hb.cells; have hn := hb.cellsN; (try simp only [World.size_alloc] at hc hf hz hn); (try simp only [World.size_setCell] at hc hf hz hn); (try simp only [World.size_drew] at hc hf hz hn))
          have HG3 := Lib.hid (HG2.out.trans hb)
          clear hb hz hc hf hn
          obtain ⟨w3, rfl⟩ : ∃ w3 : World, w3 = w' := ⟨_, rfl⟩
          go_wp2_with fail
          (go_at_call 25; with_reducible refine (HOF.out _ HG3.out).mono ?_; rintro e w' ⟨rfl, hb⟩; have hz := hb.le; obtain ⟨hc, hf⟩ := hb.cells; have hn := hb.cellsN; (try simp only [World.size_alloc] at hc hf hz hn); (try simp only [World.size_setCell] at hc hf hz hn); (try simp only [World.size_drew] at hc hf hz hn))
          have HG4 := Lib.hid (HG3.out.trans hb)
          clear hb hz hc hf hn
          obtain ⟨w4, rfl⟩ : ∃ w4 : World, w4 = w' := ⟨_, rfl⟩
          go_wp2_with fail
          go_ret2
          exact ⟨rfl, HG4.out.trans (by repeat (first | with_reducible exact Gr.refl _ | with_reducible refine Gr.alloc ?_ _ | with_reducible refine Gr.drew ?_ | with_reducible refine Gr.trans ?_ (by assumption) | with_reducible refine Gr.setCell ?_ (by (try simp); (try omega)) _))⟩
    · have e1 : walkE nm f n t m = 3 := by unfold walkE; rw [if_pos hok, if_neg (by rw [hr]; simp)]
      have e2 : walkN nm f n t m = 0 := by unfold walkN; rw [e1]; rfl
      have hE : repE nm f n t m x = 3 := by unfold repE; rw [if_pos (by simp [hok, hx0, hx1]), if_neg (by rw [hr]; simp)]
      have hRV : repV nm f n t m x = 0 := by unfold repV; rw [hE]; rfl
      rw [hE, hRV]
      rw [e1, e2] at hW
      have HV := Lib.hid hV; have HW := Lib.hid hW
      clear hV hW hA hB hP hL hok hr e1 e2 hE hRV
      go_enter Tryz.func12, Tryz.ntmps12
      go_wp2_with fail
      go_at_call 18
      refine HV.out.mono ?_
      rintro e w1 ⟨rfl, hg1⟩
      have HG1 := Lib.hid hg1
      clear hg1
      go_wp2_with fail
      go_at_call 20
      refine (HW.out _ HG1.out).mono ?_
      rintro e w2 ⟨A1, c1, rfl, -, hg2⟩
      have HG2 := Lib.hid (HG1.out.trans hg2)
      clear hg2
      go_wp2_with fail
      go_ret2
      exact ⟨rfl, HG2.out⟩
  · have hE : repE nm f n t m x = 1 := by unfold repE; rw [if_neg (by simp only [hall]; simp)]
    have hRV : repV nm f n t m x = 0 := by unfold repV; rw [hE]; rfl
    rw [hE, hRV]
    rcases btf (walkOk nm f n t m) with hok | hok
    · rw [hok] at hV
      rw [hok, Bool.true_and] at hall
      have HV := Lib.hid hV
      have hx : ¬ (0 ≤ x ∧ x ≤ 2400000) := by simpa using hall
      clear hV hA hB hok hall hP hL hE hRV
      by_cases h0 : x < 0
      · have d1 : decide (x < 0) = true := decide_eq_true h0
        clear hx
        go_enter Tryz.func12, Tryz.ntmps12
        go_wp2_with fail
        go_at_call 18
        refine HV.out.mono ?_
        rintro e w1 ⟨rfl, hg1⟩
        go_wp2_with fail
        go_ret2
        exact ⟨rfl, hg1⟩
      · have d1 : decide (x < 0) = false := decide_eq_false h0
        have d2 : decide (2400000 < x) = true := decide_eq_true (by omega)
        clear hx
        go_enter Tryz.func12, Tryz.ntmps12
        go_wp2_with fail
        go_at_call 18
        refine HV.out.mono ?_
        rintro e w1 ⟨rfl, hg1⟩
        go_wp2_with fail
        go_ret2
        exact ⟨rfl, hg1⟩
    · rw [hok] at hV
      have HV := Lib.hid hV
      clear hV hA hB hok hall hP hL hE hRV
      go_enter Tryz.func12, Tryz.ntmps12
      go_wp2_with fail
      go_at_call 18
      refine HV.out.mono ?_
      rintro e w1 ⟨rfl, hg1⟩
      go_wp2_with fail
      go_ret2
      exact ⟨rfl, hg1⟩
end Go.Proofs.YtelhmdhhabgihaaGreatDoor
