/-
  schismaref25.Valid, Account, Same, Distance; schismaref04.Pure.
  schismaref25.Distance, Far, Home.
  schismaref25.Joined, Times, Repeats.
-/
import Derived.Test.YtelhmdhhabgihaaGreatDoorRWX
import Derived.Test.YtelhmdhhabgihaaGreatDoorD45
import Derived.Test.YtelhmdhhabgihaaGreatDoorR3M
import Derived.Test.YtelhmdhhabgihaaGreatDoorSg
import Derived.Laws.StructEq
import Derived.KernelRfl
import Derived.Test.YtelhmdhhabgihaaGreatDoorPlX
import Derived.Test.YtelhmdhhabgihaaGreatDoorOwnL
import Derived.Test.YtelhmdhhabgihaaGreatDoorRN
import Derived.Test.YtelhmdhhabgihaaGreatDoorDr6
namespace Go.Proofs.YtelhmdhhabgihaaGreatDoor
open Go.RowKit

theorem rows_congr {w : World} {sz n : Nat} {A : Option Addr} {g g' : Nat → Nat → Int} (h : RowsAt w sz A n g) (e : ∀ i, i < n → ∀ j, j < sz → g i j = g' i j) : RowsAt w sz A n g' := by
  intro hn
  obtain ⟨b, off, ha, hb, hc⟩ := h hn
  exact ⟨b, off, ha, hb, fun i hi j hj => by rw [hc i hi j hj, e i hi j hj]⟩
set_option maxRecDepth 100000 in
set_option maxHeartbeats 16000000 in
theorem sameT_any (A B : Option Addr) (n c d : Nat) (g : Nat → Nat → Int) (w : World) (hA : RowsAt w 4 A n g) (hB : RowsAt w 4 B n g) (hn : n ≤ 4611686018427387904) :
    Calls Tryz.prog 16 #[.slice A n c, .slice B n d] w fun e w' => e = .returned (.bool true) ∧ Gr w w' := by
  have HA := Lib.hid hA; have HB := Lib.hid hB
  clear hA hB
  have hb1 : ((n : Int) == (n : Int)) = true := by simp
  have hb2 : ((n : Int) != (n : Int)) = false := by simp
  go_enter Tryz.func16, Tryz.ntmps16
  go_wp2
  go_loopw [5] (fun i wr => ∃ j : Nat, j ≤ n ∧ i = .int .i64 j ∧ Gr w wr) (fun i _ => n - (intOf i).toNat)
  case atStart => exact ⟨0, Nat.zero_le _, rfl, Gr.refl _⟩
  case round =>
    obtain ⟨j, hj, rfl, hg⟩ := hrel
    have HG := Lib.hid hg
    clear hg
    by_cases hlt : j < n
    · obtain ⟨b, off, rfl, hb, hc⟩ := (HA.out.keep HG.out).at_ hlt
      obtain ⟨b', off', rfl, hb', hc'⟩ := (HB.out.keep HG.out).at_ hlt
      have a0 := hc 0 (by omega); have a1 := hc 1 (by omega); have a2 := hc 2 (by omega); have a3 := hc 3 (by omega)
      have e0 := hc' 0 (by omega); have e1 := hc' 1 (by omega); have e2 := hc' 2 (by omega); have e3 := hc' 3 (by omega)
      simp only [Nat.add_zero] at a0 e0
      clear hc hc'
      obtain ⟨wp, rfl⟩ : ∃ wp : World, wp = wr := ⟨_, rfl⟩
      have hlt' : (j : Int) < (n : Int) := by omega
      have hj0 : (0 : Int) ≤ (j : Int) := by omega
      generalize g j 0 = x0 at *
      generalize g j 1 = x1 at *
      generalize g j 2 = x2 at *
      generalize g j 3 = x3 at *
      go_wp2_with fail
      go_quiet (fail)
      go_wp2_with fail
      go_roundw
      case rel => exact ⟨j + 1, by omega, by go_num, HG.out.trans ((Gr.refl _).drewN _)⟩
      case measure => simp [intOf]; omega
    · obtain rfl : n = j := by omega
      obtain ⟨wp, rfl⟩ : ∃ wp : World, wp = wr := ⟨_, rfl⟩
      go_wp2
      go_ret
      exact ⟨rfl, HG.out⟩
set_option maxRecDepth 100000 in
set_option maxHeartbeats 4000000 in
theorem rpure_ok (v0 v1 v2 v3 v4 v5 : Int) (w : World) (hv : allIn ⟨v0, v1, v2, v3, v4, v5⟩ 48 6 = true) :
    Calls Tryz.prog 27 #[.agg #[.int .i64 v0, .int .i64 v1, .int .i64 v2, .int .i64 v3, .int .i64 v4, .int .i64 v5]] w fun e w' => e = .returned (.agg #[.int .i64 (v0 * 12), .int .i64 (v1 * 12), .int .i64 (v2 * 12), .int .i64 (v3 * 12), .int .i64 (v4 * 12), .int .i64 (v5 * 12)]) ∧ Gr w w' := by
  have GA := allIn_at hv
  clear hv
  go_enter Tryz.func27, Tryz.ntmps27
  go_wp2
  obtain ⟨W0, hW0⟩ : ∃ W0, ((w.alloc (.cells #[.int .i64 v0, .int .i64 v1, .int .i64 v2, .int .i64 v3, .int .i64 v4, .int .i64 v5] 53)).alloc (.cells #[.int .i64 0, .int .i64 0, .int .i64 0, .int .i64 0, .int .i64 0, .int .i64 0] 54)).alloc (.cells #[.int .i64 0, .int .i64 0, .int .i64 0, .int .i64 0, .int .i64 0, .int .i64 0] 54) = W0 := ⟨_, rfl⟩
  have hx0 : ∀ j, j < 6 → W0.cell? ⟨w.heap.size, j, none⟩ = some (.int .i64 (V6.get ⟨v0, v1, v2, v3, v4, v5⟩ j)) := by
    intro j hj
    subst hW0
    obtain rfl | rfl | rfl | rfl | rfl | rfl : j = 0 ∨ j = 1 ∨ j = 2 ∨ j = 3 ∨ j = 4 ∨ j = 5 := by omega
    all_goals simp [go_sem, V6.get]
  have hv0 : ∀ j, j < 6 → W0.cell? ⟨w.heap.size + 1 + 1, j, none⟩ = some (.int .i64 0) := by
    intro j hj
    subst hW0
    obtain rfl | rfl | rfl | rfl | rfl | rfl : j = 0 ∨ j = 1 ∨ j = 2 ∨ j = 3 ∨ j = 4 ∨ j = 5 := by omega
    all_goals simp [go_sem]
  have hr0 : ∀ j, j < 6 → W0.cell? ⟨w.heap.size + 1, j, none⟩ = some (.int .i64 0) := by
    intro j hj
    subst hW0
    obtain rfl | rfl | rfl | rfl | rfl | rfl : j = 0 ∨ j = 1 ∨ j = 2 ∨ j = 3 ∨ j = 4 ∨ j = 5 := by omega
    all_goals simp [go_sem]
  have hvf : ∀ j, W0.frozen? ⟨w.heap.size + 1 + 1, j, none⟩ = false := by intro j; subst hW0; simp [go_sem]
  have hrf : ∀ j, W0.frozen? ⟨w.heap.size + 1, j, none⟩ = false := by intro j; subst hW0; simp [go_sem]
  have hsz0 : W0.heap.size = w.heap.size + 3 := by subst hW0; simp
  have HG := Lib.hid (show Gr w W0 by subst hW0; exact (((Gr.refl w).alloc _).alloc _).alloc _)
  rw [hW0]
  have HA0 : Hid (ArrRel 6 (newTo (fun j => V6.get ⟨v0, v1, v2, v3, v4, v5⟩ j * 12) (fun _ => 0) 0) (w.heap.size + 1 + 1) (w.heap.size + 3) W0 W0) := Lib.hid ⟨But.refl _ _ _, by omega, by omega, fun j hj => by rw [newTo, if_neg (by omega)]; exact hv0 j hj, hvf⟩
  clear hW0 hv0 hvf hsz0
  go_loopw [4] (fun i wr => ∃ k : Nat, k ≤ 6 ∧ i = .int .i64 k ∧ ArrRel 6 (newTo (fun j => V6.get ⟨v0, v1, v2, v3, v4, v5⟩ j * 12) (fun _ => 0) k) (w.heap.size + 1 + 1) (w.heap.size + 3) W0 wr) (fun i _ => 6 - (intOf i).toNat)
  case atStart => exact ⟨0, by omega, rfl, HA0.out⟩
  case round =>
    obtain ⟨k, hk, rfl, hR⟩ := hrel
    have hsz := hR.size
    by_cases hlt : k < 6
    · have hx := (hR.but.cell (p := ⟨w.heap.size, k, none⟩) (by (try simp); (try omega)) (by (try simp); (try omega))).trans (hx0 k hlt)
      have ho := hR.cell k hlt
      have fx := hR.froz k
      have bx := GA k hlt
      rw [newTo, if_neg (by omega)] at ho
      have HST := Lib.hid (hR.store hlt (V6.get ⟨v0, v1, v2, v3, v4, v5⟩ k * 12))
      rw [Int.mul_comm] at HST
      clear hR hx0 hr0 hrf GA HA0
      generalize hgx : V6.get ⟨v0, v1, v2, v3, v4, v5⟩ k = x at hx bx HST
      have HX := Lib.hid hgx
      clear hgx
      go_wp2
      go_roundw
      case rel =>
        refine ⟨k + 1, by omega, by go_num, (ArrRel.congr HST.out fun j hj => ?_)⟩
        have := newTo_step (fun j => V6.get ⟨v0, v1, v2, v3, v4, v5⟩ j * 12) (fun _ => 0) k j
        rw [this, HX.out, Int.mul_comm]
      case measure => simp [intOf]; omega
    · obtain rfl : k = 6 := by omega
      have c0 := hR.cell 0 (by omega); have c1 := hR.cell 1 (by omega); have c2 := hR.cell 2 (by omega); have c3 := hR.cell 3 (by omega); have c4 := hR.cell 4 (by omega); have c5 := hR.cell 5 (by omega)
      simp only [newTo, V6.get, Nat.reduceLT, if_true] at c0 c1 c2 c3 c4 c5
      have hgr : Gr w wr := HG.out.but hR.but (by omega) (by omega)
      have r : ∀ j, j < 6 → wr.cell? ⟨w.heap.size + 1, j, none⟩ = some (.int .i64 0) := fun j hj => (hR.but.cell (p := ⟨w.heap.size + 1, j, none⟩) (by (try simp); (try omega)) (by (try simp); (try omega))).trans (hr0 j hj)
      have rf : ∀ j, wr.frozen? ⟨w.heap.size + 1, j, none⟩ = false := fun j => (hR.but.frozen (p := ⟨w.heap.size + 1, j, none⟩) (by (try simp); (try omega)) (by (try simp); (try omega))).trans (hrf j)
      have r0 := r 0 (by omega); have r1 := r 1 (by omega); have r2 := r 2 (by omega); have r3 := r 3 (by omega); have r4 := r 4 (by omega); have r5 := r 5 (by omega)
      have RR := Lib.hid (fun j hj => by rw [r j hj]; rfl : ∀ j, j < 6 → (wr.cell? ⟨w.heap.size + 1, j, none⟩).isSome = true)
      clear r hx0 hr0 hrf GA HA0 hR
      go_wp2
      refine bodyPost_six RR.out ?_
      intro W' hW' s0 s1 s2 s3 s4 s5
      exact bodyPost_ret (v := .agg #[.int .i64 (v0 * 12), .int .i64 (v1 * 12), .int .i64 (v2 * 12), .int .i64 (v3 * 12), .int .i64 (v4 * 12), .int .i64 (v5 * 12)]) (by simp [results, Tryz.results27, go_sem, s0, s1, s2, s3, s4, s5]) rfl ⟨rfl, hW' _ hgr (by omega)⟩

set_option maxRecDepth 100000 in
set_option maxHeartbeats 16000000 in
theorem rvalid25_any (A B : Option Addr) (n c m d : Nat) (nm : Nat → ByteArray) (f t : Nat → Nat → Int) (w : World) (hA : NamedAt w A n nm f) (hB : RowsAt w 4 B m t) :
    Calls Tryz.prog 19 #[.slice A n c, .slice B m d] w fun e w' => e = .returned (.bool (walkOk nm f n t m)) ∧ Gr w w' := by
  have hW := rwalk_any A B n c m d nm f t w hA hB
  generalize walkN nm f n t m = N at *
  have hE : (walkOk nm f n t m = false ∧ walkE nm f n t m = 1) ∨ (walkOk nm f n t m = true ∧ (walkE nm f n t m = 0 ∨ walkE nm f n t m = 3)) := by
    rcases btf (walkOk nm f n t m) with h | h
    · refine .inr ⟨h, ?_⟩
      unfold walkE
      rw [if_pos h]
      cases rangeB f t m <;> simp
    · refine .inl ⟨h, ?_⟩
      unfold walkE
      rw [if_neg (by rw [h]; simp)]
  rcases hE with ⟨h1, h2⟩ | ⟨h1, h2 | h2⟩
  all_goals
    rw [h1]
    rw [h2] at hW
    have HW := Lib.hid hW
    clear hW hA hB h1 h2
    go_enter Tryz.func19, Tryz.ntmps19
    go_wp2_with fail
    go_at_call 21
    refine HW.out.mono ?_
    rintro e w1 ⟨A1, c1, rfl, -, hg1⟩
    have HG1 := Lib.hid hg1
    clear hg1
    go_wp2_with fail
    go_ret
    exact ⟨rfl, HG1.out⟩
set_option maxRecDepth 100000 in
set_option maxHeartbeats 16000000 in
theorem raccount_any (A B : Option Addr) (n c m d : Nat) (nm : Nat → ByteArray) (f t : Nat → Nat → Int) (w : World) (hA : NamedAt w A n nm f) (hB : RowsAt w 4 B m t) :
    Calls Tryz.prog 6 #[.slice A n c, .slice B m d] w (AccR (if walkOk nm f n t m then n else 0) (if walkOk nm f n t m then 0 else 1) (accP t m) w) := by
  have hV := rvalid25_any A B n c m d nm f t w hA hB
  rcases btf (walkOk nm f n t m) with hok | hok
  · rw [hok] at hV
    rw [hok, if_pos rfl, if_pos rfl]
    have HV := Lib.hid hV; have HB := Lib.hid hB
    simp only [walkOk, Bool.and_eq_true, decide_eq_true_eq] at hok
    have hn6 := (commaB_parts hok.1).2.1
    have HBD := Lib.hid (fun k (hk : k ≤ m) => accP_bd hok.2.2 k hk)
    have HTK := Lib.hid (fun k (hk : k < m) => takeB_parts (takesB_at hok.2.2 hk))
    have hm15 := hok.2.1
    obtain ⟨i0, hin, hz0, hz1, hz2⟩ := info_parts infoInt
    have HINF := Lib.hid (And.intro hin (And.intro hz0 (And.intro hz1 hz2)))
    clear hin hz0 hz1 hz2 hV hA hB hok
    go_enter Tryz.func6, Tryz.ntmps6
    go_wp2_with fail
    go_at_call 19
    refine HV.out.mono ?_
    rintro e w1 ⟨rfl, hg1⟩
    have HG1 := Lib.hid hg1
    clear hg1
    go_wp2_with (at_make; refine wpList_make_full _ rfl _ _ 25 rfl w1.heap.size 3 i0 (.int .i64 0) 1 Tryz.underlying25 HINF.out.1 HINF.out.2.1 HINF.out.2.2.1 _ _ _ _ n rfl rfl (by simp) (by simp) (by rw [HINF.out.2.2.2]; omega) (by unfold maxLen; omega) (Nat.le_refl _) ?_; intro W2 hown hgrow)
    have hg2 : Gr w1 W2 := gr_of_grown hgrow
    have hA0 : ArrRel n (accP t 0) w1.heap.size W2.heap.size W2 W2 := ⟨But.refl _ _ _, Nat.le_refl _, (hown.lt _ rfl).2, fun j hj => by
      rw [hown.cellAt j (by omega), show (Value.int .i64 0).cells = #[.int .i64 0] from rfl, toList_madeCells_one, List.getElem?_replicate, if_pos (by omega)]; rfl, fun j => hown.frozenAt j⟩
    have HA0 := Lib.hid hA0
    have HG2 := Lib.hid (HG1.out.trans hg2)
    have hlb : w.heap.size ≤ w1.heap.size := HG1.out.le
    have hlt2 := hA0.lt
    clear hown hgrow hg2 hA0
    generalize hLB : w1.heap.size = LB at *
    clear hLB HG1
    go_wp2_with fail
    go_loopw [7] (fun iv wr => ∃ k : Nat, k ≤ m ∧ iv = .int .i64 (k : Int) ∧ ArrRel n (accP t k) LB W2.heap.size W2 wr) (fun iv _ => m - (intOf iv).toNat)
    case atStart => exact ⟨0, Nat.zero_le _, rfl, HA0.out⟩
    case round =>
      obtain ⟨k, hk, rfl, hR⟩ := hrel
      have HR := Lib.hid hR
      have hgr : Gr w wr := HG2.out.but hR.but hlb HG2.out.le
      have HGR := Lib.hid hgr
      have hsz := hR.size
      clear hR HA0 hgr
      obtain ⟨wo, rfl⟩ : ∃ wo : World, wo = wr := ⟨_, rfl⟩
      by_cases hlt : k < m
      · have hlt' : decide ((k : Int) < (m : Int)) = true := decide_eq_true (by omega)
        obtain ⟨b, off, rfl, hbl, hcc⟩ := (HB.out.keep HGR.out).at_ hlt
        have c1 := hcc 1 (by omega); have c2 := hcc 2 (by omega)
        obtain ⟨p1, p2, p3, p4, p5, p6⟩ := HTK.out k hlt
        obtain ⟨i, hi⟩ := Int.eq_ofNat_of_zero_le p2
        have hin : i < n := by omega
        have HAC : Hid (∀ j, accP t (k + 1) j = if j = i then accP t k i + t k 2 else accP t k j) := Lib.hid (fun j => by
          rw [accP, hi]
          by_cases e : j = i
          · subst e; simp
          · show (if (j : Int) = (i : Int) then accP t k j + t k 2 else accP t k j) = _
            rw [if_neg (by omega), if_neg e])
        rw [hi] at c1
        have hbi := HBD.out k hk i
        have hxx : -1 ≤ t k 2 ∧ t k 2 ≤ 1 := by omega
        have hi0 : (0 : Int) ≤ (i : Int) := by omega
        have hi1 : (i : Int) < (n : Int) := by omega
        have hk0 : (0 : Int) ≤ (k : Int) := by omega
        have hk1 : (k : Int) < (m : Int) := by omega
        clear hcc p1 p2 p3 p4 p5 p6 hi
        generalize t k 2 = x at *
        have hx := HR.out.cell i hin
        have fx := HR.out.froz i
        have HST := Lib.hid (HR.out.store hin (accP t k i + x))
        have hsz2 := HR.out.size
        have hll : LB < wo.heap.size := by omega
        generalize accP t k i = y at *
        have hw1 : IntKind.i64.wrap (y + x) = y + x := IntWalk.i64_in _ ⟨by omega, by omega⟩
        have hv1 : wrap64 (y + x) = y + x := (IntWalk.i64_left _).symm.trans hw1
        clear HR
        go_wp2_with fail
        go_region
        all_goals
          go_wp2_with fail
          go_roundw
          case rel => exact ⟨k + 1, by omega, by go_num, (ArrRel.drew HST.out).congr (fun j hj => by rw [HAC.out j])⟩
          case measure => simp [intOf]; omega
      · obtain rfl : m = k := by omega
        have hlt' : decide ((m : Int) < (m : Int)) = false := decide_eq_false (by omega)
        go_wp2_with fail
        go_ret2
        exact ⟨_, _, rfl, fun _ => ⟨LB, 0, rfl, by have := HR.out.lt; omega, fun i hi => by rw [Nat.zero_add]; exact HR.out.cell i hi⟩, Nat.le_refl _, HGR.out⟩
  · rw [hok] at hV
    rw [hok, if_neg (by simp), if_neg (by simp)]
    have HV := Lib.hid hV
    clear hV hA hB hok
    go_enter Tryz.func6, Tryz.ntmps6
    go_wp2_with fail
    go_at_call 19
    refine HV.out.mono ?_
    rintro e w1 ⟨rfl, hg1⟩
    go_wp2_with fail
    go_ret2
    exact ⟨none, 0, rfl, IntAt.nil _ _ _, Nat.le_refl _, hg1⟩
end Go.Proofs.YtelhmdhhabgihaaGreatDoor

namespace Go.Proofs.YtelhmdhhabgihaaGreatDoor
open Go.RowKit

set_option maxRecDepth 100000 in
set_option maxHeartbeats 2000000 in
theorem eq6V (a0 a1 a2 a3 a4 a5 b0 b1 b2 b3 b4 b5 : Int) (w : World) : (Op.equalIn 10000 53 (.agg #[.int .i64 a0, .int .i64 a1, .int .i64 a2, .int .i64 a3, .int .i64 a4, .int .i64 a5]) (.agg #[.int .i64 b0, .int .i64 b1, .int .i64 b2, .int .i64 b3, .int .i64 b4, .int .i64 b5])).run Tryz.prog w = .ok (a0 == b0 && a1 == b1 && a2 == b2 && a3 == b3 && a4 == b4 && a5 == b5) w := by
  have u3 := Tryz.underlying3
  have a3' := Tryz.isAgg3
  have z3 := Tryz.sizeOf3
  rw [show (10000 : Nat) = 9999 + 1 from rfl, Op.equalIn]
  simp only [Sem.run_bind, run_underlying Tryz.underlying53, Result.andThen_ok]
  simp only [Std.Legacy.Range.forIn_eq_forIn_range', Std.Legacy.Range.size, Nat.sub_zero, Nat.add_sub_cancel, Nat.div_one, List.range'_succ, List.range'_zero, List.forIn_cons, List.forIn_nil]
  by_cases h0 : a0 = b0
  · by_cases h1 : a1 = b1
    · by_cases h2 : a2 = b2
      · by_cases h3 : a3 = b3
        · by_cases h4 : a4 = b4
          · go_simp
            by_cases h5 : a5 = b5 <;> simp [h5]
          · go_simp
        · go_simp
      · go_simp
    · go_simp
  · go_simp
theorem eq6V_yes (a0 a1 a2 a3 a4 a5 : Int) (w : World) : (Op.equalIn 10000 53 (.agg #[.int .i64 a0, .int .i64 a1, .int .i64 a2, .int .i64 a3, .int .i64 a4, .int .i64 a5]) (.agg #[.int .i64 a0, .int .i64 a1, .int .i64 a2, .int .i64 a3, .int .i64 a4, .int .i64 a5])).run Tryz.prog w = .ok true w := by
  rw [eq6V]; simp
theorem rdist_any' (v0 v1 v2 v3 v4 v5 : Int) (w : World) (hv : allIn ⟨v0, v1, v2, v3, v4, v5⟩ 48 6 = true) :
    Calls Tryz.prog 24 #[.agg #[.int .i64 v0, .int .i64 v1, .int .i64 v2, .int .i64 v3, .int .i64 v4, .int .i64 v5]] w fun e w' => ∀ d, d = distV ⟨v0, v1, v2, v3, v4, v5⟩ → e = .returned (.agg #[.int .i64 d.x0, .int .i64 d.x1, .int .i64 d.x2, .int .i64 d.x3, .int .i64 d.x4, .int .i64 d.x5]) ∧ Gr w w' := by
  obtain ⟨h1, h2⟩ := mul12_in hv
  have HPU := Lib.hid (fun W => rpure_ok v0 v1 v2 v3 v4 v5 W hv)
  have hM := fun W => r3mul_ok 0 0 0 0 0 0 (-(v0 * 12)) (-(v1 * 12)) (-(v2 * 12)) (-(v3 * 12)) (-(v4 * 12)) (-(v5 * 12)) W (by decide) h2 (by simp only [Int.zero_add]; exact h2)
  simp only [Int.zero_add] at hM
  have HDV := Lib.hid (fun W => r3div_by 0 0 0 0 0 0 (v0 * 12) (v1 * 12) (v2 * 12) (v3 * 12) (v4 * 12) (v5 * 12) _ _ _ _ _ _ _ W h1 hM)
  have hC := fun W => r3cmp_ok (v0 * 12) (v1 * 12) (v2 * 12) (v3 * 12) (v4 * 12) (v5 * 12) (-(v0 * 12)) (-(v1 * 12)) (-(v2 * 12)) (-(v3 * 12)) (-(v4 * 12)) (-(v5 * 12)) W h1 h2
  have hL := distV_law ⟨v0, v1, v2, v3, v4, v5⟩
  rw [show cmpP (V6.sub ⟨v0 * 12, v1 * 12, v2 * 12, v3 * 12, v4 * 12, v5 * 12⟩ ⟨-(v0 * 12), -(v1 * 12), -(v2 * 12), -(v3 * 12), -(v4 * 12), -(v5 * 12)⟩) = signV ⟨v0, v1, v2, v3, v4, v5⟩ from rfl] at hC
  rw [hL]
  clear hL hM hv h1 h2
  have HC := Lib.hid hC
  clear hC
  generalize signV ⟨v0, v1, v2, v3, v4, v5⟩ = S at *
  by_cases hs : S < 0
  · rw [if_pos hs]
    have d1 : decide (S < 0) = true := decide_eq_true hs
    clear hs
    generalize v0 * 12 = p0 at *
    generalize v1 * 12 = p1 at *
    generalize v2 * 12 = p2 at *
    generalize v3 * 12 = p3 at *
    generalize v4 * 12 = p4 at *
    generalize v5 * 12 = p5 at *
    refine Calls.mono (R := fun e w' => e = .returned (.agg #[.int .i64 (-p0), .int .i64 (-p1), .int .i64 (-p2), .int .i64 (-p3), .int .i64 (-p4), .int .i64 (-p5)]) ∧ Gr w w') ?_ (by rintro e w' h d rfl; exact h)
    go_enter Tryz.func24, Tryz.ntmps24
    go_wp2_with (first | (go_at_call 27; with_reducible refine (HPU.out _).mono ?_; rintro e w' ⟨rfl, hb⟩; have hz := hb.le; obtain ⟨hc, hf⟩ := hb.cells; have hn := hb.cellsN; (try simp only [World.size_alloc] at hc hf hz hn); (try simp only [World.size_setCell] at hc hf hz hn); (try simp only [World.size_drew] at hc hf hz hn)) | (go_at_call 40; with_reducible refine (HDV.out _).mono ?_; rintro e w' ⟨rfl, hb⟩; have hz := hb.le; obtain ⟨hc, hf⟩ := hb.cells; have hn := hb.cellsN; (try simp only [World.size_alloc] at hc hf hz hn); (try simp only [World.size_setCell] at hc hf hz hn); (try simp only [World.size_drew] at hc hf hz hn)) | (go_at_call 23; with_reducible refine (HC.out _).mono ?_; rintro e w' ⟨rfl, hb⟩; have hz := hb.le; obtain ⟨hc, hf⟩ := hb.cells; have hn := hb.cellsN; (try simp only [World.size_alloc] at hc hf hz hn); (try simp only [World.size_setCell] at hc hf hz hn); (try simp only [World.size_drew] at hc hf hz hn)))
    refine bodyPost_six (by intro j hj; rcases (show j = 0 ∨ j = 1 ∨ j = 2 ∨ j = 3 ∨ j = 4 ∨ j = 5 by omega) with rfl | rfl | rfl | rfl | rfl | rfl <;> simp [go_sem, *]) ?_
    intro W' hW' s0 s1 s2 s3 s4 s5
    exact bodyPost_ret (v := .agg #[.int .i64 (-p0), .int .i64 (-p1), .int .i64 (-p2), .int .i64 (-p3), .int .i64 (-p4), .int .i64 (-p5)]) (by simp [results, Tryz.results24, go_sem, s0, s1, s2, s3, s4, s5]) rfl ⟨rfl, hW' _ (by repeat (first | with_reducible exact Gr.refl _ | with_reducible refine Gr.alloc ?_ _ | with_reducible refine Gr.drew ?_ | with_reducible refine Gr.trans ?_ (by assumption) | with_reducible refine Gr.setCell ?_ (by (try simp); (try omega)) _)) (by (try simp); (try omega))⟩
  · rw [if_neg hs]
    have d1 : decide (S < 0) = false := decide_eq_false hs
    clear hs
    generalize v0 * 12 = p0 at *
    generalize v1 * 12 = p1 at *
    generalize v2 * 12 = p2 at *
    generalize v3 * 12 = p3 at *
    generalize v4 * 12 = p4 at *
    generalize v5 * 12 = p5 at *
    refine Calls.mono (R := fun e w' => e = .returned (.agg #[.int .i64 p0, .int .i64 p1, .int .i64 p2, .int .i64 p3, .int .i64 p4, .int .i64 p5]) ∧ Gr w w') ?_ (by rintro e w' h d rfl; exact h)
    go_enter Tryz.func24, Tryz.ntmps24
    go_wp2_with (first | (go_at_call 27; with_reducible refine (HPU.out _).mono ?_; rintro e w' ⟨rfl, hb⟩; have hz := hb.le; obtain ⟨hc, hf⟩ := hb.cells; have hn := hb.cellsN; (try simp only [World.size_alloc] at hc hf hz hn); (try simp only [World.size_setCell] at hc hf hz hn); (try simp only [World.size_drew] at hc hf hz hn)) | (go_at_call 40; with_reducible refine (HDV.out _).mono ?_; rintro e w' ⟨rfl, hb⟩; have hz := hb.le; obtain ⟨hc, hf⟩ := hb.cells; have hn := hb.cellsN; (try simp only [World.size_alloc] at hc hf hz hn); (try simp only [World.size_setCell] at hc hf hz hn); (try simp only [World.size_drew] at hc hf hz hn)) | (go_at_call 23; with_reducible refine (HC.out _).mono ?_; rintro e w' ⟨rfl, hb⟩; have hz := hb.le; obtain ⟨hc, hf⟩ := hb.cells; have hn := hb.cellsN; (try simp only [World.size_alloc] at hc hf hz hn); (try simp only [World.size_setCell] at hc hf hz hn); (try simp only [World.size_drew] at hc hf hz hn)))
    refine bodyPost_six (by intro j hj; rcases (show j = 0 ∨ j = 1 ∨ j = 2 ∨ j = 3 ∨ j = 4 ∨ j = 5 by omega) with rfl | rfl | rfl | rfl | rfl | rfl <;> simp [go_sem, *]) ?_
    intro W' hW' s0 s1 s2 s3 s4 s5
    exact bodyPost_ret (v := .agg #[.int .i64 p0, .int .i64 p1, .int .i64 p2, .int .i64 p3, .int .i64 p4, .int .i64 p5]) (by simp [results, Tryz.results24, go_sem, s0, s1, s2, s3, s4, s5]) rfl ⟨rfl, hW' _ (by repeat (first | with_reducible exact Gr.refl _ | with_reducible refine Gr.alloc ?_ _ | with_reducible refine Gr.drew ?_ | with_reducible refine Gr.trans ?_ (by assumption) | with_reducible refine Gr.setCell ?_ (by (try simp); (try omega)) _)) (by (try simp); (try omega))⟩
theorem rdist_any (v0 v1 v2 v3 v4 v5 : Int) (w : World) (hv : allIn ⟨v0, v1, v2, v3, v4, v5⟩ 48 6 = true) (d : V6) (hd : d = distV ⟨v0, v1, v2, v3, v4, v5⟩) :
    Calls Tryz.prog 24 #[.agg #[.int .i64 v0, .int .i64 v1, .int .i64 v2, .int .i64 v3, .int .i64 v4, .int .i64 v5]] w fun e w' => e = .returned (.agg #[.int .i64 d.x0, .int .i64 d.x1, .int .i64 d.x2, .int .i64 d.x3, .int .i64 d.x4, .int .i64 d.x5]) ∧ Gr w w' :=
  (rdist_any' v0 v1 v2 v3 v4 v5 w hv).mono fun _ _ h => h d hd
set_option maxRecDepth 100000 in
set_option maxHeartbeats 16000000 in
theorem rfar_any (A B : Option Addr) (n c m d : Nat) (nm : Nat → ByteArray) (f t : Nat → Nat → Int) (w : World) (hA : NamedAt w A n nm f) (hB : RowsAt w 4 B m t) :
    Calls Tryz.prog 11 #[.slice A n c, .slice B m d] w fun e w' => e = .returned (.tuple #[.int .i64 (farV nm f n t m), .int .i64 (walkE nm f n t m)]) ∧ Gr w w' := by
  have hW := rwalk_any A B n c m d nm f t w hA hB
  rcases walkE_cases nm f n t m with ⟨e1, e2, e3, e4⟩ | ⟨e1, e2⟩
  · have hFV : farV nm f n t m = ((farS (shP f t) (m + 1)).1 : Int) := by unfold farV; rw [e2]
    rw [e1, e2] at hW
    rw [e1, hFV]
    have hm15 : m ≤ 15 := by
      simp only [walkOk, Bool.and_eq_true, decide_eq_true_eq] at e3
      exact e3.2.1
    have hIN : ∀ k, k < m + 1 → allIn (rowV (shP f t) k) 48 6 = true := fun k hk => by simp only [rowV]; exact rangeB_at e4 (by omega)
    have h0 : distV (rowV (shP f t) 0) = ⟨0, 0, 0, 0, 0, 0⟩ := by
      have e : rowV (shP f t) 0 = ⟨0, 0, 0, 0, 0, 0⟩ := rfl
      rw [e]
      unfold distV
      split
      · rfl
      · split <;> rfl
    have HFL := Lib.hid (farS_law (shP f t) h0)
    have hF1 : (farS (shP f t) 1).1 = 0 := by
      have := (HFL.out 1 (by omega)).1
      omega
    have HW := Lib.hid hW; have HIN := Lib.hid hIN; have HF1 := Lib.hid hF1
    clear hW hIN hA hB e1 e2 e3 e4 hFV h0 hF1
    generalize shP f t = g at *
    obtain ⟨L, hL⟩ : ∃ L, L = m + 1 := ⟨_, rfl⟩
    rw [← hL] at HW HIN ⊢
    have hL16 : L ≤ 16 := by omega
    have hL1 : 1 ≤ L := by omega
    clear hL
    go_enter Tryz.func11, Tryz.ntmps11
    go_wp2_with fail
    go_at_call 21
    refine HW.out.mono ?_
    rintro e w1 ⟨A1, c1, rfl, hv1, hg1⟩
    have HG1 := Lib.hid hg1; have HV1 := Lib.hid hv1
    clear hg1 hv1 HW
    go_wp2_with fail
    go_loopw [8, 9] (fun fv iv wr => ∃ k : Nat, 1 ≤ k ∧ k ≤ L ∧ fv = .int .i64 ((farS g k).1 : Int) ∧ iv = .int .i64 (k : Int) ∧ Gr w1 wr) (fun _ iv _ => L - (intOf iv).toNat)
    case atStart => exact ⟨1, Nat.le_refl _, hL1, by rw [HF1.out]; rfl, rfl, Gr.refl _⟩
    case round =>
      obtain ⟨k, hk1, hk, rfl, rfl, hg⟩ := hrel
      have HGR1 := Lib.hid hg; have HGR := Lib.hid (HG1.out.trans hg)
      obtain ⟨wo, rfl⟩ : ∃ wo : World, wo = wr := ⟨_, rfl⟩
      by_cases hlt : k < L
      · have hlt' : decide ((k : Int) < (L : Int)) = true := decide_eq_true (by omega)
        have hltN : decide (k < L) = true := decide_eq_true hlt
        obtain ⟨b, off, rfl, hbl, hcc⟩ := (HV1.out.keep hg) (by omega)
        obtain ⟨q1, q2, -⟩ := HFL.out k hk1
        have hDA := distV_in (HIN.out k hlt)
        have hDB := distV_in (HIN.out (farS g k).1 (by omega))
        have hF1 := farS_yes g k
        have hF0 := farS_no g k
        rw [q2] at hF1 hF0
        have c0 := hcc k hlt 0 (by omega); have c1' := hcc k hlt 1 (by omega); have c2 := hcc k hlt 2 (by omega); have c3 := hcc k hlt 3 (by omega); have c4 := hcc k hlt 4 (by omega); have c5 := hcc k hlt 5 (by omega)
        have hfl : (farS g k).1 < L := by omega
        have y0 := hcc _ hfl 0 (by omega); have y1 := hcc _ hfl 1 (by omega); have y2 := hcc _ hfl 2 (by omega); have y3 := hcc _ hfl 3 (by omega); have y4 := hcc _ hfl 4 (by omega); have y5 := hcc _ hfl 5 (by omega)
        simp only [Nat.add_zero] at c0 y0
        have HFK : Hid ((farS g k).1 < k) := Lib.hid q1
        obtain ⟨fk, hfk⟩ : ∃ fk, fk = (farS g k).1 := ⟨_, rfl⟩
        rw [← hfk] at hDB hF1 hF0 hfl y0 y1 y2 y3 y4 y5 HFK ⊢
        have HIK := Lib.hid (HIN.out k hlt); have HIF := Lib.hid (HIN.out fk hfl)
        obtain ⟨dk, hdk⟩ : ∃ dk, dk = distV (rowV g k) := ⟨_, rfl⟩
        obtain ⟨df, hdf⟩ : ∃ df, df = distV (rowV g fk) := ⟨_, rfl⟩
        have HD1 := Lib.hid (fun W => rdist_any (g k 0) (g k 1) (g k 2) (g k 3) (g k 4) (g k 5) W HIK.out dk hdk)
        have HD2 := Lib.hid (fun W => rdist_any (g fk 0) (g fk 1) (g fk 2) (g fk 3) (g fk 4) (g fk 5) W HIF.out df hdf)
        rw [← hdk] at hDA hF1
        rw [← hdf] at hDB hF1 hF0
        rw [← hdk] at hF0
        obtain ⟨x0, x1, x2, x3, x4, x5⟩ := dk
        obtain ⟨z0, z1, z2, z3, z4, z5⟩ := df
        have HCM := Lib.hid (fun W => r3cmp_ok x0 x1 x2 x3 x4 x5 z0 z1 z2 z3 z4 z5 W hDA hDB)
        have HFY : Hid (farS g (k + 1) = if 0 < cmpP (V6.sub ⟨x0, x1, x2, x3, x4, x5⟩ ⟨z0, z1, z2, z3, z4, z5⟩) then (k, ⟨x0, x1, x2, x3, x4, x5⟩) else farS g k) := Lib.hid (by
          split
          · next h => exact hF1 h
          · next h => exact hF0 h)
        have HFE := Lib.hid hfk
        clear hcc hg hDA hDB hF1 hF0 q1 q2 hdk hdf hfk
        generalize cmpP (V6.sub ⟨x0, x1, x2, x3, x4, x5⟩ ⟨z0, z1, z2, z3, z4, z5⟩) = C at *
        generalize g k 0 = s0 at *
        generalize g k 1 = s1 at *
        generalize g k 2 = s2 at *
        generalize g k 3 = s3 at *
        generalize g k 4 = s4 at *
        generalize g k 5 = s5 at *
        generalize g fk 0 = r0 at *
        generalize g fk 1 = r1 at *
        generalize g fk 2 = r2 at *
        generalize g fk 3 = r3 at *
        generalize g fk 4 = r4 at *
        generalize g fk 5 = r5 at *
        have hi0 : (0 : Int) ≤ (k : Int) := by omega
        have hi1 : (k : Int) < (L : Int) := by omega
        have hj0 : (0 : Int) ≤ (fk : Int) := by omega
        have hj1 : (fk : Int) < (L : Int) := by omega
        go_wp2_with fail
        go_cut [10, 11] (fun nv ev wx => nv = .int .i64 C ∧ ev = .int .i64 0 ∧ Gr wo wx)
        case first =>
          go_region_held3 (fun wx => (∀ b o, (⟨min (b + 1) wo.heap.size, 0, none⟩ : Addr) = ⟨b + 1, 0, none⟩ → wx.cell? ⟨b, o, none⟩ = wo.cell? ⟨b, o, none⟩) ∧ Gr wo wx) (first | with_reducible exact held_drew _ | with_reducible exact held_call (by assumption) (by assumption) | with_reducible exact held_alloc (by assumption) _ | with_reducible exact held_alloc0 _ _ | with_reducible exact held_anew (by assumption) _ (by omega) | ((repeat (with_reducible refine held_set ?_ (by (try simp); (try omega)) _)); (first | with_reducible assumption | with_reducible exact held_call (by assumption) (by assumption)))) (first | (go_at_call 24; with_reducible refine (HD1.out _).mono ?_; rintro e w' ⟨rfl, hb⟩; have hzz := ((held_gr (by assumption)).trans hb).le; have hz := hb.le; obtain ⟨hcx, hfx⟩ := hb.cells; have hn := hb.cellsN; (try simp only [World.size_drew] at hcx hfx hz hn); (try simp only [World.size_setCell] at hcx hfx hz hn); (try simp only [World.size_alloc] at hcx hfx hz hn)) | (go_at_call 24; with_reducible refine (HD2.out _).mono ?_; rintro e w' ⟨rfl, hb⟩; have hzz := ((held_gr (by assumption)).trans hb).le; have hz := hb.le; obtain ⟨hcx, hfx⟩ := hb.cells; have hn := hb.cellsN; (try simp only [World.size_drew] at hcx hfx hz hn); (try simp only [World.size_setCell] at hcx hfx hz hn); (try simp only [World.size_alloc] at hcx hfx hz hn)) | (go_at_call 23; with_reducible refine (HCM.out _).mono ?_; rintro e w' ⟨rfl, hb⟩; have hzz := ((held_gr (by assumption)).trans hb).le; have hz := hb.le; obtain ⟨hcx, hfx⟩ := hb.cells; have hn := hb.cellsN; (try simp only [World.size_drew] at hcx hfx hz hn); (try simp only [World.size_setCell] at hcx hfx hz hn); (try simp only [World.size_alloc] at hcx hfx hz hn)))
          all_goals
            go_wp2_with fail
            go_meet
            exact ⟨rfl, rfl, held_gr (by assumption)⟩
        case rest =>
          obtain ⟨rfl, rfl, hgc⟩ := hcut
          have HGC := Lib.hid (HGR1.out.trans hgc)
          clear hgc c0 c1' c2 c3 c4 c5 y0 y1 y2 y3 y4 y5 HD1 HD2 HCM
          by_cases hC : 0 < C
          · have dC : decide (0 < C) = true := decide_eq_true hC
            rw [if_pos hC] at HFY
            clear hC
            go_wp2_with fail
            go_roundw
            case rel => exact ⟨k + 1, by omega, by omega, by rw [HFY.out], by go_num, HGC.out⟩
            case measure => simp [intOf]; omega
          · have dC : decide (0 < C) = false := decide_eq_false hC
            rw [if_neg hC] at HFY
            clear hC
            go_wp2_with fail
            go_roundw
            case rel => exact ⟨k + 1, by omega, by omega, by rw [HFY.out, HFE.out], by go_num, HGC.out⟩
            case measure => simp [intOf]; omega
      · obtain rfl : L = k := by omega
        have hlt' : decide ((L : Int) < (L : Int)) = false := decide_eq_false (by omega)
        go_wp2_with fail
        go_ret2
        exact ⟨rfl, HGR.out⟩
  · have hFV : farV nm f n t m = 0 := by unfold farV; rw [e2]; rfl
    rw [hFV]
    rw [e2] at hW
    have hne : walkE nm f n t m ≠ 0 := by rcases e1 with h | h <;> rw [h] <;> decide
    have HW := Lib.hid hW
    clear hW hA hB e1 e2 hFV
    generalize walkE nm f n t m = E at *
    have d1 : (E != 0) = true := by simpa using hne
    have d2 : decide (E = 0) = false := decide_eq_false hne
    clear hne
    go_enter Tryz.func11, Tryz.ntmps11
    go_wp2_with fail
    go_at_call 21
    refine HW.out.mono ?_
    rintro e w1 ⟨A1, c1, rfl, -, hg1⟩
    have HG1 := Lib.hid hg1
    clear hg1
    go_wp2_with fail
    go_ret2
    exact ⟨rfl, HG1.out⟩
set_option maxRecDepth 100000 in
set_option maxHeartbeats 16000000 in
theorem rhome_any (A B : Option Addr) (n c m d : Nat) (nm : Nat → ByteArray) (f t : Nat → Nat → Int) (w : World) (hA : NamedAt w A n nm f) (hB : RowsAt w 4 B m t) :
    Calls Tryz.prog 9 #[.slice A n c, .slice B m d] w (HomR (walkE nm f n t m) (homeL (shP f t) (walkN nm f n t m)) w) := by
  have hW := rwalk_any A B n c m d nm f t w hA hB
  rcases walkE_cases nm f n t m with ⟨e1, e2, e3, e4⟩ | ⟨e1, e2⟩
  · have hm15 : m ≤ 15 := by
      simp only [walkOk, Bool.and_eq_true, decide_eq_true_eq] at e3
      exact e3.2.1
    rw [e1, e2] at hW
    rw [e1, e2]
    have HW := Lib.hid hW
    obtain ⟨i0, hin, hz0, hz1, hz2⟩ := info_parts infoInt
    have HINF := Lib.hid (And.intro hin (And.intro hz0 (And.intro hz1 hz2)))
    clear hin hz0 hz1 hz2 hW hA hB e1 e2 e3 e4
    generalize shP f t = g at *
    obtain ⟨L, hL⟩ : ∃ L, L = m + 1 := ⟨_, rfl⟩
    rw [← hL] at HW ⊢
    have hL16 : L ≤ 16 := by omega
    clear hL
    go_enter Tryz.func9, Tryz.ntmps9
    go_wp2_with fail
    go_at_call 21
    refine HW.out.mono ?_
    rintro e w1 ⟨A1, c1, rfl, hv1, hg1⟩
    have HG1 := Lib.hid hg1; have HV1 := Lib.hid hv1
    clear hg1 hv1 HW
    go_wp2_with fail
    go_loopw [8, 9] (fun lv iv wr => ∃ (LV : Value) (k : Nat), LV = lv ∧ k ≤ L ∧ iv = .int .i64 (k : Int) ∧ wr.ownsRow w1.heap.size 3 1 LV (homeL g k).length (natC (homeL g k)) ∧ Gr w1 wr) (fun _ iv _ => L - (intOf iv).toNat)
    case atStart => exact ⟨_, 0, rfl, Nat.zero_le _, rfl, World.ownsRow_nil _ _ _ _, Gr.refl _⟩
    case round =>
      obtain ⟨lv, k, rfl, hk, rfl, ho, hg⟩ := hrel
      have HO := Lib.hid ho; have HGR1 := Lib.hid hg; have HGR := Lib.hid (HG1.out.trans hg)
      have hgl := hg.le
      clear ho
      obtain ⟨wo, rfl⟩ : ∃ wo : World, wo = wr := ⟨_, rfl⟩
      by_cases hlt : k < L
      · have hlt' : decide ((k : Int) < (L : Int)) = true := decide_eq_true (by omega)
        obtain ⟨b, off, rfl, hbl, hcc⟩ := (HV1.out.keep hg) (by omega)
        have c0 := hcc k hlt 0 (by omega); have c1' := hcc k hlt 1 (by omega); have c2 := hcc k hlt 2 (by omega); have c3 := hcc k hlt 3 (by omega); have c4 := hcc k hlt 4 (by omega); have c5 := hcc k hlt 5 (by omega)
        simp only [Nat.add_zero] at c0
        have hi0 : (0 : Int) ≤ (k : Int) := by omega
        have hi1 : (k : Int) < (L : Int) := by omega
        have hll := homeL_len g k
        have HSZ := Lib.hid (signV_zero (rowV g k))
        clear hcc hg
        by_cases hz : rowV g k = ⟨0, 0, 0, 0, 0, 0⟩
        · have HHL : Hid (homeL g (k + 1) = homeL g k ++ [k]) := Lib.hid (by rw [homeL, if_pos (HSZ.out.2 hz)])
          have hz' := hz
          simp only [rowV, V6.mk.injEq] at hz'
          obtain ⟨z0, z1, z2, z3, z4, z5⟩ := hz'
          rw [z0] at c0; rw [z1] at c1'; rw [z2] at c2; rw [z3] at c3; rw [z4] at c4; rw [z5] at c5
          have HQ := eq6V_yes 0 0 0 0 0 0
          clear hz z0 z1 z2 z3 z4 z5 HSZ
          go_wp2_with (at_builtin; refine wpList_append_own _ rfl _ _ 25 rfl w1.heap.size 3 i0 (.int .i64 0) 1 8 Tryz.underlying25 HINF.out.1 HINF.out.2.1 HINF.out.2.2.1 HINF.out.2.2.2 rfl (by decide) _ _ _ rfl (own_keep HO.out ((Gr.refl _).alloc _)) ⟨wo.heap.size, 0, none⟩ 1 1 [.int .i64 (k : Int)] rfl rfl (cell_one_new _ _ _) (by intro u hu; simp at hu; subst hu; rfl) (by unfold maxLen; omega) (by omega) (by simp; omega) ?_; intro lv2 w2 hown hgrow hnil; have HN := Lib.hid hown; have HG2 := Lib.hid (own_app_gr (own_keep HO.out ((Gr.refl _).alloc (.cells #[.int .i64 (k : Int)] 3))) (HGR1.out.alloc _) hgrow); clear hown hgrow hnil)
          go_roundw
          case rel => exact ⟨_, k + 1, rfl, by omega, by go_num, by rw [HHL.out, natC_snoc, List.length_append]; exact HN.out, HG2.out⟩
          case measure => simp [intOf]; omega
        · have HHL : Hid (homeL g (k + 1) = homeL g k) := Lib.hid (by rw [homeL, if_neg (fun h => hz (HSZ.out.1 h))])
          have hQ : ∀ W, (Op.equalIn 10000 53 (.agg #[.int .i64 (g k 0), .int .i64 (g k 1), .int .i64 (g k 2), .int .i64 (g k 3), .int .i64 (g k 4), .int .i64 (g k 5)]) (.agg #[.int .i64 0, .int .i64 0, .int .i64 0, .int .i64 0, .int .i64 0, .int .i64 0])).run Tryz.prog W = .ok false W := fun W => by
            rw [eq6V]
            have : (g k 0 == 0 && g k 1 == 0 && g k 2 == 0 && g k 3 == 0 && g k 4 == 0 && g k 5 == 0) = false := by
              cases h : (g k 0 == 0 && g k 1 == 0 && g k 2 == 0 && g k 3 == 0 && g k 4 == 0 && g k 5 == 0) with
              | false => rfl
              | true =>
                simp only [Bool.and_eq_true, beq_iff_eq] at h
                obtain ⟨⟨⟨⟨⟨a0, a1⟩, a2⟩, a3⟩, a4⟩, a5⟩ := h
                exact absurd (show rowV g k = ⟨0, 0, 0, 0, 0, 0⟩ by simp only [rowV, a0, a1, a2, a3, a4, a5]) hz
            rw [this]
          clear hz HSZ
          generalize g k 0 = s0 at *
          generalize g k 1 = s1 at *
          generalize g k 2 = s2 at *
          generalize g k 3 = s3 at *
          generalize g k 4 = s4 at *
          generalize g k 5 = s5 at *
          go_wp2_with fail
          go_roundw
          case rel => exact ⟨_, k + 1, rfl, by omega, by go_num, by rw [HHL.out]; exact HO.out, HGR1.out⟩
          case measure => simp [intOf]; omega
      · obtain rfl : L = k := by omega
        have hlt' : decide ((L : Int) < (L : Int)) = false := decide_eq_false (by omega)
        obtain ⟨A2, c2, rfl, hil, hcl⟩ := intsL_of_own HO.out
        have HIL := Lib.hid hil
        clear hil hg
        go_wp2_with fail
        go_ret2
        exact ⟨A2, c2, rfl, HIL.out, hcl, HGR.out⟩
  · rw [e2] at hW
    rw [e2]
    have hne : walkE nm f n t m ≠ 0 := by rcases e1 with h | h <;> rw [h] <;> decide
    have HW := Lib.hid hW
    clear hW hA hB e1 e2
    generalize walkE nm f n t m = E at *
    have d1 : (E != 0) = true := by simpa using hne
    have d2 : decide (E = 0) = false := decide_eq_false hne
    clear hne
    go_enter Tryz.func9, Tryz.ntmps9
    go_wp2_with fail
    go_at_call 21
    refine HW.out.mono ?_
    rintro e w1 ⟨A1, c1, rfl, -, hg1⟩
    have HG1 := Lib.hid hg1
    clear hg1
    go_wp2_with fail
    go_ret2
    exact ⟨none, 0, rfl, fun h => by simp [homeL] at h, Nat.zero_le _, HG1.out⟩
end Go.Proofs.YtelhmdhhabgihaaGreatDoor

namespace Go.Proofs.YtelhmdhhabgihaaGreatDoor
open Go.RowKit

theorem own_emptyS {W : World} {base g sz : Nat} {e : TypeId} (h : W.heap[g]? = some (.cells #[] e (0, 0))) (hb : base ≤ g) : W.ownsRow base e sz (.slice (some ⟨g, 0, none⟩) 0 0) 0 [] :=
  ⟨by simp, .inr ⟨g, 0, #[], rfl, hb, h, Nat.le_refl _, Nat.zero_le _, by simp, by simp⟩⟩
theorem row4C_congr {g g' : Nat → Nat → Int} : ∀ n, (∀ i, i < n → ∀ j, j < 4 → g i j = g' i j) → row4C g n = row4C g' n
  | 0, _ => rfl
  | n + 1, h => by
    rw [row4C, row4C, row4C_congr n (fun i hi => h i (by omega)), h n (by omega) 0 (by omega), h n (by omega) 1 (by omega), h n (by omega) 2 (by omega), h n (by omega) 3 (by omega)]
theorem row4C_one (g : Nat → Nat → Int) (n : Nat) : ∀ u ∈ row4C g n, u.oneCell' = true := by
  induction n with
  | zero => intro u hu; simp [row4C] at hu
  | succ n ih =>
    intro u hu
    rw [row4C, List.mem_append] at hu
    rcases hu with hu | hu
    · exact ih u hu
    · simp only [List.mem_cons, List.not_mem_nil, or_false] at hu
      rcases hu with rfl | rfl | rfl | rfl <;> rfl
theorem row4_news {W : World} {b off n : Nat} {g : Nat → Nat → Int} (h : ∀ i, i < n → ∀ j, j < 4 → W.cell? ⟨b, off + i * 4 + j, none⟩ = some (.int .i64 (g i j))) : ∀ j u, (row4C g n)[j]? = some u → W.cell? ((⟨b, off, none⟩ : Addr).add j) = some u := by
  intro j u hj
  have hlt := (List.getElem?_eq_some_iff.1 hj).1
  rw [row4C_len] at hlt
  have e := row4C_at g n (j / 4) (j % 4) (by omega) (by omega)
  rw [show j / 4 * 4 + j % 4 = j by omega] at e
  rw [e] at hj
  cases hj
  rw [Addr.add_lit, ← h (j / 4) (by omega) (j % 4) (by omega)]
  congr 2
  omega
/-- What a list of takes of the call's own is. -/
def TksR (L : Nat) (g : Nat → Nat → Int) (w : World) (e : Ending) (w' : World) : Prop := ∃ (A : Option Addr) (c : Nat), e = .returned (.slice A L c) ∧ RowsAt w' 4 A L g ∧ L ≤ c ∧ Gr w w'
set_option maxRecDepth 100000 in
set_option maxHeartbeats 16000000 in
theorem rjoined_any (A B : Option Addr) (m d k c : Nat) (t t2 : Nat → Nat → Int) (w : World) (hA : RowsAt w 4 A m t) (hB : RowsAt w 4 B k t2) (hm : m ≤ 15) (hk : k ≤ 15) :
    Calls Tryz.prog 28 #[.slice A m d, .slice B k c] w (TksR (m + k) (jnT t t2 m) w) := by
  obtain ⟨i0, hin, hz0, hz1, hz2⟩ := info_parts infoTake
  have HINF := Lib.hid (And.intro hin (And.intro hz0 (And.intro hz1 hz2)))
  have HB := Lib.hid hB
  clear hin hz0 hz1 hz2 hB
  cases A with
  | none =>
    have h0 : m = 0 := by
      rcases Nat.eq_zero_or_pos m with h | h
      · exact h
      · obtain ⟨b, off, h, -⟩ := hA h; cases h
    clear hA
    have HL0 : Hid (OwnL w.heap.size 40 4 w (.slice (some ⟨w.heap.size, 0, none⟩) 0 0) (m + 0) (row4C (jnT t t2 m) (m + 0)) (w.alloc (.cells #[] 40))) := Lib.hid (by subst h0; exact ⟨(Gr.refl _).alloc _, own_emptyS (World.alloc_heap_new _ _) (Nat.le_refl _), by simp⟩)
    have H0 := Lib.hid h0
    go_enter Tryz.func28, Tryz.ntmps28
    go_wp2_with fail
    clear h0
    go_loopw [5, 6] (fun lv iv wr => ∃ (LV : Value) (i : Nat), LV = lv ∧ i ≤ k ∧ iv = .int .i64 (i : Int) ∧ OwnL w.heap.size 40 4 w LV (m + i) (row4C (jnT t t2 m) (m + i)) wr) (fun _ iv _ => k - (intOf iv).toNat)
    case atStart => exact ⟨_, 0, rfl, Nat.zero_le _, rfl, HL0.out⟩
    case round =>
      obtain ⟨lv, i, rfl, hi, rfl, hL⟩ := hrel
      have HL2 := Lib.hid hL
      have HGR := Lib.hid (hL.toGr (Gr.refl _) (Nat.le_refl _))
      have hsz := hL.size
      obtain ⟨wp, rfl⟩ : ∃ wp : World, wp = wr := ⟨_, rfl⟩
      by_cases hlt : i < k
      · have hlt' : decide ((i : Int) < (k : Int)) = true := decide_eq_true (by omega)
        obtain ⟨b, off, rfl, hbl, hcc⟩ := (HB.out.keep HGR.out).at_ hlt
        have c0 := hcc 0 (by omega); have c1 := hcc 1 (by omega); have c2 := hcc 2 (by omega); have c3 := hcc 3 (by omega)
        simp only [Nat.add_zero] at c0
        obtain ⟨A3, c3', hlv, -, -⟩ := rows_of_own hL.own (jnT t t2 m) (fun i j hi hj => row4C_at _ _ i j hi hj)
        subst hlv
        have hR4 : row4C (jnT t t2 m) (m + (i + 1)) = row4C (jnT t t2 m) (m + i) ++ [.int .i64 (((m + i : Nat) : Int) + 1), .int .i64 (t2 i 1), .int .i64 (t2 i 2), .int .i64 (t2 i 3)] := by
          rw [show m + (i + 1) = m + i + 1 by omega, row4C]
          have a : ∀ j, j ≠ 0 → jnT t t2 m (m + i) j = t2 i j := fun j hj => by unfold jnT; rw [if_neg (by omega), if_neg hj, Nat.add_sub_cancel_left]
          have a0 : jnT t t2 m (m + i) 0 = ((m + i : Nat) : Int) + 1 := by unfold jnT; rw [if_neg (by omega), if_pos rfl]
          rw [a 1 (by omega), a 2 (by omega), a 3 (by omega), a0]
        have HR4 := Lib.hid hR4
        clear hcc hL hR4
        generalize t2 i 0 = t0 at *
        generalize t2 i 1 = t1 at *
        generalize t2 i 2 = t2' at *
        generalize t2 i 3 = t3 at *
        obtain ⟨ik, hik⟩ : ∃ ik, ik = m + i := ⟨_, rfl⟩
        rw [← hik] at HL2 HR4 ⊢
        have hikb : ik ≤ 30 := by omega
        have HIK := Lib.hid hik
        clear hik
        have hw3 : IntKind.i64.wrap ((ik : Int) + 1) = (ik : Int) + 1 := IntWalk.i64_in _ ⟨by omega, by omega⟩
        go_upto_region 7 with fail
        have v1' : ∀ W, W = wp.alloc (.cells #[.int .i64 ((ik : Int) + 1), .int .i64 t1, .int .i64 t2', .int .i64 t3] 40) → W.cell? ⟨wp.heap.size, 0, none⟩ = some (.int .i64 ((ik : Int) + 1)) ∧ W.cell? ⟨wp.heap.size, 1, none⟩ = some (.int .i64 t1) ∧ W.cell? ⟨wp.heap.size, 2, none⟩ = some (.int .i64 t2') ∧ W.cell? ⟨wp.heap.size, 3, none⟩ = some (.int .i64 t3) ∧ wp.heap.size < W.heap.size ∧ Gr wp W := by
          rintro W rfl
          exact ⟨by simp [go_sem], by simp [go_sem], by simp [go_sem], by simp [go_sem], by simp, (by repeat (first | with_reducible exact Gr.refl _ | with_reducible refine Gr.alloc ?_ _ | with_reducible refine Gr.drew ?_ | with_reducible refine Gr.trans ?_ (by assumption) | with_reducible refine Gr.setCell ?_ (by (try simp); (try omega)) _))⟩
        clear c0 c1 c2 c3 hbl
        generalize hwq : wp.alloc (.cells #[.int .i64 ((ik : Int) + 1), .int .i64 t1, .int .i64 t2', .int .i64 t3] 40) = wq at *
        obtain ⟨e0, e1, e2, e3, hzq, hgq⟩ := v1' wq rfl
        have HLQ := Lib.hid (HL2.out.gr hgq)
        have hszq := HLQ.out.size
        clear v1' hgq hwq
        go_wp2_with (at_builtin; refine wpList_append_own _ rfl _ _ 23 rfl w.heap.size 40 i0 (.agg #[.int .i64 0, .int .i64 0, .int .i64 0, .int .i64 0]) 4 32 Tryz.underlying23 HINF.out.1 HINF.out.2.1 HINF.out.2.2.1 HINF.out.2.2.2 rfl (by decide) _ _ _ rfl (HLQ.out.own.alloc _) ⟨wq.heap.size, 0, none⟩ 1 1 [.int .i64 ((ik : Int) + 1), .int .i64 t1, .int .i64 t2', .int .i64 t3] rfl rfl (cell_four_new _ _ _ _ _ _) (by intro u hu; simp at hu; rcases hu with rfl | rfl | rfl | rfl <;> rfl) (by unfold maxLen; omega) (by omega) (by simp; omega) ?_; intro lv' w5 hown1 hgrow hnil)
        have HL3 : Hid (OwnL w.heap.size 40 4 w lv' (m + (i + 1)) (row4C (jnT t t2 m) (m + (i + 1))) w5) := Lib.hid (by
          have z := (HLQ.out.alloc _).grown hown1 hgrow
          rw [HR4.out, show m + (i + 1) = ik + 1 by rw [HIK.out]; omega]
          exact z)
        clear hown1 hgrow hnil
        go_wp2_with fail
        go_roundw
        case rel => exact ⟨_, i + 1, rfl, by omega, by go_num, HL3.out⟩
        case measure => simp [intOf]; omega
      · obtain rfl : k = i := by omega
        have hlt' : decide ((k : Int) < (k : Int)) = false := decide_eq_false (by omega)
        obtain ⟨A3, c3', hlv, hrows, -⟩ := rows_of_own hL.own (jnT t t2 m) (fun i j hi hj => row4C_at _ _ i j hi hj)
        subst hlv
        have HRW := Lib.hid (And.intro hrows (own_cap1 hL.own))
        clear hL hrows
        go_wp2_with fail

        go_ret
        exact ⟨_, _, rfl, HRW.out.1, HRW.out.2, HGR.out⟩
  | some ad =>
    obtain ⟨b0, o0, x0⟩ := ad
    have hbl : ∀ j u, (row4C t m)[j]? = some u → (w.alloc (.cells #[] 40)).cell? ((⟨b0, o0, x0⟩ : Addr).add j) = some u := by
      intro j u hj
      have hlt := (List.getElem?_eq_some_iff.1 hj).1
      rw [row4C_len] at hlt
      obtain ⟨b, off, h, hb, hc⟩ := hA (by omega)
      cases h
      refine row4_news (fun i hi l hl => ?_) j u hj
      exact (Below.cell (p := ⟨_, _, none⟩) ((Gr.refl w).alloc _) hb).trans (hc i hi l hl)
    have HN := Lib.hid hbl
    clear hA hbl
    go_enter Tryz.func28, Tryz.ntmps28
    go_wp2_with (at_builtin; refine wpList_append_own _ rfl _ _ 23 rfl w.heap.size 40 i0 (.agg #[.int .i64 0, .int .i64 0, .int .i64 0, .int .i64 0]) 4 32 Tryz.underlying23 HINF.out.1 HINF.out.2.1 HINF.out.2.2.1 HINF.out.2.2.2 rfl (by decide) _ _ _ rfl (own_emptyS (World.alloc_heap_new _ _) (Nat.le_refl _)) ⟨b0, o0, x0⟩ m d (row4C t m) rfl (by rw [row4C_len]) HN.out (row4C_one t m) (by unfold maxLen; omega) (by omega) (by simp) ?_; intro lv' w3 hown1 hgrow hnil; replace hgrow : (w.alloc (.cells #[] 40)).grownBy w3 (some w.heap.size) := hgrow)
    rw [Nat.zero_add, List.nil_append] at hown1
    have HL0 : Hid (OwnL w.heap.size 40 4 w lv' (m + 0) (row4C (jnT t t2 m) (m + 0)) w3) := Lib.hid (by
      rw [Nat.add_zero, row4C_congr (g' := t) m (fun i hi j _ => by unfold jnT; rw [if_pos hi])]
      exact ⟨(Below.mono ((Gr.refl w).alloc _) (Nat.le_refl _)).grown hgrow (by simp) (fun k hk => by cases hk; exact Nat.le_refl _), hown1, Nat.le_trans (by simp) hgrow.size⟩)
    clear hown1 hgrow hnil
    go_wp2_with fail
    go_loopw [5, 6] (fun lv iv wr => ∃ (LV : Value) (i : Nat), LV = lv ∧ i ≤ k ∧ iv = .int .i64 (i : Int) ∧ OwnL w.heap.size 40 4 w LV (m + i) (row4C (jnT t t2 m) (m + i)) wr) (fun _ iv _ => k - (intOf iv).toNat)
    case atStart => exact ⟨_, 0, rfl, Nat.zero_le _, rfl, HL0.out⟩
    case round =>
      obtain ⟨lv, i, rfl, hi, rfl, hL⟩ := hrel
      have HL2 := Lib.hid hL
      have HGR := Lib.hid (hL.toGr (Gr.refl _) (Nat.le_refl _))
      have hsz := hL.size
      obtain ⟨wp, rfl⟩ : ∃ wp : World, wp = wr := ⟨_, rfl⟩
      by_cases hlt : i < k
      · have hlt' : decide ((i : Int) < (k : Int)) = true := decide_eq_true (by omega)
        obtain ⟨b, off, rfl, hbl, hcc⟩ := (HB.out.keep HGR.out).at_ hlt
        have c0 := hcc 0 (by omega); have c1 := hcc 1 (by omega); have c2 := hcc 2 (by omega); have c3 := hcc 3 (by omega)
        simp only [Nat.add_zero] at c0
        obtain ⟨A3, c3', hlv, -, -⟩ := rows_of_own hL.own (jnT t t2 m) (fun i j hi hj => row4C_at _ _ i j hi hj)
        subst hlv
        have hR4 : row4C (jnT t t2 m) (m + (i + 1)) = row4C (jnT t t2 m) (m + i) ++ [.int .i64 (((m + i : Nat) : Int) + 1), .int .i64 (t2 i 1), .int .i64 (t2 i 2), .int .i64 (t2 i 3)] := by
          rw [show m + (i + 1) = m + i + 1 by omega, row4C]
          have a : ∀ j, j ≠ 0 → jnT t t2 m (m + i) j = t2 i j := fun j hj => by unfold jnT; rw [if_neg (by omega), if_neg hj, Nat.add_sub_cancel_left]
          have a0 : jnT t t2 m (m + i) 0 = ((m + i : Nat) : Int) + 1 := by unfold jnT; rw [if_neg (by omega), if_pos rfl]
          rw [a 1 (by omega), a 2 (by omega), a 3 (by omega), a0]
        have HR4 := Lib.hid hR4
        clear hcc hL hR4
        generalize t2 i 0 = t0 at *
        generalize t2 i 1 = t1 at *
        generalize t2 i 2 = t2' at *
        generalize t2 i 3 = t3 at *
        obtain ⟨ik, hik⟩ : ∃ ik, ik = m + i := ⟨_, rfl⟩
        rw [← hik] at HL2 HR4 ⊢
        have hikb : ik ≤ 30 := by omega
        have HIK := Lib.hid hik
        clear hik
        have hw3 : IntKind.i64.wrap ((ik : Int) + 1) = (ik : Int) + 1 := IntWalk.i64_in _ ⟨by omega, by omega⟩
        go_upto_region 7 with fail
        have v1' : ∀ W, W = wp.alloc (.cells #[.int .i64 ((ik : Int) + 1), .int .i64 t1, .int .i64 t2', .int .i64 t3] 40) → W.cell? ⟨wp.heap.size, 0, none⟩ = some (.int .i64 ((ik : Int) + 1)) ∧ W.cell? ⟨wp.heap.size, 1, none⟩ = some (.int .i64 t1) ∧ W.cell? ⟨wp.heap.size, 2, none⟩ = some (.int .i64 t2') ∧ W.cell? ⟨wp.heap.size, 3, none⟩ = some (.int .i64 t3) ∧ wp.heap.size < W.heap.size ∧ Gr wp W := by
          rintro W rfl
          exact ⟨by simp [go_sem], by simp [go_sem], by simp [go_sem], by simp [go_sem], by simp, (by repeat (first | with_reducible exact Gr.refl _ | with_reducible refine Gr.alloc ?_ _ | with_reducible refine Gr.drew ?_ | with_reducible refine Gr.trans ?_ (by assumption) | with_reducible refine Gr.setCell ?_ (by (try simp); (try omega)) _))⟩
        clear c0 c1 c2 c3 hbl
        generalize hwq : wp.alloc (.cells #[.int .i64 ((ik : Int) + 1), .int .i64 t1, .int .i64 t2', .int .i64 t3] 40) = wq at *
        obtain ⟨e0, e1, e2, e3, hzq, hgq⟩ := v1' wq rfl
        have HLQ := Lib.hid (HL2.out.gr hgq)
        have hszq := HLQ.out.size
        clear v1' hgq hwq
        go_wp2_with (at_builtin; refine wpList_append_own _ rfl _ _ 23 rfl w.heap.size 40 i0 (.agg #[.int .i64 0, .int .i64 0, .int .i64 0, .int .i64 0]) 4 32 Tryz.underlying23 HINF.out.1 HINF.out.2.1 HINF.out.2.2.1 HINF.out.2.2.2 rfl (by decide) _ _ _ rfl (HLQ.out.own.alloc _) ⟨wq.heap.size, 0, none⟩ 1 1 [.int .i64 ((ik : Int) + 1), .int .i64 t1, .int .i64 t2', .int .i64 t3] rfl rfl (cell_four_new _ _ _ _ _ _) (by intro u hu; simp at hu; rcases hu with rfl | rfl | rfl | rfl <;> rfl) (by unfold maxLen; omega) (by omega) (by simp; omega) ?_; intro lv' w5 hown1 hgrow hnil)
        have HL3 : Hid (OwnL w.heap.size 40 4 w lv' (m + (i + 1)) (row4C (jnT t t2 m) (m + (i + 1))) w5) := Lib.hid (by
          have z := (HLQ.out.alloc _).grown hown1 hgrow
          rw [HR4.out, show m + (i + 1) = ik + 1 by rw [HIK.out]; omega]
          exact z)
        clear hown1 hgrow hnil
        go_wp2_with fail
        go_roundw
        case rel => exact ⟨_, i + 1, rfl, by omega, by go_num, HL3.out⟩
        case measure => simp [intOf]; omega
      · obtain rfl : k = i := by omega
        have hlt' : decide ((k : Int) < (k : Int)) = false := decide_eq_false (by omega)
        obtain ⟨A3, c3', hlv, hrows, -⟩ := rows_of_own hL.own (jnT t t2 m) (fun i j hi hj => row4C_at _ _ i j hi hj)
        subst hlv
        have HRW := Lib.hid (And.intro hrows (own_cap1 hL.own))
        clear hL hrows
        go_wp2_with fail

        go_ret
        exact ⟨_, _, rfl, HRW.out.1, HRW.out.2, HGR.out⟩
theorem sumLo_loV (v : V6) : sumLo v 6 = loV v := by
  simp only [sumLo, V6.get, logLo, logHi, loV, loT]
  have t : ∀ e l h : Int, (e * if e < 0 then h else l) = if e < 0 then e * h else e * l := by intro e l h; split <;> rfl
  simp only [t]
  omega
theorem sumHi_hiV (v : V6) : sumHi v 6 = hiV v := by
  simp only [sumHi, V6.get, logLo, logHi, hiV, hiT]
  have t : ∀ e l h : Int, (e * if e < 0 then l else h) = if e < 0 then e * l else e * h := by intro e l h; split <;> rfl
  simp only [t]
  omega
theorem neg_sub (u v : V6) : (u.sub v).neg = v.sub u := by
  unfold V6.neg V6.sub; simp only [V6.mk.injEq]; omega
/-- The order of two sizes that have no number in common is that of the pitches. -/
theorem order_lt {u v : V6} (h : sumHi u 6 < sumLo v 6) : cmpP (u.sub v) = -1 := by
  refine hiV_neg ?_
  rw [← sumHi_hiV]
  have h1 := (sum_add u v.neg 6 (by omega)).2
  have h2 : sumHi v.neg 6 = -sumLo v 6 := by rw [sumHi_hiV, sumLo_loV]; exact hiV_sub v
  have h3 : u.add v.neg = u.sub v := by unfold V6.add V6.neg V6.sub; simp only [V6.mk.injEq]; omega
  rw [h3, h2] at h1
  omega
theorem order_gt {u v : V6} (h : sumHi v 6 < sumLo u 6) : cmpP (u.sub v) = 1 := by
  have h1 := order_lt h
  rw [← neg_sub, cmpP_neg] at h1
  omega
theorem sum_neg (u : V6) : sumLo u.neg 6 = -sumHi u 6 ∧ sumHi u.neg 6 = -sumLo u 6 := by
  refine ⟨?_, ?_⟩
  · have e : u = u.neg.neg := by unfold V6.neg; simp
    have h := hiV_sub u.neg
    rw [← e] at h
    rw [sumLo_loV, sumHi_hiV, h]; omega
  · rw [sumHi_hiV, sumLo_loV]; exact hiV_sub u
/-- Twelve times an interval. -/
def pureV (v : V6) : V6 := ⟨v.x0 * 12, v.x1 * 12, v.x2 * 12, v.x3 * 12, v.x4 * 12, v.x5 * 12⟩
theorem dist_size (v : V6) : (0 < sumLo (pureV v) 6 → sumLo (distV v) 6 = sumLo (pureV v) 6) ∧ (¬ 0 < sumLo (pureV v) 6 → sumHi (pureV v) 6 < 0 → sumLo (distV v) 6 = -sumHi (pureV v) 6) ∧
    (¬ 0 < sumLo (pureV v) 6 → ¬ sumHi (pureV v) 6 < 0 → ¬ 0 < sumLo (distV v) 6) := by
  obtain ⟨n1, n2⟩ := sum_neg (pureV v)
  have hS : signV v = cmpP ((pureV v).sub (pureV v).neg) := rfl
  have hD : distV v = if signV v < 0 then (pureV v).neg else pureV v := distV_law v
  have g1 : 0 < sumLo (pureV v) 6 → signV v = 1 := fun h => by rw [hS]; exact order_gt (by omega)
  have g2 : sumHi (pureV v) 6 < 0 → signV v = -1 := fun h => by rw [hS]; exact order_lt (by omega)
  refine ⟨fun h => ?_, fun h h2 => ?_, fun h h2 => ?_⟩
  · rw [hD, g1 h, if_neg (by omega)]
  · rw [hD, g2 h2, if_pos (by omega), n1]
  · rw [hD]
    split
    · rw [n1]; omega
    · exact h
set_option maxRecDepth 100000 in
set_option maxHeartbeats 16000000 in
theorem rtimes_any (A B : Option Addr) (n c m d : Nat) (nm : Nat → ByteArray) (f t : Nat → Nat → Int) (w : World) (hA : NamedAt w A n nm f) (hB : RowsAt w 4 B m t) (x : Int) :
    Calls Tryz.prog 15 #[.slice A n c, .slice B m d, .int .i64 x] w (TimR (timN nm f n t m x) (timE nm f n t m x) (tmT t m) w) := by
  have hV := rvalid25_any A B n c m d nm f t w hA hB
  rcases btf (walkOk nm f n t m && decide (0 ≤ x ∧ x ≤ 15)) with h | h
  · have h' := h
    simp only [Bool.and_eq_true, decide_eq_true_eq] at h'
    obtain ⟨h1, h2, h3⟩ := h'
    obtain ⟨X, rfl⟩ := Int.eq_ofNat_of_zero_le h2
    rw [h1] at hV
    have hm15 : m ≤ 15 := by
      simp only [walkOk, Bool.and_eq_true, decide_eq_true_eq] at h1
      exact h1.2.1
    have hX15 : X ≤ 15 := by omega
    have hXm : X * m ≤ 225 := Nat.mul_le_mul hX15 hm15
    have hw : IntKind.i64.wrap ((X : Int) * (m : Int)) = ((X * m : Nat) : Int) := (IntWalk.i64_in _ ⟨by have : (X : Int) * (m : Int) = ((X * m : Nat) : Int) := by simp
                                                                                                        omega, by have : (X : Int) * (m : Int) = ((X * m : Nat) : Int) := by simp
                                                                                                                  omega⟩).trans (by simp)
    have hwv : wrap64 ((X : Int) * (m : Int)) = ((X * m : Nat) : Int) := (IntWalk.i64_left _).symm.trans hw
    have e1 : timE nm f n t m (X : Int) = (if X * m ≤ 15 then 0 else 2) := by
      unfold timE
      rw [if_pos h]
      have : (X : Int) * (m : Int) = ((X * m : Nat) : Int) := by simp
      rw [this]
      by_cases hp : X * m ≤ 15
      · rw [if_pos hp, if_pos (by omega)]
      · rw [if_neg hp, if_neg (by omega)]
    have e2 : timN nm f n t m (X : Int) = (if X * m ≤ 15 then X * m else 0) := by
      unfold timN
      rw [e1]
      by_cases hp : X * m ≤ 15 <;> simp [hp]
    have d1 : decide ((X : Int) < 0) = false := decide_eq_false (by omega)
    have d2 : decide (15 < (X : Int)) = false := decide_eq_false (by omega)
    have d2' : decide (15 < X) = false := decide_eq_false (by omega)
    rw [e1, e2]
    by_cases hp : X * m ≤ 15
    · rw [if_pos hp, if_pos hp]
      have hJ := fun W (g : Gr w W) A' (q c' : Nat) (h : RowsAt W 4 A' (q * m) (tmT t m)) (hq : q * m ≤ 15) => rjoined_any A' B (q * m) c' m d (tmT t m) t W h (hB.keep g) hq hm15
      have hJT : ∀ q i j, i < (q + 1) * m → j < 4 → jnT (tmT t m) t (q * m) i j = tmT t m i j := fun q i j hi hj => by
        unfold jnT tmT
        by_cases hl : i < q * m
        · rw [if_pos hl]
        · rw [if_neg hl]
          by_cases h0 : j = 0
          · rw [if_pos h0, if_pos h0]
          · rw [if_neg h0, if_neg h0]
            have hk : i - q * m < m := by rw [Nat.add_mul, Nat.one_mul] at hi; omega
            have e := mod_row (q := q) hk
            rw [show q * m + (i - q * m) = i by omega] at e
            rw [e]
      have HV := Lib.hid hV; have HJ := Lib.hid hJ; have HJT := Lib.hid hJT
      have d3 : decide (15 < ((X * m : Nat) : Int)) = false := decide_eq_false (by omega)
      have d3' : decide (15 < X * m) = false := decide_eq_false (by omega)
      have HQM := Lib.hid (fun q (hq : q ≤ X) => show q * m ≤ X * m from Nat.mul_le_mul_right m hq)
      have HRN : Hid (RowsAt w 4 none (0 * m) (tmT t m)) := Lib.hid (by rw [Nat.zero_mul]; exact RowsAt.nil _ _ _ _)
      clear hV hJ hJT hA hB h h1 h2 h3 e1 e2
      generalize tmT t m = g at *
      obtain ⟨XM, hXM⟩ : ∃ XM, XM = X * m := ⟨_, rfl⟩
      rw [← hXM] at hp hXm hw hwv d3 d3' HQM ⊢
      have HXM := Lib.hid hXM
      clear hXM
      go_enter Tryz.func15, Tryz.ntmps15
      go_wp2_with fail
      go_at_call 19
      refine HV.out.mono ?_
      rintro e w1 ⟨rfl, hg1⟩
      have HG1 := Lib.hid hg1
      clear hg1
      go_wp2_with fail
      go_loopw [8, 9] (fun lv iv wr => ∃ (A' : Option Addr) (c' q : Nat), lv = .slice A' (q * m) c' ∧ q ≤ X ∧ iv = .int .i64 (q : Int) ∧ RowsAt wr 4 A' (q * m) g ∧ q * m ≤ c' ∧ Gr w wr) (fun _ iv _ => X - (intOf iv).toNat)
      case atStart => exact ⟨none, 0, 0, by rw [Nat.zero_mul], Nat.zero_le _, rfl, HRN.out.keep HG1.out, by omega, HG1.out⟩
      case round =>
        obtain ⟨A', c', q, rfl, hq, rfl, hr, hc, hg⟩ := hrel
        have HR := Lib.hid hr; have HG := Lib.hid hg
        obtain ⟨wo, rfl⟩ : ∃ wo : World, wo = wr := ⟨_, rfl⟩
        clear hr hg
        by_cases hlt : q < X
        · have hlt' : decide ((q : Int) < (X : Int)) = true := decide_eq_true (by omega)
          have hltN : decide (q < X) = true := decide_eq_true hlt
          have hqm := HQM.out q hq
          have HJ1 := Lib.hid (HJ.out wo HG.out A' q c' HR.out (by omega))
          go_wp2_with fail
          go_at_call 28
          refine HJ1.out.mono ?_
          rintro e w2 ⟨A2, c2, rfl, hr2, hc2, hg2⟩
          have HR2 : Hid (RowsAt w2 4 A2 ((q + 1) * m) g) := Lib.hid (by
            rw [Nat.add_mul, Nat.one_mul]
            exact rows_congr hr2 (fun i hi j hj => HJT.out q i j (by rw [Nat.add_mul, Nat.one_mul]; exact hi) hj))
          have HG2 := Lib.hid (HG.out.trans hg2)
          have HL : Hid (q * m + m = (q + 1) * m) := Lib.hid (by rw [Nat.add_mul, Nat.one_mul])
          have hc3 : (q + 1) * m ≤ c2 := by rw [← HL.out]; exact hc2
          rw [HL.out]
          clear hr2 hg2 hc2
          go_wp2_with fail
          go_roundw
          case rel => exact ⟨A2, c2, q + 1, rfl, by omega, by go_num, HR2.out, hc3, HG2.out⟩
          case measure => simp [intOf]; omega
        · obtain rfl : X = q := by omega
          have hlt' : decide ((X : Int) < (X : Int)) = false := decide_eq_false (by omega)
          have HXE := HXM
          rw [← HXM.out] at HR hc ⊢
          go_wp2_with fail
          go_ret2
          exact ⟨A', c', rfl, HR.out, hc, HG.out⟩
    · rw [if_neg hp, if_neg hp]
      have d3 : decide (15 < ((X * m : Nat) : Int)) = true := decide_eq_true (by omega)
      have d3' : decide (15 < X * m) = true := decide_eq_true (by omega)
      have HV := Lib.hid hV
      clear hV hA hB h h1 h2 h3 e1 e2
      obtain ⟨XM, hXM⟩ : ∃ XM, XM = X * m := ⟨_, rfl⟩
      rw [← hXM] at hp hXm hw hwv d3 d3'
      clear hXM
      go_enter Tryz.func15, Tryz.ntmps15
      go_wp2_with fail
      go_at_call 19
      refine HV.out.mono ?_
      rintro e w1 ⟨rfl, hg1⟩
      have HG1 := Lib.hid hg1
      clear hg1
      go_wp2_with fail
      go_ret2
      exact timR_none ⟨rfl, HG1.out⟩
  · have e1 : timE nm f n t m x = 1 := by unfold timE; rw [if_neg (by simp only [h]; simp)]
    have e2 : timN nm f n t m x = 0 := by unfold timN; rw [e1]; rfl
    rw [e1, e2]
    rcases btf (walkOk nm f n t m) with h1 | h1
    · rw [h1] at hV
      have HV := Lib.hid hV
      rw [h1, Bool.true_and] at h
      have hx : ¬ (0 ≤ x ∧ x ≤ 15) := of_decide_eq_false h
      clear hV hA hB h h1 e1 e2
      by_cases h0 : x < 0
      · have d1 : decide (x < 0) = true := decide_eq_true h0
        clear hx h0
        go_enter Tryz.func15, Tryz.ntmps15
        go_wp2_with fail
        go_at_call 19
        refine HV.out.mono ?_
        rintro e w1 ⟨rfl, hg1⟩
        have HG1 := Lib.hid hg1
        clear hg1
        go_wp2_with fail
        go_ret2
        exact timR_none ⟨rfl, HG1.out⟩
      · have d1 : decide (x < 0) = false := decide_eq_false h0
        have d2 : decide (15 < x) = true := decide_eq_true (by omega)
        clear hx h0
        go_enter Tryz.func15, Tryz.ntmps15
        go_wp2_with fail
        go_at_call 19
        refine HV.out.mono ?_
        rintro e w1 ⟨rfl, hg1⟩
        have HG1 := Lib.hid hg1
        clear hg1
        go_wp2_with fail
        go_ret2
        exact timR_none ⟨rfl, HG1.out⟩
    · rw [h1] at hV
      have HV := Lib.hid hV
      clear hV hA hB h h1 e1 e2
      go_enter Tryz.func15, Tryz.ntmps15
      go_wp2_with fail
      go_at_call 19
      refine HV.out.mono ?_
      rintro e w1 ⟨rfl, hg1⟩
      have HG1 := Lib.hid hg1
      clear hg1
      go_wp2_with fail
      go_ret2
      exact timR_none ⟨rfl, HG1.out⟩
set_option maxRecDepth 100000 in
set_option maxHeartbeats 16000000 in
theorem rrepeats_any (A B : Option Addr) (n c m d : Nat) (nm : Nat → ByteArray) (f t : Nat → Nat → Int) (w : World) (x : Int) (hA : NamedAt w A n nm f) (hB : RowsAt w 4 B m t) :
    Calls Tryz.prog 13 #[.slice A n c, .slice B m d, .int .i64 x] w fun e w' => e = .returned (.tuple #[.int .i64 (repV nm f n t m x), .int .i64 (repE nm f n t m x)]) ∧ Gr w w' := by
  have hV := rvalid25_any A B n c m d nm f t w hA hB
  rcases btf (walkOk nm f n t m && decide (0 ≤ x ∧ x ≤ 2400000)) with hall | hall
  · simp only [Bool.and_eq_true, decide_eq_true_eq] at hall
    obtain ⟨hok, hx0, hx1⟩ := hall
    have hW := fun W (g : Gr w W) => rwalk_any A B n c m d nm f t W (hA.keep g) (hB.keep g)
    rw [hok] at hV
    have hm15 : m ≤ 15 := by
      simp only [walkOk, Bool.and_eq_true, decide_eq_true_eq] at hok
      exact hok.2.1
    have d1 : decide (x < 0) = false := decide_eq_false (by omega)
    have d2 : decide (2400000 < x) = false := decide_eq_false (by omega)
    rcases btf (rangeB f t m) with hr | hr
    · have e1 : walkE nm f n t m = 0 := by unfold walkE; rw [if_pos hok, if_pos hr]
      have e2 : walkN nm f n t m = m + 1 := by unfold walkN; rw [if_pos e1]
      have hE : repE nm f n t m x = if 0 < sumLo (repD f t m) 6 then 0 else 4 := by unfold repE; rw [if_pos (by simp [hok, hx0, hx1]), if_pos hr]
      have hRV : repV nm f n t m x = if repE nm f n t m x = 0 then (x * 10000).tdiv (sumLo (repD f t m) 6) + 1 else 0 := rfl
      rw [hE] at hRV
      rw [hE, hRV]
      unfold repD
      rw [e1, e2] at hW
      have hin := rangeB_at hr (Nat.le_refl m)
      obtain ⟨h1, h2⟩ := mul12_in hin
      have hin2 := allIn_mono h1 (show (576 : Int) ≤ 1152 by omega)
      obtain ⟨⟨b1, b2⟩, b3, b4⟩ := sum_bd hin2 6 (Nat.le_refl _)
      obtain ⟨k1, k2, k3⟩ := dist_size (rowV (shP f t) m)
      have hpe : pureV (rowV (shP f t) m) = ⟨shP f t m 0 * 12, shP f t m 1 * 12, shP f t m 2 * 12, shP f t m 3 * 12, shP f t m 4 * 12, shP f t m 5 * 12⟩ := rfl
      rw [hpe] at k1 k2 k3
      have HPU := Lib.hid (fun W => rpure_ok (shP f t m 0) (shP f t m 1) (shP f t m 2) (shP f t m 3) (shP f t m 4) (shP f t m 5) W hin)
      have HEX := Lib.hid (fun W => rexponents_any (shP f t m 0 * 12) (shP f t m 1 * 12) (shP f t m 2 * 12) (shP f t m 3 * 12) (shP f t m 4 * 12) (shP f t m 5 * 12) W hin2)
      have HV := Lib.hid hV; have HW := Lib.hid hW
      clear hV hW hA hB hok hr e1 e2 hE hRV hin h1 h2 hin2 hpe
      generalize sumLo (distV (rowV (shP f t) m)) 6 = SD at *
      generalize sumLo ⟨shP f t m 0 * 12, shP f t m 1 * 12, shP f t m 2 * 12, shP f t m 3 * 12, shP f t m 4 * 12, shP f t m 5 * 12⟩ 6 = LO at *
      generalize sumHi ⟨shP f t m 0 * 12, shP f t m 1 * 12, shP f t m 2 * 12, shP f t m 3 * 12, shP f t m 4 * 12, shP f t m 5 * 12⟩ 6 = HI at *
      generalize shP f t = g at *
      obtain ⟨N2, hN2⟩ : ∃ N2 : Nat, N2 = m + 1 := ⟨_, rfl⟩
      rw [← hN2] at HW
      have hm2 : m < N2 := by omega
      have hm1 : (m : Int) < (N2 : Int) := by omega
      have hm0 : (0 : Int) ≤ (m : Int) := by omega
      have hwN : IntKind.i64.wrap ((N2 : Int) - 1) = (m : Int) := (IntWalk.i64_in _ ⟨by omega, by omega⟩).trans (by omega)
      clear hN2
      have hw1 : IntKind.i64.wrap (10000 * x) = x * 10000 := (IntWalk.i64_in _ ⟨by omega, by omega⟩).trans (by omega)
      have hv1 : wrap64 (10000 * x) = x * 10000 := (IntWalk.i64_left _).symm.trans hw1
      by_cases hp : 0 < LO
      · have dp : decide (0 < LO) = true := decide_eq_true hp
        obtain rfl : SD = LO := k1 hp
        have hlz : (SD == 0) = false := by simp; omega
        have hzz' : ¬ SD = 0 := by omega
        have qa := Int.tdiv_nonneg (a := x * 10000) (b := SD) (by omega) (by omega)
        have qb := Int.tdiv_le_self (a := x * 10000) SD (by omega)
        have hw2 : IntKind.i64.wrap ((x * 10000).tdiv SD) = (x * 10000).tdiv SD := IntWalk.i64_in _ ⟨by omega, by omega⟩
        have hw3 : IntKind.i64.wrap ((x * 10000).tdiv SD + 1) = (x * 10000).tdiv SD + 1 := IntWalk.i64_in _ ⟨by omega, by omega⟩
        rw [if_pos hp, if_pos rfl]
        clear k1 k2 k3 hp qa qb
        generalize hQQ : (x * 10000).tdiv SD = QQ at *
        go_enter Tryz.func13, Tryz.ntmps13
        go_wp2_with fail
        go_at_call 19
        refine HV.out.mono ?_
        rintro e w1 ⟨rfl, hg1⟩
        have HG1 := Lib.hid hg1
        clear hg1
        go_wp2_with fail
        go_at_call 21
        refine (HW.out _ HG1.out).mono ?_
        rintro e w2 ⟨A1, c1, rfl, hr2, hg2⟩
        have HG2 := Lib.hid (HG1.out.trans hg2)
        obtain ⟨b, off, rfl, hbl, hcc⟩ := hr2 (by omega)
        have q0 := hcc m hm2 0 (by omega); have q1 := hcc m hm2 1 (by omega); have q2 := hcc m hm2 2 (by omega); have q3 := hcc m hm2 3 (by omega); have q4 := hcc m hm2 4 (by omega); have q5 := hcc m hm2 5 (by omega)
        simp only [Nat.add_zero] at q0
        clear hcc hr2 hg2
        go_wp2_with fail
        go_at_call 27
        refine (HPU.out _).mono ?_
        rintro e w3 ⟨rfl, hg3⟩
        have HG3 := Lib.hid (HG2.out.trans hg3)
        clear hg3 q0 q1 q2 q3 q4 q5 hbl
        go_wp2_with fail
        go_at_call 26
        refine (HEX.out _).mono ?_
        rintro e w4 ⟨rfl, hg4⟩
        have HG4 := Lib.hid (HG3.out.trans hg4)
        clear hg4
        go_upto_region 7 with fail
        have HZ := Lib.hid (show ∀ W, W = w4.alloc (.cells #[.int .i64 SD, .int .i64 HI] 59) → W.cell? ⟨w4.heap.size, 0, none⟩ = some (.int .i64 SD) ∧ W.cell? ⟨w4.heap.size, 1, none⟩ = some (.int .i64 HI) ∧ Gr w4 W ∧ w4.heap.size < W.heap.size by
          rintro W rfl
          exact ⟨by simp [go_sem], by simp [go_sem], (Gr.refl _).alloc _, by simp⟩)
        generalize hW5 : w4.alloc (.cells #[.int .i64 SD, .int .i64 HI] 59) = w5
        obtain ⟨p0, p1, pg, pz⟩ := HZ.out w5 hW5.symm
        have HG5 := Lib.hid (HG4.out.trans pg)
        clear HZ hW5 pg
        go_wp2_with fail
        go_ret2
        exact ⟨rfl, HG5.out⟩
      · have dp : decide (0 < LO) = false := decide_eq_false hp
        by_cases hq : HI < 0
        · have dq : decide (HI < 0) = true := decide_eq_true hq
          have hSD := k2 hp hq
          have hpos : 0 < SD := by omega
          have hlz : (SD == 0) = false := by simp; omega
          have hzz' : ¬ SD = 0 := by omega
          have hwn : IntKind.i64.wrap (-HI) = SD := (IntWalk.i64_in _ ⟨by omega, by omega⟩).trans (by omega)
          have hwnv : wrap64 (-HI) = SD := (IntWalk.i64_left _).symm.trans hwn
          have qa := Int.tdiv_nonneg (a := x * 10000) (b := SD) (by omega) (by omega)
          have qb := Int.tdiv_le_self (a := x * 10000) SD (by omega)
          have hw2 : IntKind.i64.wrap ((x * 10000).tdiv SD) = (x * 10000).tdiv SD := IntWalk.i64_in _ ⟨by omega, by omega⟩
          have hw3 : IntKind.i64.wrap ((x * 10000).tdiv SD + 1) = (x * 10000).tdiv SD + 1 := IntWalk.i64_in _ ⟨by omega, by omega⟩
          rw [if_pos hpos, if_pos rfl]
          clear k1 k2 k3 hp qa qb hq hSD hpos
          generalize hQQ : (x * 10000).tdiv SD = QQ at *
          go_enter Tryz.func13, Tryz.ntmps13
          go_wp2_with fail
          go_at_call 19
          refine HV.out.mono ?_
          rintro e w1 ⟨rfl, hg1⟩
          have HG1 := Lib.hid hg1
          clear hg1
          go_wp2_with fail
          go_at_call 21
          refine (HW.out _ HG1.out).mono ?_
          rintro e w2 ⟨A1, c1, rfl, hr2, hg2⟩
          have HG2 := Lib.hid (HG1.out.trans hg2)
          obtain ⟨b, off, rfl, hbl, hcc⟩ := hr2 (by omega)
          have q0 := hcc m hm2 0 (by omega); have q1 := hcc m hm2 1 (by omega); have q2 := hcc m hm2 2 (by omega); have q3 := hcc m hm2 3 (by omega); have q4 := hcc m hm2 4 (by omega); have q5 := hcc m hm2 5 (by omega)
          simp only [Nat.add_zero] at q0
          clear hcc hr2 hg2
          go_wp2_with fail
          go_at_call 27
          refine (HPU.out _).mono ?_
          rintro e w3 ⟨rfl, hg3⟩
          have HG3 := Lib.hid (HG2.out.trans hg3)
          clear hg3 q0 q1 q2 q3 q4 q5 hbl
          go_wp2_with fail
          go_at_call 26
          refine (HEX.out _).mono ?_
          rintro e w4 ⟨rfl, hg4⟩
          have HG4 := Lib.hid (HG3.out.trans hg4)
          clear hg4
          go_upto_region 7 with fail
          have HZ := Lib.hid (show ∀ W, W = w4.alloc (.cells #[.int .i64 LO, .int .i64 HI] 59) → W.cell? ⟨w4.heap.size, 0, none⟩ = some (.int .i64 LO) ∧ W.cell? ⟨w4.heap.size, 1, none⟩ = some (.int .i64 HI) ∧ Gr w4 W ∧ w4.heap.size < W.heap.size by
            rintro W rfl
            exact ⟨by simp [go_sem], by simp [go_sem], (Gr.refl _).alloc _, by simp⟩)
          generalize hW5 : w4.alloc (.cells #[.int .i64 LO, .int .i64 HI] 59) = w5
          obtain ⟨p0, p1, pg, pz⟩ := HZ.out w5 hW5.symm
          have HG5 := Lib.hid (HG4.out.trans pg)
          clear HZ hW5 pg
          go_wp2_with fail
          go_ret2
          exact ⟨rfl, HG5.out⟩
        · have dq : decide (HI < 0) = false := decide_eq_false hq
          have hSD := k3 hp hq
          rw [if_neg hSD, if_neg (by decide)]
          clear k1 k2 k3 hp hq hSD
          go_enter Tryz.func13, Tryz.ntmps13
          go_wp2_with fail
          go_at_call 19
          refine HV.out.mono ?_
          rintro e w1 ⟨rfl, hg1⟩
          have HG1 := Lib.hid hg1
          clear hg1
          go_wp2_with fail
          go_at_call 21
          refine (HW.out _ HG1.out).mono ?_
          rintro e w2 ⟨A1, c1, rfl, hr2, hg2⟩
          have HG2 := Lib.hid (HG1.out.trans hg2)
          obtain ⟨b, off, rfl, hbl, hcc⟩ := hr2 (by omega)
          have q0 := hcc m hm2 0 (by omega); have q1 := hcc m hm2 1 (by omega); have q2 := hcc m hm2 2 (by omega); have q3 := hcc m hm2 3 (by omega); have q4 := hcc m hm2 4 (by omega); have q5 := hcc m hm2 5 (by omega)
          simp only [Nat.add_zero] at q0
          clear hcc hr2 hg2
          go_wp2_with fail
          go_at_call 27
          refine (HPU.out _).mono ?_
          rintro e w3 ⟨rfl, hg3⟩
          have HG3 := Lib.hid (HG2.out.trans hg3)
          clear hg3 q0 q1 q2 q3 q4 q5 hbl
          go_wp2_with fail
          go_at_call 26
          refine (HEX.out _).mono ?_
          rintro e w4 ⟨rfl, hg4⟩
          have HG4 := Lib.hid (HG3.out.trans hg4)
          clear hg4
          go_upto_region 7 with fail
          have HZ := Lib.hid (show ∀ W, W = w4.alloc (.cells #[.int .i64 LO, .int .i64 HI] 59) → W.cell? ⟨w4.heap.size, 0, none⟩ = some (.int .i64 LO) ∧ W.cell? ⟨w4.heap.size, 1, none⟩ = some (.int .i64 HI) ∧ Gr w4 W ∧ w4.heap.size < W.heap.size by
            rintro W rfl
            exact ⟨by simp [go_sem], by simp [go_sem], (Gr.refl _).alloc _, by simp⟩)
          generalize hW5 : w4.alloc (.cells #[.int .i64 LO, .int .i64 HI] 59) = w5
          obtain ⟨p0, p1, pg, pz⟩ := HZ.out w5 hW5.symm
          have HG5 := Lib.hid (HG4.out.trans pg)
          clear HZ hW5 pg
          go_wp2_with fail
          go_ret2
          exact ⟨rfl, HG5.out⟩
    · have e1 : walkE nm f n t m = 3 := by unfold walkE; rw [if_pos hok, if_neg (by rw [hr]; simp)]
      have e2 : walkN nm f n t m = 0 := by unfold walkN; rw [e1]; rfl
      have hE : repE nm f n t m x = 3 := by unfold repE; rw [if_pos (by simp [hok, hx0, hx1]), if_neg (by rw [hr]; simp)]
      have hRV : repV nm f n t m x = 0 := by unfold repV; rw [hE]; rfl
      rw [hE, hRV]
      rw [e1, e2] at hW
      have HV := Lib.hid hV; have HW := Lib.hid hW
      clear hV hW hA hB hok hr e1 e2 hE hRV
      go_enter Tryz.func13, Tryz.ntmps13
      go_wp2_with fail
      go_at_call 19
      refine HV.out.mono ?_
      rintro e w1 ⟨rfl, hg1⟩
      have HG1 := Lib.hid hg1
      clear hg1
      go_wp2_with fail
      go_at_call 21
      refine (HW.out _ HG1.out).mono ?_
      rintro e w2 ⟨A1, c1, rfl, -, hg2⟩
      have HG2 := Lib.hid (HG1.out.trans hg2)
      clear hg2
      go_wp2_with fail
      go_ret2
      exact ⟨rfl, HG2.out⟩
  · have hE : repE nm f n t m x = 1 := by unfold repE; rw [if_neg (by rw [hall]; simp)]
    have hRV : repV nm f n t m x = 0 := by unfold repV; rw [hE]; rfl
    rw [hE, hRV]
    rcases btf (walkOk nm f n t m) with h1 | h1
    · rw [h1] at hV
      have HV := Lib.hid hV
      rw [h1, Bool.true_and] at hall
      have hx : ¬ (0 ≤ x ∧ x ≤ 2400000) := of_decide_eq_false hall
      clear hV hA hB hall h1 hE hRV
      by_cases h0 : x < 0
      · have d1 : decide (x < 0) = true := decide_eq_true h0
        clear hx h0
        go_enter Tryz.func13, Tryz.ntmps13
        go_wp2_with fail
        go_at_call 19
        refine HV.out.mono ?_
        rintro e w1 ⟨rfl, hg1⟩
        have HG1 := Lib.hid hg1
        clear hg1
        go_wp2_with fail
        go_ret2
        exact ⟨rfl, HG1.out⟩
      · have d1 : decide (x < 0) = false := decide_eq_false h0
        have d2 : decide (2400000 < x) = true := decide_eq_true (by omega)
        clear hx h0
        go_enter Tryz.func13, Tryz.ntmps13
        go_wp2_with fail
        go_at_call 19
        refine HV.out.mono ?_
        rintro e w1 ⟨rfl, hg1⟩
        have HG1 := Lib.hid hg1
        clear hg1
        go_wp2_with fail
        go_ret2
        exact ⟨rfl, HG1.out⟩
    · rw [h1] at hV
      have HV := Lib.hid hV
      clear hV hA hB hall h1 hE hRV
      go_enter Tryz.func13, Tryz.ntmps13
      go_wp2_with fail
      go_at_call 19
      refine HV.out.mono ?_
      rintro e w1 ⟨rfl, hg1⟩
      have HG1 := Lib.hid hg1
      clear hg1
      go_wp2_with fail
      go_ret2
      exact ⟨rfl, HG1.out⟩
end Go.Proofs.YtelhmdhhabgihaaGreatDoor
