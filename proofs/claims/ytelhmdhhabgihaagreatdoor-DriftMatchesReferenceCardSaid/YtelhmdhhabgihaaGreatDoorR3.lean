/-
  schismaref03: Valid, Interval, Prime.
  schismaref03: Prime and the product of the powers of one sign.
  schismaref03.Cmp: the same sign as pitch.Cmp's.
  schismaref03.Mul and Div.
-/
import Derived.Test.YtelhmdhhabgihaaGreatDoorR3V
import Derived.Test.YtelhmdhhabgihaaGreatDoorRNat
import Derived.Test.YtelhmdhhabgihaaGreatDoorFrac
import Derived.Test.YtelhmdhhabgihaaGreatDoorHeld
import Derived.Test.YtelhmdhhabgihaaGreatDoorPCmp
namespace Go.Proofs.YtelhmdhhabgihaaGreatDoor
open Go.RowKit

theorem rprime_lit (i q : Int) (w : World) (h : (i = 0 ∧ q = 2) ∨ (i = 1 ∧ q = 3) ∨ (i = 2 ∧ q = 5) ∨ (i = 3 ∧ q = 7) ∨ (i = 4 ∧ q = 11) ∨ (i = 5 ∧ q = 13)) : Calls Tryz.prog 64 #[.int .i64 i] w fun e w' => e = .returned (.int .i64 q) ∧ Gr w w' := by
  rcases h with ⟨rfl, rfl⟩ | ⟨rfl, rfl⟩ | ⟨rfl, rfl⟩ | ⟨rfl, rfl⟩ | ⟨rfl, rfl⟩ | ⟨rfl, rfl⟩
  all_goals
    go_enter Tryz.func64, Tryz.ntmps64
    go_wp2
    go_ret
    exact ⟨rfl, (by repeat (first | with_reducible exact Gr.refl _ | with_reducible refine Gr.alloc ?_ _ | with_reducible refine Gr.drew ?_ | with_reducible refine Gr.trans ?_ (by assumption) | with_reducible refine Gr.setCell ?_ (by (try simp); (try omega)) _))⟩
theorem rprime_any (k : Nat) (hk : k < 6) (w : World) : Calls Tryz.prog 64 #[.int .i64 (k : Int)] w fun e w' => e = .returned (.int .i64 (primeI k)) ∧ Gr w w' := by
  refine rprime_lit _ _ w ?_
  obtain rfl | rfl | rfl | rfl | rfl | rfl : k = 0 ∨ k = 1 ∨ k = 2 ∨ k = 3 ∨ k = 4 ∨ k = 5 := by omega
  all_goals simp [primeI]

/-- Exponents times a sign. -/
def sgnV (v : V6) (s : Int) : V6 := ⟨v.x0 * s, v.x1 * s, v.x2 * s, v.x3 * s, v.x4 * s, v.x5 * s⟩
theorem sgnV_get (v : V6) (s : Int) (k : Nat) (hk : k < 6) : (sgnV v s).get k = v.get k * s := by
  obtain rfl | rfl | rfl | rfl | rfl | rfl : k = 0 ∨ k = 1 ∨ k = 2 ∨ k = 3 ∨ k = 4 ∨ k = 5 := by omega
  all_goals rfl
theorem sgnV_one (v : V6) : sgnV v 1 = v := by simp [sgnV]
theorem sgnV_neg (v : V6) : sgnV v (-1) = v.neg := by simp [sgnV, V6.neg]
theorem sgnV_in {v : V6} {s B : Int} (hs : s = 1 ∨ s = -1) (h : allIn v B 6 = true) : allIn (sgnV v s) B 6 = true := by
  rcases hs with rfl | rfl
  · rw [sgnV_one]; exact h
  · rw [sgnV_neg]
    simp only [allIn, V6.get, V6.neg, Bool.and_eq_true, decide_eq_true_eq] at h ⊢
    repeat' apply And.intro
    all_goals first | rfl | omega | trivial
theorem numK_pos (v : V6) (k : Nat) : 1 ≤ numK v k := by
  induction k with
  | zero => exact Int.le_refl _
  | succ k ih =>
    show 1 ≤ numK v k * primeI k ^ (v.get k).toNat
    have h1 : 0 < primeI k ^ (v.get k).toNat := Int.pow_pos (by have := prime_bd k; omega)
    have := Int.mul_le_mul ih (show 1 ≤ primeI k ^ (v.get k).toNat by omega) (by omega) (by omega)
    omega
theorem numK_mono (v : V6) {k n : Nat} (h : k ≤ n) : numK v k ≤ numK v n := by
  induction n with
  | zero => obtain rfl : k = 0 := by omega
            exact Int.le_refl _
  | succ n ih =>
    rcases Nat.lt_or_ge n k with h' | h'
    · obtain rfl : k = n + 1 := by omega
      exact Int.le_refl _
    · have h1 : 0 < primeI n ^ (v.get n).toNat := Int.pow_pos (by have := prime_bd n; omega)
      have h2 := Int.mul_le_mul_of_nonneg_left (show 1 ≤ primeI n ^ (v.get n).toNat by omega) (show 0 ≤ numK v n by have := numK_pos v n; omega)
      have := ih h'
      show _ ≤ numK v n * primeI n ^ (v.get n).toNat
      omega
theorem numK_lim {v : V6} (hv : allIn v 1152 6 = true) {k : Nat} (hk : k ≤ 6) : numK v k < BB ^ 640 := by
  have h1 := numK_mono v hk
  rw [numK_six] at h1
  have := (num_lim hv).1
  omega
theorem numK_skip {v : V6} {k : Nat} (h : v.get k ≤ 0) : numK v (k + 1) = numK v k := by
  show numK v k * primeI k ^ (v.get k).toNat = _
  rw [show (v.get k).toNat = 0 by omega]; simp

set_option maxRecDepth 100000 in
set_option maxHeartbeats 4000000 in
theorem r3product_any (a0 a1 a2 a3 a4 a5 s : Int) (w : World) (hs : s = 1 ∨ s = -1) (hv : allIn ⟨a0, a1, a2, a3, a4, a5⟩ 1152 6 = true) :
    Calls Tryz.prog 39 #[.agg #[.int .i64 a0, .int .i64 a1, .int .i64 a2, .int .i64 a3, .int .i64 a4, .int .i64 a5], .int .i64 s] w (NatRes ((sgnV ⟨a0, a1, a2, a3, a4, a5⟩ s).num) w) := by
  have HV := Lib.hid (sgnV_in hs hv)
  have HGET := Lib.hid (sgnV_get ⟨a0, a1, a2, a3, a4, a5⟩ s)
  have GA := allIn_at hv
  have HSS := Lib.hid hs
  generalize hSV : sgnV ⟨a0, a1, a2, a3, a4, a5⟩ s = V at HV HGET ⊢
  clear hv hSV hs
  go_enter Tryz.func39, Tryz.ntmps39
  go_wp2_with fail
  refine (rmake_any 1 _ (by omega) (by omega)).mono ?_
  rintro e w1 ⟨v, rfl, ⟨b1, n1, c1, u1, rfl, hl⟩, hg⟩
  have hx0 : ∀ j, j < 6 → w1.cell? ⟨w.heap.size, j, none⟩ = some (.int .i64 (V6.get ⟨a0, a1, a2, a3, a4, a5⟩ j)) := by
    intro j hj
    rw [Below.cell (p := ⟨w.heap.size, j, none⟩) hg (by simp)]
    obtain rfl | rfl | rfl | rfl | rfl | rfl : j = 0 ∨ j = 1 ∨ j = 2 ∨ j = 3 ∨ j = 4 ∨ j = 5 := by omega
    all_goals simp [go_sem, V6.get]
  have HB := Lib.hid (show w.heap.size < w1.heap.size by have := hg.le; simp at this; omega)
  have HG := Lib.hid (((Gr.refl w).alloc _).trans hg)
  have HX := Lib.hid hx0; have HL := Lib.hid hl
  clear hx0 hl hg
  go_wp2_with fail
  generalize hS : w.heap.size = S at HB HX ⊢
  clear hS
  go_loopw [5, 6] (fun cv iv wr => ∃ k : Nat, k ≤ 6 ∧ iv = .int .i64 k ∧ ∃ b n c u, cv = .slice (some ⟨b, 0, none⟩) n c ∧ Lay wr b n c u (numK V k) ∧ Gr w1 wr) (fun _ iv _ => 6 - (intOf iv).toNat)
  case atStart => exact ⟨0, by omega, rfl, _, _, _, _, rfl, HL.out, Gr.refl _⟩
  case round =>
    obtain ⟨k, hk, rfl, b, n, c, u, rfl, hl, hg⟩ := hrel
    have HL1 := Lib.hid hl; have HG1 := Lib.hid hg
    clear hl hg HL
    obtain ⟨wo, rfl⟩ : ∃ wo : World, wo = wr := ⟨_, rfl⟩
    by_cases hlt : k < 6
    · have hx := (Below.cell (p := ⟨S, k, none⟩) HG1.out HB.out).trans (HX.out k hlt)
      have bx := GA k hlt
      have hgk := HGET.out k hlt
      have hpb := prime_bd k
      have HP := Lib.hid (rprime_any k hlt)
      have HLIM := Lib.hid (numK_lim HV.out (k := k + 1) (by omega))
      have HSB : -1152 ≤ V.get k ∧ V.get k ≤ 1152 := allIn_at HV.out k hlt
      have HS0 : Hid (s ≤ 1 ∧ -1 ≤ s) := Lib.hid (by rcases HSS.out with rfl | rfl <;> omega)
      have hsz := HG1.out.le
      generalize hA : V6.get ⟨a0, a1, a2, a3, a4, a5⟩ k = x at hx bx hgk
      clear hA GA
      by_cases hpos : 0 < V.get k
      · obtain ⟨m, hm⟩ : ∃ m : Nat, V.get k = (m : Int) := ⟨(V.get k).toNat, by omega⟩
        rw [hm] at hgk HSB hpos
        have hmul : x * s = (m : Int) := hgk.symm
        have hmul2 : IntKind.i64.wrap (m : Int) = (m : Int) := IntWalk.i64_in _ (by omega)
        have hdp : decide (0 < m) = true := by simp; omega
        have HNEXT : Hid (numK V k * primeI k ^ m = numK V (k + 1)) := Lib.hid (by show _ = numK V k * primeI k ^ (V.get k).toNat; rw [hm]; rfl)
        have HPL := Lib.hid (frac_lim hpb.2 hpb.1 (show m ≤ 1152 by omega))
        have hk0 : (0 : Int) ≤ (k : Int) := by omega
        have hk6 : (k : Int) < 6 := by omega
        clear hm hgk
        generalize primeI k = q at *
        have hSl : S < wo.heap.size := by have := HB.out; omega
        have hq0 : 0 ≤ q := by omega
        have hqw : IntKind.u64.wrap q = q := IntWalk.u64_in _ (by omega)
        go_wp2_with fail
        go_region_held3 (fun wx => (∀ b o, (⟨min (b + 1) wo.heap.size, 0, none⟩ : Addr) = ⟨b + 1, 0, none⟩ → wx.cell? ⟨b, o, none⟩ = wo.cell? ⟨b, o, none⟩) ∧ Gr wo wx) (first | with_reducible exact held_drew _ | with_reducible exact held_call (by assumption) (by assumption) | with_reducible exact held_alloc (by assumption) _ | with_reducible exact held_alloc0 _ _ | with_reducible exact held_anew (by assumption) _ (by omega) | ((repeat (with_reducible refine held_set ?_ (by (try simp); (try omega)) _)); (first | with_reducible assumption | with_reducible exact held_call (by assumption) (by assumption)))) (first
          | (go_at_call 64; (with_reducible refine (HP.out _).mono ?_); rintro e w' ⟨rfl, hb⟩)
          | (go_at_call 62; (with_reducible refine (rmake_any q _ (by omega) (by omega)).mono ?_); rintro e w' ⟨v, rfl, ⟨b2, n2, c2, u2, rfl, hl2⟩, hb⟩)
          | (go_at_call 63; (with_reducible refine (rpow_lay _ _ _ _ q m _ (by assumption) (by omega) (by omega) (by omega) HPL.out).mono ?_); rintro e w' ⟨b3, n3, c3, u3, rfl, hl3, hb⟩))
        all_goals
          have HG2 := Lib.hid (show Gr wo w' from held_gr (by assumption))
          have HL3 := Lib.hid hl3
          clear hl3 hb hl2
          go_wp2_with fail
          refine (rnmul_lay _ _ _ _ _ _ _ _ _ _ _ (HL1.out.keep HG2.out) HL3.out (by rw [HNEXT.out]; exact HLIM.out)).mono ?_
          rintro e w3 ⟨b4, n4, c4, u4, rfl, hl4, hg4⟩
          have HL4 := Lib.hid (hl4.conv HNEXT.out)
          have HG4 := Lib.hid ((HG1.out.trans HG2.out).trans hg4)
          clear hl4 hg4
          go_wp2_with fail
          go_roundw
          case rel => exact ⟨k + 1, by omega, by go_num, b4, n4, c4, u4, rfl, HL4.out, HG4.out⟩
          case measure => simp [intOf]; omega
      · have HNEXT := Lib.hid (numK_skip (v := V) (k := k) (by omega))
        generalize hy : V.get k = y at hgk HSB hpos
        have hmul : x * s = y := hgk.symm
        have hdp : decide (0 < y) = false := by simpa using hpos
        clear hgk hy
        go_wp2_with fail
        go_roundw
        case rel => exact ⟨k + 1, by omega, by go_num, b, n, c, u, rfl, HL1.out.conv HNEXT.out.symm, HG1.out⟩
        case measure => simp [intOf]; omega
    · obtain rfl : k = 6 := by omega
      have HN : Hid (numK V 6 = V.num) := Lib.hid (numK_six V)
      go_wp2_with fail
      go_ret
      rw [HN.out] at HL1
      exact ⟨_, rfl, ⟨b, n, c, u, rfl, HL1.out⟩, HG.out.trans HG1.out⟩
end Go.Proofs.YtelhmdhhabgihaaGreatDoor

namespace Go.Proofs.YtelhmdhhabgihaaGreatDoor
open Go.RowKit

theorem sgn_num (v : V6) : (sgnV v 1).num = v.num ∧ (sgnV v (-1)).num = v.den := by
  rw [sgnV_one, sgnV_neg]; exact ⟨rfl, V6.num_neg v⟩

set_option maxRecDepth 100000 in
set_option maxHeartbeats 1000000 in
theorem r3cmp_bad (a0 a1 a2 a3 a4 a5 b0 b1 b2 b3 b4 b5 : Int) (w : World) (hv : allIn ⟨a0, a1, a2, a3, a4, a5⟩ 576 6 = false ∨ (allIn ⟨a0, a1, a2, a3, a4, a5⟩ 576 6 = true ∧ allIn ⟨b0, b1, b2, b3, b4, b5⟩ 576 6 = false)) :
    Calls Tryz.prog 23 #[.agg #[.int .i64 a0, .int .i64 a1, .int .i64 a2, .int .i64 a3, .int .i64 a4, .int .i64 a5], .agg #[.int .i64 b0, .int .i64 b1, .int .i64 b2, .int .i64 b3, .int .i64 b4, .int .i64 b5]] w fun e w' => e = .returned (.tuple #[.int .i64 0, .int .i64 1]) ∧ Gr w w' := by
  rcases hv with hva | ⟨hva, hvb⟩
  all_goals
    go_enter Tryz.func23, Tryz.ntmps23
    go_wp2_with (go_at_call 37; with_reducible refine (r3valid_any _ _ _ _ _ _ _).mono ?_; rintro e w' ⟨rfl, hb⟩; have hz := hb.le; obtain ⟨hc, hf⟩ := hb.cells; (try simp only [World.size_alloc] at hc hf hz); (try simp only [World.size_setCell] at hc hf hz); (try simp only [World.size_drew] at hc hf hz))
    go_ret2
    exact ⟨rfl, (by repeat (first | exact Gr.refl _ | refine Gr.alloc ?_ _ | refine Gr.drew ?_ | refine Gr.trans ?_ (by assumption) | refine Gr.setCell ?_ (by (try simp); (try omega)) _))⟩

set_option maxRecDepth 100000 in
set_option maxHeartbeats 4000000 in
theorem r3cmp_ok (a0 a1 a2 a3 a4 a5 b0 b1 b2 b3 b4 b5 : Int) (w : World) (hva : allIn ⟨a0, a1, a2, a3, a4, a5⟩ 576 6 = true) (hvb : allIn ⟨b0, b1, b2, b3, b4, b5⟩ 576 6 = true) :
    Calls Tryz.prog 23 #[.agg #[.int .i64 a0, .int .i64 a1, .int .i64 a2, .int .i64 a3, .int .i64 a4, .int .i64 a5], .agg #[.int .i64 b0, .int .i64 b1, .int .i64 b2, .int .i64 b3, .int .i64 b4, .int .i64 b5]] w fun e w' => e = .returned (.tuple #[.int .i64 (cmpP (V6.sub ⟨a0, a1, a2, a3, a4, a5⟩ ⟨b0, b1, b2, b3, b4, b5⟩)), .int .i64 0]) ∧ Gr w w' := by
  have HD := Lib.hid (psub_in hva hvb)
  rw [sub_V6]
  go_enter Tryz.func23, Tryz.ntmps23
  go_wp2_with (go_at_call 37; with_reducible refine (r3valid_any _ _ _ _ _ _ _).mono ?_; rintro e w' ⟨rfl, hb⟩; have hz := hb.le; obtain ⟨hc, hf⟩ := hb.cells; (try simp only [World.size_alloc] at hc hf hz); (try simp only [World.size_setCell] at hc hf hz); (try simp only [World.size_drew] at hc hf hz))
  have HA := Lib.hid hva; have HB := Lib.hid hvb; clear hva hvb
  have hg : Gr w (w'.alloc (.cells #[.int .i64 0, .int .i64 0, .int .i64 0, .int .i64 0, .int .i64 0, .int .i64 0] 52)) := (by repeat (first | with_reducible exact Gr.refl _ | with_reducible refine Gr.alloc ?_ _ | with_reducible refine Gr.drew ?_ | with_reducible refine Gr.trans ?_ (by assumption) | with_reducible refine Gr.setCell ?_ (by (try simp); (try omega)) _))
  have hx0 : ∀ j, j < 6 → (w'.alloc (.cells #[.int .i64 0, .int .i64 0, .int .i64 0, .int .i64 0, .int .i64 0, .int .i64 0] 52)).cell? ⟨w.heap.size, j, none⟩ = some (.int .i64 (V6.get ⟨a0, a1, a2, a3, a4, a5⟩ j)) := by
    intro j hj
    obtain rfl | rfl | rfl | rfl | rfl | rfl : j = 0 ∨ j = 1 ∨ j = 2 ∨ j = 3 ∨ j = 4 ∨ j = 5 := by omega
    all_goals simp [go_sem, V6.get, *]
  have hy0 : ∀ j, j < 6 → (w'.alloc (.cells #[.int .i64 0, .int .i64 0, .int .i64 0, .int .i64 0, .int .i64 0, .int .i64 0] 52)).cell? ⟨w.heap.size + 1, j, none⟩ = some (.int .i64 (V6.get ⟨b0, b1, b2, b3, b4, b5⟩ j)) := by
    intro j hj
    obtain rfl | rfl | rfl | rfl | rfl | rfl : j = 0 ∨ j = 1 ∨ j = 2 ∨ j = 3 ∨ j = 4 ∨ j = 5 := by omega
    all_goals simp [go_sem, V6.get, *]
  have hd0 : ∀ j, j < 6 → (w'.alloc (.cells #[.int .i64 0, .int .i64 0, .int .i64 0, .int .i64 0, .int .i64 0, .int .i64 0] 52)).cell? ⟨w'.heap.size, j, none⟩ = some (.int .i64 0) := by
    intro j hj
    obtain rfl | rfl | rfl | rfl | rfl | rfl : j = 0 ∨ j = 1 ∨ j = 2 ∨ j = 3 ∨ j = 4 ∨ j = 5 := by omega
    all_goals simp [go_sem]
  have hdf : ∀ j, (w'.alloc (.cells #[.int .i64 0, .int .i64 0, .int .i64 0, .int .i64 0, .int .i64 0, .int .i64 0] 52)).frozen? ⟨w'.heap.size, j, none⟩ = false := by
    intro j
    simp [go_sem]
  have hwz : (w'.alloc (.cells #[.int .i64 0, .int .i64 0, .int .i64 0, .int .i64 0, .int .i64 0, .int .i64 0] 52)).heap.size = w'.heap.size + 1 := by simp
  have hz3 : w.heap.size + 2 ≤ w'.heap.size := by omega
  generalize w'.alloc (.cells #[.int .i64 0, .int .i64 0, .int .i64 0, .int .i64 0, .int .i64 0, .int .i64 0] 52) = w1 at hg hx0 hy0 hd0 hdf hwz ⊢
  generalize hS : w'.heap.size = S at hd0 hdf hwz hz3 ⊢
  have GA := allIn_at HA.out
  have GB := allIn_at HB.out
  clear HA HB hc hf hz hS
  have HG := Lib.hid hg
  have HWZ := Lib.hid hwz
  clear hg hwz
  go_loopw [9] (fun i wr => ∃ k : Nat, k ≤ 6 ∧ i = .int .i64 k ∧ ArrRel 6 (newTo (fun j => V6.get ⟨a0, a1, a2, a3, a4, a5⟩ j - V6.get ⟨b0, b1, b2, b3, b4, b5⟩ j) (fun _ => 0) k) S (S + 1) w1 wr) (fun i _ => 6 - (intOf i).toNat)
  case atStart => exact ⟨0, by omega, rfl, ⟨But.refl _ _ _, by rw [HWZ.out]; omega, by omega, fun j hj => hd0 j hj, hdf⟩⟩
  case round =>
    obtain ⟨k, hk, rfl, hR⟩ := hrel
    have hsz := hR.size
    by_cases hlt : k < 6
    · have hx := (hR.but.cell (p := ⟨w.heap.size, k, none⟩) (by (try simp); (try omega)) (by (try simp); (try omega))).trans (hx0 k hlt)
      have hy := (hR.but.cell (p := ⟨w.heap.size + 1, k, none⟩) (by (try simp); (try omega)) (by (try simp); (try omega))).trans (hy0 k hlt)
      have ho := hR.cell k hlt
      have fx := hR.froz k
      have bx := GA k hlt
      have bb := GB k hlt
      rw [newTo, if_neg (by omega)] at ho
      have hst := hR.store hlt (V6.get ⟨a0, a1, a2, a3, a4, a5⟩ k - V6.get ⟨b0, b1, b2, b3, b4, b5⟩ k)
      have HST := Lib.hid hst
      clear hR hst hx0 hy0 hd0 hdf GA GB
      generalize hgx : V6.get ⟨a0, a1, a2, a3, a4, a5⟩ k = x at hx bx HST
      generalize hgy : V6.get ⟨b0, b1, b2, b3, b4, b5⟩ k = y at hy bb HST
      have HX := Lib.hid hgx; have HY := Lib.hid hgy
      clear hgx hgy
      go_wp2
      go_region
      go_wp2
      go_roundw
      case rel =>
        refine ⟨k + 1, by omega, by go_num, (ArrRel.congr (ArrRel.drew HST.out) fun j hj => ?_)⟩
        have := newTo_step (fun j => V6.get ⟨a0, a1, a2, a3, a4, a5⟩ j - V6.get ⟨b0, b1, b2, b3, b4, b5⟩ j) (fun _ => 0) k j
        rw [this, HX.out, HY.out]
      case measure => simp [intOf]; omega
    · obtain rfl : k = 6 := by omega
      have c0 := hR.cell 0 (by omega); have c1 := hR.cell 1 (by omega); have c2 := hR.cell 2 (by omega); have c3 := hR.cell 3 (by omega); have c4 := hR.cell 4 (by omega); have c5 := hR.cell 5 (by omega)
      simp only [newTo, V6.get] at c0 c1 c2 c3 c4 c5
      have hSl : S < wr.heap.size := by omega
      have HGR := Lib.hid (HG.out.but hR.but (by omega) (by omega))
      clear hR hx0 hy0 hd0 hdf GA GB
      obtain ⟨wo, rfl⟩ : ∃ wo : World, wo = wr := ⟨_, rfl⟩
      have HSG := Lib.hid (sgn_num ⟨a0 - b0, a1 - b1, a2 - b2, a3 - b3, a4 - b4, a5 - b5⟩)
      have HP1 : Hid (∀ W, Calls Tryz.prog 39 #[.agg #[.int .i64 (a0 - b0), .int .i64 (a1 - b1), .int .i64 (a2 - b2), .int .i64 (a3 - b3), .int .i64 (a4 - b4), .int .i64 (a5 - b5)], .int .i64 1] W (NatRes ((⟨a0 - b0, a1 - b1, a2 - b2, a3 - b3, a4 - b4, a5 - b5⟩ : V6).num) W)) := Lib.hid fun W => by
        have h := r3product_any (a0 - b0) (a1 - b1) (a2 - b2) (a3 - b3) (a4 - b4) (a5 - b5) 1 W (.inl rfl) HD.out
        rwa [HSG.out.1] at h
      have HP2 : Hid (∀ W, Calls Tryz.prog 39 #[.agg #[.int .i64 (a0 - b0), .int .i64 (a1 - b1), .int .i64 (a2 - b2), .int .i64 (a3 - b3), .int .i64 (a4 - b4), .int .i64 (a5 - b5)], .int .i64 (-1)] W (NatRes ((⟨a0 - b0, a1 - b1, a2 - b2, a3 - b3, a4 - b4, a5 - b5⟩ : V6).den) W)) := Lib.hid fun W => by
        have h := r3product_any (a0 - b0) (a1 - b1) (a2 - b2) (a3 - b3) (a4 - b4) (a5 - b5) (-1) W (.inr rfl) HD.out
        rwa [HSG.out.2] at h
      have HCP : Hid (cmpZ ((⟨a0 - b0, a1 - b1, a2 - b2, a3 - b3, a4 - b4, a5 - b5⟩ : V6).num : Int) ((⟨a0 - b0, a1 - b1, a2 - b2, a3 - b3, a4 - b4, a5 - b5⟩ : V6).den : Int) = cmpP ⟨a0 - b0, a1 - b1, a2 - b2, a3 - b3, a4 - b4, a5 - b5⟩) := Lib.hid rfl
      clear HSG
      generalize (⟨a0 - b0, a1 - b1, a2 - b2, a3 - b3, a4 - b4, a5 - b5⟩ : V6).num = NU at *
      generalize (⟨a0 - b0, a1 - b1, a2 - b2, a3 - b3, a4 - b4, a5 - b5⟩ : V6).den = DE at *
      go_wp2_with fail
      go_region_held3 (fun wx => (∀ b o, (⟨min (b + 1) wo.heap.size, 0, none⟩ : Addr) = ⟨b + 1, 0, none⟩ → wx.cell? ⟨b, o, none⟩ = wo.cell? ⟨b, o, none⟩) ∧ Gr wo wx) (first | with_reducible exact held_drew _ | with_reducible exact held_call (by assumption) (by assumption) | with_reducible exact held_alloc (by assumption) _ | with_reducible exact held_alloc0 _ _ | with_reducible exact held_anew (by assumption) _ (by omega) | ((repeat (with_reducible refine held_set ?_ (by (try simp); (try omega)) _)); (first | with_reducible assumption | with_reducible exact held_call (by assumption) (by assumption)))) (first
        | (go_at_call 39; (with_reducible refine (HP1.out _).mono ?_); rintro e w' ⟨v, rfl, ⟨b2, n2, c2, u2, rfl, hl2⟩, hb⟩)
        | (go_at_call 39; (with_reducible refine (HP2.out _).mono ?_); rintro e w' ⟨v, rfl, ⟨b3, n3, c3, u3, rfl, hl3⟩, hb⟩)
        | (go_at_call 38; (with_reducible refine (rncmp_lay _ _ _ _ NU _ _ _ _ DE _ (by first | assumption | exact Lay.keep (by assumption) (by assumption)) (by first | assumption | exact Lay.keep (by assumption) (by assumption))).mono ?_); rintro e w' ⟨rfl, hb⟩))
      all_goals
        have HG2 := Lib.hid (show Gr wo w' from held_gr (by assumption))
        go_wp2_with fail
        go_ret2
        exact ⟨by rw [HCP.out]; rfl, HGR.out.trans HG2.out⟩
end Go.Proofs.YtelhmdhhabgihaaGreatDoor
