/-
  comma.determinant and comma.bits.
-/
import Derived.Test.YtelhmdhhabgihaaDoorWkX
import Derived.Test.YtelhmdhhabgihaaDoorPlX
import Derived.Test.YtelhmdhhabgihaaDoorNat4
namespace Go.Proofs.YtelhmdhhabgihaaDoor
open Go.RowKit

/-- The columns that a mask leaves out. -/
def mU (M : Nat) (k : Nat) : Bool := M / 2 ^ k % 2 == 0
theorem andNot_of : ∀ M : Nat, M < 64 → ∀ j : Nat, j < 6 → M / 2 ^ j % 2 = 1 → bits .andNot .i64 (M : Int) (2 ^ j) = ((M - 2 ^ j : Nat) : Int) := by decide +kernel
theorem mU_clear {M j : Nat} (hM : M < 64) (hj : j < 6) (h : M / 2 ^ j % 2 = 1) : mU (M - 2 ^ j) = updB (mU M) j true := by
  funext k
  by_cases hk : k < 6
  · have key : ∀ M : Nat, M < 64 → ∀ j : Nat, j < 6 → ∀ k : Nat, k < 6 → M / 2 ^ j % 2 = 1 → mU (M - 2 ^ j) k = updB (mU M) j true k := by decide +kernel
    exact key M hM j hj k hk h
  · have hp : 64 ≤ 2 ^ k := by
      have := Nat.pow_le_pow_right (show 0 < 2 by omega) (show 6 ≤ k by omega)
      omega
    have a : M / 2 ^ k = 0 := Nat.div_eq_of_lt (by omega)
    have b : (M - 2 ^ j) / 2 ^ k = 0 := Nat.div_eq_of_lt (Nat.lt_of_le_of_lt (Nat.sub_le _ _) (by omega))
    have hjk : k ≠ j := fun e => hk (by omega)
    rw [updB_ne _ true hjk]
    unfold mU
    rw [a, b]
theorem js_get (k : Nat) (hk : k < 6) : ([0, 1, 2, 3, 4, 5] : List Nat).getD k 0 = k := by
  obtain rfl | rfl | rfl | rfl | rfl | rfl : k = 0 ∨ k = 1 ∨ k = 2 ∨ k = 3 ∨ k = 4 ∨ k = 5 := by omega
  all_goals rfl
/-- The determinant of rows i to i + d - 1 on the columns of a mask. -/
def detM (f : Nat → Nat → Int) (i d M : Nat) : Int := detW f [0, 1, 2, 3, 4, 5] (List.range' i d) (mU M)
set_option maxRecDepth 100000 in
set_option maxHeartbeats 16000000 in
theorem dexp_any (RB XB : Nat) (Ar : Option Addr) (n cr : Nat) (f : Nat → Nat → Int) (w : World) (lR : RB < w.heap.size) (lX : XB < w.heap.size)
    (cR : w.cell? ⟨RB, 0, none⟩ = some (.slice Ar n cr)) (cX : w.cell? ⟨XB, 0, none⟩ = some (.func (.func 58) #[] #[.pointer (some ⟨RB, 0, none⟩), .pointer (some ⟨XB, 0, none⟩)]))
    (hR : RowsAt w 6 Ar n f) (hf : ∀ i, i < n → ∀ j, j < 6 → -48 ≤ f i j ∧ f i j ≤ 48) (hn : n ≤ 6) :
    ∀ (d i M : Nat) (W : World), i + d = n → M < 64 → Gr w W →
    Calls Tryd.prog 58 #[.int .i64 (i : Int), .int .i64 (M : Int), .pointer (some ⟨RB, 0, none⟩), .pointer (some ⟨XB, 0, none⟩)] W fun e w' => e = .returned (.int .i64 (detM f i d M)) ∧ Gr W w' := by
  have HRS := Lib.hid hR; have HFB := Lib.hid hf; have HCR := Lib.hid cR; have HCX := Lib.hid cX
  clear hR hf cR cX
  intro d
  induction d with
  | zero =>
    intro i M W he hM hg
    have oR := (Below.cell (p := ⟨RB, 0, none⟩) hg lR).trans HCR.out
    have lR2 := Nat.lt_of_lt_of_le lR hg.le
    obtain rfl : i = n := by omega
    have hq : ((i : Int) == (i : Int)) = true := by simp
    clear hg he
    have hD : detM f i 0 M = 1 := rfl
    rw [hD]
    clear hD
    go_enter Tryd.func58, Tryd.ntmps58
    go_wp2_with fail
    go_ret
    exact ⟨rfl, Gr.refl _⟩
  | succ d ih =>
    intro i M W he hM hg
    have HIH := Lib.hid ih; have HG := Lib.hid hg
    have hin : i < n := by omega
    have oR := (Below.cell (p := ⟨RB, 0, none⟩) hg lR).trans HCR.out
    have lR2 := Nat.lt_of_lt_of_le lR hg.le
    have hq : ((i : Int) == (n : Int)) = false := by simp; omega
    have hq2 : (i == n) = false := by simp; omega
    have hB0 : (0 : Int) ≤ 288 ^ d := Int.le_of_lt (Int.pow_pos (by omega))
    have hB1 : (288 ^ d : Int) ≤ 570630428688384 := pow_bd (by omega)
    have hlen : (List.range' (i + 1) d).length = d := List.length_range'
    have hD := detW_bd (f := f) (js := ([0, 1, 2, 3, 4, 5] : List Nat)) (by decide) (List.range' (i + 1) d) (fun i' hi' => HFB.out i' (by
      have := List.mem_range'_1.1 hi'
      omega)) (by decide)
    rw [hlen] at hD
    have hx : ∀ k, k < 6 → -48 ≤ f i k ∧ f i k ≤ 48 := HFB.out i hin
    have hxj : ∀ k, k < 6 → -48 ≤ f i (([0, 1, 2, 3, 4, 5] : List Nat).getD k 0) ∧ f i (([0, 1, 2, 3, 4, 5] : List Nat).getD k 0) ≤ 48 := fun k hk => by rw [js_get k hk]; exact hx k hk
    have hS := fun k hk => dsum_bd (x := fun k => f i (([0, 1, 2, 3, 4, 5] : List Nat).getD k 0)) (n := 6) hB0 hxj hD (mU M) k hk
    have HSG := Lib.hid (fun k => dsum_sign (fun k => f i (([0, 1, 2, 3, 4, 5] : List Nat).getD k 0)) (detW f ([0, 1, 2, 3, 4, 5] : List Nat) (List.range' (i + 1) d)) (mU M) k)
    have HDU := Lib.hid (fun k (h : mU M k = true) => dsum_used (x := fun k => f i (([0, 1, 2, 3, 4, 5] : List Nat).getD k 0)) (D := detW f ([0, 1, 2, 3, 4, 5] : List Nat) (List.range' (i + 1) d)) h)
    have HDF : Hid (∀ k, k < 6 → mU M k = false → M / 2 ^ k % 2 = 1 → dsum (fun k => f i (([0, 1, 2, 3, 4, 5] : List Nat).getD k 0)) (detW f ([0, 1, 2, 3, 4, 5] : List Nat) (List.range' (i + 1) d)) (mU M) (k + 1) = ((dsum (fun k => f i (([0, 1, 2, 3, 4, 5] : List Nat).getD k 0)) (detW f ([0, 1, 2, 3, 4, 5] : List Nat) (List.range' (i + 1) d)) (mU M) k).1 + (dsum (fun k => f i (([0, 1, 2, 3, 4, 5] : List Nat).getD k 0)) (detW f ([0, 1, 2, 3, 4, 5] : List Nat) (List.range' (i + 1) d)) (mU M) k).2 * f i k * detM f (i + 1) d (M - 2 ^ k), -(dsum (fun k => f i (([0, 1, 2, 3, 4, 5] : List Nat).getD k 0)) (detW f ([0, 1, 2, 3, 4, 5] : List Nat) (List.range' (i + 1) d)) (mU M) k).2)) := Lib.hid (fun k hk h hb => by
      rw [dsum_free h, js_get k hk]
      unfold detM
      rw [mU_clear hM hk hb])
    have HDB : Hid (∀ k, -(288 ^ d : Int) ≤ detM f (i + 1) d (M - 2 ^ k) ∧ detM f (i + 1) d (M - 2 ^ k) ≤ 288 ^ d) := Lib.hid (fun k => hD _)
    have hDD : detM f i (d + 1) M = (dsum (fun k => f i (([0, 1, 2, 3, 4, 5] : List Nat).getD k 0)) (detW f ([0, 1, 2, 3, 4, 5] : List Nat) (List.range' (i + 1) d)) (mU M) 6).1 := by
      unfold detM
      rw [List.range'_succ, detW]
      rfl
    rw [hDD]
    have HS := Lib.hid hS; have HX := Lib.hid hx
    clear hD hDD hS hx hxj ih hg hlen
    obtain ⟨DS, hds⟩ : ∃ DS, DS = dsum (fun k => f i (([0, 1, 2, 3, 4, 5] : List Nat).getD k 0)) (detW f ([0, 1, 2, 3, 4, 5] : List Nat) (List.range' (i + 1) d)) (mU M) := ⟨_, rfl⟩
    rw [← hds] at HS HSG HDU HDF ⊢
    have HD0 : Hid (DS 0 = (0, 1)) := Lib.hid (by rw [hds]; rfl)
    clear hds
    generalize (288 ^ d : Int) = BB at *
    obtain ⟨br, offr, rfl, hblr, s0, s1, s2, s3, s4, s5⟩ := (HRS.out.keep HG.out).six hin
    have hi0 : (0 : Int) ≤ (i : Int) := by omega
    have hi1 : (i : Int) < (n : Int) := by omega
    go_enter Tryd.func58, Tryd.ntmps58
    go_wp2_with fail
    clear s0 s1 s2 s3 s4 s5 oR hblr lR2
    go_loopw [7, 8, 19] (fun sv gv iv wr => ∃ k : Nat, k ≤ 6 ∧ sv = .int .i64 (DS k).1 ∧ gv = .int .i64 (DS k).2 ∧ iv = .int .i64 (k : Int) ∧ Gr W wr) (fun _ _ iv _ => 6 - (intOf iv).toNat)
    case atStart => exact ⟨0, Nat.zero_le _, by rw [HD0.out], by rw [HD0.out], rfl, Gr.refl _⟩
    case round =>
      obtain ⟨k, hk, rfl, rfl, rfl, hgr⟩ := hrel
      have HGR := Lib.hid hgr
      obtain ⟨wo, rfl⟩ : ∃ wo : World, wo = wr := ⟨_, rfl⟩
      by_cases hlt : k < 6
      · have hlt' : decide ((k : Int) < 6) = true := decide_eq_true (by omega)
        have hidx := run_index6V (f i 0) (f i 1) (f i 2) (f i 3) (f i 4) (f i 5) k hlt
        rw [get_row f i k hlt] at hidx
        have hxk := HX.out k hlt
        have hs := HS.out k hk
        have hsg := HSG.out k
        have hu1 := HDU.out k; have hu2 := HDF.out k hlt
        have hdb := HDB.out k
        have hk64 : (k : Int) ≤ 63 := by omega
        have hk0 : (0 : Int) ≤ (k : Int) := by omega
        have hp2 : (2 : Int) ^ k ≤ 32 := by
          obtain rfl | rfl | rfl | rfl | rfl | rfl : k = 0 ∨ k = 1 ∨ k = 2 ∨ k = 3 ∨ k = 4 ∨ k = 5 := by omega
          all_goals decide
        have hp1 : (0 : Int) ≤ (2 : Int) ^ k := Int.le_of_lt (Int.pow_pos (by omega))
        have hw6 : IntKind.i64.wrap ((2 : Int) ^ k) = (2 : Int) ^ k := IntWalk.i64_in _ ⟨by omega, by omega⟩
        rcases (by omega : M / 2 ^ k % 2 = 0 ∨ M / 2 ^ k % 2 = 1) with hr | hr
        · have hb := bit_of M k 0 hr
          have HN := Lib.hid (hu1 (by unfold mU; rw [hr]; rfl))
          clear hu1 hu2 hr hdb hs hsg hxk
          go_wp2_with fail
          go_roundw
          case rel => exact ⟨k + 1, by omega, by rw [HN.out], by rw [HN.out], by go_num, HGR.out⟩
          case measure => simp [intOf]; omega
        · have hb := bit_of M k 1 hr
          have hw1 : IntKind.i64.wrap (-(DS k).2) = -(DS k).2 := IntWalk.i64_in _ ⟨by omega, by omega⟩
          have HN := Lib.hid (hu2 (by unfold mU; rw [hr]; rfl) hr)
          have hAN := andNot_of M hM k hlt hr
          have HM2 : Hid (M - 2 ^ k < 64) := Lib.hid (Nat.lt_of_le_of_lt (Nat.sub_le _ _) hM)
          clear hu1 hu2 hr
          by_cases hx0 : f i k = 0
          · rw [hx0] at hidx HN
            have HN2 : Hid (DS (k + 1) = ((DS k).1, -(DS k).2)) := Lib.hid (by rw [HN.out]; simp)
            clear hs hdb hx0
            go_wp2_with fail
            go_roundw
            case rel => exact ⟨k + 1, by omega, by rw [HN2.out], by rw [HN2.out], by go_num, HGR.out⟩
            case measure => simp [intOf]; omega
          · have hxb : (f i k == 0) = false := by simpa using hx0
            have hxb2 : (f i k != 0) = true := by simpa using hx0
            have hC := fun W' (g : Gr w W') => HIH.out (i + 1) (M - 2 ^ k) W' (by omega) HM2.out g
            rw [show ((i + 1 : Nat) : Int) = (i : Int) + 1 by simp] at hC
            have HC := Lib.hid hC
            clear hC
            generalize f i k = x at *
            generalize detM f (i + 1) d (M - 2 ^ k) = e0 at *
            obtain ⟨t0, t1⟩ := term48_bd hsg hxk.1 hxk.2 hdb.1 hdb.2 hB0
            have hsx : -48 ≤ (DS k).2 * x ∧ (DS k).2 * x ≤ 48 := by
              rcases hsg with e | e <;> rw [e] <;> omega
            have hkb : (k : Int) * (48 * BB) ≤ 6 * (48 * BB) := Int.mul_le_mul_of_nonneg_right (by omega) (by omega)
            have hw5 : IntKind.i64.wrap ((i : Int) + 1) = (i : Int) + 1 := IntWalk.i64_in _ ⟨by omega, by omega⟩
            have hw2 : IntKind.i64.wrap ((DS k).2 * x) = (DS k).2 * x := IntWalk.i64_in _ ⟨by omega, by omega⟩
            have hw3 : IntKind.i64.wrap ((DS k).2 * x * e0) = (DS k).2 * x * e0 := IntWalk.i64_in _ ⟨by omega, by omega⟩
            have hw4 : IntKind.i64.wrap ((DS k).1 + (DS k).2 * x * e0) = (DS k).1 + (DS k).2 * x * e0 := IntWalk.i64_in _ ⟨by omega, by omega⟩
            have hv2 : wrap64 ((DS k).2 * x) = (DS k).2 * x := (IntWalk.i64_left _).symm.trans hw2
            have hv3 : wrap64 ((DS k).2 * x * e0) = (DS k).2 * x * e0 := (IntWalk.i64_left _).symm.trans hw3
            have hv4 : wrap64 ((DS k).1 + (DS k).2 * x * e0) = (DS k).1 + (DS k).2 * x * e0 := (IntWalk.i64_left _).symm.trans hw4
            have oX := (Below.cell (p := ⟨XB, 0, none⟩) (HG.out.trans hgr) lX).trans HCX.out
            have lX2 := Nat.lt_of_lt_of_le lX (HG.out.trans hgr).le
            clear t0 t1 hkb hs hdb hsg hsx hxk hx0 hgr
            go_wp2_with fail
            go_cut [7] (fun sv wx => sv = .int .i64 ((DS k).1 + (DS k).2 * x * e0) ∧ Gr wo wx)
            case first =>
              go_region_held3 (fun wx => (∀ b o, (⟨min (b + 1) wo.heap.size, 0, none⟩ : Addr) = ⟨b + 1, 0, none⟩ → wx.cell? ⟨b, o, none⟩ = wo.cell? ⟨b, o, none⟩) ∧ Gr wo wx) (first | with_reducible exact held_drew _ | with_reducible exact held_call (by assumption) (by assumption) | with_reducible exact held_alloc (by assumption) _ | with_reducible exact held_alloc0 _ _ | with_reducible exact held_anew (by assumption) _ (by omega) | ((repeat (with_reducible refine held_set ?_ (by (try simp); (try omega)) _)); (first | with_reducible assumption | with_reducible exact held_call (by assumption) (by assumption)))) (first | (go_at_call 58; with_reducible refine (HC.out _ ((HG.out.trans HGR.out).trans (held_gr (by assumption)))).mono ?_; rintro e w' ⟨rfl, hb⟩; have hzz := ((held_gr (by assumption)).trans hb).le; have hz := hb.le; obtain ⟨hcx, hfx⟩ := hb.cells; have hn := hb.cellsN; (try simp only [World.size_drew] at hcx hfx hz hn); (try simp only [World.size_setCell] at hcx hfx hz hn); (try simp only [World.size_alloc] at hcx hfx hz hn)))
              all_goals
                go_wp2_with fail
                go_meet
                exact ⟨rfl, held_gr (by assumption)⟩
            case rest =>
              obtain ⟨rfl, hgc⟩ := hcut
              have HGC := Lib.hid (HGR.out.trans hgc)
              clear hgc
              go_wp2_with fail
              go_roundw
              case rel => exact ⟨k + 1, by omega, by rw [HN.out], by rw [HN.out], by go_num, HGC.out⟩
              case measure => simp [intOf]; omega
      · obtain rfl : k = 6 := by omega
        go_wp2_with fail
        go_ret
        exact ⟨rfl, HGR.out⟩
end Go.Proofs.YtelhmdhhabgihaaDoor
