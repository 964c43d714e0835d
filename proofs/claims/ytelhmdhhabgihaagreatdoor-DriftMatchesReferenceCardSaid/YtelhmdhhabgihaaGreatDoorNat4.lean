/-
  Natural numbers: compare, power.
-/
import Derived.Test.YtelhmdhhabgihaaGreatDoorNat3
import Derived.Lib.Strings
import Derived.Lib.Slices
import Derived.Lib.Small
import Derived.Lib.Walk
import Derived.Lib.BitFns
namespace Go.Proofs.YtelhmdhhabgihaaGreatDoor
open Go.RowKit

theorem len8_bd (x : Int) (h0 : 0 ≤ x) (h1 : x ≤ 255) : 0 ≤ Lib.len8 x ∧ Lib.len8 x ≤ 8 := by
  have e := Lib.len8_of x h0 h1
  have l := Lib.bitLen_le8' x h0 h1
  omega
set_option maxHeartbeats 4000000 in
set_option maxRecDepth 100000 in
theorem bitsLen_small (x : Int) (w : World) (h0 : 0 ≤ x) (h1 : x ≤ 255) :
    Calls Tryz.prog 91 #[.int .u64 x] w fun e w' => e = .returned (.int .i64 (Lib.bitLen x.toNat)) ∧ Gr w w' := by
  obtain ⟨t1, t2⟩ := len8_bd x h0 h1
  go_enter Tryz.func91, Tryz.ntmps91
  go_wp2
  go_ret
  exact ⟨ret_int (Lib.len8_of x h0 h1), (by repeat (first | with_reducible exact Gr.refl _ | with_reducible refine Gr.alloc ?_ _ | with_reducible refine Gr.drew ?_ | with_reducible refine Gr.trans ?_ (by assumption) | with_reducible refine Gr.setCell ?_ (by (try simp); (try omega)) _))⟩
set_option maxHeartbeats 4000000 in
set_option maxRecDepth 100000 in
theorem bitsLen_big (x : Int) (w : World) (h0 : 256 ≤ x) (h1 : x ≤ 65535) :
    Calls Tryz.prog 91 #[.int .u64 x] w fun e w' => e = .returned (.int .i64 (Lib.bitLen x.toNat)) ∧ Gr w w' := by
  have h2 : 0 ≤ x / 256 := by omega
  have h3 : x / 256 ≤ 255 := by omega
  obtain ⟨t1, t2⟩ := len8_bd (x / 256) h2 h3
  go_enter Tryz.func91, Tryz.ntmps91
  go_wp2
  go_ret
  refine ⟨ret_int ?_, (by repeat (first | with_reducible exact Gr.refl _ | with_reducible refine Gr.alloc ?_ _ | with_reducible refine Gr.drew ?_ | with_reducible refine Gr.trans ?_ (by assumption) | with_reducible refine Gr.setCell ?_ (by (try simp); (try omega)) _))⟩
  have e := Lib.len8_of (x / 256) h2 h3
  have s := Lib.bitLen_shift8 x.toNat (by omega) (by omega)
  rw [show (x / 256).toNat = x.toNat / 256 by omega] at e
  omega
theorem bitsLen_any (x : Int) (w : World) (h0 : 0 ≤ x) (h1 : x ≤ 65535) :
    Calls Tryz.prog 91 #[.int .u64 x] w fun e w' => e = .returned (.int .i64 (Lib.bitLen x.toNat)) ∧ Gr w w' := by
  rcases (by omega : x < 256 ∨ 256 ≤ x) with h | h
  · exact bitsLen_small x w h0 (by omega)
  · exact bitsLen_big x w h h1

theorem compare_lay (b n c b' n' c' : Nat) (u u' : Nat → Int) (A B : Int) (w : World) (ha : Lay w b n c u A) (hb : Lay w b' n' c' u' B) :
    Calls Tryz.prog 59 #[.slice (some ⟨b, 0, none⟩) n c, .slice (some ⟨b', 0, none⟩) n' c'] w fun e w' => e = .returned (.int .i64 (cmpZ A B)) ∧ Gr w w' := by
  have h := cmpN_val ha.inb hb.inb ha.norm hb.norm
  rw [ha.val, hb.val] at h
  rw [← h]
  have hn := ha.le; have hn' := hb.le
  by_cases e : n = n'
  · subst e
    exact compare_eq b n c b' c' u u' w (by omega) ha.cell hb.cell
  · have e' : (n : Int) ≠ (n' : Int) := by omega
    exact compare_ne b n c b' n' c' w (by omega) (by omega) (by simpa using e') (by simpa using e') e u u'

theorem bitLen_lt : ∀ (f x : Nat), x < 2 ^ f → x < 2 ^ Lib.bitLenAux f x ∧ (0 < x → 0 < Lib.bitLenAux f x)
  | 0, x, h => ⟨by simpa [Lib.bitLenAux] using h, fun h' => by simp at h; omega⟩
  | f + 1, x, h => by
    unfold Lib.bitLenAux
    split
    · subst x; exact ⟨by simp, fun h => by omega⟩
    · have := (bitLen_lt f (x / 2) (by rw [Nat.pow_succ] at h; omega)).1
      exact ⟨by rw [Nat.add_comm, Nat.pow_succ]; omega, fun _ => by omega⟩
theorem bitLen_of (m : Nat) (h0 : 0 < m) (h1 : m ≤ 65535) : 0 < Lib.bitLen m ∧ Lib.bitLen m ≤ 16 ∧ m / 2 ^ Lib.bitLen m = 0 := by
  have h := bitLen_lt 64 m (by omega)
  exact ⟨h.2 h0, Lib.bitLen_le m 16 (by omega) (by omega), Nat.div_eq_of_lt h.1⟩
theorem one_nat (w : World) (N : Nat) (hN : w.heap.size = N) : Lay (w.alloc (.cells #[.int .u32 1] 117)) N 1 1 (fun _ => 1) 1 := by
  subst hN
  refine ⟨by simp, by omega, Nat.le_refl _, by omega, fun i hi => ?_, fun i hi => ⟨by decide, by decide⟩, ?_, fun k hk => by decide⟩
  · obtain rfl : i = 0 := by omega
    simp [go_sem]
  · show 0 + 1 * BB ^ 0 = 1
    simp
/-- How far a power has come: the highest bits of the exponent but for k are done. -/
def PowRel (A : Int) (m : Nat) (w : World) (cv : Value) (k : Nat) (wr : World) : Prop :=
  ∃ b n c u, cv = .slice (some ⟨b, 0, none⟩) n c ∧ Lay wr b n c u (A ^ (m / 2 ^ k)) ∧ Gr w wr
theorem pow_le {A : Int} (hA : 1 < A) {i j : Nat} (h : i ≤ j) : A ^ i ≤ A ^ j := by
  obtain ⟨d, rfl⟩ : ∃ d, j = i + d := ⟨j - i, by omega⟩
  rw [Int.pow_add]
  have h1 : 0 < A ^ i := Int.pow_pos (by omega)
  have h2 : 0 < A ^ d := Int.pow_pos (by omega)
  have h3 : A ^ i * 1 ≤ A ^ i * A ^ d := Int.mul_le_mul_of_nonneg_left (by omega) (by omega)
  omega
theorem pow_sq (A : Int) (m k : Nat) : A ^ (m / 2 ^ (k + 1)) * A ^ (m / 2 ^ (k + 1)) = A ^ (2 * (m / 2 ^ (k + 1))) := by
  rw [← Int.pow_add]; congr 1; omega
theorem div_two (m k : Nat) : m / 2 ^ k = 2 * (m / 2 ^ (k + 1)) + m / 2 ^ k % 2 := by
  rw [Nat.pow_succ, ← Nat.div_div_eq_div_mul]; omega
theorem sq_lim {A : Int} (hA : 1 < A) {m k : Nat} (h : A ^ m < BB ^ 640) : A ^ (m / 2 ^ (k + 1)) * A ^ (m / 2 ^ (k + 1)) < BB ^ 640 := by
  rw [pow_sq]
  have := div_two m k
  have := Nat.div_le_self m (2 ^ k)
  have := pow_le hA (show 2 * (m / 2 ^ (k + 1)) ≤ m by omega)
  omega
theorem pow_one_more (A : Int) (m k : Nat) (h : m / 2 ^ k % 2 = 1) : A ^ (m / 2 ^ (k + 1)) * A ^ (m / 2 ^ (k + 1)) * A = A ^ (m / 2 ^ k) := by
  rw [pow_sq, ← Int.pow_succ]; congr 1; have := div_two m k; omega
theorem pow_same (A : Int) (m k : Nat) (h : m / 2 ^ k % 2 = 0) : A ^ (m / 2 ^ (k + 1)) * A ^ (m / 2 ^ (k + 1)) = A ^ (m / 2 ^ k) := by
  rw [pow_sq]; congr 1; have := div_two m k; omega
theorem one_more_lim {A : Int} (hA : 1 < A) {m k : Nat} (h : A ^ m < BB ^ 640) (hk : m / 2 ^ k % 2 = 1) : A ^ (m / 2 ^ (k + 1)) * A ^ (m / 2 ^ (k + 1)) * A < BB ^ 640 := by
  rw [pow_one_more A m k hk]
  have := pow_le hA (Nat.div_le_self m (2 ^ k))
  omega

theorem and_one (q : Nat) : bits .and .i64 (q : Int) 1 = ((q % 2 : Nat) : Int) := by
  have e : (BitVec.ofInt 64 (q : Int) &&& BitVec.ofInt 64 1).toNat = q % 2 := by
    rw [BitVec.toNat_and, BitVec.ofInt_natCast]; simp [Nat.and_one_is_mod]
  have e2 : bits .and .i64 (q : Int) 1 = IntKind.wrap .i64 ((BitVec.ofInt 64 (q : Int) &&& BitVec.ofInt 64 1).toNat : Int) := rfl
  rw [e2, e]
  simp only [IntKind.wrap, IntKind.bits, IntKind.signed]
  simp
  omega
theorem bit_of (m j : Nat) (r : Nat) (h : m / 2 ^ j % 2 = r) : bits .and .i64 ((m : Int) / 2 ^ j) 1 = (r : Int) := by
  rw [← h, ← and_one]
  congr 1

set_option maxRecDepth 100000 in
set_option maxHeartbeats 4000000 in
theorem power_lay (b n c : Nat) (u : Nat → Int) (A : Int) (m : Nat) (w : World) (ha : Lay w b n c u A) (hA : 1 < A) (hm : 0 < m) (hm2 : m ≤ 2000) (hlim : A ^ m < BB ^ 640) :
    Calls Tryz.prog 76 #[.slice (some ⟨b, 0, none⟩) n c, .int .i64 m] w (NatRes (A ^ m) w) := by
  have HA := Lib.hid ha; have HL := Lib.hid hlim
  have hc1 : cmpZ A 1 = 1 := cmpZ_gt hA
  have HC := Lib.hid hc1
  obtain ⟨l1, l2, l3⟩ := bitLen_of m hm (by omega)
  have HZ := Lib.hid l3
  have hbl := fun w => bitsLen_any (m : Int) w (by omega) (by omega)
  clear ha hlim hc1 l3
  go_enter Tryz.func76, Tryz.ntmps76
  go_wp2_with (first
    | (go_at_call 59; (with_reducible refine (compare_lay b n c _ 1 1 u (fun _ => 1) A 1 _ (HA.out.keep ((Gr.refl w).alloc _)) (one_nat w _ rfl)).mono ?_); rw [HC.out]; rintro e w1 ⟨rfl, hg⟩)
    | (go_at_call 91; (with_reducible refine (hbl _).mono ?_); rintro e w2 ⟨rfl, hg2⟩))
  clear hbl
  have HR : Hid (PowRel A m w (.slice (some ⟨w.heap.size, 0, none⟩) 1 1) (Lib.bitLen m) w2) := Lib.hid (by
    refine ⟨_, 1, 1, fun _ => 1, rfl, ?_, ((Gr.refl w).alloc _).trans (hg.trans hg2)⟩
    rw [HZ.out, Int.pow_zero]; exact ((one_nat w _ rfl).keep hg).keep hg2)
  clear HZ hg hg2
  go_loopw [5, 6] (fun cv iv wr => ∃ k : Nat, k ≤ 16 ∧ iv = .int .i64 ((k : Int) - 1) ∧ PowRel A m w cv k wr) (fun _ iv _ => (intOf iv + 1).toNat)
  case atStart => exact ⟨_, l2, rfl, HR.out⟩
  case round =>
    obtain ⟨k, hk, rfl, b1, n1, c1, u1, rfl, hl1, hg1⟩ := hrel
    clear HR l1 l2
    have HL1 := Lib.hid hl1; have HG1 := Lib.hid hg1
    clear hl1 hg1
    rcases Nat.eq_zero_or_pos k with rfl | hpos
    · rw [show (((0 : Nat) : Int) - 1) = -1 by omega]
      go_wp2
      go_ret
      refine ⟨_, rfl, ⟨b1, n1, c1, u1, rfl, ?_⟩, HG1.out⟩
      have := HL1.out
      rw [Nat.pow_zero, Nat.div_one] at this
      exact this
    · obtain ⟨j, rfl⟩ : ∃ j, k = j + 1 := ⟨k - 1, by omega⟩
      rw [show (((j + 1 : Nat) : Int) - 1) = (j : Int) by omega]
      obtain ⟨wo, rfl⟩ : ∃ wo : World, wo = wr := ⟨_, rfl⟩
      rcases (by omega : m / 2 ^ j % 2 = 0 ∨ m / 2 ^ j % 2 = 1) with hr | hr
      · have hb := bit_of m j 0 hr
        have HE := Lib.hid (pow_same A m j hr)
        clear hr
        go_wp2_with (go_at_call 92; (with_reducible refine (product_lay b1 n1 c1 u1 _ b1 n1 c1 u1 _ wo HL1.out HL1.out (sq_lim hA HL.out)).mono ?_); rintro e w2 ⟨v2, rfl, ⟨b2, n2, c2, u2, rfl, hl2⟩, hg2⟩; rw [HE.out] at hl2; have HP := Lib.hid (show PowRel A m w (.slice (some ⟨b2, 0, none⟩) n2 c2) j w2 from ⟨b2, n2, c2, u2, rfl, hl2, HG1.out.trans hg2⟩); clear hl2 hg2)
        go_roundw
        case rel => exact ⟨j, by omega, rfl, HP.out⟩
        case measure => simp [intOf]
      · have hb := bit_of m j 1 hr
        have HE := Lib.hid (pow_one_more A m j hr)
        have HM := Lib.hid (one_more_lim hA HL.out hr)
        clear hr
        go_wp2_with fail
        refine (product_lay b1 n1 c1 u1 _ b1 n1 c1 u1 _ wo HL1.out HL1.out (sq_lim hA HL.out)).mono ?_
        rintro e w2 ⟨v2, rfl, ⟨b2, n2, c2, u2, rfl, hl2⟩, hg2⟩
        have HL2 := Lib.hid hl2; have HG2 := Lib.hid (HG1.out.trans hg2)
        clear hl2 hg2 HL1 HG1
        go_wp2_with fail
        refine (product_lay b2 n2 c2 u2 _ b n c u _ w2 HL2.out (HA.out.keep HG2.out) HM.out).mono ?_
        rintro e w3 ⟨v3, rfl, ⟨b3, n3, c3, u3, rfl, hl3⟩, hg3⟩
        rw [HE.out] at hl3
        have HP := Lib.hid (show PowRel A m w (.slice (some ⟨b3, 0, none⟩) n3 c3) j w3 from ⟨b3, n3, c3, u3, rfl, hl3, HG2.out.trans hg3⟩)
        clear hl3 hg3
        go_wp2_with fail
        go_roundw
        case rel => exact ⟨j, by omega, rfl, HP.out⟩
        case measure => simp [intOf]
end Go.Proofs.YtelhmdhhabgihaaGreatDoor
