/-
  The reference's natural numbers: Trim, Make, Valid, Order, Product.
  The reference's natural numbers: Product.
  The reference's natural numbers: Bounded, Mul, Pow, Cmp.
-/
import Derived.Test.YtelhmdhhabgihaaGreatDoorNat4
import Derived.Laws.MathBits
import Derived.BigQuiet
import Derived.Deep.QuietTactic
namespace Go.Proofs.YtelhmdhhabgihaaGreatDoor
open Go.RowKit

theorem ret_slicec {a : Option Addr} {j k c : Nat} (h : j = k) : Ending.returned (.slice a j c) = .returned (.slice a k c) := by rw [h]

set_option maxRecDepth 100000 in
set_option maxHeartbeats 1000000 in
theorem rtrim_any (b n c : Nat) (l : Nat → Int) (w : World) (_hn : n ≤ 2000) (hnc : n ≤ c) (hc : c ≤ 100000)
    (hcell : ∀ i, i < n → w.cell? ⟨b, i, none⟩ = some (.int .u32 (l i))) :
    Calls Tryz.prog 82 #[.slice (some ⟨b, 0, none⟩) n c] w
      fun e w' => e = .returned (.slice (some ⟨b, 0, none⟩) (stripF l n) c) ∧ Gr w w' := by
  have HC := Lib.hid hcell
  clear hcell
  go_enter Tryz.func82, Tryz.ntmps82
  go_wp2
  go_loop [3] (fun v => ∃ k : Nat, k ≤ n ∧ v = .int .i64 k ∧ Hid (stripF l k = stripF l n)) (fun v => (intOf v).toNat)
  case atStart => exact ⟨n, Nat.le_refl _, rfl, rfl⟩
  case round =>
    obtain ⟨k, hk, rfl, hs⟩ := hrel
    rcases Nat.eq_zero_or_pos k with rfl | hpos
    · go_wp2
      go_ret
      exact ⟨ret_slicec (by rw [← hs.out]; rfl), (by repeat (first | with_reducible exact Gr.refl _ | with_reducible refine Gr.alloc ?_ _ | with_reducible refine Gr.drew ?_ | with_reducible refine Gr.trans ?_ (by assumption) | with_reducible refine Gr.setCell ?_ (by (try simp); (try omega)) _))⟩
    · obtain ⟨j, rfl⟩ : ∃ j, k = j + 1 := ⟨k - 1, by omega⟩
      have hx := HC.out j (by omega)
      by_cases h0 : l j = 0
      · have hs2 := (strip_zero h0).symm.trans hs.out
        have HS := Lib.hid hs2
        clear hs2
        rw [h0] at hx
        go_wp2
        go_round
        case rel => exact ⟨j, by omega, by go_num, HS⟩
        case measure => simp [intOf]
      · have hs2 := (strip_stop h0).symm.trans hs.out
        have HS := Lib.hid hs2
        clear hs2
        have hb : (l j == 0) = false := by simpa using h0
        generalize l j = x at hx hb
        clear h0
        go_wp2
        go_ret
        exact ⟨ret_slicec HS.out, (by repeat (first | with_reducible exact Gr.refl _ | with_reducible refine Gr.alloc ?_ _ | with_reducible refine Gr.drew ?_ | with_reducible refine Gr.trans ?_ (by assumption) | with_reducible refine Gr.setCell ?_ (by (try simp); (try omega)) _))⟩

theorem rtrim_nat (b n c : Nat) (u : Nat → Int) (N : Int) (w : World) (hlt : b < w.heap.size) (hn : n ≤ 2000) (hnc : n ≤ c) (hc : c ≤ 100000)
    (hcell : ∀ i, i < n → w.cell? ⟨b, i, none⟩ = some (.int .u32 (u i))) (hin : InB u n) (hN : fval u n = N) (hlim : N < BB ^ 640) :
    Calls Tryz.prog 82 #[.slice (some ⟨b, 0, none⟩) n c] w (NatRes N w) := by
  have hle := stripF_le u n
  have hv := strip_val u n
  have hin' : InB u (stripF u n) := fun i hi => hin i (by omega)
  have hs : stripF u n ≤ 640 := norm_bound hin' (strip_norm u n) (by omega)
  refine (rtrim_any b n c u w hn hnc hc hcell).mono fun e w' ⟨he, hg⟩ => ?_
  refine ⟨_, he, ⟨b, stripF u n, c, u, rfl, ?_⟩, hg⟩
  exact ⟨Nat.lt_of_lt_of_le hlt hg.le, hs, by omega, hc, fun i hi => (Below.cell (p := ⟨b, i, none⟩) hg hlt).trans (hcell i (by omega)), hin', hv.trans hN, strip_norm u n⟩

theorem rmake_trim (x : Int) (w : World) (N : Nat) (h0 : 0 < x) (h1 : x < 4294967296) (hN : w.heap.size = N) :
    Calls Tryz.prog 82 #[.slice (some ⟨N, 0, none⟩) 2 2] (w.alloc (.cells #[.int .u32 x, .int .u32 0] 117)) (NatRes x (w.alloc (.cells #[.int .u32 x, .int .u32 0] 117))) := by
  subst hN
  refine rtrim_nat _ 2 2 (one1 x) x _ (by simp) (by omega) (by omega) (by omega) (fun i hi => ?_) (one1_in h0 h1) (one1_val x) (lt_BB _ h1 (by omega))
  obtain rfl | rfl : i = 0 ∨ i = 1 := by omega
  all_goals simp [go_sem, one1, upd]

set_option maxRecDepth 100000 in
set_option maxHeartbeats 1000000 in
theorem rmake_any (x : Int) (w : World) (h0 : 0 < x) (h1 : x < 4294967296) :
    Calls Tryz.prog 62 #[.int .u64 x] w (NatRes x w) := by
  have hq : x / 4294967296 = 0 := by omega
  have ha := and_low32 x (by omega) (by omega)
  rw [show x % 4294967296 = x by omega] at ha
  go_enter Tryz.func62, Tryz.ntmps62
  go_wp2_with (go_at_call 82; (with_reducible refine (rmake_trim x _ _ h0 h1 (by simp)).mono ?_); rintro e w' ⟨v, rfl, hv, hg⟩)
  go_ret
  exact ⟨v, rfl, hv, (by repeat (first | with_reducible exact Gr.refl _ | with_reducible refine Gr.alloc ?_ _ | with_reducible refine Gr.drew ?_ | with_reducible refine Gr.trans ?_ (by assumption) | with_reducible refine Gr.setCell ?_ (by (try simp); (try omega)) _))⟩

set_option maxRecDepth 100000 in
set_option maxHeartbeats 1000000 in
theorem rnatValid_lay (b n c : Nat) (u : Nat → Int) (N : Int) (w : World) (h : Lay w b n c u N) :
    Calls Tryz.prog 81 #[.slice (some ⟨b, 0, none⟩) n c] w fun e w' => e = .returned (.bool true) ∧ Gr w w' := by
  have hle := h.le
  rcases n with - | n
  · clear h
    go_enter Tryz.func81, Tryz.ntmps81
    go_wp2
    go_ret
    exact ⟨rfl, (by repeat (first | with_reducible exact Gr.refl _ | with_reducible refine Gr.alloc ?_ _ | with_reducible refine Gr.drew ?_ | with_reducible refine Gr.trans ?_ (by assumption) | with_reducible refine Gr.setCell ?_ (by (try simp); (try omega)) _))⟩
  · have hx := h.cell n (by omega)
    have hb : (u n != 0) = true := by simpa using h.norm n rfl
    clear h
    generalize u n = x at hx hb
    go_enter Tryz.func81, Tryz.ntmps81
    go_wp2
    go_ret
    exact ⟨rfl, (by repeat (first | with_reducible exact Gr.refl _ | with_reducible refine Gr.alloc ?_ _ | with_reducible refine Gr.drew ?_ | with_reducible refine Gr.trans ?_ (by assumption) | with_reducible refine Gr.setCell ?_ (by (try simp); (try omega)) _))⟩
set_option maxRecDepth 100000 in
set_option maxHeartbeats 1000000 in
theorem rboth_lay (b n c : Nat) (u : Nat → Int) (N : Int) (b' n' c' : Nat) (u' : Nat → Int) (N' : Int) (w : World) (h : Lay w b n c u N) (h' : Lay w b' n' c' u' N') :
    Calls Tryz.prog 60 #[.slice (some ⟨b, 0, none⟩) n c, .slice (some ⟨b', 0, none⟩) n' c'] w fun e w' => e = .returned (.bool true) ∧ Gr w w' := by
  have H := Lib.hid h; have H' := Lib.hid h'
  clear h h'
  go_enter Tryz.func60, Tryz.ntmps60
  go_wp2_with fail
  refine (rnatValid_lay _ _ _ _ _ _ H.out).mono ?_
  rintro e w1 ⟨rfl, h1⟩
  go_wp2_with fail
  refine (rnatValid_lay _ _ _ _ _ _ (H'.out.keep h1)).mono ?_
  rintro e w2 ⟨rfl, h2⟩
  go_wp2_with fail
  go_ret
  exact ⟨rfl, h1.trans h2⟩

set_option maxRecDepth 100000 in
set_option maxHeartbeats 1000000 in
theorem rorder_ne (b n c b' n' c' : Nat) (w : World) (_hn : n ≤ 2000) (_hn' : n' ≤ 2000) (h3 : n ≠ n') (l m : Nat → Int) :
    Calls Tryz.prog 61 #[.slice (some ⟨b, 0, none⟩) n c, .slice (some ⟨b', 0, none⟩) n' c'] w
      fun e w' => e = .returned (.int .i64 (cmpN n l n' m)) ∧ Gr w w' := by
  rw [cmpN, if_neg h3]
  rcases Nat.lt_or_gt_of_ne h3 with h | h
  · rw [cmpZ_lt (by omega)]
    clear h3
    go_enter Tryz.func61, Tryz.ntmps61
    go_wp2
    go_ret
    exact ⟨rfl, (by repeat (first | with_reducible exact Gr.refl _ | with_reducible refine Gr.alloc ?_ _ | with_reducible refine Gr.drew ?_ | with_reducible refine Gr.trans ?_ (by assumption) | with_reducible refine Gr.setCell ?_ (by (try simp); (try omega)) _))⟩
  · rw [cmpZ_gt (by omega)]
    clear h3
    go_enter Tryz.func61, Tryz.ntmps61
    go_wp2
    go_ret
    exact ⟨rfl, (by repeat (first | with_reducible exact Gr.refl _ | with_reducible refine Gr.alloc ?_ _ | with_reducible refine Gr.drew ?_ | with_reducible refine Gr.trans ?_ (by assumption) | with_reducible refine Gr.setCell ?_ (by (try simp); (try omega)) _))⟩

set_option maxRecDepth 100000 in
set_option maxHeartbeats 1000000 in
theorem rorder_eq (b n c b' c' : Nat) (l m : Nat → Int) (w : World) (hn : n ≤ 2000)
    (hcell : ∀ i, i < n → w.cell? ⟨b, i, none⟩ = some (.int .u32 (l i))) (hcell' : ∀ i, i < n → w.cell? ⟨b', i, none⟩ = some (.int .u32 (m i))) :
    Calls Tryz.prog 61 #[.slice (some ⟨b, 0, none⟩) n c, .slice (some ⟨b', 0, none⟩) n c'] w
      fun e w' => e = .returned (.int .i64 (cmpN n l n m)) ∧ Gr w w' := by
  rw [cmpN, if_pos rfl]
  have HC := Lib.hid hcell; have HC' := Lib.hid hcell'
  clear hcell hcell'
  go_enter Tryz.func61, Tryz.ntmps61
  go_wp2
  go_loopw [5] (fun v wr => ∃ k : Nat, k ≤ n ∧ v = .int .i64 ((k : Int) - 1) ∧ Hid (cmpL l m k = cmpL l m n) ∧ Hid (∃ q, wr = w.drewN q)) (fun v _ => (intOf v + 1).toNat)
  case atStart => exact ⟨n, Nat.le_refl _, rfl, rfl, ⟨0, rfl⟩⟩
  case round =>
    obtain ⟨k, hk, rfl, hs, hq⟩ := hrel
    obtain ⟨q, rfl⟩ := hq.out
    rcases Nat.eq_zero_or_pos k with rfl | hpos
    · rw [show (((0 : Nat) : Int) - 1) = -1 by omega]
      go_wp2
      go_ret
      exact ⟨ret_int hs.out, hdr q⟩
    · obtain ⟨j, rfl⟩ : ∃ j, k = j + 1 := ⟨k - 1, by omega⟩
      rw [show (((j + 1 : Nat) : Int) - 1) = (j : Int) by omega]
      have hx := HC.out j (by omega)
      have hy := HC'.out j (by omega)
      rcases Int.lt_trichotomy (l j) (m j) with h0 | h0 | h0
      · have hs2 := (cmpL_stop (u := l) (v := m) (k := j) (by omega)).symm.trans hs.out
        rw [cmpZ_lt h0] at hs2
        have HS := Lib.hid hs2
        clear hs2
        have hb : decide (l j < m j) = true := by simpa using h0
        generalize l j = x at hx hb
        generalize m j = y at hy hb
        clear h0
        go_wp2
        go_region
        all_goals
          go_wp2
          go_ret
          exact ⟨ret_int HS.out, (hdr q).drew⟩
      · have hs2 := (cmpL_same h0).symm.trans hs.out
        have HS := Lib.hid hs2
        clear hs2
        rw [← h0] at hy
        generalize l j = x at hx hy
        clear h0
        go_wp2
        go_region
        go_wp2
        go_region
        go_wp2
        go_roundw
        case rel => exact ⟨j, by omega, by go_num, HS, ⟨q + 2, rfl⟩⟩
        case measure => simp [intOf]
      · have hs2 := (cmpL_stop (u := l) (v := m) (k := j) (by omega)).symm.trans hs.out
        rw [cmpZ_gt h0] at hs2
        have HS := Lib.hid hs2
        clear hs2
        have hb : decide (l j < m j) = false := by simp; omega
        have hb2 : decide (m j < l j) = true := by simpa using h0
        generalize l j = x at hx hb hb2
        generalize m j = y at hy hb hb2
        clear h0
        go_wp2
        go_region
        go_wp2
        go_region
        all_goals
          go_wp2
          go_ret
          exact ⟨ret_int HS.out, (hdr q).drew.drew⟩
theorem rorder_lay (b n c b' n' c' : Nat) (u u' : Nat → Int) (A B : Int) (w : World) (ha : Lay w b n c u A) (hb : Lay w b' n' c' u' B) :
    Calls Tryz.prog 61 #[.slice (some ⟨b, 0, none⟩) n c, .slice (some ⟨b', 0, none⟩) n' c'] w fun e w' => e = .returned (.int .i64 (cmpZ A B)) ∧ Gr w w' := by
  have h := cmpN_val ha.inb hb.inb ha.norm hb.norm
  rw [ha.val, hb.val] at h
  rw [← h]
  have hn := ha.le; have hn' := hb.le
  by_cases e : n = n'
  · subst e
    exact rorder_eq b n c b' c' u u' w (by omega) ha.cell hb.cell
  · exact rorder_ne b n c b' n' c' w (by omega) (by omega) e u u'
end Go.Proofs.YtelhmdhhabgihaaGreatDoor

namespace Go.Proofs.YtelhmdhhabgihaaGreatDoor
open Go.RowKit

theorem Outer.router_trim {n n' : Nat} {u u' : Nat → Int} {S N : Nat} {W1 wr : World} (h : Outer n n' u u' S N W1 wr n) (hn : n ≤ 640) (hn' : n' ≤ 640) (hlim : fval u n * fval u' n' < BB ^ 640) :
    Calls Tryz.prog 82 #[.slice (some ⟨S, 0, none⟩) (n + n') (n + n')] wr (NatRes (fval u n * fval u' n') wr) := by
  obtain ⟨x, h1, h2, h3, h4⟩ := h
  exact rtrim_nat _ _ _ x _ _ (by have := h1.lt; have := h1.size; omega) (by omega) (Nat.le_refl _) (by omega) (fun i hi => h1.cell i hi) h2 h4 hlim

theorem Inner.drew {n n' : Nat} {u u' : Nat → Int} {S N : Nat} {W1 wr : World} {k j : Nat} {c : Int} (h : Inner n n' u u' S N W1 wr k j c) : Inner n n' u u' S N W1 wr.drew k j c := by
  obtain ⟨x, h1, h2, h3, h4⟩ := h
  exact ⟨x, h1.drew, h2, h3, h4⟩

set_option maxRecDepth 100000 in
set_option maxHeartbeats 4000000 in
theorem rproduct_lay (b n c : Nat) (u : Nat → Int) (A : Int) (b' n' c' : Nat) (u' : Nat → Int) (B : Int) (w : World) (ha : Lay w b n c u A) (hb : Lay w b' n' c' u' B) (hAB : A * B < BB ^ 640) :
    Calls Tryz.prog 83 #[.slice (some ⟨b, 0, none⟩) n c, .slice (some ⟨b', 0, none⟩) n' c'] w (NatRes (A * B) w) := by
  obtain ⟨i0, hi, hz0, hz1, hz2⟩ := info_parts info117'
  have hn := ha.le; have hn' := hb.le
  have HA := Lib.hid ha; have HB := Lib.hid hb; have HAB := Lib.hid hAB
  clear ha hb hAB
  go_enter Tryz.func83, Tryz.ntmps83
  go_wp2_with (at_make; refine wpList_make_full _ rfl _ _ 71 rfl w.heap.size 117 i0 (.int .u32 0) 1 Tryz.underlying71 hi hz0 hz1 _ _ _ _ (n + n') rfl rfl (by simp) (by simp) (by rw [hz2]; omega) (by unfold maxLen; omega) (Nat.le_refl _) ?_; intro W1 hown hgrow)
  obtain ⟨hg1, hr1⟩ := made_row hown hgrow
  have HA1 := Lib.hid (HA.out.keep hg1); have HB1 := Lib.hid (HB.out.keep hg1)
  have HO := Lib.hid (outer_start (u := u) (u' := u') hr1)
  have HL := Lib.hid (And.intro HA.out.lt HB.out.lt)
  clear hr1 hown hgrow HA HB hi hz0 hz1 hz2
  generalize hS : w.heap.size = S at HO HL ⊢
  have HS := Lib.hid (Nat.le_of_eq hS)
  clear hS
  go_loopw [6] (fun v wr => ∃ k : Nat, k ≤ n ∧ v = .int .i64 k ∧ Outer n n' u u' S (S + 1) W1 wr k) (fun v _ => n - (intOf v).toNat)
  case atStart => exact ⟨0, Nat.zero_le _, rfl, HO.out⟩
  case round =>
    obtain ⟨k, hk, rfl, hO⟩ := hrel
    have HO1 := Lib.hid hO
    clear HO hO
    by_cases hlt : k < n
    · have hx := (HO1.out.other (p := ⟨b, k, none⟩) HL.out.1).trans (HA1.out.cell k hlt)
      have hxb := HA1.out.inb k hlt
      have HX := Lib.hid hx
      have HI := Lib.hid (inner_start HO1.out)
      clear HO1 hx
      obtain ⟨wo, rfl⟩ : ∃ wo : World, wo = wr := ⟨_, rfl⟩
      go_wp2
      go_loopw [7, 8] (fun q v wr => ∃ (j : Nat) (cr : Int), j ≤ n' ∧ v = .int .i64 j ∧ q = .int .u64 cr ∧ 0 ≤ cr ∧ cr < 4294967296 ∧ Inner n n' u u' S (S + 1) W1 wr k j cr) (fun _ v _ => n' - (intOf v).toNat)
      case atStart => exact ⟨0, 0, Nat.zero_le _, rfl, rfl, Int.le_refl _, by decide, HI.out⟩
      case round =>
        obtain ⟨j, cr, hj, rfl, rfl, hc0, hc1, hI⟩ := hrel
        have HI1 := Lib.hid hI
        clear HI hI
        by_cases hjt : j < n'
        · have hx := (HI1.out.other (p := ⟨b, k, none⟩) HL.out.1).trans (HA1.out.cell k hlt)
          have hy := (HI1.out.other (p := ⟨b', j, none⟩) HL.out.2).trans (HB1.out.cell j hjt)
          have hyb := HB1.out.inb j hjt
          obtain ⟨z, hz0, hz1, hzc, hzf, hnext⟩ := HI1.out.drew.cell hlt hjt
          rw [World.cell?_drew] at hzc
          rw [World.frozen?_drew] at hzf
          have HN := Lib.hid hnext
          obtain ⟨m1, m2, m3, m4⟩ := mul_fit hxb hyb ⟨hz0, hz1⟩ ⟨hc0, hc1⟩
          clear hnext HI1 HX
          generalize u k = x at *
          generalize u' j = y at *
          have ha := and_low32 (x * y + z + cr) m3 m4
          have q1 : (0 : Int) ≤ (k : Int) + (j : Int) := by omega
          have q2 : ((k : Int) + (j : Int)).toNat = k + j := by omega
          have q5 : (k : Int) + (j : Int) < (n : Int) + (n' : Int) := by omega
          have q6 : (k : Int) < (n : Int) := by omega
          have q7 : (j : Int) < (n' : Int) := by omega
          have q3 : IntKind.i64.wrap ((k : Int) + (j : Int)) = (k : Int) + (j : Int) := IntWalk.i64_in _ (by omega)
          have q4 : IntKind.u64.wrap (x * y) = x * y := IntWalk.u64_in _ (by omega)
          have q8 : IntKind.u64.wrap (x * y + z) = x * y + z := IntWalk.u64_in _ (by omega)
          have q9 : IntKind.u64.wrap (x * y + z + cr) = x * y + z + cr := IntWalk.u64_in _ (by omega)
          go_wp2
          go_region
          go_wp2
          clear q1 q2 q3 q4 q5 q6 q7 q8 q9 ha
          go_roundw
          case rel => exact ⟨j + 1, _, by omega, by go_num, rfl, by omega, by omega, HN.out _ _ rfl rfl⟩
          case measure => simp [intOf]; omega
        · obtain rfl : j = n' := by omega
          obtain ⟨⟨z, hz⟩, hf, hO2⟩ := HI1.out.done hlt hc0 hc1
          have HO2 := Lib.hid hO2
          clear hO2 HI1
          go_wp2
          go_roundw
          case rel => exact ⟨k + 1, by omega, by go_num, HO2.out⟩
          case measure => simp [intOf]; omega
    · obtain rfl : k = n := by omega
      have HF := Lib.hid (HO1.out.router_trim hn hn' (by rw [HA1.out.val, HB1.out.val]; exact HAB.out))
      have HG := Lib.hid (HO1.out.but_gr hg1 HS.out)
      clear HO1
      go_wp2_with (go_at_call 82; (with_reducible refine HF.out.mono ?_); rintro e w' ⟨v, rfl, hv, hg⟩)
      go_ret
      rw [HA1.out.val, HB1.out.val] at hv
      exact ⟨v, rfl, hv, HG.out.trans hg⟩
end Go.Proofs.YtelhmdhhabgihaaGreatDoor

namespace Go.Proofs.YtelhmdhhabgihaaGreatDoor
open Go.RowKit

/-- A call returns a natural number and no error. -/
def NatRes2 (N : Int) (w : World) (e : Ending) (w' : World) : Prop := ∃ b n c u, e = .returned (.tuple #[.slice (some ⟨b, 0, none⟩) n c, .int .i64 0]) ∧ Lay w' b n c u N ∧ Gr w w'

theorem Lay.trim {w : World} {b n c : Nat} {u : Nat → Int} {N : Int} (h : Lay w b n c u N) (hlim : N < BB ^ 640) :
    Calls Tryz.prog 82 #[.slice (some ⟨b, 0, none⟩) n c] w (NatRes N w) :=
  rtrim_nat b n c u N w h.lt (by have := h.le; omega) h.nc h.cc h.cell h.inb h.val hlim

set_option maxRecDepth 100000 in
set_option maxHeartbeats 1000000 in
theorem rnbounded_lay (b n c : Nat) (u : Nat → Int) (N : Int) (w : World) (h : Lay w b n c u N) (hlim : N < BB ^ 640) :
    Calls Tryz.prog 84 #[.slice (some ⟨b, 0, none⟩) n c] w (NatRes2 N w) := by
  have H := Lib.hid h; have HL := Lib.hid hlim
  clear h hlim
  go_enter Tryz.func84, Tryz.ntmps84
  go_wp2_with fail
  refine (H.out.trim HL.out).mono ?_
  rintro e w1 ⟨v, rfl, ⟨b1, n1, c1, u1, rfl, hl⟩, hg⟩
  have hle := hl.le
  have HR := Lib.hid hl; have HG := Lib.hid hg
  clear hl hg
  go_wp2_with fail
  go_ret2
  exact ⟨b1, n1, c1, u1, rfl, HR.out, HG.out⟩

set_option maxRecDepth 100000 in
set_option maxHeartbeats 1000000 in
theorem rnmul_lay (b n c : Nat) (u : Nat → Int) (A : Int) (b' n' c' : Nat) (u' : Nat → Int) (B : Int) (w : World) (h : Lay w b n c u A) (h' : Lay w b' n' c' u' B) (hlim : A * B < BB ^ 640) :
    Calls Tryz.prog 65 #[.slice (some ⟨b, 0, none⟩) n c, .slice (some ⟨b', 0, none⟩) n' c'] w (NatRes2 (A * B) w) := by
  have H := Lib.hid h; have H' := Lib.hid h'; have HL := Lib.hid hlim
  clear h h' hlim
  go_enter Tryz.func65, Tryz.ntmps65
  go_wp2_with fail
  refine (rboth_lay _ _ _ _ _ _ _ _ _ _ _ H.out H'.out).mono ?_
  rintro e w1 ⟨rfl, h1⟩
  have HG1 := Lib.hid h1
  clear h1
  go_wp2_with fail
  refine (rproduct_lay _ _ _ _ _ _ _ _ _ _ _ (H.out.keep HG1.out) (H'.out.keep HG1.out) HL.out).mono ?_
  rintro e w2 ⟨v, rfl, ⟨b1, n1, c1, u1, rfl, hl⟩, hg⟩
  have HG2 := Lib.hid (HG1.out.trans hg); have HR := Lib.hid hl
  clear hl hg
  go_wp2_with fail
  refine (rnbounded_lay _ _ _ _ _ _ HR.out HL.out).mono ?_
  rintro e w3 ⟨b2, n2, c2, u2, rfl, hl, hg⟩
  have HG3 := Lib.hid (HG2.out.trans hg); have HR2 := Lib.hid hl
  clear hl hg
  go_wp2_with fail
  go_ret2
  exact ⟨b2, n2, c2, u2, rfl, HR2.out, HG3.out⟩

theorem Lay.conv {w : World} {b n c : Nat} {u : Nat → Int} {N M : Int} (h : Lay w b n c u N) (e : N = M) : Lay w b n c u M := e ▸ h

set_option maxRecDepth 100000 in
set_option maxHeartbeats 4000000 in
theorem rpow_lay (b n c : Nat) (u : Nat → Int) (A : Int) (m : Nat) (w : World) (ha : Lay w b n c u A) (hA : 1 < A) (hm : 0 < m) (hm2 : m ≤ 2000) (hlim : A ^ m < BB ^ 640) :
    Calls Tryz.prog 63 #[.slice (some ⟨b, 0, none⟩) n c, .int .i64 m] w (NatRes2 (A ^ m) w) := by
  have HA := Lib.hid ha; have HL := Lib.hid hlim
  have hc1 : cmpZ A 1 = 1 := cmpZ_gt hA
  have HC := Lib.hid hc1
  have hm0 : ((m : Int) == 0) = false := by rw [beq_eq_false_iff_ne]; omega
  have hm1 : decide (m = 0) = false := by simp; omega
  have HAA := Lib.hid hA
  clear ha hlim hc1 hA
  go_enter Tryz.func63, Tryz.ntmps63
  go_wp2_with fail
  refine (rnatValid_lay _ _ _ _ _ _ HA.out).mono ?_
  rintro e w0 ⟨rfl, h0⟩
  have HG0 := Lib.hid h0
  clear h0
  go_wp2_with fail
  refine (rorder_lay b n c _ 1 1 u (fun _ => 1) A 1 _ (HA.out.keep (HG0.out.alloc _)) (one_nat w0 _ rfl)).mono ?_
  rw [HC.out]
  rintro e w1 ⟨rfl, hg⟩
  have HG1 := Lib.hid ((HG0.out.alloc _).trans hg)
  clear hg
  go_wp2_with fail
  have HR : Hid (∃ b1 n1 c1 u1, (Value.slice (some ⟨w1.heap.size, 0, none⟩) 1 1) = .slice (some ⟨b1, 0, none⟩) n1 c1 ∧ Lay (w1.alloc (.cells #[.int .u32 1] 117)) b1 n1 c1 u1 (A ^ 0) ∧ Gr w (w1.alloc (.cells #[.int .u32 1] 117))) := Lib.hid ⟨_, 1, 1, fun _ => 1, rfl, (one_nat w1 _ rfl).conv (by simp), HG1.out.alloc _⟩
  generalize (w1.alloc (.cells #[.int .u32 1] 117)) = W0 at *
  go_loopw [6, 7] (fun cv iv wr => ∃ k : Nat, k ≤ m ∧ iv = .int .i64 k ∧ ∃ b1 n1 c1 u1, cv = .slice (some ⟨b1, 0, none⟩) n1 c1 ∧ Lay wr b1 n1 c1 u1 (A ^ k) ∧ Gr w wr) (fun _ iv _ => m - (intOf iv).toNat)
  case atStart => exact ⟨0, by omega, rfl, HR.out⟩
  case round =>
    obtain ⟨k, hk, rfl, b1, n1, c1, u1, rfl, hl1, hg1⟩ := hrel
    have HL1 := Lib.hid hl1; have HG := Lib.hid hg1
    clear hl1 hg1 HR
    obtain ⟨wo, rfl⟩ : ∃ wo : World, wo = wr := ⟨_, rfl⟩
    by_cases hlt : k < m
    · have HM : Hid (A ^ k * A = A ^ (k + 1)) := Lib.hid (by rw [Int.pow_succ])
      have HS : Hid (A ^ (k + 1) < BB ^ 640) := Lib.hid (by have := pow_le HAA.out (show k + 1 ≤ m by omega); have := HL.out; omega)
      go_wp2_with fail
      refine (rproduct_lay b1 n1 c1 u1 _ b n c u _ wo HL1.out (HA.out.keep HG.out) (by rw [HM.out]; exact HS.out)).mono ?_
      rintro e w2 ⟨v, rfl, ⟨b2, n2, c2, u2, rfl, hl2⟩, hg2⟩
      have hle := hl2.le
      have HL2 := Lib.hid (hl2.conv HM.out); have HG2 := Lib.hid (HG.out.trans hg2)
      clear hl2 hg2
      go_wp2_with fail
      go_roundw
      case rel => exact ⟨k + 1, by omega, by go_num, b2, n2, c2, u2, rfl, HL2.out, HG2.out⟩
      case measure => simp [intOf]; omega
    · obtain rfl : k = m := by omega
      go_wp2_with fail
      go_ret2
      exact ⟨b1, n1, c1, u1, rfl, HL1.out, HG.out⟩

set_option maxRecDepth 100000 in
set_option maxHeartbeats 1000000 in
theorem rncmp_lay (b n c : Nat) (u : Nat → Int) (A : Int) (b' n' c' : Nat) (u' : Nat → Int) (B : Int) (w : World) (h : Lay w b n c u A) (h' : Lay w b' n' c' u' B) :
    Calls Tryz.prog 38 #[.slice (some ⟨b, 0, none⟩) n c, .slice (some ⟨b', 0, none⟩) n' c'] w fun e w' => e = .returned (.tuple #[.int .i64 (cmpZ A B), .int .i64 0]) ∧ Gr w w' := by
  have H := Lib.hid h; have H' := Lib.hid h'
  clear h h'
  go_enter Tryz.func38, Tryz.ntmps38
  go_wp2_with fail
  refine (rboth_lay _ _ _ _ _ _ _ _ _ _ _ H.out H'.out).mono ?_
  rintro e w1 ⟨rfl, h1⟩
  go_wp2_with fail
  refine (rorder_lay _ _ _ _ _ _ _ _ _ _ _ (H.out.keep h1) (H'.out.keep h1)).mono ?_
  rintro e w2 ⟨rfl, h2⟩
  go_wp2_with fail
  go_ret2
  exact ⟨rfl, h1.trans h2⟩
end Go.Proofs.YtelhmdhhabgihaaGreatDoor
