/-
  frets.Valid.
-/
import Derived.Test.YtohalcookjbaaaaDoorNk
import Derived.Test.YtohalcookjbaaaaDoorMul
import Derived.Test.YtohalcookjbaaaaDoorHeld
import Derived.Test.YtohalcookjbaaaaDoorR3M
import Derived.IntWalk
namespace Go.Proofs.YtohalcookjbaaaaDoor
open Go.RowKit

/-- P holds for the first n numbers. -/
def allN (P : Nat → Bool) : Nat → Bool
  | 0 => true
  | n + 1 => allN P n && P n
theorem allN_at {P : Nat → Bool} {n : Nat} (h : allN P n = true) {k : Nat} (hk : k < n) : P k = true := by
  induction n with
  | zero => omega
  | succ n ih =>
    simp only [allN, Bool.and_eq_true] at h
    by_cases e : k = n
    · subst e; exact h.2
    · exact ih h.1 (by omega)
theorem allN_no {P : Nat → Bool} {n k : Nat} (hk : k < n) (h : P k = false) : allN P n = false := by
  cases e : allN P n with
  | false => rfl
  | true => rw [allN_at e hk] at h; cases h
theorem fitsB_all (p : V6) (q : Nat → Nat → Int) : ∀ n, fitsB p q n = allN (fun k => allIn (p.add (rowV q k)) 576 6) n
  | 0 => rfl
  | n + 1 => by simp only [fitsB, allN, fitsB_all p q n]
/-- A neck in a box. -/
structure NeckAt (W : World) (B : Nat) (O Q : Option Addr) (no co nf cq : Nat) (sp tl : Int) : Prop where
  lt : B < W.heap.size
  c0 : W.cell? ⟨B, 0, none⟩ = some (.slice O no co)
  c1 : W.cell? ⟨B, 1, none⟩ = some (.slice Q nf cq)
  c2 : W.cell? ⟨B, 2, none⟩ = some (.int .i64 sp)
  c3 : W.cell? ⟨B, 3, none⟩ = some (.int .i64 tl)
theorem NeckAt.keep {W W' : World} {B : Nat} {O Q : Option Addr} {no co nf cq : Nat} {sp tl : Int} (h : NeckAt W B O Q no co nf cq sp tl) (g : Gr W W') : NeckAt W' B O Q no co nf cq sp tl :=
  ⟨Nat.lt_of_lt_of_le h.lt g.le, (Below.cell (p := ⟨B, 0, none⟩) g h.lt).trans h.c0, (Below.cell (p := ⟨B, 1, none⟩) g h.lt).trans h.c1, (Below.cell (p := ⟨B, 2, none⟩) g h.lt).trans h.c2, (Below.cell (p := ⟨B, 3, none⟩) g h.lt).trans h.c3⟩
theorem neckAt_new (w : World) (O Q : Option Addr) (no co nf cq : Nat) (sp tl : Int) (T : TypeId) : NeckAt (w.alloc (.cells #[.slice O no co, .slice Q nf cq, .int .i64 sp, .int .i64 tl] T)) w.heap.size O Q no co nf cq sp tl :=
  ⟨by simp, by simp [go_sem], by simp [go_sem], by simp [go_sem], by simp [go_sem]⟩

set_option maxRecDepth 100000 in
set_option maxHeartbeats 16000000 in
/-- Whether a string can be stopped at a fret. -/
theorem wide_any (B : Nat) (a0 a1 a2 a3 a4 a5 b0 b1 b2 b3 b4 b5 : Int) (w : World) (hB : SixV w B (.int .i64 a0) (.int .i64 a1) (.int .i64 a2) (.int .i64 a3) (.int .i64 a4) (.int .i64 a5)) (hl : B < w.heap.size) (ha : allIn ⟨a0, a1, a2, a3, a4, a5⟩ 576 6 = true) (hb : allIn ⟨b0, b1, b2, b3, b4, b5⟩ 576 6 = true) :
    Calls Tryd.prog 32 #[.agg #[.int .i64 b0, .int .i64 b1, .int .i64 b2, .int .i64 b3, .int .i64 b4, .int .i64 b5], .pointer (some ⟨B, 0, none⟩)] w fun e w' => e = .returned (.bool (!allIn (V6.add ⟨a0, a1, a2, a3, a4, a5⟩ ⟨b0, b1, b2, b3, b4, b5⟩) 576 6)) ∧ Gr w w' := by
  obtain ⟨c0, c1, c2, c3, c4, c5⟩ := hB
  rcases bool_tf (allIn (V6.add ⟨a0, a1, a2, a3, a4, a5⟩ ⟨b0, b1, b2, b3, b4, b5⟩) 576 6) with hr | hr
  · have HM := Lib.hid (fun W => mul_ok a0 a1 a2 a3 a4 a5 b0 b1 b2 b3 b4 b5 W ha hb hr)
    have HR := Lib.hid hr
    clear ha hb hr
    go_enter Tryd.func32, Tryd.ntmps32
    go_wp2_with fail
    (go_at_call 29; with_reducible refine (HM.out _).mono ?_; rintro e w' ⟨rfl, hb⟩; have hz := hb.le; obtain ⟨hc, hf⟩ := hb.cells; have hn := hb.cellsN; (try simp only [World.size_alloc] at hc hf hz hn); (try simp only [World.size_setCell] at hc hf hz hn); (try simp only [World.size_drew] at hc hf hz hn))
    go_wp2_with fail
    go_ret
    exact ⟨ret_bool (by rw [HR.out]; rfl), (by repeat (first | with_reducible exact Gr.refl _ | with_reducible refine Gr.alloc ?_ _ | with_reducible refine Gr.drew ?_ | with_reducible refine Gr.trans ?_ (by assumption) | with_reducible refine Gr.setCell ?_ (by (try simp); (try omega)) _))⟩
  · have HM := Lib.hid (fun W => mul_out a0 a1 a2 a3 a4 a5 b0 b1 b2 b3 b4 b5 W ha hb hr)
    have HR := Lib.hid hr
    clear ha hb hr
    go_enter Tryd.func32, Tryd.ntmps32
    go_wp2_with fail
    (go_at_call 29; with_reducible refine (HM.out _).mono ?_; rintro e w' ⟨rfl, hb⟩; have hz := hb.le; obtain ⟨hc, hf⟩ := hb.cells; have hn := hb.cellsN; (try simp only [World.size_alloc] at hc hf hz hn); (try simp only [World.size_setCell] at hc hf hz hn); (try simp only [World.size_drew] at hc hf hz hn))
    go_wp2_with fail
    go_ret
    exact ⟨ret_bool (by rw [HR.out]; rfl), (by repeat (first | with_reducible exact Gr.refl _ | with_reducible refine Gr.alloc ?_ _ | with_reducible refine Gr.drew ?_ | with_reducible refine Gr.trans ?_ (by assumption) | with_reducible refine Gr.setCell ?_ (by (try simp); (try omega)) _))⟩

/-- The first of n for which P holds not. -/
def IdxWide (P : Nat → Bool) (n : Nat) (w : World) (e : Ending) (w' : World) : Prop := ∃ k : Int, e = .returned (.int .i64 k) ∧ ((allN P n = true ∧ k = -1) ∨ (allN P n = false ∧ 0 ≤ k)) ∧ Gr w w'
set_option maxRecDepth 100000 in
set_option maxHeartbeats 16000000 in
theorem idxWide (A : Option Addr) (n c : Nat) (f : Nat → Nat → Int) (P : Nat → Bool) (B : Nat) (w : World) (hA : RowsAt w 6 A n f) (hn : n ≤ 4611686018427387904)
    (hC : ∀ W, Gr w W → ∀ j, j < n → Calls Tryd.prog 32 #[.agg #[.int .i64 (f j 0), .int .i64 (f j 1), .int .i64 (f j 2), .int .i64 (f j 3), .int .i64 (f j 4), .int .i64 (f j 5)], .pointer (some ⟨B, 0, none⟩)] W fun e w' => e = .returned (.bool (!P j)) ∧ Gr W w') :
    Calls Tryd.prog 53 #[.slice A n c, .func (.func 32) #[] #[.pointer (some ⟨B, 0, none⟩)]] w (IdxWide P n w) := by
  have HA := Lib.hid hA; have HC := Lib.hid hC
  clear hA hC
  go_enter Tryd.func53, Tryd.ntmps53
  go_wp2
  go_loopw [8] (fun i wr => ∃ j : Nat, j ≤ n ∧ i = .int .i64 j ∧ allN P j = true ∧ Gr w wr) (fun i _ => n - (intOf i).toNat)
  case atStart => exact ⟨0, Nat.zero_le _, rfl, rfl, Gr.refl _⟩
  case round =>
    obtain ⟨j, hj, rfl, hok, hg⟩ := hrel
    have HOK := Lib.hid hok; have HG := Lib.hid hg
    clear hok hg
    by_cases hlt : j < n
    · obtain ⟨b, off, rfl, hb, c0, c1, c2, c3, c4, c5⟩ := (HA.out.keep HG.out).six hlt
      have hW := HC.out _ HG.out j hlt
      obtain ⟨wp, rfl⟩ : ∃ wp : World, wp = wr := ⟨_, rfl⟩
      rcases bool_tf (P j) with hx | hx
      · have HS : Hid (allN P (j + 1) = true) := Lib.hid (by simp [allN, HOK.out, hx])
        rw [hx] at hW
        have HW := Lib.hid hW
        clear hW hx
        go_wp2_with fail
        (go_at_call 32; with_reducible refine (HW.out).mono ?_; rintro e w' ⟨rfl, hb⟩; have hz := hb.le; obtain ⟨hc, hf⟩ := hb.cells; have hn := hb.cellsN; (try simp only [World.size_alloc] at hc hf hz hn); (try simp only [World.size_setCell] at hc hf hz hn); (try simp only [World.size_drew] at hc hf hz hn))
        go_wp2_with fail
        go_roundw
        case rel => exact ⟨j + 1, by omega, by go_num, HS.out, HG.out.trans (by repeat (first | with_reducible exact Gr.refl _ | with_reducible refine Gr.alloc ?_ _ | with_reducible refine Gr.drew ?_ | with_reducible refine Gr.trans ?_ (by assumption) | with_reducible refine Gr.setCell ?_ (by (try simp); (try omega)) _))⟩
        case measure => simp [intOf]; omega
      · have HN := Lib.hid (allN_no hlt hx)
        rw [hx] at hW
        have HW := Lib.hid hW
        clear hW hx
        go_wp2_with fail
        (go_at_call 32; with_reducible refine (HW.out).mono ?_; rintro e w' ⟨rfl, hb⟩; have hz := hb.le; obtain ⟨hc, hf⟩ := hb.cells; have hn := hb.cellsN; (try simp only [World.size_alloc] at hc hf hz hn); (try simp only [World.size_setCell] at hc hf hz hn); (try simp only [World.size_drew] at hc hf hz hn))
        go_wp2_with fail
        go_ret
        exact ⟨_, rfl, Or.inr ⟨HN.out, by omega⟩, HG.out.trans (by repeat (first | with_reducible exact Gr.refl _ | with_reducible refine Gr.alloc ?_ _ | with_reducible refine Gr.drew ?_ | with_reducible refine Gr.trans ?_ (by assumption) | with_reducible refine Gr.setCell ?_ (by (try simp); (try omega)) _))⟩
    · obtain rfl : n = j := by omega
      obtain ⟨wp, rfl⟩ : ∃ wp : World, wp = wr := ⟨_, rfl⟩
      go_wp2
      go_ret
      exact ⟨-1, rfl, Or.inl ⟨HOK.out, rfl⟩, HG.out⟩

set_option maxHeartbeats 2000000 in
theorem anyWide (A : Option Addr) (n c : Nat) (f : Nat → Nat → Int) (P : Nat → Bool) (B : Nat) (w : World) (hA : RowsAt w 6 A n f) (hn : n ≤ 4611686018427387904)
    (hC : ∀ W, Gr w W → ∀ j, j < n → Calls Tryd.prog 32 #[.agg #[.int .i64 (f j 0), .int .i64 (f j 1), .int .i64 (f j 2), .int .i64 (f j 3), .int .i64 (f j 4), .int .i64 (f j 5)], .pointer (some ⟨B, 0, none⟩)] W fun e w' => e = .returned (.bool (!P j)) ∧ Gr W w') :
    Calls Tryd.prog 34 #[.slice A n c, .func (.func 32) #[] #[.pointer (some ⟨B, 0, none⟩)]] w fun e w' => e = .returned (.bool (!allN P n)) ∧ Gr w w' := by
  have HC := Lib.hid (idxWide A n c f P B w hA hn hC)
  clear hA hC
  go_enter Tryd.func34, Tryd.ntmps34
  go_wp2_with fail
  go_at_call 53
  refine HC.out.mono ?_
  rintro e w' ⟨k, rfl, hk, hb⟩
  have HB := Lib.hid hb
  clear hb
  rcases hk with ⟨h, rfl⟩ | ⟨h, hk⟩
  · have H := Lib.hid h
    clear h
    go_wp2_with fail
    go_ret
    exact ⟨ret_bool (by rw [H.out]; rfl), HB.out⟩
  · have H := Lib.hid h
    clear h
    go_wp2_with fail
    go_ret
    exact ⟨ret_bool (by rw [H.out]; first | (simp; done) | (simp; omega)), HB.out⟩

/-- What the comparison with the pitch before says. -/
theorem cmp_last {q : Nat → Nat → Int} {nf k : Nat} (hk : k < nf) (h : risesB q k = true) (l0 l1 l2 l3 l4 l5 : Int) (hl : lastV q k = ⟨l0, l1, l2, l3, l4, l5⟩) :
    ∃ c e : Int, (∀ W, Primes W → Calls Tryd.prog 31 #[.agg #[.int .i64 (q k 0), .int .i64 (q k 1), .int .i64 (q k 2), .int .i64 (q k 3), .int .i64 (q k 4), .int .i64 (q k 5)], .agg #[.int .i64 l0, .int .i64 l1, .int .i64 l2, .int .i64 l3, .int .i64 l4, .int .i64 l5]] W fun e' w' => e' = .returned (.tuple #[.int .i64 c, .int .i64 e]) ∧ Gr W w') ∧
      ((e = 0 ∧ 0 < c ∧ risesB q (k + 1) = true) ∨ (e = 1 ∧ c = 0 ∧ risesB q nf = false) ∨ (e = 0 ∧ ¬ 0 < c ∧ risesB q nf = false)) := by
  have hla := lastV_in h (Nat.le_refl k)
  rw [hl] at hla
  rcases bool_tf (allIn (rowV q k) 576 6) with hv | hv
  · refine ⟨cmpP ((rowV q k).sub (lastV q k)), 0, fun W hP => ?_, ?_⟩
    · rw [hl]; exact pcmp_ok (q k 0) (q k 1) (q k 2) (q k 3) (q k 4) (q k 5) l0 l1 l2 l3 l4 l5 W hP hv hla
    · by_cases hc : 0 < cmpP ((rowV q k).sub (lastV q k))
      · exact .inl ⟨rfl, hc, risesB_next h hv hc⟩
      · exact .inr (.inr ⟨rfl, hc, risesB_no hk (.inr hc)⟩)
  · exact ⟨0, 1, fun W _ => pcmp_bad1 (q k 0) (q k 1) (q k 2) (q k 3) (q k 4) (q k 5) l0 l1 l2 l3 l4 l5 W hv, .inr (.inl ⟨rfl, rfl, risesB_no hk (.inl hv)⟩)⟩

set_option maxRecDepth 100000 in
set_option maxHeartbeats 16000000 in
theorem neckValid_lim (O Q : Option Addr) (no co nf cq : Nat) (sp tl : Int) (o q : Nat → Nat → Int) (w : World) (hno : no ≤ 9223372036854775807) (hnf : nf ≤ 9223372036854775807) (h : ¬ (1 ≤ no ∧ no ≤ 8 ∧ nf ≤ 36 ∧ 0 ≤ sp ∧ sp ≤ 36 ∧ 0 ≤ tl ∧ tl ≤ 50000)) :
    Calls Tryd.prog 13 #[.agg #[.slice O no co, .slice Q nf cq, .int .i64 sp, .int .i64 tl]] w fun e w' => e = .returned (.bool (neckB no o nf q sp tl)) ∧ Gr w w' := by
  rw [neckB_lim h]
  rcases (by omega : (no = 0) ∨ (1 ≤ no ∧ 8 < no) ∨ (1 ≤ no ∧ no ≤ 8 ∧ 36 < nf) ∨ (1 ≤ no ∧ no ≤ 8 ∧ nf ≤ 36 ∧ sp < 0) ∨ (1 ≤ no ∧ no ≤ 8 ∧ nf ≤ 36 ∧ 0 ≤ sp ∧ 36 < sp) ∨ (1 ≤ no ∧ no ≤ 8 ∧ nf ≤ 36 ∧ 0 ≤ sp ∧ sp ≤ 36 ∧ tl < 0) ∨ (1 ≤ no ∧ no ≤ 8 ∧ nf ≤ 36 ∧ 0 ≤ sp ∧ sp ≤ 36 ∧ 0 ≤ tl ∧ 50000 < tl)) with k0 | ⟨k0, k1⟩ | ⟨k0, k1, k2⟩ | ⟨k0, k1, k2, k3⟩ | ⟨k0, k1, k2, k3, k4⟩ | ⟨k0, k1, k2, k3, k4, k5⟩ | ⟨k0, k1, k2, k3, k4, k5, k6⟩
  all_goals
    clear h
    (try subst k0)
    go_enter Tryd.func13, Tryd.ntmps13
    go_wp2_with fail
    go_ret
    exact ⟨rfl, (by repeat (first | with_reducible exact Gr.refl _ | with_reducible refine Gr.alloc ?_ _ | with_reducible refine Gr.drew ?_ | with_reducible refine Gr.trans ?_ (by assumption) | with_reducible refine Gr.setCell ?_ (by (try simp); (try omega)) _))⟩

set_option maxRecDepth 100000 in
set_option maxHeartbeats 16000000 in
theorem neckValid_in (O Q : Option Addr) (no co nf cq : Nat) (sp tl : Int) (o q : Nat → Nat → Int) (w : World) (hP : Primes w) (hO : RowsAt w 6 O no o) (hQ : RowsAt w 6 Q nf q) (h : 1 ≤ no ∧ no ≤ 8 ∧ nf ≤ 36 ∧ 0 ≤ sp ∧ sp ≤ 36 ∧ 0 ≤ tl ∧ tl ≤ 50000) :
    Calls Tryd.prog 13 #[.agg #[.slice O no co, .slice Q nf cq, .int .i64 sp, .int .i64 tl]] w fun e w' => e = .returned (.bool (neckB no o nf q sp tl)) ∧ Gr w w' := by
  rw [neckB_in h]
  obtain ⟨k1, k2, k3, k4, k5, k6, k7⟩ := h
  have HP := Lib.hid hP; have HO := Lib.hid hO; have HQ := Lib.hid hQ
  clear hP hO hQ
  have d1 : ((no : Int) == 0) = false := by simp; omega
  have d1' : (no == 0) = false := by simp; omega
  have d2 : decide (8 < (no : Int)) = false := decide_eq_false (by omega)
  have d2' : decide (8 < no) = false := decide_eq_false (by omega)
  have d3 : decide (36 < (nf : Int)) = false := decide_eq_false (by omega)
  have d3' : decide (36 < nf) = false := decide_eq_false (by omega)
  have d4 : decide (sp < 0) = false := decide_eq_false (by omega)
  have d5 : decide (36 < sp) = false := decide_eq_false (by omega)
  have d6 : decide (tl < 0) = false := decide_eq_false (by omega)
  have d7 : decide (50000 < tl) = false := decide_eq_false (by omega)
  go_enter Tryd.func13, Tryd.ntmps13
  go_upto_region 3 with fail
  have HB := Lib.hid (neckAt_new w O Q no co nf cq sp tl 24)
  have HG0 : Hid (Gr w (w.alloc (.cells #[.slice O no co, .slice Q nf cq, .int .i64 sp, .int .i64 tl] 24))) := Lib.hid ((Gr.refl _).alloc _)
  clear d1 d1' d2 d2' d3 d3' d4 d5 d6 d7
  generalize hW0 : w.alloc (.cells #[.slice O no co, .slice Q nf cq, .int .i64 sp, .int .i64 tl] 24) = W0 at *
  clear hW0
  obtain ⟨hl0, b0, b1, b2, b3⟩ := HB.out
  go_wp2_with fail
  clear hl0 b0 b1 b2 b3
  go_loopw [50] (fun i wr => ∃ k : Nat, k ≤ nf ∧ i = .int .i64 (k : Int) ∧ risesB q k = true ∧ Gr W0 wr) (fun i _ => nf - (intOf i).toNat)
  case atStart => exact ⟨0, Nat.zero_le _, rfl, rfl, Gr.refl _⟩
  case round =>
    obtain ⟨k, hk, rfl, hok, hg⟩ := hrel
    have HOK := Lib.hid hok; have HGR := Lib.hid hg; have HG := Lib.hid (HG0.out.trans hg)
    obtain ⟨hl0, b0, b1, b2, b3⟩ := HB.out.keep hg
    clear hok hg
    by_cases hlt : k < nf
    · obtain ⟨b, off, rfl, hbl, c0, c1, c2, c3, c4, c5⟩ := (HQ.out.keep HG.out).six hlt
      have hlt' : decide ((k : Int) < (nf : Int)) = true := decide_eq_true (by omega)
      obtain ⟨wo, rfl⟩ : ∃ wo : World, wo = wr := ⟨_, rfl⟩
      have hdec0 : (k = 0) ∨ ∃ p, k = p + 1 := by cases k with
        | zero => exact Or.inl rfl
        | succ p => exact Or.inr ⟨p, rfl⟩
      rcases hdec0 with hz0 | ⟨p, hp⟩
      · obtain ⟨c, e, hC, hcs⟩ := cmp_last hlt HOK.out 0 0 0 0 0 0 (by rw [hz0]; rfl)
        have HC := Lib.hid hC
        have hkz : decide (0 < (k : Int)) = false := decide_eq_false (by omega)
        have hkz2 : decide (0 < k) = false := decide_eq_false (by omega)
        clear hC HOK hz0
        rcases hcs with ⟨rfl, hc, hn⟩ | ⟨rfl, rfl, hn⟩ | ⟨rfl, hc, hn⟩
        · have hcb : decide (c ≤ 0) = false := decide_eq_false (by omega)
          have HN := Lib.hid hn
          clear hn
          go_wp2_with fail
          (go_at_call 31; with_reducible refine (HC.out _ (HP.out.keep (HG.out.trans (by repeat (first | with_reducible exact Gr.refl _ | with_reducible refine Gr.alloc ?_ _ | with_reducible refine Gr.drew ?_ | with_reducible refine Gr.trans ?_ (by assumption) | with_reducible refine Gr.setCell ?_ (by (try simp); (try omega)) _))))).mono ?_; rintro e w' ⟨rfl, hb⟩; have hz := hb.le; obtain ⟨hc, hf⟩ := hb.cells; have hn := hb.cellsN; (try simp only [World.size_alloc] at hc hf hz hn); (try simp only [World.size_setCell] at hc hf hz hn); (try simp only [World.size_drew] at hc hf hz hn))
          go_wp2_with fail
          go_roundw
          case rel => exact ⟨k + 1, by omega, by go_num, HN.out, HGR.out.trans (by repeat (first | with_reducible exact Gr.refl _ | with_reducible refine Gr.alloc ?_ _ | with_reducible refine Gr.drew ?_ | with_reducible refine Gr.trans ?_ (by assumption) | with_reducible refine Gr.setCell ?_ (by (try simp); (try omega)) _))⟩
          case measure => simp [intOf]; omega
        · have HN := Lib.hid hn
          clear hn
          go_wp2_with fail
          (go_at_call 31; with_reducible refine (HC.out _ (HP.out.keep (HG.out.trans (by repeat (first | with_reducible exact Gr.refl _ | with_reducible refine Gr.alloc ?_ _ | with_reducible refine Gr.drew ?_ | with_reducible refine Gr.trans ?_ (by assumption) | with_reducible refine Gr.setCell ?_ (by (try simp); (try omega)) _))))).mono ?_; rintro e w' ⟨rfl, hb⟩; have hz := hb.le; obtain ⟨hc, hf⟩ := hb.cells; have hn := hb.cellsN; (try simp only [World.size_alloc] at hc hf hz hn); (try simp only [World.size_setCell] at hc hf hz hn); (try simp only [World.size_drew] at hc hf hz hn))
          go_wp2_with fail
          go_ret
          exact ⟨ret_bool (by rw [HN.out, Bool.false_and]), HG0.out.trans (HGR.out.trans (by repeat (first | with_reducible exact Gr.refl _ | with_reducible refine Gr.alloc ?_ _ | with_reducible refine Gr.drew ?_ | with_reducible refine Gr.trans ?_ (by assumption) | with_reducible refine Gr.setCell ?_ (by (try simp); (try omega)) _)))⟩
        · have hcb : decide (c ≤ 0) = true := decide_eq_true (by omega)
          have HN := Lib.hid hn
          clear hn
          go_wp2_with fail
          (go_at_call 31; with_reducible refine (HC.out _ (HP.out.keep (HG.out.trans (by repeat (first | with_reducible exact Gr.refl _ | with_reducible refine Gr.alloc ?_ _ | with_reducible refine Gr.drew ?_ | with_reducible refine Gr.trans ?_ (by assumption) | with_reducible refine Gr.setCell ?_ (by (try simp); (try omega)) _))))).mono ?_; rintro e w' ⟨rfl, hb⟩; have hz := hb.le; obtain ⟨hc, hf⟩ := hb.cells; have hn := hb.cellsN; (try simp only [World.size_alloc] at hc hf hz hn); (try simp only [World.size_setCell] at hc hf hz hn); (try simp only [World.size_drew] at hc hf hz hn))
          go_wp2_with fail
          go_ret
          exact ⟨ret_bool (by rw [HN.out, Bool.false_and]), HG0.out.trans (HGR.out.trans (by repeat (first | with_reducible exact Gr.refl _ | with_reducible refine Gr.alloc ?_ _ | with_reducible refine Gr.drew ?_ | with_reducible refine Gr.trans ?_ (by assumption) | with_reducible refine Gr.setCell ?_ (by (try simp); (try omega)) _)))⟩
      · obtain ⟨c, e, hC, hcs⟩ := cmp_last hlt HOK.out (q p 0) (q p 1) (q p 2) (q p 3) (q p 4) (q p 5) (by rw [hp]; rfl)
        have HC := Lib.hid hC
        have hkz : decide (0 < (k : Int)) = true := decide_eq_true (by omega)
        have hkz2 : decide (0 < k) = true := decide_eq_true (by omega)
        have hwk : IntKind.i64.wrap ((k : Int) - 1) = (p : Int) := (IntWalk.i64_in _ ⟨by omega, by omega⟩).trans (by omega)
        obtain ⟨b', off', hbo, hbl', e0, e1, e2, e3, e4, e5⟩ := (HQ.out.keep HG.out).six (show p < nf by omega)
        cases hbo
        have hp0 : (0 : Int) ≤ (p : Int) := by omega
        have hpn : (p : Int) < (nf : Int) := by omega
        clear hC HOK hp
        rcases hcs with ⟨rfl, hc, hn⟩ | ⟨rfl, rfl, hn⟩ | ⟨rfl, hc, hn⟩
        · have hcb : decide (c ≤ 0) = false := decide_eq_false (by omega)
          have HN := Lib.hid hn
          clear hn
          go_wp2_with fail
          (go_at_call 31; with_reducible refine (HC.out _ (HP.out.keep (HG.out.trans (by repeat (first | with_reducible exact Gr.refl _ | with_reducible refine Gr.alloc ?_ _ | with_reducible refine Gr.drew ?_ | with_reducible refine Gr.trans ?_ (by assumption) | with_reducible refine Gr.setCell ?_ (by (try simp); (try omega)) _))))).mono ?_; rintro e w' ⟨rfl, hb⟩; have hz := hb.le; obtain ⟨hc, hf⟩ := hb.cells; have hn := hb.cellsN; (try simp only [World.size_alloc] at hc hf hz hn); (try simp only [World.size_setCell] at hc hf hz hn); (try simp only [World.size_drew] at hc hf hz hn))
          go_wp2_with fail
          go_roundw
          case rel => exact ⟨k + 1, by omega, by go_num, HN.out, HGR.out.trans (by repeat (first | with_reducible exact Gr.refl _ | with_reducible refine Gr.alloc ?_ _ | with_reducible refine Gr.drew ?_ | with_reducible refine Gr.trans ?_ (by assumption) | with_reducible refine Gr.setCell ?_ (by (try simp); (try omega)) _))⟩
          case measure => simp [intOf]; omega
        · have HN := Lib.hid hn
          clear hn
          go_wp2_with fail
          (go_at_call 31; with_reducible refine (HC.out _ (HP.out.keep (HG.out.trans (by repeat (first | with_reducible exact Gr.refl _ | with_reducible refine Gr.alloc ?_ _ | with_reducible refine Gr.drew ?_ | with_reducible refine Gr.trans ?_ (by assumption) | with_reducible refine Gr.setCell ?_ (by (try simp); (try omega)) _))))).mono ?_; rintro e w' ⟨rfl, hb⟩; have hz := hb.le; obtain ⟨hc, hf⟩ := hb.cells; have hn := hb.cellsN; (try simp only [World.size_alloc] at hc hf hz hn); (try simp only [World.size_setCell] at hc hf hz hn); (try simp only [World.size_drew] at hc hf hz hn))
          go_wp2_with fail
          go_ret
          exact ⟨ret_bool (by rw [HN.out, Bool.false_and]), HG0.out.trans (HGR.out.trans (by repeat (first | with_reducible exact Gr.refl _ | with_reducible refine Gr.alloc ?_ _ | with_reducible refine Gr.drew ?_ | with_reducible refine Gr.trans ?_ (by assumption) | with_reducible refine Gr.setCell ?_ (by (try simp); (try omega)) _)))⟩
        · have hcb : decide (c ≤ 0) = true := decide_eq_true (by omega)
          have HN := Lib.hid hn
          clear hn
          go_wp2_with fail
          (go_at_call 31; with_reducible refine (HC.out _ (HP.out.keep (HG.out.trans (by repeat (first | with_reducible exact Gr.refl _ | with_reducible refine Gr.alloc ?_ _ | with_reducible refine Gr.drew ?_ | with_reducible refine Gr.trans ?_ (by assumption) | with_reducible refine Gr.setCell ?_ (by (try simp); (try omega)) _))))).mono ?_; rintro e w' ⟨rfl, hb⟩; have hz := hb.le; obtain ⟨hc, hf⟩ := hb.cells; have hn := hb.cellsN; (try simp only [World.size_alloc] at hc hf hz hn); (try simp only [World.size_setCell] at hc hf hz hn); (try simp only [World.size_drew] at hc hf hz hn))
          go_wp2_with fail
          go_ret
          exact ⟨ret_bool (by rw [HN.out, Bool.false_and]), HG0.out.trans (HGR.out.trans (by repeat (first | with_reducible exact Gr.refl _ | with_reducible refine Gr.alloc ?_ _ | with_reducible refine Gr.drew ?_ | with_reducible refine Gr.trans ?_ (by assumption) | with_reducible refine Gr.setCell ?_ (by (try simp); (try omega)) _)))⟩
    · obtain rfl : nf = k := by omega
      have HRS := HOK
      obtain ⟨wo, rfl⟩ : ∃ wo : World, wo = wr := ⟨_, rfl⟩
      have hlt' : decide ((nf : Int) < (nf : Int)) = false := decide_eq_false (by omega)
      have HGX := HGR
      go_wp2_with fail
      clear HOK hlt hlt' hl0 b0 b1 b2 b3
      clear HGR HG
      go_loopw [79] (fun i wr => ∃ s : Nat, s ≤ no ∧ i = .int .i64 (s : Int) ∧ opensB o q nf s = true ∧ Gr W0 wr) (fun i _ => no - (intOf i).toNat)
      case atStart => exact ⟨0, Nat.zero_le _, rfl, rfl, HGX.out⟩
      case round =>
        obtain ⟨s, hs, rfl, hok, hg⟩ := hrel
        have HOK := Lib.hid hok; have HGR := Lib.hid hg; have HG := Lib.hid (HG0.out.trans hg)
        obtain ⟨hl0, b0, b1, b2, b3⟩ := HB.out.keep hg
        clear hok hg
        by_cases hlt : s < no
        · obtain ⟨b, off, rfl, hbl, c0, c1, c2, c3, c4, c5⟩ := (HO.out.keep HG.out).six hlt
          have hlt' : decide ((s : Int) < (no : Int)) = true := decide_eq_true (by omega)
          obtain ⟨wo, rfl⟩ : ∃ wo : World, wo = wr := ⟨_, rfl⟩
          have hV := fun W => pitchValid_any (o s 0) (o s 1) (o s 2) (o s 3) (o s 4) (o s 5) W
          rcases bool_tf (allIn (rowV o s) 576 6) with hv | hv
          · have hv' : allIn ⟨o s 0, o s 1, o s 2, o s 3, o s 4, o s 5⟩ 576 6 = true := hv
            rw [hv'] at hV
            have HV := Lib.hid hV; have HVA := Lib.hid hv
            clear hV hv hv'
            go_wp2_with fail
            (go_at_call 33; with_reducible refine (HV.out _).mono ?_; rintro e w' ⟨rfl, hb⟩; have hz := hb.le; obtain ⟨hc, hf⟩ := hb.cells; have hn := hb.cellsN; (try simp only [World.size_alloc] at hc hf hz hn); (try simp only [World.size_setCell] at hc hf hz hn); (try simp only [World.size_drew] at hc hf hz hn))
            have hS : SixV w' wo.heap.size (.int .i64 (o s 0)) (.int .i64 (o s 1)) (.int .i64 (o s 2)) (.int .i64 (o s 3)) (.int .i64 (o s 4)) (.int .i64 (o s 5)) := ⟨by simp [go_sem, *], by simp [go_sem, *], by simp [go_sem, *], by simp [go_sem, *], by simp [go_sem, *], by simp [go_sem, *]⟩
            have hlS : wo.heap.size < w'.heap.size := by omega
            have hN1 := HB.out.keep (HGR.out.trans (show Gr wo w' from (by repeat (first | with_reducible exact Gr.refl _ | with_reducible refine Gr.alloc ?_ _ | with_reducible refine Gr.drew ?_ | with_reducible refine Gr.trans ?_ (by assumption) | with_reducible refine Gr.setCell ?_ (by (try simp); (try omega)) _))))
            obtain ⟨hl1, b4, b5, b6, b7⟩ := hN1
            have HG2 := Lib.hid (show Gr wo w' from (by repeat (first | with_reducible exact Gr.refl _ | with_reducible refine Gr.alloc ?_ _ | with_reducible refine Gr.drew ?_ | with_reducible refine Gr.trans ?_ (by assumption) | with_reducible refine Gr.setCell ?_ (by (try simp); (try omega)) _)))
            have HSS := Lib.hid hS
            clear hb hz hc hf hn hS b0 b1 b2 b3 c0 c1 c2 c3 c4 c5 hl0
            obtain ⟨w2, rfl⟩ : ∃ w2 : World, w2 = w' := ⟨_, rfl⟩
            go_wp2_with fail
            go_at_call 34
            refine (anyWide Q nf cq q (fun k => allIn ((rowV o s).add (rowV q k)) 576 6) wo.heap.size w2 (HQ.out.keep (HG.out.trans HG2.out)) (by omega) (fun W g j hj => wide_any wo.heap.size (o s 0) (o s 1) (o s 2) (o s 3) (o s 4) (o s 5) (q j 0) (q j 1) (q j 2) (q j 3) (q j 4) (q j 5) W (HSS.out.keep g hlS) (Nat.lt_of_lt_of_le hlS g.le) HVA.out (risesB_at HRS.out hj).1)).mono ?_
            rw [← fitsB_all]
            rintro e w3 ⟨rfl, hb3⟩
            have HG3 := Lib.hid (HG2.out.trans hb3)
            clear hb3
            rcases bool_tf (fitsB (rowV o s) q nf) with hfb | hfb
            · have HN := Lib.hid (opensB_next HOK.out HVA.out hfb)
              simp only [hfb]
              clear hfb
              go_wp2_with fail
              go_roundw
              case rel => exact ⟨s + 1, by omega, by go_num, HN.out, HGR.out.trans HG3.out⟩
              case measure => simp [intOf]; omega
            · have HN := Lib.hid (opensB_no (nf := nf) hlt (.inr hfb))
              simp only [hfb]
              clear hfb
              go_wp2_with fail
              go_ret
              exact ⟨ret_bool (by rw [HN.out, Bool.and_false]), HG0.out.trans (HGR.out.trans HG3.out)⟩
          · have hv' : allIn ⟨o s 0, o s 1, o s 2, o s 3, o s 4, o s 5⟩ 576 6 = false := hv
            have HN := Lib.hid (opensB_no (q := q) (nf := nf) hlt (.inl hv))
            rw [hv'] at hV
            have HV := Lib.hid hV
            clear hV hv hv'
            go_wp2_with fail
            (go_at_call 33; with_reducible refine (HV.out _).mono ?_; rintro e w' ⟨rfl, hb⟩; have hz := hb.le; obtain ⟨hc, hf⟩ := hb.cells; have hn := hb.cellsN; (try simp only [World.size_alloc] at hc hf hz hn); (try simp only [World.size_setCell] at hc hf hz hn); (try simp only [World.size_drew] at hc hf hz hn))
            go_wp2_with fail
            go_ret
            exact ⟨ret_bool (by rw [HN.out, Bool.and_false]), HG0.out.trans (HGR.out.trans (by repeat (first | with_reducible exact Gr.refl _ | with_reducible refine Gr.alloc ?_ _ | with_reducible refine Gr.drew ?_ | with_reducible refine Gr.trans ?_ (by assumption) | with_reducible refine Gr.setCell ?_ (by (try simp); (try omega)) _)))⟩
        · obtain rfl : no = s := by omega
          obtain ⟨wo, rfl⟩ : ∃ wo : World, wo = wr := ⟨_, rfl⟩
          have hlt' : decide ((no : Int) < (no : Int)) = false := decide_eq_false (by omega)
          go_wp2_with fail
          go_ret
          exact ⟨ret_bool (by rw [HOK.out, HRS.out]; rfl), HG0.out.trans HGR.out⟩
theorem neckValid_any (O Q : Option Addr) (no co nf cq : Nat) (sp tl : Int) (o q : Nat → Nat → Int) (w : World) (hP : Primes w) (hO : RowsAt w 6 O no o) (hQ : RowsAt w 6 Q nf q) (hno : no ≤ 9223372036854775807) (hnf : nf ≤ 9223372036854775807) :
    Calls Tryd.prog 13 #[.agg #[.slice O no co, .slice Q nf cq, .int .i64 sp, .int .i64 tl]] w fun e w' => e = .returned (.bool (neckB no o nf q sp tl)) ∧ Gr w w' := by
  by_cases h : 1 ≤ no ∧ no ≤ 8 ∧ nf ≤ 36 ∧ 0 ≤ sp ∧ sp ≤ 36 ∧ 0 ≤ tl ∧ tl ≤ 50000
  · exact neckValid_in O Q no co nf cq sp tl o q w hP hO hQ h
  · exact neckValid_lim O Q no co nf cq sp tl o q w hno hnf h
end Go.Proofs.YtohalcookjbaaaaDoor
