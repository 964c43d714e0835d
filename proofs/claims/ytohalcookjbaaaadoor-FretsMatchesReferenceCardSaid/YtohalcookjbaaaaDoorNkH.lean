/-
  frets.held and frets.Fits.
-/
import Derived.Test.YtohalcookjbaaaaDoorNkSd
import Derived.Test.YtohalcookjbaaaaDoorNkF
import Derived.WalkMore
namespace Go.Proofs.YtohalcookjbaaaaDoor
open Go.RowKit

set_option maxRecDepth 100000 in
set_option maxHeartbeats 16000000 in
theorem held_any (sp : Int) (A : Option Addr) (n c : Nat) (f : Nat → Nat → Int) (w : World) (hA : RowsAt w 2 A n f) (hn : n ≤ 4611686018427387904) (hnc : n ≤ c) (hf : ∀ i, i < n → 0 ≤ f i 1 ∧ f i 1 ≤ 1000) :
    Calls Tryd.prog 39 #[.int .i64 sp, .slice A n c] w fun e w' => e = .returned (.bool (heldB sp f n)) ∧ Gr w w' := by
  have HA := Lib.hid hA; have HF := Lib.hid hf
  clear hA hf
  go_enter Tryd.func39, Tryd.ntmps39
  go_wp2
  go_step3
  go_wp2
  go_step3
  go_wp2
  go_loopw [5, 12] (fun sv iv wr => ∃ i : Nat, i ≤ n ∧ sv = .bool true ∧ iv = .int .i64 (i : Int) ∧ heldB sp f i = true ∧ Gr w wr) (fun _ iv _ => n - (intOf iv).toNat)
  case atStart => exact ⟨0, Nat.zero_le _, rfl, rfl, rfl, Gr.refl _⟩
  case round =>
    obtain ⟨i, hi, rfl, rfl, hh, hg⟩ := hrel
    have HH := Lib.hid hh; have HG := Lib.hid hg
    clear hh hg
    by_cases hlt : i < n
    · obtain ⟨b, off, rfl, hbl, c0, c1⟩ := (HA.out.keep HG.out).two hlt
      obtain ⟨wo, rfl⟩ : ∃ wo : World, wo = wr := ⟨_, rfl⟩
      have hlt' : decide ((i : Int) < (n : Int)) = true := decide_eq_true (by omega)
      have hi0 : (0 : Int) ≤ (i : Int) := by omega
      have hic : (i : Int) ≤ (c : Int) := by omega
      have hic2 : i ≤ c := by omega
      go_upto_region 5 with fail
      have HT0 : Hid ((wo.alloc (.cells #[.int .i64 (f i 0), .int .i64 (f i 1)] 37)).cell? ⟨wo.heap.size, 0, none⟩ = some (.int .i64 (f i 0)) ∧ (wo.alloc (.cells #[.int .i64 (f i 0), .int .i64 (f i 1)] 37)).cell? ⟨wo.heap.size, 1, none⟩ = some (.int .i64 (f i 1)) ∧ wo.heap.size < (wo.alloc (.cells #[.int .i64 (f i 0), .int .i64 (f i 1)] 37)).heap.size) := Lib.hid ⟨by simp [go_sem], by simp [go_sem], by simp⟩
      have HGB : Hid (Gr wo (wo.alloc (.cells #[.int .i64 (f i 0), .int .i64 (f i 1)] 37))) := Lib.hid ((Gr.refl _).alloc _)
      generalize hW1 : wo.alloc (.cells #[.int .i64 (f i 0), .int .i64 (f i 1)] 37) = W1 at *
      clear hW1 c0 c1
      generalize wo.heap.size = T at HT0 ⊢
      go_wp2_with fail
      go_loopw [5, 21] (fun sv jv wr => ∃ j : Nat, j ≤ i ∧ sv = .bool true ∧ jv = .int .i64 (j : Int) ∧ heldRow sp f i j = true ∧ Gr W1 wr) (fun _ jv _ => i - (intOf jv).toNat)
      case atStart => exact ⟨0, Nat.zero_le _, rfl, rfl, rfl, Gr.refl _⟩
      case round =>
        obtain ⟨j, hj, rfl, rfl, hr, hg⟩ := hrel
        have HR := Lib.hid hr; have HG2 := Lib.hid hg
        clear hr
        have a0 := (Below.cell (p := ⟨T, 0, none⟩) hg HT0.out.2.2).trans HT0.out.1
        have a1 := (Below.cell (p := ⟨T, 1, none⟩) hg HT0.out.2.2).trans HT0.out.2.1
        have hTl := Nat.lt_of_lt_of_le HT0.out.2.2 hg.le
        by_cases hjl : j < i
        · obtain ⟨b', off', hbo, hbl', d0, d1⟩ := (HA.out.keep ((HG.out.trans HGB.out).trans hg)).two (show j < n by omega)
          cases hbo
          have hjl' : decide ((j : Int) < (i : Int)) = true := decide_eq_true (by omega)
          have hj0 : (0 : Int) ≤ (j : Int) := by omega
          obtain ⟨k0, k1⟩ := HF.out i hlt
          obtain ⟨k2, k3⟩ := HF.out j (by omega)
          clear hg
          have HGB2 := HGB
          clear HGB
          have HGB := Lib.hid (HGB2.out.trans HG2.out)
          clear HGB2
          obtain ⟨wp, rfl⟩ : ∃ wp : World, wp = wr := ⟨_, rfl⟩
          by_cases p1 : f i 0 = f j 0
          · have HN : Hid (heldB sp f n = false) := Lib.hid (heldB_no hjl hlt (by unfold okP; rw [decide_eq_true p1]; rfl))
            have q1 : (f i 0 == f j 0) = true := by simpa using p1
            clear p1
            go_wp2_with fail
            rw [Exit.noGoto_ret]
            go_ret
            exact ⟨ret_bool HN.out.symm, HG.out.trans (HGB.out.trans (by repeat (first | with_reducible exact Gr.refl _ | with_reducible refine Gr.alloc ?_ _ | with_reducible refine Gr.drew ?_ | with_reducible refine Gr.trans ?_ (by assumption) | with_reducible refine Gr.setCell ?_ (by (try simp); (try omega)) _)))⟩
          · have q1 : (f i 0 == f j 0) = false := by simpa using p1
            by_cases p2 : 0 < f i 1
            · have q2 : decide (0 < f i 1) = true := decide_eq_true p2
              by_cases p3 : 0 < f j 1
              · have q3 : decide (0 < f j 1) = true := decide_eq_true p3
                have hw1 : IntKind.i64.wrap (f i 1 - f j 1) = f i 1 - f j 1 := IntWalk.i64_in _ ⟨by omega, by omega⟩
                have hw2 : IntKind.i64.wrap (f j 1 - f i 1) = f j 1 - f i 1 := IntWalk.i64_in _ ⟨by omega, by omega⟩
                by_cases p4 : sp < max (f i 1 - f j 1) (f j 1 - f i 1)
                · have HN : Hid (heldB sp f n = false) := Lib.hid (heldB_no hjl hlt (by unfold okP; rw [decide_eq_true (show 0 < f i 1 ∧ 0 < f j 1 ∧ (sp < f i 1 - f j 1 ∨ sp < f j 1 - f i 1) from ⟨p2, p3, by omega⟩), Bool.not_true, Bool.and_false]))
                  have q4 : decide (sp < max (f i 1 - f j 1) (f j 1 - f i 1)) = true := decide_eq_true p4
                  clear p1 p2 p3 p4
                  go_wp2_with fail
                  rw [Exit.noGoto_ret]
                  go_ret
                  exact ⟨ret_bool HN.out.symm, HG.out.trans (HGB.out.trans (by repeat (first | with_reducible exact Gr.refl _ | with_reducible refine Gr.alloc ?_ _ | with_reducible refine Gr.drew ?_ | with_reducible refine Gr.trans ?_ (by assumption) | with_reducible refine Gr.setCell ?_ (by (try simp); (try omega)) _)))⟩
                · have HS : Hid (heldRow sp f i (j + 1) = true) := Lib.hid (by have e := HR.out; simp only [heldRow, e, Bool.true_and]; unfold okP; rw [decide_eq_false p1, decide_eq_false (fun h => p4 (by omega) : ¬ (0 < f i 1 ∧ 0 < f j 1 ∧ (sp < f i 1 - f j 1 ∨ sp < f j 1 - f i 1)))]; rfl)
                  have q4 : decide (sp < max (f i 1 - f j 1) (f j 1 - f i 1)) = false := decide_eq_false p4
                  clear p1 p2 p3 p4
                  go_wp2_with fail
                  go_roundw
                  all_goals first | exact ⟨j + 1, by omega, rfl, by go_num, HS.out, HG2.out.trans (by repeat (first | with_reducible exact Gr.refl _ | with_reducible refine Gr.alloc ?_ _ | with_reducible refine Gr.drew ?_ | with_reducible refine Gr.trans ?_ (by assumption) | with_reducible refine Gr.setCell ?_ (by (try simp); (try omega)) _))⟩ | (simp [intOf]; omega; done) | exact ⟨⟨j + 1, by omega, rfl, by go_num, HS.out, HG2.out.trans (by repeat (first | with_reducible exact Gr.refl _ | with_reducible refine Gr.alloc ?_ _ | with_reducible refine Gr.drew ?_ | with_reducible refine Gr.trans ?_ (by assumption) | with_reducible refine Gr.setCell ?_ (by (try simp); (try omega)) _))⟩, by simp [intOf]; omega⟩
              · have HS : Hid (heldRow sp f i (j + 1) = true) := Lib.hid (by have e := HR.out; simp only [heldRow, e, Bool.true_and]; unfold okP; rw [decide_eq_false p1, decide_eq_false (fun h => p3 h.2.1 : ¬ (0 < f i 1 ∧ 0 < f j 1 ∧ (sp < f i 1 - f j 1 ∨ sp < f j 1 - f i 1)))]; rfl)
                have q3 : decide (0 < f j 1) = false := decide_eq_false p3
                clear p1 p2 p3
                go_wp2_with fail
                go_roundw
                all_goals first | exact ⟨j + 1, by omega, rfl, by go_num, HS.out, HG2.out.trans (by repeat (first | with_reducible exact Gr.refl _ | with_reducible refine Gr.alloc ?_ _ | with_reducible refine Gr.drew ?_ | with_reducible refine Gr.trans ?_ (by assumption) | with_reducible refine Gr.setCell ?_ (by (try simp); (try omega)) _))⟩ | (simp [intOf]; omega; done) | exact ⟨⟨j + 1, by omega, rfl, by go_num, HS.out, HG2.out.trans (by repeat (first | with_reducible exact Gr.refl _ | with_reducible refine Gr.alloc ?_ _ | with_reducible refine Gr.drew ?_ | with_reducible refine Gr.trans ?_ (by assumption) | with_reducible refine Gr.setCell ?_ (by (try simp); (try omega)) _))⟩, by simp [intOf]; omega⟩
            · have HS : Hid (heldRow sp f i (j + 1) = true) := Lib.hid (by have e := HR.out; simp only [heldRow, e, Bool.true_and]; unfold okP; rw [decide_eq_false p1, decide_eq_false (fun h => p2 h.1 : ¬ (0 < f i 1 ∧ 0 < f j 1 ∧ (sp < f i 1 - f j 1 ∨ sp < f j 1 - f i 1)))]; rfl)
              have q2 : decide (0 < f i 1) = false := decide_eq_false p2
              clear p1 p2
              go_wp2_with fail
              go_roundw
              all_goals first | exact ⟨j + 1, by omega, rfl, by go_num, HS.out, HG2.out.trans (by repeat (first | with_reducible exact Gr.refl _ | with_reducible refine Gr.alloc ?_ _ | with_reducible refine Gr.drew ?_ | with_reducible refine Gr.trans ?_ (by assumption) | with_reducible refine Gr.setCell ?_ (by (try simp); (try omega)) _))⟩ | (simp [intOf]; omega; done) | exact ⟨⟨j + 1, by omega, rfl, by go_num, HS.out, HG2.out.trans (by repeat (first | with_reducible exact Gr.refl _ | with_reducible refine Gr.alloc ?_ _ | with_reducible refine Gr.drew ?_ | with_reducible refine Gr.trans ?_ (by assumption) | with_reducible refine Gr.setCell ?_ (by (try simp); (try omega)) _))⟩, by simp [intOf]; omega⟩
        · obtain rfl : i = j := by omega
          have HS : Hid (heldB sp f (i + 1) = true) := Lib.hid (by simp only [heldB, HH.out, HR.out, Bool.and_self])
          have HG3 := Lib.hid ((HG.out.trans HGB.out).trans hg)
          have hjl' : decide ((i : Int) < (i : Int)) = false := decide_eq_false (by omega)
          clear hg
          obtain ⟨wp, rfl⟩ : ∃ wp : World, wp = wr := ⟨_, rfl⟩
          go_wp2_with fail
          go_roundw
          case rel => exact ⟨i + 1, by omega, rfl, by go_num, HS.out, HG3.out⟩
          case measure => simp [intOf]; omega
    · obtain rfl : n = i := by omega
      obtain ⟨wo, rfl⟩ : ∃ wo : World, wo = wr := ⟨_, rfl⟩
      go_wp2_with fail
      try rw [Exit.noGoto_ret]
      trace_state
      go_ret
      exact ⟨ret_bool HH.out.symm, HG.out⟩

set_option maxRecDepth 100000 in
set_option maxHeartbeats 16000000 in
theorem miss_any (B : Nat) (O Q : Option Addr) (no co nf cq : Nat) (sp tl s k : Int) (w : World) (hB : NeckAt w B O Q no co nf cq sp tl) :
    Calls Tryd.prog 41 #[.agg #[.int .i64 s, .int .i64 k], .pointer (some ⟨B, 0, none⟩)] w fun e w' => e = .returned (.bool (!exB no nf s k)) ∧ Gr w w' := by
  have HE := Lib.hid (fun W => exists_any O Q no co nf cq sp tl s k W)
  obtain ⟨hl0, b0, b1, b2, b3⟩ := hB
  go_enter Tryd.func41, Tryd.ntmps41
  go_wp2_with fail
  (go_at_call 42; with_reducible refine (HE.out _).mono ?_; rintro e w' ⟨rfl, hb⟩; have hz := hb.le; obtain ⟨hc, hf⟩ := hb.cells; have hn := hb.cellsN; (try simp only [World.size_alloc] at hc hf hz hn); (try simp only [World.size_setCell] at hc hf hz hn); (try simp only [World.size_drew] at hc hf hz hn))
  go_wp2_with fail
  go_ret
  exact ⟨rfl, (by repeat (first | with_reducible exact Gr.refl _ | with_reducible refine Gr.alloc ?_ _ | with_reducible refine Gr.drew ?_ | with_reducible refine Gr.trans ?_ (by assumption) | with_reducible refine Gr.setCell ?_ (by (try simp); (try omega)) _))⟩

/-- The first of n for which P holds not. -/
def IdxMiss (P : Nat → Bool) (n : Nat) (w : World) (e : Ending) (w' : World) : Prop := ∃ k : Int, e = .returned (.int .i64 k) ∧ ((allN P n = true ∧ k = -1) ∨ (allN P n = false ∧ 0 ≤ k)) ∧ Gr w w'
set_option maxRecDepth 100000 in
set_option maxHeartbeats 16000000 in
theorem idxMiss (A : Option Addr) (n c : Nat) (f : Nat → Nat → Int) (P : Nat → Bool) (B : Nat) (w : World) (hA : RowsAt w 2 A n f) (hn : n ≤ 4611686018427387904)
    (hC : ∀ W, Gr w W → ∀ j, j < n → Calls Tryd.prog 41 #[.agg #[.int .i64 (f j 0), .int .i64 (f j 1)], .pointer (some ⟨B, 0, none⟩)] W fun e w' => e = .returned (.bool (!P j)) ∧ Gr W w') :
    Calls Tryd.prog 55 #[.slice A n c, .func (.func 41) #[] #[.pointer (some ⟨B, 0, none⟩)]] w (IdxMiss P n w) := by
  have HA := Lib.hid hA; have HC := Lib.hid hC
  clear hA hC
  go_enter Tryd.func55, Tryd.ntmps55
  go_wp2
  go_loopw [8] (fun i wr => ∃ j : Nat, j ≤ n ∧ i = .int .i64 j ∧ allN P j = true ∧ Gr w wr) (fun i _ => n - (intOf i).toNat)
  case atStart => exact ⟨0, Nat.zero_le _, rfl, rfl, Gr.refl _⟩
  case round =>
    obtain ⟨j, hj, rfl, hok, hg⟩ := hrel
    have HOK := Lib.hid hok; have HG := Lib.hid hg
    clear hok hg
    by_cases hlt : j < n
    · obtain ⟨b, off, rfl, hb, c0, c1⟩ := (HA.out.keep HG.out).two hlt
      have hW := HC.out _ HG.out j hlt
      obtain ⟨wp, rfl⟩ : ∃ wp : World, wp = wr := ⟨_, rfl⟩
      rcases bool_tf (P j) with hx | hx
      · have HS : Hid (allN P (j + 1) = true) := Lib.hid (by simp [allN, HOK.out, hx])
        rw [hx] at hW
        have HW := Lib.hid hW
        clear hW hx
        go_wp2_with fail
        (go_at_call 41; with_reducible refine (HW.out).mono ?_; rintro e w' ⟨rfl, hb⟩; have hz := hb.le; obtain ⟨hc, hf⟩ := hb.cells; have hn := hb.cellsN; (try simp only [World.size_alloc] at hc hf hz hn); (try simp only [World.size_setCell] at hc hf hz hn); (try simp only [World.size_drew] at hc hf hz hn))
        go_wp2_with fail
        go_roundw
        case rel => exact ⟨j + 1, by omega, by go_num, HS.out, HG.out.trans (by repeat (first | with_reducible exact Gr.refl _ | with_reducible refine Gr.alloc ?_ _ | with_reducible refine Gr.drew ?_ | with_reducible refine Gr.trans ?_ (by assumption) | with_reducible refine Gr.setCell ?_ (by (try simp); (try omega)) _))⟩
        case measure => simp [intOf]; omega
      · have HN := Lib.hid (allN_no hlt hx)
        rw [hx] at hW
        have HW := Lib.hid hW
        clear hW hx
        go_wp2_with fail
        (go_at_call 41; with_reducible refine (HW.out).mono ?_; rintro e w' ⟨rfl, hb⟩; have hz := hb.le; obtain ⟨hc, hf⟩ := hb.cells; have hn := hb.cellsN; (try simp only [World.size_alloc] at hc hf hz hn); (try simp only [World.size_setCell] at hc hf hz hn); (try simp only [World.size_drew] at hc hf hz hn))
        go_wp2_with fail
        go_ret
        exact ⟨_, rfl, Or.inr ⟨HN.out, by omega⟩, HG.out.trans (by repeat (first | with_reducible exact Gr.refl _ | with_reducible refine Gr.alloc ?_ _ | with_reducible refine Gr.drew ?_ | with_reducible refine Gr.trans ?_ (by assumption) | with_reducible refine Gr.setCell ?_ (by (try simp); (try omega)) _))⟩
    · obtain rfl : n = j := by omega
      obtain ⟨wp, rfl⟩ : ∃ wp : World, wp = wr := ⟨_, rfl⟩
      go_wp2
      go_ret
      exact ⟨-1, rfl, Or.inl ⟨HOK.out, rfl⟩, HG.out⟩

set_option maxHeartbeats 2000000 in
theorem anyMiss (A : Option Addr) (n c : Nat) (f : Nat → Nat → Int) (P : Nat → Bool) (B : Nat) (w : World) (hA : RowsAt w 2 A n f) (hn : n ≤ 4611686018427387904)
    (hC : ∀ W, Gr w W → ∀ j, j < n → Calls Tryd.prog 41 #[.agg #[.int .i64 (f j 0), .int .i64 (f j 1)], .pointer (some ⟨B, 0, none⟩)] W fun e w' => e = .returned (.bool (!P j)) ∧ Gr W w') :
    Calls Tryd.prog 43 #[.slice A n c, .func (.func 41) #[] #[.pointer (some ⟨B, 0, none⟩)]] w fun e w' => e = .returned (.bool (!allN P n)) ∧ Gr w w' := by
  have HC := Lib.hid (idxMiss A n c f P B w hA hn hC)
  clear hA hC
  go_enter Tryd.func43, Tryd.ntmps43
  go_wp2_with fail
  go_at_call 55
  refine HC.out.mono ?_
  rintro e w' ⟨k, rfl, hk, hb⟩
  have HB := Lib.hid hb
  clear hb
  rcases hk with ⟨h, rfl⟩ | ⟨h, hk⟩
  · have H := Lib.hid h
    clear h
    go_wp2_with fail
    go_ret
    exact ⟨ret_bool (by rw [H.out]; rfl), HB.out⟩
  · have H := Lib.hid h
    clear h
    go_wp2_with fail
    go_ret
    exact ⟨ret_bool (by rw [H.out]; first | (simp; done) | (simp; omega)), HB.out⟩

/-- Whether all frets of a list exist. -/
def allEx (no nf : Nat) (f : Nat → Nat → Int) (n : Nat) : Bool := allN (fun j => exB no nf (f j 0) (f j 1)) n
theorem allEx_range {no nf n : Nat} {f : Nat → Nat → Int} (h : allEx no nf f n = true) (hnf : nf ≤ 36) : ∀ i, i < n → 0 ≤ f i 1 ∧ f i 1 ≤ 1000 := fun i hi => by
  have := allN_at h hi
  simp only [exB, decide_eq_true_eq] at this
  omega
set_option maxRecDepth 100000 in
set_option maxHeartbeats 16000000 in
theorem ffits_any (O Q : Option Addr) (no co nf cq : Nat) (sp tl : Int) (o q : Nat → Nat → Int) (A : Option Addr) (n c : Nat) (f : Nat → Nat → Int) (w : World) (hP : Primes w) (hO : RowsAt w 6 O no o) (hQ : RowsAt w 6 Q nf q) (hA : RowsAt w 2 A n f) (hno : no ≤ 9223372036854775807) (hnf : nf ≤ 9223372036854775807) (hn : n ≤ 4611686018427387904) (hnc : n ≤ c) :
    Calls Tryd.prog 18 #[.agg #[.slice O no co, .slice Q nf cq, .int .i64 sp, .int .i64 tl], .slice A n c] w fun e w' => e = .returned (.tuple #[.bool (neckB no o nf q sp tl && allEx no nf f n && heldB sp f n), .int .i64 (cond (neckB no o nf q sp tl && allEx no nf f n) 0 1)]) ∧ Gr w w' := by
  have hV := fun W (g : Gr w W) => neckValid_any O Q no co nf cq sp tl o q W (hP.keep g) (hO.keep g) (hQ.keep g) hno hnf
  rcases bool_tf (neckB no o nf q sp tl) with hok | hok
  · rw [hok] at hV
    have hlim := (neckB_parts hok).1
    have hC := fun W (g : Gr w W) (hB : NeckAt W w.heap.size O Q no co nf cq sp tl) => anyMiss A n c f (fun j => exB no nf (f j 0) (f j 1)) w.heap.size W (hA.keep g) hn (fun W' g' j hj => miss_any w.heap.size O Q no co nf cq sp tl (f j 0) (f j 1) W' (hB.keep g'))
    rcases bool_tf (allEx no nf f n) with ha | ha
    · have hH := fun W (g : Gr w W) => held_any sp A n c f W (hA.keep g) hn hnc (allEx_range ha hlim.2.2.1)
      rw [show allN (fun j => exB no nf (f j 0) (f j 1)) n = true from ha] at hC
      rw [hok, ha]
      have HV := Lib.hid hV; have HC := Lib.hid hC; have HH := Lib.hid hH
      clear hV hC hH hok ha hP hO hQ hA hlim
      generalize heldB sp f n = hb0 at *
      go_enter Tryd.func18, Tryd.ntmps18
      go_wp2_with fail
      (go_at_call 13; with_reducible refine (HV.out _ (by repeat (first | with_reducible exact Gr.refl _ | with_reducible refine Gr.alloc ?_ _ | with_reducible refine Gr.drew ?_ | with_reducible refine Gr.trans ?_ (by assumption) | with_reducible refine Gr.setCell ?_ (by (try simp); (try omega)) _))).mono ?_; rintro e w' ⟨rfl, hb⟩; have hz := hb.le; obtain ⟨hc, hf⟩ := hb.cells; have hn := hb.cellsN; (try simp only [World.size_alloc] at hc hf hz hn); (try simp only [World.size_setCell] at hc hf hz hn); (try simp only [World.size_drew] at hc hf hz hn))
      have hNB : NeckAt w' w.heap.size O Q no co nf cq sp tl := ⟨by omega, by simp [go_sem, *], by simp [go_sem, *], by simp [go_sem, *], by simp [go_sem, *]⟩
      have HG1 := Lib.hid (show Gr w w' from (by repeat (first | with_reducible exact Gr.refl _ | with_reducible refine Gr.alloc ?_ _ | with_reducible refine Gr.drew ?_ | with_reducible refine Gr.trans ?_ (by assumption) | with_reducible refine Gr.setCell ?_ (by (try simp); (try omega)) _)))
      have HNB := Lib.hid hNB
      clear hb hz hc hf hn hNB
      obtain ⟨w2, rfl⟩ : ∃ w2 : World, w2 = w' := ⟨_, rfl⟩
      go_wp2_with fail
      go_at_call 43
      refine (HC.out _ HG1.out HNB.out).mono ?_
      rintro e w3 ⟨rfl, hb3⟩
      have HG3 := Lib.hid (HG1.out.trans hb3)
      obtain ⟨hl0, b0, b1, b2, b3⟩ := HNB.out.keep hb3
      clear hb3
      go_wp2_with fail
      (go_at_call 39; with_reducible refine (HH.out _ HG3.out).mono ?_; rintro e w' ⟨rfl, hb⟩; have hz := hb.le; obtain ⟨hc, hf⟩ := hb.cells; have hn := hb.cellsN; (try simp only [World.size_alloc] at hc hf hz hn); (try simp only [World.size_setCell] at hc hf hz hn); (try simp only [World.size_drew] at hc hf hz hn))
      go_wp2_with fail
      go_ret2
      exact ⟨rfl, HG3.out.trans (by repeat (first | with_reducible exact Gr.refl _ | with_reducible refine Gr.alloc ?_ _ | with_reducible refine Gr.drew ?_ | with_reducible refine Gr.trans ?_ (by assumption) | with_reducible refine Gr.setCell ?_ (by (try simp); (try omega)) _))⟩
    · rw [show allN (fun j => exB no nf (f j 0) (f j 1)) n = false from ha] at hC
      rw [hok, ha]
      have HV := Lib.hid hV; have HC := Lib.hid hC
      clear hV hC hok ha hP hO hQ hA hlim
      generalize heldB sp f n = hb0 at *
      go_enter Tryd.func18, Tryd.ntmps18
      go_wp2_with fail
      (go_at_call 13; with_reducible refine (HV.out _ (by repeat (first | with_reducible exact Gr.refl _ | with_reducible refine Gr.alloc ?_ _ | with_reducible refine Gr.drew ?_ | with_reducible refine Gr.trans ?_ (by assumption) | with_reducible refine Gr.setCell ?_ (by (try simp); (try omega)) _))).mono ?_; rintro e w' ⟨rfl, hb⟩; have hz := hb.le; obtain ⟨hc, hf⟩ := hb.cells; have hn := hb.cellsN; (try simp only [World.size_alloc] at hc hf hz hn); (try simp only [World.size_setCell] at hc hf hz hn); (try simp only [World.size_drew] at hc hf hz hn))
      have hNB : NeckAt w' w.heap.size O Q no co nf cq sp tl := ⟨by omega, by simp [go_sem, *], by simp [go_sem, *], by simp [go_sem, *], by simp [go_sem, *]⟩
      have HG1 := Lib.hid (show Gr w w' from (by repeat (first | with_reducible exact Gr.refl _ | with_reducible refine Gr.alloc ?_ _ | with_reducible refine Gr.drew ?_ | with_reducible refine Gr.trans ?_ (by assumption) | with_reducible refine Gr.setCell ?_ (by (try simp); (try omega)) _)))
      have HNB := Lib.hid hNB
      clear hb hz hc hf hn hNB
      obtain ⟨w2, rfl⟩ : ∃ w2 : World, w2 = w' := ⟨_, rfl⟩
      go_wp2_with fail
      go_at_call 43
      refine (HC.out _ HG1.out HNB.out).mono ?_
      rintro e w3 ⟨rfl, hb3⟩
      have HG3 := Lib.hid (HG1.out.trans hb3)
      clear hb3
      go_wp2_with fail
      go_ret2
      exact ⟨rfl, HG3.out⟩
  · rw [hok] at hV
    rw [hok]
    have HV := Lib.hid hV
    clear hV hok hP hO hQ hA
    generalize heldB sp f n = hb0 at *
    go_enter Tryd.func18, Tryd.ntmps18
    go_wp2_with fail
    (go_at_call 13; with_reducible refine (HV.out _ (by repeat (first | with_reducible exact Gr.refl _ | with_reducible refine Gr.alloc ?_ _ | with_reducible refine Gr.drew ?_ | with_reducible refine Gr.trans ?_ (by assumption) | with_reducible refine Gr.setCell ?_ (by (try simp); (try omega)) _))).mono ?_; rintro e w' ⟨rfl, hb⟩; have hz := hb.le; obtain ⟨hc, hf⟩ := hb.cells; have hn := hb.cellsN; (try simp only [World.size_alloc] at hc hf hz hn); (try simp only [World.size_setCell] at hc hf hz hn); (try simp only [World.size_drew] at hc hf hz hn))
    go_wp2_with fail
    go_ret2
    exact ⟨rfl, (by repeat (first | with_reducible exact Gr.refl _ | with_reducible refine Gr.alloc ?_ _ | with_reducible refine Gr.drew ?_ | with_reducible refine Gr.trans ?_ (by assumption) | with_reducible refine Gr.setCell ?_ (by (try simp); (try omega)) _))⟩
end Go.Proofs.YtohalcookjbaaaaDoor
