/-
  schismaref13.Find.
  schismaref13.Distance.
  schismaref13.Distance of a blow that plays, and Best.
  schismaref13.Best.
  The law BrassMatchesReference.
-/
import Derived.Test.YtbaopniofhbjdaaDoorR13X
import Derived.Test.YtbaopniofhbjdaaDoorOwnL
import Derived.Test.YtbaopniofhbjdaaDoorR3
import Derived.Test.YtbaopniofhbjdaaDoorBHead
import Derived.Test.YtbaopniofhbjdaaDoorBPlain
namespace Go.Proofs.YtbaopniofhbjdaaDoor
open Go.RowKit

set_option maxRecDepth 100000 in
set_option maxHeartbeats 4000000 in
theorem r13find_bad (b0 b1 b2 b3 b4 b5 most tol v0 v1 v2 v3 v4 v5 : Int) (V I : Bool) (A : Option Addr) (n c : Nat) (w : World)
    (hV : ∀ W, Gr w W → Calls Tryd.prog 14 #[.agg #[.int .i64 b0, .int .i64 b1, .int .i64 b2, .int .i64 b3, .int .i64 b4, .int .i64 b5, .slice A n c, .int .i64 most, .int .i64 tol]] W fun e w' => e = .returned (.bool V) ∧ Gr W w')
    (hI : ∀ W, Calls Tryd.prog 61 #[.agg #[.int .i64 v0, .int .i64 v1, .int .i64 v2, .int .i64 v3, .int .i64 v4, .int .i64 v5]] W fun e w' => e = .returned (.bool I) ∧ Gr W w')
    (hb : V = false ∨ (V = true ∧ I = false)) :
    Calls Tryd.prog 18 #[.agg #[.int .i64 b0, .int .i64 b1, .int .i64 b2, .int .i64 b3, .int .i64 b4, .int .i64 b5, .slice A n c, .int .i64 most, .int .i64 tol], .agg #[.int .i64 v0, .int .i64 v1, .int .i64 v2, .int .i64 v3, .int .i64 v4, .int .i64 v5]] w
      fun e w' => e = .returned (.tuple #[.slice none 0 0, .int .i64 1]) ∧ Gr w w' := by
  have HV := Lib.hid hV; have HI := Lib.hid hI
  clear hV hI
  rcases hb with rfl | ⟨rfl, rfl⟩
  all_goals
    go_enter Tryd.func18, Tryd.ntmps18
    go_wp2_with (first | (go_at_call 14; with_reducible refine (HV.out _ (by repeat (first | with_reducible exact Gr.refl _ | with_reducible refine Gr.alloc ?_ _ | with_reducible refine Gr.drew ?_ | with_reducible refine Gr.trans ?_ (by assumption) | with_reducible refine Gr.setCell ?_ (by (try simp); (try omega)) _))).mono ?_; rintro e w' ⟨rfl, hb⟩; have hz := hb.le; obtain ⟨hc, hf⟩ := hb.cells; have hn := hb.cellsN; (try simp only [World.size_alloc] at hc hf hz hn); (try simp only [World.size_setCell] at hc hf hz hn); (try simp only [World.size_drew] at hc hf hz hn)) | (go_at_call 61; with_reducible refine (HI.out _).mono ?_; rintro e w' ⟨rfl, hb⟩; have hz := hb.le; obtain ⟨hc, hf⟩ := hb.cells; have hn := hb.cellsN; (try simp only [World.size_alloc] at hc hf hz hn); (try simp only [World.size_setCell] at hc hf hz hn); (try simp only [World.size_drew] at hc hf hz hn)))
    go_ret2
    exact ⟨rfl, (by repeat (first | with_reducible exact Gr.refl _ | with_reducible refine Gr.alloc ?_ _ | with_reducible refine Gr.drew ?_ | with_reducible refine Gr.trans ?_ (by assumption) | with_reducible refine Gr.setCell ?_ (by (try simp); (try omega)) _))⟩

/-- The list so far. -/
def RefL {m Q : Nat} (W0 : World) (v : Value) (l : List (BlowIx m Q)) (W : World) : Prop := OwnL W0.heap.size 28 2 W0 v l.length (blowCells l) W

theorem RefL.snoc {m Q : Nat} {W0 : World} {v v' : Value} {l : List (BlowIx m Q)} {W W' : World} (h : RefL W0 v l W) (o : Obj) (p : BlowIx m Q) (hown : W'.ownsRow W0.heap.size 28 2 v' (l.length + 1) (blowCells l ++ [.int .i64 ((p.1.1 : Int) + 1), .int .i64 (p.1.2 : Int)])) (hg : (W.alloc o).grownBy W' v.ownBlock) : RefL W0 v' (l ++ [p]) W' := by
  have := (OwnL.alloc h o).grown hown hg
  unfold RefL
  rw [List.length_append, blowCells_snoc]
  exact this
theorem RefL.len {m Q : Nat} (base : V6) (f : Nat → Nat → Int) (n : Nat) (tol : Int) (v : V6) (pre : List (BlowIx m Q)) : (findL base f n tol v pre).length ≤ pre.length := List.length_filter_le _ _

set_option maxRecDepth 100000 in
set_option maxHeartbeats 8000000 in
theorem r13find_ok (b0 b1 b2 b3 b4 b5 tol v0 v1 v2 v3 v4 v5 : Int) (A : Option Addr) (n c m Q : Nat) (f : Nat → Nat → Int) (w : World) (hR : RowsAt w 6 A n f) (hv : allIn ⟨v0, v1, v2, v3, v4, v5⟩ 48 6 = true) (hok : hornOk ⟨b0, b1, b2, b3, b4, b5⟩ n f m tol = true) (hQ : 2 ^ n = Q) :
    Calls Tryd.prog 18 #[.agg #[.int .i64 b0, .int .i64 b1, .int .i64 b2, .int .i64 b3, .int .i64 b4, .int .i64 b5, .slice A n c, .int .i64 (m : Int), .int .i64 tol], .agg #[.int .i64 v0, .int .i64 v1, .int .i64 v2, .int .i64 v3, .int .i64 v4, .int .i64 v5]] w
      (FindR 0 (findL ⟨b0, b1, b2, b3, b4, b5⟩ f n tol ⟨v0, v1, v2, v3, v4, v5⟩ (blowsTo m Q m)) w) := by
  obtain ⟨i0, hi, hz0, hz1, hz2⟩ := info_parts infoBlow
  obtain ⟨-, hn4, hm1, hm16, -, -, -⟩ := hornOk_parts hok
  have hm16' : m ≤ 16 := by omega
  have hQ16 : Q ≤ 16 := by rw [← hQ]; exact Nat.pow_le_pow_right (by omega) hn4
  have HV : Hid (∀ W, Gr w W → Calls Tryd.prog 14 #[.agg #[.int .i64 b0, .int .i64 b1, .int .i64 b2, .int .i64 b3, .int .i64 b4, .int .i64 b5, .slice A n c, .int .i64 (m : Int), .int .i64 tol]] W fun e w' => e = .returned (.bool true) ∧ Gr W w') := Lib.hid fun W hg => by
    have h := r13valid_any b0 b1 b2 b3 b4 b5 m tol A n c f W (hR.keep hg) (by omega)
    rwa [hok] at h
  have HI : Hid (∀ W, Calls Tryd.prog 61 #[.agg #[.int .i64 v0, .int .i64 v1, .int .i64 v2, .int .i64 v3, .int .i64 v4, .int .i64 v5]] W fun e w' => e = .returned (.bool true) ∧ Gr W w') := Lib.hid fun W => by
    have h := r3interval_any v0 v1 v2 v3 v4 v5 W
    rwa [hv] at h
  have HP : Hid (∀ W, Gr w W → ∀ i j : Nat, i < m → j < Q → Calls Tryd.prog 62 #[.agg #[.int .i64 b0, .int .i64 b1, .int .i64 b2, .int .i64 b3, .int .i64 b4, .int .i64 b5, .slice A n c, .int .i64 (m : Int), .int .i64 tol], .agg #[.int .i64 ((i : Int) + 1), .int .i64 (j : Int)], .agg #[.int .i64 v0, .int .i64 v1, .int .i64 v2, .int .i64 v3, .int .i64 v4, .int .i64 v5]] W
      fun e w' => e = .returned (.bool (playsB ⟨b0, b1, b2, b3, b4, b5⟩ f n tol ⟨v0, v1, v2, v3, v4, v5⟩ (i + 1) j)) ∧ Gr W w') := Lib.hid fun W hg i j hi hj =>
    r13plays_any b0 b1 b2 b3 b4 b5 m tol v0 v1 v2 v3 v4 v5 (i + 1) j A n c f W (hR.keep hg) hok ⟨by omega, by omega, by omega, by rw [hQ]; omega⟩ hv
  have hmn : min n 64 = n := by omega
  have hp1 : (2 : Int) ^ n = (Q : Int) := by rw [← hQ]; simp
  have hw0 : IntKind.i64.wrap (Q : Int) = (Q : Int) := IntWalk.i64_in _ (by omega)
  clear hok hv hR hQ
  go_enter Tryd.func18, Tryd.ntmps18
  go_wp2_with (first | (go_at_call 14; with_reducible refine (HV.out _ (by repeat (first | with_reducible exact Gr.refl _ | with_reducible refine Gr.alloc ?_ _ | with_reducible refine Gr.drew ?_ | with_reducible refine Gr.trans ?_ (by assumption) | with_reducible refine Gr.setCell ?_ (by (try simp); (try omega)) _))).mono ?_; rintro e w' ⟨rfl, hb⟩; have hz := hb.le; obtain ⟨hc, hf⟩ := hb.cells; have hn := hb.cellsN; (try simp only [World.size_alloc] at hc hf hz hn); (try simp only [World.size_setCell] at hc hf hz hn); (try simp only [World.size_drew] at hc hf hz hn)) | (go_at_call 61; with_reducible refine (HI.out _).mono ?_; rintro e w' ⟨rfl, hb⟩; have hz := hb.le; obtain ⟨hc, hf⟩ := hb.cells; have hn := hb.cellsN; (try simp only [World.size_alloc] at hc hf hz hn); (try simp only [World.size_setCell] at hc hf hz hn); (try simp only [World.size_drew] at hc hf hz hn)))
  have hz3 : w.heap.size + 2 ≤ w'.heap.size := by omega
  have k1 : HornAt w' w.heap.size b0 b1 b2 b3 b4 b5 (.slice A n c) m tol := ⟨by simp [go_sem, *], by simp [go_sem, *], by simp [go_sem, *], by simp [go_sem, *], by simp [go_sem, *], by simp [go_sem, *], by simp [go_sem, *], by simp [go_sem, *], by simp [go_sem, *]⟩
  have k2 : SixV w' (w.heap.size + 1) (.int .i64 v0) (.int .i64 v1) (.int .i64 v2) (.int .i64 v3) (.int .i64 v4) (.int .i64 v5) := ⟨by simp [go_sem, *], by simp [go_sem, *], by simp [go_sem, *], by simp [go_sem, *], by simp [go_sem, *], by simp [go_sem, *]⟩
  have HG := Lib.hid (show Gr w w' from (by repeat (first | with_reducible exact Gr.refl _ | with_reducible refine Gr.alloc ?_ _ | with_reducible refine Gr.drew ?_ | with_reducible refine Gr.trans ?_ (by assumption) | with_reducible refine Gr.setCell ?_ (by (try simp); (try omega)) _)))
  have HK := Lib.hid k1; have HK2 := Lib.hid k2; have HZ := Lib.hid hz3
  have HL0 : Hid (RefL w' (.slice none 0 0) (findL ⟨b0, b1, b2, b3, b4, b5⟩ f n tol ⟨v0, v1, v2, v3, v4, v5⟩ (blowsTo m Q 0)) w') := Lib.hid (OwnL.start _ _ _ _ (Nat.le_refl _))
  clear hb hc hf hz hn HV HI k1 k2 hz3
  go_loopw [6, 7] (fun lv nv wr => ∃ (LV : Value) (i : Nat), LV = lv ∧ i ≤ m ∧ nv = .int .i64 ((i : Int) + 1) ∧ RefL w' LV (findL ⟨b0, b1, b2, b3, b4, b5⟩ f n tol ⟨v0, v1, v2, v3, v4, v5⟩ (blowsTo m Q i)) wr) (fun _ nv _ => m + 1 - (intOf nv).toNat)
  case atStart => exact ⟨_, 0, rfl, by omega, rfl, HL0.out⟩
  case round =>
    obtain ⟨lv, i, rfl, him, rfl, hL⟩ := hrel
    have HL := Lib.hid hL
    clear hL HL0
    obtain ⟨p0, p1, p2, p3, p4, p5, p6, p7, p8⟩ := HK.out.keep HL.out.below (by have := HZ.out; omega)
    have HLE := Lib.hid (blowsTo_len m Q i)
    by_cases hlt : i < m
    · have HL1 : Hid (RefL w' lv (findL ⟨b0, b1, b2, b3, b4, b5⟩ f n tol ⟨v0, v1, v2, v3, v4, v5⟩ (blowsTo m Q i ++ rowTo m Q i 0)) wr) := Lib.hid (by rw [rowTo, List.append_nil]; exact HL.out)
      clear HL
      obtain ⟨wo, rfl⟩ : ∃ wo : World, wo = wr := ⟨_, rfl⟩
      have hdm : decide ((i : Int) + 1 ≤ (m : Int)) = true := by simp; omega
      go_wp2_with fail
      clear p0 p1 p2 p3 p4 p5 p6 p7 p8
      go_loopw [6, 8] (fun lv mv wr => ∃ (LV : Value) (j : Nat), LV = lv ∧ j ≤ Q ∧ mv = .int .i64 (j : Int) ∧ RefL w' LV (findL ⟨b0, b1, b2, b3, b4, b5⟩ f n tol ⟨v0, v1, v2, v3, v4, v5⟩ (blowsTo m Q i ++ rowTo m Q i j)) wr) (fun _ mv _ => Q - (intOf mv).toNat)
      case atStart => exact ⟨_, 0, rfl, by omega, rfl, HL1.out⟩
      case round =>
        obtain ⟨lv, j, rfl, hjq, rfl, hL⟩ := hrel
        have HL := Lib.hid hL
        clear hL HL1
        obtain ⟨wi, rfl⟩ : ∃ wi : World, wi = wr := ⟨_, rfl⟩
        obtain ⟨p0, p1, p2, p3, p4, p5, p6, p7, p8⟩ := HK.out.keep HL.out.below (by have := HZ.out; omega)
        obtain ⟨u0, u1, u2, u3, u4, u5⟩ := HK2.out.keep HL.out.below (by have := HZ.out; omega)
        have HGI := Lib.hid (HL.out.toGr HG.out (Nat.le_refl _))
        by_cases hjl : j < Q
        · have HPL := Lib.hid (HP.out wi HGI.out i j hlt hjl)
          have HBL := Lib.hid (blows_lt hlt hjl)
          have hlen : (findL ⟨b0, b1, b2, b3, b4, b5⟩ f n tol ⟨v0, v1, v2, v3, v4, v5⟩ (blowsTo m Q i ++ rowTo m Q i j)).length ≤ 256 := by
            have h1 := RefL.len ⟨b0, b1, b2, b3, b4, b5⟩ f n tol ⟨v0, v1, v2, v3, v4, v5⟩ (blowsTo m Q i ++ rowTo m Q i j)
            have h2 := HBL.out
            have h3 : m * Q ≤ 16 * 16 := Nat.mul_le_mul hm16' hQ16
            omega
          cases hpl : playsB ⟨b0, b1, b2, b3, b4, b5⟩ f n tol ⟨v0, v1, v2, v3, v4, v5⟩ (i + 1) j with
          | false =>
            have HN : Hid (findL ⟨b0, b1, b2, b3, b4, b5⟩ f n tol ⟨v0, v1, v2, v3, v4, v5⟩ (blowsTo m Q i ++ rowTo m Q i (j + 1)) = findL ⟨b0, b1, b2, b3, b4, b5⟩ f n tol ⟨v0, v1, v2, v3, v4, v5⟩ (blowsTo m Q i ++ rowTo m Q i j)) := Lib.hid (by rw [rowTo_yes ⟨hlt, hjl⟩, ← List.append_assoc, findL_no (p := ⟨(i, j), ⟨hlt, hjl⟩⟩) hpl])
            rw [hpl] at HPL
            clear hpl
            go_wp2_with fail
            refine (HPL.out).mono ?_
            rintro e w2 ⟨rfl, hg2⟩
            have HL2 := Lib.hid (HL.out.gr hg2)
            clear hg2
            go_wp2_with fail
            go_roundw
            case rel => exact ⟨_, j + 1, rfl, by omega, by go_num, by rw [HN.out]; exact HL2.out⟩
            case measure => simp [intOf]; omega
          | true =>
            have HN : Hid (findL ⟨b0, b1, b2, b3, b4, b5⟩ f n tol ⟨v0, v1, v2, v3, v4, v5⟩ (blowsTo m Q i ++ rowTo m Q i (j + 1)) = findL ⟨b0, b1, b2, b3, b4, b5⟩ f n tol ⟨v0, v1, v2, v3, v4, v5⟩ (blowsTo m Q i ++ rowTo m Q i j) ++ [⟨(i, j), ⟨hlt, hjl⟩⟩]) := Lib.hid (by rw [rowTo_yes ⟨hlt, hjl⟩, ← List.append_assoc, findL_yes (p := ⟨(i, j), ⟨hlt, hjl⟩⟩) hpl])
            rw [hpl] at HPL
            clear hpl
            generalize findL ⟨b0, b1, b2, b3, b4, b5⟩ f n tol ⟨v0, v1, v2, v3, v4, v5⟩ (blowsTo m Q i ++ rowTo m Q i j) = LL at *
            go_wp2_with fail
            refine (HPL.out).mono ?_
            rintro e w2 ⟨rfl, hg2⟩
            have HL2 : Hid (RefL w' lv LL w2) := Lib.hid (HL.out.gr hg2)
            have HSZ := HL2.out.size
            clear hg2 p0 p1 p2 p3 p4 p5 p6 p7 p8 u0 u1 u2 u3 u4 u5
            go_wp2_with (at_builtin; refine wpList_append_own _ rfl _ _ 35 rfl w'.heap.size 28 i0 (.agg #[.int .i64 0, .int .i64 0]) 2 16 Tryd.underlying35 hi hz0 hz1 hz2 rfl (by decide) _ _ _ rfl (HL2.out.own.alloc _) ⟨w2.heap.size, 0, none⟩ 1 1 [.int .i64 ((i : Int) + 1), .int .i64 (j : Int)] rfl rfl (cell_two_new _ _ _ _) (by intro u hu; simp at hu; rcases hu with rfl | rfl <;> rfl) (by unfold maxLen; omega) (by omega) (by simp; omega) ?_; intro lv' w3 hown1 hgrow hnil)
            have HL3 := Lib.hid (HL2.out.snoc _ ⟨(i, j), ⟨hlt, hjl⟩⟩ hown1 hgrow)
            clear hown1 hgrow hnil
            go_wp2_with fail
            go_roundw
            case rel => exact ⟨_, j + 1, rfl, by omega, by go_num, by rw [HN.out]; exact HL3.out⟩
            case measure => simp [intOf]; omega
        · obtain rfl : j = Q := by omega
          go_wp2_with fail
          go_roundw
          case rel => exact ⟨_, i + 1, rfl, by omega, by go_num, HL.out⟩
          case measure => simp [intOf]; omega
    · obtain rfl : i = m := by omega
      obtain ⟨wo, rfl⟩ : ∃ wo : World, wo = wr := ⟨_, rfl⟩
      have HGI := Lib.hid (HL.out.toGr HG.out (Nat.le_refl _))
      obtain ⟨A', c', hlv, hrows, hle⟩ := rows_of_own HL.out.own (blowF (findL ⟨b0, b1, b2, b3, b4, b5⟩ f n tol ⟨v0, v1, v2, v3, v4, v5⟩ (blowsTo i Q i))) (fun i' j' hi' hj' => pairCells_at _ _ _ i' j' hi' hj')
      subst hlv
      have HRW := Lib.hid (And.intro hrows hle)
      clear hrows hle
      go_wp2_with fail
      go_ret2
      exact ⟨A', c', rfl, HRW.out.1, HRW.out.2, HGI.out⟩
end Go.Proofs.YtbaopniofhbjdaaDoor

namespace Go.Proofs.YtbaopniofhbjdaaDoor
open Go.RowKit

set_option maxRecDepth 100000 in
set_option maxHeartbeats 16000000 in
theorem r13dist_walk (b0 b1 b2 b3 b4 b5 most tol x s v0 v1 v2 v3 v4 v5 a0 a1 a2 a3 a4 a5 z0 z1 z2 z3 z4 z5 y0 y1 y2 y3 y4 y5 E1 Y0 Y1 Y2 Y3 Y4 Y5 E : Int) (A : Option Addr) (n c : Nat) (w : World)
    (hS : ∀ W, Gr w W → Calls Tryd.prog 16 #[.agg #[.int .i64 b0, .int .i64 b1, .int .i64 b2, .int .i64 b3, .int .i64 b4, .int .i64 b5, .slice A n c, .int .i64 most, .int .i64 tol], .agg #[.int .i64 x, .int .i64 s]] W fun e w' => e = .returned (.tuple #[.agg #[.int .i64 z0, .int .i64 z1, .int .i64 z2, .int .i64 z3, .int .i64 z4, .int .i64 z5], .int .i64 0]) ∧ Gr W w')
    (hP : ∀ W, Calls Tryd.prog 83 #[.agg #[.int .i64 v0, .int .i64 v1, .int .i64 v2, .int .i64 v3, .int .i64 v4, .int .i64 v5]] W fun e w' => e = .returned (.agg #[.int .i64 a0, .int .i64 a1, .int .i64 a2, .int .i64 a3, .int .i64 a4, .int .i64 a5]) ∧ Gr W w')
    (hD : ∀ W, Calls Tryd.prog 84 #[.agg #[.int .i64 z0, .int .i64 z1, .int .i64 z2, .int .i64 z3, .int .i64 z4, .int .i64 z5], .agg #[.int .i64 a0, .int .i64 a1, .int .i64 a2, .int .i64 a3, .int .i64 a4, .int .i64 a5]] W fun e w' => e = .returned (.tuple #[.agg #[.int .i64 y0, .int .i64 y1, .int .i64 y2, .int .i64 y3, .int .i64 y4, .int .i64 y5], .int .i64 E1]) ∧ Gr W w')
    (hm : (E1 ≠ 0 ∧ Y0 = 0 ∧ Y1 = 0 ∧ Y2 = 0 ∧ Y3 = 0 ∧ Y4 = 0 ∧ Y5 = 0 ∧ E = E1) ∨ (E1 = 0 ∧ ∃ C : Int, (∀ W, Calls Tryd.prog 56 #[.agg #[.int .i64 y0, .int .i64 y1, .int .i64 y2, .int .i64 y3, .int .i64 y4, .int .i64 y5], .agg #[.int .i64 0, .int .i64 0, .int .i64 0, .int .i64 0, .int .i64 0, .int .i64 0]] W fun e w' => e = .returned (.tuple #[.int .i64 C, .int .i64 0]) ∧ Gr W w') ∧
      ((C < 0 ∧ ∀ W, Calls Tryd.prog 84 #[.agg #[.int .i64 a0, .int .i64 a1, .int .i64 a2, .int .i64 a3, .int .i64 a4, .int .i64 a5], .agg #[.int .i64 z0, .int .i64 z1, .int .i64 z2, .int .i64 z3, .int .i64 z4, .int .i64 z5]] W fun e w' => e = .returned (.tuple #[.agg #[.int .i64 Y0, .int .i64 Y1, .int .i64 Y2, .int .i64 Y3, .int .i64 Y4, .int .i64 Y5], .int .i64 E]) ∧ Gr W w') ∨
       (0 ≤ C ∧ Y0 = y0 ∧ Y1 = y1 ∧ Y2 = y2 ∧ Y3 = y3 ∧ Y4 = y4 ∧ Y5 = y5 ∧ E = 0)))) :
    Calls Tryd.prog 65 #[.agg #[.int .i64 b0, .int .i64 b1, .int .i64 b2, .int .i64 b3, .int .i64 b4, .int .i64 b5, .slice A n c, .int .i64 most, .int .i64 tol], .agg #[.int .i64 x, .int .i64 s], .agg #[.int .i64 v0, .int .i64 v1, .int .i64 v2, .int .i64 v3, .int .i64 v4, .int .i64 v5]] w
      fun e w' => e = .returned (.tuple #[.agg #[.int .i64 Y0, .int .i64 Y1, .int .i64 Y2, .int .i64 Y3, .int .i64 Y4, .int .i64 Y5], .int .i64 E]) ∧ Gr w w' := by
  have HS := Lib.hid hS; have HP := Lib.hid hP; have HD := Lib.hid hD; have HM := Lib.hid hm
  clear hS hP hD hm
  go_enter Tryd.func65, Tryd.ntmps65
  go_upto_region 4 with (go_at_call 16; with_reducible refine (HS.out _ (by repeat (first | with_reducible exact Gr.refl _ | with_reducible refine Gr.alloc ?_ _ | with_reducible refine Gr.drew ?_ | with_reducible refine Gr.trans ?_ (by assumption) | with_reducible refine Gr.setCell ?_ (by (try simp); (try omega)) _))).mono ?_; rintro e w' ⟨rfl, hb⟩; have hz := hb.le; obtain ⟨hc, hf⟩ := hb.cells; have hn := hb.cellsN; (try simp only [World.size_alloc] at hc hf hz hn); (try simp only [World.size_setCell] at hc hf hz hn); (try simp only [World.size_drew] at hc hf hz hn))
  have hz3 : w.heap.size + 4 ≤ w'.heap.size := by omega
  have k1 : SixV (w'.alloc (.cells #[.int .i64 z0, .int .i64 z1, .int .i64 z2, .int .i64 z3, .int .i64 z4, .int .i64 z5] 23)) (w.heap.size + 1 + 1) (.int .i64 v0) (.int .i64 v1) (.int .i64 v2) (.int .i64 v3) (.int .i64 v4) (.int .i64 v5) := ⟨by simp [go_sem, *], by simp [go_sem, *], by simp [go_sem, *], by simp [go_sem, *], by simp [go_sem, *], by simp [go_sem, *]⟩
  have k2 : SixV (w'.alloc (.cells #[.int .i64 z0, .int .i64 z1, .int .i64 z2, .int .i64 z3, .int .i64 z4, .int .i64 z5] 23)) w'.heap.size (.int .i64 z0) (.int .i64 z1) (.int .i64 z2) (.int .i64 z3) (.int .i64 z4) (.int .i64 z5) := ⟨by simp [go_sem], by simp [go_sem], by simp [go_sem], by simp [go_sem], by simp [go_sem], by simp [go_sem]⟩
  have k3 : SixV (w'.alloc (.cells #[.int .i64 z0, .int .i64 z1, .int .i64 z2, .int .i64 z3, .int .i64 z4, .int .i64 z5] 23)) (w.heap.size + 1 + 1 + 1) (.int .i64 0) (.int .i64 0) (.int .i64 0) (.int .i64 0) (.int .i64 0) (.int .i64 0) := ⟨by simp [go_sem, *], by simp [go_sem, *], by simp [go_sem, *], by simp [go_sem, *], by simp [go_sem, *], by simp [go_sem, *]⟩
  have k3f : ∀ o, (w'.alloc (.cells #[.int .i64 z0, .int .i64 z1, .int .i64 z2, .int .i64 z3, .int .i64 z4, .int .i64 z5] 23)).frozen? ⟨w.heap.size + 1 + 1 + 1, o, none⟩ = false := by intro o; simp [go_sem, *]
  have hsz : (w'.alloc (.cells #[.int .i64 z0, .int .i64 z1, .int .i64 z2, .int .i64 z3, .int .i64 z4, .int .i64 z5] 23)).heap.size = w'.heap.size + 1 := by simp
  have HG := Lib.hid (show Gr w (w'.alloc (.cells #[.int .i64 z0, .int .i64 z1, .int .i64 z2, .int .i64 z3, .int .i64 z4, .int .i64 z5] 23)) from (by repeat (first | with_reducible exact Gr.refl _ | with_reducible refine Gr.alloc ?_ _ | with_reducible refine Gr.drew ?_ | with_reducible refine Gr.trans ?_ (by assumption) | with_reducible refine Gr.setCell ?_ (by (try simp); (try omega)) _)))
  have hN0 := cellsN_new_drew (w'.alloc (.cells #[.int .i64 z0, .int .i64 z1, .int .i64 z2, .int .i64 z3, .int .i64 z4, .int .i64 z5] 23)) #[.int .i64 0, .int .i64 0, .int .i64 0, .int .i64 0, .int .i64 0, .int .i64 0] 23
  generalize hSS : w'.heap.size = S at k2 hsz hz3 ⊢
  generalize (w'.alloc (.cells #[.int .i64 z0, .int .i64 z1, .int .i64 z2, .int .i64 z3, .int .i64 z4, .int .i64 z5] 23)) = wo at k1 k2 k3 k3f hsz HG hN0 ⊢
  have HK1 := Lib.hid k1; have HK2 := Lib.hid k2; have HK3 := Lib.hid k3; have HK3F := Lib.hid k3f
  have hs1 : w.heap.size + 1 + 1 + 1 < wo.heap.size := by omega
  have hs2 : S < wo.heap.size := by omega
  obtain ⟨p0, p1, p2, p3, p4, p5⟩ := k1
  obtain ⟨u0, u1, u2, u3, u4, u5⟩ := k2
  clear hb hc hf hz hn hSS hsz k3 k3f
  go_cut [9, 10] (fun s9 s10 wx => ∃ B5 : Nat, s10 = .pointer (some ⟨B5, 0, none⟩) ∧ s9 = .int .i64 E1 ∧ B5 < wx.heap.size ∧ SixV wx B5 (.int .i64 y0) (.int .i64 y1) (.int .i64 y2) (.int .i64 y3) (.int .i64 y4) (.int .i64 y5) ∧ Gr wo wx)
  case first =>
    go_region_held3 (fun wx => (∀ b o, (⟨min (b + 1) wo.heap.size, 0, none⟩ : Addr) = ⟨b + 1, 0, none⟩ → wx.cell? ⟨b, o, none⟩ = wo.cell? ⟨b, o, none⟩) ∧ Gr wo wx) (first | with_reducible exact held_drew _ | with_reducible exact held_call (by assumption) (by assumption) | with_reducible exact held_alloc (by assumption) _ | with_reducible exact held_alloc0 _ _ | with_reducible exact held_anew (by assumption) _ (by omega) | ((repeat (with_reducible refine held_set ?_ (by (try simp); (try omega)) _)); (first | with_reducible assumption | with_reducible exact held_call (by assumption) (by assumption)))) (first | (go_at_call 83; with_reducible refine (HP.out _).mono ?_; rintro e w' ⟨rfl, hb⟩; have hzz := ((held_gr (by assumption)).trans hb).le; have hz := hb.le; obtain ⟨hcx, hfx⟩ := hb.cells; have hn := hb.cellsN; (try simp only [World.size_drew] at hcx hfx hz hn); (try simp only [World.size_setCell] at hcx hfx hz hn); (try simp only [World.size_alloc] at hcx hfx hz hn)) | (go_at_call 84; with_reducible refine (HD.out _).mono ?_; rintro e w' ⟨rfl, hb⟩; have hzz := ((held_gr (by assumption)).trans hb).le; have hz := hb.le; obtain ⟨hcx, hfx⟩ := hb.cells; have hn := hb.cellsN; (try simp only [World.size_drew] at hcx hfx hz hn); (try simp only [World.size_setCell] at hcx hfx hz hn); (try simp only [World.size_alloc] at hcx hfx hz hn)))
    all_goals
      go_wp2_with fail
      go_meet
      exact ⟨_, rfl, rfl, by (try simp); (try omega), ⟨by simp [go_sem, *], by simp [go_sem, *], by simp [go_sem, *], by simp [go_sem, *], by simp [go_sem, *], by simp [go_sem, *]⟩, held_gr (by assumption)⟩
  case rest =>
    obtain ⟨B5, rfl, rfl, hz7, hk5, hgc⟩ := hcut
    have hle := hgc.le
    have HGC := Lib.hid (HG.out.trans hgc)
    obtain ⟨r0, r1, r2, r3, r4, r5⟩ := HK3.out.keep hgc (by omega)
    have rf : ∀ o, wc.frozen? ⟨w.heap.size + 1 + 1 + 1, o, none⟩ = false := fun o => (Below.frozen (p := ⟨w.heap.size + 1 + 1 + 1, o, none⟩) hgc (by show _ < wo.heap.size; omega)).trans (HK3F.out o)
    have HGX := Lib.hid hgc
    have hsr : w.heap.size + 1 + 1 + 1 < wc.heap.size := by omega
    clear hgc p0 p1 p2 p3 p4 p5 u0 u1 u2 u3 u4 u5 hN0
    obtain ⟨f0, f1, f2, f3, f4, f5⟩ := hk5
    rcases HM.out with ⟨hne, rfl, rfl, rfl, rfl, rfl, rfl, rfl⟩ | ⟨rfl, C, hC, hM⟩
    · have hneb : (E == 0) = false := by rw [beq_eq_false_iff_ne]; exact hne
      have hneb2 : (E != 0) = true := by simpa using hne
      clear hne
      have hgr := HGC.out
      go_wp2_with fail
      refine bodyPost_six (by intro j hj; rcases (show j = 0 ∨ j = 1 ∨ j = 2 ∨ j = 3 ∨ j = 4 ∨ j = 5 by omega) with rfl | rfl | rfl | rfl | rfl | rfl <;> simp [go_sem, *]) ?_
      intro W' hW' s0 s1 s2 s3 s4 s5
      exact bodyPost_ret (v := .tuple #[.agg #[.int .i64 0, .int .i64 0, .int .i64 0, .int .i64 0, .int .i64 0, .int .i64 0], .int .i64 E]) (by simp [results, Tryd.results65, go_sem, s0, s1, s2, s3, s4, s5]) rfl ⟨rfl, hW' _ (by repeat (first | with_reducible exact Gr.refl _ | with_reducible refine Gr.alloc ?_ _ | with_reducible refine Gr.drew ?_ | with_reducible refine Gr.trans ?_ (by assumption) | with_reducible refine Gr.setCell ?_ (by (try simp); (try omega)) _)) (by (try simp); (try omega))⟩
    · have HC := Lib.hid hC
      clear hC
      rcases hM with ⟨hC0, hD2⟩ | ⟨hC0, rfl, rfl, rfl, rfl, rfl, rfl, rfl⟩
      · have HD2 := Lib.hid hD2
        have hcb : decide (C < 0) = true := by simpa using hC0
        clear hD2 hC0
        have hgr := HGC.out
        go_upto_region 9 with (go_at_call 56; with_reducible refine (HC.out _).mono ?_; rintro e w4 ⟨rfl, hb4⟩)
        have hle4 := hb4.le
        have hg4 := HGX.out.trans hb4
        obtain ⟨p0, p1, p2, p3, p4, p5⟩ := HK1.out.keep hg4 (by omega)
        obtain ⟨u0, u1, u2, u3, u4, u5⟩ := HK2.out.keep hg4 (by omega)
        have k3 : SixV w4 (w.heap.size + 1 + 1 + 1) (.int .i64 0) (.int .i64 0) (.int .i64 0) (.int .i64 0) (.int .i64 0) (.int .i64 0) := HK3.out.keep hg4 (by omega)
        have HKR := Lib.hid k3
        have HRF4 : Hid (∀ o, w4.frozen? ⟨w.heap.size + 1 + 1 + 1, o, none⟩ = false) := Lib.hid fun o => (Below.frozen (p := ⟨w.heap.size + 1 + 1 + 1, o, none⟩) hg4 (by show _ < wo.heap.size; omega)).trans (HK3F.out o)
        have HG4 := Lib.hid (HGC.out.trans hb4)
        have hs4 : w.heap.size + 1 + 1 + 1 < w4.heap.size := by omega
        have hs5 : S < w4.heap.size := by omega
        have hN0 := cellsN_new_drew w4 #[.int .i64 0, .int .i64 0, .int .i64 0, .int .i64 0, .int .i64 0, .int .i64 0] 23
        clear f0 f1 f2 f3 f4 f5 r0 r1 r2 r3 r4 r5 rf hb4 hg4 k3 hgr hsr hz7
        go_cut [12, 13] (fun s12 s13 wx => ∃ B6 : Nat, s12 = .pointer (some ⟨B6, 0, none⟩) ∧ s13 = .int .i64 E ∧ B6 < wx.heap.size ∧ SixV wx B6 (.int .i64 Y0) (.int .i64 Y1) (.int .i64 Y2) (.int .i64 Y3) (.int .i64 Y4) (.int .i64 Y5) ∧ Gr w4 wx)
        case first =>
          go_region_held3 (fun wx => (∀ b o, (⟨min (b + 1) w4.heap.size, 0, none⟩ : Addr) = ⟨b + 1, 0, none⟩ → wx.cell? ⟨b, o, none⟩ = w4.cell? ⟨b, o, none⟩) ∧ Gr w4 wx) (first | with_reducible exact held_drew _ | with_reducible exact held_call (by assumption) (by assumption) | with_reducible exact held_alloc (by assumption) _ | with_reducible exact held_alloc0 _ _ | with_reducible exact held_anew (by assumption) _ (by omega) | ((repeat (with_reducible refine held_set ?_ (by (try simp); (try omega)) _)); (first | with_reducible assumption | with_reducible exact held_call (by assumption) (by assumption)))) (first | (go_at_call 83; with_reducible refine (HP.out _).mono ?_; rintro e w' ⟨rfl, hb⟩; have hzz := ((held_gr (by assumption)).trans hb).le; have hz := hb.le; obtain ⟨hcx, hfx⟩ := hb.cells; have hn := hb.cellsN; (try simp only [World.size_drew] at hcx hfx hz hn); (try simp only [World.size_setCell] at hcx hfx hz hn); (try simp only [World.size_alloc] at hcx hfx hz hn)) | (go_at_call 84; with_reducible refine (HD2.out _).mono ?_; rintro e w' ⟨rfl, hb⟩; have hzz := ((held_gr (by assumption)).trans hb).le; have hz := hb.le; obtain ⟨hcx, hfx⟩ := hb.cells; have hn := hb.cellsN; (try simp only [World.size_drew] at hcx hfx hz hn); (try simp only [World.size_setCell] at hcx hfx hz hn); (try simp only [World.size_alloc] at hcx hfx hz hn)))
          all_goals
            go_wp2_with fail
            go_meet
            exact ⟨_, rfl, rfl, by (try simp); (try omega), ⟨by simp [go_sem, *], by simp [go_sem, *], by simp [go_sem, *], by simp [go_sem, *], by simp [go_sem, *], by simp [go_sem, *]⟩, held_gr (by assumption)⟩
        case rest =>
          obtain ⟨B6, rfl, rfl, hz8, ⟨f0, f1, f2, f3, f4, f5⟩, hgc2⟩ := hcut
          have hle2 := hgc2.le
          obtain ⟨r0, r1, r2, r3, r4, r5⟩ := HKR.out.keep hgc2 (by omega)
          have rf : ∀ o, wc.frozen? ⟨w.heap.size + 1 + 1 + 1, o, none⟩ = false := fun o => (Below.frozen (p := ⟨w.heap.size + 1 + 1 + 1, o, none⟩) hgc2 (by show _ < w4.heap.size; omega)).trans (HRF4.out o)
          have hgr := HG4.out.trans hgc2
          clear hgc2 p0 p1 p2 p3 p4 p5 u0 u1 u2 u3 u4 u5 hN0
          go_wp2_with fail
          refine bodyPost_six (by intro j hj; rcases (show j = 0 ∨ j = 1 ∨ j = 2 ∨ j = 3 ∨ j = 4 ∨ j = 5 by omega) with rfl | rfl | rfl | rfl | rfl | rfl <;> simp [go_sem, *]) ?_
          intro W' hW' s0 s1 s2 s3 s4 s5
          exact bodyPost_ret (v := .tuple #[.agg #[.int .i64 Y0, .int .i64 Y1, .int .i64 Y2, .int .i64 Y3, .int .i64 Y4, .int .i64 Y5], .int .i64 E]) (by simp [results, Tryd.results65, go_sem, s0, s1, s2, s3, s4, s5]) rfl ⟨rfl, hW' _ (by repeat (first | with_reducible exact Gr.refl _ | with_reducible refine Gr.alloc ?_ _ | with_reducible refine Gr.drew ?_ | with_reducible refine Gr.trans ?_ (by assumption) | with_reducible refine Gr.setCell ?_ (by (try simp); (try omega)) _)) (by (try simp); (try omega))⟩
      · have hcb : decide (C < 0) = false := by simp; omega
        clear hC0
        have hgr := HGC.out
        go_wp2_with (go_at_call 56; with_reducible refine (HC.out _).mono ?_; rintro e w' ⟨rfl, hb⟩; have hz := hb.le; obtain ⟨hc, hf⟩ := hb.cells; have hn := hb.cellsN; (try simp only [World.size_alloc] at hc hf hz hn); (try simp only [World.size_setCell] at hc hf hz hn); (try simp only [World.size_drew] at hc hf hz hn))
        refine bodyPost_six (by intro j hj; rcases (show j = 0 ∨ j = 1 ∨ j = 2 ∨ j = 3 ∨ j = 4 ∨ j = 5 by omega) with rfl | rfl | rfl | rfl | rfl | rfl <;> simp [go_sem, *]) ?_
        intro W' hW' s0 s1 s2 s3 s4 s5
        exact bodyPost_ret (v := .tuple #[.agg #[.int .i64 Y0, .int .i64 Y1, .int .i64 Y2, .int .i64 Y3, .int .i64 Y4, .int .i64 Y5], .int .i64 0]) (by simp [results, Tryd.results65, go_sem, s0, s1, s2, s3, s4, s5]) rfl ⟨rfl, hW' _ (by repeat (first | with_reducible exact Gr.refl _ | with_reducible refine Gr.alloc ?_ _ | with_reducible refine Gr.drew ?_ | with_reducible refine Gr.trans ?_ (by assumption) | with_reducible refine Gr.setCell ?_ (by (try simp); (try omega)) _)) (by (try simp); (try omega))⟩
end Go.Proofs.YtbaopniofhbjdaaDoor

namespace Go.Proofs.YtbaopniofhbjdaaDoor
open Go.RowKit

theorem sub_neg6 (u v : V6) : v.sub u = (u.sub v).neg := by
  unfold V6.sub V6.neg
  simp only [V6.mk.injEq]
  refine ⟨?_, ?_, ?_, ?_, ?_, ?_⟩ <;> omega
theorem neg_in6 {v : V6} {B : Int} : allIn v.neg B 6 = allIn v B 6 := by
  rw [Bool.eq_iff_iff]
  simp only [allIn, V6.get, V6.neg, Bool.and_eq_true, decide_eq_true_eq]
  constructor <;> intro h <;> (repeat' apply And.intro) <;> first | trivial | rfl | omega
set_option maxRecDepth 100000 in
theorem r13dist_any {m Q : Nat} (b0 b1 b2 b3 b4 b5 most tol v0 v1 v2 v3 v4 v5 : Int) (A : Option Addr) (n c : Nat) (f : Nat → Nat → Int) (p : BlowIx m Q) (w : World) (hR : RowsAt w 6 A n f)
    (hok : hornOk ⟨b0, b1, b2, b3, b4, b5⟩ n f most tol = true) (hbl : isBlow n most ((p.1.1 : Int) + 1) p.1.2) (hv : allIn ⟨v0, v1, v2, v3, v4, v5⟩ 48 6 = true) (hs : allIn (soundV ⟨b0, b1, b2, b3, b4, b5⟩ f n (p.1.1 + 1) p.1.2) 576 6 = true) :
    ∃ Y0 Y1 Y2 Y3 Y4 Y5 E : Int, (∀ W, Gr w W → Calls Tryd.prog 65 #[.agg #[.int .i64 b0, .int .i64 b1, .int .i64 b2, .int .i64 b3, .int .i64 b4, .int .i64 b5, .slice A n c, .int .i64 most, .int .i64 tol], .agg #[.int .i64 ((p.1.1 : Int) + 1), .int .i64 (p.1.2 : Int)], .agg #[.int .i64 v0, .int .i64 v1, .int .i64 v2, .int .i64 v3, .int .i64 v4, .int .i64 v5]] W
      fun e w' => e = .returned (.tuple #[.agg #[.int .i64 Y0, .int .i64 Y1, .int .i64 Y2, .int .i64 Y3, .int .i64 Y4, .int .i64 Y5], .int .i64 E]) ∧ Gr W w') ∧
      ((okB ⟨b0, b1, b2, b3, b4, b5⟩ f n ⟨v0, v1, v2, v3, v4, v5⟩ p = true ∧ E = 0 ∧ (⟨Y0, Y1, Y2, Y3, Y4, Y5⟩ : V6) = distB ⟨b0, b1, b2, b3, b4, b5⟩ f n ⟨v0, v1, v2, v3, v4, v5⟩ p) ∨ (okB ⟨b0, b1, b2, b3, b4, b5⟩ f n ⟨v0, v1, v2, v3, v4, v5⟩ p = false ∧ E ≠ 0)) := by
  have hn4 := (hornOk_parts hok).2.1
  have hva := atV_in hv
  have hS := r13sound_all b0 b1 b2 b3 b4 b5 most tol ((p.1.1 : Int) + 1) p.1.2 _ _ _ _ _ _ 0 A n c f (by omega) (.inr (.inr (.inl ⟨hok, hbl, by rw [show ((p.1.1 : Int) + 1).toNat = p.1.1 + 1 by omega, Int.toNat_natCast]; exact hs, rfl, rfl⟩)))
  rw [show ((p.1.1 : Int) + 1).toNat = p.1.1 + 1 by omega, Int.toNat_natCast] at hS
  have hSW := fun W (hg : Gr w W) => hS W (hR.keep hg)
  unfold okB distB
  clear hS
  simp only [soundV] at hSW hs ⊢
  generalize soundF ⟨b0, b1, b2, b3, b4, b5⟩ f n (p.1.1 + 1) p.1.2 0 = z0 at *
  generalize soundF ⟨b0, b1, b2, b3, b4, b5⟩ f n (p.1.1 + 1) p.1.2 1 = z1 at *
  generalize soundF ⟨b0, b1, b2, b3, b4, b5⟩ f n (p.1.1 + 1) p.1.2 2 = z2 at *
  generalize soundF ⟨b0, b1, b2, b3, b4, b5⟩ f n (p.1.1 + 1) p.1.2 3 = z3 at *
  generalize soundF ⟨b0, b1, b2, b3, b4, b5⟩ f n (p.1.1 + 1) p.1.2 4 = z4 at *
  generalize soundF ⟨b0, b1, b2, b3, b4, b5⟩ f n (p.1.1 + 1) p.1.2 5 = z5 at *
  have hP := fun W => rpure_ok v0 v1 v2 v3 v4 v5 W hv
  obtain ⟨y0, y1, y2, y3, y4, y5, E1, hD, hA1⟩ := r3div_all z0 z1 z2 z3 z4 z5 (v0 * 12) (v1 * 12) (v2 * 12) (v3 * 12) (v4 * 12) (v5 * 12)
  have hat : atV ⟨v0, v1, v2, v3, v4, v5⟩ = ⟨v0 * 12, v1 * 12, v2 * 12, v3 * 12, v4 * 12, v5 * 12⟩ := rfl
  rw [hat] at hva ⊢
  rcases hA1 with ⟨-, -, h1, h2, rfl⟩ | ⟨-, -, h1, h2, rfl⟩ | ⟨h1 | ⟨-, h1⟩, -⟩
  · have hC := fun W => r3cmp_one y0 y1 y2 y3 y4 y5 W (by rw [h2]; exact h1)
    rw [h2] at hC
    by_cases hc : cmpP (V6.sub ⟨z0, z1, z2, z3, z4, z5⟩ ⟨v0 * 12, v1 * 12, v2 * 12, v3 * 12, v4 * 12, v5 * 12⟩) < 0
    · obtain ⟨Y0, Y1, Y2, Y3, Y4, Y5, E, hD2, hA2⟩ := r3div_all (v0 * 12) (v1 * 12) (v2 * 12) (v3 * 12) (v4 * 12) (v5 * 12) z0 z1 z2 z3 z4 z5
      have e : distV ⟨z0, z1, z2, z3, z4, z5⟩ ⟨v0 * 12, v1 * 12, v2 * 12, v3 * 12, v4 * 12, v5 * 12⟩ = V6.sub ⟨v0 * 12, v1 * 12, v2 * 12, v3 * 12, v4 * 12, v5 * 12⟩ ⟨z0, z1, z2, z3, z4, z5⟩ := by rw [distV, if_pos hc]
      have e2 : allIn (V6.sub ⟨v0 * 12, v1 * 12, v2 * 12, v3 * 12, v4 * 12, v5 * 12⟩ ⟨z0, z1, z2, z3, z4, z5⟩) 576 6 = true := by rw [sub_neg6, neg_in6]; exact h1
      rcases hA2 with ⟨-, -, -, h3, rfl⟩ | ⟨-, -, h3, -⟩ | ⟨h3 | ⟨-, h3⟩, -⟩
      · exact ⟨Y0, Y1, Y2, Y3, Y4, Y5, 0, fun W hg => r13dist_walk _ _ _ _ _ _ _ _ _ _ _ _ _ _ _ _ _ _ _ _ _ _ _ _ _ _ _ _ _ _ _ _ _ _ 0 _ _ _ _ _ _ _ _ _ _ W (fun W' hg' => hSW W' (hg.trans hg')) hP hD (.inr ⟨rfl, _, hC, .inl ⟨hc, hD2⟩⟩), .inl ⟨by rw [e]; exact e2, rfl, by rw [e]; exact h3⟩⟩
      · rw [e2] at h3; cases h3
      · rw [hva] at h3; cases h3
      · rw [hs] at h3; cases h3
    · have e : distV ⟨z0, z1, z2, z3, z4, z5⟩ ⟨v0 * 12, v1 * 12, v2 * 12, v3 * 12, v4 * 12, v5 * 12⟩ = V6.sub ⟨z0, z1, z2, z3, z4, z5⟩ ⟨v0 * 12, v1 * 12, v2 * 12, v3 * 12, v4 * 12, v5 * 12⟩ := by rw [distV, if_neg hc]
      exact ⟨y0, y1, y2, y3, y4, y5, 0, fun W hg => r13dist_walk _ _ _ _ _ _ _ _ _ _ _ _ _ _ _ _ _ _ _ _ _ _ _ _ _ _ _ _ _ _ _ _ _ _ 0 _ _ _ _ _ _ _ _ _ _ W (fun W' hg' => hSW W' (hg.trans hg')) hP hD (.inr ⟨rfl, _, hC, .inr ⟨by omega, rfl, rfl, rfl, rfl, rfl, rfl, rfl⟩⟩), .inl ⟨by rw [e]; exact h1, rfl, by rw [e]; exact h2⟩⟩
  · refine ⟨0, 0, 0, 0, 0, 0, 3, fun W hg => r13dist_walk _ _ _ _ _ _ _ _ _ _ _ _ _ _ _ _ _ _ _ _ _ _ _ _ _ _ _ _ _ _ _ _ _ _ 3 _ _ _ _ _ _ _ _ _ _ W (fun W' hg' => hSW W' (hg.trans hg')) hP hD (.inl ⟨by decide, rfl, rfl, rfl, rfl, rfl, rfl, rfl⟩), .inr ⟨?_, by decide⟩⟩
    unfold distV
    split
    · rw [sub_neg6, neg_in6]; exact h1
    · exact h1
  · rw [hs] at h1; cases h1
  · rw [hva] at h1; cases h1

/-- How far the search has come: the first i blows have distances, and the best of them has index idx. -/
def BestSt {m Q : Nat} (base : V6) (f : Nat → Nat → Int) (n : Nat) (v : V6) (L : List (BlowIx m Q)) (i idx : Nat) : Prop :=
  (∀ p ∈ L.take i, okB base f n v p = true) ∧ ((bestL base f n v (L.take i) = none ∧ i = 0 ∧ idx = 0) ∨ (∃ q, bestL base f n v (L.take i) = some q ∧ 0 < i ∧ L[idx]? = some q))
theorem BestSt.start {m Q : Nat} (base : V6) (f : Nat → Nat → Int) (n : Nat) (v : V6) (L : List (BlowIx m Q)) : BestSt base f n v L 0 0 := ⟨by simp, .inl ⟨by simp [bestL], rfl, rfl⟩⟩
theorem BestSt.ok {m Q : Nat} {base : V6} {f : Nat → Nat → Int} {n : Nat} {v : V6} {L : List (BlowIx m Q)} {i idx : Nat} (h : BestSt base f n v L i idx) {p : BlowIx m Q} (hp : L[i]? = some p) (ho : okB base f n v p = true) : ∀ q ∈ L.take (i + 1), okB base f n v q = true := by
  intro q hq
  rw [take_snoc hp, List.mem_append] at hq
  rcases hq with hq | hq
  · exact h.1 q hq
  · rw [List.mem_singleton] at hq; subst hq; exact ho
theorem BestSt.pick {m Q : Nat} {base : V6} {f : Nat → Nat → Int} {n : Nat} {v : V6} {L : List (BlowIx m Q)} {i idx : Nat} (h : BestSt base f n v L i idx) {p : BlowIx m Q} (hp : L[i]? = some p) (ho : okB base f n v p = true) (hk : pickB base f n v (bestL base f n v (L.take i)) p = some p) : BestSt base f n v L (i + 1) i ∧ accV base f n v (bestL base f n v (L.take (i + 1))) = distB base f n v p := by
  have e : bestL base f n v (L.take (i + 1)) = some p := by rw [take_snoc hp, bestL_snoc, hk]
  exact ⟨⟨h.ok hp ho, .inr ⟨p, e, by omega, hp⟩⟩, by rw [e]; rfl⟩
theorem BestSt.hold {m Q : Nat} {base : V6} {f : Nat → Nat → Int} {n : Nat} {v : V6} {L : List (BlowIx m Q)} {i idx : Nat} (h : BestSt base f n v L i idx) {p q : BlowIx m Q} (hp : L[i]? = some p) (ho : okB base f n v p = true) (hq : bestL base f n v (L.take i) = some q) (hk : pickB base f n v (some q) p = some q) : BestSt base f n v L (i + 1) idx ∧ accV base f n v (bestL base f n v (L.take (i + 1))) = distB base f n v q := by
  have e : bestL base f n v (L.take (i + 1)) = some q := by rw [take_snoc hp, bestL_snoc, hq, hk]
  rcases h.2 with ⟨h1, -⟩ | ⟨q', h1, h2, h3⟩
  · rw [hq] at h1; cases h1
  · rw [hq] at h1; cases h1
    exact ⟨⟨h.ok hp ho, .inr ⟨q, e, by omega, h3⟩⟩, by rw [e]; rfl⟩
end Go.Proofs.YtbaopniofhbjdaaDoor

namespace Go.Proofs.YtbaopniofhbjdaaDoor
open Go.RowKit

set_option maxRecDepth 100000 in
set_option maxHeartbeats 4000000 in
theorem r13best_bad {m Q : Nat} (b0 b1 b2 b3 b4 b5 most tol v0 v1 v2 v3 v4 v5 E X : Int) (A : Option Addr) (n c : Nat) (w : World) (L : List (BlowIx m Q))
    (hF : ∀ W, Gr w W → Calls Tryd.prog 18 #[.agg #[.int .i64 b0, .int .i64 b1, .int .i64 b2, .int .i64 b3, .int .i64 b4, .int .i64 b5, .slice A n c, .int .i64 most, .int .i64 tol], .agg #[.int .i64 v0, .int .i64 v1, .int .i64 v2, .int .i64 v3, .int .i64 v4, .int .i64 v5]] W (FindR E L W))
    (hE : (E = 1 ∧ X = 1) ∨ (E = 0 ∧ L = [] ∧ X = 4)) :
    Calls Tryd.prog 21 #[.agg #[.int .i64 b0, .int .i64 b1, .int .i64 b2, .int .i64 b3, .int .i64 b4, .int .i64 b5, .slice A n c, .int .i64 most, .int .i64 tol], .agg #[.int .i64 v0, .int .i64 v1, .int .i64 v2, .int .i64 v3, .int .i64 v4, .int .i64 v5]] w
      fun e w' => e = .returned (.tuple #[.agg #[.int .i64 0, .int .i64 0], .int .i64 X]) ∧ Gr w w' := by
  have HF := Lib.hid hF
  clear hF
  rcases hE with ⟨rfl, rfl⟩ | ⟨rfl, rfl, rfl⟩
  all_goals
    go_enter Tryd.func21, Tryd.ntmps21
    go_wp2_with fail
    refine (HF.out _ (by repeat (first | with_reducible exact Gr.refl _ | with_reducible refine Gr.alloc ?_ _ | with_reducible refine Gr.drew ?_ | with_reducible refine Gr.trans ?_ (by assumption) | with_reducible refine Gr.setCell ?_ (by (try simp); (try omega)) _))).mono ?_
    rintro e w' ⟨A', c', rfl, hrows, hle, hb⟩
    have hz := hb.le; obtain ⟨hc, hf⟩ := hb.cells; have hn := hb.cellsN
    (try simp only [World.size_alloc] at hc hf hz hn)
    clear hrows hle
    (try simp only [List.length_nil])
    go_wp2_with fail
    exact bodyPost_ret (by simp [results, Tryd.results21, go_sem, *]) rfl ⟨rfl, (by repeat (first | with_reducible exact Gr.refl _ | with_reducible refine Gr.alloc ?_ _ | with_reducible refine Gr.drew ?_ | with_reducible refine Gr.trans ?_ (by assumption) | with_reducible refine Gr.setCell ?_ (by (try simp); (try omega)) _))⟩
/-- The least distance so far, in block M. -/
structure LeastAt (W : World) (M : Nat) (v : V6) : Prop where
  six : SixV W M (.int .i64 v.x0) (.int .i64 v.x1) (.int .i64 v.x2) (.int .i64 v.x3) (.int .i64 v.x4) (.int .i64 v.x5)
  froz : ∀ o, W.frozen? ⟨M, o, none⟩ = false
  lt : M < W.heap.size
theorem LeastAt.keep {W W' : World} {M : Nat} {v : V6} (h : LeastAt W M v) (g : Gr W W') : LeastAt W' M v :=
  ⟨h.six.keep g h.lt, fun o => (Below.frozen (p := ⟨M, o, none⟩) g h.lt).trans (h.froz o), Nat.lt_of_lt_of_le h.lt g.le⟩
theorem LeastAt.store {W : World} {M : Nat} {v : V6} (h : LeastAt W M v) (u0 u1 u2 u3 u4 u5 : Int) : LeastAt (set6 W M (.int .i64 u0) (.int .i64 u1) (.int .i64 u2) (.int .i64 u3) (.int .i64 u4) (.int .i64 u5)) M ⟨u0, u1, u2, u3, u4, u5⟩ :=
  ⟨set6_own h.six.some _ _ _ _ _ _, fun o => by rw [set6_frozen]; exact h.froz o, by rw [set6_size]; exact h.lt⟩
theorem LeastAt.conv {W : World} {M : Nat} {v u : V6} (h : LeastAt W M v) (e : v = u) : LeastAt W M u := e ▸ h

set_option maxRecDepth 100000 in
set_option maxHeartbeats 16000000 in
theorem r13best_some {m Q : Nat} (b0 b1 b2 b3 b4 b5 most tol v0 v1 v2 v3 v4 v5 X S E : Int) (A : Option Addr) (n c : Nat) (f : Nat → Nat → Int) (w : World) (L : List (BlowIx m Q))
    (hF : ∀ W, Gr w W → Calls Tryd.prog 18 #[.agg #[.int .i64 b0, .int .i64 b1, .int .i64 b2, .int .i64 b3, .int .i64 b4, .int .i64 b5, .slice A n c, .int .i64 most, .int .i64 tol], .agg #[.int .i64 v0, .int .i64 v1, .int .i64 v2, .int .i64 v3, .int .i64 v4, .int .i64 v5]] W (FindR 0 L W))
    (hD : ∀ p ∈ L, ∃ Y0 Y1 Y2 Y3 Y4 Y5 E : Int, (∀ W, Gr w W → Calls Tryd.prog 65 #[.agg #[.int .i64 b0, .int .i64 b1, .int .i64 b2, .int .i64 b3, .int .i64 b4, .int .i64 b5, .slice A n c, .int .i64 most, .int .i64 tol], .agg #[.int .i64 ((p.1.1 : Int) + 1), .int .i64 (p.1.2 : Int)], .agg #[.int .i64 v0, .int .i64 v1, .int .i64 v2, .int .i64 v3, .int .i64 v4, .int .i64 v5]] W
      fun e w' => e = .returned (.tuple #[.agg #[.int .i64 Y0, .int .i64 Y1, .int .i64 Y2, .int .i64 Y3, .int .i64 Y4, .int .i64 Y5], .int .i64 E]) ∧ Gr W w') ∧
      ((okB ⟨b0, b1, b2, b3, b4, b5⟩ f n ⟨v0, v1, v2, v3, v4, v5⟩ p = true ∧ E = 0 ∧ (⟨Y0, Y1, Y2, Y3, Y4, Y5⟩ : V6) = distB ⟨b0, b1, b2, b3, b4, b5⟩ f n ⟨v0, v1, v2, v3, v4, v5⟩ p) ∨ (okB ⟨b0, b1, b2, b3, b4, b5⟩ f n ⟨v0, v1, v2, v3, v4, v5⟩ p = false ∧ E ≠ 0)))
    (hne : L ≠ []) (hres : BestRes ⟨b0, b1, b2, b3, b4, b5⟩ f n ⟨v0, v1, v2, v3, v4, v5⟩ L X S E) :
    Calls Tryd.prog 21 #[.agg #[.int .i64 b0, .int .i64 b1, .int .i64 b2, .int .i64 b3, .int .i64 b4, .int .i64 b5, .slice A n c, .int .i64 most, .int .i64 tol], .agg #[.int .i64 v0, .int .i64 v1, .int .i64 v2, .int .i64 v3, .int .i64 v4, .int .i64 v5]] w fun e w' => e = .returned (.tuple #[.agg #[.int .i64 X, .int .i64 S], .int .i64 E]) ∧ Gr w w' := by
  have HF := Lib.hid hF; have HD := Lib.hid hD; have HRES := Lib.hid hres
  have hlen : 0 < L.length := List.length_pos_iff.2 hne
  have hlb : (L.length == 0) = false := by rw [beq_eq_false_iff_ne]; omega
  have hlb2 : ((L.length : Int) == 0) = false := by rw [beq_eq_false_iff_ne]; omega
  clear hF hD hres hne
  go_enter Tryd.func21, Tryd.ntmps21
  go_wp2_with fail
  refine (HF.out _ (by repeat (first | with_reducible exact Gr.refl _ | with_reducible refine Gr.alloc ?_ _ | with_reducible refine Gr.drew ?_ | with_reducible refine Gr.trans ?_ (by assumption) | with_reducible refine Gr.setCell ?_ (by (try simp); (try omega)) _))).mono ?_
  rintro e w' ⟨A', c', rfl, hrows, hle, hb⟩
  have hz := hb.le; obtain ⟨hc, hf⟩ := hb.cells
  (try simp only [World.size_alloc] at hc hf hz)
  have hz3 : w.heap.size + 3 ≤ w'.heap.size := by omega
  have k1 : HornAt w' w.heap.size b0 b1 b2 b3 b4 b5 (.slice A n c) most tol := ⟨by simp [go_sem, *], by simp [go_sem, *], by simp [go_sem, *], by simp [go_sem, *], by simp [go_sem, *], by simp [go_sem, *], by simp [go_sem, *], by simp [go_sem, *], by simp [go_sem, *]⟩
  have k2 : SixV w' (w.heap.size + 1) (.int .i64 v0) (.int .i64 v1) (.int .i64 v2) (.int .i64 v3) (.int .i64 v4) (.int .i64 v5) := ⟨by simp [go_sem, *], by simp [go_sem, *], by simp [go_sem, *], by simp [go_sem, *], by simp [go_sem, *], by simp [go_sem, *]⟩
  have k4 : w'.cell? ⟨w.heap.size + 1 + 1, 0, none⟩ = some (.int .i64 0) ∧ w'.cell? ⟨w.heap.size + 1 + 1, 1, none⟩ = some (.int .i64 0) := ⟨by simp [go_sem, *], by simp [go_sem, *]⟩
  have k4f : ∀ o, w'.frozen? ⟨w.heap.size + 1 + 1, o, none⟩ = false := by intro o; simp [go_sem, *]
  have HG := Lib.hid (show Gr w w' from (by repeat (first | with_reducible exact Gr.refl _ | with_reducible refine Gr.alloc ?_ _ | with_reducible refine Gr.drew ?_ | with_reducible refine Gr.trans ?_ (by assumption) | with_reducible refine Gr.setCell ?_ (by (try simp); (try omega)) _)))
  have HK1 := Lib.hid k1; have HK2 := Lib.hid k2; have HK4 := Lib.hid k4; have HK4F := Lib.hid k4f; have HROWS := Lib.hid hrows
  have HM0 : Hid (LeastAt (w'.alloc (.cells #[.int .i64 0, .int .i64 0, .int .i64 0, .int .i64 0, .int .i64 0, .int .i64 0] 23)) w'.heap.size ⟨0, 0, 0, 0, 0, 0⟩) := Lib.hid ⟨⟨by simp [go_sem], by simp [go_sem], by simp [go_sem], by simp [go_sem], by simp [go_sem], by simp [go_sem]⟩, by intro o; simp [go_sem], by simp⟩
  have HG0 : Hid (Gr w' (w'.alloc (.cells #[.int .i64 0, .int .i64 0, .int .i64 0, .int .i64 0, .int .i64 0, .int .i64 0] 23))) := Lib.hid ((Gr.refl _).alloc _)
  clear k1 k2 k4 k4f hb hc hf hz hrows
  go_wp2_with fail
  generalize (w'.alloc (.cells #[.int .i64 0, .int .i64 0, .int .i64 0, .int .i64 0, .int .i64 0, .int .i64 0] 23)) = W0 at HM0 HG0 ⊢
  generalize hM : w'.heap.size = M at HM0 ⊢
  have HMM := Lib.hid hM
  clear hM
  go_loopw [8, 10] (fun bv iv wr => ∃ i idx : Nat, i ≤ L.length ∧ iv = .int .i64 (i : Int) ∧ bv = .int .i64 (idx : Int) ∧ BestSt ⟨b0, b1, b2, b3, b4, b5⟩ f n ⟨v0, v1, v2, v3, v4, v5⟩ L i idx ∧ Gr w' wr ∧ LeastAt wr M (accV ⟨b0, b1, b2, b3, b4, b5⟩ f n ⟨v0, v1, v2, v3, v4, v5⟩ (bestL ⟨b0, b1, b2, b3, b4, b5⟩ f n ⟨v0, v1, v2, v3, v4, v5⟩ (L.take i)))) (fun _ iv _ => L.length - (intOf iv).toNat)
  case atStart => exact ⟨0, 0, by omega, rfl, rfl, BestSt.start _ _ _ _ _, HG0.out, HM0.out⟩
  case round =>
    obtain ⟨i, idx, hil, rfl, rfl, hst, hgr, hlst⟩ := hrel
    have HST := Lib.hid hst; have HGR := Lib.hid hgr; have HLS := Lib.hid hlst
    obtain ⟨wo, rfl⟩ : ∃ wo : World, wo = wr := ⟨_, rfl⟩
    have hle' := hgr.le
    clear hst hgr hlst HM0 HG0
    by_cases hlt : i < L.length
    · obtain ⟨p, hp⟩ : ∃ p, L[i]? = some p := ⟨_, List.getElem?_eq_getElem hlt⟩
      have HP := Lib.hid hp
      obtain ⟨Y0, Y1, Y2, Y3, Y4, Y5, E1, hDp, hcase⟩ := HD.out p (List.mem_of_getElem? hp)
      have HDP := Lib.hid hDp
      obtain ⟨b, off, rfl, hbl, c0, c1⟩ := (HROWS.out.keep HGR.out).two hlt
      rw [show blowF L i 0 = (p.1.1 : Int) + 1 from pairF_0 hp] at c0
      rw [show blowF L i 1 = (p.1.2 : Int) from pairF_1 hp] at c1
      obtain ⟨p0, p1, p2, p3, p4, p5, p6, p7, p8⟩ := HK1.out.keep HGR.out (by omega)
      obtain ⟨u0, u1, u2, u3, u4, u5⟩ := HK2.out.keep HGR.out (by omega)
      have hi0 : (0 : Int) ≤ (i : Int) := by omega
      have hi1 : (i : Int) < (L.length : Int) := by omega
      have hN0 := cellsN_new_drew wo #[.int .i64 0, .int .i64 0, .int .i64 0, .int .i64 0, .int .i64 0, .int .i64 0] 23
      have hs1 : w.heap.size + 1 + 1 < wo.heap.size := by omega
      clear hDp hp
      go_upto_region 11 with fail
      go_cut [11, 12] (fun s11 s12 wx => ∃ B5 : Nat, s11 = .pointer (some ⟨B5, 0, none⟩) ∧ s12 = .int .i64 E1 ∧ B5 < wx.heap.size ∧ SixV wx B5 (.int .i64 Y0) (.int .i64 Y1) (.int .i64 Y2) (.int .i64 Y3) (.int .i64 Y4) (.int .i64 Y5) ∧ Gr wo wx)
      case first =>
        go_region_held3 (fun wx => (∀ b o, (⟨min (b + 1) wo.heap.size, 0, none⟩ : Addr) = ⟨b + 1, 0, none⟩ → wx.cell? ⟨b, o, none⟩ = wo.cell? ⟨b, o, none⟩) ∧ Gr wo wx) (first | with_reducible exact held_drew _ | with_reducible exact held_call (by assumption) (by assumption) | with_reducible exact held_alloc (by assumption) _ | with_reducible exact held_alloc0 _ _ | with_reducible exact held_anew (by assumption) _ (by omega) | ((repeat (with_reducible refine held_set ?_ (by (try simp); (try omega)) _)); (first | with_reducible assumption | with_reducible exact held_call (by assumption) (by assumption)))) (first | (go_at_call 65; with_reducible refine (HDP.out _ ((HG.out.trans HGR.out).trans (held_gr (by assumption)))).mono ?_; rintro e w' ⟨rfl, hb⟩; have hzz := ((held_gr (by assumption)).trans hb).le; have hz := hb.le; obtain ⟨hcx, hfx⟩ := hb.cells; have hn := hb.cellsN; (try simp only [World.size_drew] at hcx hfx hz hn); (try simp only [World.size_setCell] at hcx hfx hz hn); (try simp only [World.size_alloc] at hcx hfx hz hn)))
        all_goals
          go_wp2_with fail
          go_meet
          exact ⟨_, rfl, rfl, by (try simp); (try omega), ⟨by simp [go_sem, *], by simp [go_sem, *], by simp [go_sem, *], by simp [go_sem, *], by simp [go_sem, *], by simp [go_sem, *]⟩, held_gr (by assumption)⟩
      case rest =>
        obtain ⟨B5, rfl, rfl, hz7, ⟨f0, f1, f2, f3, f4, f5⟩, hgc⟩ := hcut
        have HGC := Lib.hid (HGR.out.trans hgc)
        have HLC := Lib.hid (HLS.out.keep hgc)
        have hlec := hgc.le
        clear hgc c0 c1 p0 p1 p2 p3 p4 p5 p6 p7 p8 u0 u1 u2 u3 u4 u5 hN0 HLS
        rcases hcase with ⟨hok, rfl, hY⟩ | ⟨hbad, hE⟩
        · have HYY := Lib.hid hY
          have hva : allIn ⟨Y0, Y1, Y2, Y3, Y4, Y5⟩ 576 6 = true := by rw [hY]; exact hok
          have hvb : allIn (accV ⟨b0, b1, b2, b3, b4, b5⟩ f n ⟨v0, v1, v2, v3, v4, v5⟩ (bestL ⟨b0, b1, b2, b3, b4, b5⟩ f n ⟨v0, v1, v2, v3, v4, v5⟩ (L.take i))) 576 6 = true := accV_in _ _ _ _ _ HST.out.1
          have HOK := Lib.hid hok
          have HAV : Hid (∀ q, bestL ⟨b0, b1, b2, b3, b4, b5⟩ f n ⟨v0, v1, v2, v3, v4, v5⟩ (L.take i) = some q → (accV ⟨b0, b1, b2, b3, b4, b5⟩ f n ⟨v0, v1, v2, v3, v4, v5⟩ (bestL ⟨b0, b1, b2, b3, b4, b5⟩ f n ⟨v0, v1, v2, v3, v4, v5⟩ (L.take i))) = distB ⟨b0, b1, b2, b3, b4, b5⟩ f n ⟨v0, v1, v2, v3, v4, v5⟩ q) := Lib.hid fun q hq => by rw [hq]; rfl
          generalize (accV ⟨b0, b1, b2, b3, b4, b5⟩ f n ⟨v0, v1, v2, v3, v4, v5⟩ (bestL ⟨b0, b1, b2, b3, b4, b5⟩ f n ⟨v0, v1, v2, v3, v4, v5⟩ (L.take i))) = AV at hvb HLC HAV
          obtain ⟨l0, l1, l2, l3, l4, l5⟩ := AV
          have HC := Lib.hid (fun W => r3cmp_ok Y0 Y1 Y2 Y3 Y4 Y5 l0 l1 l2 l3 l4 l5 W hva hvb)
          obtain ⟨⟨g0, g1, g2, g3, g4, g5⟩, gf, hM⟩ := HLC.out
          simp only at g0 g1 g2 g3 g4 g5
          clear hva hvb hY hok
          rcases HST.out.2 with ⟨hn1, hi0, -⟩ | ⟨q, hq, hi0, hidx⟩
          · have HPK := Lib.hid (HST.out.pick HP.out HOK.out (by rw [hn1]; rfl))
            have hib : ((i : Int) == 0) = true := by rw [beq_iff_eq]; omega
            have hib2 : (i == 0) = true := by rw [beq_iff_eq]; omega
            clear hn1 hi0
            generalize cmpP (V6.sub ⟨Y0, Y1, Y2, Y3, Y4, Y5⟩ ⟨l0, l1, l2, l3, l4, l5⟩) = C at HC
            go_wp2_with fail
            refine (HC.out _).mono ?_
            rintro e w4 ⟨rfl, hb4⟩
            have HG4 := Lib.hid (HGC.out.trans hb4)
            have HL4 := Lib.hid (HLC.out.keep hb4)
            have hz4 := hb4.le
            obtain ⟨hc4, hf4⟩ := hb4.cells
            go_wp2_with fail
            go_roundw
            case rel => exact ⟨i + 1, i, by omega, by go_num, rfl, HPK.out.1, set6_below HG4.out (by rw [HMM.out]; exact Nat.le_refl _) _ _ _ _ _ _, (HL4.out.store _ _ _ _ _ _).conv (HYY.out.trans HPK.out.2.symm)⟩
            case measure => simp [intOf]; omega
          · have hib : ((i : Int) == 0) = false := by rw [beq_eq_false_iff_ne]; omega
            have hib2 : (i == 0) = false := by rw [beq_eq_false_iff_ne]; omega
            have HCC : Hid (cmpP (V6.sub ⟨Y0, Y1, Y2, Y3, Y4, Y5⟩ ⟨l0, l1, l2, l3, l4, l5⟩) = cmpP ((distB ⟨b0, b1, b2, b3, b4, b5⟩ f n ⟨v0, v1, v2, v3, v4, v5⟩ p).sub (distB ⟨b0, b1, b2, b3, b4, b5⟩ f n ⟨v0, v1, v2, v3, v4, v5⟩ q))) := Lib.hid (by rw [HYY.out, HAV.out q hq])
            by_cases hcmp : cmpP ((distB ⟨b0, b1, b2, b3, b4, b5⟩ f n ⟨v0, v1, v2, v3, v4, v5⟩ p).sub (distB ⟨b0, b1, b2, b3, b4, b5⟩ f n ⟨v0, v1, v2, v3, v4, v5⟩ q)) < 0
            · have HPK := Lib.hid (HST.out.pick HP.out HOK.out (by rw [hq]; simp [pickB, hcmp]))
              rw [HCC.out] at HC
              have hcb : decide (cmpP ((distB ⟨b0, b1, b2, b3, b4, b5⟩ f n ⟨v0, v1, v2, v3, v4, v5⟩ p).sub (distB ⟨b0, b1, b2, b3, b4, b5⟩ f n ⟨v0, v1, v2, v3, v4, v5⟩ q)) < 0) = true := by simpa using hcmp
              clear hq hidx hcmp HCC
              generalize cmpP ((distB ⟨b0, b1, b2, b3, b4, b5⟩ f n ⟨v0, v1, v2, v3, v4, v5⟩ p).sub (distB ⟨b0, b1, b2, b3, b4, b5⟩ f n ⟨v0, v1, v2, v3, v4, v5⟩ q)) = C at HC hcb
              go_wp2_with fail
              refine (HC.out _).mono ?_
              rintro e w4 ⟨rfl, hb4⟩
              have HG4 := Lib.hid (HGC.out.trans hb4)
              have HL4 := Lib.hid (HLC.out.keep hb4)
              have hz4 := hb4.le
              obtain ⟨hc4, hf4⟩ := hb4.cells
              go_wp2_with fail
              go_roundw
              case rel => exact ⟨i + 1, i, by omega, by go_num, rfl, HPK.out.1, set6_below HG4.out (by rw [HMM.out]; exact Nat.le_refl _) _ _ _ _ _ _, (HL4.out.store _ _ _ _ _ _).conv (HYY.out.trans HPK.out.2.symm)⟩
              case measure => simp [intOf]; omega
            · have HPK := Lib.hid (HST.out.hold HP.out HOK.out hq (by simp [pickB, hcmp]))
              have HEQ := Lib.hid ((HAV.out q hq).trans HPK.out.2.symm)
              rw [HCC.out] at HC
              have hcb : decide (cmpP ((distB ⟨b0, b1, b2, b3, b4, b5⟩ f n ⟨v0, v1, v2, v3, v4, v5⟩ p).sub (distB ⟨b0, b1, b2, b3, b4, b5⟩ f n ⟨v0, v1, v2, v3, v4, v5⟩ q)) < 0) = false := by simpa using hcmp
              clear hq hidx hcmp HCC
              generalize cmpP ((distB ⟨b0, b1, b2, b3, b4, b5⟩ f n ⟨v0, v1, v2, v3, v4, v5⟩ p).sub (distB ⟨b0, b1, b2, b3, b4, b5⟩ f n ⟨v0, v1, v2, v3, v4, v5⟩ q)) = C at HC hcb
              go_wp2_with fail
              refine (HC.out _).mono ?_
              rintro e w4 ⟨rfl, hb4⟩
              have HG4 := Lib.hid (HGC.out.trans hb4)
              have HL4 := Lib.hid (HLC.out.keep hb4)
              clear hb4
              go_wp2_with fail
              go_roundw
              case rel => exact ⟨i + 1, idx, by omega, by go_num, rfl, HPK.out.1, HG4.out, HL4.out.conv HEQ.out⟩
              case measure => simp [intOf]; omega
        · obtain ⟨rfl, rfl, rfl⟩ := HRES.out.bad (List.mem_of_getElem? HP.out) hbad
          have hEb : (E1 == 0) = false := by rw [beq_eq_false_iff_ne]; exact hE
          have hEb2 : (E1 != 0) = true := by simpa using hE
          have r4 := HK4.out
          have r0 := (Below.cell (p := ⟨w.heap.size + 1 + 1, 0, none⟩) HGC.out (by show w.heap.size + 1 + 1 < _; omega)).trans HK4.out.1
          have r1 := (Below.cell (p := ⟨w.heap.size + 1 + 1, 1, none⟩) HGC.out (by show w.heap.size + 1 + 1 < _; omega)).trans HK4.out.2
          have rf : ∀ o, wc.frozen? ⟨w.heap.size + 1 + 1, o, none⟩ = false := fun o => (Below.frozen (p := ⟨w.heap.size + 1 + 1, o, none⟩) HGC.out (by show w.heap.size + 1 + 1 < _; omega)).trans (HK4F.out o)
          have hsr : w.heap.size + 1 + 1 < wc.heap.size := by omega
          have HGE := Lib.hid (HG.out.trans HGC.out)
          clear hE hbad r4
          go_wp2_with fail
          exact bodyPost_ret (by simp [results, Tryd.results21, go_sem, *]) rfl ⟨rfl, (HGE.out.setCell (by simp; omega) _).setCell (by simp; omega) _⟩
    · obtain hiL : i = L.length := by omega
      rw [hiL] at HST
      clear hlt
      have hle : ¬ i < L.length := by omega
      clear hiL
      have hst2 := HST.out
      unfold BestSt at hst2
      rw [List.take_length] at hst2
      have HST2 := Lib.hid hst2.1
      have hst3 := hst2.2
      clear hst2 HST
      rcases hst3 with ⟨-, h0, -⟩ | ⟨q, hq, -, hidx⟩
      · omega
      · obtain ⟨hX, hS, rfl⟩ := HRES.out.good (by intro e; rw [e] at hlen; simp at hlen) (fun p hp => HST2.out p hp)
        rw [hq] at hX hS
        have hil : idx < L.length := (List.getElem?_eq_some_iff.1 hidx).1
        obtain ⟨b, off, rfl, hbl, c0, c1⟩ := (HROWS.out.keep HGR.out).two hil
        rw [show blowF L idx 0 = X from (pairF_0 hidx).trans hX.symm] at c0
        rw [show blowF L idx 1 = S from (pairF_1 hidx).trans hS.symm] at c1
        have hi0 : (0 : Int) ≤ (idx : Int) := by omega
        have hi1 : (idx : Int) < (L.length : Int) := by omega
        have r0 := (Below.cell (p := ⟨w.heap.size + 1 + 1, 0, none⟩) HGR.out (by show w.heap.size + 1 + 1 < _; omega)).trans HK4.out.1
        have r1 := (Below.cell (p := ⟨w.heap.size + 1 + 1, 1, none⟩) HGR.out (by show w.heap.size + 1 + 1 < _; omega)).trans HK4.out.2
        have rf : ∀ o, wo.frozen? ⟨w.heap.size + 1 + 1, o, none⟩ = false := fun o => (Below.frozen (p := ⟨w.heap.size + 1 + 1, o, none⟩) HGR.out (by show w.heap.size + 1 + 1 < _; omega)).trans (HK4F.out o)
        have hsr : w.heap.size + 1 + 1 < wo.heap.size := by omega
        have HGE := Lib.hid (HG.out.trans HGR.out)
        clear hX hS hq hidx
        go_wp2_with fail
        exact bodyPost_ret (by simp [results, Tryd.results21, go_sem, *]) rfl ⟨rfl, (HGE.out.setCell (by simp; omega) _).setCell (by simp; omega) _⟩
end Go.Proofs.YtbaopniofhbjdaaDoor

namespace Go.Proofs.YtbaopniofhbjdaaDoor
open Go.RowKit

theorem r13find_all (b0 b1 b2 b3 b4 b5 most tol v0 v1 v2 v3 v4 v5 E : Int) (A : Option Addr) (n c : Nat) (f : Nat → Nat → Int) (hn : n ≤ 9223372036854775807)
    (h : (goodFV ⟨b0, b1, b2, b3, b4, b5⟩ f n most tol ⟨v0, v1, v2, v3, v4, v5⟩ = true ∧ E = 0) ∨ (goodFV ⟨b0, b1, b2, b3, b4, b5⟩ f n most tol ⟨v0, v1, v2, v3, v4, v5⟩ = false ∧ E = 1)) : ∀ w, RowsAt w 6 A n f →
    Calls Tryd.prog 18 #[.agg #[.int .i64 b0, .int .i64 b1, .int .i64 b2, .int .i64 b3, .int .i64 b4, .int .i64 b5, .slice A n c, .int .i64 most, .int .i64 tol], .agg #[.int .i64 v0, .int .i64 v1, .int .i64 v2, .int .i64 v3, .int .i64 v4, .int .i64 v5]] w (FindR E (findAll ⟨b0, b1, b2, b3, b4, b5⟩ f n most tol ⟨v0, v1, v2, v3, v4, v5⟩) w) := by
  intro w hR
  have hV := fun W (hg : Gr w W) => r13valid_any b0 b1 b2 b3 b4 b5 most tol A n c f W (hR.keep hg) hn
  have hI := fun W => r3interval_any v0 v1 v2 v3 v4 v5 W
  rcases h with ⟨h1, rfl⟩ | ⟨h1, rfl⟩
  · rw [findAll_yes h1]
    simp only [goodFV, Bool.and_eq_true] at h1
    obtain ⟨hok, hv⟩ := h1
    have hm := hornOk_most hok
    have hok' := hok
    rw [hm] at hok'
    have := r13find_ok b0 b1 b2 b3 b4 b5 tol v0 v1 v2 v3 v4 v5 A n c most.toNat (2 ^ n) f w hR hv hok' rfl
    rwa [← hm] at this
  · rw [findAll_no h1]
    have hb : hornOk ⟨b0, b1, b2, b3, b4, b5⟩ n f most tol = false ∨ (hornOk ⟨b0, b1, b2, b3, b4, b5⟩ n f most tol = true ∧ allIn ⟨v0, v1, v2, v3, v4, v5⟩ 48 6 = false) := by
      simp only [goodFV] at h1
      cases h2 : hornOk ⟨b0, b1, b2, b3, b4, b5⟩ n f most tol
      · exact .inl rfl
      · rw [h2] at h1; exact .inr ⟨rfl, by simpa using h1⟩
    refine (r13find_bad b0 b1 b2 b3 b4 b5 most tol v0 v1 v2 v3 v4 v5 _ _ A n c w hV hI hb).mono ?_
    rintro e w' ⟨rfl, hg⟩
    exact ⟨none, 0, rfl, RowsAt.nil _ _ _ _, by simp, hg⟩
theorem r13best_all (b0 b1 b2 b3 b4 b5 most tol v0 v1 v2 v3 v4 v5 X S E : Int) (A : Option Addr) (n c : Nat) (f : Nat → Nat → Int) (hn : n ≤ 9223372036854775807)
    (h : BestAll ⟨b0, b1, b2, b3, b4, b5⟩ f n most tol ⟨v0, v1, v2, v3, v4, v5⟩ X S E) : ∀ w, RowsAt w 6 A n f →
    Calls Tryd.prog 21 #[.agg #[.int .i64 b0, .int .i64 b1, .int .i64 b2, .int .i64 b3, .int .i64 b4, .int .i64 b5, .slice A n c, .int .i64 most, .int .i64 tol], .agg #[.int .i64 v0, .int .i64 v1, .int .i64 v2, .int .i64 v3, .int .i64 v4, .int .i64 v5]] w fun e w' => e = .returned (.tuple #[.agg #[.int .i64 X, .int .i64 S], .int .i64 E]) ∧ Gr w w' := by
  intro w hR
  rcases h with ⟨h1, rfl, rfl, rfl⟩ | ⟨h1, hres⟩
  · exact r13best_bad b0 b1 b2 b3 b4 b5 most tol v0 v1 v2 v3 v4 v5 1 1 A n c w (findAll ⟨b0, b1, b2, b3, b4, b5⟩ f n most tol ⟨v0, v1, v2, v3, v4, v5⟩) (fun W hg => r13find_all b0 b1 b2 b3 b4 b5 most tol v0 v1 v2 v3 v4 v5 1 A n c f hn (.inr ⟨h1, rfl⟩) W (hR.keep hg)) (.inl ⟨rfl, rfl⟩)
  · have hF := fun W (hg : Gr w W) => r13find_all b0 b1 b2 b3 b4 b5 most tol v0 v1 v2 v3 v4 v5 0 A n c f hn (.inl ⟨h1, rfl⟩) W (hR.keep hg)
    by_cases hL : findAll ⟨b0, b1, b2, b3, b4, b5⟩ f n most tol ⟨v0, v1, v2, v3, v4, v5⟩ = []
    · obtain ⟨rfl, rfl, rfl⟩ := hres.empty hL
      exact r13best_bad b0 b1 b2 b3 b4 b5 most tol v0 v1 v2 v3 v4 v5 0 4 A n c w (findAll ⟨b0, b1, b2, b3, b4, b5⟩ f n most tol ⟨v0, v1, v2, v3, v4, v5⟩) hF (.inr ⟨rfl, hL, rfl⟩)
    · have h1' := h1
      simp only [goodFV, Bool.and_eq_true] at h1
      obtain ⟨hok, hv⟩ := h1
      obtain ⟨-, hn4, -, -, -, -, -⟩ := hornOk_parts hok
      refine r13best_some b0 b1 b2 b3 b4 b5 most tol v0 v1 v2 v3 v4 v5 X S E A n c f w _ hF (fun p hp => ?_) hL hres
      have hpl := (mem_findAll.1 hp).2
      have hm := hornOk_most hok
      exact r13dist_any b0 b1 b2 b3 b4 b5 most tol v0 v1 v2 v3 v4 v5 A n c f p w hR hok ⟨by omega, by have := p.2.1; omega, by omega, by have := p.2.2; omega⟩ hv (playsB_in hpl)
theorem sameR_self (g : Nat → Nat → Int) (n : Nat) : sameR g g n = true := by rw [sameR_iff]; intro i hi; exact ⟨rfl, rfl⟩
theorem same_self (A : Option Addr) (n c : Nat) (g : Nat → Nat → Int) (A' : Option Addr) (c' : Nat) (w : World) (hR : RowsAt w 2 A n g) (hR' : RowsAt w 2 A' n g) (hn : n ≤ 9223372036854775807) :
    Calls Tryd.prog 19 #[.slice A n c, .slice A' n c'] w fun e w' => e = .returned (.bool true) ∧ Gr w w' := by
  have h := same_any A n c g A' n c' g w hR hR' hn hn
  rwa [sameR_self, beq_self_eq_true] at h

set_option maxRecDepth 100000 in
set_option maxHeartbeats 16000000 in
theorem bmatch_walk {m Q : Nat} (b0 b1 b2 b3 b4 b5 most tol x s v0 v1 v2 v3 v4 v5 z0 z1 z2 z3 z4 z5 ez EF X S EB : Int) (B : Bool) (A : Option Addr) (n c : Nat) (L : List (BlowIx m Q)) (w : World) (hT : Tabs w)
    (hV : ∀ W, Gr w W → Calls Tryd.prog 13 #[.agg #[.int .i64 b0, .int .i64 b1, .int .i64 b2, .int .i64 b3, .int .i64 b4, .int .i64 b5, .slice A n c, .int .i64 most, .int .i64 tol]] W fun e w' => e = .returned (.bool B) ∧ Gr W w')
    (rV : ∀ W, Gr w W → Calls Tryd.prog 14 #[.agg #[.int .i64 b0, .int .i64 b1, .int .i64 b2, .int .i64 b3, .int .i64 b4, .int .i64 b5, .slice A n c, .int .i64 most, .int .i64 tol]] W fun e w' => e = .returned (.bool B) ∧ Gr W w')
    (hS : ∀ W, Gr w W → Calls Tryd.prog 15 #[.agg #[.int .i64 b0, .int .i64 b1, .int .i64 b2, .int .i64 b3, .int .i64 b4, .int .i64 b5, .slice A n c, .int .i64 most, .int .i64 tol], .agg #[.int .i64 x, .int .i64 s]] W fun e w' => e = .returned (.tuple #[.agg #[.int .i64 z0, .int .i64 z1, .int .i64 z2, .int .i64 z3, .int .i64 z4, .int .i64 z5], .int .i64 ez]) ∧ Gr W w')
    (rS : ∀ W, Gr w W → Calls Tryd.prog 16 #[.agg #[.int .i64 b0, .int .i64 b1, .int .i64 b2, .int .i64 b3, .int .i64 b4, .int .i64 b5, .slice A n c, .int .i64 most, .int .i64 tol], .agg #[.int .i64 x, .int .i64 s]] W fun e w' => e = .returned (.tuple #[.agg #[.int .i64 z0, .int .i64 z1, .int .i64 z2, .int .i64 z3, .int .i64 z4, .int .i64 z5], .int .i64 ez]) ∧ Gr W w')
    (hF : ∀ W, Gr w W → Calls Tryd.prog 17 #[.agg #[.int .i64 b0, .int .i64 b1, .int .i64 b2, .int .i64 b3, .int .i64 b4, .int .i64 b5, .slice A n c, .int .i64 most, .int .i64 tol], .agg #[.int .i64 v0, .int .i64 v1, .int .i64 v2, .int .i64 v3, .int .i64 v4, .int .i64 v5]] W (FindR EF L W))
    (rF : ∀ W, Gr w W → Calls Tryd.prog 18 #[.agg #[.int .i64 b0, .int .i64 b1, .int .i64 b2, .int .i64 b3, .int .i64 b4, .int .i64 b5, .slice A n c, .int .i64 most, .int .i64 tol], .agg #[.int .i64 v0, .int .i64 v1, .int .i64 v2, .int .i64 v3, .int .i64 v4, .int .i64 v5]] W (FindR EF L W))
    (hB : ∀ W, Gr w W → Calls Tryd.prog 20 #[.agg #[.int .i64 b0, .int .i64 b1, .int .i64 b2, .int .i64 b3, .int .i64 b4, .int .i64 b5, .slice A n c, .int .i64 most, .int .i64 tol], .agg #[.int .i64 v0, .int .i64 v1, .int .i64 v2, .int .i64 v3, .int .i64 v4, .int .i64 v5]] W fun e w' => e = .returned (.tuple #[.agg #[.int .i64 X, .int .i64 S], .int .i64 EB]) ∧ Gr W w')
    (rB : ∀ W, Gr w W → Calls Tryd.prog 21 #[.agg #[.int .i64 b0, .int .i64 b1, .int .i64 b2, .int .i64 b3, .int .i64 b4, .int .i64 b5, .slice A n c, .int .i64 most, .int .i64 tol], .agg #[.int .i64 v0, .int .i64 v1, .int .i64 v2, .int .i64 v3, .int .i64 v4, .int .i64 v5]] W fun e w' => e = .returned (.tuple #[.agg #[.int .i64 X, .int .i64 S], .int .i64 EB]) ∧ Gr W w') :
    Calls Tryd.prog 3 #[.agg #[.int .i64 b0, .int .i64 b1, .int .i64 b2, .int .i64 b3, .int .i64 b4, .int .i64 b5, .slice A n c, .int .i64 most, .int .i64 tol], .agg #[.int .i64 x, .int .i64 s], .agg #[.int .i64 v0, .int .i64 v1, .int .i64 v2, .int .i64 v3, .int .i64 v4, .int .i64 v5]] w fun e w' => e = .returned (.bool true) ∧ Gr w w' := by
  have HT := Lib.hid hT; have HhV := Lib.hid hV; have HrV := Lib.hid rV; have HhS := Lib.hid hS; have HrS := Lib.hid rS; have HhF := Lib.hid hF; have HrF := Lib.hid rF; have HhB := Lib.hid hB; have HrB := Lib.hid rB
  clear hT hV rV hS rS hF rF hB rB
  have HQ := eq6P_yes z0 z1 z2 z3 z4 z5
  have hBB : (B == B) = true := by simp
  have hez : (ez == ez) = true := by simp
  have hef : (EF == EF) = true := by simp
  have heb : (EB == EB) = true := by simp
  go_enter Tryd.func3, Tryd.ntmps3
  go_wp2_with fail
  have k1 : HornAt (((w.alloc (.cells #[.int .i64 b0, .int .i64 b1, .int .i64 b2, .int .i64 b3, .int .i64 b4, .int .i64 b5, .slice A n c, .int .i64 most, .int .i64 tol] 26)).alloc (.cells #[.int .i64 x, .int .i64 s] 28)).alloc (.cells #[.int .i64 v0, .int .i64 v1, .int .i64 v2, .int .i64 v3, .int .i64 v4, .int .i64 v5] 29)) w.heap.size b0 b1 b2 b3 b4 b5 (.slice A n c) most tol := ⟨by simp [go_sem], by simp [go_sem], by simp [go_sem], by simp [go_sem], by simp [go_sem], by simp [go_sem], by simp [go_sem], by simp [go_sem], by simp [go_sem]⟩
  have k2 : (((w.alloc (.cells #[.int .i64 b0, .int .i64 b1, .int .i64 b2, .int .i64 b3, .int .i64 b4, .int .i64 b5, .slice A n c, .int .i64 most, .int .i64 tol] 26)).alloc (.cells #[.int .i64 x, .int .i64 s] 28)).alloc (.cells #[.int .i64 v0, .int .i64 v1, .int .i64 v2, .int .i64 v3, .int .i64 v4, .int .i64 v5] 29)).cell? ⟨w.heap.size + 1, 0, none⟩ = some (.int .i64 x) := by simp [go_sem]
  have k3 : (((w.alloc (.cells #[.int .i64 b0, .int .i64 b1, .int .i64 b2, .int .i64 b3, .int .i64 b4, .int .i64 b5, .slice A n c, .int .i64 most, .int .i64 tol] 26)).alloc (.cells #[.int .i64 x, .int .i64 s] 28)).alloc (.cells #[.int .i64 v0, .int .i64 v1, .int .i64 v2, .int .i64 v3, .int .i64 v4, .int .i64 v5] 29)).cell? ⟨w.heap.size + 1, 1, none⟩ = some (.int .i64 s) := by simp [go_sem]
  have k4 : SixV (((w.alloc (.cells #[.int .i64 b0, .int .i64 b1, .int .i64 b2, .int .i64 b3, .int .i64 b4, .int .i64 b5, .slice A n c, .int .i64 most, .int .i64 tol] 26)).alloc (.cells #[.int .i64 x, .int .i64 s] 28)).alloc (.cells #[.int .i64 v0, .int .i64 v1, .int .i64 v2, .int .i64 v3, .int .i64 v4, .int .i64 v5] 29)) (w.heap.size + 1 + 1) (.int .i64 v0) (.int .i64 v1) (.int .i64 v2) (.int .i64 v3) (.int .i64 v4) (.int .i64 v5) := ⟨by simp [go_sem], by simp [go_sem], by simp [go_sem], by simp [go_sem], by simp [go_sem], by simp [go_sem]⟩
  have hsz : w.heap.size + 3 ≤ (((w.alloc (.cells #[.int .i64 b0, .int .i64 b1, .int .i64 b2, .int .i64 b3, .int .i64 b4, .int .i64 b5, .slice A n c, .int .i64 most, .int .i64 tol] 26)).alloc (.cells #[.int .i64 x, .int .i64 s] 28)).alloc (.cells #[.int .i64 v0, .int .i64 v1, .int .i64 v2, .int .i64 v3, .int .i64 v4, .int .i64 v5] 29)).heap.size := by simp
  have HG := Lib.hid (show Gr w (((w.alloc (.cells #[.int .i64 b0, .int .i64 b1, .int .i64 b2, .int .i64 b3, .int .i64 b4, .int .i64 b5, .slice A n c, .int .i64 most, .int .i64 tol] 26)).alloc (.cells #[.int .i64 x, .int .i64 s] 28)).alloc (.cells #[.int .i64 v0, .int .i64 v1, .int .i64 v2, .int .i64 v3, .int .i64 v4, .int .i64 v5] 29)) from (((Gr.refl w).alloc _).alloc _).alloc _)
  generalize (((w.alloc (.cells #[.int .i64 b0, .int .i64 b1, .int .i64 b2, .int .i64 b3, .int .i64 b4, .int .i64 b5, .slice A n c, .int .i64 most, .int .i64 tol] 26)).alloc (.cells #[.int .i64 x, .int .i64 s] 28)).alloc (.cells #[.int .i64 v0, .int .i64 v1, .int .i64 v2, .int .i64 v3, .int .i64 v4, .int .i64 v5] 29)) = wo at *
  have HK := Lib.hid k1; have HK4 := Lib.hid k4; have HK23 := Lib.hid (And.intro k2 k3)
  obtain ⟨p0, p1, p2, p3, p4, p5, p6, p7, p8⟩ := k1
  obtain ⟨u0, u1, u2, u3, u4, u5⟩ := k4
  have hs1 : w.heap.size + 1 + 1 < wo.heap.size := by omega
  have hs0 : w.heap.size < wo.heap.size := by omega
  go_cut [7] (fun s7 wx => s7 = .bool true ∧ Gr wo wx)
  case first =>
    go_region_held3 (fun wx => (∀ b o, (⟨min (b + 1) wo.heap.size, 0, none⟩ : Addr) = ⟨b + 1, 0, none⟩ → wx.cell? ⟨b, o, none⟩ = wo.cell? ⟨b, o, none⟩) ∧ Gr wo wx) (first | with_reducible exact held_drew _ | with_reducible exact held_call (by assumption) (by assumption) | with_reducible exact held_alloc (by assumption) _ | with_reducible exact held_alloc0 _ _ | with_reducible exact held_anew (by assumption) _ (by omega) | ((repeat (with_reducible refine held_set ?_ (by (try simp); (try omega)) _)); (first | with_reducible assumption | with_reducible exact held_call (by assumption) (by assumption)))) (first
      | (go_at_call 12; with_reducible refine (bhead_any _ (HT.out.keep (HG.out.trans (held_gr (by assumption))))).mono ?_; rintro e w' ⟨rfl, hb⟩; have hzz := ((held_gr (by assumption)).trans hb).le; have hz := hb.le; obtain ⟨hcx, hfx⟩ := hb.cells; have hn := hb.cellsN; (try simp only [World.size_drew] at hcx hfx hz hn); (try simp only [World.size_setCell] at hcx hfx hz hn); (try simp only [World.size_alloc] at hcx hfx hz hn))
      | (go_at_call 13; with_reducible refine (HhV.out _ (HG.out.trans (held_gr (by assumption)))).mono ?_; rintro e w' ⟨rfl, hb⟩; have hzz := ((held_gr (by assumption)).trans hb).le; have hz := hb.le; obtain ⟨hcx, hfx⟩ := hb.cells; have hn := hb.cellsN; (try simp only [World.size_drew] at hcx hfx hz hn); (try simp only [World.size_setCell] at hcx hfx hz hn); (try simp only [World.size_alloc] at hcx hfx hz hn))
      | (go_at_call 14; with_reducible refine (HrV.out _ (HG.out.trans (held_gr (by assumption)))).mono ?_; rintro e w' ⟨rfl, hb⟩; have hzz := ((held_gr (by assumption)).trans hb).le; have hz := hb.le; obtain ⟨hcx, hfx⟩ := hb.cells; have hn := hb.cellsN; (try simp only [World.size_drew] at hcx hfx hz hn); (try simp only [World.size_setCell] at hcx hfx hz hn); (try simp only [World.size_alloc] at hcx hfx hz hn)))
    all_goals
      go_wp2_with fail
      go_meet
      exact ⟨by first | rfl | simp, held_gr (by assumption)⟩
  case rest =>
    obtain ⟨rfl, hg⟩ := hcut
    have hle := hg.le
    have HGC := Lib.hid (HG.out.trans hg)
    obtain ⟨q0, q1, q2, q3, q4, q5, q6, q7, q8⟩ := HK.out.keep hg hs0
    obtain ⟨r0, r1, r2, r3, r4, r5⟩ := HK4.out.keep hg hs1
    have y0 := (Below.cell (p := ⟨w.heap.size + 1, 0, none⟩) hg (by show w.heap.size + 1 < _; omega)).trans HK23.out.1
    have y1 := (Below.cell (p := ⟨w.heap.size + 1, 1, none⟩) hg (by show w.heap.size + 1 < _; omega)).trans HK23.out.2
    have hw3 : w.heap.size + 3 ≤ wc.heap.size := by omega
    clear hg p0 p1 p2 p3 p4 p5 p6 p7 p8 u0 u1 u2 u3 u4 u5 k2 k3
    go_wp2_with (first
      | (go_at_call 15; with_reducible refine (HhS.out _ (HGC.out.trans (by repeat (first | with_reducible exact Gr.refl _ | with_reducible refine Gr.alloc ?_ _ | with_reducible refine Gr.drew ?_ | with_reducible refine Gr.trans ?_ (by assumption) | with_reducible refine Gr.setCell ?_ (by (try simp); (try omega)) _)))).mono ?_; rintro e w' ⟨rfl, hb⟩; have hz := hb.le; obtain ⟨hc, hf⟩ := hb.cells; have hn := hb.cellsN; (try simp only [World.size_alloc] at hc hf hz hn); (try simp only [World.size_setCell] at hc hf hz hn); (try simp only [World.size_drew] at hc hf hz hn))
      | (go_at_call 16; with_reducible refine (HrS.out _ (HGC.out.trans (by repeat (first | with_reducible exact Gr.refl _ | with_reducible refine Gr.alloc ?_ _ | with_reducible refine Gr.drew ?_ | with_reducible refine Gr.trans ?_ (by assumption) | with_reducible refine Gr.setCell ?_ (by (try simp); (try omega)) _)))).mono ?_; rintro e w' ⟨rfl, hb⟩; have hz := hb.le; obtain ⟨hc, hf⟩ := hb.cells; have hn := hb.cellsN; (try simp only [World.size_alloc] at hc hf hz hn); (try simp only [World.size_setCell] at hc hf hz hn); (try simp only [World.size_drew] at hc hf hz hn))
      | (go_at_call 17; (with_reducible refine (HhF.out _ (HGC.out.trans (by repeat (first | with_reducible exact Gr.refl _ | with_reducible refine Gr.alloc ?_ _ | with_reducible refine Gr.drew ?_ | with_reducible refine Gr.trans ?_ (by assumption) | with_reducible refine Gr.setCell ?_ (by (try simp); (try omega)) _)))).mono ?_); rintro e w5 ⟨A5, c5, rfl, hr5, hl5, hb5⟩; have HR5 := Lib.hid hr5; have HL5 := Lib.hid hl5; clear hr5 hl5; have hz5 := hb5.le; obtain ⟨hc5, hf5⟩ := hb5.cells; (try simp only [World.size_alloc] at hc5 hf5 hz5))
      | (go_at_call 18; (with_reducible refine (HrF.out _ (HGC.out.trans (by repeat (first | with_reducible exact Gr.refl _ | with_reducible refine Gr.alloc ?_ _ | with_reducible refine Gr.drew ?_ | with_reducible refine Gr.trans ?_ (by assumption) | with_reducible refine Gr.setCell ?_ (by (try simp); (try omega)) _)))).mono ?_); rintro e w6 ⟨A6, c6, rfl, hr6, hl6, hb6⟩; have HR6 := Lib.hid hr6; clear hr6 hl6; have hz6 := hb6.le; obtain ⟨hc6, hf6⟩ := hb6.cells; (try simp only [World.size_alloc] at hc6 hf6 hz6))
      | (go_at_call 19; with_reducible refine (same_self _ _ _ _ _ _ _ (HR5.out.keep (by repeat (first | with_reducible exact Gr.refl _ | with_reducible refine Gr.alloc ?_ _ | with_reducible refine Gr.drew ?_ | with_reducible refine Gr.trans ?_ (by assumption) | with_reducible refine Gr.setCell ?_ (by (try simp); (try omega)) _))) (HR6.out.keep (by repeat (first | with_reducible exact Gr.refl _ | with_reducible refine Gr.alloc ?_ _ | with_reducible refine Gr.drew ?_ | with_reducible refine Gr.trans ?_ (by assumption) | with_reducible refine Gr.setCell ?_ (by (try simp); (try omega)) _))) HL5.out).mono ?_; rintro e w' ⟨rfl, hb⟩; have hz := hb.le; obtain ⟨hc, hf⟩ := hb.cells; have hn := hb.cellsN; (try simp only [World.size_alloc] at hc hf hz hn); (try simp only [World.size_setCell] at hc hf hz hn); (try simp only [World.size_drew] at hc hf hz hn))
      | (go_at_call 20; with_reducible refine (HhB.out _ (HGC.out.trans (by repeat (first | with_reducible exact Gr.refl _ | with_reducible refine Gr.alloc ?_ _ | with_reducible refine Gr.drew ?_ | with_reducible refine Gr.trans ?_ (by assumption) | with_reducible refine Gr.setCell ?_ (by (try simp); (try omega)) _)))).mono ?_; rintro e w' ⟨rfl, hb⟩; have hz := hb.le; obtain ⟨hc, hf⟩ := hb.cells; have hn := hb.cellsN; (try simp only [World.size_alloc] at hc hf hz hn); (try simp only [World.size_setCell] at hc hf hz hn); (try simp only [World.size_drew] at hc hf hz hn))
      | (go_at_call 21; with_reducible refine (HrB.out _ (HGC.out.trans (by repeat (first | with_reducible exact Gr.refl _ | with_reducible refine Gr.alloc ?_ _ | with_reducible refine Gr.drew ?_ | with_reducible refine Gr.trans ?_ (by assumption) | with_reducible refine Gr.setCell ?_ (by (try simp); (try omega)) _)))).mono ?_; rintro e w' ⟨rfl, hb⟩; have hz := hb.le; obtain ⟨hc, hf⟩ := hb.cells; have hn := hb.cellsN; (try simp only [World.size_alloc] at hc hf hz hn); (try simp only [World.size_setCell] at hc hf hz hn); (try simp only [World.size_drew] at hc hf hz hn)))
    go_ret
    exact ⟨rfl, HGC.out.trans (by repeat (first | with_reducible exact Gr.refl _ | with_reducible refine Gr.alloc ?_ _ | with_reducible refine Gr.drew ?_ | with_reducible refine Gr.trans ?_ (by assumption) | with_reducible refine Gr.setCell ?_ (by (try simp); (try omega)) _))⟩
theorem bmatch_law (b0 b1 b2 b3 b4 b5 most tol x s v0 v1 v2 v3 v4 v5 : Int) (A : Option Addr) (n c : Nat) (f : Nat → Nat → Int) (hn : n ≤ 9223372036854775807) (w : World) (hT : Tabs w) (hR : RowsAt w 6 A n f) :
    Calls Tryd.prog 3 #[.agg #[.int .i64 b0, .int .i64 b1, .int .i64 b2, .int .i64 b3, .int .i64 b4, .int .i64 b5, .slice A n c, .int .i64 most, .int .i64 tol], .agg #[.int .i64 x, .int .i64 s], .agg #[.int .i64 v0, .int .i64 v1, .int .i64 v2, .int .i64 v3, .int .i64 v4, .int .i64 v5]] w fun e w' => e = .returned (.bool true) ∧ Gr w w' := by
  obtain ⟨z0, z1, z2, z3, z4, z5, ez, hS, hSA⟩ := Sound_all b0 b1 b2 b3 b4 b5 most tol x s A n c f hn
  obtain ⟨EF, hF, hFA⟩ := Find_all b0 b1 b2 b3 b4 b5 most tol v0 v1 v2 v3 v4 v5 A n c f hn
  obtain ⟨X, S, EB, hB, hBA⟩ := Best_all b0 b1 b2 b3 b4 b5 most tol v0 v1 v2 v3 v4 v5 A n c f hn
  exact bmatch_walk b0 b1 b2 b3 b4 b5 most tol x s v0 v1 v2 v3 v4 v5 z0 z1 z2 z3 z4 z5 ez EF X S EB (hornOk ⟨b0, b1, b2, b3, b4, b5⟩ n f most tol) A n c (findAll ⟨b0, b1, b2, b3, b4, b5⟩ f n most tol ⟨v0, v1, v2, v3, v4, v5⟩) w hT
    (fun W hg => hornValid_any b0 b1 b2 b3 b4 b5 most tol A n c f W (hT.keep hg).primes (hR.keep hg) hn)
    (fun W hg => r13valid_any b0 b1 b2 b3 b4 b5 most tol A n c f W (hR.keep hg) hn)
    (fun W hg => hS W (hT.keep hg) (hR.keep hg))
    (fun W hg => r13sound_all b0 b1 b2 b3 b4 b5 most tol x s z0 z1 z2 z3 z4 z5 ez A n c f hn hSA W (hR.keep hg))
    (fun W hg => hF W (hT.keep hg) (hR.keep hg))
    (fun W hg => r13find_all b0 b1 b2 b3 b4 b5 most tol v0 v1 v2 v3 v4 v5 EF A n c f hn hFA W (hR.keep hg))
    (fun W hg => hB W (hT.keep hg) (hR.keep hg))
    (fun W hg => r13best_all b0 b1 b2 b3 b4 b5 most tol v0 v1 v2 v3 v4 v5 X S EB A n c f hn hBA W (hR.keep hg))
end Go.Proofs.YtbaopniofhbjdaaDoor
