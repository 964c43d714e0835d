/-
  schismaref12.Fret and Sound.
  schismaref12.plays and Find.
  schismaref12.holds, Fits and search.
  schismaref12.Chord.
  The law FretsMatchesReference.
-/
import Derived.Test.YtohalcookjbaaaaDoorNkPl
import Derived.Test.YtohalcookjbaaaaDoorNkRV
import Derived.Test.YtohalcookjbaaaaDoorR3M
import Derived.Test.YtohalcookjbaaaaDoorR3Of
import Derived.Test.YtohalcookjbaaaaDoorRN
import Derived.Test.YtohalcookjbaaaaDoorNkH
import Derived.Test.YtohalcookjbaaaaDoorNkN
import Derived.BigQuiet
import Derived.Deep.QuietTactic
import Derived.IntWalk
import Derived.Test.YtohalcookjbaaaaDoorNkK
import Derived.Test.YtohalcookjbaaaaDoorNkHx
namespace Go.Proofs.YtohalcookjbaaaaDoor
open Go.RowKit

set_option maxRecDepth 100000 in
set_option maxHeartbeats 16000000 in
theorem rfret_any (O Q : Option Addr) (no co nf cq : Nat) (sp tl s k : Int) (w : World) :
    Calls Tryd.prog 44 #[.agg #[.slice O no co, .slice Q nf cq, .int .i64 sp, .int .i64 tl], .agg #[.int .i64 s, .int .i64 k]] w fun e w' => e = .returned (.bool (exB no nf s k)) ∧ Gr w w' := by
  rcases (by omega : s < 0 ∨ (0 ≤ s ∧ (no : Int) ≤ s) ∨ (0 ≤ s ∧ s < (no : Int) ∧ k < 0) ∨ (0 ≤ s ∧ s < (no : Int) ∧ 0 ≤ k ∧ (nf : Int) < k) ∨ (0 ≤ s ∧ s < (no : Int) ∧ 0 ≤ k ∧ k ≤ (nf : Int))) with q1 | ⟨q1, q2⟩ | ⟨q1, q2, q3⟩ | ⟨q1, q2, q3, q4⟩ | ⟨q1, q2, q3, q4⟩
  · rw [exB_no (by omega)]
    have d1 : decide (0 ≤ s) = false := decide_eq_false (by omega)
    go_enter Tryd.func44, Tryd.ntmps44
    go_wp2_with fail
    go_ret
    exact ⟨rfl, (by repeat (first | with_reducible exact Gr.refl _ | with_reducible refine Gr.alloc ?_ _ | with_reducible refine Gr.drew ?_ | with_reducible refine Gr.trans ?_ (by assumption) | with_reducible refine Gr.setCell ?_ (by (try simp); (try omega)) _))⟩
  · rw [exB_no (by omega)]
    have d1 : decide (0 ≤ s) = true := decide_eq_true q1
    have d2 : decide (s < (no : Int)) = false := decide_eq_false (by omega)
    go_enter Tryd.func44, Tryd.ntmps44
    go_wp2_with fail
    go_ret
    exact ⟨rfl, (by repeat (first | with_reducible exact Gr.refl _ | with_reducible refine Gr.alloc ?_ _ | with_reducible refine Gr.drew ?_ | with_reducible refine Gr.trans ?_ (by assumption) | with_reducible refine Gr.setCell ?_ (by (try simp); (try omega)) _))⟩
  · rw [exB_no (by omega)]
    have d1 : decide (0 ≤ s) = true := decide_eq_true q1
    have d2 : decide (s < (no : Int)) = true := decide_eq_true q2
    have d3 : decide (0 ≤ k) = false := decide_eq_false (by omega)
    go_enter Tryd.func44, Tryd.ntmps44
    go_wp2_with fail
    go_ret
    exact ⟨rfl, (by repeat (first | with_reducible exact Gr.refl _ | with_reducible refine Gr.alloc ?_ _ | with_reducible refine Gr.drew ?_ | with_reducible refine Gr.trans ?_ (by assumption) | with_reducible refine Gr.setCell ?_ (by (try simp); (try omega)) _))⟩
  · rw [exB_no (by omega)]
    have d1 : decide (0 ≤ s) = true := decide_eq_true q1
    have d2 : decide (s < (no : Int)) = true := decide_eq_true q2
    have d3 : decide (0 ≤ k) = true := decide_eq_true q3
    have d4 : decide (k ≤ (nf : Int)) = false := decide_eq_false (by omega)
    go_enter Tryd.func44, Tryd.ntmps44
    go_wp2_with fail
    go_ret
    exact ⟨rfl, (by repeat (first | with_reducible exact Gr.refl _ | with_reducible refine Gr.alloc ?_ _ | with_reducible refine Gr.drew ?_ | with_reducible refine Gr.trans ?_ (by assumption) | with_reducible refine Gr.setCell ?_ (by (try simp); (try omega)) _))⟩
  · rw [exB_yes ⟨q1, q2, q3, q4⟩]
    have d1 : decide (0 ≤ s) = true := decide_eq_true q1
    have d2 : decide (s < (no : Int)) = true := decide_eq_true q2
    have d3 : decide (0 ≤ k) = true := decide_eq_true q3
    have d4 : decide (k ≤ (nf : Int)) = true := decide_eq_true q4
    go_enter Tryd.func44, Tryd.ntmps44
    go_wp2_with fail
    go_ret
    exact ⟨rfl, (by repeat (first | with_reducible exact Gr.refl _ | with_reducible refine Gr.alloc ?_ _ | with_reducible refine Gr.drew ?_ | with_reducible refine Gr.trans ?_ (by assumption) | with_reducible refine Gr.setCell ?_ (by (try simp); (try omega)) _))⟩

set_option maxRecDepth 100000 in
set_option maxHeartbeats 16000000 in
theorem rsound_bad (O Q : Option Addr) (no co nf cq : Nat) (sp tl : Int) (o q : Nat → Nat → Int) (s k : Int) (w : World) (hO : RowsAt w 6 O no o) (hQ : RowsAt w 6 Q nf q) (hno : no ≤ 9223372036854775807) (hnf : nf ≤ 9223372036854775807) (hbad : (neckB no o nf q sp tl && exB no nf s k) = false) :
    Calls Tryd.prog 21 #[.agg #[.slice O no co, .slice Q nf cq, .int .i64 sp, .int .i64 tl], .agg #[.int .i64 s, .int .i64 k]] w fun e w' => e = .returned (.tuple #[.agg #[.int .i64 0, .int .i64 0, .int .i64 0, .int .i64 0, .int .i64 0, .int .i64 0], .int .i64 1]) ∧ Gr w w' := by
  have hV := fun W (g : Gr w W) => rneck_any O Q no co nf cq sp tl o q W (hO.keep g) (hQ.keep g) hno hnf
  have hE := fun W => rfret_any O Q no co nf cq sp tl s k W
  rcases bool_tf (neckB no o nf q sp tl) with hn | hn
  · rw [hn, Bool.true_and] at hbad
    rw [hn] at hV
    rw [hbad] at hE
    have HV := Lib.hid hV; have HE := Lib.hid hE
    clear hV hE hbad hn hO hQ
    go_enter Tryd.func21, Tryd.ntmps21
    go_wp2_with fail
    (go_at_call 14; with_reducible refine (HV.out _ (by repeat (first | with_reducible exact Gr.refl _ | with_reducible refine Gr.alloc ?_ _ | with_reducible refine Gr.drew ?_ | with_reducible refine Gr.trans ?_ (by assumption) | with_reducible refine Gr.setCell ?_ (by (try simp); (try omega)) _))).mono ?_; rintro e w' ⟨rfl, hb⟩; have hz := hb.le; obtain ⟨hc, hf⟩ := hb.cells; have hn := hb.cellsN; (try simp only [World.size_alloc] at hc hf hz hn); (try simp only [World.size_setCell] at hc hf hz hn); (try simp only [World.size_drew] at hc hf hz hn))
    go_wp2_with fail
    (go_at_call 44; with_reducible refine (HE.out _).mono ?_; rintro e w' ⟨rfl, hb⟩; have hz := hb.le; obtain ⟨hc, hf⟩ := hb.cells; have hn := hb.cellsN; (try simp only [World.size_alloc] at hc hf hz hn); (try simp only [World.size_setCell] at hc hf hz hn); (try simp only [World.size_drew] at hc hf hz hn))
    go_wp2_with fail
    refine bodyPost_six (by intro j hj; rcases (show j = 0 ∨ j = 1 ∨ j = 2 ∨ j = 3 ∨ j = 4 ∨ j = 5 by omega) with rfl | rfl | rfl | rfl | rfl | rfl <;> simp [go_sem, *]) ?_
    intro W' hW' s0 s1 s2 s3 s4 s5
    exact bodyPost_ret (v := .tuple #[.agg #[.int .i64 0, .int .i64 0, .int .i64 0, .int .i64 0, .int .i64 0, .int .i64 0], .int .i64 1]) (by simp [results, Tryd.results21, go_sem, s0, s1, s2, s3, s4, s5]) rfl ⟨rfl, hW' _ (by repeat (first | with_reducible exact Gr.refl _ | with_reducible refine Gr.alloc ?_ _ | with_reducible refine Gr.drew ?_ | with_reducible refine Gr.trans ?_ (by assumption) | with_reducible refine Gr.setCell ?_ (by (try simp); (try omega)) _)) (by (try simp); (try omega))⟩
  · rw [hn] at hV
    have HV := Lib.hid hV; have HE := Lib.hid hE
    clear hV hE hbad hn hO hQ
    go_enter Tryd.func21, Tryd.ntmps21
    go_wp2_with fail
    (go_at_call 14; with_reducible refine (HV.out _ (by repeat (first | with_reducible exact Gr.refl _ | with_reducible refine Gr.alloc ?_ _ | with_reducible refine Gr.drew ?_ | with_reducible refine Gr.trans ?_ (by assumption) | with_reducible refine Gr.setCell ?_ (by (try simp); (try omega)) _))).mono ?_; rintro e w' ⟨rfl, hb⟩; have hz := hb.le; obtain ⟨hc, hf⟩ := hb.cells; have hn := hb.cellsN; (try simp only [World.size_alloc] at hc hf hz hn); (try simp only [World.size_setCell] at hc hf hz hn); (try simp only [World.size_drew] at hc hf hz hn))
    go_wp2_with fail
    (go_at_call 44; with_reducible refine (HE.out _).mono ?_; rintro e w' ⟨rfl, hb⟩; have hz := hb.le; obtain ⟨hc, hf⟩ := hb.cells; have hn := hb.cellsN; (try simp only [World.size_alloc] at hc hf hz hn); (try simp only [World.size_setCell] at hc hf hz hn); (try simp only [World.size_drew] at hc hf hz hn))
    go_wp2_with fail
    refine bodyPost_six (by intro j hj; rcases (show j = 0 ∨ j = 1 ∨ j = 2 ∨ j = 3 ∨ j = 4 ∨ j = 5 by omega) with rfl | rfl | rfl | rfl | rfl | rfl <;> simp [go_sem, *]) ?_
    intro W' hW' s0 s1 s2 s3 s4 s5
    exact bodyPost_ret (v := .tuple #[.agg #[.int .i64 0, .int .i64 0, .int .i64 0, .int .i64 0, .int .i64 0, .int .i64 0], .int .i64 1]) (by simp [results, Tryd.results21, go_sem, s0, s1, s2, s3, s4, s5]) rfl ⟨rfl, hW' _ (by repeat (first | with_reducible exact Gr.refl _ | with_reducible refine Gr.alloc ?_ _ | with_reducible refine Gr.drew ?_ | with_reducible refine Gr.trans ?_ (by assumption) | with_reducible refine Gr.setCell ?_ (by (try simp); (try omega)) _)) (by (try simp); (try omega))⟩

set_option maxRecDepth 100000 in
set_option maxHeartbeats 16000000 in
theorem rsound_open (O Q : Option Addr) (no co nf cq : Nat) (sp tl : Int) (o q : Nat → Nat → Int) (s : Nat) (w : World) (hO : RowsAt w 6 O no o) (hQ : RowsAt w 6 Q nf q) (hno : no ≤ 9223372036854775807) (hnf : nf ≤ 9223372036854775807) (hok : neckB no o nf q sp tl = true) (hs : s < no) :
    Calls Tryd.prog 21 #[.agg #[.slice O no co, .slice Q nf cq, .int .i64 sp, .int .i64 tl], .agg #[.int .i64 (s : Int), .int .i64 0]] w fun e w' => e = .returned (.tuple #[.agg #[.int .i64 (o s 0), .int .i64 (o s 1), .int .i64 (o s 2), .int .i64 (o s 3), .int .i64 (o s 4), .int .i64 (o s 5)], .int .i64 0]) ∧ Gr w w' := by
  have hV := fun W (g : Gr w W) => rneck_any O Q no co nf cq sp tl o q W (hO.keep g) (hQ.keep g) hno hnf
  have hE := fun W => rfret_any O Q no co nf cq sp tl s 0 W
  rw [hok] at hV
  rw [exB_yes ⟨by omega, by omega, by omega, by omega⟩] at hE
  have HV := Lib.hid hV; have HE := Lib.hid hE
  have HO := Lib.hid hO
  have hs0 : (0 : Int) ≤ (s : Int) := by omega
  have hs1 : (s : Int) < (no : Int) := by omega
  clear hV hE hok hO hQ
  go_enter Tryd.func21, Tryd.ntmps21
  go_upto_region 1 with fail
  have HB : Hid (NeckAt ((w.alloc (.cells #[.slice O no co, .slice Q nf cq, .int .i64 sp, .int .i64 tl] 24)).alloc (.cells #[.int .i64 (s : Int), .int .i64 0] 37)) w.heap.size O Q no co nf cq sp tl) := Lib.hid ((neckAt_new w O Q no co nf cq sp tl 24).keep ((Gr.refl _).alloc _))
  have hf0 : ((w.alloc (.cells #[.slice O no co, .slice Q nf cq, .int .i64 sp, .int .i64 tl] 24)).alloc (.cells #[.int .i64 (s : Int), .int .i64 0] 37)).cell? ⟨w.heap.size + 1, 0, none⟩ = some (.int .i64 (s : Int)) := by simp [go_sem]
  have hf1 : ((w.alloc (.cells #[.slice O no co, .slice Q nf cq, .int .i64 sp, .int .i64 tl] 24)).alloc (.cells #[.int .i64 (s : Int), .int .i64 0] 37)).cell? ⟨w.heap.size + 1, 1, none⟩ = some (.int .i64 0) := by simp [go_sem]
  have hgX : Gr w ((w.alloc (.cells #[.slice O no co, .slice Q nf cq, .int .i64 sp, .int .i64 tl] 24)).alloc (.cells #[.int .i64 (s : Int), .int .i64 0] 37)) := ((Gr.refl _).alloc _).alloc _
  have hsz : ((w.alloc (.cells #[.slice O no co, .slice Q nf cq, .int .i64 sp, .int .i64 tl] 24)).alloc (.cells #[.int .i64 (s : Int), .int .i64 0] 37)).heap.size = w.heap.size + 1 + 1 := by simp
  generalize hX0 : ((w.alloc (.cells #[.slice O no co, .slice Q nf cq, .int .i64 sp, .int .i64 tl] 24)).alloc (.cells #[.int .i64 (s : Int), .int .i64 0] 37)) = X0 at *
  clear hX0
  obtain ⟨hl0, b0, b1, b2, b3⟩ := HB.out
  go_wp2_with fail
  (go_at_call 14; with_reducible refine (HV.out _ (hgX.trans (by repeat (first | with_reducible exact Gr.refl _ | with_reducible refine Gr.alloc ?_ _ | with_reducible refine Gr.drew ?_ | with_reducible refine Gr.trans ?_ (by assumption) | with_reducible refine Gr.setCell ?_ (by (try simp); (try omega)) _)))).mono ?_; rintro e w' ⟨rfl, hb⟩; have hz := hb.le; obtain ⟨hc, hf⟩ := hb.cells; have hn := hb.cellsN; (try simp only [World.size_alloc] at hc hf hz hn); (try simp only [World.size_setCell] at hc hf hz hn); (try simp only [World.size_drew] at hc hf hz hn))
  go_wp2_with fail
  (go_at_call 44; with_reducible refine (HE.out _).mono ?_; rintro e w' ⟨rfl, hb⟩; have hz := hb.le; obtain ⟨hc, hf⟩ := hb.cells; have hn := hb.cellsN; (try simp only [World.size_alloc] at hc hf hz hn); (try simp only [World.size_setCell] at hc hf hz hn); (try simp only [World.size_drew] at hc hf hz hn))
  have hGX : Gr X0 w' := (by repeat (first | with_reducible exact Gr.refl _ | with_reducible refine Gr.alloc ?_ _ | with_reducible refine Gr.drew ?_ | with_reducible refine Gr.trans ?_ (by assumption) | with_reducible refine Gr.setCell ?_ (by (try simp); (try omega)) _))
  have hz4 : ∀ o, o < 6 → w'.cell? ⟨w.heap.size + 1 + 1, o, none⟩ = some (.int .i64 0) := by
    intro o' ho
    rcases (show o' = 0 ∨ o' = 1 ∨ o' = 2 ∨ o' = 3 ∨ o' = 4 ∨ o' = 5 by omega) with rfl | rfl | rfl | rfl | rfl | rfl <;> simp [go_sem, *]
  have hzf : ∀ o, w'.frozen? ⟨w.heap.size + 1 + 1, o, none⟩ = false := by intro o'; simp [go_sem, *]
  have hzn : cellsN w' (w.heap.size + 1 + 1) = 6 := by (try simp [go_sem, *]); rw [← hsz]; exact cellsN_alloc_new _ _ _ _
  have hzl : w.heap.size + 1 + 1 < w'.heap.size := by omega
  have hr1 := (HO.out.keep hgX).six hs
  obtain ⟨b, off, hbo, hbl, c0, c1, c2, c3, c4, c5⟩ := hr1
  subst hbo
  clear hb hz hc hf hn
  obtain ⟨wo, rfl⟩ : ∃ wo : World, wo = w' := ⟨_, rfl⟩
  have HRO := (HO.out.keep (hgX.trans hGX)).six hs
  obtain ⟨b', off', hbo, hbl', c0', c1', c2', c3', c4', c5'⟩ := HRO
  cases hbo
  have hbn := HB.out.keep hGX
  obtain ⟨hl2, b0', b1', b2', b3'⟩ := hbn
  have hf0' := (Below.cell (p := ⟨w.heap.size + 1, 0, none⟩) hGX (show w.heap.size + 1 < X0.heap.size by omega)).trans hf0
  have hf1' := (Below.cell (p := ⟨w.heap.size + 1, 1, none⟩) hGX (show w.heap.size + 1 < X0.heap.size by omega)).trans hf1
  have z0 := hz4 0 (by omega); have z1 := hz4 1 (by omega); have z2 := hz4 2 (by omega); have z3 := hz4 3 (by omega); have z4 := hz4 4 (by omega); have z5 := hz4 5 (by omega)
  clear hf0 hf1 hl0 b0 b1 b2 b3 c0 c1 c2 c3 c4 c5 hz4
  go_wp2_with fail
  refine bodyPost_six (by intro j hj; rcases (show j = 0 ∨ j = 1 ∨ j = 2 ∨ j = 3 ∨ j = 4 ∨ j = 5 by omega) with rfl | rfl | rfl | rfl | rfl | rfl <;> simp [go_sem, *]) ?_
  intro W' hW' s0 s1 s2 s3 s4 s5
  exact bodyPost_ret (v := .tuple #[.agg #[.int .i64 (o s 0), .int .i64 (o s 1), .int .i64 (o s 2), .int .i64 (o s 3), .int .i64 (o s 4), .int .i64 (o s 5)], .int .i64 0]) (by simp [results, Tryd.results21, go_sem, s0, s1, s2, s3, s4, s5]) rfl ⟨rfl, hW' _ (by repeat (first | with_reducible exact Gr.refl _ | with_reducible refine Gr.alloc ?_ _ | with_reducible refine Gr.drew ?_ | with_reducible refine Gr.trans ?_ (by assumption) | with_reducible refine Gr.setCell ?_ (by (try simp); (try omega)) _)) (by (try simp); (try omega))⟩

set_option maxRecDepth 100000 in
set_option maxHeartbeats 16000000 in
theorem rsound_fret (O Q : Option Addr) (no co nf cq : Nat) (sp tl : Int) (o q : Nat → Nat → Int) (s k : Nat) (w : World) (hO : RowsAt w 6 O no o) (hQ : RowsAt w 6 Q nf q) (hno : no ≤ 9223372036854775807) (hnf : nf ≤ 9223372036854775807) (hok : neckB no o nf q sp tl = true) (hs : s < no) (hk : k < nf) :
    Calls Tryd.prog 21 #[.agg #[.slice O no co, .slice Q nf cq, .int .i64 sp, .int .i64 tl], .agg #[.int .i64 (s : Int), .int .i64 ((k : Int) + 1)]] w fun e w' => e = .returned (.tuple #[.agg #[.int .i64 (o s 0 + q k 0), .int .i64 (o s 1 + q k 1), .int .i64 (o s 2 + q k 2), .int .i64 (o s 3 + q k 3), .int .i64 (o s 4 + q k 4), .int .i64 (o s 5 + q k 5)], .int .i64 0]) ∧ Gr w w' := by
  have hV := fun W (g : Gr w W) => rneck_any O Q no co nf cq sp tl o q W (hO.keep g) (hQ.keep g) hno hnf
  have hE := fun W => rfret_any O Q no co nf cq sp tl s ((k : Int) + 1) W
  rw [exB_yes ⟨by omega, by omega, by omega, by omega⟩] at hE
  have hres := soundF_in hok hs (show k + 1 ≤ nf by omega)
  have hma := (opensB_at (neckB_parts hok).2.2 hs).1
  have hmb := (risesB_at (neckB_parts hok).2.1 hk).1
  simp only [soundF, V6.add, rowV] at hres hma hmb
  have hM := fun W => r3mul_ok (o s 0) (o s 1) (o s 2) (o s 3) (o s 4) (o s 5) (q k 0) (q k 1) (q k 2) (q k 3) (q k 4) (q k 5) W hma hmb hres
  clear hres hma hmb
  have hlim := (neckB_parts hok).1
  rw [hok] at hV
  have HV := Lib.hid hV; have HE := Lib.hid hE; have HM := Lib.hid hM
  have HO := Lib.hid hO; have HQ := Lib.hid hQ
  have hs0 : (0 : Int) ≤ (s : Int) := by omega
  have hs1 : (s : Int) < (no : Int) := by omega
  have hk0 : (0 : Int) ≤ (k : Int) := by omega
  have hk1 : (k : Int) < (nf : Int) := by omega
  have hke : ((k : Int) + 1 == 0) = false := by simp; omega
  have hke2 : decide ((k : Int) + 1 = 0) = false := decide_eq_false (by omega)
  have hwk : IntKind.i64.wrap ((k : Int) + 1 - 1) = (k : Int) := (IntWalk.i64_in _ ⟨by omega, by omega⟩).trans (by omega)
  have hwk2 : IntKind.i64.wrap (k : Int) = (k : Int) := IntWalk.i64_in _ ⟨by omega, by omega⟩
  clear hV hE hM hok hO hQ hlim
  go_enter Tryd.func21, Tryd.ntmps21
  go_upto_region 1 with fail
  have HB : Hid (NeckAt ((w.alloc (.cells #[.slice O no co, .slice Q nf cq, .int .i64 sp, .int .i64 tl] 24)).alloc (.cells #[.int .i64 (s : Int), .int .i64 ((k : Int) + 1)] 37)) w.heap.size O Q no co nf cq sp tl) := Lib.hid ((neckAt_new w O Q no co nf cq sp tl 24).keep ((Gr.refl _).alloc _))
  have hf0 : ((w.alloc (.cells #[.slice O no co, .slice Q nf cq, .int .i64 sp, .int .i64 tl] 24)).alloc (.cells #[.int .i64 (s : Int), .int .i64 ((k : Int) + 1)] 37)).cell? ⟨w.heap.size + 1, 0, none⟩ = some (.int .i64 (s : Int)) := by simp [go_sem]
  have hf1 : ((w.alloc (.cells #[.slice O no co, .slice Q nf cq, .int .i64 sp, .int .i64 tl] 24)).alloc (.cells #[.int .i64 (s : Int), .int .i64 ((k : Int) + 1)] 37)).cell? ⟨w.heap.size + 1, 1, none⟩ = some (.int .i64 ((k : Int) + 1)) := by simp [go_sem]
  have hgX : Gr w ((w.alloc (.cells #[.slice O no co, .slice Q nf cq, .int .i64 sp, .int .i64 tl] 24)).alloc (.cells #[.int .i64 (s : Int), .int .i64 ((k : Int) + 1)] 37)) := ((Gr.refl _).alloc _).alloc _
  have hsz : ((w.alloc (.cells #[.slice O no co, .slice Q nf cq, .int .i64 sp, .int .i64 tl] 24)).alloc (.cells #[.int .i64 (s : Int), .int .i64 ((k : Int) + 1)] 37)).heap.size = w.heap.size + 1 + 1 := by simp
  generalize hX0 : ((w.alloc (.cells #[.slice O no co, .slice Q nf cq, .int .i64 sp, .int .i64 tl] 24)).alloc (.cells #[.int .i64 (s : Int), .int .i64 ((k : Int) + 1)] 37)) = X0 at *
  clear hX0
  obtain ⟨hl0, b0, b1, b2, b3⟩ := HB.out
  go_wp2_with fail
  (go_at_call 14; with_reducible refine (HV.out _ (hgX.trans (by repeat (first | with_reducible exact Gr.refl _ | with_reducible refine Gr.alloc ?_ _ | with_reducible refine Gr.drew ?_ | with_reducible refine Gr.trans ?_ (by assumption) | with_reducible refine Gr.setCell ?_ (by (try simp); (try omega)) _)))).mono ?_; rintro e w' ⟨rfl, hb⟩; have hz := hb.le; obtain ⟨hc, hf⟩ := hb.cells; have hn := hb.cellsN; (try simp only [World.size_alloc] at hc hf hz hn); (try simp only [World.size_setCell] at hc hf hz hn); (try simp only [World.size_drew] at hc hf hz hn))
  go_wp2_with fail
  (go_at_call 44; with_reducible refine (HE.out _).mono ?_; rintro e w' ⟨rfl, hb⟩; have hz := hb.le; obtain ⟨hc, hf⟩ := hb.cells; have hn := hb.cellsN; (try simp only [World.size_alloc] at hc hf hz hn); (try simp only [World.size_setCell] at hc hf hz hn); (try simp only [World.size_drew] at hc hf hz hn))
  have hGX : Gr X0 w' := (by repeat (first | with_reducible exact Gr.refl _ | with_reducible refine Gr.alloc ?_ _ | with_reducible refine Gr.drew ?_ | with_reducible refine Gr.trans ?_ (by assumption) | with_reducible refine Gr.setCell ?_ (by (try simp); (try omega)) _))
  have hz4 : ∀ o, o < 6 → w'.cell? ⟨w.heap.size + 1 + 1, o, none⟩ = some (.int .i64 0) := by
    intro o' ho
    rcases (show o' = 0 ∨ o' = 1 ∨ o' = 2 ∨ o' = 3 ∨ o' = 4 ∨ o' = 5 by omega) with rfl | rfl | rfl | rfl | rfl | rfl <;> simp [go_sem, *]
  have hzf : ∀ o, w'.frozen? ⟨w.heap.size + 1 + 1, o, none⟩ = false := by intro o'; simp [go_sem, *]
  have hzn : cellsN w' (w.heap.size + 1 + 1) = 6 := by (try simp [go_sem, *]); rw [← hsz]; exact cellsN_alloc_new _ _ _ _
  have hzl : w.heap.size + 1 + 1 < w'.heap.size := by omega
  have hr1 := (HO.out.keep hgX).six hs
  obtain ⟨b, off, hbo, hbl, c0, c1, c2, c3, c4, c5⟩ := hr1
  subst hbo
  clear hb hz hc hf hn
  obtain ⟨wo, rfl⟩ : ∃ wo : World, wo = w' := ⟨_, rfl⟩
  have hr2 := (HQ.out.keep hgX).six hk
  obtain ⟨b', off', hbo, hbl', e0, e1, e2, e3, e4, e5⟩ := hr2
  subst hbo
  have hf0' := (Below.cell (p := ⟨w.heap.size + 1, 0, none⟩) hGX (show w.heap.size + 1 < X0.heap.size by omega)).trans hf0
  have hf1' := (Below.cell (p := ⟨w.heap.size + 1, 1, none⟩) hGX (show w.heap.size + 1 < X0.heap.size by omega)).trans hf1
  have hz40 := hz4 0 (by omega); have hz41 := hz4 1 (by omega); have hz42 := hz4 2 (by omega); have hz43 := hz4 3 (by omega); have hz44 := hz4 4 (by omega); have hz45 := hz4 5 (by omega)
  clear hz4
  go_upto_region 7 with fail
  clear hf0' hf1'
  go_cut [5] (fun sv wx => sv = .int .i64 0 ∧ SixV wx (w.heap.size + 1 + 1) (.int .i64 (o s 0 + q k 0)) (.int .i64 (o s 1 + q k 1)) (.int .i64 (o s 2 + q k 2)) (.int .i64 (o s 3 + q k 3)) (.int .i64 (o s 4 + q k 4)) (.int .i64 (o s 5 + q k 5)) ∧ Gr w wx)
  case first =>
    refine wp_region_held_drew (S := fun wx => (∀ b o, (⟨min (b + 1) X0.heap.size, 0, none⟩ : Addr) = ⟨b + 1, 0, none⟩ → wx.cell? ⟨b, o, none⟩ = X0.cell? ⟨b, o, none⟩) ∧ Gr X0 wx) (by kernel_rfl) (held_of hGX.drew) (fun hHeld => ?_)
    (refine take_at (i := 0) (oi := _) (d := some 29) (v := ?_) rfl rfl (by kernel_rfl) (by kernel_rfl) (by kernel_rfl) (fun _ _ _ h => h) (Or.inl ⟨by rfl, ?_⟩) hHeld ?_; rotate_left; next => (intro w hSw; (try dsimp only at hSw); go_simp; try with_reducible rfl))
    try simp only [Act.put, List.setIfInBounds_toArray, List.set_cons_zero, List.set_cons_succ]
    (refine take_at (i := 1) (oi := _) (d := some 30) (v := ?_) rfl rfl (by kernel_rfl) (by kernel_rfl) (by kernel_rfl) (fun _ _ _ h => h) (Or.inl ⟨by rfl, ?_⟩) hHeld ?_; rotate_left; next => (intro w hSw; (try dsimp only at hSw); go_simp; try with_reducible rfl))
    try simp only [Act.put, List.setIfInBounds_toArray, List.set_cons_zero, List.set_cons_succ]
    (refine take_at (i := 2) (oi := _) (d := some 31) (v := ?_) rfl rfl (by kernel_rfl) (by kernel_rfl) (by kernel_rfl) (fun _ _ _ h => h) (Or.inl ⟨by rfl, ?_⟩) hHeld ?_; rotate_left; next => (intro w hSw; (try dsimp only at hSw); go_simp; try with_reducible rfl))
    try simp only [Act.put, List.setIfInBounds_toArray, List.set_cons_zero, List.set_cons_succ]
    (refine take_at (i := 3) (oi := _) (d := some 32) (v := ?_) rfl rfl (by kernel_rfl) (by kernel_rfl) (by kernel_rfl) (fun _ _ _ h => h) (Or.inl ⟨by rfl, ?_⟩) hHeld ?_; rotate_left; next => (intro w hSw; (try dsimp only at hSw); go_simp; try with_reducible rfl))
    try simp only [Act.put, List.setIfInBounds_toArray, List.set_cons_zero, List.set_cons_succ]
    (refine take_at (i := 4) (oi := _) (d := some 33) (v := ?_) rfl rfl (by kernel_rfl) (by kernel_rfl) (by kernel_rfl) (fun _ _ _ h => h) (Or.inl ⟨by rfl, ?_⟩) hHeld ?_; rotate_left; next => (intro w hSw; (try dsimp only at hSw); go_simp; try with_reducible rfl))
    try simp only [Act.put, List.setIfInBounds_toArray, List.set_cons_zero, List.set_cons_succ]
    (refine take_at (i := 5) (oi := _) (d := some 34) (v := ?_) rfl rfl (by kernel_rfl) (by kernel_rfl) (by kernel_rfl) (fun _ _ _ h => h) (Or.inl ⟨by rfl, ?_⟩) hHeld ?_; rotate_left; next => (intro w hSw; (try dsimp only at hSw); go_simp; try with_reducible rfl))
    try simp only [Act.put, List.setIfInBounds_toArray, List.set_cons_zero, List.set_cons_succ]
    (refine take_at (i := 6) (oi := _) (d := some 35) (v := ?_) rfl rfl (by kernel_rfl) (by kernel_rfl) (by kernel_rfl) (fun _ _ _ h => h) (Or.inl ⟨by rfl, ?_⟩) hHeld ?_; rotate_left; next => (intro w hSw; (try dsimp only at hSw); go_simp; try with_reducible rfl))
    try simp only [Act.put, List.setIfInBounds_toArray, List.set_cons_zero, List.set_cons_succ]
    (refine take_at (i := 7) (oi := _) (d := some 36) (v := ?_) rfl rfl (by kernel_rfl) (by kernel_rfl) (by kernel_rfl) (fun _ _ _ h => h) (Or.inl ⟨by rfl, ?_⟩) hHeld ?_; rotate_left; next => (intro w hSw; (try dsimp only at hSw); go_simp; try with_reducible rfl))
    try simp only [Act.put, List.setIfInBounds_toArray, List.set_cons_zero, List.set_cons_succ]
    (refine take_at (i := 8) (oi := _) (d := some 37) (v := ?_) rfl rfl (by kernel_rfl) (by kernel_rfl) (by kernel_rfl) (fun _ _ _ h => h) (Or.inl ⟨by rfl, ?_⟩) hHeld ?_; rotate_left; next => (intro w hSw; (try dsimp only at hSw); go_simp; try with_reducible rfl))
    try simp only [Act.put, List.setIfInBounds_toArray, List.set_cons_zero, List.set_cons_succ]
    (refine take_at (i := 9) (oi := _) (d := some 38) (v := ?_) rfl rfl (by kernel_rfl) (by kernel_rfl) (by kernel_rfl) (fun _ _ _ h => h) (Or.inl ⟨by rfl, ?_⟩) hHeld ?_; rotate_left; next => (intro w hSw; (try dsimp only at hSw); go_simp; try with_reducible rfl))
    try simp only [Act.put, List.setIfInBounds_toArray, List.set_cons_zero, List.set_cons_succ]
    (refine take_at (i := 10) (oi := _) (d := some 39) (v := ?_) rfl rfl (by kernel_rfl) (by kernel_rfl) (by kernel_rfl) (fun _ _ _ h => h) (Or.inl ⟨by rfl, ?_⟩) hHeld ?_; rotate_left; next => (intro w hSw; (try dsimp only at hSw); go_simp; try with_reducible rfl))
    try simp only [Act.put, List.setIfInBounds_toArray, List.set_cons_zero, List.set_cons_succ]
    (refine take_at (i := 11) (oi := _) (d := some 40) (v := ?_) rfl rfl (by kernel_rfl) (by kernel_rfl) (by kernel_rfl) (fun _ _ _ h => h) (Or.inl ⟨by rfl, ?_⟩) hHeld ?_; rotate_left; next => (intro w hSw; (try dsimp only at hSw); go_simp; try with_reducible rfl))
    try simp only [Act.put, List.setIfInBounds_toArray, List.set_cons_zero, List.set_cons_succ]
    (refine take_at (i := 12) (oi := _) (d := some 41) (v := ?_) rfl rfl (by kernel_rfl) (by kernel_rfl) (by kernel_rfl) (fun _ _ _ h => h) (Or.inl ⟨by rfl, ?_⟩) hHeld ?_; rotate_left; next => (intro w hSw; (try dsimp only at hSw); go_simp; try with_reducible rfl))
    try simp only [Act.put, List.setIfInBounds_toArray, List.set_cons_zero, List.set_cons_succ]
    (refine wpAnyH_ready (rs := [13]) (by kernel_rfl) (by simp) (AllReadyH.cons (o := _) rfl (fun K hK => ?_) AllReadyH.nil); go_simp; go_at_call 37; refine (HM.out _).mono ?_; rintro e w' ⟨rfl, hb⟩; have hzx := hb.le; obtain ⟨hcx, hfx⟩ := hb.cells; have hnx := hb.cellsN; (try simp only [World.size_drew] at hcx hfx hzx hnx); refine hK.out _ _ (held_call hHeld hb) (fun hHeld => ?_); clear hK K hb)
    try simp only [Act.put, List.setIfInBounds_toArray, List.set_cons_zero, List.set_cons_succ]
    (refine take_at (i := 14) (oi := _) (d := some 43) (v := ?_) rfl rfl (by kernel_rfl) (by kernel_rfl) (by kernel_rfl) (fun _ _ _ h => h) (Or.inl ⟨by rfl, ?_⟩) hHeld ?_; rotate_left; next => (intro w hSw; (try dsimp only at hSw); go_simp; try with_reducible rfl))
    try simp only [Act.put, List.setIfInBounds_toArray, List.set_cons_zero, List.set_cons_succ]
    (refine take_at (i := 15) (oi := _) (d := some 44) (v := ?_) rfl rfl (by kernel_rfl) (by kernel_rfl) (by kernel_rfl) (fun _ _ _ h => h) (Or.inl ⟨by rfl, ?_⟩) hHeld ?_; rotate_left; next => (intro w hSw; (try dsimp only at hSw); go_simp; try with_reducible rfl))
    try simp only [Act.put, List.setIfInBounds_toArray, List.set_cons_zero, List.set_cons_succ]
    (refine wpAnyH_ready (rs := [16]) (by kernel_rfl) (by simp) (AllReadyH.cons (o := _) rfl (fun K hK => ?_) AllReadyH.nil); go_simp; refine hK.out _ _ (by (try dsimp only); (first | with_reducible exact held_drew _ | with_reducible exact held_call (by assumption) (by assumption) | with_reducible exact held_alloc (by assumption) _ | with_reducible exact held_allocd (by assumption) _ | ((repeat (with_reducible refine held_set ?_ (by (try simp); (try omega)) _)); (first | with_reducible assumption | with_reducible exact held_call (by assumption) (by assumption))))) (fun hHeld => ?_); clear hK K)
    try simp only [Act.put, List.setIfInBounds_toArray, List.set_cons_zero, List.set_cons_succ]
    (refine take_at (i := 17) (oi := _) (d := some 5) (v := ?_) rfl rfl (by kernel_rfl) (by kernel_rfl) (by kernel_rfl) (fun _ _ _ h => h) (Or.inl ⟨by rfl, ?_⟩) hHeld ?_; rotate_left; next => (intro w hSw; (try dsimp only at hSw); go_simp; try with_reducible rfl))
    try simp only [Act.put, List.setIfInBounds_toArray, List.set_cons_zero, List.set_cons_succ]
    refine wpAnyH_done (by kernel_rfl) ?_ _
    go_wp2_with fail
    go_meet
    exact ⟨rfl, ⟨by simp [go_sem, *], by simp [go_sem, *], by simp [go_sem, *], by simp [go_sem, *], by simp [go_sem, *], by simp [go_sem, *]⟩, hgX.trans (held_gr (by assumption))⟩
  case rest =>
    obtain ⟨rfl, ⟨s0, s1, s2, s3, s4, s5⟩, hgc⟩ := hcut
    go_wp2_with fail
    exact bodyPost_ret (v := .tuple #[.agg #[.int .i64 (o s 0 + q k 0), .int .i64 (o s 1 + q k 1), .int .i64 (o s 2 + q k 2), .int .i64 (o s 3 + q k 3), .int .i64 (o s 4 + q k 4), .int .i64 (o s 5 + q k 5)], .int .i64 0]) (by simp [results, Tryd.results21, go_sem, s0, s1, s2, s3, s4, s5]) rfl ⟨rfl, hgc⟩

theorem rsound_at (O Q : Option Addr) (no co nf cq : Nat) (sp tl : Int) (o q : Nat → Nat → Int) (s k : Nat) (w : World) (hO : RowsAt w 6 O no o) (hQ : RowsAt w 6 Q nf q) (hno : no ≤ 9223372036854775807) (hnf : nf ≤ 9223372036854775807) (hok : neckB no o nf q sp tl = true) (hs : s < no) (hk : k ≤ nf) :
    Calls Tryd.prog 21 #[.agg #[.slice O no co, .slice Q nf cq, .int .i64 sp, .int .i64 tl], .agg #[.int .i64 (s : Int), .int .i64 (k : Int)]] w fun e w' => e = .returned (.tuple #[.agg #[.int .i64 (sndI o q s k 0), .int .i64 (sndI o q s k 1), .int .i64 (sndI o q s k 2), .int .i64 (sndI o q s k 3), .int .i64 (sndI o q s k 4), .int .i64 (sndI o q s k 5)], .int .i64 0]) ∧ Gr w w' := by
  cases k with
  | zero => exact rsound_open O Q no co nf cq sp tl o q s w hO hQ hno hnf hok hs
  | succ k => exact rsound_fret O Q no co nf cq sp tl o q s k w hO hQ hno hnf hok hs (by omega)
/-- Both implementations of Sound come to the same, at any fret. -/
theorem sound_both (no nf : Nat) (o q : Nat → Nat → Int) (sp tl s k : Int) (hno : no ≤ 9223372036854775807) (hnf : nf ≤ 9223372036854775807) : ∃ y0 y1 y2 y3 y4 y5 E : Int,
    (∀ (O Q : Option Addr) (co cq : Nat) (w : World), Primes w → RowsAt w 6 O no o → RowsAt w 6 Q nf q → Calls Tryd.prog 20 #[.agg #[.slice O no co, .slice Q nf cq, .int .i64 sp, .int .i64 tl], .agg #[.int .i64 s, .int .i64 k]] w fun e w' => e = .returned (.tuple #[.agg #[.int .i64 y0, .int .i64 y1, .int .i64 y2, .int .i64 y3, .int .i64 y4, .int .i64 y5], .int .i64 E]) ∧ Gr w w') ∧
    (∀ (O Q : Option Addr) (co cq : Nat) (w : World), RowsAt w 6 O no o → RowsAt w 6 Q nf q → Calls Tryd.prog 21 #[.agg #[.slice O no co, .slice Q nf cq, .int .i64 sp, .int .i64 tl], .agg #[.int .i64 s, .int .i64 k]] w fun e w' => e = .returned (.tuple #[.agg #[.int .i64 y0, .int .i64 y1, .int .i64 y2, .int .i64 y3, .int .i64 y4, .int .i64 y5], .int .i64 E]) ∧ Gr w w') := by
  rcases bool_tf (neckB no o nf q sp tl && exB no nf s k) with h | h
  · simp only [Bool.and_eq_true] at h
    obtain ⟨h1, h2⟩ := h
    simp only [exB, decide_eq_true_eq] at h2
    obtain ⟨s', rfl⟩ := Int.eq_ofNat_of_zero_le h2.1
    obtain ⟨k', rfl⟩ := Int.eq_ofNat_of_zero_le h2.2.2.1
    exact ⟨_, _, _, _, _, _, _, fun O Q co cq w hP hO hQ => fsound_at O Q no co nf cq sp tl o q s' k' w hP hO hQ hno hnf h1 (by omega) (by omega), fun O Q co cq w hO hQ => rsound_at O Q no co nf cq sp tl o q s' k' w hO hQ hno hnf h1 (by omega) (by omega)⟩
  · exact ⟨_, _, _, _, _, _, _, fun O Q co cq w hP hO hQ => fsound_bad O Q no co nf cq sp tl o q s k w hP hO hQ hno hnf h, fun O Q co cq w hO hQ => rsound_bad O Q no co nf cq sp tl o q s k w hO hQ hno hnf h⟩
end Go.Proofs.YtohalcookjbaaaaDoor

namespace Go.Proofs.YtohalcookjbaaaaDoor
open Go.RowKit

set_option maxRecDepth 100000 in
set_option maxHeartbeats 16000000 in
theorem rplays_ok (O Q : Option Addr) (no co nf cq : Nat) (sp tl : Int) (o q : Nat → Nat → Int) (s k : Nat) (v0 v1 v2 v3 v4 v5 : Int) (w : World) (hO : RowsAt w 6 O no o) (hQ : RowsAt w 6 Q nf q) (hno : no ≤ 9223372036854775807) (hnf : nf ≤ 9223372036854775807) (hok : neckB no o nf q sp tl = true) (hs : s < no) (hk : k ≤ nf) (hv : allIn ⟨v0, v1, v2, v3, v4, v5⟩ 48 6 = true) :
    Calls Tryd.prog 47 #[.agg #[.slice O no co, .slice Q nf cq, .int .i64 sp, .int .i64 tl], .agg #[.int .i64 (s : Int), .int .i64 (k : Int)], .agg #[.int .i64 v0, .int .i64 v1, .int .i64 v2, .int .i64 v3, .int .i64 v4, .int .i64 v5]] w fun e w' => e = .returned (.bool (playsF o q tl ⟨v0, v1, v2, v3, v4, v5⟩ s k)) ∧ Gr w w' := by
  obtain ⟨⟨l1, l2, l3, l4, l5, l6, l7⟩, hri, hop⟩ := neckB_parts hok
  have hva := atV_in hv
  simp only [atV] at hva
  have hsi := soundF_in hok hs hk
  rw [sndI_is] at hsi
  have hN := fun W => rnear_ok (v0 * 12) (v1 * 12) (v2 * 12) (v3 * 12) (v4 * 12) (v5 * 12) (sndI o q s k 0) (sndI o q s k 1) (sndI o q s k 2) (sndI o q s k 3) (sndI o q s k 4) (sndI o q s k 5) tl W hva hsi l6 (by omega)
  have hP : decide (surelyI (sumLo ⟨v0 * 12 - sndI o q s k 0, v1 * 12 - sndI o q s k 1, v2 * 12 - sndI o q s k 2, v3 * 12 - sndI o q s k 3, v4 * 12 - sndI o q s k 4, v5 * 12 - sndI o q s k 5⟩ 6) (sumHi ⟨v0 * 12 - sndI o q s k 0, v1 * 12 - sndI o q s k 1, v2 * 12 - sndI o q s k 2, v3 * 12 - sndI o q s k 3, v4 * 12 - sndI o q s k 4, v5 * 12 - sndI o q s k 5⟩ 6) (-10000 * tl) (10000 * tl) = 1) = playsF o q tl ⟨v0, v1, v2, v3, v4, v5⟩ s k := by
    unfold playsF nearB; rw [sndI_is]; rfl
  have HS := Lib.hid (fun W (g : Gr w W) => rsound_at O Q no co nf cq sp tl o q s k W (hO.keep g) (hQ.keep g) hno hnf hok hs hk)
  have HOF := Lib.hid (fun W => r3of_ok v0 v1 v2 v3 v4 v5 W hv)
  clear hO hQ hok hri hop hva hsi hv
  generalize surelyI (sumLo ⟨v0 * 12 - sndI o q s k 0, v1 * 12 - sndI o q s k 1, v2 * 12 - sndI o q s k 2, v3 * 12 - sndI o q s k 3, v4 * 12 - sndI o q s k 4, v5 * 12 - sndI o q s k 5⟩ 6) (sumHi ⟨v0 * 12 - sndI o q s k 0, v1 * 12 - sndI o q s k 1, v2 * 12 - sndI o q s k 2, v3 * 12 - sndI o q s k 3, v4 * 12 - sndI o q s k 4, v5 * 12 - sndI o q s k 5⟩ 6) (-10000 * tl) (10000 * tl) = X at *
  have HN := Lib.hid hN; have HPP := Lib.hid hP
  clear hN hP
  generalize sndI o q s k 0 = z0 at *
  generalize sndI o q s k 1 = z1 at *
  generalize sndI o q s k 2 = z2 at *
  generalize sndI o q s k 3 = z3 at *
  generalize sndI o q s k 4 = z4 at *
  generalize sndI o q s k 5 = z5 at *
  rw [← HPP.out]
  clear HPP
  go_enter Tryd.func47, Tryd.ntmps47
  go_wp2_with fail
  (go_at_call 58; with_reducible refine (HOF.out _).mono ?_; rintro e w' ⟨rfl, hb⟩; have hz := hb.le; obtain ⟨hc, hf⟩ := hb.cells; have hn := hb.cellsN; (try simp only [World.size_alloc] at hc hf hz hn); (try simp only [World.size_setCell] at hc hf hz hn); (try simp only [World.size_drew] at hc hf hz hn))
  go_wp2_with fail
  (go_at_call 21; with_reducible refine (HS.out _ (by repeat (first | with_reducible exact Gr.refl _ | with_reducible refine Gr.alloc ?_ _ | with_reducible refine Gr.drew ?_ | with_reducible refine Gr.trans ?_ (by assumption) | with_reducible refine Gr.setCell ?_ (by (try simp); (try omega)) _))).mono ?_; rintro e w' ⟨rfl, hb⟩; have hz := hb.le; obtain ⟨hc, hf⟩ := hb.cells; have hn := hb.cellsN; (try simp only [World.size_alloc] at hc hf hz hn); (try simp only [World.size_setCell] at hc hf hz hn); (try simp only [World.size_drew] at hc hf hz hn))
  go_wp2_with fail
  (go_at_call 59; with_reducible refine (HN.out _).mono ?_; rintro e w' ⟨rfl, hb⟩; have hz := hb.le; obtain ⟨hc, hf⟩ := hb.cells; have hn := hb.cellsN; (try simp only [World.size_alloc] at hc hf hz hn); (try simp only [World.size_setCell] at hc hf hz hn); (try simp only [World.size_drew] at hc hf hz hn))
  go_wp2_with fail
  go_ret
  exact ⟨ret_bool (by first | rfl | (rw [Bool.eq_iff_iff]; simp)), (by repeat (first | with_reducible exact Gr.refl _ | with_reducible refine Gr.alloc ?_ _ | with_reducible refine Gr.drew ?_ | with_reducible refine Gr.trans ?_ (by assumption) | with_reducible refine Gr.setCell ?_ (by (try simp); (try omega)) _))⟩

set_option maxRecDepth 100000 in
set_option maxHeartbeats 16000000 in
theorem rfind_bad (O Q : Option Addr) (no co nf cq : Nat) (sp tl : Int) (o q : Nat → Nat → Int) (v0 v1 v2 v3 v4 v5 : Int) (w : World) (hO : RowsAt w 6 O no o) (hQ : RowsAt w 6 Q nf q) (hno : no ≤ 9223372036854775807) (hnf : nf ≤ 9223372036854775807) (hbad : (neckB no o nf q sp tl && allIn ⟨v0, v1, v2, v3, v4, v5⟩ 48 6) = false) :
    Calls Tryd.prog 23 #[.agg #[.slice O no co, .slice Q nf cq, .int .i64 sp, .int .i64 tl], .agg #[.int .i64 v0, .int .i64 v1, .int .i64 v2, .int .i64 v3, .int .i64 v4, .int .i64 v5]] w fun e w' => e = .returned (.tuple #[.slice none 0 0, .int .i64 1]) ∧ Gr w w' := by
  have hV := fun W (g : Gr w W) => rneck_any O Q no co nf cq sp tl o q W (hO.keep g) (hQ.keep g) hno hnf
  have hI := fun W => r3interval_any v0 v1 v2 v3 v4 v5 W
  rcases bool_tf (neckB no o nf q sp tl) with hn | hn
  · rw [hn, Bool.true_and] at hbad
    rw [hn] at hV
    rw [hbad] at hI
    have HV := Lib.hid hV; have HI := Lib.hid hI
    clear hV hI hbad hn hO hQ
    go_enter Tryd.func23, Tryd.ntmps23
    go_wp2_with fail
    (go_at_call 14; with_reducible refine (HV.out _ (by repeat (first | with_reducible exact Gr.refl _ | with_reducible refine Gr.alloc ?_ _ | with_reducible refine Gr.drew ?_ | with_reducible refine Gr.trans ?_ (by assumption) | with_reducible refine Gr.setCell ?_ (by (try simp); (try omega)) _))).mono ?_; rintro e w' ⟨rfl, hb⟩; have hz := hb.le; obtain ⟨hc, hf⟩ := hb.cells; have hn := hb.cellsN; (try simp only [World.size_alloc] at hc hf hz hn); (try simp only [World.size_setCell] at hc hf hz hn); (try simp only [World.size_drew] at hc hf hz hn))
    go_wp2_with fail
    (go_at_call 24; with_reducible refine (HI.out _).mono ?_; rintro e w' ⟨rfl, hb⟩; have hz := hb.le; obtain ⟨hc, hf⟩ := hb.cells; have hn := hb.cellsN; (try simp only [World.size_alloc] at hc hf hz hn); (try simp only [World.size_setCell] at hc hf hz hn); (try simp only [World.size_drew] at hc hf hz hn))
    go_wp2_with fail
    go_ret2
    exact ⟨rfl, (by repeat (first | with_reducible exact Gr.refl _ | with_reducible refine Gr.alloc ?_ _ | with_reducible refine Gr.drew ?_ | with_reducible refine Gr.trans ?_ (by assumption) | with_reducible refine Gr.setCell ?_ (by (try simp); (try omega)) _))⟩
  · rw [hn] at hV
    have HV := Lib.hid hV; have HI := Lib.hid hI
    clear hV hI hbad hn hO hQ
    go_enter Tryd.func23, Tryd.ntmps23
    go_wp2_with fail
    (go_at_call 14; with_reducible refine (HV.out _ (by repeat (first | with_reducible exact Gr.refl _ | with_reducible refine Gr.alloc ?_ _ | with_reducible refine Gr.drew ?_ | with_reducible refine Gr.trans ?_ (by assumption) | with_reducible refine Gr.setCell ?_ (by (try simp); (try omega)) _))).mono ?_; rintro e w' ⟨rfl, hb⟩; have hz := hb.le; obtain ⟨hc, hf⟩ := hb.cells; have hn := hb.cellsN; (try simp only [World.size_alloc] at hc hf hz hn); (try simp only [World.size_setCell] at hc hf hz hn); (try simp only [World.size_drew] at hc hf hz hn))
    go_wp2_with fail
    (go_at_call 24; with_reducible refine (HI.out _).mono ?_; rintro e w' ⟨rfl, hb⟩; have hz := hb.le; obtain ⟨hc, hf⟩ := hb.cells; have hn := hb.cellsN; (try simp only [World.size_alloc] at hc hf hz hn); (try simp only [World.size_setCell] at hc hf hz hn); (try simp only [World.size_drew] at hc hf hz hn))
    go_wp2_with fail
    go_ret2
    exact ⟨rfl, (by repeat (first | with_reducible exact Gr.refl _ | with_reducible refine Gr.alloc ?_ _ | with_reducible refine Gr.drew ?_ | with_reducible refine Gr.trans ?_ (by assumption) | with_reducible refine Gr.setCell ?_ (by (try simp); (try omega)) _))⟩

set_option maxRecDepth 100000 in
set_option maxHeartbeats 16000000 in
theorem rfind_ok (O Q : Option Addr) (no co nf cq : Nat) (sp tl : Int) (o q : Nat → Nat → Int) (v0 v1 v2 v3 v4 v5 : Int) (w : World) (hO : RowsAt w 6 O no o) (hQ : RowsAt w 6 Q nf q) (hno : no ≤ 9223372036854775807) (hnf : nf ≤ 9223372036854775807) (hok : neckB no o nf q sp tl = true) (hv : allIn ⟨v0, v1, v2, v3, v4, v5⟩ 48 6 = true) :
    Calls Tryd.prog 23 #[.agg #[.slice O no co, .slice Q nf cq, .int .i64 sp, .int .i64 tl], .agg #[.int .i64 v0, .int .i64 v1, .int .i64 v2, .int .i64 v3, .int .i64 v4, .int .i64 v5]] w (FrR 0 (findF no o nf q tl ⟨v0, v1, v2, v3, v4, v5⟩) w) := by
  obtain ⟨⟨l1, l2, l3, l4, l5, l6, l7⟩, hri, hop⟩ := neckB_parts hok
  have hV := fun W (g : Gr w W) => rneck_any O Q no co nf cq sp tl o q W (hO.keep g) (hQ.keep g) hno hnf
  have hI := fun W => r3interval_any v0 v1 v2 v3 v4 v5 W
  rw [hok] at hV
  rw [hv] at hI
  have HV := Lib.hid hV; have HI := Lib.hid hI
  have hPL := fun W (g : Gr w W) (s k : Nat) (hs : s < no) (hk : k ≤ nf) => rplays_ok O Q no co nf cq sp tl o q s k v0 v1 v2 v3 v4 v5 W (hO.keep g) (hQ.keep g) hno hnf hok hs hk hv
  obtain ⟨i0, hinfo, hy0, hy1, hy2⟩ := info_parts infoFret
  have HINF := Lib.hid (And.intro hinfo (And.intro hy0 (And.intro hy1 hy2)))
  clear hV hI hv hO hQ hok hri hop hinfo hy0 hy1 hy2
  unfold findF
  generalize playsF o q tl ⟨v0, v1, v2, v3, v4, v5⟩ = P at *
  have HPL := Lib.hid hPL
  clear hPL
  have HLEN : Hid (∀ s k, s < no → k ≤ nf + 1 → (onAll P (nf + 1) s ++ onS P s k).length ≤ 400) := Lib.hid (fun s k hs hk => by
    have z1 := onAll_len P (nf + 1) s
    have z2 := onS_len P s k
    have z3 : s * (nf + 1) ≤ 7 * 37 := Nat.mul_le_mul (by omega) (by omega)
    rw [List.length_append]; omega)
  go_enter Tryd.func23, Tryd.ntmps23
  go_wp2_with fail
  (go_at_call 14; with_reducible refine (HV.out _ (by repeat (first | with_reducible exact Gr.refl _ | with_reducible refine Gr.alloc ?_ _ | with_reducible refine Gr.drew ?_ | with_reducible refine Gr.trans ?_ (by assumption) | with_reducible refine Gr.setCell ?_ (by (try simp); (try omega)) _))).mono ?_; rintro e w' ⟨rfl, hb⟩; have hz := hb.le; obtain ⟨hc, hf⟩ := hb.cells; have hn := hb.cellsN; (try simp only [World.size_alloc] at hc hf hz hn); (try simp only [World.size_setCell] at hc hf hz hn); (try simp only [World.size_drew] at hc hf hz hn))
  go_wp2_with fail
  (go_at_call 24; with_reducible refine (HI.out _).mono ?_; rintro e w' ⟨rfl, hb⟩; have hz := hb.le; obtain ⟨hc, hf⟩ := hb.cells; have hn := hb.cellsN; (try simp only [World.size_alloc] at hc hf hz hn); (try simp only [World.size_setCell] at hc hf hz hn); (try simp only [World.size_drew] at hc hf hz hn))
  have HB : Hid (NeckAt w' w.heap.size O Q no co nf cq sp tl) := Lib.hid ⟨by omega, by simp [go_sem, *], by simp [go_sem, *], by simp [go_sem, *], by simp [go_sem, *]⟩
  have HS6 : Hid (SixV w' (w.heap.size + 1) (.int .i64 v0) (.int .i64 v1) (.int .i64 v2) (.int .i64 v3) (.int .i64 v4) (.int .i64 v5)) := Lib.hid ⟨by simp [go_sem, *], by simp [go_sem, *], by simp [go_sem, *], by simp [go_sem, *], by simp [go_sem, *], by simp [go_sem, *]⟩
  have HZ6 : Hid (w.heap.size + 1 < w'.heap.size) := Lib.hid (by omega)
  have HG := Lib.hid (show Gr w w' from (by repeat (first | with_reducible exact Gr.refl _ | with_reducible refine Gr.alloc ?_ _ | with_reducible refine Gr.drew ?_ | with_reducible refine Gr.trans ?_ (by assumption) | with_reducible refine Gr.setCell ?_ (by (try simp); (try omega)) _)))
  clear hb hz hc hf hn HV HI
  obtain ⟨W0, rfl⟩ : ∃ W0 : World, W0 = w' := ⟨_, rfl⟩
  have HL0 : Hid (OwnL W0.heap.size 37 2 W0 (.slice none 0 0) (onAll P (nf + 1) 0).length (frCells (onAll P (nf + 1) 0)) W0) := Lib.hid (OwnL.start _ _ _ _ (Nat.le_refl _))
  go_wp2_with fail
  go_loopw [8, 9] (fun lv iv wr => ∃ (LV : Value) (s : Nat), LV = lv ∧ s ≤ no ∧ iv = .int .i64 (s : Int) ∧ OwnL W0.heap.size 37 2 W0 LV (onAll P (nf + 1) s).length (frCells (onAll P (nf + 1) s)) wr) (fun _ iv _ => no - (intOf iv).toNat)
  case atStart => exact ⟨_, 0, rfl, Nat.zero_le _, rfl, HL0.out⟩
  case round =>
    obtain ⟨lv, s, rfl, hsn, rfl, hL⟩ := hrel
    have HL := Lib.hid hL
    have hgr : Gr W0 wr := hL.toGr (Gr.refl _) (Nat.le_refl _)
    have HGR := Lib.hid hgr
    have hsz := hL.size
    obtain ⟨hl0, b0, b1, b2, b3⟩ := HB.out.keep hgr
    clear hL HL0 hgr
    obtain ⟨wo, rfl⟩ : ∃ wo : World, wo = wr := ⟨_, rfl⟩
    by_cases hlt : s < no
    · have hlt' : decide ((s : Int) < (no : Int)) = true := decide_eq_true (by omega)
      go_wp2_with fail
      clear hl0 b0 b1 b2 b3
      have HL1 : Hid (OwnL W0.heap.size 37 2 W0 lv (onAll P (nf + 1) s ++ onS P s 0).length (frCells (onAll P (nf + 1) s ++ onS P s 0)) wo) := Lib.hid (by simp only [onS, List.append_nil]; exact HL.out)
      go_loopw [8, 10] (fun lv iv wr => ∃ (LV : Value) (k : Nat), LV = lv ∧ k ≤ nf + 1 ∧ iv = .int .i64 (k : Int) ∧ OwnL W0.heap.size 37 2 W0 LV (onAll P (nf + 1) s ++ onS P s k).length (frCells (onAll P (nf + 1) s ++ onS P s k)) wr) (fun _ iv _ => nf + 1 - (intOf iv).toNat)
      case atStart => exact ⟨_, 0, rfl, Nat.zero_le _, rfl, HL1.out⟩
      case round =>
        obtain ⟨lv2, k, rfl, hkn, rfl, hL⟩ := hrel
        have HF := Lib.hid hL
        have hgr : Gr W0 wr := hL.toGr (Gr.refl _) (Nat.le_refl _)
        have HGR2 := Lib.hid hgr
        have hsz2 := hL.size
        obtain ⟨hl0, b0, b1, b2, b3⟩ := HB.out.keep hgr
        obtain ⟨e0, e1, e2, e3, e4, e5⟩ := HS6.out.keep hgr HZ6.out
        have hz6 := Nat.lt_of_lt_of_le HZ6.out hgr.le
        clear hL HL1 hgr
        obtain ⟨wk, rfl⟩ : ∃ wk : World, wk = wr := ⟨_, rfl⟩
        by_cases hkl : k ≤ nf
        · have hkl' : decide ((k : Int) ≤ (nf : Int)) = true := decide_eq_true (by omega)
          have hlen := HLEN.out s k hlt (by omega)
          have hPK := fun W (g : Gr w W) => HPL.out W g s k hlt hkl
          have hwk : IntKind.i64.wrap ((k : Int) + 1) = (k : Int) + 1 := IntWalk.i64_in _ ⟨by omega, by omega⟩
          rcases bool_tf (P s k) with hp | hp
          · have HE1 : Hid (onAll P (nf + 1) s ++ onS P s (k + 1) = onAll P (nf + 1) s ++ onS P s k ++ [(s, k)]) := Lib.hid (by rw [List.append_assoc]; congr 1; simp [onS, hp])
            rw [hp] at hPK
            have HPK := Lib.hid hPK
            clear hp hPK
            generalize onAll P (nf + 1) s ++ onS P s k = LL at *
            go_upto_region 13 with fail
            have HG2 : Hid (Gr wk (wk.alloc (.cells #[.int .i64 (s : Int), .int .i64 (k : Int)] 37))) := Lib.hid ((Gr.refl _).alloc _)
            have a0 : (wk.alloc (.cells #[.int .i64 (s : Int), .int .i64 (k : Int)] 37)).cell? ⟨wk.heap.size, 0, none⟩ = some (.int .i64 (s : Int)) := by simp [go_sem]
            have a1 : (wk.alloc (.cells #[.int .i64 (s : Int), .int .i64 (k : Int)] 37)).cell? ⟨wk.heap.size, 1, none⟩ = some (.int .i64 (k : Int)) := by simp [go_sem]
            have hsa : wk.heap.size < (wk.alloc (.cells #[.int .i64 (s : Int), .int .i64 (k : Int)] 37)).heap.size := by simp
            have HBN := Lib.hid (HB.out.keep (HGR2.out.trans HG2.out))
            have HSN := Lib.hid (HS6.out.keep (HGR2.out.trans HG2.out) HZ6.out)
            have HFN := Lib.hid (HF.out.gr HG2.out)
            clear hl0 b0 b1 b2 b3 e0 e1 e2 e3 e4 e5 HF
            generalize wk.alloc (.cells #[.int .i64 (s : Int), .int .i64 (k : Int)] 37) = wq at *
            obtain ⟨hl0, b0, b1, b2, b3⟩ := HBN.out
            obtain ⟨e0, e1, e2, e3, e4, e5⟩ := HSN.out
            generalize wk.heap.size = TK at *
            go_wp2_with fail
            (go_at_call 47; with_reducible refine (HPK.out _ ((HG.out.trans (HGR2.out.trans HG2.out)).trans (by repeat (first | with_reducible exact Gr.refl _ | with_reducible refine Gr.alloc ?_ _ | with_reducible refine Gr.drew ?_ | with_reducible refine Gr.trans ?_ (by assumption) | with_reducible refine Gr.setCell ?_ (by (try simp); (try omega)) _)))).mono ?_; rintro e w' ⟨rfl, hb⟩; have hz := hb.le; obtain ⟨hc, hf⟩ := hb.cells; have hn := hb.cellsN; (try simp only [World.size_alloc] at hc hf hz hn); (try simp only [World.size_setCell] at hc hf hz hn); (try simp only [World.size_drew] at hc hf hz hn))
            have hgm : Gr wq w' := (by repeat (first | with_reducible exact Gr.refl _ | with_reducible refine Gr.alloc ?_ _ | with_reducible refine Gr.drew ?_ | with_reducible refine Gr.trans ?_ (by assumption) | with_reducible refine Gr.setCell ?_ (by (try simp); (try omega)) _))
            have HF2 := Lib.hid (HFN.out.gr hgm)
            have hsz3 := HF2.out.size
            have a0' := (Below.cell (p := ⟨TK, 0, none⟩) hgm hsa).trans a0
            have a1' := (Below.cell (p := ⟨TK, 1, none⟩) hgm hsa).trans a1
            have hsa' := Nat.lt_of_lt_of_le hsa hgm.le
            clear hb hz hc hf hn hl0 b0 b1 b2 b3 e0 e1 e2 e3 e4 e5 HFN HPK a0 a1 hgm hsa
            obtain ⟨w4, rfl⟩ : ∃ w4 : World, w4 = w' := ⟨_, rfl⟩
            go_wp2_with (at_builtin; refine wpList_append_own _ rfl _ _ 25 rfl W0.heap.size 37 i0 (.agg #[.int .i64 0, .int .i64 0]) 2 16 Tryd.underlying25 HINF.out.1 HINF.out.2.1 HINF.out.2.2.1 HINF.out.2.2.2 rfl (by decide) _ _ _ rfl (HF2.out.own.alloc _) ⟨w4.heap.size, 0, none⟩ 1 1 [.int .i64 (s : Int), .int .i64 (k : Int)] rfl rfl (cell_two_new _ _ _ _) (by intro u hu; simp at hu; rcases hu with rfl | rfl <;> rfl) (by unfold maxLen; omega) (by omega) (by simp; omega) ?_; intro lv' w5 hown1 hgrow hnil)
            have HN : Hid (OwnL W0.heap.size 37 2 W0 lv' (LL ++ [(s, k)]).length (frCells (LL ++ [(s, k)])) w5) := Lib.hid (by
              have z := (HF2.out.alloc _).grown hown1 hgrow
              rw [List.length_append, frCells_snoc]
              exact z)
            clear hown1 hgrow hnil
            go_wp2_with fail
            go_roundw
            case rel => exact ⟨_, k + 1, rfl, by omega, by go_num, by rw [HE1.out]; exact HN.out⟩
            case measure => simp [intOf]; omega
          · have HE1 : Hid (onAll P (nf + 1) s ++ onS P s (k + 1) = onAll P (nf + 1) s ++ onS P s k) := Lib.hid (by congr 1; simp [onS, hp])
            rw [hp] at hPK
            have HPK := Lib.hid hPK
            clear hp hPK
            generalize onAll P (nf + 1) s ++ onS P s k = LL at *
            go_upto_region 13 with fail
            have HG2 : Hid (Gr wk (wk.alloc (.cells #[.int .i64 (s : Int), .int .i64 (k : Int)] 37))) := Lib.hid ((Gr.refl _).alloc _)
            have a0 : (wk.alloc (.cells #[.int .i64 (s : Int), .int .i64 (k : Int)] 37)).cell? ⟨wk.heap.size, 0, none⟩ = some (.int .i64 (s : Int)) := by simp [go_sem]
            have a1 : (wk.alloc (.cells #[.int .i64 (s : Int), .int .i64 (k : Int)] 37)).cell? ⟨wk.heap.size, 1, none⟩ = some (.int .i64 (k : Int)) := by simp [go_sem]
            have hsa : wk.heap.size < (wk.alloc (.cells #[.int .i64 (s : Int), .int .i64 (k : Int)] 37)).heap.size := by simp
            have HBN := Lib.hid (HB.out.keep (HGR2.out.trans HG2.out))
            have HSN := Lib.hid (HS6.out.keep (HGR2.out.trans HG2.out) HZ6.out)
            have HFN := Lib.hid (HF.out.gr HG2.out)
            clear hl0 b0 b1 b2 b3 e0 e1 e2 e3 e4 e5 HF
            generalize wk.alloc (.cells #[.int .i64 (s : Int), .int .i64 (k : Int)] 37) = wq at *
            obtain ⟨hl0, b0, b1, b2, b3⟩ := HBN.out
            obtain ⟨e0, e1, e2, e3, e4, e5⟩ := HSN.out
            generalize wk.heap.size = TK at *
            go_wp2_with fail
            (go_at_call 47; with_reducible refine (HPK.out _ ((HG.out.trans (HGR2.out.trans HG2.out)).trans (by repeat (first | with_reducible exact Gr.refl _ | with_reducible refine Gr.alloc ?_ _ | with_reducible refine Gr.drew ?_ | with_reducible refine Gr.trans ?_ (by assumption) | with_reducible refine Gr.setCell ?_ (by (try simp); (try omega)) _)))).mono ?_; rintro e w' ⟨rfl, hb⟩; have hz := hb.le; obtain ⟨hc, hf⟩ := hb.cells; have hn := hb.cellsN; (try simp only [World.size_alloc] at hc hf hz hn); (try simp only [World.size_setCell] at hc hf hz hn); (try simp only [World.size_drew] at hc hf hz hn))
            have hgm : Gr wq w' := (by repeat (first | with_reducible exact Gr.refl _ | with_reducible refine Gr.alloc ?_ _ | with_reducible refine Gr.drew ?_ | with_reducible refine Gr.trans ?_ (by assumption) | with_reducible refine Gr.setCell ?_ (by (try simp); (try omega)) _))
            have HF2 := Lib.hid (HFN.out.gr hgm)
            clear hb hz hc hf hn hl0 b0 b1 b2 b3 e0 e1 e2 e3 e4 e5 HFN HPK a0 a1 hgm hsa
            obtain ⟨w4, rfl⟩ : ∃ w4 : World, w4 = w' := ⟨_, rfl⟩
            go_wp2_with fail
            go_roundw
            case rel => exact ⟨_, k + 1, rfl, by omega, by go_num, by rw [HE1.out]; exact HF2.out⟩
            case measure => simp [intOf]; omega
        · obtain rfl : k = nf + 1 := by omega
          have hkl' : decide (((nf + 1 : Nat) : Int) ≤ (nf : Int)) = false := decide_eq_false (by omega)
          have hkl2 : decide ((nf : Int) + 1 ≤ (nf : Int)) = false := decide_eq_false (by omega)
          go_wp2_with fail
          go_roundw
          case rel => exact ⟨_, s + 1, rfl, by omega, by go_num, HF.out⟩
          case measure => simp [intOf]; omega
    · obtain rfl : no = s := by omega
      have hlt' : decide ((no : Int) < (no : Int)) = false := decide_eq_false (by omega)
      obtain ⟨A', c', hlv, hrows, hle⟩ := rows_of_own HL.out.own (frF (onAll P (nf + 1) no)) (fun i j hi hj => frCells_at _ i j hi hj)
      subst hlv
      have hcap := own_cap HL.out.own
      have hlen : (onAll P (nf + 1) no).length ≤ 4611686018427387904 := by
        have z1 := onAll_len P (nf + 1) no
        have z3 : no * (nf + 1) ≤ 8 * 37 := Nat.mul_le_mul (by omega) (by omega)
        omega
      have HOWNF := Lib.hid (own_mono HL.out.own HG.out.le)
      have HRW := Lib.hid (And.intro hrows (And.intro hlen hcap))
      clear hlen hcap
      clear hrows hle
      go_wp2_with fail
      go_ret2
      exact ⟨A', c', rfl, HOWNF.out, HRW.out.1, HRW.out.2.1, HRW.out.2.2, HG.out.trans HGR.out⟩
theorem rfind_any (O Q : Option Addr) (no co nf cq : Nat) (sp tl : Int) (o q : Nat → Nat → Int) (v0 v1 v2 v3 v4 v5 : Int) (w : World) (hO : RowsAt w 6 O no o) (hQ : RowsAt w 6 Q nf q) (hno : no ≤ 9223372036854775807) (hnf : nf ≤ 9223372036854775807) :
    Calls Tryd.prog 23 #[.agg #[.slice O no co, .slice Q nf cq, .int .i64 sp, .int .i64 tl], .agg #[.int .i64 v0, .int .i64 v1, .int .i64 v2, .int .i64 v3, .int .i64 v4, .int .i64 v5]] w (FrR (findE no o nf q sp tl ⟨v0, v1, v2, v3, v4, v5⟩) (findL no o nf q sp tl ⟨v0, v1, v2, v3, v4, v5⟩) w) := by
  unfold findE findL
  rcases bool_tf (findOk no o nf q sp tl ⟨v0, v1, v2, v3, v4, v5⟩) with h | h
  · rw [h]
    simp only [findOk, Bool.and_eq_true] at h
    exact rfind_ok O Q no co nf cq sp tl o q v0 v1 v2 v3 v4 v5 w hO hQ hno hnf h.1 h.2
  · rw [h]
    exact (rfind_bad O Q no co nf cq sp tl o q v0 v1 v2 v3 v4 v5 w hO hQ hno hnf h).mono fun e w' h => frR_none h
end Go.Proofs.YtohalcookjbaaaaDoor

namespace Go.Proofs.YtohalcookjbaaaaDoor
open Go.RowKit

set_option maxRecDepth 100000 in
set_option maxHeartbeats 16000000 in
theorem rholds_any (sp : Int) (A : Option Addr) (n c : Nat) (f : Nat → Nat → Int) (w : World) (hA : RowsAt w 2 A n f) (hn : n ≤ 4611686018427387904) (hf : ∀ i, i < n → 0 ≤ f i 1 ∧ f i 1 ≤ 1000) :
    Calls Tryd.prog 45 #[.int .i64 sp, .slice A n c] w fun e w' => e = .returned (.bool (heldB sp f n)) ∧ Gr w w' := by
  have HA := Lib.hid hA; have HF := Lib.hid hf
  clear hA hf
  go_enter Tryd.func45, Tryd.ntmps45
  go_wp2
  go_loopw [5] (fun iv wr => ∃ i : Nat, i ≤ n ∧ iv = .int .i64 (i : Int) ∧ heldB sp f i = true ∧ Gr w wr) (fun iv _ => n - (intOf iv).toNat)
  case atStart => exact ⟨0, Nat.zero_le _, rfl, rfl, Gr.refl _⟩
  case round =>
    obtain ⟨i, hi, rfl, hh, hg⟩ := hrel
    have HH := Lib.hid hh; have HG := Lib.hid hg
    clear hh hg
    obtain ⟨wo, rfl⟩ : ∃ wo : World, wo = wr := ⟨_, rfl⟩
    by_cases hlt : i < n
    · have hlt' : decide ((i : Int) < (n : Int)) = true := decide_eq_true (by omega)
      go_wp2_with fail
      go_loopw [6] (fun jv wr => ∃ j : Nat, j ≤ i ∧ jv = .int .i64 (j : Int) ∧ heldRow sp f i j = true ∧ Gr wo wr) (fun jv _ => i - (intOf jv).toNat)
      case atStart => exact ⟨0, Nat.zero_le _, rfl, rfl, Gr.refl _⟩
      case round =>
        obtain ⟨j, hj, rfl, hr, hg⟩ := hrel
        have HR := Lib.hid hr; have HG2 := Lib.hid hg
        clear hr hg
        obtain ⟨wp, rfl⟩ : ∃ wp : World, wp = wr := ⟨_, rfl⟩
        by_cases hjl : j < i
        · obtain ⟨b, off, rfl, hbl, c0, c1⟩ := (HA.out.keep (HG.out.trans HG2.out)).two hlt
          obtain ⟨b', off', hbo, hbl', d0, d1⟩ := (HA.out.keep (HG.out.trans HG2.out)).two (show j < n by omega)
          cases hbo
          have hjl' : decide ((j : Int) < (i : Int)) = true := decide_eq_true (by omega)
          have hj0 : (0 : Int) ≤ (j : Int) := by omega
          have hi1 : (i : Int) < (n : Int) := by omega
          have hj1 : (j : Int) < (n : Int) := by omega
          obtain ⟨k0, k1⟩ := HF.out i hlt
          obtain ⟨k2, k3⟩ := HF.out j (by omega)
          by_cases p1 : f i 0 = f j 0
          · have HN : Hid (heldB sp f n = false) := Lib.hid (heldB_no hjl hlt (by unfold okP; rw [decide_eq_true p1]; rfl))
            have q1 : (f j 0 == f i 0) = true := by simpa using p1.symm
            clear p1
            go_wp2_with fail
            go_quiet (fail)
            go_wp2_with fail
            go_ret
            exact ⟨ret_bool HN.out.symm, HG.out.trans (HG2.out.trans ((Gr.refl _).drewN _))⟩
          · have q1 : (f j 0 == f i 0) = false := by simpa using (fun e => p1 e.symm : ¬ f j 0 = f i 0)
            by_cases p3 : 0 < f j 1
            · have q3 : decide (0 < f j 1) = true := decide_eq_true p3
              by_cases p2 : 0 < f i 1
              · have q2 : decide (0 < f i 1) = true := decide_eq_true p2
                have hw1 : IntKind.i64.wrap (max (f j 1) (f i 1) - min (f j 1) (f i 1)) = max (f j 1) (f i 1) - min (f j 1) (f i 1) := IntWalk.i64_in _ ⟨by omega, by omega⟩
                have hw2 : wrap64 (max (f j 1) (f i 1) - min (f j 1) (f i 1)) = max (f j 1) (f i 1) - min (f j 1) (f i 1) := (IntWalk.i64_left _).symm.trans hw1
                by_cases p4 : sp < max (f j 1) (f i 1) - min (f j 1) (f i 1)
                · have HN : Hid (heldB sp f n = false) := Lib.hid (heldB_no hjl hlt (by unfold okP; rw [decide_eq_true (show 0 < f i 1 ∧ 0 < f j 1 ∧ (sp < f i 1 - f j 1 ∨ sp < f j 1 - f i 1) from ⟨p2, p3, by omega⟩), Bool.not_true, Bool.and_false]))
                  have q4 : decide (sp < max (f j 1) (f i 1) - min (f j 1) (f i 1)) = true := decide_eq_true p4
                  clear p1 p2 p3 p4
                  go_wp2_with fail
                  go_quiet (fail)
                  go_wp2_with fail
                  go_ret
                  exact ⟨ret_bool HN.out.symm, HG.out.trans (HG2.out.trans ((Gr.refl _).drewN _))⟩
                · have HS : Hid (heldRow sp f i (j + 1) = true) := Lib.hid (by have e := HR.out; simp only [heldRow, e, Bool.true_and]; unfold okP; rw [decide_eq_false p1, decide_eq_false (fun h => p4 (by omega) : ¬ (0 < f i 1 ∧ 0 < f j 1 ∧ (sp < f i 1 - f j 1 ∨ sp < f j 1 - f i 1)))]; rfl)
                  have q4 : decide (sp < max (f j 1) (f i 1) - min (f j 1) (f i 1)) = false := decide_eq_false p4
                  clear p1 p2 p3 p4
                  go_wp2_with fail
                  go_quiet (fail)
                  go_wp2_with fail
                  go_roundw
                  case rel => exact ⟨j + 1, by omega, by go_num, HS.out, HG2.out.trans (((Gr.refl _).drewN _))⟩
                  case measure => simp [intOf]; omega
              · have HS : Hid (heldRow sp f i (j + 1) = true) := Lib.hid (by have e := HR.out; simp only [heldRow, e, Bool.true_and]; unfold okP; rw [decide_eq_false p1, decide_eq_false (fun h => p2 h.1 : ¬ (0 < f i 1 ∧ 0 < f j 1 ∧ (sp < f i 1 - f j 1 ∨ sp < f j 1 - f i 1)))]; rfl)
                have q2 : decide (0 < f i 1) = false := decide_eq_false p2
                clear p1 p2 p3
                go_wp2_with fail
                go_quiet (fail)
                go_wp2_with fail
                go_roundw
                case rel => exact ⟨j + 1, by omega, by go_num, HS.out, HG2.out.trans (((Gr.refl _).drewN _))⟩
                case measure => simp [intOf]; omega
            · have HS : Hid (heldRow sp f i (j + 1) = true) := Lib.hid (by have e := HR.out; simp only [heldRow, e, Bool.true_and]; unfold okP; rw [decide_eq_false p1, decide_eq_false (fun h => p3 h.2.1 : ¬ (0 < f i 1 ∧ 0 < f j 1 ∧ (sp < f i 1 - f j 1 ∨ sp < f j 1 - f i 1)))]; rfl)
              have q3 : decide (0 < f j 1) = false := decide_eq_false p3
              clear p1 p3
              go_wp2_with fail
              go_quiet (fail)
              go_wp2_with fail
              go_roundw
              case rel => exact ⟨j + 1, by omega, by go_num, HS.out, HG2.out.trans (((Gr.refl _).drewN _))⟩
              case measure => simp [intOf]; omega
        · obtain rfl : i = j := by omega
          have HS : Hid (heldB sp f (i + 1) = true) := Lib.hid (by simp only [heldB, HH.out, HR.out, Bool.and_self])
          have hjl' : decide ((i : Int) < (i : Int)) = false := decide_eq_false (by omega)
          go_wp2_with fail
          go_roundw
          case rel => exact ⟨i + 1, by omega, by go_num, HS.out, HG.out.trans HG2.out⟩
          case measure => simp [intOf]; omega
    · obtain rfl : n = i := by omega
      have hlt' : decide ((n : Int) < (n : Int)) = false := decide_eq_false (by omega)
      go_wp2_with fail
      go_ret
      exact ⟨ret_bool HH.out.symm, HG.out⟩
set_option maxRecDepth 100000 in
set_option maxHeartbeats 16000000 in
theorem rfits_any (O Q : Option Addr) (no co nf cq : Nat) (sp tl : Int) (o q : Nat → Nat → Int) (A : Option Addr) (n c : Nat) (f : Nat → Nat → Int) (w : World) (hO : RowsAt w 6 O no o) (hQ : RowsAt w 6 Q nf q) (hno : no ≤ 9223372036854775807) (hnf : nf ≤ 9223372036854775807) (hA : RowsAt w 2 A n f) (hn : n ≤ 4611686018427387904) :
    Calls Tryd.prog 19 #[.agg #[.slice O no co, .slice Q nf cq, .int .i64 sp, .int .i64 tl], .slice A n c] w fun e w' => e = .returned (.tuple #[.bool (neckB no o nf q sp tl && allEx no nf f n && heldB sp f n), .int .i64 (cond (neckB no o nf q sp tl && allEx no nf f n) 0 1)]) ∧ Gr w w' := by
  have hV := fun W (g : Gr w W) => rneck_any O Q no co nf cq sp tl o q W (hO.keep g) (hQ.keep g) hno hnf
  rcases bool_tf (neckB no o nf q sp tl) with hok | hok
  · have hlim := (neckB_parts hok).1
    have hHO := fun W (g : Gr w W) (h : allEx no nf f n = true) => rholds_any sp A n c f W (hA.keep g) hn (allEx_range h hlim.2.2.1)
    rw [hok] at hV
    have HV := Lib.hid hV; have HHO := Lib.hid hHO; have HA := Lib.hid hA
    have HE := Lib.hid (fun (a b : Int) W => rfret_any O Q no co nf cq sp tl a b W)
    rw [hok, Bool.true_and]
    clear hV hHO hlim hO hQ hA hok
    go_enter Tryd.func19, Tryd.ntmps19
    go_wp2_with fail
    (go_at_call 14; with_reducible refine (HV.out _ (by repeat (first | with_reducible exact Gr.refl _ | with_reducible refine Gr.alloc ?_ _ | with_reducible refine Gr.drew ?_ | with_reducible refine Gr.trans ?_ (by assumption) | with_reducible refine Gr.setCell ?_ (by (try simp); (try omega)) _))).mono ?_; rintro e w' ⟨rfl, hb⟩; have hz := hb.le; obtain ⟨hc, hf⟩ := hb.cells; have hn := hb.cellsN; (try simp only [World.size_alloc] at hc hf hz hn); (try simp only [World.size_setCell] at hc hf hz hn); (try simp only [World.size_drew] at hc hf hz hn))
    have HNB : Hid (NeckAt w' w.heap.size O Q no co nf cq sp tl) := Lib.hid ⟨by omega, by simp [go_sem, *], by simp [go_sem, *], by simp [go_sem, *], by simp [go_sem, *]⟩
    have HG := Lib.hid (show Gr w w' from (by repeat (first | with_reducible exact Gr.refl _ | with_reducible refine Gr.alloc ?_ _ | with_reducible refine Gr.drew ?_ | with_reducible refine Gr.trans ?_ (by assumption) | with_reducible refine Gr.setCell ?_ (by (try simp); (try omega)) _)))
    clear hb hz hc hf hn HV
    obtain ⟨W0, rfl⟩ : ∃ W0 : World, W0 = w' := ⟨_, rfl⟩
    go_wp2_with fail
    go_loopw [7] (fun iv wr => ∃ i : Nat, i ≤ n ∧ iv = .int .i64 (i : Int) ∧ allEx no nf f i = true ∧ Gr W0 wr) (fun iv _ => n - (intOf iv).toNat)
    case atStart => exact ⟨0, Nat.zero_le _, rfl, rfl, Gr.refl _⟩
    case round =>
      obtain ⟨i, hi, rfl, hh, hg⟩ := hrel
      have HH := Lib.hid hh; have HG2 := Lib.hid hg
      obtain ⟨hl0, b0, b1, b2, b3⟩ := HNB.out.keep hg
      clear hh hg
      obtain ⟨wo, rfl⟩ : ∃ wo : World, wo = wr := ⟨_, rfl⟩
      by_cases hlt : i < n
      · have hlt' : decide ((i : Int) < (n : Int)) = true := decide_eq_true (by omega)
        have hi0 : (0 : Int) ≤ (i : Int) := by omega
        have hi1 : (i : Int) < (n : Int) := by omega
        obtain ⟨b, off, rfl, hbl, c0, c1⟩ := (HA.out.keep (HG.out.trans HG2.out)).two hlt
        have hEX := HE.out (f i 0) (f i 1)
        rcases bool_tf (exB no nf (f i 0) (f i 1)) with hx | hx
        · have HN : Hid (allEx no nf f (i + 1) = true) := Lib.hid (by have z := HH.out; unfold allEx at z ⊢; simp only [allN, z, hx, Bool.and_self])
          rw [hx] at hEX
          have HEX := Lib.hid hEX
          clear hEX hx
          go_wp2_with fail
          go_cut [8] (fun sv wx => sv = .bool true ∧ Gr wo wx)
          case first =>
            go_region_held3 (fun wx => (∀ b o, (⟨min (b + 1) wo.heap.size, 0, none⟩ : Addr) = ⟨b + 1, 0, none⟩ → wx.cell? ⟨b, o, none⟩ = wo.cell? ⟨b, o, none⟩) ∧ Gr wo wx) (first | with_reducible exact held_drew _ | with_reducible exact held_call (by assumption) (by assumption) | with_reducible exact held_alloc (by assumption) _ | with_reducible exact held_alloc0 _ _ | with_reducible exact held_anew (by assumption) _ (by omega) | ((repeat (with_reducible refine held_set ?_ (by (try simp); (try omega)) _)); (first | with_reducible assumption | with_reducible exact held_call (by assumption) (by assumption)))) (first | (go_at_call 44; with_reducible refine (HEX.out _).mono ?_; rintro e w' ⟨rfl, hb⟩; have hzz := ((held_gr (by assumption)).trans hb).le; have hz := hb.le; obtain ⟨hcx, hfx⟩ := hb.cells; have hn := hb.cellsN; (try simp only [World.size_drew] at hcx hfx hz hn); (try simp only [World.size_setCell] at hcx hfx hz hn); (try simp only [World.size_alloc] at hcx hfx hz hn)))
            all_goals
              go_wp2_with fail
              go_meet
              exact ⟨rfl, held_gr (by assumption)⟩
          case rest =>
            obtain ⟨rfl, hgc⟩ := hcut
            go_wp2_with fail
            go_roundw
            case rel => exact ⟨i + 1, by omega, by go_num, HN.out, HG2.out.trans hgc⟩
            case measure => simp [intOf]; omega
        · have HN : Hid (allEx no nf f n = false) := Lib.hid (allN_no hlt hx)
          rw [hx] at hEX
          have HEX := Lib.hid hEX
          clear hEX hx
          go_wp2_with fail
          go_cut [8] (fun sv wx => sv = .bool false ∧ Gr wo wx)
          case first =>
            go_region_held3 (fun wx => (∀ b o, (⟨min (b + 1) wo.heap.size, 0, none⟩ : Addr) = ⟨b + 1, 0, none⟩ → wx.cell? ⟨b, o, none⟩ = wo.cell? ⟨b, o, none⟩) ∧ Gr wo wx) (first | with_reducible exact held_drew _ | with_reducible exact held_call (by assumption) (by assumption) | with_reducible exact held_alloc (by assumption) _ | with_reducible exact held_alloc0 _ _ | with_reducible exact held_anew (by assumption) _ (by omega) | ((repeat (with_reducible refine held_set ?_ (by (try simp); (try omega)) _)); (first | with_reducible assumption | with_reducible exact held_call (by assumption) (by assumption)))) (first | (go_at_call 44; with_reducible refine (HEX.out _).mono ?_; rintro e w' ⟨rfl, hb⟩; have hzz := ((held_gr (by assumption)).trans hb).le; have hz := hb.le; obtain ⟨hcx, hfx⟩ := hb.cells; have hn := hb.cellsN; (try simp only [World.size_drew] at hcx hfx hz hn); (try simp only [World.size_setCell] at hcx hfx hz hn); (try simp only [World.size_alloc] at hcx hfx hz hn)))
            all_goals
              go_wp2_with fail
              go_meet
              exact ⟨rfl, held_gr (by assumption)⟩
          case rest =>
            obtain ⟨rfl, hgc⟩ := hcut
            go_wp2_with fail
            go_ret2
            rw [HN.out]
            exact ⟨rfl, HG.out.trans (HG2.out.trans hgc)⟩
      · obtain rfl : n = i := by omega
        have hlt' : decide ((n : Int) < (n : Int)) = false := decide_eq_false (by omega)
        have HHC := Lib.hid (fun W (g : Gr wo W) => HHO.out W ((HG.out.trans HG2.out).trans g) HH.out)
        go_wp2_with fail
        (go_at_call 45; with_reducible refine (HHC.out _ (by repeat (first | with_reducible exact Gr.refl _ | with_reducible refine Gr.alloc ?_ _ | with_reducible refine Gr.drew ?_ | with_reducible refine Gr.trans ?_ (by assumption) | with_reducible refine Gr.setCell ?_ (by (try simp); (try omega)) _))).mono ?_; rintro e w' ⟨rfl, hb⟩; have hz := hb.le; obtain ⟨hc, hf⟩ := hb.cells; have hn := hb.cellsN; (try simp only [World.size_alloc] at hc hf hz hn); (try simp only [World.size_setCell] at hc hf hz hn); (try simp only [World.size_drew] at hc hf hz hn))
        go_wp2_with fail
        go_ret2
        rw [HH.out]
        exact ⟨rfl, (HG.out.trans HG2.out).trans (by repeat (first | with_reducible exact Gr.refl _ | with_reducible refine Gr.alloc ?_ _ | with_reducible refine Gr.drew ?_ | with_reducible refine Gr.trans ?_ (by assumption) | with_reducible refine Gr.setCell ?_ (by (try simp); (try omega)) _))⟩
  · rw [hok] at hV
    have HV := Lib.hid hV
    rw [hok, Bool.false_and]
    clear hV hO hQ hA hok
    go_enter Tryd.func19, Tryd.ntmps19
    go_wp2_with fail
    (go_at_call 14; with_reducible refine (HV.out _ (by repeat (first | with_reducible exact Gr.refl _ | with_reducible refine Gr.alloc ?_ _ | with_reducible refine Gr.drew ?_ | with_reducible refine Gr.trans ?_ (by assumption) | with_reducible refine Gr.setCell ?_ (by (try simp); (try omega)) _))).mono ?_; rintro e w' ⟨rfl, hb⟩; have hz := hb.le; obtain ⟨hc, hf⟩ := hb.cells; have hn := hb.cellsN; (try simp only [World.size_alloc] at hc hf hz hn); (try simp only [World.size_setCell] at hc hf hz hn); (try simp only [World.size_drew] at hc hf hz hn))
    go_wp2_with fail
    go_ret2
    exact ⟨rfl, (by repeat (first | with_reducible exact Gr.refl _ | with_reducible refine Gr.alloc ?_ _ | with_reducible refine Gr.drew ?_ | with_reducible refine Gr.trans ?_ (by assumption) | with_reducible refine Gr.setCell ?_ (by (try simp); (try omega)) _))⟩
theorem frF_at (l : List (Nat × Nat)) {i : Nat} {x : Nat × Nat} (h : l[i]? = some x) : frF l i 0 = (x.1 : Int) ∧ frF l i 1 = (x.2 : Int) := by simp [frF, List.getD, h]
theorem take_snoc' {α : Type} {l : List α} {k : Nat} {x : α} (h : l[k]? = some x) : l.take (k + 1) = l.take k ++ [x] := by
  have hk := (List.getElem?_eq_some_iff.1 h)
  rw [List.take_add_one, h]; rfl
set_option maxRecDepth 100000 in
set_option maxHeartbeats 16000000 in
theorem rsearch_any (sp : Int) (OA : Option Addr) (oc B0 : Nat) (os : List (List (Nat × Nat))) (hos : ∀ o ∈ os, ∀ x ∈ o, x.2 ≤ 36) (hlen : os.length ≤ 12) :
    ∀ (rest done : List (List (Nat × Nat))) (pre : List (Nat × Nat)) (A : Option Addr) (c : Nat) (w : World), os = done ++ rest → done.length = pre.length → (∀ x ∈ pre, x.2 ≤ 36) → OptsAt w OA os → w.ownsRow B0 37 2 (.slice A pre.length c) pre.length (frCells pre) → B0 ≤ w.heap.size →
    Calls Tryd.prog 40 #[.int .i64 sp, .slice OA os.length oc, .slice A pre.length c] w fun e w' => ∃ (A' : Option Addr) (c' : Nat), e = .returned (.tuple #[.slice A' ((srch sp rest pre).getD []).length c', .bool (srch sp rest pre).isSome]) ∧ w'.ownsRow B0 37 2 (.slice A' ((srch sp rest pre).getD []).length c') ((srch sp rest pre).getD []).length (frCells ((srch sp rest pre).getD [])) ∧ Gr w w' := by
  obtain ⟨i0, hinfo, hy0, hy1, hy2⟩ := info_parts infoFret
  have HINF := Lib.hid (And.intro hinfo (And.intro hy0 (And.intro hy1 hy2)))
  have HOS := Lib.hid hos
  clear hinfo hy0 hy1 hy2 hos
  intro rest
  induction rest with
  | nil =>
    intro done pre A c w he hd hpre hopt hown hB
    have HOWN := Lib.hid hown
    have hl : os.length = pre.length := by rw [he, List.append_nil, hd]
    have hq : ((pre.length : Int) == (os.length : Int)) = true := by rw [hl]; simp
    have hq2 : (pre.length == os.length) = true := by rw [hl]; simp
    clear hopt HOS he hpre hd hown
    have HL := Lib.hid hl
    clear hl
    simp only [srch, Option.getD_some, Option.isSome_some]
    go_enter Tryd.func40, Tryd.ntmps40
    go_wp2_with fail
    go_ret2
    exact ⟨_, _, rfl, HOWN.out, Gr.refl _⟩
  | cons o rs ih =>
    intro done pre A c w he hd hpre hopt hown hB
    have HIH := Lib.hid ih; have HOPT := Lib.hid hopt; have HPRE := Lib.hid hpre; have HE := Lib.hid he; have HOWN := Lib.hid hown
    have hplt : pre.length < os.length := by rw [he, List.length_append, hd]; simp
    have hoa : os[pre.length]? = some o := by rw [he, ← hd]; simp
    obtain ⟨b, off, rfl, hbl, hcc⟩ := hopt (by omega)
    obtain ⟨Ai, ci, hco, hro, hol2⟩ := hcc _ _ hoa
    have HOB : Hid (∀ x ∈ o, x.2 ≤ 36) := Lib.hid (HOS.out o (by rw [he]; simp))
    obtain ⟨A1, c1, hA1, hpr, -⟩ := rows_of_own hown (frF pre) (fun i j hi hj => frCells_at _ i j hi hj)
    cases hA1
    have HPR := Lib.hid hpr
    have hat0 : (0 : Int) ≤ (pre.length : Int) := by omega
    have hat1 : (pre.length : Int) < (os.length : Int) := by omega
    have hq : ((pre.length : Int) == (os.length : Int)) = false := by simp; omega
    have hq2 : (pre.length == os.length) = false := by simp; omega
    have HRO : Hid (RowsAt w 2 Ai o.length (frF o)) := Lib.hid hro
    have HD := Lib.hid hd
    clear hd hpre he ih hcc hoa hro hopt hown hpr
    go_enter Tryd.func40, Tryd.ntmps40
    go_wp2_with fail
    clear hco hbl
    go_loopw [9] (fun iv wr => ∃ j : Nat, j ≤ o.length ∧ iv = .int .i64 (j : Int) ∧ (∀ (i : Nat) (x : Nat × Nat), i < j → o[i]? = some x → tryF sp rs pre x = none) ∧ Gr w wr) (fun iv _ => o.length - (intOf iv).toNat)
    case atStart => exact ⟨0, Nat.zero_le _, rfl, fun i x h => by omega, Gr.refl _⟩
    case round =>
      obtain ⟨j, hj, rfl, hno, hg⟩ := hrel
      have HNO := Lib.hid hno; have HG := Lib.hid hg
      clear hno hg
      obtain ⟨wo, rfl⟩ : ∃ wo : World, wo = wr := ⟨_, rfl⟩
      by_cases hlj : j < o.length
      · obtain ⟨x, hx⟩ : ∃ x, o[j]? = some x := ⟨_, List.getElem?_eq_getElem hlj⟩
        have HX := Lib.hid hx
        have hxm : x.2 ≤ 36 := HOB.out x (List.mem_of_getElem? hx)
        clear hx
        have hlt' : decide ((j : Int) < (o.length : Int)) = true := decide_eq_true (by omega)
        have HL0 : Hid (OwnL wo.heap.size 37 2 wo (.slice none 0 0) (pre.take 0).length (frCells (pre.take 0)) wo) := Lib.hid (by simp only [List.take_zero, List.length_nil]; exact OwnL.start _ _ _ _ (Nat.le_refl _))
        go_wp2_with fail
        go_loopw [10, 11] (fun lv kv wr => ∃ (LV : Value) (k : Nat), LV = lv ∧ k ≤ pre.length ∧ kv = .int .i64 (k : Int) ∧ OwnL wo.heap.size 37 2 wo LV (pre.take k).length (frCells (pre.take k)) wr) (fun _ kv _ => pre.length - (intOf kv).toNat)
        case atStart => exact ⟨_, 0, rfl, Nat.zero_le _, rfl, HL0.out⟩
        case round =>
          obtain ⟨lv, k, rfl, hk, rfl, hL⟩ := hrel
          have HLL := Lib.hid hL
          have hgr : Gr wo wr := hL.toGr (Gr.refl _) (Nat.le_refl _)
          have HG2 := Lib.hid hgr
          have hsz := hL.size
          have hlenk : (pre.take k).length = k := by rw [List.length_take]; omega
          clear hL HL0 hgr
          obtain ⟨wp, rfl⟩ : ∃ wp : World, wp = wr := ⟨_, rfl⟩
          by_cases hkl : k < pre.length
          · obtain ⟨y, hy⟩ : ∃ y, pre[k]? = some y := ⟨_, List.getElem?_eq_getElem hkl⟩
            have HTK : Hid (pre.take (k + 1) = pre.take k ++ [y]) := Lib.hid (take_snoc' hy)
            obtain ⟨b2, off2, rfl, hbl2, c0, c1'⟩ := (HPR.out.keep (HG.out.trans HG2.out)).two hkl
            obtain ⟨ef0, ef1⟩ := frF_at pre hy
            rw [ef0] at c0
            rw [ef1] at c1'
            have hkl' : decide ((k : Int) < (pre.length : Int)) = true := decide_eq_true (by omega)
            have hk0 : (0 : Int) ≤ (k : Int) := by omega
            have hk1 : (k : Int) < (pre.length : Int) := by omega
            clear ef0 ef1 hy
            generalize pre.take k = LK at *
            go_wp2_with (at_builtin; refine wpList_append_own _ rfl _ _ 25 rfl wo.heap.size 37 i0 (.agg #[.int .i64 0, .int .i64 0]) 2 16 Tryd.underlying25 HINF.out.1 HINF.out.2.1 HINF.out.2.2.1 HINF.out.2.2.2 rfl (by decide) _ _ _ rfl (HLL.out.own.alloc _) ⟨wp.heap.size, 0, none⟩ 1 1 [.int .i64 (y.1 : Int), .int .i64 (y.2 : Int)] rfl rfl (cell_two_new _ _ _ _) (by intro u hu; simp at hu; rcases hu with rfl | rfl <;> rfl) (by unfold maxLen; omega) (by omega) (by simp; omega) ?_; intro lv' w5 hown1 hgrow hnil)
            have HN : Hid (OwnL wo.heap.size 37 2 wo lv' (LK ++ [y]).length (frCells (LK ++ [y])) w5) := Lib.hid (by
              have z := (HLL.out.alloc _).grown hown1 hgrow
              rw [List.length_append, frCells_snoc]
              exact z)
            clear hown1 hgrow hnil
            go_wp2_with fail
            go_roundw
            case rel => exact ⟨_, k + 1, rfl, by omega, by go_num, by rw [HTK.out]; exact HN.out⟩
            case measure => simp [intOf]; omega
          · obtain rfl : k = pre.length := by omega
            rw [List.take_length] at HLL hlenk
            have hkl' : decide ((pre.length : Int) < (pre.length : Int)) = false := decide_eq_false (by omega)
            obtain ⟨b2, off2, rfl, hbl2, c0, c1'⟩ := (HRO.out.keep (HG.out.trans HG2.out)).two hlj
            obtain ⟨ef0, ef1⟩ := frF_at o HX.out
            rw [ef0] at c0
            rw [ef1] at c1'
            have hj0 : (0 : Int) ≤ (j : Int) := by omega
            have hj1 : (j : Int) < (o.length : Int) := by omega
            clear ef0 ef1
            go_wp2_with (at_builtin; refine wpList_append_own _ rfl _ _ 25 rfl wo.heap.size 37 i0 (.agg #[.int .i64 0, .int .i64 0]) 2 16 Tryd.underlying25 HINF.out.1 HINF.out.2.1 HINF.out.2.2.1 HINF.out.2.2.2 rfl (by decide) _ _ _ rfl (HLL.out.own.alloc _) ⟨wp.heap.size, 0, none⟩ 1 1 [.int .i64 (x.1 : Int), .int .i64 (x.2 : Int)] rfl rfl (cell_two_new _ _ _ _) (by intro u hu; simp at hu; rcases hu with rfl | rfl <;> rfl) (by unfold maxLen; omega) (by omega) (by simp; omega) ?_; intro lv' w5 hown1 hgrow hnil; have hz5 := hgrow.size; obtain ⟨A5, c5, hA5, hr5, -⟩ := rows_of_own (f := frF (pre ++ [x])) (xs := frCells (pre ++ [x])) (by rw [frCells_snoc]; exact hown1) (fun i j hi hj => frCells_at _ i j (by rw [List.length_append]; exact hi) hj); subst hA5)
            have HN : Hid (OwnL wo.heap.size 37 2 wo (.slice A5 (pre.length + 1) c5) (pre ++ [x]).length (frCells (pre ++ [x])) w5) := Lib.hid (by
              have z := (HLL.out.alloc _).grown hown1 hgrow
              rw [List.length_append, frCells_snoc]
              exact z)
            have HR5 := Lib.hid hr5
            have HG3 : Hid (Gr w w5) := Lib.hid (HG.out.trans (HN.out.toGr (Gr.refl _) (Nat.le_refl _)))
            clear hown1 hgrow hnil hr5 c0 c1' hbl2
            have hHO := rholds_any sp A5 (pre.length + 1) c5 (frF (pre ++ [x])) w5 HR5.out (by omega) (fun i hi => by
              have hi' : i < (pre ++ [x]).length := by rw [List.length_append]; exact hi
              obtain ⟨z, hz⟩ : ∃ z, (pre ++ [x])[i]? = some z := ⟨_, List.getElem?_eq_getElem hi'⟩
              have hm := List.mem_of_getElem? hz
              rw [(frF_at _ hz).2]
              rw [List.mem_append] at hm
              rcases hm with hm | hm
              · have := HPRE.out z hm; omega
              · simp at hm; subst hm; omega)
            have hHL : heldB sp (frF (pre ++ [x])) (pre.length + 1) = heldL sp (pre ++ [x]) := by unfold heldL; rw [List.length_append]; rfl
            rw [hHL] at hHO
            rcases bool_tf (heldL sp (pre ++ [x])) with hh | hh
            · rw [hh] at hHO
              have HHO := Lib.hid hHO
              have HHH := Lib.hid hh
              have hSE := fun W (g : Gr w5 W) => HIH.out (done ++ [o]) (pre ++ [x]) A5 c5 W (by rw [HE.out]; simp) (by simp [HD.out]) (fun z hz => by
                rw [List.mem_append] at hz
                rcases hz with hz | hz
                · exact HPRE.out z hz
                · simp at hz; subst hz; omega) (HOPT.out.keep (HG3.out.trans g)) (own_mono (own_keep (by have z := HN.out.own; rw [List.length_append] at z ⊢; exact z) g) (Nat.le_trans hB HG.out.le)) (Nat.le_trans hB (HG3.out.trans g).le)
              have hle : (pre ++ [x]).length = pre.length + 1 := by simp
              simp only [hle] at hSE
              have HSE := Lib.hid hSE
              clear hSE hHO hHL hh hle
              go_wp2_with fail
              (go_at_call 45; with_reducible refine (HHO.out).mono ?_; rintro e w' ⟨rfl, hb⟩; have hz := hb.le; obtain ⟨hc, hf⟩ := hb.cells; have hn := hb.cellsN; (try simp only [World.size_alloc] at hc hf hz hn); (try simp only [World.size_setCell] at hc hf hz hn); (try simp only [World.size_drew] at hc hf hz hn))
              go_wp2_with fail
              cases hs : srch sp rs (pre ++ [x]) with
              | some r =>
                have HRS : Hid (srch sp (o :: rs) pre = some r) := Lib.hid (by
                  rw [srch_cons]
                  exact findSome_hit HX.out (by unfold tryF; rw [HHH.out]; simpa using hs) HNO.out)
                simp only [hs, Option.getD_some, Option.isSome_some] at HSE
                go_at_call 40
                refine (HSE.out _ (by repeat (first | with_reducible exact Gr.refl _ | with_reducible refine Gr.alloc ?_ _ | with_reducible refine Gr.drew ?_ | with_reducible refine Gr.trans ?_ (by assumption) | with_reducible refine Gr.setCell ?_ (by (try simp); (try omega)) _))).mono ?_
                rintro e w6 ⟨A6, c6, rfl, hown6, hb6⟩
                have HO6 := Lib.hid hown6
                have hg6 : Gr w5 w6 := Gr.trans (by repeat (first | with_reducible exact Gr.refl _ | with_reducible refine Gr.alloc ?_ _ | with_reducible refine Gr.drew ?_ | with_reducible refine Gr.trans ?_ (by assumption) | with_reducible refine Gr.setCell ?_ (by (try simp); (try omega)) _)) hb6
                have HG6 := Lib.hid (HG3.out.trans hg6)
                clear hown6 hb6 hg6 hs
                go_wp2_with fail
                go_ret2
                simp only [HRS.out, Option.getD_some, Option.isSome_some]
                exact ⟨_, _, rfl, HO6.out, HG6.out⟩
              | none =>
                have HRS : Hid (tryF sp rs pre x = none) := Lib.hid (by unfold tryF; rw [HHH.out]; simpa using hs)
                simp only [hs, Option.getD_none, Option.isSome_none] at HSE
                go_at_call 40
                refine (HSE.out _ (by repeat (first | with_reducible exact Gr.refl _ | with_reducible refine Gr.alloc ?_ _ | with_reducible refine Gr.drew ?_ | with_reducible refine Gr.trans ?_ (by assumption) | with_reducible refine Gr.setCell ?_ (by (try simp); (try omega)) _))).mono ?_
                rintro e w6 ⟨A6, c6, rfl, -, hb6⟩
                have hg6 : Gr w5 w6 := Gr.trans (by repeat (first | with_reducible exact Gr.refl _ | with_reducible refine Gr.alloc ?_ _ | with_reducible refine Gr.drew ?_ | with_reducible refine Gr.trans ?_ (by assumption) | with_reducible refine Gr.setCell ?_ (by (try simp); (try omega)) _)) hb6
                have HG6 := Lib.hid (HG3.out.trans hg6)
                clear hb6 hg6 hs
                go_wp2_with fail
                go_roundw
                case rel =>
                  refine ⟨j + 1, by omega, by go_num, fun i z hi hz => ?_, HG6.out⟩
                  by_cases e : i = j
                  · subst e
                    have := HX.out; rw [hz] at this; cases this; exact HRS.out
                  · exact HNO.out i z (by omega) hz
                case measure => simp [intOf]; omega
            · rw [hh] at hHO
              have HHO := Lib.hid hHO
              have HRS : Hid (tryF sp rs pre x = none) := Lib.hid (by unfold tryF; rw [hh]; rfl)
              clear hHO hHL hh
              go_wp2_with fail
              (go_at_call 45; with_reducible refine (HHO.out).mono ?_; rintro e w' ⟨rfl, hb⟩; have hz := hb.le; obtain ⟨hc, hf⟩ := hb.cells; have hn := hb.cellsN; (try simp only [World.size_alloc] at hc hf hz hn); (try simp only [World.size_setCell] at hc hf hz hn); (try simp only [World.size_drew] at hc hf hz hn))
              go_wp2_with fail
              go_roundw
              case rel =>
                refine ⟨j + 1, by omega, by go_num, fun i z hi hz => ?_, HG3.out.trans (by repeat (first | with_reducible exact Gr.refl _ | with_reducible refine Gr.alloc ?_ _ | with_reducible refine Gr.drew ?_ | with_reducible refine Gr.trans ?_ (by assumption) | with_reducible refine Gr.setCell ?_ (by (try simp); (try omega)) _))⟩
                by_cases e : i = j
                · subst e
                  have := HX.out; rw [hz] at this; cases this; exact HRS.out
                · exact HNO.out i z (by omega) hz
              case measure => simp [intOf]; omega
      · obtain rfl : j = o.length := by omega
        have hlt' : decide ((o.length : Int) < (o.length : Int)) = false := decide_eq_false (by omega)
        have HRS : Hid (srch sp (o :: rs) pre = none) := Lib.hid (by
          rw [srch_cons, List.findSome?_eq_none_iff]
          intro y hy
          obtain ⟨i, hi⟩ := List.getElem?_of_mem hy
          exact HNO.out i y (List.getElem?_eq_some_iff.1 hi).1 hi)
        go_wp2_with fail
        go_ret2
        simp only [HRS.out, Option.getD_none, Option.isSome_none]
        exact ⟨none, 0, rfl, World.ownsRow_nil _ _ _ _, HG.out⟩
end Go.Proofs.YtohalcookjbaaaaDoor

namespace Go.Proofs.YtohalcookjbaaaaDoor
open Go.RowKit

/-- The options so far, in a slot; each is a list of the call's own. -/
structure OSr (Wb : World) (W : World) (v : Value) (os : List (List (Nat × Nat))) : Prop where
  gr : Gr Wb W
  sz : Wb.heap.size ≤ W.heap.size
  own : ∃ xs : List Value, W.ownsRow Wb.heap.size 25 1 v os.length xs ∧ ∀ (k : Nat) (o : List (Nat × Nat)), os[k]? = some o → ∃ (Ak : Option Addr) (ck : Nat), xs[k]? = some (.slice Ak o.length ck) ∧ W.ownsRow Wb.heap.size 37 2 (.slice Ak o.length ck) o.length (frCells o) ∧ o.length ≤ 4611686018427387904
theorem OSr.keep {Wb W W' : World} {v : Value} {os : List (List (Nat × Nat))} (h : OSr Wb W v os) (g : Gr W W') : OSr Wb W' v os := by
  obtain ⟨xs, h1, h2⟩ := h.own
  refine ⟨h.gr.trans g, Nat.le_trans h.sz g.le, xs, own_keep h1 g, fun k o hk => ?_⟩
  obtain ⟨Ak, ck, h3, h4, h5⟩ := h2 k o hk
  exact ⟨Ak, ck, h3, own_keep h4 g, h5⟩
theorem OSr.push {Wb W X w3 : World} {v : Value} {os : List (List (Nat × Nat))} {xs : List Value} {o : List (Nat × Nat)} {A : Option Addr} {ca g cap : Nat} (h : OSr Wb W v os) (g1 : Gr W X)
    (hxs : W.ownsRow Wb.heap.size 25 1 v os.length xs) (hl : W.ownsRow Wb.heap.size 37 2 (.slice A o.length ca) o.length (frCells o)) (hol : o.length ≤ 4611686018427387904)
    (hown : w3.ownsRow Wb.heap.size 25 1 (.slice (some ⟨g, 0, none⟩) (os.length + 1) cap) (os.length + 1) (xs ++ [.slice A o.length ca])) (hgrow : X.grownBy w3 v.ownBlock) :
    OSr Wb w3 (.slice (some ⟨g, 0, none⟩) (os.length + 1) cap) (os ++ [o]) := by
  have hX := h.keep g1
  obtain ⟨xs', k1, k2⟩ := h.own
  have hxx : xs' = xs := by
    have a := hxs.2
    rcases k1.2 with ⟨e1, e2⟩ | ⟨g1', c1', cur1, e1, -, e3, -, -, -, e4⟩
    · have l1 := k1.1; have l2 := hxs.1
      rw [e2] at l1 l2
      rw [List.length_eq_zero_iff.1 (by omega : xs'.length = 0), List.length_eq_zero_iff.1 (by omega : xs.length = 0)]
    · rcases a with ⟨f1, _⟩ | ⟨g2', c2', cur2, f1, -, f3, -, -, -, f4⟩
      · rw [e1] at f1; cases f1
      · rw [e1] at f1; cases f1
        rw [e3] at f3; cases f3
        rw [← e4, ← f4]
  subst hxx
  have hlow : ∀ k, v.ownBlock = some k → Wb.heap.size ≤ k := fun k e => (hxs.lt k e).1
  have b1 : Below Wb.heap.size X w3 := (Below.refl _ _).grown hgrow hX.sz hlow
  have hz3 : Wb.heap.size ≤ w3.heap.size := Nat.le_trans hX.sz hgrow.size
  have hlist : ∀ (u : Value) (n : Nat) (ys : List Value), W.ownsRow Wb.heap.size 37 2 u n ys → w3.ownsRow Wb.heap.size 37 2 u n ys := fun u n ys hu =>
    (own_keep hu g1).kept hgrow (own_ne (own_keep hu g1) (own_keep hxs g1) (by decide))
  refine ⟨Below.trans hX.gr b1, hz3, xs' ++ [.slice A o.length ca], ?_, fun k o' hk => ?_⟩
  · rw [List.length_append]
    exact hown
  · have hlx : xs'.length = os.length := by have := hxs.1; omega
    by_cases e : k < os.length
    · rw [List.getElem?_append_left e] at hk
      obtain ⟨Ak, ck, h3, h4, h5⟩ := k2 k o' hk
      exact ⟨Ak, ck, by rw [List.getElem?_append_left (by omega)]; exact h3, hlist _ _ _ h4, h5⟩
    · have hk2 : k = os.length := by
        have := (List.getElem?_eq_some_iff.1 hk).1
        rw [List.length_append, List.length_singleton] at this
        omega
      subst hk2
      rw [List.getElem?_append_right (by omega), Nat.sub_self] at hk
      simp at hk
      subst hk
      exact ⟨A, ca, by rw [List.getElem?_append_right (by omega), hlx, Nat.sub_self]; rfl, hlist _ _ _ hl, hol⟩
theorem OSr.opts {Wb W : World} {os : List (List (Nat × Nat))} {A : Option Addr} {n c : Nat} (h : OSr Wb W (.slice A n c) os) : OptsAt W A os := fun h0 => by
  obtain ⟨xs, h1, h2⟩ := h.own
  have hce := fun g (hg : (Value.slice A n c).ownBlock = some g) => h1.cells hg
  rcases h1.2 with ⟨e1, e2⟩ | ⟨g, cap, cur, e1, -, e3, -⟩
  · omega
  · cases e1
    refine ⟨g, 0, rfl, (Array.getElem?_eq_some_iff.1 e3).1, fun i o hi => ?_⟩
    obtain ⟨Ai, ci, h3, h4, h5⟩ := h2 i o hi
    have := hce g rfl i _ h3
    obtain ⟨A2, c2, e4, h6, -⟩ := rows_of_own h4 (frF o) (fun i j hi hj => frCells_at _ i j hi hj)
    cases e4
    rw [Addr.add_lit] at this
    exact ⟨Ai, ci, this, h6, h5⟩

set_option maxRecDepth 100000 in
set_option maxHeartbeats 16000000 in
theorem rchord_bad (O Q : Option Addr) (no co nf cq : Nat) (sp tl : Int) (o q : Nat → Nat → Int) (A : Option Addr) (n c : Nat) (w : World) (hO : RowsAt w 6 O no o) (hQ : RowsAt w 6 Q nf q) (hno : no ≤ 9223372036854775807) (hnf : nf ≤ 9223372036854775807) (hbad : neckB no o nf q sp tl = false ∨ (neckB no o nf q sp tl = true ∧ 12 < n)) :
    Calls Tryd.prog 16 #[.agg #[.slice O no co, .slice Q nf cq, .int .i64 sp, .int .i64 tl], .slice A n c] w fun e w' => e = .returned (.tuple #[.slice none 0 0, .int .i64 1]) ∧ Gr w w' := by
  have hV := fun W (g : Gr w W) => rneck_any O Q no co nf cq sp tl o q W (hO.keep g) (hQ.keep g) hno hnf
  rcases hbad with hb0 | ⟨hb0, h12⟩
  · rw [hb0] at hV
    have HV := Lib.hid hV
    clear hV hb0 hO hQ
    go_enter Tryd.func16, Tryd.ntmps16
    go_wp2_with fail
    (go_at_call 14; with_reducible refine (HV.out _ (by repeat (first | with_reducible exact Gr.refl _ | with_reducible refine Gr.alloc ?_ _ | with_reducible refine Gr.drew ?_ | with_reducible refine Gr.trans ?_ (by assumption) | with_reducible refine Gr.setCell ?_ (by (try simp); (try omega)) _))).mono ?_; rintro e w' ⟨rfl, hb⟩; have hz := hb.le; obtain ⟨hc, hf⟩ := hb.cells; have hn := hb.cellsN; (try simp only [World.size_alloc] at hc hf hz hn); (try simp only [World.size_setCell] at hc hf hz hn); (try simp only [World.size_drew] at hc hf hz hn))
    go_wp2_with fail
    go_ret2
    exact ⟨rfl, (by repeat (first | with_reducible exact Gr.refl _ | with_reducible refine Gr.alloc ?_ _ | with_reducible refine Gr.drew ?_ | with_reducible refine Gr.trans ?_ (by assumption) | with_reducible refine Gr.setCell ?_ (by (try simp); (try omega)) _))⟩
  · rw [hb0] at hV
    have HV := Lib.hid hV
    have d1 : decide (12 < (n : Int)) = true := decide_eq_true (by omega)
    clear hV hb0 hO hQ
    go_enter Tryd.func16, Tryd.ntmps16
    go_wp2_with fail
    (go_at_call 14; with_reducible refine (HV.out _ (by repeat (first | with_reducible exact Gr.refl _ | with_reducible refine Gr.alloc ?_ _ | with_reducible refine Gr.drew ?_ | with_reducible refine Gr.trans ?_ (by assumption) | with_reducible refine Gr.setCell ?_ (by (try simp); (try omega)) _))).mono ?_; rintro e w' ⟨rfl, hb⟩; have hz := hb.le; obtain ⟨hc, hf⟩ := hb.cells; have hn := hb.cellsN; (try simp only [World.size_alloc] at hc hf hz hn); (try simp only [World.size_setCell] at hc hf hz hn); (try simp only [World.size_drew] at hc hf hz hn))
    go_wp2_with fail
    go_ret2
    exact ⟨rfl, (by repeat (first | with_reducible exact Gr.refl _ | with_reducible refine Gr.alloc ?_ _ | with_reducible refine Gr.drew ?_ | with_reducible refine Gr.trans ?_ (by assumption) | with_reducible refine Gr.setCell ?_ (by (try simp); (try omega)) _))⟩

set_option maxRecDepth 100000 in
set_option maxHeartbeats 16000000 in
theorem rchord_in (O Q : Option Addr) (no co nf cq : Nat) (sp tl : Int) (o q : Nat → Nat → Int) (A : Option Addr) (n c : Nat) (f : Nat → Nat → Int) (w : World) (hO : RowsAt w 6 O no o) (hQ : RowsAt w 6 Q nf q) (hA : RowsAt w 6 A n f) (hno : no ≤ 9223372036854775807) (hnf : nf ≤ 9223372036854775807) (hok : neckB no o nf q sp tl = true) (hn : n ≤ 12) :
    Calls Tryd.prog 16 #[.agg #[.slice O no co, .slice Q nf cq, .int .i64 sp, .int .i64 tl], .slice A n c] w (FrR (chordE no o nf q sp tl f n) (chordL no o nf q sp tl f n) w) := by
  have hV := fun W (g : Gr w W) => rneck_any O Q no co nf cq sp tl o q W (hO.keep g) (hQ.keep g) hno hnf
  rw [hok] at hV
  have hlim := (neckB_parts hok).1
  have hFO := fun (i : Nat) W (g : Gr w W) (hv : allIn (rowV f i) 48 6 = true) => (show Calls Tryd.prog 23 #[.agg #[.slice O no co, .slice Q nf cq, .int .i64 sp, .int .i64 tl], .agg #[.int .i64 (f i 0), .int .i64 (f i 1), .int .i64 (f i 2), .int .i64 (f i 3), .int .i64 (f i 4), .int .i64 (f i 5)]] W (FrR 0 ((findF no o nf q tl) (rowV f i)) W) from rfind_ok O Q no co nf cq sp tl o q (f i 0) (f i 1) (f i 2) (f i 3) (f i 4) (f i 5) W (hO.keep g) (hQ.keep g) hno hnf hok hv)
  have hFB := fun (i : Nat) W (g : Gr w W) (hv : allIn (rowV f i) 48 6 = false) => rfind_bad O Q no co nf cq sp tl o q (f i 0) (f i 1) (f i 2) (f i 3) (f i 4) (f i 5) W (hO.keep g) (hQ.keep g) hno hnf (by rw [show allIn ⟨f i 0, f i 1, f i 2, f i 3, f i 4, f i 5⟩ 48 6 = false from hv, Bool.and_false])
  have hFL : ∀ v, ((findF no o nf q tl) v).length ≤ 296 := fun v => by
    have z1 := onAll_len (playsF o q tl v) (nf + 1) no
    have z3 : no * (nf + 1) ≤ 8 * 37 := Nat.mul_le_mul (by omega) (by omega)
    show (onAll (playsF o q tl v) (nf + 1) no).length ≤ 296
    omega
  have hF36 : ∀ v, ∀ x ∈ (findF no o nf q tl) v, x.2 ≤ 36 := fun v x hx => by
    have := (mem_onAll.1 hx).2.1
    omega
  have HCE : Hid (vecsB f n = true → (chordE no o nf q sp tl f n) = chE sp (optsF (findF no o nf q tl) f n) ∧ (chordL no o nf q sp tl f n) = chL sp (optsF (findF no o nf q tl) f n)) := Lib.hid (fun h => by
    unfold chordE chordL chordOk; rw [hok, h, decide_eq_true hn]; exact ⟨rfl, rfl⟩)
  have HCB : Hid (vecsB f n = false → (chordE no o nf q sp tl f n) = 1 ∧ (chordL no o nf q sp tl f n) = []) := Lib.hid (fun h => by
    unfold chordE chordL chordOk; rw [hok, h, Bool.and_false, Bool.and_false]; exact ⟨rfl, rfl⟩)
  have d1 : decide (12 < (n : Int)) = false := decide_eq_false (by omega)
  have HV := Lib.hid hV; have HFO := Lib.hid hFO; have HFB := Lib.hid hFB; have HFL := Lib.hid hFL; have HF36 := Lib.hid hF36
  have HA := Lib.hid hA
  obtain ⟨i0, hinfo, hy0, hy1, hy2⟩ := info_parts infoFretL
  have HINF := Lib.hid (And.intro hinfo (And.intro hy0 (And.intro hy1 hy2)))
  clear hV hFO hFB hFL hF36 hO hQ hA hok hlim hinfo hy0 hy1 hy2
  generalize (chordE no o nf q sp tl f n) = CE at *
  generalize (chordL no o nf q sp tl f n) = CL at *
  generalize (findF no o nf q tl) = F at *
  go_enter Tryd.func16, Tryd.ntmps16
  go_wp2_with fail
  (go_at_call 14; with_reducible refine (HV.out _ (by repeat (first | with_reducible exact Gr.refl _ | with_reducible refine Gr.alloc ?_ _ | with_reducible refine Gr.drew ?_ | with_reducible refine Gr.trans ?_ (by assumption) | with_reducible refine Gr.setCell ?_ (by (try simp); (try omega)) _))).mono ?_; rintro e w' ⟨rfl, hb⟩; have hz := hb.le; obtain ⟨hc, hf⟩ := hb.cells; have hn := hb.cellsN; (try simp only [World.size_alloc] at hc hf hz hn); (try simp only [World.size_setCell] at hc hf hz hn); (try simp only [World.size_drew] at hc hf hz hn))
  have HNB : Hid (NeckAt w' w.heap.size O Q no co nf cq sp tl) := Lib.hid ⟨by omega, by simp [go_sem, *], by simp [go_sem, *], by simp [go_sem, *], by simp [go_sem, *]⟩
  have HG := Lib.hid (show Gr w w' from (by repeat (first | with_reducible exact Gr.refl _ | with_reducible refine Gr.alloc ?_ _ | with_reducible refine Gr.drew ?_ | with_reducible refine Gr.trans ?_ (by assumption) | with_reducible refine Gr.setCell ?_ (by (try simp); (try omega)) _)))
  clear hb hz hc hf hn HV
  obtain ⟨Wb, rfl⟩ : ∃ Wb : World, Wb = w' := ⟨_, rfl⟩
  have HOS0 : Hid (OSr Wb Wb (.slice none 0 0) (optsF F f 0)) := Lib.hid ⟨Gr.refl _, Nat.le_refl _, [], World.ownsRow_nil _ _ _ _, fun k o h => by simp [optsF] at h⟩
  go_wp2_with fail
  go_loopw [7, 8, 9, 10] (fun nv lv ov iv wr => ∃ (i : Nat) (v : Value), i ≤ n ∧ nv = .bool (noneB (optsF F f i)) ∧ lv = .int .i64 ((capP (optsF F f i) : Nat) : Int) ∧ v = ov ∧ iv = .int .i64 (i : Int) ∧ vecsB f i = true ∧ OSr Wb wr v (optsF F f i)) (fun _ _ _ iv _ => n - (intOf iv).toNat)
  case atStart => exact ⟨0, _, Nat.zero_le _, rfl, rfl, rfl, rfl, rfl, HOS0.out⟩
  case round =>
    obtain ⟨i, v, hin, rfl, rfl, rfl, rfl, hvi, hS⟩ := hrel
    have HVI := Lib.hid hvi; have HS := Lib.hid hS
    have HSZ := Lib.hid hS.sz
    have HGR := Lib.hid hS.gr
    obtain ⟨hl0, b0, b1, b2, b3⟩ := HNB.out.keep hS.gr
    have hcr := capP_range (optsF F f i)
    clear hvi hS HOS0
    obtain ⟨wo, rfl⟩ : ∃ wo : World, wo = wr := ⟨_, rfl⟩
    by_cases hlt : i < n
    · obtain ⟨b, off, rfl, hbl, c0, c1, c2, c3, c4, c5⟩ := (HA.out.keep (HG.out.trans HGR.out)).six hlt
      have hlt' : decide ((i : Int) < (n : Int)) = true := decide_eq_true (by omega)
      have hi0 : (0 : Int) ≤ (i : Int) := by omega
      have hi1 : (i : Int) < (n : Int) := by omega
      rcases bool_tf (allIn (rowV f i) 48 6) with hv | hv
      · have HE : Hid (optsF F f (i + 1) = optsF F f i ++ [F (rowV f i)]) := Lib.hid rfl
        have HVN := Lib.hid (vecsB_next HVI.out hv)
        have hFc := fun W (g : Gr w W) => HFO.out i W g hv
        have hl296 := HFL.out (rowV f i)
        have HFc := Lib.hid hFc
        have hlenA : (optsF F f i).length ≤ i := Nat.le_of_eq (optsF_len F f i)
        clear hFc hv
        generalize F (rowV f i) = l at *
        generalize optsF F f i = os at *
        go_wp2_with fail
        go_cut [11, 12] (fun lv ev wx => ∃ (A2 : Option Addr) (c2' : Nat), lv = .slice A2 l.length c2' ∧ ev = .int .i64 0 ∧ wx.ownsRow Wb.heap.size 37 2 (.slice A2 l.length c2') l.length (frCells l) ∧ Gr wo wx)
        case first =>
          refine wp_region_held_drew (S := fun wx => (∀ b o, (⟨min (b + 1) wo.heap.size, 0, none⟩ : Addr) = ⟨b + 1, 0, none⟩ → wx.cell? ⟨b, o, none⟩ = wo.cell? ⟨b, o, none⟩) ∧ Gr wo wx) (by kernel_rfl) (held_drew wo) (fun hHeld => ?_)
          refine take_at (i := 0) (oi := _) (d := some 31) (v := ?_) rfl rfl (by kernel_rfl) (by kernel_rfl) (by kernel_rfl) (fun _ _ _ h => h) (Or.inl ⟨by rfl, ?_⟩) hHeld ?_
          rotate_left
          next => (intro w hSw; (try dsimp only at hSw); go_simp; try with_reducible rfl)
          try simp only [Act.put, List.setIfInBounds_toArray, List.set_cons_zero, List.set_cons_succ]
          refine take_at (i := 1) (oi := _) (d := some 32) (v := ?_) rfl rfl (by kernel_rfl) (by kernel_rfl) (by kernel_rfl) (fun _ _ _ h => h) (Or.inl ⟨by rfl, ?_⟩) hHeld ?_
          rotate_left
          next => (intro w hSw; (try dsimp only at hSw); go_simp; try with_reducible rfl)
          try simp only [Act.put, List.setIfInBounds_toArray, List.set_cons_zero, List.set_cons_succ]
          refine take_at (i := 2) (oi := _) (d := some 33) (v := ?_) rfl rfl (by kernel_rfl) (by kernel_rfl) (by kernel_rfl) (fun _ _ _ h => h) (Or.inl ⟨by rfl, ?_⟩) hHeld ?_
          rotate_left
          next => (intro w hSw; (try dsimp only at hSw); go_simp; try with_reducible rfl)
          try simp only [Act.put, List.setIfInBounds_toArray, List.set_cons_zero, List.set_cons_succ]
          refine take_at (i := 3) (oi := _) (d := some 34) (v := ?_) rfl rfl (by kernel_rfl) (by kernel_rfl) (by kernel_rfl) (fun _ _ _ h => h) (Or.inl ⟨by rfl, ?_⟩) hHeld ?_
          rotate_left
          next => (intro w hSw; (try dsimp only at hSw); go_simp; try with_reducible rfl)
          try simp only [Act.put, List.setIfInBounds_toArray, List.set_cons_zero, List.set_cons_succ]
          refine take_at (i := 4) (oi := _) (d := some 35) (v := ?_) rfl rfl (by kernel_rfl) (by kernel_rfl) (by kernel_rfl) (fun _ _ _ h => h) (Or.inl ⟨by rfl, ?_⟩) hHeld ?_
          rotate_left
          next => (intro w hSw; (try dsimp only at hSw); go_simp; try with_reducible rfl)
          try simp only [Act.put, List.setIfInBounds_toArray, List.set_cons_zero, List.set_cons_succ]
          refine wpAnyH_ready (rs := [5]) (by kernel_rfl) (by simp) (AllReadyH.cons (o := _) rfl (fun K hK => ?_) AllReadyH.nil)
          go_simp
          go_at_call 23
          refine (HFc.out _ ((HG.out.trans HGR.out).trans hHeld.2)).mono ?_
          rintro e w' ⟨A2, c2', rfl, hown2, hrows2, hl2, hlc2, hb⟩
          replace hown2 := own_mono hown2 (Nat.le_trans HSZ.out hHeld.2.le)
          have HOWN2 := Lib.hid hown2
          clear hown2 hrows2
          refine hK.out _ _ (held_call hHeld hb) (fun hHeld => ?_)
          clear hK K hb
          try simp only [Act.put, List.setIfInBounds_toArray, List.set_cons_zero, List.set_cons_succ]
          refine take_at (i := 6) (oi := _) (d := some 30) (v := ?_) rfl rfl (by kernel_rfl) (by kernel_rfl) (by kernel_rfl) (fun _ _ _ h => h) (Or.inl ⟨by rfl, ?_⟩) hHeld ?_
          rotate_left
          next => (intro w hSw; (try dsimp only at hSw); go_simp; try with_reducible rfl)
          try simp only [Act.put, List.setIfInBounds_toArray, List.set_cons_zero, List.set_cons_succ]
          refine take_at (i := 7) (oi := _) (d := some 37) (v := ?_) rfl rfl (by kernel_rfl) (by kernel_rfl) (by kernel_rfl) (fun _ _ _ h => h) (Or.inl ⟨by rfl, ?_⟩) hHeld ?_
          rotate_left
          next => (intro w hSw; (try dsimp only at hSw); go_simp; try with_reducible rfl)
          try simp only [Act.put, List.setIfInBounds_toArray, List.set_cons_zero, List.set_cons_succ]
          refine take_at (i := 8) (oi := _) (d := some 38) (v := ?_) rfl rfl (by kernel_rfl) (by kernel_rfl) (by kernel_rfl) (fun _ _ _ h => h) (Or.inl ⟨by rfl, ?_⟩) hHeld ?_
          rotate_left
          next => (intro w hSw; (try dsimp only at hSw); go_simp; try with_reducible rfl)
          try simp only [Act.put, List.setIfInBounds_toArray, List.set_cons_zero, List.set_cons_succ]
          refine take_at (i := 9) (oi := _) (d := some 11) (v := ?_) rfl rfl (by kernel_rfl) (by kernel_rfl) (by kernel_rfl) (fun _ _ _ h => h) (Or.inl ⟨by rfl, ?_⟩) hHeld ?_
          rotate_left
          next => (intro w hSw; (try dsimp only at hSw); go_simp; try with_reducible rfl)
          try simp only [Act.put, List.setIfInBounds_toArray, List.set_cons_zero, List.set_cons_succ]
          refine take_at (i := 10) (oi := _) (d := some 12) (v := ?_) rfl rfl (by kernel_rfl) (by kernel_rfl) (by kernel_rfl) (fun _ _ _ h => h) (Or.inl ⟨by rfl, ?_⟩) hHeld ?_
          rotate_left
          next => (intro w hSw; (try dsimp only at hSw); go_simp; try with_reducible rfl)
          try simp only [Act.put, List.setIfInBounds_toArray, List.set_cons_zero, List.set_cons_succ]
          refine wpAnyH_done (by kernel_rfl) ?_ _
          go_wp2_with fail
          go_meet
          exact ⟨A2, c2', rfl, rfl, own_keep HOWN2.out (by first | exact Gr.refl _ | exact (Gr.refl _).drew | exact (Gr.refl _).drewN _), held_gr (by assumption)⟩
        case rest =>
          obtain ⟨A2, c2', rfl, rfl, hown2, hgc⟩ := hcut
          have HLO := Lib.hid hown2
          have hS3 := HS.out.keep hgc
          have hsz3 := hS3.sz
          obtain ⟨xs, hxs, -⟩ := hS3.own
          have HXS := Lib.hid hxs
          have HS3 := Lib.hid hS3
          obtain ⟨w3, rfl⟩ : ∃ w3 : World, w3 = wc := ⟨_, rfl⟩
          clear hl0 b0 b1 b2 b3 c0 c1 c2 c3 c4 c5 hown2 hS3 hxs HS HFc hbl
          have hpr0 : 0 ≤ (capP os : Int) * max (l.length : Int) 1 := Int.mul_nonneg (by omega) (by omega)
          have hpr1 : (capP os : Int) * max (l.length : Int) 1 ≤ 10001 * 296 := Int.mul_le_mul (by omega) (by omega) (by omega) (by omega)
          have hw1 : IntKind.i64.wrap ((capP os : Int) * max (l.length : Int) 1) = (capP os : Int) * max (l.length : Int) 1 := IntWalk.i64_in _ ⟨by omega, by omega⟩
          have HCI := Lib.hid (capI os l)
          clear hpr0 hpr1
          have hw2 : wrap64 ((capP os : Int) * max (l.length : Int) 1) = (capP os : Int) * max (l.length : Int) 1 := (IntWalk.i64_left _).symm.trans hw1
          have HLZ := Lib.hid (lenz l.length)
          rcases bool_tf (noneB os) with hnb | hnb
          all_goals
            have HNB1 := Lib.hid hnb
            rw [hnb]
            go_wp2_with (at_builtin; refine wpList_append_lies _ rfl _ _ 64 rfl Wb.heap.size 25 i0 (.slice none 0 0) 1 24 Tryd.underlying64 HINF.out.1 HINF.out.2.1 HINF.out.2.2.1 HINF.out.2.2.2 rfl (by decide) _ _ _ rfl (HXS.out.alloc _) ⟨w3.heap.size, 0, none⟩ 1 1 [.slice A2 l.length c2'] rfl rfl (cell_one_new _ _ _) (by simp [Value.oneCell']) (by decide) (by unfold maxLen; omega) (by omega) (by simp; omega) _ rfl ?_; intro g' cap' w4 hown hgrow hat hlt3)
            have HN := Lib.hid (HS3.out.push (o := l) ((Gr.refl _).alloc _) HXS.out HLO.out (by omega) hown hgrow)
            clear hown hgrow hat hlt3
            go_wp2_with fail
            go_roundw
            case rel => exact ⟨i + 1, _, by omega, by rw [HE.out, noneB_snoc, HNB1.out]; first | rfl | rw [Bool.false_or, HLZ.out], by rw [HE.out, HCI.out], rfl, by go_num, HVN.out, by rw [HE.out]; exact HN.out⟩
            case measure => simp [intOf]; omega
      · obtain ⟨hce, hcl⟩ := HCB.out (vecsB_no hlt hv)
        have hFc := fun W (g : Gr w W) => HFB.out i W g hv
        have HFc := Lib.hid hFc
        have HC1 := Lib.hid (And.intro hce hcl)
        clear hFc hv hce hcl
        go_wp2_with fail
        go_cut [11, 12] (fun lv ev wx => lv = .slice none 0 0 ∧ ev = .int .i64 1 ∧ Gr wo wx)
        case first =>
          refine wp_region_held_drew (S := fun wx => (∀ b o, (⟨min (b + 1) wo.heap.size, 0, none⟩ : Addr) = ⟨b + 1, 0, none⟩ → wx.cell? ⟨b, o, none⟩ = wo.cell? ⟨b, o, none⟩) ∧ Gr wo wx) (by kernel_rfl) (held_drew wo) (fun hHeld => ?_)
          refine take_at (i := 0) (oi := _) (d := some 31) (v := ?_) rfl rfl (by kernel_rfl) (by kernel_rfl) (by kernel_rfl) (fun _ _ _ h => h) (Or.inl ⟨by rfl, ?_⟩) hHeld ?_
          rotate_left
          next => (intro w hSw; (try dsimp only at hSw); go_simp; try with_reducible rfl)
          try simp only [Act.put, List.setIfInBounds_toArray, List.set_cons_zero, List.set_cons_succ]
          refine take_at (i := 1) (oi := _) (d := some 32) (v := ?_) rfl rfl (by kernel_rfl) (by kernel_rfl) (by kernel_rfl) (fun _ _ _ h => h) (Or.inl ⟨by rfl, ?_⟩) hHeld ?_
          rotate_left
          next => (intro w hSw; (try dsimp only at hSw); go_simp; try with_reducible rfl)
          try simp only [Act.put, List.setIfInBounds_toArray, List.set_cons_zero, List.set_cons_succ]
          refine take_at (i := 2) (oi := _) (d := some 33) (v := ?_) rfl rfl (by kernel_rfl) (by kernel_rfl) (by kernel_rfl) (fun _ _ _ h => h) (Or.inl ⟨by rfl, ?_⟩) hHeld ?_
          rotate_left
          next => (intro w hSw; (try dsimp only at hSw); go_simp; try with_reducible rfl)
          try simp only [Act.put, List.setIfInBounds_toArray, List.set_cons_zero, List.set_cons_succ]
          refine take_at (i := 3) (oi := _) (d := some 34) (v := ?_) rfl rfl (by kernel_rfl) (by kernel_rfl) (by kernel_rfl) (fun _ _ _ h => h) (Or.inl ⟨by rfl, ?_⟩) hHeld ?_
          rotate_left
          next => (intro w hSw; (try dsimp only at hSw); go_simp; try with_reducible rfl)
          try simp only [Act.put, List.setIfInBounds_toArray, List.set_cons_zero, List.set_cons_succ]
          refine take_at (i := 4) (oi := _) (d := some 35) (v := ?_) rfl rfl (by kernel_rfl) (by kernel_rfl) (by kernel_rfl) (fun _ _ _ h => h) (Or.inl ⟨by rfl, ?_⟩) hHeld ?_
          rotate_left
          next => (intro w hSw; (try dsimp only at hSw); go_simp; try with_reducible rfl)
          try simp only [Act.put, List.setIfInBounds_toArray, List.set_cons_zero, List.set_cons_succ]
          refine wpAnyH_ready (rs := [5]) (by kernel_rfl) (by simp) (AllReadyH.cons (o := _) rfl (fun K hK => ?_) AllReadyH.nil)
          go_simp
          go_at_call 23
          refine (HFc.out _ ((HG.out.trans HGR.out).trans hHeld.2)).mono ?_
          rintro e w' ⟨rfl, hb⟩
          refine hK.out _ _ (held_call hHeld hb) (fun hHeld => ?_)
          clear hK K hb
          try simp only [Act.put, List.setIfInBounds_toArray, List.set_cons_zero, List.set_cons_succ]
          refine take_at (i := 6) (oi := _) (d := some 30) (v := ?_) rfl rfl (by kernel_rfl) (by kernel_rfl) (by kernel_rfl) (fun _ _ _ h => h) (Or.inl ⟨by rfl, ?_⟩) hHeld ?_
          rotate_left
          next => (intro w hSw; (try dsimp only at hSw); go_simp; try with_reducible rfl)
          try simp only [Act.put, List.setIfInBounds_toArray, List.set_cons_zero, List.set_cons_succ]
          refine take_at (i := 7) (oi := _) (d := some 37) (v := ?_) rfl rfl (by kernel_rfl) (by kernel_rfl) (by kernel_rfl) (fun _ _ _ h => h) (Or.inl ⟨by rfl, ?_⟩) hHeld ?_
          rotate_left
          next => (intro w hSw; (try dsimp only at hSw); go_simp; try with_reducible rfl)
          try simp only [Act.put, List.setIfInBounds_toArray, List.set_cons_zero, List.set_cons_succ]
          refine take_at (i := 8) (oi := _) (d := some 38) (v := ?_) rfl rfl (by kernel_rfl) (by kernel_rfl) (by kernel_rfl) (fun _ _ _ h => h) (Or.inl ⟨by rfl, ?_⟩) hHeld ?_
          rotate_left
          next => (intro w hSw; (try dsimp only at hSw); go_simp; try with_reducible rfl)
          try simp only [Act.put, List.setIfInBounds_toArray, List.set_cons_zero, List.set_cons_succ]
          refine take_at (i := 9) (oi := _) (d := some 11) (v := ?_) rfl rfl (by kernel_rfl) (by kernel_rfl) (by kernel_rfl) (fun _ _ _ h => h) (Or.inl ⟨by rfl, ?_⟩) hHeld ?_
          rotate_left
          next => (intro w hSw; (try dsimp only at hSw); go_simp; try with_reducible rfl)
          try simp only [Act.put, List.setIfInBounds_toArray, List.set_cons_zero, List.set_cons_succ]
          refine take_at (i := 10) (oi := _) (d := some 12) (v := ?_) rfl rfl (by kernel_rfl) (by kernel_rfl) (by kernel_rfl) (fun _ _ _ h => h) (Or.inl ⟨by rfl, ?_⟩) hHeld ?_
          rotate_left
          next => (intro w hSw; (try dsimp only at hSw); go_simp; try with_reducible rfl)
          try simp only [Act.put, List.setIfInBounds_toArray, List.set_cons_zero, List.set_cons_succ]
          refine wpAnyH_done (by kernel_rfl) ?_ _
          go_wp2_with fail
          go_meet
          exact ⟨rfl, rfl, held_gr (by assumption)⟩
        case rest =>
          obtain ⟨rfl, rfl, hgc⟩ := hcut
          go_wp2_with fail
          go_ret2
          rw [HC1.out.1, HC1.out.2]
          exact frR_none ⟨rfl, HG.out.trans (HGR.out.trans hgc)⟩
    · obtain rfl : n = i := by omega
      have HCE1 := Lib.hid (HCE.out HVI.out)
      have hlen : (optsF F f n).length ≤ n := Nat.le_of_eq (optsF_len F f n)
      have hlt' : decide ((n : Int) < (n : Int)) = false := decide_eq_false (by omega)
      have HOP : Hid (∀ o ∈ optsF F f n, ∀ x ∈ o, x.2 ≤ 36) := Lib.hid (fun o ho => by
        obtain ⟨k, hk⟩ := List.getElem?_of_mem ho
        have hkn : k < n := by have := (List.getElem?_eq_some_iff.1 hk).1; omega
        rw [optsF_at F f hkn] at hk
        cases hk
        exact HF36.out _)
      generalize optsF F f n = os at *
      rcases bool_tf (noneB os) with hnb | hnb
      · have HE1 : Hid (chE sp os = 4 ∧ chL sp os = []) := Lib.hid (by unfold chE chL; rw [hnb]; exact ⟨rfl, rfl⟩)
        rw [hnb]
        go_wp2_with fail
        go_ret2
        rw [HCE1.out.1, HCE1.out.2, HE1.out.1, HE1.out.2]
        exact frR_none ⟨rfl, HG.out.trans HGR.out⟩
      · by_cases hcp : 10000 < capP os
        · have HE1 : Hid (chE sp os = 2 ∧ chL sp os = []) := Lib.hid (by unfold chE chL; rw [hnb, if_pos hcp]; exact ⟨rfl, by simp [hcp]⟩)
          have hcb : decide (10000 < ((capP os : Nat) : Int)) = true := decide_eq_true (by omega)
          have hcb2 : decide (10000 < capP os) = true := decide_eq_true hcp
          rw [hnb]
          go_wp2_with fail
          go_ret2
          rw [HCE1.out.1, HCE1.out.2, HE1.out.1, HE1.out.2]
          exact frR_none ⟨rfl, HG.out.trans HGR.out⟩
        · have hcb : decide (10000 < ((capP os : Nat) : Int)) = false := decide_eq_false (by omega)
          have hcb2 : decide (10000 < capP os) = false := decide_eq_false hcp
          rw [hnb]
          obtain ⟨xs, hxs, -⟩ := HS.out.own
          obtain ⟨Av, cv, rfl⟩ : ∃ (Av : Option Addr) (cv : Nat), v = .slice Av os.length cv := by
            rcases hxs.2 with ⟨rfl, h⟩ | ⟨g, cap, cur, rfl, -⟩
            · exact ⟨none, 0, by rw [h]⟩
            · exact ⟨_, _, rfl⟩
          have HOPT := Lib.hid HS.out.opts
          have hSE := fun W (g : Gr wo W) => rsearch_any sp Av cv W.heap.size os HOP.out (by omega) os [] [] none 0 W (by simp) rfl (by simp) (HOPT.out.keep g) (World.ownsRow_nil _ _ _ _) (Nat.le_refl _)
          simp only [List.length_nil] at hSE
          clear hxs
          cases hs : srch sp os [] with
          | none =>
            have HE1 : Hid (chE sp os = 20 ∧ chL sp os = []) := Lib.hid (by unfold chE chL; rw [hnb, hs]; simp [hcp])
            simp only [hs, Option.getD_none, Option.isSome_none, List.length_nil] at hSE
            have HSE := Lib.hid hSE
            clear hSE hs
            go_wp2_with fail
            go_at_call 40
            refine (HSE.out _ (by repeat (first | with_reducible exact Gr.refl _ | with_reducible refine Gr.alloc ?_ _ | with_reducible refine Gr.drew ?_ | with_reducible refine Gr.trans ?_ (by assumption) | with_reducible refine Gr.setCell ?_ (by (try simp); (try omega)) _))).mono ?_
            rintro e w5 ⟨A5, c5, rfl, -, hb5⟩
            have hg5 : Gr wo w5 := Gr.trans (by repeat (first | with_reducible exact Gr.refl _ | with_reducible refine Gr.alloc ?_ _ | with_reducible refine Gr.drew ?_ | with_reducible refine Gr.trans ?_ (by assumption) | with_reducible refine Gr.setCell ?_ (by (try simp); (try omega)) _)) hb5
            have HG5 := Lib.hid hg5
            clear hb5 hg5
            go_wp2_with fail
            go_ret2
            rw [HCE1.out.1, HCE1.out.2, HE1.out.1, HE1.out.2]
            exact frR_none ⟨rfl, HG.out.trans (HGR.out.trans HG5.out)⟩
          | some r =>
            have HE1 : Hid (chE sp os = 0 ∧ chL sp os = r) := Lib.hid (by unfold chE chL; rw [hnb, hs]; simp [hcp])
            simp only [hs, Option.getD_some, Option.isSome_some] at hSE
            obtain ⟨l', hl', hd', -⟩ := srch_some (by rfl) hs
            have hlen5 : r.length ≤ 12 := by
              have := hd'.len
              rw [List.nil_append] at hl'
              rw [hl', this]; omega
            have HSE := Lib.hid hSE
            clear hSE hs hl' hd'
            go_wp2_with fail
            go_at_call 40
            refine (HSE.out _ (by repeat (first | with_reducible exact Gr.refl _ | with_reducible refine Gr.alloc ?_ _ | with_reducible refine Gr.drew ?_ | with_reducible refine Gr.trans ?_ (by assumption) | with_reducible refine Gr.setCell ?_ (by (try simp); (try omega)) _))).mono ?_
            rintro e w5 ⟨A5, c5, rfl, hown5, hb5⟩
            have hg5 : Gr wo w5 := Gr.trans (by repeat (first | with_reducible exact Gr.refl _ | with_reducible refine Gr.alloc ?_ _ | with_reducible refine Gr.drew ?_ | with_reducible refine Gr.trans ?_ (by assumption) | with_reducible refine Gr.setCell ?_ (by (try simp); (try omega)) _)) hb5
            have HG5 := Lib.hid hg5
            obtain ⟨A6, c6, hA6, hrows5, -⟩ := rows_of_own hown5 (frF r) (fun i j hi hj => frCells_at _ i j hi hj)
            cases hA6
            have hcap5 := own_cap hown5
            have HO5 := Lib.hid (own_mono hown5 (b' := w.heap.size) (HG.out.trans HGR.out).le)
            have HR6 := Lib.hid (And.intro hrows5 (And.intro hcap5 hlen5))
            clear hrows5 hcap5 hlen5 hown5 hb5 hg5
            go_wp2_with fail
            go_ret2
            rw [HCE1.out.1, HCE1.out.2, HE1.out.1, HE1.out.2]
            exact ⟨A5, c5, rfl, HO5.out, HR6.out.1, by have := HR6.out.2.2; omega, HR6.out.2.1, HG.out.trans (HGR.out.trans HG5.out)⟩
theorem rchord_any (O Q : Option Addr) (no co nf cq : Nat) (sp tl : Int) (o q : Nat → Nat → Int) (A : Option Addr) (n c : Nat) (f : Nat → Nat → Int) (w : World) (hO : RowsAt w 6 O no o) (hQ : RowsAt w 6 Q nf q) (hA : RowsAt w 6 A n f) (hno : no ≤ 9223372036854775807) (hnf : nf ≤ 9223372036854775807) :
    Calls Tryd.prog 16 #[.agg #[.slice O no co, .slice Q nf cq, .int .i64 sp, .int .i64 tl], .slice A n c] w (FrR (chordE no o nf q sp tl f n) (chordL no o nf q sp tl f n) w) := by
  rcases bool_tf (neckB no o nf q sp tl) with hok | hok
  · by_cases hn : n ≤ 12
    · exact rchord_in O Q no co nf cq sp tl o q A n c f w hO hQ hA hno hnf hok hn
    · have e1 : (chordE no o nf q sp tl f n) = 1 := by unfold chordE chordOk; rw [decide_eq_false hn, Bool.false_and, Bool.and_false]; rfl
      have e2 : (chordL no o nf q sp tl f n) = [] := by unfold chordL chordOk; rw [decide_eq_false hn, Bool.false_and, Bool.and_false]; rfl
      rw [e1, e2]
      exact (rchord_bad O Q no co nf cq sp tl o q A n c w hO hQ hno hnf (.inr ⟨hok, by omega⟩)).mono fun e w' h => frR_none h
  · have e1 : (chordE no o nf q sp tl f n) = 1 := by unfold chordE chordOk; rw [hok, Bool.false_and]; rfl
    have e2 : (chordL no o nf q sp tl f n) = [] := by unfold chordL chordOk; rw [hok, Bool.false_and]; rfl
    rw [e1, e2]
    exact (rchord_bad O Q no co nf cq sp tl o q A n c w hO hQ hno hnf (.inl hok)).mono fun e w' h => frR_none h
end Go.Proofs.YtohalcookjbaaaaDoor

namespace Go.Proofs.YtohalcookjbaaaaDoor
open Go.RowKit

set_option maxRecDepth 100000 in
set_option maxHeartbeats 16000000 in
theorem lmat_skip (O Q : Option Addr) (no co nf cq : Nat) (sp tl : Int) (B A : Option Addr) (m cm n c : Nat) (w : World) (hP : Primes w) (hL : Logs w) (hbad : (fewB no nf n && decide (m ≤ 12)) = false) :
    Calls Tryd.prog 3 #[.agg #[.slice O no co, .slice Q nf cq, .int .i64 sp, .int .i64 tl], .slice B m cm, .slice A n c] w fun e w' => e = .returned (.bool true) ∧ Gr w w' := by
  have HP := Lib.hid hP; have HL := Lib.hid hL
  have hF := fun W => few_any O Q A no co nf cq n c sp tl W
  clear hP hL
  rcases bool_tf (fewB no nf n) with h1 | h1
  · rw [h1, Bool.true_and] at hbad
    rw [h1] at hF
    have HF := Lib.hid hF
    have hm : ¬ m ≤ 12 := by simpa using hbad
    have d1 : decide (12 < (m : Int)) = true := decide_eq_true (by omega)
    have d2 : decide (12 < m) = true := decide_eq_true (by omega)
    clear hF h1 hbad hm
    go_enter Tryd.func3, Tryd.ntmps3
    go_wp2_with fail
    (go_at_call 11; with_reducible refine (fhead_any _ (HP.out.keep (by repeat (first | with_reducible exact Gr.refl _ | with_reducible refine Gr.alloc ?_ _ | with_reducible refine Gr.drew ?_ | with_reducible refine Gr.trans ?_ (by assumption) | with_reducible refine Gr.setCell ?_ (by (try simp); (try omega)) _))) (HL.out.keep (by repeat (first | with_reducible exact Gr.refl _ | with_reducible refine Gr.alloc ?_ _ | with_reducible refine Gr.drew ?_ | with_reducible refine Gr.trans ?_ (by assumption) | with_reducible refine Gr.setCell ?_ (by (try simp); (try omega)) _)))).mono ?_; rintro e w' ⟨rfl, hb⟩; have hz := hb.le; obtain ⟨hc, hf⟩ := hb.cells; have hn := hb.cellsN; (try simp only [World.size_alloc] at hc hf hz hn); (try simp only [World.size_setCell] at hc hf hz hn); (try simp only [World.size_drew] at hc hf hz hn))
    go_wp2_with fail
    (go_at_call 12; with_reducible refine (HF.out _).mono ?_; rintro e w' ⟨rfl, hb⟩; have hz := hb.le; obtain ⟨hc, hf⟩ := hb.cells; have hn := hb.cellsN; (try simp only [World.size_alloc] at hc hf hz hn); (try simp only [World.size_setCell] at hc hf hz hn); (try simp only [World.size_drew] at hc hf hz hn))
    go_wp2_with fail
    go_ret
    exact ⟨rfl, (by repeat (first | with_reducible exact Gr.refl _ | with_reducible refine Gr.alloc ?_ _ | with_reducible refine Gr.drew ?_ | with_reducible refine Gr.trans ?_ (by assumption) | with_reducible refine Gr.setCell ?_ (by (try simp); (try omega)) _))⟩
  · rw [h1] at hF
    have HF := Lib.hid hF
    clear hF h1 hbad
    go_enter Tryd.func3, Tryd.ntmps3
    go_wp2_with fail
    (go_at_call 11; with_reducible refine (fhead_any _ (HP.out.keep (by repeat (first | with_reducible exact Gr.refl _ | with_reducible refine Gr.alloc ?_ _ | with_reducible refine Gr.drew ?_ | with_reducible refine Gr.trans ?_ (by assumption) | with_reducible refine Gr.setCell ?_ (by (try simp); (try omega)) _))) (HL.out.keep (by repeat (first | with_reducible exact Gr.refl _ | with_reducible refine Gr.alloc ?_ _ | with_reducible refine Gr.drew ?_ | with_reducible refine Gr.trans ?_ (by assumption) | with_reducible refine Gr.setCell ?_ (by (try simp); (try omega)) _)))).mono ?_; rintro e w' ⟨rfl, hb⟩; have hz := hb.le; obtain ⟨hc, hf⟩ := hb.cells; have hn := hb.cellsN; (try simp only [World.size_alloc] at hc hf hz hn); (try simp only [World.size_setCell] at hc hf hz hn); (try simp only [World.size_drew] at hc hf hz hn))
    go_wp2_with fail
    (go_at_call 12; with_reducible refine (HF.out _).mono ?_; rintro e w' ⟨rfl, hb⟩; have hz := hb.le; obtain ⟨hc, hf⟩ := hb.cells; have hn := hb.cellsN; (try simp only [World.size_alloc] at hc hf hz hn); (try simp only [World.size_setCell] at hc hf hz hn); (try simp only [World.size_drew] at hc hf hz hn))
    go_wp2_with fail
    go_ret
    exact ⟨rfl, (by repeat (first | with_reducible exact Gr.refl _ | with_reducible refine Gr.alloc ?_ _ | with_reducible refine Gr.drew ?_ | with_reducible refine Gr.trans ?_ (by assumption) | with_reducible refine Gr.setCell ?_ (by (try simp); (try omega)) _))⟩

set_option maxRecDepth 100000 in
set_option maxHeartbeats 16000000 in
theorem lmat_ok (O Q : Option Addr) (no co nf cq : Nat) (sp tl : Int) (o q : Nat → Nat → Int) (B A : Option Addr) (m cm n c : Nat) (g f : Nat → Nat → Int) (w : World) (hP : Primes w) (hL : Logs w) (hO : RowsAt w 6 O no o) (hQ : RowsAt w 6 Q nf q) (hno : no ≤ 9223372036854775807) (hnf : nf ≤ 9223372036854775807) (hB : RowsAt w 2 B m g) (hA : RowsAt w 6 A n f) (hmc : m ≤ cm) (hgood : (fewB no nf n && decide (m ≤ 12)) = true) :
    Calls Tryd.prog 3 #[.agg #[.slice O no co, .slice Q nf cq, .int .i64 sp, .int .i64 tl], .slice B m cm, .slice A n c] w fun e w' => e = .returned (.bool true) ∧ Gr w w' := by
  simp only [Bool.and_eq_true, decide_eq_true_eq] at hgood
  obtain ⟨hfew, hm12⟩ := hgood
  have hn4 : no ≤ 6 ∧ nf ≤ 15 ∧ n ≤ 4 := by simpa [fewB] using hfew
  have hF := fun W => few_any O Q A no co nf cq n c sp tl W
  rw [hfew] at hF
  have hV1 := fun W (k : Gr w W) => neckValid_any O Q no co nf cq sp tl o q W (hP.keep k) (hO.keep k) (hQ.keep k) hno hnf
  have hV2 := fun W (k : Gr w W) => rneck_any O Q no co nf cq sp tl o q W (hO.keep k) (hQ.keep k) hno hnf
  have hC1 := fun W (k : Gr w W) => fchord_any O Q no co nf cq sp tl o q A n c f W (hP.keep k) (hL.keep k) (hO.keep k) (hQ.keep k) (hA.keep k) hno hnf (by omega)
  have hC2 := fun W (k : Gr w W) => rchord_any O Q no co nf cq sp tl o q A n c f W (hO.keep k) (hQ.keep k) (hA.keep k) hno hnf
  have hT1 := fun W (k : Gr w W) => ffits_any O Q no co nf cq sp tl o q B m cm g W (hP.keep k) (hO.keep k) (hQ.keep k) (hB.keep k) hno hnf (by omega) hmc
  have hT2 := fun W (k : Gr w W) => rfits_any O Q no co nf cq sp tl o q B m cm g W (hO.keep k) (hQ.keep k) hno hnf (hB.keep k) (by omega)
  have HS := Lib.hid (fun (i : Nat) => (show ∃ y0 y1 y2 y3 y4 y5 E : Int,
      (∀ W, Gr w W → Calls Tryd.prog 20 #[.agg #[.slice O no co, .slice Q nf cq, .int .i64 sp, .int .i64 tl], .agg #[.int .i64 (g i 0), .int .i64 (g i 1)]] W fun e w' => e = .returned (.tuple #[.agg #[.int .i64 y0, .int .i64 y1, .int .i64 y2, .int .i64 y3, .int .i64 y4, .int .i64 y5], .int .i64 E]) ∧ Gr W w') ∧
      (∀ W, Gr w W → Calls Tryd.prog 21 #[.agg #[.slice O no co, .slice Q nf cq, .int .i64 sp, .int .i64 tl], .agg #[.int .i64 (g i 0), .int .i64 (g i 1)]] W fun e w' => e = .returned (.tuple #[.agg #[.int .i64 y0, .int .i64 y1, .int .i64 y2, .int .i64 y3, .int .i64 y4, .int .i64 y5], .int .i64 E]) ∧ Gr W w') from by
    obtain ⟨y0, y1, y2, y3, y4, y5, E, h1, h2⟩ := sound_both no nf o q sp tl (g i 0) (g i 1) hno hnf
    exact ⟨y0, y1, y2, y3, y4, y5, E, fun W k => h1 O Q co cq W (hP.keep k) (hO.keep k) (hQ.keep k), fun W k => h2 O Q co cq W (hO.keep k) (hQ.keep k)⟩))
  have HFD := Lib.hid (fun (i : Nat) => (show ∃ (E : Int) (l : List (Nat × Nat)),
      (∀ W, Gr w W → Calls Tryd.prog 22 #[.agg #[.slice O no co, .slice Q nf cq, .int .i64 sp, .int .i64 tl], .agg #[.int .i64 (f i 0), .int .i64 (f i 1), .int .i64 (f i 2), .int .i64 (f i 3), .int .i64 (f i 4), .int .i64 (f i 5)]] W (FrR E l W)) ∧ (∀ W, Gr w W → Calls Tryd.prog 23 #[.agg #[.slice O no co, .slice Q nf cq, .int .i64 sp, .int .i64 tl], .agg #[.int .i64 (f i 0), .int .i64 (f i 1), .int .i64 (f i 2), .int .i64 (f i 3), .int .i64 (f i 4), .int .i64 (f i 5)]] W (FrR E l W)) from
    ⟨_, _, fun W k => ffind_any O Q no co nf cq sp tl o q (f i 0) (f i 1) (f i 2) (f i 3) (f i 4) (f i 5) W (hP.keep k) (hL.keep k) (hO.keep k) (hQ.keep k) hno hnf, fun W k => rfind_any O Q no co nf cq sp tl o q (f i 0) (f i 1) (f i 2) (f i 3) (f i 4) (f i 5) W (hO.keep k) (hQ.keep k) hno hnf⟩))
  have HP := Lib.hid hP; have HL := Lib.hid hL; have HBB := Lib.hid hB; have HAA := Lib.hid hA
  have HF := Lib.hid hF; have HV1 := Lib.hid hV1; have HV2 := Lib.hid hV2; have HC1 := Lib.hid hC1; have HC2 := Lib.hid hC2; have HT1 := Lib.hid hT1; have HT2 := Lib.hid hT2
  have d1 : decide (12 < (m : Int)) = false := decide_eq_false (by omega)
  have d2 : decide (12 < m) = false := decide_eq_false (by omega)
  clear hP hL hO hQ hB hA hF hV1 hV2 hC1 hC2 hT1 hT2 hfew
  generalize (neckB no o nf q sp tl && allEx no nf g m && heldB sp g m) = FB at *
  generalize cond (neckB no o nf q sp tl && allEx no nf g m) (0 : Int) 1 = FE at *
  generalize neckB no o nf q sp tl = NB at *
  generalize chordE no o nf q sp tl f n = CE at *
  generalize chordL no o nf q sp tl f n = CL at *
  have hEB : ∀ b : Bool, (b == b) = true := fun b => by cases b <;> rfl
  go_enter Tryd.func3, Tryd.ntmps3
  go_wp2_with fail
  (go_at_call 11; with_reducible refine (fhead_any _ (HP.out.keep (by repeat (first | with_reducible exact Gr.refl _ | with_reducible refine Gr.alloc ?_ _ | with_reducible refine Gr.drew ?_ | with_reducible refine Gr.trans ?_ (by assumption) | with_reducible refine Gr.setCell ?_ (by (try simp); (try omega)) _))) (HL.out.keep (by repeat (first | with_reducible exact Gr.refl _ | with_reducible refine Gr.alloc ?_ _ | with_reducible refine Gr.drew ?_ | with_reducible refine Gr.trans ?_ (by assumption) | with_reducible refine Gr.setCell ?_ (by (try simp); (try omega)) _)))).mono ?_; rintro e w' ⟨rfl, hb⟩; have hz := hb.le; obtain ⟨hc, hf⟩ := hb.cells; have hn := hb.cellsN; (try simp only [World.size_alloc] at hc hf hz hn); (try simp only [World.size_setCell] at hc hf hz hn); (try simp only [World.size_drew] at hc hf hz hn))
  go_wp2_with fail
  (go_at_call 12; with_reducible refine (HF.out _).mono ?_; rintro e w' ⟨rfl, hb⟩; have hz := hb.le; obtain ⟨hc, hf⟩ := hb.cells; have hn := hb.cellsN; (try simp only [World.size_alloc] at hc hf hz hn); (try simp only [World.size_setCell] at hc hf hz hn); (try simp only [World.size_drew] at hc hf hz hn))
  go_wp2_with fail
  have HNK : Hid (NeckAt w' w.heap.size O Q no co nf cq sp tl) := Lib.hid ⟨by omega, by simp [go_sem, *], by simp [go_sem, *], by simp [go_sem, *], by simp [go_sem, *]⟩
  have HG := Lib.hid (show Gr w w' from (by repeat (first | with_reducible exact Gr.refl _ | with_reducible refine Gr.alloc ?_ _ | with_reducible refine Gr.drew ?_ | with_reducible refine Gr.trans ?_ (by assumption) | with_reducible refine Gr.setCell ?_ (by (try simp); (try omega)) _)))
  clear hb hz hc hf hn HF d1 d2
  obtain ⟨wo, rfl⟩ : ∃ wo : World, wo = w' := ⟨_, rfl⟩
  obtain ⟨hl0, b0, b1, b2, b3⟩ := HNK.out
  go_cut [7] (fun sv wx => sv = .bool true ∧ Gr wo wx)
  case first =>
    go_region_held3 (fun wx => (∀ b o, (⟨min (b + 1) wo.heap.size, 0, none⟩ : Addr) = ⟨b + 1, 0, none⟩ → wx.cell? ⟨b, o, none⟩ = wo.cell? ⟨b, o, none⟩) ∧ Gr wo wx) (first | with_reducible exact held_drew _ | with_reducible exact held_call (by assumption) (by assumption) | with_reducible exact held_alloc (by assumption) _ | with_reducible exact held_alloc0 _ _ | with_reducible exact held_anew (by assumption) _ (by omega) | ((repeat (with_reducible refine held_set ?_ (by (try simp); (try omega)) _)); (first | with_reducible assumption | with_reducible exact held_call (by assumption) (by assumption)))) (first | (go_at_call 13; with_reducible refine (HV1.out _ (HG.out.trans (held_gr (by assumption)))).mono ?_; rintro e w' ⟨rfl, hb⟩; have hzz := ((held_gr (by assumption)).trans hb).le; have hz := hb.le; obtain ⟨hcx, hfx⟩ := hb.cells; have hn := hb.cellsN; (try simp only [World.size_drew] at hcx hfx hz hn); (try simp only [World.size_setCell] at hcx hfx hz hn); (try simp only [World.size_alloc] at hcx hfx hz hn)) | (go_at_call 14; with_reducible refine (HV2.out _ (HG.out.trans (held_gr (by assumption)))).mono ?_; rintro e w' ⟨rfl, hb⟩; have hzz := ((held_gr (by assumption)).trans hb).le; have hz := hb.le; obtain ⟨hcx, hfx⟩ := hb.cells; have hn := hb.cellsN; (try simp only [World.size_drew] at hcx hfx hz hn); (try simp only [World.size_setCell] at hcx hfx hz hn); (try simp only [World.size_alloc] at hcx hfx hz hn)))
    all_goals
      go_wp2_with fail
      go_meet
      exact ⟨by simp, held_gr (by assumption)⟩
  case rest =>
    obtain ⟨rfl, hgc⟩ := hcut
    have HG1 := Lib.hid (HG.out.trans hgc)
    have HNK1 := Lib.hid (HNK.out.keep hgc)
    clear hl0 b0 b1 b2 b3 hgc HNK HV1 HV2
    obtain ⟨hl0, b0, b1, b2, b3⟩ := HNK1.out
    go_wp2_with fail
    go_at_call 15
    refine (HC1.out _ (HG1.out.trans (by repeat (first | with_reducible exact Gr.refl _ | with_reducible refine Gr.alloc ?_ _ | with_reducible refine Gr.drew ?_ | with_reducible refine Gr.trans ?_ (by assumption) | with_reducible refine Gr.setCell ?_ (by (try simp); (try omega)) _)))).mono ?_
    rintro e w3 ⟨A3, c3, rfl, -, hr3, hlm3, hcm3, hb3⟩
    have hg3 : Gr wc w3 := Gr.trans (by repeat (first | with_reducible exact Gr.refl _ | with_reducible refine Gr.alloc ?_ _ | with_reducible refine Gr.drew ?_ | with_reducible refine Gr.trans ?_ (by assumption) | with_reducible refine Gr.setCell ?_ (by (try simp); (try omega)) _)) hb3
    have HG3 := Lib.hid (HG1.out.trans hg3)
    have HR3 := Lib.hid hr3
    have HNK3 := Lib.hid (HNK1.out.keep hg3)
    clear hl0 b0 b1 b2 b3 hr3 hb3 hg3 HNK1
    obtain ⟨hl0, b0, b1, b2, b3⟩ := HNK3.out
    go_wp2_with fail
    go_at_call 16
    refine (HC2.out _ (HG3.out.trans (by repeat (first | with_reducible exact Gr.refl _ | with_reducible refine Gr.alloc ?_ _ | with_reducible refine Gr.drew ?_ | with_reducible refine Gr.trans ?_ (by assumption) | with_reducible refine Gr.setCell ?_ (by (try simp); (try omega)) _)))).mono ?_
    rintro e w4 ⟨A4, c4, rfl, -, hr4, hlm4, hcm4, hb4⟩
    have hg4 : Gr w3 w4 := Gr.trans (by repeat (first | with_reducible exact Gr.refl _ | with_reducible refine Gr.alloc ?_ _ | with_reducible refine Gr.drew ?_ | with_reducible refine Gr.trans ?_ (by assumption) | with_reducible refine Gr.setCell ?_ (by (try simp); (try omega)) _)) hb4
    have HG4 := Lib.hid (HG3.out.trans hg4)
    have HSM := Lib.hid (s_same CL CL.length A3 A4 c3 c4 w4 (by omega) (HR3.out.keep hg4) hr4)
    have HNK4 := Lib.hid (HNK3.out.keep hg4)
    clear hl0 b0 b1 b2 b3 hr4 hb4 hg4 HNK3 HR3 HC1 HC2
    obtain ⟨hl0, b0, b1, b2, b3⟩ := HNK4.out
    go_wp2_with fail
    (go_at_call 17; with_reducible refine (HSM.out).mono ?_; rintro e w' ⟨rfl, hb⟩; have hz := hb.le; obtain ⟨hc, hf⟩ := hb.cells; have hn := hb.cellsN; (try simp only [World.size_alloc] at hc hf hz hn); (try simp only [World.size_setCell] at hc hf hz hn); (try simp only [World.size_drew] at hc hf hz hn))
    go_wp2_with fail
    (go_at_call 18; with_reducible refine (HT1.out _ (HG4.out.trans (by repeat (first | with_reducible exact Gr.refl _ | with_reducible refine Gr.alloc ?_ _ | with_reducible refine Gr.drew ?_ | with_reducible refine Gr.trans ?_ (by assumption) | with_reducible refine Gr.setCell ?_ (by (try simp); (try omega)) _)))).mono ?_; rintro e w' ⟨rfl, hb⟩; have hz := hb.le; obtain ⟨hc, hf⟩ := hb.cells; have hn := hb.cellsN; (try simp only [World.size_alloc] at hc hf hz hn); (try simp only [World.size_setCell] at hc hf hz hn); (try simp only [World.size_drew] at hc hf hz hn))
    go_wp2_with fail
    (go_at_call 19; with_reducible refine (HT2.out _ (HG4.out.trans (by repeat (first | with_reducible exact Gr.refl _ | with_reducible refine Gr.alloc ?_ _ | with_reducible refine Gr.drew ?_ | with_reducible refine Gr.trans ?_ (by assumption) | with_reducible refine Gr.setCell ?_ (by (try simp); (try omega)) _)))).mono ?_; rintro e w' ⟨rfl, hb⟩; have hz := hb.le; obtain ⟨hc, hf⟩ := hb.cells; have hn := hb.cellsN; (try simp only [World.size_alloc] at hc hf hz hn); (try simp only [World.size_setCell] at hc hf hz hn); (try simp only [World.size_drew] at hc hf hz hn))
    have hg5 : Gr w4 w' := (by repeat (first | with_reducible exact Gr.refl _ | with_reducible refine Gr.alloc ?_ _ | with_reducible refine Gr.drew ?_ | with_reducible refine Gr.trans ?_ (by assumption) | with_reducible refine Gr.setCell ?_ (by (try simp); (try omega)) _))
    have HG5 := Lib.hid (HG4.out.trans hg5)
    have HNK5 := Lib.hid (HNK4.out.keep hg5)
    clear hl0 b0 b1 b2 b3 hb hz hc hf hn hg5 HNK4 HSM HT1 HT2
    obtain ⟨w5, rfl⟩ : ∃ w5 : World, w5 = w' := ⟨_, rfl⟩
    obtain ⟨hl0, b0, b1, b2, b3⟩ := HNK5.out
    go_wp2_with fail
    clear hl0 b0 b1 b2 b3
    go_loopw [7, 93] (fun uv iv wr => ∃ i : Nat, i ≤ m ∧ uv = .bool true ∧ iv = .int .i64 (i : Int) ∧ Gr w5 wr) (fun _ iv _ => m - (intOf iv).toNat)
    case atStart => exact ⟨0, Nat.zero_le _, by simp, rfl, Gr.refl _⟩
    case round =>
      obtain ⟨i, hi, rfl, rfl, hgr⟩ := hrel
      have HGR := Lib.hid (HG5.out.trans hgr)
      have HNKR := Lib.hid (HNK5.out.keep hgr)
      have HGR0 := Lib.hid hgr
      clear hgr
      obtain ⟨wp, rfl⟩ : ∃ wp : World, wp = wr := ⟨_, rfl⟩
      by_cases hlt : i < m
      · have hlt' : decide ((i : Int) < (m : Int)) = true := decide_eq_true (by omega)
        obtain ⟨b, off, rfl, hbl, c0, c1⟩ := (HBB.out.keep HGR.out).two hlt
        obtain ⟨y0, y1, y2, y3, y4, y5, E, hs1, hs2⟩ := HS.out i
        have HS1 := Lib.hid hs1; have HS2 := Lib.hid hs2
        have HQ := eq6P_yes y0 y1 y2 y3 y4 y5
        clear hs1 hs2
        generalize g i 0 = x0 at *
        generalize g i 1 = x1 at *
        go_upto_region 14 with fail
        have HG2 : Hid (Gr wp (wp.alloc (.cells #[.int .i64 x0, .int .i64 x1] 37))) := Lib.hid ((Gr.refl _).alloc _)
        have a0 : (wp.alloc (.cells #[.int .i64 x0, .int .i64 x1] 37)).cell? ⟨wp.heap.size, 0, none⟩ = some (.int .i64 x0) := by simp [go_sem]
        have a1 : (wp.alloc (.cells #[.int .i64 x0, .int .i64 x1] 37)).cell? ⟨wp.heap.size, 1, none⟩ = some (.int .i64 x1) := by simp [go_sem]
        have hsa : wp.heap.size < (wp.alloc (.cells #[.int .i64 x0, .int .i64 x1] 37)).heap.size := by simp
        have HNKQ := Lib.hid (HNKR.out.keep HG2.out)
        clear c0 c1 hbl HNKR
        generalize wp.alloc (.cells #[.int .i64 x0, .int .i64 x1] 37) = wq at *
        obtain ⟨hl0, b0, b1, b2, b3⟩ := HNKQ.out
        generalize wp.heap.size = TK at *
        go_wp2_with fail
        (go_at_call 20; with_reducible refine (HS1.out _ ((HGR.out.trans HG2.out).trans (by repeat (first | with_reducible exact Gr.refl _ | with_reducible refine Gr.alloc ?_ _ | with_reducible refine Gr.drew ?_ | with_reducible refine Gr.trans ?_ (by assumption) | with_reducible refine Gr.setCell ?_ (by (try simp); (try omega)) _)))).mono ?_; rintro e w' ⟨rfl, hb⟩; have hz := hb.le; obtain ⟨hc, hf⟩ := hb.cells; have hn := hb.cellsN; (try simp only [World.size_alloc] at hc hf hz hn); (try simp only [World.size_setCell] at hc hf hz hn); (try simp only [World.size_drew] at hc hf hz hn))
        go_wp2_with fail
        (go_at_call 21; with_reducible refine (HS2.out _ ((HGR.out.trans HG2.out).trans (by repeat (first | with_reducible exact Gr.refl _ | with_reducible refine Gr.alloc ?_ _ | with_reducible refine Gr.drew ?_ | with_reducible refine Gr.trans ?_ (by assumption) | with_reducible refine Gr.setCell ?_ (by (try simp); (try omega)) _)))).mono ?_; rintro e w' ⟨rfl, hb⟩; have hz := hb.le; obtain ⟨hc, hf⟩ := hb.cells; have hn := hb.cellsN; (try simp only [World.size_alloc] at hc hf hz hn); (try simp only [World.size_setCell] at hc hf hz hn); (try simp only [World.size_drew] at hc hf hz hn))
        go_wp2_with fail
        go_roundw
        case rel => exact ⟨i + 1, by omega, by simp, by go_num, (HGR0.out.trans HG2.out).trans (by repeat (first | with_reducible exact Gr.refl _ | with_reducible refine Gr.alloc ?_ _ | with_reducible refine Gr.drew ?_ | with_reducible refine Gr.trans ?_ (by assumption) | with_reducible refine Gr.setCell ?_ (by (try simp); (try omega)) _))⟩
        case measure => simp [intOf]; omega
      · obtain rfl : m = i := by omega
        have hlt' : decide ((m : Int) < (m : Int)) = false := decide_eq_false (by omega)
        go_wp2_with fail
        go_loopw [7, 123] (fun uv iv wr => ∃ i : Nat, i ≤ n ∧ uv = .bool true ∧ iv = .int .i64 (i : Int) ∧ Gr wp wr) (fun _ iv _ => n - (intOf iv).toNat)
        case atStart => exact ⟨0, Nat.zero_le _, rfl, rfl, Gr.refl _⟩
        case round =>
          obtain ⟨i, hi, rfl, rfl, hgr⟩ := hrel
          have HGR1 := Lib.hid (HGR.out.trans hgr)
          have HNKS := Lib.hid (HNKR.out.keep hgr)
          have HGR2 := Lib.hid hgr
          clear hgr
          obtain ⟨wk, rfl⟩ : ∃ wk : World, wk = wr := ⟨_, rfl⟩
          by_cases hlt : i < n
          · have hlt' : decide ((i : Int) < (n : Int)) = true := decide_eq_true (by omega)
            obtain ⟨b, off, rfl, hbl, c0, c1, c2, c3, c4, c5⟩ := (HAA.out.keep HGR1.out).six hlt
            obtain ⟨E, l, hs1, hs2⟩ := HFD.out i
            have HS1 := Lib.hid hs1; have HS2 := Lib.hid hs2
            clear hs1 hs2
            generalize f i 0 = x0 at *
            generalize f i 1 = x1 at *
            generalize f i 2 = x2 at *
            generalize f i 3 = x3 at *
            generalize f i 4 = x4 at *
            generalize f i 5 = x5 at *
            go_upto_region 21 with fail
            have v2' : ∀ W, W = wk.alloc (.cells #[.int .i64 x0, .int .i64 x1, .int .i64 x2, .int .i64 x3, .int .i64 x4, .int .i64 x5] 42) → SixV W wk.heap.size (.int .i64 x0) (.int .i64 x1) (.int .i64 x2) (.int .i64 x3) (.int .i64 x4) (.int .i64 x5) ∧ wk.heap.size < W.heap.size ∧ Gr wk W := by
              rintro W rfl
              exact ⟨⟨by simp [go_sem], by simp [go_sem], by simp [go_sem], by simp [go_sem], by simp [go_sem], by simp [go_sem]⟩, by simp, (Gr.refl _).alloc _⟩
            clear c0 c1 c2 c3 c4 c5 hbl
            generalize wk.alloc (.cells #[.int .i64 x0, .int .i64 x1, .int .i64 x2, .int .i64 x3, .int .i64 x4, .int .i64 x5] 42) = wq at *
            obtain ⟨hsv, hzq, hgq⟩ := v2' wq rfl
            have HSV := Lib.hid hsv
            have HGQ := Lib.hid hgq
            have HNKQ := Lib.hid (HNKS.out.keep hgq)
            clear v2' hgq hsv HNKS
            generalize wk.heap.size = TK at *
            obtain ⟨hl0, b0, b1, b2, b3⟩ := HNKQ.out
            obtain ⟨e0, e1, e2, e3, e4, e5⟩ := HSV.out
            go_wp2_with fail
            go_at_call 22
            refine (HS1.out _ ((HGR1.out.trans HGQ.out).trans (by repeat (first | with_reducible exact Gr.refl _ | with_reducible refine Gr.alloc ?_ _ | with_reducible refine Gr.drew ?_ | with_reducible refine Gr.trans ?_ (by assumption) | with_reducible refine Gr.setCell ?_ (by (try simp); (try omega)) _)))).mono ?_
            rintro e w6 ⟨A6, c6, rfl, -, hr6, hlm6, hcm6, hb6⟩
            have hg6 : Gr wq w6 := Gr.trans (by repeat (first | with_reducible exact Gr.refl _ | with_reducible refine Gr.alloc ?_ _ | with_reducible refine Gr.drew ?_ | with_reducible refine Gr.trans ?_ (by assumption) | with_reducible refine Gr.setCell ?_ (by (try simp); (try omega)) _)) hb6
            have HG6 := Lib.hid hg6
            have HR6 := Lib.hid hr6
            have HNK6 := Lib.hid (HNKQ.out.keep hg6)
            have HSV6 := Lib.hid (HSV.out.keep hg6 hzq)
            have hzq6 := Nat.lt_of_lt_of_le hzq hg6.le
            clear hl0 b0 b1 b2 b3 e0 e1 e2 e3 e4 e5 hr6 hb6 hg6 HNKQ HSV
            obtain ⟨hl0, b0, b1, b2, b3⟩ := HNK6.out
            obtain ⟨e0, e1, e2, e3, e4, e5⟩ := HSV6.out
            go_wp2_with fail
            go_at_call 23
            refine (HS2.out _ ((HGR1.out.trans (HGQ.out.trans HG6.out)).trans (by repeat (first | with_reducible exact Gr.refl _ | with_reducible refine Gr.alloc ?_ _ | with_reducible refine Gr.drew ?_ | with_reducible refine Gr.trans ?_ (by assumption) | with_reducible refine Gr.setCell ?_ (by (try simp); (try omega)) _)))).mono ?_
            rintro e w7 ⟨A7, c7, rfl, -, hr7, hlm7, hcm7, hb7⟩
            have hg7 : Gr w6 w7 := Gr.trans (by repeat (first | with_reducible exact Gr.refl _ | with_reducible refine Gr.alloc ?_ _ | with_reducible refine Gr.drew ?_ | with_reducible refine Gr.trans ?_ (by assumption) | with_reducible refine Gr.setCell ?_ (by (try simp); (try omega)) _)) hb7
            have HG7 := Lib.hid (HGR2.out.trans (HGQ.out.trans (HG6.out.trans hg7)))
            have HSM := Lib.hid (s_same l l.length A6 A7 c6 c7 w7 (by omega) (HR6.out.keep hg7) hr7)
            clear hl0 b0 b1 b2 b3 e0 e1 e2 e3 e4 e5 hr7 hb7 hg7 HNK6 HSV6
            go_wp2_with fail
            (go_at_call 17; with_reducible refine (HSM.out).mono ?_; rintro e w' ⟨rfl, hb⟩; have hz := hb.le; obtain ⟨hc, hf⟩ := hb.cells; have hn := hb.cellsN; (try simp only [World.size_alloc] at hc hf hz hn); (try simp only [World.size_setCell] at hc hf hz hn); (try simp only [World.size_drew] at hc hf hz hn))
            go_wp2_with fail
            go_roundw
            case rel => exact ⟨i + 1, by omega, by simp, by go_num, HG7.out.trans (by repeat (first | with_reducible exact Gr.refl _ | with_reducible refine Gr.alloc ?_ _ | with_reducible refine Gr.drew ?_ | with_reducible refine Gr.trans ?_ (by assumption) | with_reducible refine Gr.setCell ?_ (by (try simp); (try omega)) _))⟩
            case measure => simp [intOf]; omega
          · obtain rfl : n = i := by omega
            have hlt' : decide ((n : Int) < (n : Int)) = false := decide_eq_false (by omega)
            go_wp2_with fail
            go_ret
            exact ⟨rfl, HGR1.out⟩
theorem lmat_law (O Q : Option Addr) (no co nf cq : Nat) (sp tl : Int) (o q : Nat → Nat → Int) (B A : Option Addr) (m cm n c : Nat) (g f : Nat → Nat → Int) (w : World) (hP : Primes w) (hL : Logs w) (hO : RowsAt w 6 O no o) (hQ : RowsAt w 6 Q nf q) (hno : no ≤ 9223372036854775807) (hnf : nf ≤ 9223372036854775807) (hB : RowsAt w 2 B m g) (hA : RowsAt w 6 A n f) (hmc : m ≤ cm) :
    Calls Tryd.prog 3 #[.agg #[.slice O no co, .slice Q nf cq, .int .i64 sp, .int .i64 tl], .slice B m cm, .slice A n c] w fun e w' => e = .returned (.bool true) ∧ Gr w w' := by
  rcases bool_tf (fewB no nf n && decide (m ≤ 12)) with h | h
  · exact lmat_ok O Q no co nf cq sp tl o q B A m cm n c g f w hP hL hO hQ hno hnf hB hA hmc h
  · exact lmat_skip O Q no co nf cq sp tl B A m cm n c w hP hL h
end Go.Proofs.YtohalcookjbaaaaDoor
