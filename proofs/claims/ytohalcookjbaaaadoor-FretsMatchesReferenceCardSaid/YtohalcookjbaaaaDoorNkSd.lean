/-
  frets.exists and frets.Sound.
-/
import Derived.Test.YtohalcookjbaaaaDoorNkV
import Derived.Test.YtohalcookjbaaaaDoorSix
import Derived.Test.YtohalcookjbaaaaDoorHeld
import Derived.Deep.DeepCutAuto
import Derived.Laws.StructEq
import Derived.KernelRfl
namespace Go.Proofs.YtohalcookjbaaaaDoor
open Go.RowKit

theorem eqFret (a b c d : Int) (w : World) : (Op.equalIn 10000 37 (.agg #[.int .i64 a, .int .i64 b]) (.agg #[.int .i64 c, .int .i64 d])).run Tryd.prog w = .ok (a == c && b == d) w := by
  have u3 := Tryd.underlying3
  have a3' := Tryd.isAgg3
  have z3 := Tryd.sizeOf3
  rw [show (10000 : Nat) = 9999 + 1 from rfl, Op.equalIn]
  simp only [Sem.run_bind, run_underlying Tryd.underlying37, Result.andThen_ok]
  try simp only [Std.Legacy.Range.forIn_eq_forIn_range', Std.Legacy.Range.size, Nat.sub_zero, Nat.add_sub_cancel, Nat.div_one, List.range'_succ, List.range'_zero, List.forIn_cons, List.forIn_nil]
  by_cases k0 : a = c
  · go_simp
    by_cases k1 : b = d <;> simp [k1]
  · go_simp
/-- Whether a neck has a fret. -/
def exB (no nf : Nat) (s k : Int) : Bool := decide (0 ≤ s ∧ s < (no : Int) ∧ 0 ≤ k ∧ k ≤ (nf : Int))
theorem exB_no {no nf : Nat} {s k : Int} (h : ¬ (0 ≤ s ∧ s < (no : Int) ∧ 0 ≤ k ∧ k ≤ (nf : Int))) : exB no nf s k = false := decide_eq_false h
theorem exB_yes {no nf : Nat} {s k : Int} (h : 0 ≤ s ∧ s < (no : Int) ∧ 0 ≤ k ∧ k ≤ (nf : Int)) : exB no nf s k = true := decide_eq_true h
set_option maxRecDepth 100000 in
set_option maxHeartbeats 16000000 in
theorem exists_any (O Q : Option Addr) (no co nf cq : Nat) (sp tl s k : Int) (w : World) :
    Calls Tryd.prog 42 #[.agg #[.slice O no co, .slice Q nf cq, .int .i64 sp, .int .i64 tl], .agg #[.int .i64 s, .int .i64 k]] w fun e w' => e = .returned (.bool (exB no nf s k)) ∧ Gr w w' := by
  rcases (by omega : s < 0 ∨ (0 ≤ s ∧ (no : Int) ≤ s) ∨ (0 ≤ s ∧ s < (no : Int) ∧ k < 0) ∨ (0 ≤ s ∧ s < (no : Int) ∧ 0 ≤ k ∧ (nf : Int) < k) ∨ (0 ≤ s ∧ s < (no : Int) ∧ 0 ≤ k ∧ k ≤ (nf : Int))) with q1 | ⟨q1, q2⟩ | ⟨q1, q2, q3⟩ | ⟨q1, q2, q3, q4⟩ | ⟨q1, q2, q3, q4⟩
  · rw [exB_no (by omega)]
    have d1 : decide (0 ≤ s) = false := decide_eq_false (by omega)
    go_enter Tryd.func42, Tryd.ntmps42
    go_wp2_with fail
    go_ret
    exact ⟨rfl, (by repeat (first | with_reducible exact Gr.refl _ | with_reducible refine Gr.alloc ?_ _ | with_reducible refine Gr.drew ?_ | with_reducible refine Gr.trans ?_ (by assumption) | with_reducible refine Gr.setCell ?_ (by (try simp); (try omega)) _))⟩
  · rw [exB_no (by omega)]
    have d1 : decide (0 ≤ s) = true := decide_eq_true q1
    have d2 : decide (s < (no : Int)) = false := decide_eq_false (by omega)
    go_enter Tryd.func42, Tryd.ntmps42
    go_wp2_with fail
    go_ret
    exact ⟨rfl, (by repeat (first | with_reducible exact Gr.refl _ | with_reducible refine Gr.alloc ?_ _ | with_reducible refine Gr.drew ?_ | with_reducible refine Gr.trans ?_ (by assumption) | with_reducible refine Gr.setCell ?_ (by (try simp); (try omega)) _))⟩
  · rw [exB_no (by omega)]
    have d1 : decide (0 ≤ s) = true := decide_eq_true q1
    have d2 : decide (s < (no : Int)) = true := decide_eq_true q2
    have d3 : decide (0 ≤ k) = false := decide_eq_false (by omega)
    go_enter Tryd.func42, Tryd.ntmps42
    go_wp2_with fail
    go_ret
    exact ⟨rfl, (by repeat (first | with_reducible exact Gr.refl _ | with_reducible refine Gr.alloc ?_ _ | with_reducible refine Gr.drew ?_ | with_reducible refine Gr.trans ?_ (by assumption) | with_reducible refine Gr.setCell ?_ (by (try simp); (try omega)) _))⟩
  · rw [exB_no (by omega)]
    have d1 : decide (0 ≤ s) = true := decide_eq_true q1
    have d2 : decide (s < (no : Int)) = true := decide_eq_true q2
    have d3 : decide (0 ≤ k) = true := decide_eq_true q3
    have d4 : decide (k ≤ (nf : Int)) = false := decide_eq_false (by omega)
    go_enter Tryd.func42, Tryd.ntmps42
    go_wp2_with fail
    go_ret
    exact ⟨rfl, (by repeat (first | with_reducible exact Gr.refl _ | with_reducible refine Gr.alloc ?_ _ | with_reducible refine Gr.drew ?_ | with_reducible refine Gr.trans ?_ (by assumption) | with_reducible refine Gr.setCell ?_ (by (try simp); (try omega)) _))⟩
  · rw [exB_yes ⟨q1, q2, q3, q4⟩]
    have d1 : decide (0 ≤ s) = true := decide_eq_true q1
    have d2 : decide (s < (no : Int)) = true := decide_eq_true q2
    have d3 : decide (0 ≤ k) = true := decide_eq_true q3
    have d4 : decide (k ≤ (nf : Int)) = true := decide_eq_true q4
    go_enter Tryd.func42, Tryd.ntmps42
    go_wp2_with fail
    go_ret
    exact ⟨rfl, (by repeat (first | with_reducible exact Gr.refl _ | with_reducible refine Gr.alloc ?_ _ | with_reducible refine Gr.drew ?_ | with_reducible refine Gr.trans ?_ (by assumption) | with_reducible refine Gr.setCell ?_ (by (try simp); (try omega)) _))⟩

set_option maxRecDepth 100000 in
set_option maxHeartbeats 16000000 in
theorem fsound_bad (O Q : Option Addr) (no co nf cq : Nat) (sp tl : Int) (o q : Nat → Nat → Int) (s k : Int) (w : World) (hP : Primes w) (hO : RowsAt w 6 O no o) (hQ : RowsAt w 6 Q nf q) (hno : no ≤ 9223372036854775807) (hnf : nf ≤ 9223372036854775807) (hbad : (neckB no o nf q sp tl && exB no nf s k) = false) :
    Calls Tryd.prog 20 #[.agg #[.slice O no co, .slice Q nf cq, .int .i64 sp, .int .i64 tl], .agg #[.int .i64 s, .int .i64 k]] w fun e w' => e = .returned (.tuple #[.agg #[.int .i64 0, .int .i64 0, .int .i64 0, .int .i64 0, .int .i64 0, .int .i64 0], .int .i64 1]) ∧ Gr w w' := by
  have hV := fun W (g : Gr w W) => neckValid_any O Q no co nf cq sp tl o q W (hP.keep g) (hO.keep g) (hQ.keep g) hno hnf
  have hE := fun W => exists_any O Q no co nf cq sp tl s k W
  rcases bool_tf (neckB no o nf q sp tl) with hn | hn
  · rw [hn, Bool.true_and] at hbad
    rw [hn] at hV
    rw [hbad] at hE
    have HV := Lib.hid hV; have HE := Lib.hid hE
    clear hV hE hbad hn hP hO hQ
    go_enter Tryd.func20, Tryd.ntmps20
    go_wp2_with fail
    (go_at_call 13; with_reducible refine (HV.out _ (by repeat (first | with_reducible exact Gr.refl _ | with_reducible refine Gr.alloc ?_ _ | with_reducible refine Gr.drew ?_ | with_reducible refine Gr.trans ?_ (by assumption) | with_reducible refine Gr.setCell ?_ (by (try simp); (try omega)) _))).mono ?_; rintro e w' ⟨rfl, hb⟩; have hz := hb.le; obtain ⟨hc, hf⟩ := hb.cells; have hn := hb.cellsN; (try simp only [World.size_alloc] at hc hf hz hn); (try simp only [World.size_setCell] at hc hf hz hn); (try simp only [World.size_drew] at hc hf hz hn))
    go_wp2_with fail
    (go_at_call 42; with_reducible refine (HE.out _).mono ?_; rintro e w' ⟨rfl, hb⟩; have hz := hb.le; obtain ⟨hc, hf⟩ := hb.cells; have hn := hb.cellsN; (try simp only [World.size_alloc] at hc hf hz hn); (try simp only [World.size_setCell] at hc hf hz hn); (try simp only [World.size_drew] at hc hf hz hn))
    go_wp2_with fail
    refine bodyPost_six (by intro j hj; rcases (show j = 0 ∨ j = 1 ∨ j = 2 ∨ j = 3 ∨ j = 4 ∨ j = 5 by omega) with rfl | rfl | rfl | rfl | rfl | rfl <;> simp [go_sem, *]) ?_
    intro W' hW' s0 s1 s2 s3 s4 s5
    exact bodyPost_ret (v := .tuple #[.agg #[.int .i64 0, .int .i64 0, .int .i64 0, .int .i64 0, .int .i64 0, .int .i64 0], .int .i64 1]) (by simp [results, Tryd.results20, go_sem, s0, s1, s2, s3, s4, s5]) rfl ⟨rfl, hW' _ (by repeat (first | with_reducible exact Gr.refl _ | with_reducible refine Gr.alloc ?_ _ | with_reducible refine Gr.drew ?_ | with_reducible refine Gr.trans ?_ (by assumption) | with_reducible refine Gr.setCell ?_ (by (try simp); (try omega)) _)) (by (try simp); (try omega))⟩
  · rw [hn] at hV
    have HV := Lib.hid hV
    clear hV hE hbad hn hP hO hQ
    go_enter Tryd.func20, Tryd.ntmps20
    go_wp2_with fail
    (go_at_call 13; with_reducible refine (HV.out _ (by repeat (first | with_reducible exact Gr.refl _ | with_reducible refine Gr.alloc ?_ _ | with_reducible refine Gr.drew ?_ | with_reducible refine Gr.trans ?_ (by assumption) | with_reducible refine Gr.setCell ?_ (by (try simp); (try omega)) _))).mono ?_; rintro e w' ⟨rfl, hb⟩; have hz := hb.le; obtain ⟨hc, hf⟩ := hb.cells; have hn := hb.cellsN; (try simp only [World.size_alloc] at hc hf hz hn); (try simp only [World.size_setCell] at hc hf hz hn); (try simp only [World.size_drew] at hc hf hz hn))
    go_wp2_with fail
    refine bodyPost_six (by intro j hj; rcases (show j = 0 ∨ j = 1 ∨ j = 2 ∨ j = 3 ∨ j = 4 ∨ j = 5 by omega) with rfl | rfl | rfl | rfl | rfl | rfl <;> simp [go_sem, *]) ?_
    intro W' hW' s0 s1 s2 s3 s4 s5
    exact bodyPost_ret (v := .tuple #[.agg #[.int .i64 0, .int .i64 0, .int .i64 0, .int .i64 0, .int .i64 0, .int .i64 0], .int .i64 1]) (by simp [results, Tryd.results20, go_sem, s0, s1, s2, s3, s4, s5]) rfl ⟨rfl, hW' _ (by repeat (first | with_reducible exact Gr.refl _ | with_reducible refine Gr.alloc ?_ _ | with_reducible refine Gr.drew ?_ | with_reducible refine Gr.trans ?_ (by assumption) | with_reducible refine Gr.setCell ?_ (by (try simp); (try omega)) _)) (by (try simp); (try omega))⟩

set_option maxRecDepth 100000 in
set_option maxHeartbeats 16000000 in
theorem fsound_open (O Q : Option Addr) (no co nf cq : Nat) (sp tl : Int) (o q : Nat → Nat → Int) (s : Nat) (w : World) (hP : Primes w) (hO : RowsAt w 6 O no o) (hQ : RowsAt w 6 Q nf q) (hno : no ≤ 9223372036854775807) (hnf : nf ≤ 9223372036854775807) (hok : neckB no o nf q sp tl = true) (hs : s < no) :
    Calls Tryd.prog 20 #[.agg #[.slice O no co, .slice Q nf cq, .int .i64 sp, .int .i64 tl], .agg #[.int .i64 (s : Int), .int .i64 0]] w fun e w' => e = .returned (.tuple #[.agg #[.int .i64 (o s 0), .int .i64 (o s 1), .int .i64 (o s 2), .int .i64 (o s 3), .int .i64 (o s 4), .int .i64 (o s 5)], .int .i64 0]) ∧ Gr w w' := by
  have hV := fun W (g : Gr w W) => neckValid_any O Q no co nf cq sp tl o q W (hP.keep g) (hO.keep g) (hQ.keep g) hno hnf
  have hE := fun W => exists_any O Q no co nf cq sp tl s 0 W
  rw [hok] at hV
  rw [exB_yes ⟨by omega, by omega, by omega, by omega⟩] at hE
  have HV := Lib.hid hV; have HE := Lib.hid hE
  have HO := Lib.hid hO
  have hs0 : (0 : Int) ≤ (s : Int) := by omega
  have hs1 : (s : Int) < (no : Int) := by omega
  clear hV hE hok hP hO hQ
  go_enter Tryd.func20, Tryd.ntmps20
  go_upto_region 1 with fail
  have HB : Hid (NeckAt ((w.alloc (.cells #[.slice O no co, .slice Q nf cq, .int .i64 sp, .int .i64 tl] 24)).alloc (.cells #[.int .i64 (s : Int), .int .i64 0] 37)) w.heap.size O Q no co nf cq sp tl) := Lib.hid ((neckAt_new w O Q no co nf cq sp tl 24).keep ((Gr.refl _).alloc _))
  have hf0 : ((w.alloc (.cells #[.slice O no co, .slice Q nf cq, .int .i64 sp, .int .i64 tl] 24)).alloc (.cells #[.int .i64 (s : Int), .int .i64 0] 37)).cell? ⟨w.heap.size + 1, 0, none⟩ = some (.int .i64 (s : Int)) := by simp [go_sem]
  have hf1 : ((w.alloc (.cells #[.slice O no co, .slice Q nf cq, .int .i64 sp, .int .i64 tl] 24)).alloc (.cells #[.int .i64 (s : Int), .int .i64 0] 37)).cell? ⟨w.heap.size + 1, 1, none⟩ = some (.int .i64 0) := by simp [go_sem]
  have hgX : Gr w ((w.alloc (.cells #[.slice O no co, .slice Q nf cq, .int .i64 sp, .int .i64 tl] 24)).alloc (.cells #[.int .i64 (s : Int), .int .i64 0] 37)) := ((Gr.refl _).alloc _).alloc _
  have hsz : ((w.alloc (.cells #[.slice O no co, .slice Q nf cq, .int .i64 sp, .int .i64 tl] 24)).alloc (.cells #[.int .i64 (s : Int), .int .i64 0] 37)).heap.size = w.heap.size + 1 + 1 := by simp
  generalize hX0 : ((w.alloc (.cells #[.slice O no co, .slice Q nf cq, .int .i64 sp, .int .i64 tl] 24)).alloc (.cells #[.int .i64 (s : Int), .int .i64 0] 37)) = X0 at *
  clear hX0
  obtain ⟨hl0, b0, b1, b2, b3⟩ := HB.out
  go_wp2_with fail
  (go_at_call 13; with_reducible refine (HV.out _ (hgX.trans (by repeat (first | with_reducible exact Gr.refl _ | with_reducible refine Gr.alloc ?_ _ | with_reducible refine Gr.drew ?_ | with_reducible refine Gr.trans ?_ (by assumption) | with_reducible refine Gr.setCell ?_ (by (try simp); (try omega)) _)))).mono ?_; rintro e w' ⟨rfl, hb⟩; have hz := hb.le; obtain ⟨hc, hf⟩ := hb.cells; have hn := hb.cellsN; (try simp only [World.size_alloc] at hc hf hz hn); (try simp only [World.size_setCell] at hc hf hz hn); (try simp only [World.size_drew] at hc hf hz hn))
  go_wp2_with fail
  (go_at_call 42; with_reducible refine (HE.out _).mono ?_; rintro e w' ⟨rfl, hb⟩; have hz := hb.le; obtain ⟨hc, hf⟩ := hb.cells; have hn := hb.cellsN; (try simp only [World.size_alloc] at hc hf hz hn); (try simp only [World.size_setCell] at hc hf hz hn); (try simp only [World.size_drew] at hc hf hz hn))
  have hGX : Gr X0 w' := (by repeat (first | with_reducible exact Gr.refl _ | with_reducible refine Gr.alloc ?_ _ | with_reducible refine Gr.drew ?_ | with_reducible refine Gr.trans ?_ (by assumption) | with_reducible refine Gr.setCell ?_ (by (try simp); (try omega)) _))
  have hz4 : ∀ o, o < 6 → w'.cell? ⟨w.heap.size + 1 + 1, o, none⟩ = some (.int .i64 0) := by
    intro o' ho
    rcases (show o' = 0 ∨ o' = 1 ∨ o' = 2 ∨ o' = 3 ∨ o' = 4 ∨ o' = 5 by omega) with rfl | rfl | rfl | rfl | rfl | rfl <;> simp [go_sem, *]
  have hzf : ∀ o, w'.frozen? ⟨w.heap.size + 1 + 1, o, none⟩ = false := by intro o'; simp [go_sem, *]
  have hzn : cellsN w' (w.heap.size + 1 + 1) = 6 := by (try simp [go_sem, *]); rw [← hsz]; exact cellsN_alloc_new _ _ _ _
  have hzl : w.heap.size + 1 + 1 < w'.heap.size := by omega
  have hr1 := (HO.out.keep hgX).six hs
  obtain ⟨b, off, hbo, hbl, c0, c1, c2, c3, c4, c5⟩ := hr1
  subst hbo
  clear hb hz hc hf hn
  obtain ⟨wo, rfl⟩ : ∃ wo : World, wo = w' := ⟨_, rfl⟩
  have HRO := (HO.out.keep (hgX.trans hGX)).six hs
  obtain ⟨b', off', hbo, hbl', c0', c1', c2', c3', c4', c5'⟩ := HRO
  cases hbo
  have hbn := HB.out.keep hGX
  obtain ⟨hl2, b0', b1', b2', b3'⟩ := hbn
  have hf0' := (Below.cell (p := ⟨w.heap.size + 1, 0, none⟩) hGX (show w.heap.size + 1 < X0.heap.size by omega)).trans hf0
  have hf1' := (Below.cell (p := ⟨w.heap.size + 1, 1, none⟩) hGX (show w.heap.size + 1 < X0.heap.size by omega)).trans hf1
  have z0 := hz4 0 (by omega); have z1 := hz4 1 (by omega); have z2 := hz4 2 (by omega); have z3 := hz4 3 (by omega); have z4 := hz4 4 (by omega); have z5 := hz4 5 (by omega)
  have hEQ := eqFret (s : Int) 0 (s : Int) 0 wo
  rw [show (((s : Int) == (s : Int)) && ((0 : Int) == 0)) = true by simp] at hEQ
  clear hf0 hf1 hl0 b0 b1 b2 b3 c0 c1 c2 c3 c4 c5 hz4
  go_wp2_with fail
  refine bodyPost_six (by intro j hj; rcases (show j = 0 ∨ j = 1 ∨ j = 2 ∨ j = 3 ∨ j = 4 ∨ j = 5 by omega) with rfl | rfl | rfl | rfl | rfl | rfl <;> simp [go_sem, *]) ?_
  intro W' hW' s0 s1 s2 s3 s4 s5
  exact bodyPost_ret (v := .tuple #[.agg #[.int .i64 (o s 0), .int .i64 (o s 1), .int .i64 (o s 2), .int .i64 (o s 3), .int .i64 (o s 4), .int .i64 (o s 5)], .int .i64 0]) (by simp [results, Tryd.results20, go_sem, s0, s1, s2, s3, s4, s5]) rfl ⟨rfl, hW' _ (by repeat (first | with_reducible exact Gr.refl _ | with_reducible refine Gr.alloc ?_ _ | with_reducible refine Gr.drew ?_ | with_reducible refine Gr.trans ?_ (by assumption) | with_reducible refine Gr.setCell ?_ (by (try simp); (try omega)) _)) (by (try simp); (try omega))⟩

end Go.Proofs.YtohalcookjbaaaaDoor
