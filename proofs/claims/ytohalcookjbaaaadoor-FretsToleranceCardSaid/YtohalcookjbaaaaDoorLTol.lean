/-
  The law FretsTolerance.
-/
import Derived.Test.YtohalcookjbaaaaDoorNkPl
import Derived.Test.YtohalcookjbaaaaDoorNkRV
import Derived.Test.YtohalcookjbaaaaDoorRN
import Derived.IntWalk
namespace Go.Proofs.YtohalcookjbaaaaDoor
open Go.RowKit

theorem nearB_mono {u v : V6} {a b : Int} (h : nearB u v a = true) (hab : a ≤ b) : nearB u v b = true := by
  unfold nearB at h ⊢
  rw [decide_eq_true_eq] at h ⊢
  obtain ⟨h1, h2⟩ := surely_one h
  exact surely_mk ⟨by omega, by omega⟩
theorem onS_mono {P R : Nat → Nat → Bool} (h : ∀ s k, P s k = true → R s k = true) (s : Nat) : ∀ m, (onS P s m).length ≤ (onS R s m).length
  | 0 => Nat.le_refl _
  | m + 1 => by
    have ih := onS_mono h s m
    simp only [onS, List.length_append]
    cases hp : P s m with
    | false => simp; omega
    | true => simp [h s m hp]; omega
theorem onAll_mono {P R : Nat → Nat → Bool} (h : ∀ s k, P s k = true → R s k = true) (m : Nat) : ∀ n, (onAll P m n).length ≤ (onAll R m n).length
  | 0 => Nat.le_refl _
  | n + 1 => by
    have ih := onAll_mono h m n
    have i2 := onS_mono h n m
    simp only [onAll, List.length_append]
    omega
theorem findF_mono (no : Nat) (o : Nat → Nat → Int) (nf : Nat) (q : Nat → Nat → Int) {a b : Int} (hab : a ≤ b) (v : V6) : (findF no o nf q a v).length ≤ (findF no o nf q b v).length ∧ ∀ x ∈ findF no o nf q a v, x ∈ findF no o nf q b v := by
  refine ⟨onAll_mono (fun s k h => nearB_mono h hab) _ _, fun x hx => ?_⟩
  obtain ⟨h1, h2, h3⟩ := mem_onAll.1 hx
  exact mem_onAll.2 ⟨h1, h2, nearB_mono h3 hab⟩
theorem hasR_mem {l : List (Nat × Nat)} {x : Nat × Nat} (h : x ∈ l) : hasR (frF l) (x.1 : Int) (x.2 : Int) l.length = true := by
  obtain ⟨i, hi⟩ := List.getElem?_of_mem h
  exact (hasR_iff _ _ _ _).2 ⟨i, (List.getElem?_eq_some_iff.1 hi).1, by simp [frF, List.getD, hi], by simp [frF, List.getD, hi]⟩

set_option maxRecDepth 100000 in
set_option maxHeartbeats 16000000 in
theorem ltol_skip (v0 v1 v2 v3 v4 v5 more : Int) (O Q : Option Addr) (no co nf cq : Nat) (sp tl : Int) (o q : Nat → Nat → Int) (w : World) (hP : Primes w) (hL : Logs w) (hO : RowsAt w 6 O no o) (hQ : RowsAt w 6 Q nf q) (hno : no ≤ 9223372036854775807) (hnf : nf ≤ 9223372036854775807) (hbad : (fewB no nf 0 && (neckB no o nf q sp tl && allIn ⟨v0, v1, v2, v3, v4, v5⟩ 48 6)) = false) :
    Calls Tryd.prog 8 #[.agg #[.slice O no co, .slice Q nf cq, .int .i64 sp, .int .i64 tl], .agg #[.int .i64 v0, .int .i64 v1, .int .i64 v2, .int .i64 v3, .int .i64 v4, .int .i64 v5], .int .u16 more] w fun e w' => e = .returned (.bool true) ∧ Gr w w' := by
  have HP := Lib.hid hP; have HL := Lib.hid hL
  have hF := fun W => few_any O Q none no co nf cq 0 0 sp tl W
  have hV := fun W (g : Gr w W) => rneck_any O Q no co nf cq sp tl o q W (hO.keep g) (hQ.keep g) hno hnf
  have hI := fun W => r3interval_any v0 v1 v2 v3 v4 v5 W
  clear hP hL hO hQ
  rcases bool_tf (fewB no nf 0) with h1 | h1
  · rw [h1] at hF
    rcases bool_tf (neckB no o nf q sp tl) with h2 | h2
    · rw [h2] at hV
      rcases bool_tf (allIn ⟨v0, v1, v2, v3, v4, v5⟩ 48 6) with h3 | h3
      · rw [h1, h2, h3] at hbad; cases hbad
      · rw [h3] at hI
        have HF := Lib.hid hF; have HV := Lib.hid hV; have HI := Lib.hid hI
        clear hF hV hI hbad h1 h2 h3
        go_enter Tryd.func8, Tryd.ntmps8
        go_wp2_with fail
        (go_at_call 11; with_reducible refine (fhead_any _ (HP.out.keep (by repeat (first | with_reducible exact Gr.refl _ | with_reducible refine Gr.alloc ?_ _ | with_reducible refine Gr.drew ?_ | with_reducible refine Gr.trans ?_ (by assumption) | with_reducible refine Gr.setCell ?_ (by (try simp); (try omega)) _))) (HL.out.keep (by repeat (first | with_reducible exact Gr.refl _ | with_reducible refine Gr.alloc ?_ _ | with_reducible refine Gr.drew ?_ | with_reducible refine Gr.trans ?_ (by assumption) | with_reducible refine Gr.setCell ?_ (by (try simp); (try omega)) _)))).mono ?_; rintro e w' ⟨rfl, hb⟩; have hz := hb.le; obtain ⟨hc, hf⟩ := hb.cells; have hn := hb.cellsN; (try simp only [World.size_alloc] at hc hf hz hn); (try simp only [World.size_setCell] at hc hf hz hn); (try simp only [World.size_drew] at hc hf hz hn))
        go_wp2_with fail
        (go_at_call 12; with_reducible refine (HF.out _).mono ?_; rintro e w' ⟨rfl, hb⟩; have hz := hb.le; obtain ⟨hc, hf⟩ := hb.cells; have hn := hb.cellsN; (try simp only [World.size_alloc] at hc hf hz hn); (try simp only [World.size_setCell] at hc hf hz hn); (try simp only [World.size_drew] at hc hf hz hn))
        go_wp2_with fail
        (go_at_call 14; with_reducible refine (HV.out _ (by repeat (first | with_reducible exact Gr.refl _ | with_reducible refine Gr.alloc ?_ _ | with_reducible refine Gr.drew ?_ | with_reducible refine Gr.trans ?_ (by assumption) | with_reducible refine Gr.setCell ?_ (by (try simp); (try omega)) _))).mono ?_; rintro e w' ⟨rfl, hb⟩; have hz := hb.le; obtain ⟨hc, hf⟩ := hb.cells; have hn := hb.cellsN; (try simp only [World.size_alloc] at hc hf hz hn); (try simp only [World.size_setCell] at hc hf hz hn); (try simp only [World.size_drew] at hc hf hz hn))
        go_wp2_with fail
        (go_at_call 24; with_reducible refine (HI.out _).mono ?_; rintro e w' ⟨rfl, hb⟩; have hz := hb.le; obtain ⟨hc, hf⟩ := hb.cells; have hn := hb.cellsN; (try simp only [World.size_alloc] at hc hf hz hn); (try simp only [World.size_setCell] at hc hf hz hn); (try simp only [World.size_drew] at hc hf hz hn))
        go_wp2_with fail
        go_ret
        exact ⟨rfl, (by repeat (first | with_reducible exact Gr.refl _ | with_reducible refine Gr.alloc ?_ _ | with_reducible refine Gr.drew ?_ | with_reducible refine Gr.trans ?_ (by assumption) | with_reducible refine Gr.setCell ?_ (by (try simp); (try omega)) _))⟩
    · rw [h2] at hV
      have HF := Lib.hid hF; have HV := Lib.hid hV
      clear hF hV hI hbad h1 h2
      go_enter Tryd.func8, Tryd.ntmps8
      go_wp2_with fail
      (go_at_call 11; with_reducible refine (fhead_any _ (HP.out.keep (by repeat (first | with_reducible exact Gr.refl _ | with_reducible refine Gr.alloc ?_ _ | with_reducible refine Gr.drew ?_ | with_reducible refine Gr.trans ?_ (by assumption) | with_reducible refine Gr.setCell ?_ (by (try simp); (try omega)) _))) (HL.out.keep (by repeat (first | with_reducible exact Gr.refl _ | with_reducible refine Gr.alloc ?_ _ | with_reducible refine Gr.drew ?_ | with_reducible refine Gr.trans ?_ (by assumption) | with_reducible refine Gr.setCell ?_ (by (try simp); (try omega)) _)))).mono ?_; rintro e w' ⟨rfl, hb⟩; have hz := hb.le; obtain ⟨hc, hf⟩ := hb.cells; have hn := hb.cellsN; (try simp only [World.size_alloc] at hc hf hz hn); (try simp only [World.size_setCell] at hc hf hz hn); (try simp only [World.size_drew] at hc hf hz hn))
      go_wp2_with fail
      (go_at_call 12; with_reducible refine (HF.out _).mono ?_; rintro e w' ⟨rfl, hb⟩; have hz := hb.le; obtain ⟨hc, hf⟩ := hb.cells; have hn := hb.cellsN; (try simp only [World.size_alloc] at hc hf hz hn); (try simp only [World.size_setCell] at hc hf hz hn); (try simp only [World.size_drew] at hc hf hz hn))
      go_wp2_with fail
      (go_at_call 14; with_reducible refine (HV.out _ (by repeat (first | with_reducible exact Gr.refl _ | with_reducible refine Gr.alloc ?_ _ | with_reducible refine Gr.drew ?_ | with_reducible refine Gr.trans ?_ (by assumption) | with_reducible refine Gr.setCell ?_ (by (try simp); (try omega)) _))).mono ?_; rintro e w' ⟨rfl, hb⟩; have hz := hb.le; obtain ⟨hc, hf⟩ := hb.cells; have hn := hb.cellsN; (try simp only [World.size_alloc] at hc hf hz hn); (try simp only [World.size_setCell] at hc hf hz hn); (try simp only [World.size_drew] at hc hf hz hn))
      go_wp2_with fail
      go_ret
      exact ⟨rfl, (by repeat (first | with_reducible exact Gr.refl _ | with_reducible refine Gr.alloc ?_ _ | with_reducible refine Gr.drew ?_ | with_reducible refine Gr.trans ?_ (by assumption) | with_reducible refine Gr.setCell ?_ (by (try simp); (try omega)) _))⟩
  · rw [h1] at hF
    have HF := Lib.hid hF
    clear hF hV hI hbad h1
    go_enter Tryd.func8, Tryd.ntmps8
    go_wp2_with fail
    (go_at_call 11; with_reducible refine (fhead_any _ (HP.out.keep (by repeat (first | with_reducible exact Gr.refl _ | with_reducible refine Gr.alloc ?_ _ | with_reducible refine Gr.drew ?_ | with_reducible refine Gr.trans ?_ (by assumption) | with_reducible refine Gr.setCell ?_ (by (try simp); (try omega)) _))) (HL.out.keep (by repeat (first | with_reducible exact Gr.refl _ | with_reducible refine Gr.alloc ?_ _ | with_reducible refine Gr.drew ?_ | with_reducible refine Gr.trans ?_ (by assumption) | with_reducible refine Gr.setCell ?_ (by (try simp); (try omega)) _)))).mono ?_; rintro e w' ⟨rfl, hb⟩; have hz := hb.le; obtain ⟨hc, hf⟩ := hb.cells; have hn := hb.cellsN; (try simp only [World.size_alloc] at hc hf hz hn); (try simp only [World.size_setCell] at hc hf hz hn); (try simp only [World.size_drew] at hc hf hz hn))
    go_wp2_with fail
    (go_at_call 12; with_reducible refine (HF.out _).mono ?_; rintro e w' ⟨rfl, hb⟩; have hz := hb.le; obtain ⟨hc, hf⟩ := hb.cells; have hn := hb.cellsN; (try simp only [World.size_alloc] at hc hf hz hn); (try simp only [World.size_setCell] at hc hf hz hn); (try simp only [World.size_drew] at hc hf hz hn))
    go_wp2_with fail
    go_ret
    exact ⟨rfl, (by repeat (first | with_reducible exact Gr.refl _ | with_reducible refine Gr.alloc ?_ _ | with_reducible refine Gr.drew ?_ | with_reducible refine Gr.trans ?_ (by assumption) | with_reducible refine Gr.setCell ?_ (by (try simp); (try omega)) _))⟩

set_option maxRecDepth 100000 in
set_option maxHeartbeats 16000000 in
theorem ltol_ok (v0 v1 v2 v3 v4 v5 more : Int) (O Q : Option Addr) (no co nf cq : Nat) (sp tl : Int) (o q : Nat → Nat → Int) (w : World) (hP : Primes w) (hL : Logs w) (hO : RowsAt w 6 O no o) (hQ : RowsAt w 6 Q nf q) (hno : no ≤ 9223372036854775807) (hnf : nf ≤ 9223372036854775807) (hm0 : 0 ≤ more) (hm1 : more ≤ 65535) (hgood : (fewB no nf 0 && (neckB no o nf q sp tl && allIn ⟨v0, v1, v2, v3, v4, v5⟩ 48 6)) = true) :
    Calls Tryd.prog 8 #[.agg #[.slice O no co, .slice Q nf cq, .int .i64 sp, .int .i64 tl], .agg #[.int .i64 v0, .int .i64 v1, .int .i64 v2, .int .i64 v3, .int .i64 v4, .int .i64 v5], .int .u16 more] w fun e w' => e = .returned (.bool true) ∧ Gr w w' := by
  simp only [Bool.and_eq_true] at hgood
  obtain ⟨hfew, hok, hv⟩ := hgood
  have HP := Lib.hid hP; have HL := Lib.hid hL
  have hF := fun W => few_any O Q none no co nf cq 0 0 sp tl W
  have hV := fun W (g : Gr w W) => rneck_any O Q no co nf cq sp tl o q W (hO.keep g) (hQ.keep g) hno hnf
  have hI := fun W => r3interval_any v0 v1 v2 v3 v4 v5 W
  rw [hfew] at hF
  rw [hok] at hV
  rw [hv] at hI
  obtain ⟨⟨q1, q2, q3, q4, q5, q6, q7⟩, hri, hop⟩ := neckB_parts hok
  have hok2 : neckB no o nf q sp (min (tl + more) 50000) = true := by
    rw [neckB_in ⟨q1, q2, q3, q4, q5, by omega, by omega⟩, hri, hop]; rfl
  have hf1 := fun W (g : Gr w W) => (ffind_ok O Q no co nf cq sp tl o q v0 v1 v2 v3 v4 v5 W (hP.keep g) (hL.keep g) (hO.keep g) (hQ.keep g) hno hnf hok hv)
  have hf2 := fun W (g : Gr w W) => (ffind_ok O Q no co nf cq sp (min (tl + more) 50000) o q v0 v1 v2 v3 v4 v5 W (hP.keep g) (hL.keep g) (hO.keep g) (hQ.keep g) hno hnf hok2 hv)
  obtain ⟨hm2, hm3⟩ := findF_mono no o nf q (a := tl) (b := (min (tl + more) 50000)) (by omega) ⟨v0, v1, v2, v3, v4, v5⟩
  have hl1 : (findF no o nf q tl ⟨v0, v1, v2, v3, v4, v5⟩).length ≤ 296 := by
    have z1 := onAll_len (playsF o q tl ⟨v0, v1, v2, v3, v4, v5⟩) (nf + 1) no
    have z3 : no * (nf + 1) ≤ 8 * 37 := Nat.mul_le_mul (by omega) (by omega)
    show (onAll (playsF o q tl ⟨v0, v1, v2, v3, v4, v5⟩) (nf + 1) no).length ≤ 296
    omega
  generalize findF no o nf q tl ⟨v0, v1, v2, v3, v4, v5⟩ = L1 at *
  generalize findF no o nf q (min (tl + more) 50000) ⟨v0, v1, v2, v3, v4, v5⟩ = L2 at *
  have HH := Lib.hid (fun (A2 : Option Addr) (c2 : Nat) W (h2 : RowsAt W 2 A2 L2.length (frF L2)) (hb2 : L2.length ≤ 4611686018427387904) i (hi : i < L1.length) => (show Calls Tryd.prog 25 #[.slice A2 L2.length c2, .agg #[.int .i64 (frF L1 i 0), .int .i64 (frF L1 i 1)]] W fun e w' => e = .returned (.bool true) ∧ Gr W w' from by
    have z := has_any A2 L2.length c2 (frF L2) (frF L1 i 0) (frF L1 i 1) W h2 (by omega)
    have e : L1[i]? = some (L1[i]'hi) := List.getElem?_eq_getElem hi
    have k := hasR_mem (hm3 _ (List.getElem_mem hi))
    rw [show frF L1 i 0 = ((L1[i]'hi).1 : Int) by simp [frF, List.getD, e], show frF L1 i 1 = ((L1[i]'hi).2 : Int) by simp [frF, List.getD, e]] at z ⊢
    rwa [k] at z))
  have HF := Lib.hid hF; have HV := Lib.hid hV; have HI := Lib.hid hI; have HF1 := Lib.hid hf1; have HF2 := Lib.hid hf2
  have hw1 : IntKind.i64.wrap (tl + more) = tl + more := IntWalk.i64_in _ ⟨by omega, by omega⟩
  have hw2 : IntKind.i64.wrap more = more := IntWalk.i64_in _ ⟨by omega, by omega⟩
  have hle12 : decide (L1.length ≤ L2.length) = true := decide_eq_true hm2
  have hle12' : decide ((L1.length : Int) ≤ (L2.length : Int)) = true := decide_eq_true (by omega)
  clear hF hV hI hfew hok hv hok2 hri hop hf1 hf2 hm3 hP hL hO hQ
  go_enter Tryd.func8, Tryd.ntmps8
  go_wp2_with fail
  (go_at_call 11; with_reducible refine (fhead_any _ (HP.out.keep (by repeat (first | with_reducible exact Gr.refl _ | with_reducible refine Gr.alloc ?_ _ | with_reducible refine Gr.drew ?_ | with_reducible refine Gr.trans ?_ (by assumption) | with_reducible refine Gr.setCell ?_ (by (try simp); (try omega)) _))) (HL.out.keep (by repeat (first | with_reducible exact Gr.refl _ | with_reducible refine Gr.alloc ?_ _ | with_reducible refine Gr.drew ?_ | with_reducible refine Gr.trans ?_ (by assumption) | with_reducible refine Gr.setCell ?_ (by (try simp); (try omega)) _)))).mono ?_; rintro e w' ⟨rfl, hb⟩; have hz := hb.le; obtain ⟨hc, hf⟩ := hb.cells; have hn := hb.cellsN; (try simp only [World.size_alloc] at hc hf hz hn); (try simp only [World.size_setCell] at hc hf hz hn); (try simp only [World.size_drew] at hc hf hz hn))
  go_wp2_with fail
  (go_at_call 12; with_reducible refine (HF.out _).mono ?_; rintro e w' ⟨rfl, hb⟩; have hz := hb.le; obtain ⟨hc, hf⟩ := hb.cells; have hn := hb.cellsN; (try simp only [World.size_alloc] at hc hf hz hn); (try simp only [World.size_setCell] at hc hf hz hn); (try simp only [World.size_drew] at hc hf hz hn))
  go_wp2_with fail
  (go_at_call 14; with_reducible refine (HV.out _ (by repeat (first | with_reducible exact Gr.refl _ | with_reducible refine Gr.alloc ?_ _ | with_reducible refine Gr.drew ?_ | with_reducible refine Gr.trans ?_ (by assumption) | with_reducible refine Gr.setCell ?_ (by (try simp); (try omega)) _))).mono ?_; rintro e w' ⟨rfl, hb⟩; have hz := hb.le; obtain ⟨hc, hf⟩ := hb.cells; have hn := hb.cellsN; (try simp only [World.size_alloc] at hc hf hz hn); (try simp only [World.size_setCell] at hc hf hz hn); (try simp only [World.size_drew] at hc hf hz hn))
  go_wp2_with fail
  (go_at_call 24; with_reducible refine (HI.out _).mono ?_; rintro e w' ⟨rfl, hb⟩; have hz := hb.le; obtain ⟨hc, hf⟩ := hb.cells; have hn := hb.cellsN; (try simp only [World.size_alloc] at hc hf hz hn); (try simp only [World.size_setCell] at hc hf hz hn); (try simp only [World.size_drew] at hc hf hz hn))
  have HNK : Hid (NeckAt w' w.heap.size O Q no co nf cq sp tl) := Lib.hid ⟨by omega, by simp [go_sem, *], by simp [go_sem, *], by simp [go_sem, *], by simp [go_sem, *]⟩
  have HS6 : Hid (SixV w' (w.heap.size + 1) (.int .i64 v0) (.int .i64 v1) (.int .i64 v2) (.int .i64 v3) (.int .i64 v4) (.int .i64 v5)) := Lib.hid ⟨by simp [go_sem, *], by simp [go_sem, *], by simp [go_sem, *], by simp [go_sem, *], by simp [go_sem, *], by simp [go_sem, *]⟩
  have hz6 : w.heap.size + 1 < w'.heap.size := by omega
  have HG := Lib.hid (show Gr w w' from (by repeat (first | with_reducible exact Gr.refl _ | with_reducible refine Gr.alloc ?_ _ | with_reducible refine Gr.drew ?_ | with_reducible refine Gr.trans ?_ (by assumption) | with_reducible refine Gr.setCell ?_ (by (try simp); (try omega)) _)))
  clear hb hz hc hf hn HF HV HI
  obtain ⟨w2, rfl⟩ : ∃ w2 : World, w2 = w' := ⟨_, rfl⟩
  obtain ⟨hl0, b0, b1, b2, b3⟩ := HNK.out
  obtain ⟨e0, e1, e2, e3, e4, e5⟩ := HS6.out
  go_wp2_with fail
  go_at_call 22
  refine (HF1.out _ (HG.out.trans (by repeat (first | with_reducible exact Gr.refl _ | with_reducible refine Gr.alloc ?_ _ | with_reducible refine Gr.drew ?_ | with_reducible refine Gr.trans ?_ (by assumption) | with_reducible refine Gr.setCell ?_ (by (try simp); (try omega)) _)))).mono ?_
  rintro e w3 ⟨A1, c1, rfl, -, hr1, hlb1, -, hb⟩
  have hNB := (neckAt_new w2 O Q no co nf cq sp (min (tl + more) 50000) 24).keep hb
  have hg3 : Gr w2 w3 := ((Gr.refl w2).alloc _).trans hb
  have HG3 := Lib.hid (HG.out.trans hg3)
  have HR1 := Lib.hid hr1
  obtain ⟨f0, f1, f2, f3, f4, f5⟩ := HS6.out.keep hg3 hz6
  obtain ⟨hm0', m0, m1, m2', m3'⟩ := hNB
  clear hl0 b0 b1 b2 b3 e0 e1 e2 e3 e4 e5 hb hr1 hg3 HG
  go_wp2_with fail
  go_at_call 22
  refine (HF2.out _ (HG3.out.trans (by repeat (first | with_reducible exact Gr.refl _ | with_reducible refine Gr.alloc ?_ _ | with_reducible refine Gr.drew ?_ | with_reducible refine Gr.trans ?_ (by assumption) | with_reducible refine Gr.setCell ?_ (by (try simp); (try omega)) _)))).mono ?_
  rintro e w4 ⟨A2, c2, rfl, -, hr2, hlb2, -, hb⟩
  have hg4 : Gr w3 w4 := Gr.trans (by repeat (first | with_reducible exact Gr.refl _ | with_reducible refine Gr.alloc ?_ _ | with_reducible refine Gr.drew ?_ | with_reducible refine Gr.trans ?_ (by assumption) | with_reducible refine Gr.setCell ?_ (by (try simp); (try omega)) _)) hb
  have HG4 := Lib.hid (HG3.out.trans hg4)
  have HR14 := Lib.hid (HR1.out.keep hg4)
  have HR2 := Lib.hid hr2
  clear f0 f1 f2 f3 f4 f5 hm0' m0 m1 m2' m3' hb hr2 hg4 HG3 HR1
  go_wp2_with fail
  go_loopw [7, 68] (fun uv iv wr => ∃ i : Nat, i ≤ L1.length ∧ uv = .bool true ∧ iv = .int .i64 (i : Int) ∧ Gr w4 wr) (fun _ iv _ => L1.length - (intOf iv).toNat)
  case atStart => exact ⟨0, Nat.zero_le _, rfl, rfl, Gr.refl _⟩
  case round =>
    obtain ⟨i, hin, rfl, rfl, hg⟩ := hrel
    have HGR := Lib.hid hg
    obtain ⟨wo, rfl⟩ : ∃ wo : World, wo = wr := ⟨_, rfl⟩
    by_cases hlt : i < L1.length
    · have hlt' : decide ((i : Int) < (L1.length : Int)) = true := decide_eq_true (by omega)
      obtain ⟨b, off, rfl, hbl, c0, c1'⟩ := (HR14.out.keep hg).two hlt
      have HC := Lib.hid (fun W (g : Gr wo W) => HH.out A2 c2 W (HR2.out.keep (HGR.out.trans g)) hlb2 i hlt)
      clear hg
      go_wp2_with fail
      (go_at_call 25; with_reducible refine (HC.out _ (by repeat (first | with_reducible exact Gr.refl _ | with_reducible refine Gr.alloc ?_ _ | with_reducible refine Gr.drew ?_ | with_reducible refine Gr.trans ?_ (by assumption) | with_reducible refine Gr.setCell ?_ (by (try simp); (try omega)) _))).mono ?_; rintro e w' ⟨rfl, hb⟩; have hz := hb.le; obtain ⟨hc, hf⟩ := hb.cells; have hn := hb.cellsN; (try simp only [World.size_alloc] at hc hf hz hn); (try simp only [World.size_setCell] at hc hf hz hn); (try simp only [World.size_drew] at hc hf hz hn))
      go_wp2_with fail
      go_roundw
      case rel => exact ⟨i + 1, by omega, rfl, by go_num, HGR.out.trans (by repeat (first | with_reducible exact Gr.refl _ | with_reducible refine Gr.alloc ?_ _ | with_reducible refine Gr.drew ?_ | with_reducible refine Gr.trans ?_ (by assumption) | with_reducible refine Gr.setCell ?_ (by (try simp); (try omega)) _))⟩
      case measure => simp [intOf]; omega
    · obtain rfl : i = L1.length := by omega
      have hlt' : decide ((L1.length : Int) < (L1.length : Int)) = false := decide_eq_false (by omega)
      go_wp2_with fail
      go_ret
      exact ⟨rfl, HG4.out.trans HGR.out⟩
theorem ltol_law (v0 v1 v2 v3 v4 v5 more : Int) (O Q : Option Addr) (no co nf cq : Nat) (sp tl : Int) (o q : Nat → Nat → Int) (w : World) (hP : Primes w) (hL : Logs w) (hO : RowsAt w 6 O no o) (hQ : RowsAt w 6 Q nf q) (hno : no ≤ 9223372036854775807) (hnf : nf ≤ 9223372036854775807) (hm0 : 0 ≤ more) (hm1 : more ≤ 65535) :
    Calls Tryd.prog 8 #[.agg #[.slice O no co, .slice Q nf cq, .int .i64 sp, .int .i64 tl], .agg #[.int .i64 v0, .int .i64 v1, .int .i64 v2, .int .i64 v3, .int .i64 v4, .int .i64 v5], .int .u16 more] w fun e w' => e = .returned (.bool true) ∧ Gr w w' := by
  rcases bool_tf (fewB no nf 0 && (neckB no o nf q sp tl && allIn ⟨v0, v1, v2, v3, v4, v5⟩ 48 6)) with h | h
  · exact ltol_ok v0 v1 v2 v3 v4 v5 more O Q no co nf cq sp tl o q w hP hL hO hQ hno hnf hm0 hm1 h
  · exact ltol_skip v0 v1 v2 v3 v4 v5 more O Q no co nf cq sp tl o q w hP hL hO hQ hno hnf h
end Go.Proofs.YtohalcookjbaaaaDoor
