/-
  The law FretsFound.
-/
import Derived.Test.YtohalcookjbaaaaDoorNkPl
import Derived.Test.YtohalcookjbaaaaDoorNkRV
import Derived.IntWalk
namespace Go.Proofs.YtohalcookjbaaaaDoor
open Go.RowKit

theorem RowsAt.le {W : World} {sz n m : Nat} {A : Option Addr} {f : Nat → Nat → Int} (h : RowsAt W sz A n f) (hm : m ≤ n) : RowsAt W sz A m f := fun h0 => by
  obtain ⟨b, off, e, hb, hc⟩ := h (by omega)
  exact ⟨b, off, e, hb, fun i hi j hj => hc i (by omega) j hj⟩
/-- Whether a list has a fret. -/
theorem hasR_list (l : List (Nat × Nat)) (s k : Nat) : hasR (frF l) (s : Int) (k : Int) l.length = decide ((s, k) ∈ l) := by
  rw [Bool.eq_iff_iff, hasR_iff, decide_eq_true_eq]
  constructor
  · rintro ⟨i, hi, h0, h1⟩
    have e : l[i]? = some (l[i]'hi) := List.getElem?_eq_getElem hi
    have e0 : ((l[i]'hi).1 : Int) = (s : Int) := by rw [← h0]; simp [frF, List.getD, e]
    have e1 : ((l[i]'hi).2 : Int) = (k : Int) := by rw [← h1]; simp [frF, List.getD, e]
    have := List.getElem_mem hi
    rw [show l[i]'hi = (s, k) from Prod.ext (by omega) (by omega)] at this
    exact this
  · intro h
    obtain ⟨i, hi⟩ := List.getElem?_of_mem h
    exact ⟨i, (List.getElem?_eq_some_iff.1 hi).1, by simp [frF, List.getD, hi], by simp [frF, List.getD, hi]⟩
/-- No fret of a sorted list stands twice in it. -/
theorem hasR_none {l : List (Nat × Nat)} (h : l.Pairwise ltP) {i : Nat} (hi : i < l.length) : hasR (frF l) (frF l i 0) (frF l i 1) i = false := by
  rw [← Bool.not_eq_true, hasR_iff]
  rintro ⟨j, hj, h0, h1⟩
  have hlt := List.pairwise_iff_getElem.1 h j i (by omega) hi hj
  have e : l[i]? = some (l[i]'hi) := List.getElem?_eq_getElem hi
  have e' : l[j]? = some (l[j]'(by omega)) := List.getElem?_eq_getElem (by omega)
  rw [show frF l j 0 = ((l[j]'(by omega)).1 : Int) by simp [frF, List.getD, e'], show frF l i 0 = ((l[i]'hi).1 : Int) by simp [frF, List.getD, e]] at h0
  rw [show frF l j 1 = ((l[j]'(by omega)).2 : Int) by simp [frF, List.getD, e'], show frF l i 1 = ((l[i]'hi).2 : Int) by simp [frF, List.getD, e]] at h1
  rcases hlt with k | k <;> omega

set_option maxRecDepth 100000 in
set_option maxHeartbeats 16000000 in
theorem lfnd_skip (v0 v1 v2 v3 v4 v5 sv kv : Int) (O Q : Option Addr) (no co nf cq : Nat) (sp tl : Int) (o q : Nat → Nat → Int) (w : World) (hP : Primes w) (hL : Logs w) (hO : RowsAt w 6 O no o) (hQ : RowsAt w 6 Q nf q) (hno : no ≤ 9223372036854775807) (hnf : nf ≤ 9223372036854775807) (hbad : (fewB no nf 0 && (neckB no o nf q sp tl && allIn ⟨v0, v1, v2, v3, v4, v5⟩ 48 6)) = false) :
    Calls Tryd.prog 4 #[.agg #[.slice O no co, .slice Q nf cq, .int .i64 sp, .int .i64 tl], .agg #[.int .i64 v0, .int .i64 v1, .int .i64 v2, .int .i64 v3, .int .i64 v4, .int .i64 v5], .int .u8 sv, .int .u8 kv] w fun e w' => e = .returned (.bool true) ∧ Gr w w' := by
  have HP := Lib.hid hP; have HL := Lib.hid hL
  have hF := fun W => few_any O Q none no co nf cq 0 0 sp tl W
  have hV := fun W (g : Gr w W) => rneck_any O Q no co nf cq sp tl o q W (hO.keep g) (hQ.keep g) hno hnf
  have hI := fun W => r3interval_any v0 v1 v2 v3 v4 v5 W
  clear hP hL hO hQ
  rcases bool_tf (fewB no nf 0) with h1 | h1
  · rw [h1] at hF
    rcases bool_tf (neckB no o nf q sp tl) with h2 | h2
    · rw [h2] at hV
      rcases bool_tf (allIn ⟨v0, v1, v2, v3, v4, v5⟩ 48 6) with h3 | h3
      · rw [h1, h2, h3] at hbad; cases hbad
      · rw [h3] at hI
        have HF := Lib.hid hF; have HV := Lib.hid hV; have HI := Lib.hid hI
        clear hF hV hI hbad h1 h2 h3
        go_enter Tryd.func4, Tryd.ntmps4
        go_wp2_with fail
        (go_at_call 11; with_reducible refine (fhead_any _ (HP.out.keep (by repeat (first | with_reducible exact Gr.refl _ | with_reducible refine Gr.alloc ?_ _ | with_reducible refine Gr.drew ?_ | with_reducible refine Gr.trans ?_ (by assumption) | with_reducible refine Gr.setCell ?_ (by (try simp); (try omega)) _))) (HL.out.keep (by repeat (first | with_reducible exact Gr.refl _ | with_reducible refine Gr.alloc ?_ _ | with_reducible refine Gr.drew ?_ | with_reducible refine Gr.trans ?_ (by assumption) | with_reducible refine Gr.setCell ?_ (by (try simp); (try omega)) _)))).mono ?_; rintro e w' ⟨rfl, hb⟩; have hz := hb.le; obtain ⟨hc, hf⟩ := hb.cells; have hn := hb.cellsN; (try simp only [World.size_alloc] at hc hf hz hn); (try simp only [World.size_setCell] at hc hf hz hn); (try simp only [World.size_drew] at hc hf hz hn))
        go_wp2_with fail
        (go_at_call 12; with_reducible refine (HF.out _).mono ?_; rintro e w' ⟨rfl, hb⟩; have hz := hb.le; obtain ⟨hc, hf⟩ := hb.cells; have hn := hb.cellsN; (try simp only [World.size_alloc] at hc hf hz hn); (try simp only [World.size_setCell] at hc hf hz hn); (try simp only [World.size_drew] at hc hf hz hn))
        go_wp2_with fail
        (go_at_call 14; with_reducible refine (HV.out _ (by repeat (first | with_reducible exact Gr.refl _ | with_reducible refine Gr.alloc ?_ _ | with_reducible refine Gr.drew ?_ | with_reducible refine Gr.trans ?_ (by assumption) | with_reducible refine Gr.setCell ?_ (by (try simp); (try omega)) _))).mono ?_; rintro e w' ⟨rfl, hb⟩; have hz := hb.le; obtain ⟨hc, hf⟩ := hb.cells; have hn := hb.cellsN; (try simp only [World.size_alloc] at hc hf hz hn); (try simp only [World.size_setCell] at hc hf hz hn); (try simp only [World.size_drew] at hc hf hz hn))
        go_wp2_with fail
        (go_at_call 24; with_reducible refine (HI.out _).mono ?_; rintro e w' ⟨rfl, hb⟩; have hz := hb.le; obtain ⟨hc, hf⟩ := hb.cells; have hn := hb.cellsN; (try simp only [World.size_alloc] at hc hf hz hn); (try simp only [World.size_setCell] at hc hf hz hn); (try simp only [World.size_drew] at hc hf hz hn))
        go_wp2_with fail
        go_ret
        exact ⟨rfl, (by repeat (first | with_reducible exact Gr.refl _ | with_reducible refine Gr.alloc ?_ _ | with_reducible refine Gr.drew ?_ | with_reducible refine Gr.trans ?_ (by assumption) | with_reducible refine Gr.setCell ?_ (by (try simp); (try omega)) _))⟩
    · rw [h2] at hV
      have HF := Lib.hid hF; have HV := Lib.hid hV
      clear hF hV hI hbad h1 h2
      go_enter Tryd.func4, Tryd.ntmps4
      go_wp2_with fail
      (go_at_call 11; with_reducible refine (fhead_any _ (HP.out.keep (by repeat (first | with_reducible exact Gr.refl _ | with_reducible refine Gr.alloc ?_ _ | with_reducible refine Gr.drew ?_ | with_reducible refine Gr.trans ?_ (by assumption) | with_reducible refine Gr.setCell ?_ (by (try simp); (try omega)) _))) (HL.out.keep (by repeat (first | with_reducible exact Gr.refl _ | with_reducible refine Gr.alloc ?_ _ | with_reducible refine Gr.drew ?_ | with_reducible refine Gr.trans ?_ (by assumption) | with_reducible refine Gr.setCell ?_ (by (try simp); (try omega)) _)))).mono ?_; rintro e w' ⟨rfl, hb⟩; have hz := hb.le; obtain ⟨hc, hf⟩ := hb.cells; have hn := hb.cellsN; (try simp only [World.size_alloc] at hc hf hz hn); (try simp only [World.size_setCell] at hc hf hz hn); (try simp only [World.size_drew] at hc hf hz hn))
      go_wp2_with fail
      (go_at_call 12; with_reducible refine (HF.out _).mono ?_; rintro e w' ⟨rfl, hb⟩; have hz := hb.le; obtain ⟨hc, hf⟩ := hb.cells; have hn := hb.cellsN; (try simp only [World.size_alloc] at hc hf hz hn); (try simp only [World.size_setCell] at hc hf hz hn); (try simp only [World.size_drew] at hc hf hz hn))
      go_wp2_with fail
      (go_at_call 14; with_reducible refine (HV.out _ (by repeat (first | with_reducible exact Gr.refl _ | with_reducible refine Gr.alloc ?_ _ | with_reducible refine Gr.drew ?_ | with_reducible refine Gr.trans ?_ (by assumption) | with_reducible refine Gr.setCell ?_ (by (try simp); (try omega)) _))).mono ?_; rintro e w' ⟨rfl, hb⟩; have hz := hb.le; obtain ⟨hc, hf⟩ := hb.cells; have hn := hb.cellsN; (try simp only [World.size_alloc] at hc hf hz hn); (try simp only [World.size_setCell] at hc hf hz hn); (try simp only [World.size_drew] at hc hf hz hn))
      go_wp2_with fail
      go_ret
      exact ⟨rfl, (by repeat (first | with_reducible exact Gr.refl _ | with_reducible refine Gr.alloc ?_ _ | with_reducible refine Gr.drew ?_ | with_reducible refine Gr.trans ?_ (by assumption) | with_reducible refine Gr.setCell ?_ (by (try simp); (try omega)) _))⟩
  · rw [h1] at hF
    have HF := Lib.hid hF
    clear hF hV hI hbad h1
    go_enter Tryd.func4, Tryd.ntmps4
    go_wp2_with fail
    (go_at_call 11; with_reducible refine (fhead_any _ (HP.out.keep (by repeat (first | with_reducible exact Gr.refl _ | with_reducible refine Gr.alloc ?_ _ | with_reducible refine Gr.drew ?_ | with_reducible refine Gr.trans ?_ (by assumption) | with_reducible refine Gr.setCell ?_ (by (try simp); (try omega)) _))) (HL.out.keep (by repeat (first | with_reducible exact Gr.refl _ | with_reducible refine Gr.alloc ?_ _ | with_reducible refine Gr.drew ?_ | with_reducible refine Gr.trans ?_ (by assumption) | with_reducible refine Gr.setCell ?_ (by (try simp); (try omega)) _)))).mono ?_; rintro e w' ⟨rfl, hb⟩; have hz := hb.le; obtain ⟨hc, hf⟩ := hb.cells; have hn := hb.cellsN; (try simp only [World.size_alloc] at hc hf hz hn); (try simp only [World.size_setCell] at hc hf hz hn); (try simp only [World.size_drew] at hc hf hz hn))
    go_wp2_with fail
    (go_at_call 12; with_reducible refine (HF.out _).mono ?_; rintro e w' ⟨rfl, hb⟩; have hz := hb.le; obtain ⟨hc, hf⟩ := hb.cells; have hn := hb.cellsN; (try simp only [World.size_alloc] at hc hf hz hn); (try simp only [World.size_setCell] at hc hf hz hn); (try simp only [World.size_drew] at hc hf hz hn))
    go_wp2_with fail
    go_ret
    exact ⟨rfl, (by repeat (first | with_reducible exact Gr.refl _ | with_reducible refine Gr.alloc ?_ _ | with_reducible refine Gr.drew ?_ | with_reducible refine Gr.trans ?_ (by assumption) | with_reducible refine Gr.setCell ?_ (by (try simp); (try omega)) _))⟩


set_option maxRecDepth 100000 in
set_option maxHeartbeats 16000000 in
theorem lfnd_ok (v0 v1 v2 v3 v4 v5 : Int) (sn kn : Nat) (O Q : Option Addr) (no co nf cq : Nat) (sp tl : Int) (o q : Nat → Nat → Int) (w : World) (hP : Primes w) (hL : Logs w) (hO : RowsAt w 6 O no o) (hQ : RowsAt w 6 Q nf q) (hno : no ≤ 9223372036854775807) (hnf : nf ≤ 9223372036854775807) (hs1 : sn ≤ 255) (hk1 : kn ≤ 255) (hgood : (fewB no nf 0 && (neckB no o nf q sp tl && allIn ⟨v0, v1, v2, v3, v4, v5⟩ 48 6)) = true) :
    Calls Tryd.prog 4 #[.agg #[.slice O no co, .slice Q nf cq, .int .i64 sp, .int .i64 tl], .agg #[.int .i64 v0, .int .i64 v1, .int .i64 v2, .int .i64 v3, .int .i64 v4, .int .i64 v5], .int .u8 (sn : Int), .int .u8 (kn : Int)] w fun e w' => e = .returned (.bool true) ∧ Gr w w' := by
  simp only [Bool.and_eq_true] at hgood
  obtain ⟨hfew, hok, hv⟩ := hgood
  have HP := Lib.hid hP; have HL := Lib.hid hL
  have hF := fun W => few_any O Q none no co nf cq 0 0 sp tl W
  have hV := fun W (g : Gr w W) => rneck_any O Q no co nf cq sp tl o q W (hO.keep g) (hQ.keep g) hno hnf
  have hI := fun W => r3interval_any v0 v1 v2 v3 v4 v5 W
  rw [hfew] at hF
  rw [hok] at hV
  rw [hv] at hI
  obtain ⟨q1, q2, q3, -⟩ := (neckB_parts hok).1
  have hsn : sn % no < no := Nat.mod_lt _ (by omega)
  have hkn : kn % (nf + 1) ≤ nf := by have := Nat.mod_lt kn (show 0 < nf + 1 by omega); omega
  have hf1 := fun W (g : Gr w W) => (ffind_ok O Q no co nf cq sp tl o q v0 v1 v2 v3 v4 v5 W (hP.keep g) (hL.keep g) (hO.keep g) (hQ.keep g) hno hnf hok hv)
  have hpl := fun W (g : Gr w W) => (show Calls Tryd.prog 26 #[.agg #[.slice O no co, .slice Q nf cq, .int .i64 sp, .int .i64 tl], .agg #[.int .i64 ((sn : Int) % (no : Int)), .int .i64 ((kn : Int) % ((nf : Int) + 1))], .agg #[.int .i64 v0, .int .i64 v1, .int .i64 v2, .int .i64 v3, .int .i64 v4, .int .i64 v5]] W fun e w' => e = .returned (.bool (playsF o q tl ⟨v0, v1, v2, v3, v4, v5⟩ (sn % no) (kn % (nf + 1)))) ∧ Gr W w' from plays_ok O Q no co nf cq sp tl o q (sn % no) (kn % (nf + 1)) v0 v1 v2 v3 v4 v5 W (hP.keep g) (hL.keep g) (hO.keep g) (hQ.keep g) hno hnf hok hsn hkn hv)
  have hmem : decide ((sn % no, kn % (nf + 1)) ∈ findF no o nf q tl ⟨v0, v1, v2, v3, v4, v5⟩) = playsF o q tl ⟨v0, v1, v2, v3, v4, v5⟩ (sn % no) (kn % (nf + 1)) := by
    rw [Bool.eq_iff_iff, decide_eq_true_eq]
    constructor
    · intro h; exact (mem_onAll.1 h).2.2
    · intro h; exact mem_onAll.2 ⟨hsn, by show kn % (nf + 1) < nf + 1; omega, h⟩
  have hsorted : (findF no o nf q tl ⟨v0, v1, v2, v3, v4, v5⟩).Pairwise ltP := onAll_sorted _ _ _
  have hl1 : (findF no o nf q tl ⟨v0, v1, v2, v3, v4, v5⟩).length ≤ 296 := by
    have z1 := onAll_len (playsF o q tl ⟨v0, v1, v2, v3, v4, v5⟩) (nf + 1) no
    have z3 : no * (nf + 1) ≤ 8 * 37 := Nat.mul_le_mul (by omega) (by omega)
    show (onAll (playsF o q tl ⟨v0, v1, v2, v3, v4, v5⟩) (nf + 1) no).length ≤ 296
    omega
  rw [← hmem] at hpl
  clear hmem
  generalize findF no o nf q tl ⟨v0, v1, v2, v3, v4, v5⟩ = L at *
  have HH1 := Lib.hid (fun (A2 : Option Addr) (c2 : Nat) W (h2 : RowsAt W 2 A2 L.length (frF L)) i (hi : i < L.length) => (show Calls Tryd.prog 25 #[.slice A2 i c2, .agg #[.int .i64 (frF L i 0), .int .i64 (frF L i 1)]] W fun e w' => e = .returned (.bool false) ∧ Gr W w' from by
    have z := has_any A2 i c2 (frF L) (frF L i 0) (frF L i 1) W (h2.le (by omega)) (by omega)
    rwa [hasR_none hsorted hi] at z))
  have HH2 := Lib.hid (fun (A2 : Option Addr) (c2 : Nat) W (h2 : RowsAt W 2 A2 L.length (frF L)) => (show Calls Tryd.prog 25 #[.slice A2 L.length c2, .agg #[.int .i64 ((sn : Int) % (no : Int)), .int .i64 ((kn : Int) % ((nf : Int) + 1))]] W fun e w' => e = .returned (.bool (decide ((sn % no, kn % (nf + 1)) ∈ L))) ∧ Gr W w' from by
    have z := has_any A2 L.length c2 (frF L) ((sn % no : Nat) : Int) ((kn % (nf + 1) : Nat) : Int) W h2 (by omega)
    rw [hasR_list] at z
    exact z))
  generalize decide ((sn % no, kn % (nf + 1)) ∈ L) = B at *
  have HF := Lib.hid hF; have HV := Lib.hid hV; have HI := Lib.hid hI; have HF1 := Lib.hid hf1; have HPL := Lib.hid hpl
  have hws : IntKind.i64.wrap (sn : Int) = (sn : Int) := IntWalk.i64_in _ ⟨by omega, by omega⟩
  have hwk : IntKind.i64.wrap (kn : Int) = (kn : Int) := IntWalk.i64_in _ ⟨by omega, by omega⟩
  have hwn : IntKind.i64.wrap ((nf : Int) + 1) = (nf : Int) + 1 := IntWalk.i64_in _ ⟨by omega, by omega⟩
  have hts : (sn : Int).tmod (no : Int) = ((sn % no : Nat) : Int) := by rw [Int.tmod_eq_emod_of_nonneg (by omega)]; rfl
  have htk : (kn : Int).tmod ((nf : Int) + 1) = ((kn % (nf + 1) : Nat) : Int) := by rw [Int.tmod_eq_emod_of_nonneg (by omega)]; rfl
  have hz1 : ((no : Int) == 0) = false := by simp; omega
  have hz2 : ((nf : Int) + 1 == 0) = false := by simp; omega
  clear hF hV hI hfew hok hv hf1 hpl hP hL hO hQ hsorted
  go_enter Tryd.func4, Tryd.ntmps4
  go_wp2_with fail
  (go_at_call 11; with_reducible refine (fhead_any _ (HP.out.keep (by repeat (first | with_reducible exact Gr.refl _ | with_reducible refine Gr.alloc ?_ _ | with_reducible refine Gr.drew ?_ | with_reducible refine Gr.trans ?_ (by assumption) | with_reducible refine Gr.setCell ?_ (by (try simp); (try omega)) _))) (HL.out.keep (by repeat (first | with_reducible exact Gr.refl _ | with_reducible refine Gr.alloc ?_ _ | with_reducible refine Gr.drew ?_ | with_reducible refine Gr.trans ?_ (by assumption) | with_reducible refine Gr.setCell ?_ (by (try simp); (try omega)) _)))).mono ?_; rintro e w' ⟨rfl, hb⟩; have hz := hb.le; obtain ⟨hc, hf⟩ := hb.cells; have hn := hb.cellsN; (try simp only [World.size_alloc] at hc hf hz hn); (try simp only [World.size_setCell] at hc hf hz hn); (try simp only [World.size_drew] at hc hf hz hn))
  go_wp2_with fail
  (go_at_call 12; with_reducible refine (HF.out _).mono ?_; rintro e w' ⟨rfl, hb⟩; have hz := hb.le; obtain ⟨hc, hf⟩ := hb.cells; have hn := hb.cellsN; (try simp only [World.size_alloc] at hc hf hz hn); (try simp only [World.size_setCell] at hc hf hz hn); (try simp only [World.size_drew] at hc hf hz hn))
  go_wp2_with fail
  (go_at_call 14; with_reducible refine (HV.out _ (by repeat (first | with_reducible exact Gr.refl _ | with_reducible refine Gr.alloc ?_ _ | with_reducible refine Gr.drew ?_ | with_reducible refine Gr.trans ?_ (by assumption) | with_reducible refine Gr.setCell ?_ (by (try simp); (try omega)) _))).mono ?_; rintro e w' ⟨rfl, hb⟩; have hz := hb.le; obtain ⟨hc, hf⟩ := hb.cells; have hn := hb.cellsN; (try simp only [World.size_alloc] at hc hf hz hn); (try simp only [World.size_setCell] at hc hf hz hn); (try simp only [World.size_drew] at hc hf hz hn))
  go_wp2_with fail
  (go_at_call 24; with_reducible refine (HI.out _).mono ?_; rintro e w' ⟨rfl, hb⟩; have hz := hb.le; obtain ⟨hc, hf⟩ := hb.cells; have hn := hb.cellsN; (try simp only [World.size_alloc] at hc hf hz hn); (try simp only [World.size_setCell] at hc hf hz hn); (try simp only [World.size_drew] at hc hf hz hn))
  have HNK : Hid (NeckAt w' w.heap.size O Q no co nf cq sp tl) := Lib.hid ⟨by omega, by simp [go_sem, *], by simp [go_sem, *], by simp [go_sem, *], by simp [go_sem, *]⟩
  have HS6 : Hid (SixV w' (w.heap.size + 1) (.int .i64 v0) (.int .i64 v1) (.int .i64 v2) (.int .i64 v3) (.int .i64 v4) (.int .i64 v5)) := Lib.hid ⟨by simp [go_sem, *], by simp [go_sem, *], by simp [go_sem, *], by simp [go_sem, *], by simp [go_sem, *], by simp [go_sem, *]⟩
  have hz6 : w.heap.size + 1 < w'.heap.size := by omega
  have HG := Lib.hid (show Gr w w' from (by repeat (first | with_reducible exact Gr.refl _ | with_reducible refine Gr.alloc ?_ _ | with_reducible refine Gr.drew ?_ | with_reducible refine Gr.trans ?_ (by assumption) | with_reducible refine Gr.setCell ?_ (by (try simp); (try omega)) _)))
  clear hb hz hc hf hn HF HV HI
  obtain ⟨w2, rfl⟩ : ∃ w2 : World, w2 = w' := ⟨_, rfl⟩
  obtain ⟨hl0, b0, b1, b2, b3⟩ := HNK.out
  go_upto_region 4 with fail
  go_region
  have hgx : Gr w2 ((w2.alloc (.cells #[.int .i64 ((sn : Int) % (no : Int)), .int .i64 ((kn : Int) % ((nf : Int) + 1))] 37)).drew) := ((Gr.refl w2).alloc _).drew
  have x0 : ((w2.alloc (.cells #[.int .i64 ((sn : Int) % (no : Int)), .int .i64 ((kn : Int) % ((nf : Int) + 1))] 37)).drew).cell? ⟨w2.heap.size, 0, none⟩ = some (.int .i64 ((sn : Int) % (no : Int))) := by simp [go_sem]
  have x1 : ((w2.alloc (.cells #[.int .i64 ((sn : Int) % (no : Int)), .int .i64 ((kn : Int) % ((nf : Int) + 1))] 37)).drew).cell? ⟨w2.heap.size, 1, none⟩ = some (.int .i64 ((kn : Int) % ((nf : Int) + 1))) := by simp [go_sem]
  have x2 : w2.heap.size < ((w2.alloc (.cells #[.int .i64 ((sn : Int) % (no : Int)), .int .i64 ((kn : Int) % ((nf : Int) + 1))] 37)).drew).heap.size := by simp
  have hnk3 := HNK.out.keep hgx
  have hs63 := HS6.out.keep hgx hz6
  have HG3 := Lib.hid (HG.out.trans hgx)
  have hz63 := Nat.lt_of_lt_of_le hz6 hgx.le
  clear hl0 b0 b1 b2 b3 HG hgx HNK HS6 hz6 hws hwk hwn hts htk hz1 hz2
  generalize (w2.alloc (.cells #[.int .i64 ((sn : Int) % (no : Int)), .int .i64 ((kn : Int) % ((nf : Int) + 1))] 37)).drew = w3 at *
  generalize w2.heap.size = T10 at *
  generalize (sn : Int) % (no : Int) = S1 at *
  generalize (kn : Int) % ((nf : Int) + 1) = K1 at *
  have HX := Lib.hid (And.intro x0 (And.intro x1 x2))
  have HNK := Lib.hid hnk3; have HS6 := Lib.hid hs63
  obtain ⟨hl0, b0, b1, b2, b3⟩ := hnk3
  obtain ⟨e0, e1, e2, e3, e4, e5⟩ := hs63
  clear x0 x1 x2
  go_wp2_with fail
  go_at_call 22
  refine (HF1.out _ (HG3.out.trans (by repeat (first | with_reducible exact Gr.refl _ | with_reducible refine Gr.alloc ?_ _ | with_reducible refine Gr.drew ?_ | with_reducible refine Gr.trans ?_ (by assumption) | with_reducible refine Gr.setCell ?_ (by (try simp); (try omega)) _)))).mono ?_
  rintro e w4 ⟨A1, c1, rfl, -, hr1, hlb1, hlc1, hb⟩
  have hg4 : Gr w3 w4 := Gr.trans (by repeat (first | with_reducible exact Gr.refl _ | with_reducible refine Gr.alloc ?_ _ | with_reducible refine Gr.drew ?_ | with_reducible refine Gr.trans ?_ (by assumption) | with_reducible refine Gr.setCell ?_ (by (try simp); (try omega)) _)) hb
  have HG4 := Lib.hid (HG3.out.trans hg4)
  have HNK4 := Lib.hid (HNK.out.keep hg4); have HS64 := Lib.hid (HS6.out.keep hg4 hz63)
  have hz64 := Nat.lt_of_lt_of_le hz63 hg4.le
  have HX4 : Hid (w4.cell? ⟨T10, 0, none⟩ = some (.int .i64 S1) ∧ w4.cell? ⟨T10, 1, none⟩ = some (.int .i64 K1) ∧ T10 < w4.heap.size) := Lib.hid ⟨(Below.cell (p := ⟨T10, 0, none⟩) hg4 HX.out.2.2).trans HX.out.1, (Below.cell (p := ⟨T10, 1, none⟩) hg4 HX.out.2.2).trans HX.out.2.1, Nat.lt_of_lt_of_le HX.out.2.2 hg4.le⟩
  have HR1 := Lib.hid hr1
  clear hl0 b0 b1 b2 b3 e0 e1 e2 e3 e4 e5 hb hr1 hg4 HG3 HNK HS6 hz63 HX
  go_wp2_with fail
  go_loopw [9, 52] (fun uv iv wr => ∃ i : Nat, i ≤ L.length ∧ uv = .bool true ∧ iv = .int .i64 (i : Int) ∧ Gr w4 wr) (fun _ iv _ => L.length - (intOf iv).toNat)
  case atStart => exact ⟨0, Nat.zero_le _, rfl, rfl, Gr.refl _⟩
  case round =>
    obtain ⟨i, hin, rfl, rfl, hg⟩ := hrel
    have HGR := Lib.hid hg
    obtain ⟨wo, rfl⟩ : ∃ wo : World, wo = wr := ⟨_, rfl⟩
    by_cases hlt : i < L.length
    · have hlt' : decide ((i : Int) < (L.length : Int)) = true := decide_eq_true (by omega)
      obtain ⟨b, off, rfl, hbl, c0, c1'⟩ := (HR1.out.keep hg).two hlt
      have hi0 : (0 : Int) ≤ (i : Int) := by omega
      have hi1 : (i : Int) ≤ (c1 : Int) := by omega
      have hi2 : i ≤ c1 := by omega
      go_upto_region 9 with fail
      have hgw : Gr wo (wo.alloc (.cells #[.int .i64 (frF L i 0), .int .i64 (frF L i 1)] 37)) := (Gr.refl _).alloc _
      have y0 : (wo.alloc (.cells #[.int .i64 (frF L i 0), .int .i64 (frF L i 1)] 37)).cell? ⟨wo.heap.size, 0, none⟩ = some (.int .i64 (frF L i 0)) := by simp [go_sem]
      have y1 : (wo.alloc (.cells #[.int .i64 (frF L i 0), .int .i64 (frF L i 1)] 37)).cell? ⟨wo.heap.size, 1, none⟩ = some (.int .i64 (frF L i 1)) := by simp [go_sem]
      have y2 : wo.heap.size < (wo.alloc (.cells #[.int .i64 (frF L i 0), .int .i64 (frF L i 1)] 37)).heap.size := by simp
      have HGK := Lib.hid (HGR.out.trans hgw)
      clear hgw c0 c1' hbl hg
      generalize wo.alloc (.cells #[.int .i64 (frF L i 0), .int .i64 (frF L i 1)] 37) = wk at *
      have HC := Lib.hid (fun W (g : Gr wk W) => HH1.out (some ⟨b, off, none⟩) c1 W (HR1.out.keep (HGK.out.trans g)) i hlt)
      go_region_held3 (fun wx => (∀ b o, (⟨min (b + 1) wk.heap.size, 0, none⟩ : Addr) = ⟨b + 1, 0, none⟩ → wx.cell? ⟨b, o, none⟩ = wk.cell? ⟨b, o, none⟩) ∧ Gr wk wx) (first | with_reducible exact held_drew _ | with_reducible exact held_call (by assumption) (by assumption) | with_reducible exact held_alloc (by assumption) _ | with_reducible exact held_alloc0 _ _ | with_reducible exact held_anew (by assumption) _ (by omega) | ((repeat (with_reducible refine held_set ?_ (by (try simp); (try omega)) _)); (first | with_reducible assumption | with_reducible exact held_call (by assumption) (by assumption)))) (first | (go_at_call 25; with_reducible refine (HC.out _ (held_gr (by assumption))).mono ?_; rintro e w' ⟨rfl, hb⟩; have hzz := ((held_gr (by assumption)).trans hb).le; have hz := hb.le; obtain ⟨hcx, hfx⟩ := hb.cells; have hn := hb.cellsN; (try simp only [World.size_drew] at hcx hfx hz hn); (try simp only [World.size_setCell] at hcx hfx hz hn); (try simp only [World.size_alloc] at hcx hfx hz hn)))
      all_goals
        go_wp2_with fail
        go_roundw
        case rel => exact ⟨i + 1, by omega, rfl, by go_num, HGK.out.trans (held_gr (by assumption))⟩
        case measure => simp [intOf]; omega
    · obtain rfl : i = L.length := by omega
      have hlt' : decide ((L.length : Int) < (L.length : Int)) = false := decide_eq_false (by omega)
      obtain ⟨hl0, b0, b1, b2, b3⟩ := HNK4.out.keep hg
      obtain ⟨e0, e1, e2, e3, e4, e5⟩ := HS64.out.keep hg hz64
      have z0 := (Below.cell (p := ⟨T10, 0, none⟩) hg HX4.out.2.2).trans HX4.out.1
      have z1 := (Below.cell (p := ⟨T10, 1, none⟩) hg HX4.out.2.2).trans HX4.out.2.1
      have z2 := Nat.lt_of_lt_of_le HX4.out.2.2 hg.le
      have hz65 := Nat.lt_of_lt_of_le hz64 hg.le
      have HC := Lib.hid (fun W (g : Gr wo W) => HH2.out A1 c1 W (HR1.out.keep (HGR.out.trans g)))
      have HPC := Lib.hid (fun W (g : Gr wo W) => HPL.out W (HG4.out.trans (HGR.out.trans g)))
      clear hg
      go_upto_region 11 with fail
      go_region_held3 (fun wx => (∀ b o, (⟨min (b + 1) wo.heap.size, 0, none⟩ : Addr) = ⟨b + 1, 0, none⟩ → wx.cell? ⟨b, o, none⟩ = wo.cell? ⟨b, o, none⟩) ∧ Gr wo wx) (first | with_reducible exact held_drew _ | with_reducible exact held_call (by assumption) (by assumption) | with_reducible exact held_alloc (by assumption) _ | with_reducible exact held_alloc0 _ _ | with_reducible exact held_anew (by assumption) _ (by omega) | ((repeat (with_reducible refine held_set ?_ (by (try simp); (try omega)) _)); (first | with_reducible assumption | with_reducible exact held_call (by assumption) (by assumption)))) (first | (go_at_call 25; with_reducible refine (HC.out _ (held_gr (by assumption))).mono ?_; rintro e w' ⟨rfl, hb⟩; have hzz := ((held_gr (by assumption)).trans hb).le; have hz := hb.le; obtain ⟨hcx, hfx⟩ := hb.cells; have hn := hb.cellsN; (try simp only [World.size_drew] at hcx hfx hz hn); (try simp only [World.size_setCell] at hcx hfx hz hn); (try simp only [World.size_alloc] at hcx hfx hz hn)) | (go_at_call 26; with_reducible refine (HPC.out _ (held_gr (by assumption))).mono ?_; rintro e w' ⟨rfl, hb⟩; have hzz := ((held_gr (by assumption)).trans hb).le; have hz := hb.le; obtain ⟨hcx, hfx⟩ := hb.cells; have hn := hb.cellsN; (try simp only [World.size_drew] at hcx hfx hz hn); (try simp only [World.size_setCell] at hcx hfx hz hn); (try simp only [World.size_alloc] at hcx hfx hz hn)))
      all_goals
        go_wp2_with fail
        go_ret
        exact ⟨ret_bool (by simp), HG4.out.trans (HGR.out.trans (held_gr (by assumption)))⟩
theorem lfnd_law (v0 v1 v2 v3 v4 v5 sv kv : Int) (O Q : Option Addr) (no co nf cq : Nat) (sp tl : Int) (o q : Nat → Nat → Int) (w : World) (hP : Primes w) (hL : Logs w) (hO : RowsAt w 6 O no o) (hQ : RowsAt w 6 Q nf q) (hno : no ≤ 9223372036854775807) (hnf : nf ≤ 9223372036854775807) (hs : 0 ≤ sv ∧ sv ≤ 255) (hk : 0 ≤ kv ∧ kv ≤ 255) :
    Calls Tryd.prog 4 #[.agg #[.slice O no co, .slice Q nf cq, .int .i64 sp, .int .i64 tl], .agg #[.int .i64 v0, .int .i64 v1, .int .i64 v2, .int .i64 v3, .int .i64 v4, .int .i64 v5], .int .u8 sv, .int .u8 kv] w fun e w' => e = .returned (.bool true) ∧ Gr w w' := by
  rcases bool_tf (fewB no nf 0 && (neckB no o nf q sp tl && allIn ⟨v0, v1, v2, v3, v4, v5⟩ 48 6)) with h | h
  · obtain ⟨sn, rfl⟩ : ∃ k : Nat, sv = (k : Int) := ⟨sv.toNat, by omega⟩
    obtain ⟨kn, rfl⟩ : ∃ k : Nat, kv = (k : Int) := ⟨kv.toNat, by omega⟩
    exact lfnd_ok v0 v1 v2 v3 v4 v5 sn kn O Q no co nf cq sp tl o q w hP hL hO hQ hno hnf (by omega) (by omega) h
  · exact lfnd_skip v0 v1 v2 v3 v4 v5 sv kv O Q no co nf cq sp tl o q w hP hL hO hQ hno hnf h
end Go.Proofs.YtohalcookjbaaaaDoor
