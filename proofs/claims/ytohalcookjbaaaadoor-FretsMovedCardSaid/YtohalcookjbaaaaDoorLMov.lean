/-
  The law FretsMoved.
-/
import Derived.Test.YtohalcookjbaaaaDoorNkHd
import Derived.Test.YtohalcookjbaaaaDoorNkRV
import Derived.IntWalk
namespace Go.Proofs.YtohalcookjbaaaaDoor
open Go.RowKit

/-- The frets moved along the neck. -/
def movF (f : Nat → Nat → Int) (m : Int) (i j : Nat) : Int := if j = 0 then f i 0 else if f i 1 = 0 then 0 else f i 1 + m
theorem movF_0 (f : Nat → Nat → Int) (m : Int) (i : Nat) : movF f m i 0 = f i 0 := rfl
theorem movF_1 (f : Nat → Nat → Int) (m : Int) (i : Nat) : movF f m i 1 = if f i 1 = 0 then 0 else f i 1 + m := rfl
theorem heldB_mov {sp : Int} {f : Nat → Nat → Int} {m : Int} {n : Nat} (hm : 0 ≤ m) (hf : ∀ i, i < n → 0 ≤ f i 1) : heldB sp (movF f m) n = heldB sp f n := by
  rw [Bool.eq_iff_iff, heldB_iff, heldB_iff]
  have e : ∀ i j, j < i → i < n → okP sp (movF f m) i j = okP sp f i j := fun i j hj hi => by
    unfold okP
    rw [movF_0, movF_0, movF_1, movF_1]
    have h1 := hf i hi
    have h2 := hf j (by omega)
    congr 2
    rw [decide_eq_decide]
    split <;> split <;> omega
  exact ⟨fun k i j hj hi => by rw [← e i j hj hi]; exact k i j hj hi, fun k i j hj hi => by rw [e i j hj hi]; exact k i j hj hi⟩
/-- The cells of the first k frets. -/
def rowC (f : Nat → Nat → Int) : Nat → List Value
  | 0 => []
  | k + 1 => rowC f k ++ [.int .i64 (f k 0), .int .i64 (f k 1)]
theorem rowC_len (f : Nat → Nat → Int) : ∀ k, (rowC f k).length = k * 2
  | 0 => rfl
  | k + 1 => by simp [rowC, rowC_len f k]; omega
theorem rowC_at (f : Nat → Nat → Int) : ∀ (k i j : Nat), i < k → j < 2 → (rowC f k)[i * 2 + j]? = some (.int .i64 (f i j))
  | 0, i, j, h, _ => by omega
  | k + 1, i, j, h, hj => by
    have hl := rowC_len f k
    by_cases e : i = k
    · subst e
      rw [rowC, List.getElem?_append_right (by omega), hl, show i * 2 + j - i * 2 = j by omega]
      obtain rfl | rfl : j = 0 ∨ j = 1 := by omega
      · rfl
      · rfl
    · rw [rowC, List.getElem?_append_left (by omega)]
      exact rowC_at f k i j (by omega) hj

theorem allEx_all {no nf n : Nat} {f : Nat → Nat → Int} (h : ∀ i, i < n → exB no nf (f i 0) (f i 1) = true) : allEx no nf f n = true := by
  unfold allEx
  induction n with
  | zero => rfl
  | succ n ih => simp only [allN, Bool.and_eq_true]; exact ⟨ih fun i hi => h i (by omega), h n (by omega)⟩

set_option maxRecDepth 100000 in
set_option maxHeartbeats 16000000 in
theorem lmov_skip (by_ : Int) (O Q : Option Addr) (no co nf cq : Nat) (sp tl : Int) (o q : Nat → Nat → Int) (A : Option Addr) (n c : Nat) (w : World) (hP : Primes w) (hL : Logs w) (hO : RowsAt w 6 O no o) (hQ : RowsAt w 6 Q nf q) (hno : no ≤ 9223372036854775807) (hnf : nf ≤ 9223372036854775807) (hbad : (fewB no nf 0 && (decide (n ≤ 12) && neckB no o nf q sp tl)) = false) :
    Calls Tryd.prog 9 #[.agg #[.slice O no co, .slice Q nf cq, .int .i64 sp, .int .i64 tl], .slice A n c, .int .u8 by_] w fun e w' => e = .returned (.bool true) ∧ Gr w w' := by
  have HP := Lib.hid hP; have HL := Lib.hid hL
  have hF := fun W => few_any O Q none no co nf cq 0 0 sp tl W
  have hV := fun W (g : Gr w W) => rneck_any O Q no co nf cq sp tl o q W (hO.keep g) (hQ.keep g) hno hnf
  clear hP hL hO hQ
  rcases bool_tf (fewB no nf 0) with h1 | h1
  · rw [h1] at hF
    have HF := Lib.hid hF
    by_cases h2 : n ≤ 12
    · have d2 : decide (12 < (n : Int)) = false := decide_eq_false (by omega)
      rw [h1, decide_eq_true h2, Bool.true_and, Bool.true_and] at hbad
      rw [hbad] at hV
      have HV := Lib.hid hV
      clear hF hV hbad h1 h2
      go_enter Tryd.func9, Tryd.ntmps9
      go_wp2_with fail
      (go_at_call 11; with_reducible refine (fhead_any _ (HP.out.keep (by repeat (first | with_reducible exact Gr.refl _ | with_reducible refine Gr.alloc ?_ _ | with_reducible refine Gr.drew ?_ | with_reducible refine Gr.trans ?_ (by assumption) | with_reducible refine Gr.setCell ?_ (by (try simp); (try omega)) _))) (HL.out.keep (by repeat (first | with_reducible exact Gr.refl _ | with_reducible refine Gr.alloc ?_ _ | with_reducible refine Gr.drew ?_ | with_reducible refine Gr.trans ?_ (by assumption) | with_reducible refine Gr.setCell ?_ (by (try simp); (try omega)) _)))).mono ?_; rintro e w' ⟨rfl, hb⟩; have hz := hb.le; obtain ⟨hc, hf⟩ := hb.cells; have hn := hb.cellsN; (try simp only [World.size_alloc] at hc hf hz hn); (try simp only [World.size_setCell] at hc hf hz hn); (try simp only [World.size_drew] at hc hf hz hn))
      go_wp2_with fail
      (go_at_call 12; with_reducible refine (HF.out _).mono ?_; rintro e w' ⟨rfl, hb⟩; have hz := hb.le; obtain ⟨hc, hf⟩ := hb.cells; have hn := hb.cellsN; (try simp only [World.size_alloc] at hc hf hz hn); (try simp only [World.size_setCell] at hc hf hz hn); (try simp only [World.size_drew] at hc hf hz hn))
      go_wp2_with fail
      (go_at_call 14; with_reducible refine (HV.out _ (by repeat (first | with_reducible exact Gr.refl _ | with_reducible refine Gr.alloc ?_ _ | with_reducible refine Gr.drew ?_ | with_reducible refine Gr.trans ?_ (by assumption) | with_reducible refine Gr.setCell ?_ (by (try simp); (try omega)) _))).mono ?_; rintro e w' ⟨rfl, hb⟩; have hz := hb.le; obtain ⟨hc, hf⟩ := hb.cells; have hn := hb.cellsN; (try simp only [World.size_alloc] at hc hf hz hn); (try simp only [World.size_setCell] at hc hf hz hn); (try simp only [World.size_drew] at hc hf hz hn))
      go_wp2_with fail
      go_ret
      exact ⟨rfl, (by repeat (first | with_reducible exact Gr.refl _ | with_reducible refine Gr.alloc ?_ _ | with_reducible refine Gr.drew ?_ | with_reducible refine Gr.trans ?_ (by assumption) | with_reducible refine Gr.setCell ?_ (by (try simp); (try omega)) _))⟩
    · have d2 : decide (12 < (n : Int)) = true := decide_eq_true (by omega)
      clear hF hV hbad h1 h2
      go_enter Tryd.func9, Tryd.ntmps9
      go_wp2_with fail
      (go_at_call 11; with_reducible refine (fhead_any _ (HP.out.keep (by repeat (first | with_reducible exact Gr.refl _ | with_reducible refine Gr.alloc ?_ _ | with_reducible refine Gr.drew ?_ | with_reducible refine Gr.trans ?_ (by assumption) | with_reducible refine Gr.setCell ?_ (by (try simp); (try omega)) _))) (HL.out.keep (by repeat (first | with_reducible exact Gr.refl _ | with_reducible refine Gr.alloc ?_ _ | with_reducible refine Gr.drew ?_ | with_reducible refine Gr.trans ?_ (by assumption) | with_reducible refine Gr.setCell ?_ (by (try simp); (try omega)) _)))).mono ?_; rintro e w' ⟨rfl, hb⟩; have hz := hb.le; obtain ⟨hc, hf⟩ := hb.cells; have hn := hb.cellsN; (try simp only [World.size_alloc] at hc hf hz hn); (try simp only [World.size_setCell] at hc hf hz hn); (try simp only [World.size_drew] at hc hf hz hn))
      go_wp2_with fail
      (go_at_call 12; with_reducible refine (HF.out _).mono ?_; rintro e w' ⟨rfl, hb⟩; have hz := hb.le; obtain ⟨hc, hf⟩ := hb.cells; have hn := hb.cellsN; (try simp only [World.size_alloc] at hc hf hz hn); (try simp only [World.size_setCell] at hc hf hz hn); (try simp only [World.size_drew] at hc hf hz hn))
      go_wp2_with fail
      go_ret
      exact ⟨rfl, (by repeat (first | with_reducible exact Gr.refl _ | with_reducible refine Gr.alloc ?_ _ | with_reducible refine Gr.drew ?_ | with_reducible refine Gr.trans ?_ (by assumption) | with_reducible refine Gr.setCell ?_ (by (try simp); (try omega)) _))⟩
  · rw [h1] at hF
    have HF := Lib.hid hF
    clear hF hV hbad h1
    go_enter Tryd.func9, Tryd.ntmps9
    go_wp2_with fail
    (go_at_call 11; with_reducible refine (fhead_any _ (HP.out.keep (by repeat (first | with_reducible exact Gr.refl _ | with_reducible refine Gr.alloc ?_ _ | with_reducible refine Gr.drew ?_ | with_reducible refine Gr.trans ?_ (by assumption) | with_reducible refine Gr.setCell ?_ (by (try simp); (try omega)) _))) (HL.out.keep (by repeat (first | with_reducible exact Gr.refl _ | with_reducible refine Gr.alloc ?_ _ | with_reducible refine Gr.drew ?_ | with_reducible refine Gr.trans ?_ (by assumption) | with_reducible refine Gr.setCell ?_ (by (try simp); (try omega)) _)))).mono ?_; rintro e w' ⟨rfl, hb⟩; have hz := hb.le; obtain ⟨hc, hf⟩ := hb.cells; have hn := hb.cellsN; (try simp only [World.size_alloc] at hc hf hz hn); (try simp only [World.size_setCell] at hc hf hz hn); (try simp only [World.size_drew] at hc hf hz hn))
    go_wp2_with fail
    (go_at_call 12; with_reducible refine (HF.out _).mono ?_; rintro e w' ⟨rfl, hb⟩; have hz := hb.le; obtain ⟨hc, hf⟩ := hb.cells; have hn := hb.cellsN; (try simp only [World.size_alloc] at hc hf hz hn); (try simp only [World.size_setCell] at hc hf hz hn); (try simp only [World.size_drew] at hc hf hz hn))
    go_wp2_with fail
    go_ret
    exact ⟨rfl, (by repeat (first | with_reducible exact Gr.refl _ | with_reducible refine Gr.alloc ?_ _ | with_reducible refine Gr.drew ?_ | with_reducible refine Gr.trans ?_ (by assumption) | with_reducible refine Gr.setCell ?_ (by (try simp); (try omega)) _))⟩

set_option maxRecDepth 100000 in
set_option maxHeartbeats 16000000 in
theorem lmov_err (by_ : Int) (O Q : Option Addr) (no co nf cq : Nat) (sp tl : Int) (o q : Nat → Nat → Int) (A : Option Addr) (n c : Nat) (f : Nat → Nat → Int) (w : World) (hP : Primes w) (hL : Logs w) (hO : RowsAt w 6 O no o) (hQ : RowsAt w 6 Q nf q) (hA : RowsAt w 2 A n f) (hno : no ≤ 9223372036854775807) (hnf : nf ≤ 9223372036854775807) (hnc : n ≤ c) (hgood : (fewB no nf 0 && (decide (n ≤ 12) && neckB no o nf q sp tl)) = true) (hbad : allEx no nf f n = false) :
    Calls Tryd.prog 9 #[.agg #[.slice O no co, .slice Q nf cq, .int .i64 sp, .int .i64 tl], .slice A n c, .int .u8 by_] w fun e w' => e = .returned (.bool true) ∧ Gr w w' := by
  simp only [Bool.and_eq_true, decide_eq_true_eq] at hgood
  obtain ⟨hfew, h12, hok⟩ := hgood
  have HP := Lib.hid hP; have HL := Lib.hid hL
  have hF := fun W => few_any O Q none no co nf cq 0 0 sp tl W
  have hV := fun W (g : Gr w W) => rneck_any O Q no co nf cq sp tl o q W (hO.keep g) (hQ.keep g) hno hnf
  have hFt := fun W (g : Gr w W) => ffits_any O Q no co nf cq sp tl o q A n c f W (hP.keep g) (hO.keep g) (hQ.keep g) (hA.keep g) hno hnf (by omega) hnc
  rw [hfew] at hF
  rw [hok] at hV
  rw [hok, hbad] at hFt
  have HF := Lib.hid hF; have HV := Lib.hid hV; have HFT := Lib.hid hFt
  have d2 : decide (12 < (n : Int)) = false := decide_eq_false (by omega)
  clear hF hV hFt hfew hok hbad hP hL hO hQ hA
  generalize heldB sp f n = hb0 at *
  go_enter Tryd.func9, Tryd.ntmps9
  go_wp2_with fail
  (go_at_call 11; with_reducible refine (fhead_any _ (HP.out.keep (by repeat (first | with_reducible exact Gr.refl _ | with_reducible refine Gr.alloc ?_ _ | with_reducible refine Gr.drew ?_ | with_reducible refine Gr.trans ?_ (by assumption) | with_reducible refine Gr.setCell ?_ (by (try simp); (try omega)) _))) (HL.out.keep (by repeat (first | with_reducible exact Gr.refl _ | with_reducible refine Gr.alloc ?_ _ | with_reducible refine Gr.drew ?_ | with_reducible refine Gr.trans ?_ (by assumption) | with_reducible refine Gr.setCell ?_ (by (try simp); (try omega)) _)))).mono ?_; rintro e w' ⟨rfl, hb⟩; have hz := hb.le; obtain ⟨hc, hf⟩ := hb.cells; have hn := hb.cellsN; (try simp only [World.size_alloc] at hc hf hz hn); (try simp only [World.size_setCell] at hc hf hz hn); (try simp only [World.size_drew] at hc hf hz hn))
  go_wp2_with fail
  (go_at_call 12; with_reducible refine (HF.out _).mono ?_; rintro e w' ⟨rfl, hb⟩; have hz := hb.le; obtain ⟨hc, hf⟩ := hb.cells; have hn := hb.cellsN; (try simp only [World.size_alloc] at hc hf hz hn); (try simp only [World.size_setCell] at hc hf hz hn); (try simp only [World.size_drew] at hc hf hz hn))
  go_wp2_with fail
  (go_at_call 14; with_reducible refine (HV.out _ (by repeat (first | with_reducible exact Gr.refl _ | with_reducible refine Gr.alloc ?_ _ | with_reducible refine Gr.drew ?_ | with_reducible refine Gr.trans ?_ (by assumption) | with_reducible refine Gr.setCell ?_ (by (try simp); (try omega)) _))).mono ?_; rintro e w' ⟨rfl, hb⟩; have hz := hb.le; obtain ⟨hc, hf⟩ := hb.cells; have hn := hb.cellsN; (try simp only [World.size_alloc] at hc hf hz hn); (try simp only [World.size_setCell] at hc hf hz hn); (try simp only [World.size_drew] at hc hf hz hn))
  go_wp2_with fail
  (go_at_call 18; with_reducible refine (HFT.out _ (by repeat (first | with_reducible exact Gr.refl _ | with_reducible refine Gr.alloc ?_ _ | with_reducible refine Gr.drew ?_ | with_reducible refine Gr.trans ?_ (by assumption) | with_reducible refine Gr.setCell ?_ (by (try simp); (try omega)) _))).mono ?_; rintro e w' ⟨rfl, hb⟩; have hz := hb.le; obtain ⟨hc, hf⟩ := hb.cells; have hn := hb.cellsN; (try simp only [World.size_alloc] at hc hf hz hn); (try simp only [World.size_setCell] at hc hf hz hn); (try simp only [World.size_drew] at hc hf hz hn))
  go_wp2_with fail
  go_ret
  exact ⟨rfl, (by repeat (first | with_reducible exact Gr.refl _ | with_reducible refine Gr.alloc ?_ _ | with_reducible refine Gr.drew ?_ | with_reducible refine Gr.trans ?_ (by assumption) | with_reducible refine Gr.setCell ?_ (by (try simp); (try omega)) _))⟩

set_option maxRecDepth 100000 in
set_option maxHeartbeats 16000000 in
theorem lmov_ok (by_ : Int) (O Q : Option Addr) (no co nf cq : Nat) (sp tl : Int) (o q : Nat → Nat → Int) (A : Option Addr) (n c : Nat) (f : Nat → Nat → Int) (w : World) (hP : Primes w) (hL : Logs w) (hO : RowsAt w 6 O no o) (hQ : RowsAt w 6 Q nf q) (hA : RowsAt w 2 A n f) (hno : no ≤ 9223372036854775807) (hnf : nf ≤ 9223372036854775807) (hnc : n ≤ c) (hy0 : 0 ≤ by_) (hy1 : by_ ≤ 255) (hgood : (fewB no nf 0 && (decide (n ≤ 12) && neckB no o nf q sp tl)) = true) (hex : allEx no nf f n = true) :
    Calls Tryd.prog 9 #[.agg #[.slice O no co, .slice Q nf cq, .int .i64 sp, .int .i64 tl], .slice A n c, .int .u8 by_] w fun e w' => e = .returned (.bool true) ∧ Gr w w' := by
  simp only [Bool.and_eq_true, decide_eq_true_eq] at hgood
  obtain ⟨hfew, h12, hok⟩ := hgood
  have hlim := (neckB_parts hok).1
  have hrange : ∀ i, i < n → 0 ≤ f i 0 ∧ f i 0 < (no : Int) ∧ 0 ≤ f i 1 ∧ f i 1 ≤ (nf : Int) := fun i hi => by
    have := allN_at hex hi
    simpa only [exB, decide_eq_true_eq] using this
  have HP := Lib.hid hP; have HL := Lib.hid hL
  have hF := fun W => few_any O Q none no co nf cq 0 0 sp tl W
  have hV := fun W (g : Gr w W) => rneck_any O Q no co nf cq sp tl o q W (hO.keep g) (hQ.keep g) hno hnf
  have hFt := fun W (g : Gr w W) => ffits_any O Q no co nf cq sp tl o q A n c f W (hP.keep g) (hO.keep g) (hQ.keep g) (hA.keep g) hno hnf (by omega) hnc
  rw [hfew] at hF
  rw [hok] at hV
  rw [hok, hex] at hFt
  have hm0 : 0 ≤ by_ % 16 := by omega
  have hm1 : by_ % 16 ≤ 15 := by omega
  have hFM := fun (A2 : Option Addr) (c2 : Nat) W (g : Gr w W) (h2 : RowsAt W 2 A2 n (movF f (by_ % 16))) (hc2 : n ≤ c2) (hx : ∀ i, i < n → movF f (by_ % 16) i 1 ≤ (nf : Int)) => (show Calls Tryd.prog 18 #[.agg #[.slice O no co, .slice Q nf cq, .int .i64 sp, .int .i64 tl], .slice A2 n c2] W fun e w' => e = .returned (.tuple #[.bool (heldB sp f n), .int .i64 0]) ∧ Gr W w' from by
    have z := ffits_any O Q no co nf cq sp tl o q A2 n c2 (movF f (by_ % 16)) W (hP.keep g) (hO.keep g) (hQ.keep g) h2 hno hnf (by omega) hc2
    have e1 : allEx no nf (movF f (by_ % 16)) n = true := by
      refine allEx_all fun i hi => exB_yes ⟨?_, ?_, ?_, hx i hi⟩
      · rw [movF_0]; exact (hrange i hi).1
      · rw [movF_0]; exact (hrange i hi).2.1
      · rw [movF_1]; have := (hrange i hi).2.2.1; split <;> omega
    rw [hok, e1, heldB_mov hm0 (fun i hi => (hrange i hi).2.2.1)] at z
    exact z)
  obtain ⟨i0, hinfo, hz0, hz1, hz2⟩ := info_parts infoFret
  have HINF := Lib.hid (And.intro hinfo (And.intro hz0 (And.intro hz1 hz2)))
  have HF := Lib.hid hF; have HV := Lib.hid hV; have HFT := Lib.hid hFt; have HFM := Lib.hid hFM; have HRG := Lib.hid hrange; have HA := Lib.hid hA
  have d2 : decide (12 < (n : Int)) = false := decide_eq_false (by omega)
  have hwb : IntKind.i64.wrap by_ = by_ := IntWalk.i64_in _ ⟨by omega, by omega⟩
  have htm : by_.tmod 16 = by_ % 16 := Int.tmod_eq_emod_of_nonneg hy0
  clear hF hV hFt hFM hrange hfew hok hex hP hL hO hQ hA hinfo hz0 hz1 hz2
  generalize heldB sp f n = hb0 at *
  go_enter Tryd.func9, Tryd.ntmps9
  go_wp2_with fail
  (go_at_call 11; with_reducible refine (fhead_any _ (HP.out.keep (by repeat (first | with_reducible exact Gr.refl _ | with_reducible refine Gr.alloc ?_ _ | with_reducible refine Gr.drew ?_ | with_reducible refine Gr.trans ?_ (by assumption) | with_reducible refine Gr.setCell ?_ (by (try simp); (try omega)) _))) (HL.out.keep (by repeat (first | with_reducible exact Gr.refl _ | with_reducible refine Gr.alloc ?_ _ | with_reducible refine Gr.drew ?_ | with_reducible refine Gr.trans ?_ (by assumption) | with_reducible refine Gr.setCell ?_ (by (try simp); (try omega)) _)))).mono ?_; rintro e w' ⟨rfl, hb⟩; have hz := hb.le; obtain ⟨hc, hf⟩ := hb.cells; have hn := hb.cellsN; (try simp only [World.size_alloc] at hc hf hz hn); (try simp only [World.size_setCell] at hc hf hz hn); (try simp only [World.size_drew] at hc hf hz hn))
  go_wp2_with fail
  (go_at_call 12; with_reducible refine (HF.out _).mono ?_; rintro e w' ⟨rfl, hb⟩; have hz := hb.le; obtain ⟨hc, hf⟩ := hb.cells; have hn := hb.cellsN; (try simp only [World.size_alloc] at hc hf hz hn); (try simp only [World.size_setCell] at hc hf hz hn); (try simp only [World.size_drew] at hc hf hz hn))
  go_wp2_with fail
  (go_at_call 14; with_reducible refine (HV.out _ (by repeat (first | with_reducible exact Gr.refl _ | with_reducible refine Gr.alloc ?_ _ | with_reducible refine Gr.drew ?_ | with_reducible refine Gr.trans ?_ (by assumption) | with_reducible refine Gr.setCell ?_ (by (try simp); (try omega)) _))).mono ?_; rintro e w' ⟨rfl, hb⟩; have hz := hb.le; obtain ⟨hc, hf⟩ := hb.cells; have hn := hb.cellsN; (try simp only [World.size_alloc] at hc hf hz hn); (try simp only [World.size_setCell] at hc hf hz hn); (try simp only [World.size_drew] at hc hf hz hn))
  go_wp2_with fail
  (go_at_call 18; with_reducible refine (HFT.out _ (by repeat (first | with_reducible exact Gr.refl _ | with_reducible refine Gr.alloc ?_ _ | with_reducible refine Gr.drew ?_ | with_reducible refine Gr.trans ?_ (by assumption) | with_reducible refine Gr.setCell ?_ (by (try simp); (try omega)) _))).mono ?_; rintro e w' ⟨rfl, hb⟩; have hz := hb.le; obtain ⟨hc, hf⟩ := hb.cells; have hn := hb.cellsN; (try simp only [World.size_alloc] at hc hf hz hn); (try simp only [World.size_setCell] at hc hf hz hn); (try simp only [World.size_drew] at hc hf hz hn))
  have HNK : Hid (NeckAt w' w.heap.size O Q no co nf cq sp tl) := Lib.hid ⟨by omega, by simp [go_sem, *], by simp [go_sem, *], by simp [go_sem, *], by simp [go_sem, *]⟩
  have HG := Lib.hid (show Gr w w' from (by repeat (first | with_reducible exact Gr.refl _ | with_reducible refine Gr.alloc ?_ _ | with_reducible refine Gr.drew ?_ | with_reducible refine Gr.trans ?_ (by assumption) | with_reducible refine Gr.setCell ?_ (by (try simp); (try omega)) _)))
  clear hb hz hc hf hn HF HV HFT
  obtain ⟨W0, rfl⟩ : ∃ W0 : World, W0 = w' := ⟨_, rfl⟩
  have HL0 : Hid (OwnL W0.heap.size 37 2 W0 (.slice none 0 0) 0 (rowC (movF f (by_ % 16)) 0) W0) := Lib.hid (OwnL.start _ _ _ _ (Nat.le_refl _))
  go_wp2_with fail
  generalize hmm : by_ % 16 = m at *
  go_loopw [10, 44] (fun lv iv wr => ∃ (LV : Value) (i : Nat), LV = lv ∧ i ≤ n ∧ iv = .int .i64 (i : Int) ∧ (∀ j, j < i → movF f m j 1 ≤ (nf : Int)) ∧ OwnL W0.heap.size 37 2 W0 LV i (rowC (movF f m) i) wr) (fun _ iv _ => n - (intOf iv).toNat)
  case atStart => exact ⟨_, 0, rfl, Nat.zero_le _, rfl, fun j h => by omega, HL0.out⟩
  case round =>
    obtain ⟨lv, i, rfl, hin, rfl, hall, hL⟩ := hrel
    have HLL := Lib.hid hL; have HAL := Lib.hid hall
    have hgr : Gr W0 wr := hL.toGr (Gr.refl _) (Nat.le_refl _)
    have HGR := Lib.hid hgr
    have hsz := hL.size
    obtain ⟨hl0, b0, b1, b2, b3⟩ := HNK.out.keep hgr
    clear hL hall HL0
    obtain ⟨wo, rfl⟩ : ∃ wo : World, wo = wr := ⟨_, rfl⟩
    by_cases hlt : i < n
    · have hlt' : decide ((i : Int) < (n : Int)) = true := decide_eq_true (by omega)
      obtain ⟨b, off, rfl, hbl, c0, c1⟩ := (HA.out.keep (HG.out.trans hgr)).two hlt
      obtain ⟨r0, r1, r2, r3⟩ := HRG.out i hlt
      by_cases hz : f i 1 = 0
      · have HE1 : movF f m i 1 = 0 := by rw [movF_1, if_pos hz]
        have HAN : Hid (∀ j, j < i + 1 → movF f m j 1 ≤ (nf : Int)) := Lib.hid (fun j hj => by
          by_cases e : j = i
          · subst e; rw [HE1]; omega
          · exact HAL.out j (by omega))
        rw [hz] at c1
        have hcn : decide ((nf : Int) < 0) = false := decide_eq_false (by omega)
        have hg1 : Gr wo (wo.alloc (.cells #[.int .i64 (f i 0), .int .i64 (0)] 37)) := (Gr.refl _).alloc _
        have HL2 := Lib.hid (HLL.out.gr hg1)
        have hg0 : (wo.alloc (.cells #[.int .i64 (f i 0), .int .i64 (0)] 37)).cell? ⟨wo.heap.size, 0, none⟩ = some (.int .i64 (f i 0)) := by simp [go_sem]
        have hg2 : (wo.alloc (.cells #[.int .i64 (f i 0), .int .i64 (0)] 37)).cell? ⟨wo.heap.size, 1, none⟩ = some (.int .i64 (0)) := by simp [go_sem]
        have hg3 : W0.heap.size ≤ (wo.alloc (.cells #[.int .i64 (f i 0), .int .i64 (0)] 37)).heap.size := by simp; omega
        have hg4 : wo.heap.size < (wo.alloc (.cells #[.int .i64 (f i 0), .int .i64 (0)] 37)).heap.size := by simp
        go_upto_region 15 with fail
        clear hg1 c0 c1 hl0 b0 b1 b2 b3 HLL
        generalize wo.alloc (.cells #[.int .i64 (f i 0), .int .i64 (0)] 37) = wq at *
        go_wp2_with (at_builtin; refine wpList_append_own _ rfl _ _ 25 rfl W0.heap.size 37 i0 (.agg #[.int .i64 0, .int .i64 0]) 2 16 Tryd.underlying25 HINF.out.1 HINF.out.2.1 HINF.out.2.2.1 HINF.out.2.2.2 rfl (by decide) _ _ _ rfl (HL2.out.own.alloc _) ⟨wq.heap.size, 0, none⟩ 1 1 [.int .i64 (f i 0), .int .i64 (0)] rfl rfl (cell_two_new _ _ _ _) (by intro u hu; simp at hu; rcases hu with rfl | rfl <;> rfl) (by unfold maxLen; omega) (by omega) (by simp; omega) ?_; intro lv' w3 hown1 hgrow hnil)
        have HL3 : Hid (OwnL W0.heap.size 37 2 W0 lv' (i + 1) (rowC (movF f m) (i + 1)) w3) := Lib.hid (by
          have z := (HL2.out.alloc _).grown hown1 hgrow
          rw [show rowC (movF f m) (i + 1) = rowC (movF f m) i ++ [.int .i64 (f i 0), .int .i64 (0)] by simp only [rowC, movF_0, HE1]]
          exact z)
        clear hown1 hgrow hnil
        go_wp2_with fail
        go_roundw
        case rel => exact ⟨_, i + 1, rfl, by omega, by go_num, HAN.out, HL3.out⟩
        case measure => simp [intOf]; omega
      · have HE1 : movF f m i 1 = f i 1 + m := by rw [movF_1, if_neg hz]
        have hzb : (f i 1 != 0) = true := by simpa using hz
        have hzb2 : (f i 1 == 0) = false := by simpa using hz
        have hwm : IntKind.i64.wrap (f i 1 + m) = f i 1 + m := IntWalk.i64_in _ ⟨by omega, by omega⟩
        by_cases hc : (nf : Int) < f i 1 + m
        · have hcn : decide ((nf : Int) < f i 1 + m) = true := decide_eq_true hc
          clear hz HE1 hc
          go_wp2_with fail
          go_ret
          exact ⟨rfl, HG.out.trans (HGR.out.trans (by repeat (first | with_reducible exact Gr.refl _ | with_reducible refine Gr.alloc ?_ _ | with_reducible refine Gr.drew ?_ | with_reducible refine Gr.trans ?_ (by assumption) | with_reducible refine Gr.setCell ?_ (by (try simp); (try omega)) _)))⟩
        · have hcn : decide ((nf : Int) < f i 1 + m) = false := decide_eq_false hc
          have HAN : Hid (∀ j, j < i + 1 → movF f m j 1 ≤ (nf : Int)) := Lib.hid (fun j hj => by
            by_cases e : j = i
            · subst e; rw [HE1]; omega
            · exact HAL.out j (by omega))
          clear hz hc
          have hg1 : Gr wo (wo.alloc (.cells #[.int .i64 (f i 0), .int .i64 (f i 1 + m)] 37)) := (Gr.refl _).alloc _
          have HL2 := Lib.hid (HLL.out.gr hg1)
          have hg0 : (wo.alloc (.cells #[.int .i64 (f i 0), .int .i64 (f i 1 + m)] 37)).cell? ⟨wo.heap.size, 0, none⟩ = some (.int .i64 (f i 0)) := by simp [go_sem]
          have hg2 : (wo.alloc (.cells #[.int .i64 (f i 0), .int .i64 (f i 1 + m)] 37)).cell? ⟨wo.heap.size, 1, none⟩ = some (.int .i64 (f i 1 + m)) := by simp [go_sem]
          have hg3 : W0.heap.size ≤ (wo.alloc (.cells #[.int .i64 (f i 0), .int .i64 (f i 1 + m)] 37)).heap.size := by simp; omega
          have hg4 : wo.heap.size < (wo.alloc (.cells #[.int .i64 (f i 0), .int .i64 (f i 1 + m)] 37)).heap.size := by simp
          go_upto_region 15 with fail
          clear hg1 c0 c1 hl0 b0 b1 b2 b3 HLL
          generalize wo.alloc (.cells #[.int .i64 (f i 0), .int .i64 (f i 1 + m)] 37) = wq at *
          go_wp2_with (at_builtin; refine wpList_append_own _ rfl _ _ 25 rfl W0.heap.size 37 i0 (.agg #[.int .i64 0, .int .i64 0]) 2 16 Tryd.underlying25 HINF.out.1 HINF.out.2.1 HINF.out.2.2.1 HINF.out.2.2.2 rfl (by decide) _ _ _ rfl (HL2.out.own.alloc _) ⟨wq.heap.size, 0, none⟩ 1 1 [.int .i64 (f i 0), .int .i64 (f i 1 + m)] rfl rfl (cell_two_new _ _ _ _) (by intro u hu; simp at hu; rcases hu with rfl | rfl <;> rfl) (by unfold maxLen; omega) (by omega) (by simp; omega) ?_; intro lv' w3 hown1 hgrow hnil)
          have HL3 : Hid (OwnL W0.heap.size 37 2 W0 lv' (i + 1) (rowC (movF f m) (i + 1)) w3) := Lib.hid (by
            have z := (HL2.out.alloc _).grown hown1 hgrow
            rw [show rowC (movF f m) (i + 1) = rowC (movF f m) i ++ [.int .i64 (f i 0), .int .i64 (f i 1 + m)] by simp only [rowC, movF_0, HE1]]
            exact z)
          clear hown1 hgrow hnil
          go_wp2_with fail
          go_roundw
          case rel => exact ⟨_, i + 1, rfl, by omega, by go_num, HAN.out, HL3.out⟩
          case measure => simp [intOf]; omega
    · skip
      obtain rfl : n = i := by omega
      obtain ⟨A2, c2, rfl, hrows, -⟩ := rows_of_own HLL.out.own (movF f m) (fun i j hi hj => rowC_at _ _ i j hi hj)
      have hcap := own_cap HLL.out.own
      have HC := Lib.hid (fun W (g : Gr wo W) => HFM.out A2 c2 W (HG.out.trans (HGR.out.trans g)) (hrows.keep g) hcap HAL.out)
      clear hrows hcap
      go_wp2_with fail
      (go_at_call 18; with_reducible refine (HC.out _ (by repeat (first | with_reducible exact Gr.refl _ | with_reducible refine Gr.alloc ?_ _ | with_reducible refine Gr.drew ?_ | with_reducible refine Gr.trans ?_ (by assumption) | with_reducible refine Gr.setCell ?_ (by (try simp); (try omega)) _))).mono ?_; rintro e w' ⟨rfl, hb⟩; have hz := hb.le; obtain ⟨hc, hf⟩ := hb.cells; have hn := hb.cellsN; (try simp only [World.size_alloc] at hc hf hz hn); (try simp only [World.size_setCell] at hc hf hz hn); (try simp only [World.size_drew] at hc hf hz hn))
      go_wp2_with fail
      go_ret
      exact ⟨ret_bool (by simp), HG.out.trans (HGR.out.trans (by repeat (first | with_reducible exact Gr.refl _ | with_reducible refine Gr.alloc ?_ _ | with_reducible refine Gr.drew ?_ | with_reducible refine Gr.trans ?_ (by assumption) | with_reducible refine Gr.setCell ?_ (by (try simp); (try omega)) _)))⟩
theorem lmov_law (by_ : Int) (O Q : Option Addr) (no co nf cq : Nat) (sp tl : Int) (o q : Nat → Nat → Int) (A : Option Addr) (n c : Nat) (f : Nat → Nat → Int) (w : World) (hP : Primes w) (hL : Logs w) (hO : RowsAt w 6 O no o) (hQ : RowsAt w 6 Q nf q) (hA : RowsAt w 2 A n f) (hno : no ≤ 9223372036854775807) (hnf : nf ≤ 9223372036854775807) (hnc : n ≤ c) (hy : 0 ≤ by_ ∧ by_ ≤ 255) :
    Calls Tryd.prog 9 #[.agg #[.slice O no co, .slice Q nf cq, .int .i64 sp, .int .i64 tl], .slice A n c, .int .u8 by_] w fun e w' => e = .returned (.bool true) ∧ Gr w w' := by
  rcases bool_tf (fewB no nf 0 && (decide (n ≤ 12) && neckB no o nf q sp tl)) with h | h
  · rcases bool_tf (allEx no nf f n) with h2 | h2
    · exact lmov_ok by_ O Q no co nf cq sp tl o q A n c f w hP hL hO hQ hA hno hnf hnc hy.1 hy.2 h h2
    · exact lmov_err by_ O Q no co nf cq sp tl o q A n c f w hP hL hO hQ hA hno hnf hnc h h2
  · exact lmov_skip by_ O Q no co nf cq sp tl o q A n c w hP hL hO hQ hno hnf h
end Go.Proofs.YtohalcookjbaaaaDoor
