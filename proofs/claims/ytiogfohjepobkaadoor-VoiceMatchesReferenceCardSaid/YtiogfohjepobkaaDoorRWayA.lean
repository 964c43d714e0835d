/-
  schismaref14.Way, the plain side: the distances level by level.
  schismaref14.Way refuses what is not valid.
  schismaref14.Way at valid inputs.
-/
import Derived.Test.YtiogfohjepobkaaDoorWayE
import Derived.Test.YtiogfohjepobkaaDoorRNSt
import Derived.Test.YtiogfohjepobkaaDoorR3V
import Derived.Test.YtiogfohjepobkaaDoorHeld
import Derived.BigQuiet
import Derived.Deep.QuietTactic
import Derived.IntWalk
import Derived.Deep.DeepCutAuto
import Derived.Test.YtiogfohjepobkaaDoorVHd
namespace Go.Proofs.YtiogfohjepobkaaDoor
open Go.RowKit

/-- What the pass of the reference needs to know of the distances. -/
structure LevF (J : Nat → Nat → Bool) (n tz : Nat) (ht : Bool) (far : Nat → Int) : Prop where
  ge : ∀ i, i < n → -1 ≤ far i
  zero : ∀ i, i < n → (far i = 0 ↔ i = tz ∧ ht = true)
  lt : ∀ i, i < n → far i + 1 ≤ (n : Int)
  next : ∀ i, i < n → 0 < far i → ∃ k, k < n ∧ far k = far i - 1 ∧ J i k = true
  back : ∀ i k, i < n → k < n → 0 ≤ far k → J i k = true → 0 ≤ far i ∧ far i ≤ far k + 1
theorem levF_none (J : Nat → Nat → Bool) (n tz : Nat) : LevF J n tz false (fun _ => -1) :=
  ⟨fun _ _ => Int.le_refl _, fun _ _ => ⟨fun h => absurd h (by omega), fun h => by cases h.2⟩, fun _ h => by omega, fun _ _ h => by omega, fun _ _ _ _ h => by omega⟩
theorem levF_far {J : Nat → Nat → Bool} {n tz : Nat} {far : Nat → Int} (h : FarOk J n tz far) (hn : ∀ y, y < n → far y + 1 ≤ (n : Int)) : LevF J n tz true far := by
  refine ⟨fun i hi => ?_, fun i hi => ?_, hn, fun i hi hp => ?_, fun i k hi hk h0 hj => ?_⟩
  · rcases h i hi with ⟨e, _⟩ | ⟨d, e, _⟩ <;> omega
  · constructor
    · intro e0
      rcases h i hi with ⟨e, _⟩ | ⟨d, e, h1, h2⟩
      · omega
      · obtain rfl : d = 0 := by omega
        exact ⟨h1, rfl⟩
    · rintro ⟨rfl, -⟩
      rcases h i hi with ⟨e, hno⟩ | ⟨d, e, h1, h2⟩
      · exact (hno 0 rfl).elim
      · rcases Nat.eq_zero_or_pos d with rfl | hd
        · omega
        · exact (h2 0 hd rfl).elim
  · obtain ⟨k, hk, hb⟩ := next_is h hi hp
    simp only [nextB, Bool.and_eq_true, decide_eq_true_eq] at hb
    exact ⟨k, hk, hb.1, hb.2⟩
  · rcases h k hk with ⟨e, _⟩ | ⟨d, e, h1, h2⟩
    · omega
    · have hw : Wk J n tz (d + 1) i := ⟨k, hk, hj, h1⟩
      rcases h i hi with ⟨e', hno⟩ | ⟨d', e', h1', h2'⟩
      · exact (hno _ hw).elim
      · refine ⟨by omega, ?_⟩
        rcases Nat.lt_or_ge (d + 1) d' with q | q
        · exact (h2' _ q hw).elim
        · omega
/-- What is labelled before level d. -/
def lev (far : Nat → Int) (d : Nat) (i : Nat) : Int := if far i < (d : Int) then far i else -1
/-- The row while level d stands at note i, whose number is x. -/
def rowW (far : Nat → Int) (d i : Nat) (x : Int) (k : Nat) : Int := if k = i then x else if k < i then lev far (d + 1) k else lev far d k
/-- What note i holds while level d tries the notes below k. -/
def AtI (J : Nat → Nat → Bool) (far : Nat → Int) (d i k : Nat) (x : Int) : Prop := (x = lev far d i ∧ (x < 0 → ∀ j, j < k → ¬ (far j = (d : Int) - 1 ∧ J i j = true))) ∨ (x = (d : Int) ∧ far i = (d : Int))
theorem lev_one {J : Nat → Nat → Bool} {n tz : Nat} {ht : Bool} {far : Nat → Int} (h : LevF J n tz ht far) {i : Nat} (hi : i < n) : lev far 1 i = if i = tz ∧ ht = true then 0 else -1 := by
  have h1 := h.ge i hi
  have h2 := h.zero i hi
  unfold lev
  by_cases e : i = tz ∧ ht = true
  · rw [if_pos e]; have := h2.2 e; rw [if_pos (by omega), this]
  · rw [if_neg e]
    have : ¬ far i = 0 := fun q => e (h2.1 q)
    split <;> omega
theorem lev_last {J : Nat → Nat → Bool} {n tz : Nat} {ht : Bool} {far : Nat → Int} (h : LevF J n tz ht far) {i d : Nat} (hi : i < n) (hd : n ≤ d) : lev far d i = far i := by
  have := h.lt i hi
  unfold lev; rw [if_pos (by omega)]
theorem atI_start (J : Nat → Nat → Bool) (far : Nat → Int) (d i : Nat) : AtI J far d i 0 (lev far d i) := .inl ⟨rfl, fun _ _ h => by omega⟩
theorem rowW_start (far : Nat → Int) (d i j : Nat) : rowW far d i (lev far d i) j = if j < i then lev far (d + 1) j else lev far d j := by
  unfold rowW
  by_cases e : j = i
  · subst e; rw [if_pos rfl, if_neg (by omega)]
  · rw [if_neg e]
/-- The note at hand has been tried in vain. -/
theorem AtI.no {J : Nat → Nat → Bool} {far : Nat → Int} {d i k : Nat} {x : Int} (h : AtI J far d i k x) (hn : ¬ (far k = (d : Int) - 1 ∧ J i k = true)) : AtI J far d i (k + 1) x := by
  rcases h with ⟨h1, h2⟩ | h
  · refine .inl ⟨h1, fun hx j hj => ?_⟩
    by_cases e : j = k
    · subst e; exact hn
    · exact h2 hx j (by omega)
  · exact .inr h
theorem AtI.fix {J : Nat → Nat → Bool} {far : Nat → Int} {d i k : Nat} {x : Int} (h : AtI J far d i k x) (hx : 0 ≤ x) (k' : Nat) : AtI J far d i k' x := by
  rcases h with ⟨h1, h2⟩ | h
  · exact .inl ⟨h1, fun q => by omega⟩
  · exact .inr h
/-- The note at hand leads on. -/
theorem AtI.yes {J : Nat → Nat → Bool} {n tz : Nat} {ht : Bool} {far : Nat → Int} (hF : LevF J n tz ht far) {d i k : Nat} {x : Int} (h : AtI J far d i k x) (hx : x < 0) (hd : 0 < d) (hi : i < n) (hk : k < n) (h1 : far k = (d : Int) - 1) (h2 : J i k = true) : AtI J far d i (k + 1) (d : Int) := by
  rcases h with ⟨q, _⟩ | ⟨q, _⟩
  · refine .inr ⟨rfl, ?_⟩
    obtain ⟨q1, q2⟩ := hF.back i k hi hk (by omega) h2
    unfold lev at q
    split at q
    · omega
    · omega
  · omega
theorem AtI.done {J : Nat → Nat → Bool} {n tz : Nat} {ht : Bool} {far : Nat → Int} (hF : LevF J n tz ht far) {d i k : Nat} {x : Int} (h : AtI J far d i k x) (hd : 0 < d) (hi : i < n) (hk : 0 ≤ x ∨ n ≤ k) : x = lev far (d + 1) i := by
  rcases h with ⟨q, q2⟩ | ⟨q, q2⟩
  · have hge := hF.ge i hi
    unfold lev at q ⊢
    split at q
    · rename_i hl
      rw [if_pos (by omega)]; exact q
    · rename_i hl
      have hx : x < 0 := by omega
      have hkn : n ≤ k := by omega
      have hne : ¬ far i = (d : Int) := fun e => by
        obtain ⟨j, hj, h1, h2⟩ := hF.next i hi (by omega)
        exact q2 hx j (by omega) ⟨by omega, h2⟩
      rw [if_neg (by omega)]; exact q
  · unfold lev
    rw [if_pos (by omega), q, q2]
/-- Whether a note of the row is one step nearer: the row shows it. -/
theorem rowW_is {J : Nat → Nat → Bool} {n tz : Nat} {ht : Bool} {far : Nat → Int} (hF : LevF J n tz ht far) {d i k k' : Nat} {x : Int} (h : AtI J far d i k' x) (hx : x < 0) (hd : 0 < d) (hk : k < n) : rowW far d i x k = (d : Int) - 1 ↔ far k = (d : Int) - 1 := by
  have hge := hF.ge k hk
  unfold rowW
  by_cases e : k = i
  · subst e
    rw [if_pos rfl]
    rcases h with ⟨q, _⟩ | ⟨q, _⟩
    · unfold lev at q
      split at q <;> omega
    · omega
  · rw [if_neg e]
    unfold lev
    split <;> split <;> omega
theorem rowW_end {far : Nat → Int} {d i j : Nat} {x : Int} (hx : x = lev far (d + 1) i) : rowW far d i x j = if j < i + 1 then lev far (d + 1) j else lev far d j := by
  unfold rowW
  by_cases e : j = i
  · subst e; rw [if_pos rfl, if_pos (by omega), hx]
  · rw [if_neg e]
    by_cases q : j < i
    · rw [if_pos q, if_pos (by omega)]
    · rw [if_neg q, if_neg (by omega)]
theorem rowW_set (far : Nat → Int) (d i : Nat) (x y : Int) (k : Nat) : (if k = i then y else rowW far d i x k) = rowW far d i y k := by
  unfold rowW
  by_cases e : k = i
  · rw [if_pos e, if_pos e]
  · rw [if_neg e, if_neg e, if_neg e]
end Go.Proofs.YtiogfohjepobkaaDoor

namespace Go.Proofs.YtiogfohjepobkaaDoor
open Go.RowKit

set_option maxRecDepth 100000 in
set_option maxHeartbeats 16000000 in
theorem rway_bad1 (l0 l1 l2 l3 l4 l5 h0 h1 h2 h3 h4 h5 st br : Int) (A : Option Addr) (n c : Nat) (fr tz : Int) (w : World) (hok : voiceOk ⟨l0, l1, l2, l3, l4, l5⟩ ⟨h0, h1, h2, h3, h4, h5⟩ st br = false) :
    Calls Tryd.prog 23 #[.agg #[.int .i64 l0, .int .i64 l1, .int .i64 l2, .int .i64 l3, .int .i64 l4, .int .i64 l5, .int .i64 h0, .int .i64 h1, .int .i64 h2, .int .i64 h3, .int .i64 h4, .int .i64 h5, .int .i64 st, .int .i64 br], .slice A n c, .int .i64 fr, .int .i64 tz] w fun e w' => e = .returned (.tuple #[.slice none 0 0, .int .i64 1]) ∧ Gr w w' := by
  have hV := fun W => rvalid_any l0 l1 l2 l3 l4 l5 h0 h1 h2 h3 h4 h5 st br W
  rw [hok] at hV
  have HV := Lib.hid hV
  clear hV hok
  go_enter Tryd.func23, Tryd.ntmps23
  go_wp2_with fail
  (go_at_call 12; with_reducible refine (HV.out _).mono ?_; rintro e w' ⟨rfl, hb⟩; have hz := hb.le; obtain ⟨hc, hf⟩ := hb.cells; have hn := hb.cellsN; (try simp only [World.size_alloc] at hc hf hz hn); (try simp only [World.size_setCell] at hc hf hz hn); (try simp only [World.size_drew] at hc hf hz hn))
  go_wp2_with fail
  go_ret2
  exact ⟨rfl, (by repeat (first | with_reducible exact Gr.refl _ | with_reducible refine Gr.alloc ?_ _ | with_reducible refine Gr.drew ?_ | with_reducible refine Gr.trans ?_ (by assumption) | with_reducible refine Gr.setCell ?_ (by (try simp); (try omega)) _))⟩

set_option maxRecDepth 100000 in
set_option maxHeartbeats 16000000 in
theorem rway_bad3 (l0 l1 l2 l3 l4 l5 h0 h1 h2 h3 h4 h5 st br : Int) (A : Option Addr) (n c : Nat) (fr tz : Int) (f : Nat → Nat → Int) (w : World) (hA : RowsAt w 6 A n f) (hok : voiceOk ⟨l0, l1, l2, l3, l4, l5⟩ ⟨h0, h1, h2, h3, h4, h5⟩ st br = true) (hn : n ≤ 200) (hv : vecsOk f n = false) :
    Calls Tryd.prog 23 #[.agg #[.int .i64 l0, .int .i64 l1, .int .i64 l2, .int .i64 l3, .int .i64 l4, .int .i64 l5, .int .i64 h0, .int .i64 h1, .int .i64 h2, .int .i64 h3, .int .i64 h4, .int .i64 h5, .int .i64 st, .int .i64 br], .slice A n c, .int .i64 fr, .int .i64 tz] w fun e w' => e = .returned (.tuple #[.slice none 0 0, .int .i64 1]) ∧ Gr w w' := by
  have hV := fun W => rvalid_any l0 l1 l2 l3 l4 l5 h0 h1 h2 h3 h4 h5 st br W
  rw [hok] at hV
  have HV := Lib.hid hV; have HA := Lib.hid hA; have HVK := Lib.hid hv
  clear hV hok hA hv
  go_enter Tryd.func23, Tryd.ntmps23
  go_wp2_with fail
  (go_at_call 12; with_reducible refine (HV.out _).mono ?_; rintro e w' ⟨rfl, hb⟩; have hz := hb.le; obtain ⟨hc, hf⟩ := hb.cells; have hn := hb.cellsN; (try simp only [World.size_alloc] at hc hf hz hn); (try simp only [World.size_setCell] at hc hf hz hn); (try simp only [World.size_drew] at hc hf hz hn))
  go_wp2_with fail
  have HG := Lib.hid (show Gr w w' from (by repeat (first | with_reducible exact Gr.refl _ | with_reducible refine Gr.alloc ?_ _ | with_reducible refine Gr.drew ?_ | with_reducible refine Gr.trans ?_ (by assumption) | with_reducible refine Gr.setCell ?_ (by (try simp); (try omega)) _)))
  clear hb hz hc hf
  obtain ⟨W0, rfl⟩ : ∃ W0 : World, W0 = w' := ⟨_, rfl⟩
  go_loopw [11] (fun i wr => ∃ j : Nat, j ≤ n ∧ i = .int .i64 (j : Int) ∧ vecsOk f j = true ∧ Gr W0 wr) (fun i _ => n - (intOf i).toNat)
  case atStart => exact ⟨0, Nat.zero_le _, rfl, rfl, Gr.refl _⟩
  case round =>
    obtain ⟨j, hj, rfl, he, hg⟩ := hrel
    have HE := Lib.hid he; have HG1 := Lib.hid hg
    clear he hg
    by_cases hlt : j < n
    · obtain ⟨b, off, rfl, hb0, c0, c1, c2, c3, c4, c5⟩ := (HA.out.keep (HG.out.trans HG1.out)).six hlt
      obtain ⟨wp, rfl⟩ : ∃ wp : World, wp = wr := ⟨_, rfl⟩
      have hlt' : (j : Int) < (n : Int) := by omega
      have hj0 : (0 : Int) ≤ (j : Int) := by omega
      have hI := fun W => r3interval_any (f j 0) (f j 1) (f j 2) (f j 3) (f j 4) (f j 5) W
      rcases tfq (allIn ⟨f j 0, f j 1, f j 2, f j 3, f j 4, f j 5⟩ 48 6) with q | q
      · skip
        have HS : Hid (vecsOk f (j + 1) = true) := Lib.hid (by show (vecsOk f j && allIn ⟨f j 0, f j 1, f j 2, f j 3, f j 4, f j 5⟩ 48 6) = true; rw [HE.out, q]; rfl)
        rw [q] at hI
        have HIV := Lib.hid hI
        clear hI q
        go_wp2_with fail
        (go_at_call 26; with_reducible refine (HIV.out _).mono ?_; rintro e w' ⟨rfl, hb⟩; have hz := hb.le; obtain ⟨hc, hf⟩ := hb.cells; have hn := hb.cellsN; (try simp only [World.size_alloc] at hc hf hz hn); (try simp only [World.size_setCell] at hc hf hz hn); (try simp only [World.size_drew] at hc hf hz hn))
        go_wp2_with fail
        go_roundw
        case rel => exact ⟨j + 1, by omega, by go_num, HS.out, HG1.out.trans (by repeat (first | with_reducible exact Gr.refl _ | with_reducible refine Gr.alloc ?_ _ | with_reducible refine Gr.drew ?_ | with_reducible refine Gr.trans ?_ (by assumption) | with_reducible refine Gr.setCell ?_ (by (try simp); (try omega)) _))⟩
        case measure => simp [intOf]; omega
      · skip
        rw [q] at hI
        have HIV := Lib.hid hI
        clear hI q
        go_wp2_with fail
        (go_at_call 26; with_reducible refine (HIV.out _).mono ?_; rintro e w' ⟨rfl, hb⟩; have hz := hb.le; obtain ⟨hc, hf⟩ := hb.cells; have hn := hb.cellsN; (try simp only [World.size_alloc] at hc hf hz hn); (try simp only [World.size_setCell] at hc hf hz hn); (try simp only [World.size_drew] at hc hf hz hn))
        go_wp2_with fail
        go_ret2
        exact ⟨rfl, (HG.out.trans HG1.out).trans (by repeat (first | with_reducible exact Gr.refl _ | with_reducible refine Gr.alloc ?_ _ | with_reducible refine Gr.drew ?_ | with_reducible refine Gr.trans ?_ (by assumption) | with_reducible refine Gr.setCell ?_ (by (try simp); (try omega)) _))⟩
    · obtain rfl : n = j := by omega
      exact absurd (HE.out.symm.trans HVK.out) (by decide)

set_option maxRecDepth 100000 in
set_option maxHeartbeats 16000000 in
theorem rway_bad4 (l0 l1 l2 l3 l4 l5 h0 h1 h2 h3 h4 h5 st br : Int) (A : Option Addr) (n c : Nat) (fr tz : Int) (f : Nat → Nat → Int) (w : World) (hA : RowsAt w 6 A n f) (hok : voiceOk ⟨l0, l1, l2, l3, l4, l5⟩ ⟨h0, h1, h2, h3, h4, h5⟩ st br = true) (hn : n ≤ 200) (hv : vecsOk f n = true) (hft : ¬ (0 ≤ fr ∧ fr < n ∧ 0 ≤ tz ∧ tz < n)) :
    Calls Tryd.prog 23 #[.agg #[.int .i64 l0, .int .i64 l1, .int .i64 l2, .int .i64 l3, .int .i64 l4, .int .i64 l5, .int .i64 h0, .int .i64 h1, .int .i64 h2, .int .i64 h3, .int .i64 h4, .int .i64 h5, .int .i64 st, .int .i64 br], .slice A n c, .int .i64 fr, .int .i64 tz] w fun e w' => e = .returned (.tuple #[.slice none 0 0, .int .i64 1]) ∧ Gr w w' := by
  have hV := fun W => rvalid_any l0 l1 l2 l3 l4 l5 h0 h1 h2 h3 h4 h5 st br W
  rw [hok] at hV
  have HV := Lib.hid hV; have HA := Lib.hid hA; have HVK := Lib.hid hv
  clear hV hok hA hv
  go_enter Tryd.func23, Tryd.ntmps23
  go_wp2_with fail
  (go_at_call 12; with_reducible refine (HV.out _).mono ?_; rintro e w' ⟨rfl, hb⟩; have hz := hb.le; obtain ⟨hc, hf⟩ := hb.cells; have hn := hb.cellsN; (try simp only [World.size_alloc] at hc hf hz hn); (try simp only [World.size_setCell] at hc hf hz hn); (try simp only [World.size_drew] at hc hf hz hn))
  go_wp2_with fail
  have HG := Lib.hid (show Gr w w' from (by repeat (first | with_reducible exact Gr.refl _ | with_reducible refine Gr.alloc ?_ _ | with_reducible refine Gr.drew ?_ | with_reducible refine Gr.trans ?_ (by assumption) | with_reducible refine Gr.setCell ?_ (by (try simp); (try omega)) _)))
  clear hb hz hc hf
  obtain ⟨W0, rfl⟩ : ∃ W0 : World, W0 = w' := ⟨_, rfl⟩
  go_loopw [11] (fun i wr => ∃ j : Nat, j ≤ n ∧ i = .int .i64 (j : Int) ∧ vecsOk f j = true ∧ Gr W0 wr) (fun i _ => n - (intOf i).toNat)
  case atStart => exact ⟨0, Nat.zero_le _, rfl, rfl, Gr.refl _⟩
  case round =>
    obtain ⟨j, hj, rfl, he, hg⟩ := hrel
    have HE := Lib.hid he; have HG1 := Lib.hid hg
    clear he hg
    by_cases hlt : j < n
    · obtain ⟨b, off, rfl, hb0, c0, c1, c2, c3, c4, c5⟩ := (HA.out.keep (HG.out.trans HG1.out)).six hlt
      obtain ⟨wp, rfl⟩ : ∃ wp : World, wp = wr := ⟨_, rfl⟩
      have hlt' : (j : Int) < (n : Int) := by omega
      have hj0 : (0 : Int) ≤ (j : Int) := by omega
      have hI := fun W => r3interval_any (f j 0) (f j 1) (f j 2) (f j 3) (f j 4) (f j 5) W
      have q : allIn ⟨f j 0, f j 1, f j 2, f j 3, f j 4, f j 5⟩ 48 6 = true := vecsOk_at HVK.out j hlt
      have HS : Hid (vecsOk f (j + 1) = true) := Lib.hid (by show (vecsOk f j && allIn ⟨f j 0, f j 1, f j 2, f j 3, f j 4, f j 5⟩ 48 6) = true; rw [HE.out, q]; rfl)
      rw [q] at hI
      have HIV := Lib.hid hI
      clear hI q
      go_wp2_with fail
      (go_at_call 26; with_reducible refine (HIV.out _).mono ?_; rintro e w' ⟨rfl, hb⟩; have hz := hb.le; obtain ⟨hc, hf⟩ := hb.cells; have hn := hb.cellsN; (try simp only [World.size_alloc] at hc hf hz hn); (try simp only [World.size_setCell] at hc hf hz hn); (try simp only [World.size_drew] at hc hf hz hn))
      go_wp2_with fail
      go_roundw
      case rel => exact ⟨j + 1, by omega, by go_num, HS.out, HG1.out.trans (by repeat (first | with_reducible exact Gr.refl _ | with_reducible refine Gr.alloc ?_ _ | with_reducible refine Gr.drew ?_ | with_reducible refine Gr.trans ?_ (by assumption) | with_reducible refine Gr.setCell ?_ (by (try simp); (try omega)) _))⟩
      case measure => simp [intOf]; omega
    · obtain rfl : n = j := by omega
      obtain ⟨wp, rfl⟩ : ∃ wp : World, wp = wr := ⟨_, rfl⟩
      rcases (by omega : fr < 0 ∨ (0 ≤ fr ∧ (n : Int) ≤ fr) ∨ (0 ≤ fr ∧ fr < n ∧ tz < 0) ∨ (0 ≤ fr ∧ fr < n ∧ 0 ≤ tz ∧ (n : Int) ≤ tz)) with q1 | ⟨q1, q2⟩ | ⟨q1, q2, q3⟩ | ⟨q1, q2, q3, q4⟩
      all_goals
        clear hft
        go_wp2_with fail
        go_ret2
        exact ⟨rfl, HG.out.trans (HG1.out.trans (by repeat (first | with_reducible exact Gr.refl _ | with_reducible refine Gr.alloc ?_ _ | with_reducible refine Gr.drew ?_ | with_reducible refine Gr.trans ?_ (by assumption) | with_reducible refine Gr.setCell ?_ (by (try simp); (try omega)) _)))⟩
end Go.Proofs.YtiogfohjepobkaaDoor

namespace Go.Proofs.YtiogfohjepobkaaDoor
open Go.RowKit

/-- What Way of the reference comes to. -/
def RWayRes (J : Nat → Nat → Bool) (n fr : Nat) (far : Nat → Int) (w : World) (e : Ending) (w' : World) : Prop :=
  (far fr < 0 ∧ e = .returned (.tuple #[.slice none 0 0, .int .i64 4]) ∧ Gr w w') ∨
  (0 ≤ far fr ∧ ∃ (l : List Nat) (A : Option Addr) (c : Nat), WayOk J n far fr l ∧ e = .returned (.tuple #[.slice A l.length c, .int .i64 0]) ∧ IntsAt w' A l.length (fun j => (l.getD j 0 : Nat)) ∧ Gr w w')
def natCells (l : List Nat) : List Value := l.map fun x : Nat => Value.int .i64 (x : Int)
theorem natCells_snoc (l : List Nat) (x : Nat) : natCells (l ++ [x]) = natCells l ++ [.int .i64 (x : Int)] := by simp [natCells]
theorem natCells_at (l : List Nat) (j : Nat) (hj : j < l.length) : (natCells l)[j]? = some (.int .i64 ((l.getD j 0 : Nat) : Int)) := by
  simp [natCells, List.getD, hj]
theorem boxKept {W W' : World} {B : Nat} {v0 v1 v2 v3 v4 v5 v6 v7 v8 v9 v10 v11 v12 v13 : Value} (g : Gr W W') (hB : B < W.heap.size) (h : W.cell? ⟨B, 0, none⟩ = some v0 ∧ W.cell? ⟨B, 1, none⟩ = some v1 ∧ W.cell? ⟨B, 2, none⟩ = some v2 ∧ W.cell? ⟨B, 3, none⟩ = some v3 ∧ W.cell? ⟨B, 4, none⟩ = some v4 ∧ W.cell? ⟨B, 5, none⟩ = some v5 ∧ W.cell? ⟨B, 6, none⟩ = some v6 ∧ W.cell? ⟨B, 7, none⟩ = some v7 ∧ W.cell? ⟨B, 8, none⟩ = some v8 ∧ W.cell? ⟨B, 9, none⟩ = some v9 ∧ W.cell? ⟨B, 10, none⟩ = some v10 ∧ W.cell? ⟨B, 11, none⟩ = some v11 ∧ W.cell? ⟨B, 12, none⟩ = some v12 ∧ W.cell? ⟨B, 13, none⟩ = some v13) : W'.cell? ⟨B, 0, none⟩ = some v0 ∧ W'.cell? ⟨B, 1, none⟩ = some v1 ∧ W'.cell? ⟨B, 2, none⟩ = some v2 ∧ W'.cell? ⟨B, 3, none⟩ = some v3 ∧ W'.cell? ⟨B, 4, none⟩ = some v4 ∧ W'.cell? ⟨B, 5, none⟩ = some v5 ∧ W'.cell? ⟨B, 6, none⟩ = some v6 ∧ W'.cell? ⟨B, 7, none⟩ = some v7 ∧ W'.cell? ⟨B, 8, none⟩ = some v8 ∧ W'.cell? ⟨B, 9, none⟩ = some v9 ∧ W'.cell? ⟨B, 10, none⟩ = some v10 ∧ W'.cell? ⟨B, 11, none⟩ = some v11 ∧ W'.cell? ⟨B, 12, none⟩ = some v12 ∧ W'.cell? ⟨B, 13, none⟩ = some v13 := by
  obtain ⟨a0, a1, a2, a3, a4, a5, a6, a7, a8, a9, a10, a11, a12, a13⟩ := h
  exact ⟨(Below.cell (p := ⟨B, 0, none⟩) g hB).trans a0, (Below.cell (p := ⟨B, 1, none⟩) g hB).trans a1, (Below.cell (p := ⟨B, 2, none⟩) g hB).trans a2, (Below.cell (p := ⟨B, 3, none⟩) g hB).trans a3, (Below.cell (p := ⟨B, 4, none⟩) g hB).trans a4, (Below.cell (p := ⟨B, 5, none⟩) g hB).trans a5, (Below.cell (p := ⟨B, 6, none⟩) g hB).trans a6, (Below.cell (p := ⟨B, 7, none⟩) g hB).trans a7, (Below.cell (p := ⟨B, 8, none⟩) g hB).trans a8, (Below.cell (p := ⟨B, 9, none⟩) g hB).trans a9, (Below.cell (p := ⟨B, 10, none⟩) g hB).trans a10, (Below.cell (p := ⟨B, 11, none⟩) g hB).trans a11, (Below.cell (p := ⟨B, 12, none⟩) g hB).trans a12, (Below.cell (p := ⟨B, 13, none⟩) g hB).trans a13⟩
theorem rowW_read {J : Nat → Nat → Bool} {n tz : Nat} {ht : Bool} {far : Nat → Int} (hF : LevF J n tz ht far) {d i k : Nat} {x : Int} (hk : k < n) (h0 : -1 ≤ x) (h1 : x ≤ 200) (hn : n ≤ 200) : -1 ≤ rowW far d i x k ∧ rowW far d i x k ≤ 200 := by
  have a := hF.ge k hk
  have b := hF.lt k hk
  unfold rowW lev
  split
  · exact ⟨h0, h1⟩
  · split <;> split <;> omega
theorem AtI.range {J : Nat → Nat → Bool} {n tz : Nat} {ht : Bool} {far : Nat → Int} (hF : LevF J n tz ht far) {d i k : Nat} {x : Int} (h : AtI J far d i k x) (hi : i < n) (_hd : d ≤ n) (hn : n ≤ 200) : -1 ≤ x ∧ x ≤ 200 := by
  have a := hF.ge i hi
  have b := hF.lt i hi
  rcases h with ⟨rfl, _⟩ | ⟨rfl, _⟩
  · unfold lev; split <;> omega
  · omega

set_option maxRecDepth 100000 in
set_option maxHeartbeats 16000000 in
theorem rway_good (l0 l1 l2 l3 l4 l5 h0 h1 h2 h3 h4 h5 st br : Int) (A : Option Addr) (n c fr tz : Nat) (f : Nat → Nat → Int) (far : Nat → Int) (w : World) (hA : RowsAt w 6 A n f) (hok : voiceOk ⟨l0, l1, l2, l3, l4, l5⟩ ⟨h0, h1, h2, h3, h4, h5⟩ st br = true) (hn200 : n ≤ 200) (hv : vecsOk f n = true) (hfr : fr < n) (htz : tz < n) (hF : LevF (joinB ⟨l0, l1, l2, l3, l4, l5⟩ ⟨h0, h1, h2, h3, h4, h5⟩ st f) n tz (hasB ⟨l0, l1, l2, l3, l4, l5⟩ ⟨h0, h1, h2, h3, h4, h5⟩ ⟨f tz 0, f tz 1, f tz 2, f tz 3, f tz 4, f tz 5⟩) far) (hH : ∀ k, k < n → 0 ≤ far k → hasB ⟨l0, l1, l2, l3, l4, l5⟩ ⟨h0, h1, h2, h3, h4, h5⟩ ⟨f k 0, f k 1, f k 2, f k 3, f k 4, f k 5⟩ = true) :
    Calls Tryd.prog 23 #[.agg #[.int .i64 l0, .int .i64 l1, .int .i64 l2, .int .i64 l3, .int .i64 l4, .int .i64 l5, .int .i64 h0, .int .i64 h1, .int .i64 h2, .int .i64 h3, .int .i64 h4, .int .i64 h5, .int .i64 st, .int .i64 br], .slice A n c, .int .i64 (fr : Int), .int .i64 (tz : Int)] w (RWayRes (joinB ⟨l0, l1, l2, l3, l4, l5⟩ ⟨h0, h1, h2, h3, h4, h5⟩ st f) n fr far w) := by
  have hS := fun W i k (hi : i < n) (hk : k < n) => rstep_ok l0 l1 l2 l3 l4 l5 h0 h1 h2 h3 h4 h5 st br (f i 0) (f i 1) (f i 2) (f i 3) (f i 4) (f i 5) (f k 0) (f k 1) (f k 2) (f k 3) (f k 4) (f k 5) W hok (vecsOk_at hv i hi) (vecsOk_at hv k hk)
  have hJ : ∀ W i k, i < n → k < n → 0 ≤ far k → Calls Tryd.prog 47 #[.agg #[.int .i64 l0, .int .i64 l1, .int .i64 l2, .int .i64 l3, .int .i64 l4, .int .i64 l5, .int .i64 h0, .int .i64 h1, .int .i64 h2, .int .i64 h3, .int .i64 h4, .int .i64 h5, .int .i64 st, .int .i64 br], .agg #[.int .i64 (f i 0), .int .i64 (f i 1), .int .i64 (f i 2), .int .i64 (f i 3), .int .i64 (f i 4), .int .i64 (f i 5)], .agg #[.int .i64 (f k 0), .int .i64 (f k 1), .int .i64 (f k 2), .int .i64 (f k 3), .int .i64 (f k 4), .int .i64 (f k 5)]] W fun e w' => e = .returned (.bool ((joinB ⟨l0, l1, l2, l3, l4, l5⟩ ⟨h0, h1, h2, h3, h4, h5⟩ st f) i k)) ∧ Gr W w' := by
    intro W i k hi hk hq
    have := hS W i k hi hk
    rw [hH k hk hq, Bool.true_and] at this
    exact this
  have HJ := Lib.hid hJ
  clear hS hJ hH
  have hR := fun W => rhas_any l0 l1 l2 l3 l4 l5 h0 h1 h2 h3 h4 h5 st br (f tz 0) (f tz 1) (f tz 2) (f tz 3) (f tz 4) (f tz 5) W
  simp only [hok, vecsOk_at hv tz htz, Bool.true_and, Bool.and_self, cond_true] at hR
  have HR := Lib.hid hR
  have hV := fun W => rvalid_any l0 l1 l2 l3 l4 l5 h0 h1 h2 h3 h4 h5 st br W
  rw [hok] at hV
  have HV := Lib.hid hV; have HA := Lib.hid hA; have HVK := Lib.hid hv; have HF := Lib.hid hF
  clear hV hok hA hv hR hF
  generalize (hasB ⟨l0, l1, l2, l3, l4, l5⟩ ⟨h0, h1, h2, h3, h4, h5⟩ ⟨f tz 0, f tz 1, f tz 2, f tz 3, f tz 4, f tz 5⟩) = ht at *
  generalize (joinB ⟨l0, l1, l2, l3, l4, l5⟩ ⟨h0, h1, h2, h3, h4, h5⟩ st f) = J at *
  obtain ⟨i0, hinfo, hy0, hy1, hy2⟩ := info_parts infoInt
  have HINF := Lib.hid (And.intro hinfo (And.intro hy0 (And.intro hy1 hy2)))
  clear hinfo hy0 hy1 hy2
  go_enter Tryd.func23, Tryd.ntmps23
  go_wp2_with fail
  (go_at_call 12; with_reducible refine (HV.out _).mono ?_; rintro e w' ⟨rfl, hb⟩; have hz := hb.le; obtain ⟨hc, hf⟩ := hb.cells; have hn := hb.cellsN; (try simp only [World.size_alloc] at hc hf hz hn); (try simp only [World.size_setCell] at hc hf hz hn); (try simp only [World.size_drew] at hc hf hz hn))
  go_wp2_with fail
  have HG := Lib.hid (show Gr w w' from (by repeat (first | with_reducible exact Gr.refl _ | with_reducible refine Gr.alloc ?_ _ | with_reducible refine Gr.drew ?_ | with_reducible refine Gr.trans ?_ (by assumption) | with_reducible refine Gr.setCell ?_ (by (try simp); (try omega)) _)))
  have hzW : w.heap.size < w'.heap.size := by omega
  have hB : w'.cell? ⟨w.heap.size, 0, none⟩ = some (.int .i64 l0) ∧ w'.cell? ⟨w.heap.size, 1, none⟩ = some (.int .i64 l1) ∧ w'.cell? ⟨w.heap.size, 2, none⟩ = some (.int .i64 l2) ∧ w'.cell? ⟨w.heap.size, 3, none⟩ = some (.int .i64 l3) ∧ w'.cell? ⟨w.heap.size, 4, none⟩ = some (.int .i64 l4) ∧ w'.cell? ⟨w.heap.size, 5, none⟩ = some (.int .i64 l5) ∧ w'.cell? ⟨w.heap.size, 6, none⟩ = some (.int .i64 h0) ∧ w'.cell? ⟨w.heap.size, 7, none⟩ = some (.int .i64 h1) ∧ w'.cell? ⟨w.heap.size, 8, none⟩ = some (.int .i64 h2) ∧ w'.cell? ⟨w.heap.size, 9, none⟩ = some (.int .i64 h3) ∧ w'.cell? ⟨w.heap.size, 10, none⟩ = some (.int .i64 h4) ∧ w'.cell? ⟨w.heap.size, 11, none⟩ = some (.int .i64 h5) ∧ w'.cell? ⟨w.heap.size, 12, none⟩ = some (.int .i64 st) ∧ w'.cell? ⟨w.heap.size, 13, none⟩ = some (.int .i64 br) := ⟨by simp [go_sem, *], by simp [go_sem, *], by simp [go_sem, *], by simp [go_sem, *], by simp [go_sem, *], by simp [go_sem, *], by simp [go_sem, *], by simp [go_sem, *], by simp [go_sem, *], by simp [go_sem, *], by simp [go_sem, *], by simp [go_sem, *], by simp [go_sem, *], by simp [go_sem, *]⟩
  have HB := Lib.hid hB
  clear hb hz hc hf hn hB HV
  obtain ⟨W0, rfl⟩ : ∃ W0 : World, W0 = w' := ⟨_, rfl⟩
  go_loopw [11] (fun i wr => ∃ j : Nat, j ≤ n ∧ i = .int .i64 (j : Int) ∧ vecsOk f j = true ∧ Gr W0 wr) (fun i _ => n - (intOf i).toNat)
  case atStart => exact ⟨0, Nat.zero_le _, rfl, rfl, Gr.refl _⟩
  case round =>
    obtain ⟨j, hj, rfl, he, hg⟩ := hrel
    have HE := Lib.hid he; have HG1 := Lib.hid hg
    clear he hg
    by_cases hlt : j < n
    · obtain ⟨b, off, rfl, hb0, c0, c1, c2, c3, c4, c5⟩ := (HA.out.keep (HG.out.trans HG1.out)).six hlt
      obtain ⟨wp, rfl⟩ : ∃ wp : World, wp = wr := ⟨_, rfl⟩
      have hlt' : (j : Int) < (n : Int) := by omega
      have hj0 : (0 : Int) ≤ (j : Int) := by omega
      have hI := fun W => r3interval_any (f j 0) (f j 1) (f j 2) (f j 3) (f j 4) (f j 5) W
      have q : allIn ⟨f j 0, f j 1, f j 2, f j 3, f j 4, f j 5⟩ 48 6 = true := vecsOk_at HVK.out j hlt
      have HS : Hid (vecsOk f (j + 1) = true) := Lib.hid (by show (vecsOk f j && allIn ⟨f j 0, f j 1, f j 2, f j 3, f j 4, f j 5⟩ 48 6) = true; rw [HE.out, q]; rfl)
      rw [q] at hI
      have HIV := Lib.hid hI
      clear hI q
      go_wp2_with fail
      (go_at_call 26; with_reducible refine (HIV.out _).mono ?_; rintro e w' ⟨rfl, hb⟩; have hz := hb.le; obtain ⟨hc, hf⟩ := hb.cells; have hn := hb.cellsN; (try simp only [World.size_alloc] at hc hf hz hn); (try simp only [World.size_setCell] at hc hf hz hn); (try simp only [World.size_drew] at hc hf hz hn))
      go_wp2_with fail
      go_roundw
      case rel => exact ⟨j + 1, by omega, by go_num, HS.out, HG1.out.trans (by repeat (first | with_reducible exact Gr.refl _ | with_reducible refine Gr.alloc ?_ _ | with_reducible refine Gr.drew ?_ | with_reducible refine Gr.trans ?_ (by assumption) | with_reducible refine Gr.setCell ?_ (by (try simp); (try omega)) _))⟩
      case measure => simp [intOf]; omega
    · obtain rfl : n = j := by omega
      have hgp := HG1.out
      obtain ⟨wp, rfl⟩ : ∃ wp : World, wp = wr := ⟨_, rfl⟩
      have q1 : decide ((fr : Int) < 0) = false := decide_eq_false (by omega)
      have q2 : decide (n ≤ fr) = false := decide_eq_false (by omega)
      have q3 : decide ((tz : Int) < 0) = false := decide_eq_false (by omega)
      have q4 : decide (n ≤ tz) = false := decide_eq_false (by omega)
      clear HE
      go_wp2_with (at_make; refine wpList_make_full _ rfl _ _ 27 rfl wp.heap.size 3 i0 (.int .i64 0) 1 Tryd.underlying27 HINF.out.1 HINF.out.2.1 HINF.out.2.2.1 _ _ _ _ n rfl rfl (by simp) (by simp) (by rw [HINF.out.2.2.2]; omega) (by unfold maxLen; omega) (Nat.le_refl _) ?_; intro W1 hown hgrow)
      obtain ⟨hg1, hr1⟩ := made_ints hown hgrow
      have HG2 := Lib.hid (hgp.trans hg1); have HR1 := Lib.hid hr1
      have hle : W0.heap.size ≤ wp.heap.size := hgp.le
      have HMF : Hid (wp.heap.size < W1.heap.size) := Lib.hid hr1.lt
      clear hg1 hr1 hown hgrow hgp HG1
      generalize wp.heap.size = F at *
      have HFW := Lib.hid hle
      have hlF := HMF.out
      clear hle HMF
      go_loopw [13] (fun iv wr => ∃ k : Nat, k ≤ n ∧ iv = .int .i64 (k : Int) ∧ IntRow wr F n (fun j => if j < k then -1 else 0) ∧ Gr W0 wr) (fun iv _ => n - (intOf iv).toNat)
      case atStart => exact ⟨0, Nat.zero_le _, rfl, HR1.out.congr (fun j _ => by simp), HG2.out⟩
      case round =>
        obtain ⟨k, hk, rfl, hRW, hGW⟩ := hrel
        by_cases hlt : k < n
        · have hcc := hRW.cell k hlt
          have hff := hRW.froz (0 + k)
          rw [Nat.zero_add] at hff
          have HRn := Lib.hid ((hRW.store hlt (-1)).congr (u' := fun j => if j < k + 1 then -1 else 0) (fun j _ => by
            by_cases e : j = k
            · subst e; simp
            · simp only [e, if_false]; by_cases h : j < k
              · rw [if_pos h, if_pos (by omega)]
              · rw [if_neg h, if_neg (by omega)]))
          have HGn := Lib.hid (hGW.setCell (p := ⟨F, k, none⟩) (by have := HFW.out; show _ ≤ F; omega) (.int .i64 (-1)))
          clear hRW hGW
          obtain ⟨wk, rfl⟩ : ∃ wk : World, wk = wr := ⟨_, rfl⟩
          go_wp2_with fail
          go_roundw
          case rel => exact ⟨k + 1, by omega, by go_num, HRn.out, HGn.out⟩
          case measure => simp [intOf]; omega
        · obtain rfl : n = k := by omega
          have HRn := Lib.hid (hRW.congr (u' := fun _ => -1) (fun j hj => if_pos hj)); have HGn := Lib.hid hGW
          have hbox := boxKept hGW hzW HB.out
          obtain ⟨b, off, hbo, hb0, c0, c1, c2, c3, c4, c5⟩ := (HA.out.keep (HG.out.trans hGW)).six htz
          have hzk := hGW.le
          clear hRW hGW HR1 HG2
          obtain ⟨wo, rfl⟩ : ∃ wo : World, wo = wr := ⟨_, rfl⟩
          subst hbo
          obtain ⟨a0, a1, a2, a3, a4, a5, a6, a7, a8, a9, a10, a11, a12, a13⟩ := hbox
          have htz' : (tz : Int) < (n : Int) := by omega
          have htz0 : (0 : Int) ≤ (tz : Int) := by omega
          have hzo : w.heap.size < wo.heap.size := by omega
          go_upto_region 17 with fail
          go_cut [14] (fun s wx => s = .bool ht ∧ Gr wo wx)
          case first =>
            go_region_held3 (fun wx => (∀ b o, (⟨min (b + 1) wo.heap.size, 0, none⟩ : Addr) = ⟨b + 1, 0, none⟩ → wx.cell? ⟨b, o, none⟩ = wo.cell? ⟨b, o, none⟩) ∧ Gr wo wx) (first | with_reducible exact held_drew _ | with_reducible exact held_call (by assumption) (by assumption) | with_reducible exact held_alloc (by assumption) _ | with_reducible exact held_alloc0 _ _ | with_reducible exact held_anew (by assumption) _ (by omega) | ((repeat (with_reducible refine held_set ?_ (by (try simp); (try omega)) _)); (first | with_reducible assumption | with_reducible exact held_call (by assumption) (by assumption)))) (first | (go_at_call 14; with_reducible refine (HR.out _).mono ?_; rintro e w' ⟨rfl, hb⟩; have hzz := ((held_gr (by assumption)).trans hb).le; have hz := hb.le; obtain ⟨hcx, hfx⟩ := hb.cells; have hn := hb.cellsN; (try simp only [World.size_drew] at hcx hfx hz hn); (try simp only [World.size_setCell] at hcx hfx hz hn); (try simp only [World.size_alloc] at hcx hfx hz hn)))
            all_goals
              go_wp2_with fail
              go_meet
              exact ⟨rfl, held_gr (by assumption)⟩
          case rest =>
            obtain ⟨rfl, hgc⟩ := hcut
            have hR3 := HRn.out.keep hgc
            have hG3 := HGn.out.trans hgc
            have HR3 := Lib.hid hR3; have HG3 := Lib.hid hG3
            have hcc := hR3.cell tz htz
            have hff := hR3.froz (0 + tz)
            rw [Nat.zero_add] at hff
            clear hR3 hG3 hgc a0 a1 a2 a3 a4 a5 a6 a7 a8 a9 a10 a11 a12 a13 c0 c1 c2 c3 c4 c5 HRn HGn HR
            obtain ⟨wq, rfl⟩ : ∃ wq : World, wq = wc := ⟨_, rfl⟩
            go_upto_if 86 with fail
            go_cut [] (fun wx => IntRow wx F n (lev far 1) ∧ Gr W0 wx)
            case first =>
              cases ht
              · have HX : Hid (IntRow wq F n (lev far 1)) := Lib.hid (HR3.out.congr fun j hj => by rw [lev_one HF.out hj, if_neg (by simp)])
                go_wp2_with fail
                go_meet
                exact ⟨HX.out, HG3.out⟩
              · have HX := Lib.hid ((HR3.out.store htz 0).congr (u' := lev far 1) (fun j hj => by rw [lev_one HF.out hj]; simp))
                have HXG := Lib.hid (HG3.out.setCell (p := ⟨F, tz, none⟩) (by have := HFW.out; show _ ≤ F; omega) (.int .i64 0))
                go_wp2_with fail
                go_meet
                exact ⟨HX.out, HXG.out⟩
            case rest =>
              obtain ⟨hrow, hgr⟩ := hcut
              have HR4 := Lib.hid hrow; have HG4 := Lib.hid hgr
              clear hrow hgr hcc hff HR3 HG3
              obtain ⟨w5, rfl⟩ : ∃ w5 : World, w5 = wc := ⟨_, rfl⟩
              go_wp2_with fail
              go_loopw [16] (fun dv wr => ∃ d : Nat, 1 ≤ d ∧ d ≤ n ∧ dv = .int .i64 (d : Int) ∧ IntRow wr F n (lev far d) ∧ Gr W0 wr) (fun dv _ => n - (intOf dv).toNat)
              case atStart => exact ⟨1, Nat.le_refl _, by omega, rfl, HR4.out, HG4.out⟩
              case round =>
                obtain ⟨d, hd1, hdn, rfl, hRW, hGW⟩ := hrel
                have HRD := Lib.hid hRW; have HGD := Lib.hid hGW
                clear hRW hGW HR4 HG4
                obtain ⟨w6, rfl⟩ : ∃ w6 : World, w6 = wr := ⟨_, rfl⟩
                by_cases hdl : d < n
                · have hdl' : decide ((d : Int) < (n : Int)) = true := decide_eq_true (by omega)
                  have hwd : IntKind.i64.wrap ((d : Int) - 1) = (d : Int) - 1 := IntWalk.i64_in _ ⟨by omega, by omega⟩
                  go_wp2_with fail
                  go_loopw [17] (fun iv wr => ∃ i : Nat, i ≤ n ∧ iv = .int .i64 (i : Int) ∧ IntRow wr F n (fun j => if j < i then lev far (d + 1) j else lev far d j) ∧ Gr W0 wr) (fun iv _ => n - (intOf iv).toNat)
                  case atStart => exact ⟨0, Nat.zero_le _, rfl, HRD.out.congr (fun j _ => by rw [if_neg (by omega)]), HGD.out⟩
                  case round =>
                    obtain ⟨i, hin, rfl, hRW, hGW⟩ := hrel
                    have HRI := Lib.hid hRW; have HGI := Lib.hid hGW
                    clear hRW hGW HRD HGD
                    obtain ⟨w7, rfl⟩ : ∃ w7 : World, w7 = wr := ⟨_, rfl⟩
                    by_cases hil : i < n
                    · have hil' : decide ((i : Int) < (n : Int)) = true := decide_eq_true (by omega)
                      go_wp2_with fail
                      go_loopw [18] (fun kv wr => ∃ (k : Nat) (x : Int), k ≤ n ∧ kv = .int .i64 (k : Int) ∧ AtI J far d i k x ∧ IntRow wr F n (rowW far d i x) ∧ Gr W0 wr) (fun kv _ => n - (intOf kv).toNat)
                      case atStart => exact ⟨0, lev far d i, Nat.zero_le _, rfl, atI_start _ _ _ _, HRI.out.congr (fun j _ => (rowW_start _ _ _ _).symm), HGI.out⟩
                      case round =>
                        obtain ⟨k, x, hkn, rfl, hAt, hRW, hGW⟩ := hrel
                        have HAT := Lib.hid hAt; have HRK := Lib.hid hRW; have HGK := Lib.hid hGW
                        obtain ⟨hx0, hx1⟩ := hAt.range HF.out hil hdn hn200
                        have hci := hRW.cell i hil
                        rw [show rowW far d i x i = x from if_pos rfl] at hci
                        have hbox := boxKept hGW hzW HB.out
                        have hzk := hGW.le
                        clear hRW hGW HRI HGI hAt
                        obtain ⟨w8, rfl⟩ : ∃ w8 : World, w8 = wr := ⟨_, rfl⟩
                        by_cases hkl : k < n
                        · have hkl' : decide ((k : Int) < (n : Int)) = true := decide_eq_true (by omega)
                          by_cases hx : x < 0
                          · have hxd : decide (x < 0) = true := decide_eq_true hx
                            have hck := HRK.out.cell k hkl
                            have hYR := rowW_read (i := i) (x := x) (d := d) HF.out hkl hx0 hx1 hn200
                            have hYI := rowW_is HF.out HAT.out hx hd1 hkl
                            by_cases hy : rowW far d i x k = (d : Int) - 1
                            · have hfk := hYI.1 hy
                              rw [hy] at hck
                              have hyb : ((d : Int) - 1 != (d : Int) - 1) = false := by simp
                              have hyb2 : ((d : Int) - 1 == (d : Int) - 1) = true := by simp
                              obtain ⟨b, off, hbo, hb0, c0, c1, c2, c3, c4, c5⟩ := (HA.out.keep (HG.out.trans HGK.out)).six hil
                              obtain ⟨b', off', hbo', hb0', e0, e1, e2, e3, e4, e5⟩ := (HA.out.keep (HG.out.trans HGK.out)).six hkl
                              cases hbo
                              cases hbo'
                              obtain ⟨a0, a1, a2, a3, a4, a5, a6, a7, a8, a9, a10, a11, a12, a13⟩ := hbox
                              have hzo : w.heap.size < w8.heap.size := by omega
                              have hCL := fun W => HJ.out W i k hil hkl (by omega)
                              have HFK := Lib.hid hfk
                              have hi0 : (0 : Int) ≤ (i : Int) := by omega
                              have hk0 : (0 : Int) ≤ (k : Int) := by omega
                              have hi1 : (i : Int) < (n : Int) := by omega
                              have hk1 : (k : Int) < (n : Int) := by omega
                              clear hYR hYI hy hfk
                              generalize hjj : J i k = jj at hCL
                              have HJJ := Lib.hid hjj
                              have HCL := Lib.hid hCL
                              clear hjj hCL
                              go_upto_region 30 with fail
                              go_cut [19] (fun s wx => s = .bool jj ∧ Gr w8 wx)
                              case first =>
                                go_region_held3 (fun wx => (∀ b o, (⟨min (b + 1) w8.heap.size, 0, none⟩ : Addr) = ⟨b + 1, 0, none⟩ → wx.cell? ⟨b, o, none⟩ = w8.cell? ⟨b, o, none⟩) ∧ Gr w8 wx) (first | with_reducible exact held_drew _ | with_reducible exact held_call (by assumption) (by assumption) | with_reducible exact held_alloc (by assumption) _ | with_reducible exact held_alloc0 _ _ | with_reducible exact held_anew (by assumption) _ (by omega) | ((repeat (with_reducible refine held_set ?_ (by (try simp); (try omega)) _)); (first | with_reducible assumption | with_reducible exact held_call (by assumption) (by assumption)))) (first | (go_at_call 47; with_reducible refine (HCL.out _).mono ?_; rintro e w' ⟨rfl, hb⟩; have hzz := ((held_gr (by assumption)).trans hb).le; have hz := hb.le; obtain ⟨hcx, hfx⟩ := hb.cells; have hn := hb.cellsN; (try simp only [World.size_drew] at hcx hfx hz hn); (try simp only [World.size_setCell] at hcx hfx hz hn); (try simp only [World.size_alloc] at hcx hfx hz hn)))
                                all_goals
                                  go_wp2_with fail
                                  go_meet
                                  exact ⟨rfl, held_gr (by assumption)⟩
                              case rest =>
                                obtain ⟨rfl, hgc⟩ := hcut
                                have hR9 := HRK.out.keep hgc
                                have hG9 := HGK.out.trans hgc
                                have hc9 := hR9.cell i hil
                                have hf9 := hR9.froz (0 + i)
                                rw [Nat.zero_add] at hf9
                                rw [show rowW far d i x i = x from if_pos rfl] at hc9
                                have HR9 := Lib.hid hR9; have HG9 := Lib.hid hG9
                                clear hR9 hG9 hgc a0 a1 a2 a3 a4 a5 a6 a7 a8 a9 a10 a11 a12 a13 c0 c1 c2 c3 c4 c5 e0 e1 e2 e3 e4 e5 hci hck HRK HGK HCL
                                obtain ⟨w9, rfl⟩ : ∃ w9 : World, w9 = wc := ⟨_, rfl⟩
                                cases jj
                                · have HN := Lib.hid (HAT.out.no (fun h => by have := h.2; rw [HJJ.out] at this; cases this))
                                  go_wp2_with fail
                                  go_roundw
                                  case rel => exact ⟨k + 1, x, by omega, by go_num, HN.out, HR9.out, HG9.out⟩
                                  case measure => simp [intOf]; omega
                                · have HN := Lib.hid (HAT.out.yes HF.out hx hd1 hil hkl HFK.out HJJ.out)
                                  have HX := Lib.hid ((HR9.out.store hil (d : Int)).congr (u' := rowW far d i (d : Int)) (fun j _ => rowW_set far d i x (d : Int) j))
                                  have HXG := Lib.hid (HG9.out.setCell (p := ⟨F, i, none⟩) (by have := HFW.out; show _ ≤ F; omega) (.int .i64 (d : Int)))
                                  clear HR9 HG9
                                  go_wp2_with fail
                                  go_roundw
                                  case rel => exact ⟨k + 1, (d : Int), by omega, by go_num, HN.out, HX.out, HXG.out⟩
                                  case measure => simp [intOf]; omega
                            · have HN := Lib.hid (HAT.out.no (fun h => hy (hYI.2 h.1)))
                              have hyb : (rowW far d i x k != (d : Int) - 1) = true := by simpa using hy
                              have hyb2 : (rowW far d i x k == (d : Int) - 1) = false := by simpa using hy
                              clear hYI hy hbox
                              generalize rowW far d i x k = y at hck hyb hyb2 hYR
                              go_wp2_with fail
                              go_roundw
                              case rel => exact ⟨k + 1, x, by omega, by go_num, HN.out, HRK.out, HGK.out⟩
                              case measure => simp [intOf]; omega
                          · have hxd : decide (x < 0) = false := decide_eq_false hx
                            have HD := Lib.hid (HAT.out.done HF.out hd1 hil (Or.inl (by omega)))
                            have HRn := Lib.hid (HRK.out.congr (fun j _ => rowW_end HD.out))
                            clear hbox
                            go_wp2_with fail
                            go_roundw
                            case rel => exact ⟨i + 1, by omega, by go_num, HRn.out, HGK.out⟩
                            case measure => simp [intOf]; omega
                        · have hkl' : decide ((k : Int) < (n : Int)) = false := decide_eq_false (by omega)
                          have hkl2 : decide (k < n) = false := decide_eq_false hkl
                          have HD := Lib.hid (HAT.out.done HF.out hd1 hil (Or.inr (by omega)))
                          have HRn := Lib.hid (HRK.out.congr (fun j _ => rowW_end HD.out))
                          clear hbox hci
                          go_wp2_with fail
                          go_roundw
                          case rel => exact ⟨i + 1, by omega, by go_num, HRn.out, HGK.out⟩
                          case measure => simp [intOf]; omega
                    · obtain rfl : n = i := by omega
                      have HRn := Lib.hid (HRI.out.congr (u' := lev far (d + 1)) (fun j hj => if_pos hj))
                      go_wp2_with fail
                      go_roundw
                      case rel => exact ⟨d + 1, by omega, by omega, by go_num, HRn.out, HGI.out⟩
                      case measure => simp [intOf]; omega
                · obtain rfl : n = d := by omega
                  have hrf := HRD.out.congr (u' := far) (fun j hj => lev_last HF.out hj (Nat.le_refl _))
                  have HRF := Lib.hid hrf
                  have hcf := hrf.cell fr hfr
                  have hfr' : (fr : Int) < (n : Int) := by omega
                  have hfr0 : (0 : Int) ≤ (fr : Int) := by omega
                  clear hrf HRD
                  by_cases hz : far fr < 0
                  · have hzd : decide (far fr < 0) = true := decide_eq_true hz
                    have HZ := Lib.hid hz
                    clear hz
                    generalize far fr = y at hcf hzd
                    go_wp2_with fail
                    go_ret2
                    exact .inl ⟨HZ.out, rfl, HG.out.trans HGD.out⟩
                  · have hzd : decide (far fr < 0) = false := decide_eq_false hz
                    have HZ := Lib.hid (show 0 ≤ far fr by omega)
                    have HOW : Hid (OwnL w6.heap.size 3 1 w6 (.slice (some ⟨w6.heap.size, 0, none⟩) 1 1) [fr].length (natCells [fr]) (w6.alloc (.cells #[.int .i64 (fr : Int)] 3))) := Lib.hid ⟨(Gr.refl w6).alloc _, own_first _ _, by simp⟩
                    have hlF6 := HRF.out.lt
                    clear hz
                    generalize hyy : far fr = y at hcf hzd
                    go_wp2_with fail
                    clear hcf hzd hyy
                    generalize hW7 : (w6.alloc (.cells #[.int .i64 (fr : Int)] 3)) = W7 at *
                    clear hW7
                    go_loopw [20, 21] (fun ov av wr => ∃ (LV : Value) (l : List Nat) (a : Nat), LV = ov ∧ av = .int .i64 (a : Int) ∧ Path J n far fr l a ∧ OwnL w6.heap.size 3 1 w6 LV l.length (natCells l) wr) (fun _ av _ => (far (intOf av).toNat).toNat)
                    case atStart => exact ⟨_, [fr], fr, rfl, rfl, .one, HOW.out⟩
                    case round =>
                      obtain ⟨ov, l, a, rfl, rfl, hp, hO⟩ := hrel
                      have HPA := Lib.hid hp; have HO := Lib.hid hO
                      obtain ⟨han, hal, hap⟩ := hp.facts hfr HZ.out
                      have hgo : Gr w6 wr := hO.toGr (Gr.refl _) (Nat.le_refl _)
                      have HGO := Lib.hid (HGD.out.trans hgo)
                      have HRO := Lib.hid (HRF.out.keep hgo)
                      have hca := HRO.out.cell a han
                      have hbox := boxKept (HGD.out.trans hgo) hzW HB.out
                      have hzk := hgo.le
                      have hzk0 := HGD.out.le
                      have hnf := HF.out.lt a han
                      clear hp hO hgo HOW
                      obtain ⟨wa, rfl⟩ : ∃ wa : World, wa = wr := ⟨_, rfl⟩
                      have ha' : (a : Int) < (n : Int) := by omega
                      have ha0 : (0 : Int) ≤ (a : Int) := by omega
                      by_cases hpos : 0 < far a
                      · have hpd : decide (0 < far a) = true := decide_eq_true hpos
                        have hnx := HF.out.next a han hpos
                        have HNX : Hid (∃ k, k < n ∧ nextB J far a k = true) := Lib.hid (by
                          obtain ⟨k, q1, q2, q3⟩ := hnx
                          exact ⟨k, q1, by simp [nextB, q2, q3]⟩)
                        have hwa : IntKind.i64.wrap (far a - 1) = far a - 1 := IntWalk.i64_in _ ⟨by omega, by omega⟩
                        have HPOS := Lib.hid hpos
                        clear hnx hpos
                        go_wp2_with fail
                        go_loopw [22, 23] (fun xv kv wr => ∃ (k : Nat) (x : Int), k ≤ n ∧ xv = .int .i64 x ∧ kv = .int .i64 (k : Int) ∧ ((x = -1 ∧ ∀ j, j < k → nextB J far a j = false) ∨ (∃ p : Nat, p < n ∧ x = (p : Int) ∧ nextB J far a p = true ∧ ∀ j, j < p → nextB J far a j = false)) ∧ Gr wa wr) (fun _ kv _ => n - (intOf kv).toNat)
                        case atStart => exact ⟨0, -1, Nat.zero_le _, rfl, rfl, .inl ⟨rfl, fun j h => by omega⟩, Gr.refl _⟩
                        case round =>
                          obtain ⟨k, x, hkn, rfl, rfl, hst, hg⟩ := hrel
                          have HST := Lib.hid hst; have HGA := Lib.hid hg
                          have hxr : -1 ≤ x ∧ x < 200 := by
                            rcases hst with ⟨rfl, _⟩ | ⟨p, hp, rfl, _⟩ <;> omega
                          obtain ⟨hx0, hx1⟩ := hxr
                          have hRx := HRO.out.keep hg
                          have hca2 := hRx.cell a han
                          have hzg := hg.le
                          clear hst hg
                          obtain ⟨wb, rfl⟩ : ∃ wb : World, wb = wr := ⟨_, rfl⟩
                          by_cases hkl : k < n
                          · have hkl' : decide ((k : Int) < (n : Int)) = true := decide_eq_true (by omega)
                            by_cases hx : x < 0
                            · have hxd : decide (x < 0) = true := decide_eq_true hx
                              have hck := hRx.cell k hkl
                              have hFk1 := HF.out.ge k hkl
                              have hFk2 := HF.out.lt k hkl
                              have HOLD : Hid (∀ j, j < k → nextB J far a j = false) := Lib.hid (by
                                rcases HST.out with ⟨_, h⟩ | ⟨p, hp, e, _⟩
                                · exact h
                                · omega)
                              have hk0 : (0 : Int) ≤ (k : Int) := by omega
                              have hk1 : (k : Int) < (n : Int) := by omega
                              have hlFb := hRx.lt
                              clear hRx
                              have HX9 : Hid (x = -1) := Lib.hid (by omega)
                              by_cases hy : far k = far a - 1
                              · have HY := Lib.hid hy
                                have hyb : (far k != far a - 1) = false := by simp [hy]
                                have hyb2 : (far k == far a - 1) = true := by simp [hy]
                                have HFR := Lib.hid (show 0 ≤ far k by have := HPOS.out; omega)
                                clear hy
                                generalize hfa : far a = fa at hca hca2 hwa hyb hyb2
                                generalize hfk : far k = fk at hck hyb hyb2
                                clear hfa hfk
                                go_upto_region 42 with fail
                                go_cut [169] (fun s wx => s = .bool false ∧ Gr wb wx)
                                case first =>
                                  go_quiet (fail)
                                  go_wp2_with fail
                                  go_meet
                                  exact ⟨rfl, (Gr.refl _).drewN _⟩
                                case rest =>
                                  obtain ⟨rfl, hgc⟩ := hcut
                                  have hGA := HGA.out.trans hgc
                                  have HGA2 := Lib.hid hGA
                                  obtain ⟨b, off, hbo, hb0, c0, c1, c2, c3, c4, c5⟩ := (HA.out.keep (HG.out.trans (HGO.out.trans hGA))).six han
                                  obtain ⟨b', off', hbo', hb0', e0, e1, e2, e3, e4, e5⟩ := (HA.out.keep (HG.out.trans (HGO.out.trans hGA))).six hkl
                                  cases hbo
                                  cases hbo'
                                  obtain ⟨a0, a1, a2, a3, a4, a5, a6, a7, a8, a9, a10, a11, a12, a13⟩ := boxKept hGA (show w.heap.size < wa.heap.size by omega) hbox
                                  have hzo : w.heap.size < wc.heap.size := by have := hGA.le; omega
                                  have hCL := fun W => HJ.out W a k han hkl HFR.out
                                  generalize hjj : J a k = jj at hCL
                                  have HJJ := Lib.hid hjj
                                  have HCL := Lib.hid hCL
                                  clear hjj hCL hbox hgc hGA hca hca2 hck
                                  obtain ⟨wd, rfl⟩ : ∃ wd : World, wd = wc := ⟨_, rfl⟩
                                  go_upto_region 43 with fail
                                  go_cut [24] (fun s wx => s = .bool jj ∧ Gr wd wx)
                                  case first =>
                                    go_region_held3 (fun wx => (∀ b o, (⟨min (b + 1) wd.heap.size, 0, none⟩ : Addr) = ⟨b + 1, 0, none⟩ → wx.cell? ⟨b, o, none⟩ = wd.cell? ⟨b, o, none⟩) ∧ Gr wd wx) (first | with_reducible exact held_drew _ | with_reducible exact held_call (by assumption) (by assumption) | with_reducible exact held_alloc (by assumption) _ | with_reducible exact held_alloc0 _ _ | with_reducible exact held_anew (by assumption) _ (by omega) | ((repeat (with_reducible refine held_set ?_ (by (try simp); (try omega)) _)); (first | with_reducible assumption | with_reducible exact held_call (by assumption) (by assumption)))) (first | (go_at_call 47; with_reducible refine (HCL.out _).mono ?_; rintro e w' ⟨rfl, hb⟩; have hzz := ((held_gr (by assumption)).trans hb).le; have hz := hb.le; obtain ⟨hcx, hfx⟩ := hb.cells; have hn := hb.cellsN; (try simp only [World.size_drew] at hcx hfx hz hn); (try simp only [World.size_setCell] at hcx hfx hz hn); (try simp only [World.size_alloc] at hcx hfx hz hn)))
                                    all_goals
                                      go_wp2_with fail
                                      go_meet
                                      exact ⟨rfl, held_gr (by assumption)⟩
                                  case rest =>
                                    obtain ⟨rfl, hgc⟩ := hcut
                                    have HGE := Lib.hid (HGA2.out.trans hgc)
                                    clear hgc a0 a1 a2 a3 a4 a5 a6 a7 a8 a9 a10 a11 a12 a13 c0 c1 c2 c3 c4 c5 e0 e1 e2 e3 e4 e5
                                    obtain ⟨we, rfl⟩ : ∃ we : World, we = wc := ⟨_, rfl⟩
                                    cases jj
                                    · have HN : Hid (∀ j, j < k + 1 → nextB J far a j = false) := Lib.hid (fun j hj => by
                                        by_cases e : j = k
                                        · subst e; simp [nextB, HJJ.out]
                                        · exact HOLD.out j (by omega))
                                      go_wp2_with fail
                                      go_roundw
                                      case rel => exact ⟨k + 1, x, by omega, rfl, by go_num, .inl ⟨HX9.out, HN.out⟩, HGE.out⟩
                                      case measure => simp [intOf]; omega
                                    · have HN : Hid (nextB J far a k = true) := Lib.hid (by simp [nextB, HJJ.out, HY.out])
                                      go_wp2_with fail
                                      go_roundw
                                      case rel => exact ⟨k + 1, (k : Int), by omega, rfl, by go_num, .inr ⟨k, hkl, rfl, HN.out, HOLD.out⟩, HGE.out⟩
                                      case measure => simp [intOf]; omega
                              · have hyb : (far k != far a - 1) = true := by simpa using hy
                                have hyb2 : (far k == far a - 1) = false := by simpa using hy
                                have HN : Hid (∀ j, j < k + 1 → nextB J far a j = false) := Lib.hid (fun j hj => by
                                  by_cases e : j = k
                                  · subst e; simp [nextB, hy]
                                  · exact HOLD.out j (by omega))
                                clear hy hbox
                                generalize hfa : far a = fa at hca hca2 hwa hyb hyb2
                                generalize hfk : far k = fk at hck hyb hyb2
                                clear hfa hfk
                                go_upto_region 42 with fail
                                go_cut [169] (fun s wx => s = .bool true ∧ Gr wb wx)
                                case first =>
                                  go_quiet (fail)
                                  go_wp2_with fail
                                  go_meet
                                  exact ⟨rfl, (Gr.refl _).drewN _⟩
                                case rest =>
                                  obtain ⟨rfl, hgc⟩ := hcut
                                  have HGE := Lib.hid (HGA.out.trans hgc)
                                  clear hgc hca hca2 hck
                                  obtain ⟨we, rfl⟩ : ∃ we : World, we = wc := ⟨_, rfl⟩
                                  go_wp2_with fail
                                  go_roundw
                                  case rel => exact ⟨k + 1, x, by omega, rfl, by go_num, .inl ⟨HX9.out, HN.out⟩, HGE.out⟩
                                  case measure => simp [intOf]; omega
                            · have hxd : decide (x < 0) = false := decide_eq_false hx
                              have HFD : Hid (∃ p : Nat, p < n ∧ x = (p : Int) ∧ nextB J far a p = true ∧ ∀ j, j < p → nextB J far a j = false) := Lib.hid (by
                                rcases HST.out with ⟨e, _⟩ | h
                                · omega
                                · exact h)
                              obtain ⟨p, hpn, hxp, -⟩ := HFD.out
                              have HFP : Hid (nextB J far a p = true ∧ ∀ j, j < p → nextB J far a j = false) := Lib.hid (by
                                obtain ⟨p', q1, q2, q3⟩ := HFD.out
                                obtain rfl : p' = p := by omega
                                exact q3)
                              subst hxp
                              clear hRx hca2 hbox hca HFD
                              have hOB := HO.out.gr HGA.out
                              have HOB := Lib.hid hOB
                              have hlen : l.length ≤ 201 := by have := HF.out.lt fr hfr; have := HPOS.out; omega
                              have hszB := hOB.size
                              clear hOB
                              go_wp2_with (at_builtin; refine wpList_append_own _ rfl _ _ 27 rfl w6.heap.size 3 i0 (.int .i64 0) 1 8 Tryd.underlying27 HINF.out.1 HINF.out.2.1 HINF.out.2.2.1 HINF.out.2.2.2 rfl (by decide) _ _ _ rfl (HOB.out.own.alloc _) ⟨wb.heap.size, 0, none⟩ 1 1 [.int .i64 (p : Int)] rfl rfl (cell_one_new _ _ _) (by simp [Value.oneCell']) (by simp only [maxLen]; omega) (by omega) (by simp; omega) ?_; intro v' w3 hown' hgrow hnil)
                              have HL3 : Hid (OwnL w6.heap.size 3 1 w6 v' (l ++ [p]).length (natCells (l ++ [p])) w3) := Lib.hid (by rw [List.length_append, natCells_snoc]; exact (HOB.out.alloc _).grown hown' hgrow)
                              have HPN := Lib.hid (Path.snoc HPA.out HPOS.out hpn HFP.out.1 HFP.out.2)
                              have HM := HFP.out.1
                              simp only [nextB, Bool.and_eq_true, decide_eq_true_eq] at HM
                              have HDEC : Hid ((far p).toNat < (far a).toNat) := Lib.hid (by have := HPOS.out; have := HM.1; omega)
                              clear hown' hgrow hnil HM
                              go_wp2_with fail
                              go_roundw
                              case rel => exact ⟨_, _, p, rfl, rfl, HPN.out, HL3.out⟩
                              case measure => have hq := HDEC.out; simp [intOf]; omega
                          · have hkl' : decide ((k : Int) < (n : Int)) = false := decide_eq_false (by omega)
                            have hkl2 : decide (k < n) = false := decide_eq_false hkl
                            have HFD : Hid (∃ p : Nat, p < n ∧ x = (p : Int) ∧ nextB J far a p = true ∧ ∀ j, j < p → nextB J far a j = false) := Lib.hid (by
                              rcases HST.out with ⟨e, h⟩ | h
                              · obtain ⟨q, q1, q2⟩ := HNX.out
                                rw [h q (by omega)] at q2; cases q2
                              · exact h)
                            obtain ⟨p, hpn, hxp, -⟩ := HFD.out
                            have HFP : Hid (nextB J far a p = true ∧ ∀ j, j < p → nextB J far a j = false) := Lib.hid (by
                              obtain ⟨p', q1, q2, q3⟩ := HFD.out
                              obtain rfl : p' = p := by omega
                              exact q3)
                            subst hxp
                            clear hRx hca2 hbox hca HFD
                            have hOB := HO.out.gr HGA.out
                            have HOB := Lib.hid hOB
                            have hlen : l.length ≤ 201 := by have := HF.out.lt fr hfr; have := HPOS.out; omega
                            have hszB := hOB.size
                            clear hOB
                            go_wp2_with (at_builtin; refine wpList_append_own _ rfl _ _ 27 rfl w6.heap.size 3 i0 (.int .i64 0) 1 8 Tryd.underlying27 HINF.out.1 HINF.out.2.1 HINF.out.2.2.1 HINF.out.2.2.2 rfl (by decide) _ _ _ rfl (HOB.out.own.alloc _) ⟨wb.heap.size, 0, none⟩ 1 1 [.int .i64 (p : Int)] rfl rfl (cell_one_new _ _ _) (by simp [Value.oneCell']) (by simp only [maxLen]; omega) (by omega) (by simp; omega) ?_; intro v' w3 hown' hgrow hnil)
                            have HL3 : Hid (OwnL w6.heap.size 3 1 w6 v' (l ++ [p]).length (natCells (l ++ [p])) w3) := Lib.hid (by rw [List.length_append, natCells_snoc]; exact (HOB.out.alloc _).grown hown' hgrow)
                            have HPN := Lib.hid (Path.snoc HPA.out HPOS.out hpn HFP.out.1 HFP.out.2)
                            have HM := HFP.out.1
                            simp only [nextB, Bool.and_eq_true, decide_eq_true_eq] at HM
                            have HDEC : Hid ((far p).toNat < (far a).toNat) := Lib.hid (by have := HPOS.out; have := HM.1; omega)
                            clear hown' hgrow hnil HM
                            go_wp2_with fail
                            go_roundw
                            case rel => exact ⟨_, _, p, rfl, rfl, HPN.out, HL3.out⟩
                            case measure => have hq := HDEC.out; simp [intOf]; omega
                      · have hpd : decide (0 < far a) = false := decide_eq_false hpos
                        have hz0 : far a = 0 := by omega
                        have HWO : Hid (WayOk J n far fr l) := Lib.hid ⟨a, HPA.out, hz0⟩
                        obtain ⟨A', c', rfl, hints⟩ := ints_own HO.out.own (u := fun j => ((l.getD j 0 : Nat) : Int)) (fun j hj => natCells_at l j hj)
                        have HIN := Lib.hid hints
                        clear hints hbox hz0
                        generalize far a = fa at hca hpd
                        go_wp2_with fail
                        go_ret2
                        exact .inr ⟨HZ.out, _, _, _, HWO.out, rfl, HIN.out, HG.out.trans HGO.out⟩
end Go.Proofs.YtiogfohjepobkaaDoor
