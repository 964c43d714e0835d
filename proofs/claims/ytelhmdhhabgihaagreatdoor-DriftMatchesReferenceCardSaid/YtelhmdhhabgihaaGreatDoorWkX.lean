/-
  comma.add and comma.Walk.
  comma.Walk: the shifts of the sections.
-/
import Derived.Test.YtelhmdhhabgihaaGreatDoorNvX
namespace Go.Proofs.YtelhmdhhabgihaaGreatDoor
open Go.RowKit

/-- A take is valid as number k of takes for n commas. -/
def takeB (n k : Nat) (s c x d : Int) : Bool := decide (s = (k : Int) + 1 ∧ 0 ≤ c ∧ c < (n : Int) ∧ 0 ≤ d ∧ d < 8 ∧ ((x = 0 ∧ c = 0) ∨ x = 1 ∨ x = -1))
set_option maxRecDepth 100000 in
set_option maxHeartbeats 16000000 in
theorem wrong_any (BX : Nat) (A : Option Addr) (n cc k : Nat) (s c x d : Int) (w : World) (hB : w.cell? ⟨BX, 0, none⟩ = some (.slice A n cc)) (hl : BX < w.heap.size) (hk : k ≤ 1000) :
    Calls Tryz.prog 45 #[.int .i64 (k : Int), .agg #[.int .i64 s, .int .i64 c, .int .i64 x, .int .i64 d], .pointer (some ⟨BX, 0, none⟩)] w fun e w' => e = .returned (.bool (!takeB n k s c x d)) ∧ Gr w w' := by
  have hw : IntKind.i64.wrap ((k : Int) + 1) = (k : Int) + 1 := IntWalk.i64_in _ ⟨by omega, by omega⟩
  have hL : True := trivial
  by_cases h0 : s = (k : Int) + 1
  · have b0 : (s != (k : Int) + 1) = false := by simpa using h0
    by_cases h1 : 0 ≤ c
    · have b1 : decide (c < 0) = false := decide_eq_false (by omega)
      by_cases h2 : c < (n : Int)
      · have b2 : decide ((n : Int) ≤ c) = false := decide_eq_false (by omega)
        by_cases h3 : 0 ≤ d
        · have b3 : decide (d < 0) = false := decide_eq_false (by omega)
          by_cases h4 : d < 8
          · have b4 : decide (8 ≤ d) = false := decide_eq_false (by omega)
            by_cases h5 : x = 0
            · subst h5
              by_cases h6 : c = 0
              · have b6 : (c != 0) = false := by simpa using h6
                have HT : Hid (takeB n k s c 0 d = true) := Lib.hid (decide_eq_true (by omega))
                clear hL
                try clear h0
                go_enter Tryz.func45, Tryz.ntmps45
                go_wp2_with fail
                go_ret
                exact ⟨ret_bool (by rw [HT.out]; rfl), (by repeat (first | with_reducible exact Gr.refl _ | with_reducible refine Gr.alloc ?_ _ | with_reducible refine Gr.drew ?_ | with_reducible refine Gr.trans ?_ (by assumption) | with_reducible refine Gr.setCell ?_ (by (try simp); (try omega)) _))⟩
              · have b6 : (c != 0) = true := by simpa using h6
                have HT : Hid (takeB n k s c 0 d = false) := Lib.hid (decide_eq_false (fun h => by omega))
                clear hL
                try clear h0
                go_enter Tryz.func45, Tryz.ntmps45
                go_wp2_with fail
                go_ret
                exact ⟨ret_bool (by rw [HT.out]; rfl), (by repeat (first | with_reducible exact Gr.refl _ | with_reducible refine Gr.alloc ?_ _ | with_reducible refine Gr.drew ?_ | with_reducible refine Gr.trans ?_ (by assumption) | with_reducible refine Gr.setCell ?_ (by (try simp); (try omega)) _))⟩
            · have b5 : (x == 0) = false := by simpa using h5
              by_cases h6 : x = 1
              · subst h6
                have HT : Hid (takeB n k s c 1 d = true) := Lib.hid (decide_eq_true (by omega))
                clear hL
                try clear h0
                go_enter Tryz.func45, Tryz.ntmps45
                go_wp2_with fail
                go_ret
                exact ⟨ret_bool (by rw [HT.out]; rfl), (by repeat (first | with_reducible exact Gr.refl _ | with_reducible refine Gr.alloc ?_ _ | with_reducible refine Gr.drew ?_ | with_reducible refine Gr.trans ?_ (by assumption) | with_reducible refine Gr.setCell ?_ (by (try simp); (try omega)) _))⟩
              · have b6 : (x != 1) = true := by simpa using h6
                by_cases h7 : x = -1
                · subst h7
                  have HT : Hid (takeB n k s c (-1) d = true) := Lib.hid (decide_eq_true (by omega))
                  clear hL
                  try clear h0
                  go_enter Tryz.func45, Tryz.ntmps45
                  go_wp2_with fail
                  go_ret
                  exact ⟨ret_bool (by rw [HT.out]; rfl), (by repeat (first | with_reducible exact Gr.refl _ | with_reducible refine Gr.alloc ?_ _ | with_reducible refine Gr.drew ?_ | with_reducible refine Gr.trans ?_ (by assumption) | with_reducible refine Gr.setCell ?_ (by (try simp); (try omega)) _))⟩
                · have b7 : (x != -1) = true := by simpa using h7
                  have HT : Hid (takeB n k s c x d = false) := Lib.hid (decide_eq_false (fun h => by omega))
                  clear hL
                  try clear h0
                  go_enter Tryz.func45, Tryz.ntmps45
                  go_wp2_with fail
                  go_ret
                  exact ⟨ret_bool (by rw [HT.out]; rfl), (by repeat (first | with_reducible exact Gr.refl _ | with_reducible refine Gr.alloc ?_ _ | with_reducible refine Gr.drew ?_ | with_reducible refine Gr.trans ?_ (by assumption) | with_reducible refine Gr.setCell ?_ (by (try simp); (try omega)) _))⟩
          · have b4 : decide (8 ≤ d) = true := decide_eq_true (by omega)
            have HT : Hid (takeB n k s c x d = false) := Lib.hid (decide_eq_false (fun h => h4 (by obtain ⟨e1, e2, e3, e4, e5, e6⟩ := h; omega)))
            clear hL
            try clear h0
            go_enter Tryz.func45, Tryz.ntmps45
            go_wp2_with fail
            go_ret
            exact ⟨ret_bool (by rw [HT.out]; rfl), (by repeat (first | with_reducible exact Gr.refl _ | with_reducible refine Gr.alloc ?_ _ | with_reducible refine Gr.drew ?_ | with_reducible refine Gr.trans ?_ (by assumption) | with_reducible refine Gr.setCell ?_ (by (try simp); (try omega)) _))⟩
        · have b3 : decide (d < 0) = true := decide_eq_true (by omega)
          have HT : Hid (takeB n k s c x d = false) := Lib.hid (decide_eq_false (fun h => h3 (by obtain ⟨e1, e2, e3, e4, e5, e6⟩ := h; omega)))
          clear hL
          try clear h0
          go_enter Tryz.func45, Tryz.ntmps45
          go_wp2_with fail
          go_ret
          exact ⟨ret_bool (by rw [HT.out]; rfl), (by repeat (first | with_reducible exact Gr.refl _ | with_reducible refine Gr.alloc ?_ _ | with_reducible refine Gr.drew ?_ | with_reducible refine Gr.trans ?_ (by assumption) | with_reducible refine Gr.setCell ?_ (by (try simp); (try omega)) _))⟩
      · have b2 : decide ((n : Int) ≤ c) = true := decide_eq_true (by omega)
        have HT : Hid (takeB n k s c x d = false) := Lib.hid (decide_eq_false (fun h => h2 (by obtain ⟨e1, e2, e3, e4, e5, e6⟩ := h; omega)))
        clear hL
        try clear h0
        go_enter Tryz.func45, Tryz.ntmps45
        go_wp2_with fail
        go_ret
        exact ⟨ret_bool (by rw [HT.out]; rfl), (by repeat (first | with_reducible exact Gr.refl _ | with_reducible refine Gr.alloc ?_ _ | with_reducible refine Gr.drew ?_ | with_reducible refine Gr.trans ?_ (by assumption) | with_reducible refine Gr.setCell ?_ (by (try simp); (try omega)) _))⟩
    · have b1 : decide (c < 0) = true := decide_eq_true (by omega)
      have HT : Hid (takeB n k s c x d = false) := Lib.hid (decide_eq_false (fun h => h1 (by obtain ⟨e1, e2, e3, e4, e5, e6⟩ := h; omega)))
      clear hL
      try clear h0
      go_enter Tryz.func45, Tryz.ntmps45
      go_wp2_with fail
      go_ret
      exact ⟨ret_bool (by rw [HT.out]; rfl), (by repeat (first | with_reducible exact Gr.refl _ | with_reducible refine Gr.alloc ?_ _ | with_reducible refine Gr.drew ?_ | with_reducible refine Gr.trans ?_ (by assumption) | with_reducible refine Gr.setCell ?_ (by (try simp); (try omega)) _))⟩
  · have b0 : (s != (k : Int) + 1) = true := by simpa using h0
    have HT : Hid (takeB n k s c x d = false) := Lib.hid (decide_eq_false (fun h => h0 (by obtain ⟨e1, e2, e3, e4, e5, e6⟩ := h; omega)))
    clear hL
    try clear h0
    go_enter Tryz.func45, Tryz.ntmps45
    go_wp2_with fail
    go_ret
    exact ⟨ret_bool (by rw [HT.out]; rfl), (by repeat (first | with_reducible exact Gr.refl _ | with_reducible refine Gr.alloc ?_ _ | with_reducible refine Gr.drew ?_ | with_reducible refine Gr.trans ?_ (by assumption) | with_reducible refine Gr.setCell ?_ (by (try simp); (try omega)) _))⟩
theorem ArrRel.alloc {n : Nat} {u : Nat → Int} {S N : Nat} {W1 wr : World} (h : ArrRel n u S N W1 wr) (o : Obj) : ArrRel n u S N W1 (wr.alloc o) := by
  have hl : S < wr.heap.size := Nat.lt_of_lt_of_le h.lt h.size
  exact ⟨h.but.alloc h.size o, by have := h.size; simp; omega, h.lt, fun j hj => (Below.cell (p := ⟨S, j, none⟩) ((Gr.refl wr).alloc o) hl).trans (h.cell j hj), fun j => (Below.frozen (p := ⟨S, j, none⟩) ((Gr.refl wr).alloc o) hl).trans (h.froz j)⟩
theorem ArrRel.gr {n : Nat} {u : Nat → Int} {S N : Nat} {W1 wr W' : World} (h : ArrRel n u S N W1 wr) (g : Gr wr W') : ArrRel n u S N W1 W' := by
  have hl : S < wr.heap.size := Nat.lt_of_lt_of_le h.lt h.size
  exact ⟨h.but.call g h.size, Nat.le_trans h.size g.le, h.lt, fun j hj => (Below.cell (p := ⟨S, j, none⟩) g hl).trans (h.cell j hj), fun j => (Below.frozen (p := ⟨S, j, none⟩) g hl).trans (h.froz j)⟩
/-- The first k numbers are as u says, the others as v. -/
def mixT (u v : Nat → Int) (k : Nat) (j : Nat) : Int := if j < k then u j else v j
theorem mixT_step (u v : Nat → Int) (k : Nat) (j : Nat) : (if j = k then u k else mixT u v k j) = mixT u v (k + 1) j := by
  unfold mixT
  by_cases e : j = k
  · subst e; simp
  · by_cases e2 : j < k
    · rw [if_neg e, if_pos e2, if_pos (by omega)]
    · rw [if_neg e, if_neg e2, if_neg (by omega)]
set_option maxRecDepth 100000 in
set_option maxHeartbeats 16000000 in
theorem add_any (VB N : Nat) (v c : Nat → Int) (x : Int) (W1 w : World) (hV : ArrRel 6 v VB N W1 w) (hv : ∀ j, j < 6 → -1000000000000 ≤ v j ∧ v j ≤ 1000000000000) (hc : ∀ j, j < 6 → -1000000000000 ≤ x * c j ∧ x * c j ≤ 1000000000000) :
    Calls Tryz.prog 46 #[.pointer (some ⟨VB, 0, none⟩), .agg #[.int .i64 (c 0), .int .i64 (c 1), .int .i64 (c 2), .int .i64 (c 3), .int .i64 (c 4), .int .i64 (c 5)], .int .i64 x] w fun e w' => e = .returned (.tuple #[]) ∧ ArrRel 6 (fun j => v j + x * c j) VB N W1 w' := by
  have HV := Lib.hid hv; have HC := Lib.hid hc
  have HIX := Lib.hid (run_index6V (c 0) (c 1) (c 2) (c 3) (c 4) (c 5))
  have HV0 := Lib.hid (hV.alloc (.cells #[.int .i64 (c 0), .int .i64 (c 1), .int .i64 (c 2), .int .i64 (c 3), .int .i64 (c 4), .int .i64 (c 5)] 53))
  have hb := hV.lt
  clear hV hv hc
  go_enter Tryz.func46, Tryz.ntmps46
  go_wp2_with fail
  generalize w.alloc (.cells #[.int .i64 (c 0), .int .i64 (c 1), .int .i64 (c 2), .int .i64 (c 3), .int .i64 (c 4), .int .i64 (c 5)] 53) = w2 at *
  go_loopw [9] (fun i wr => ∃ k : Nat, k ≤ 6 ∧ i = .int .i64 k ∧ ArrRel 6 (mixT (fun j => v j + x * c j) v k) VB N W1 wr) (fun i _ => 6 - (intOf i).toNat)
  case atStart => exact ⟨0, by omega, rfl, HV0.out.congr (fun j _ => by simp [mixT])⟩
  case round =>
    obtain ⟨k, hk, rfl, hR⟩ := hrel
    have hsz := hR.size
    obtain ⟨wo, rfl⟩ : ∃ wo : World, wo = wr := ⟨_, rfl⟩
    by_cases hlt : k < 6
    · have hx := hR.cell k hlt
      have fx := hR.froz k
      have hIX := HIX.out k hlt
      rw [show V6.get ⟨c 0, c 1, c 2, c 3, c 4, c 5⟩ k = c k from by
        obtain rfl | rfl | rfl | rfl | rfl | rfl : k = 0 ∨ k = 1 ∨ k = 2 ∨ k = 3 ∨ k = 4 ∨ k = 5 := by omega
        all_goals rfl] at hIX
      have bv := HV.out k hlt
      have bc := HC.out k hlt
      rw [mixT, if_neg (by omega)] at hx
      have hst := hR.store hlt (v k + x * c k)
      have HST := Lib.hid hst
      clear hR hst HV0
      have hlt' : decide ((k : Int) < 6) = true := decide_eq_true (by omega)
      have hk0 : (0 : Int) ≤ (k : Int) := by omega
      have hk1 : (k : Int) < 6 := by omega
      generalize hgx : v k = y at hx bv HST
      generalize hgy : c k = z at hIX bc HST
      have HX := Lib.hid hgx; have HYY := Lib.hid hgy
      clear hgx hgy
      have hw1 : IntKind.i64.wrap (x * z) = x * z := IntWalk.i64_in _ ⟨by omega, by omega⟩
      have hw2 : IntKind.i64.wrap (y + x * z) = y + x * z := IntWalk.i64_in _ ⟨by omega, by omega⟩
      have hv1 : wrap64 (x * z) = x * z := (IntWalk.i64_left _).symm.trans hw1
      have hv2 : wrap64 (y + x * z) = y + x * z := (IntWalk.i64_left _).symm.trans hw2
      go_wp2_with fail
      go_region
      all_goals
        go_wp2_with fail
        go_roundw
        case rel =>
          refine ⟨k + 1, by omega, by go_num, (ArrRel.congr (ArrRel.drew HST.out) fun j hj => ?_)⟩
          have := mixT_step (fun j => v j + x * c j) v k j
          try simp only at this
          rw [← this, HX.out, HYY.out]
        case measure => simp [intOf]; omega
    · obtain rfl : k = 6 := by omega
      have HRE := Lib.hid (hR.congr (u' := fun j => v j + x * c j) (fun j hj => by simp [mixT, hj]))
      clear hR
      go_wp2_with fail
      (try simp only [Exit.inBlock, Exit.then])
      first | refine bodyPost_end (results_none rfl _ _ _) rfl ?_ | refine bodyPost_ret (results_none rfl _ _ _) rfl ?_
      exact ⟨rfl, HRE.out⟩
end Go.Proofs.YtelhmdhhabgihaaGreatDoor

namespace Go.Proofs.YtelhmdhhabgihaaGreatDoor
open Go.RowKit

/-- The shift of section k. -/
def shP (f t : Nat → Nat → Int) : Nat → Nat → Int
  | 0 => fun _ => 0
  | k + 1 => fun j => shP f t k j + t k 2 * f (t k 1).toNat j
/-- The first k takes are valid. -/
def takesB (n : Nat) (t : Nat → Nat → Int) : Nat → Bool
  | 0 => true
  | k + 1 => takesB n t k && takeB n k (t k 0) (t k 1) (t k 2) (t k 3)
/-- The first k shifts behind the first one are valid. -/
def rangeB (f t : Nat → Nat → Int) : Nat → Bool
  | 0 => true
  | k + 1 => rangeB f t k && allIn ⟨shP f t (k + 1) 0, shP f t (k + 1) 1, shP f t (k + 1) 2, shP f t (k + 1) 3, shP f t (k + 1) 4, shP f t (k + 1) 5⟩ 48 6
theorem takesB_at {n : Nat} {t : Nat → Nat → Int} {m k : Nat} (h : takesB n t m = true) (hk : k < m) : takeB n k (t k 0) (t k 1) (t k 2) (t k 3) = true := by
  induction m with
  | zero => omega
  | succ m ih =>
    simp only [takesB, Bool.and_eq_true] at h
    by_cases e : k = m
    · subst e; exact h.2
    · exact ih h.1 (by omega)
theorem takesB_no {n : Nat} {t : Nat → Nat → Int} {m k : Nat} (hk : k < m) (h : takeB n k (t k 0) (t k 1) (t k 2) (t k 3) = false) : takesB n t m = false := by
  cases e : takesB n t m with
  | false => rfl
  | true => rw [takesB_at e hk] at h; cases h
theorem rangeB_at {f t : Nat → Nat → Int} {m k : Nat} (h : rangeB f t m = true) (hk : k ≤ m) : allIn ⟨shP f t k 0, shP f t k 1, shP f t k 2, shP f t k 3, shP f t k 4, shP f t k 5⟩ 48 6 = true := by
  induction m with
  | zero => obtain rfl : k = 0 := by omega
            rfl
  | succ m ih =>
    simp only [rangeB, Bool.and_eq_true] at h
    by_cases e : k = m + 1
    · subst e; exact h.2
    · exact ih h.1 (by omega)
theorem rangeB_no {f t : Nat → Nat → Int} {m k : Nat} (hk : k < m) (h : allIn ⟨shP f t (k + 1) 0, shP f t (k + 1) 1, shP f t (k + 1) 2, shP f t (k + 1) 3, shP f t (k + 1) 4, shP f t (k + 1) 5⟩ 48 6 = false) : rangeB f t m = false := by
  cases e : rangeB f t m with
  | false => rfl
  | true => rw [rangeB_at e (show k + 1 ≤ m by omega)] at h; cases h
def walkOk (nm : Nat → ByteArray) (f : Nat → Nat → Int) (n : Nat) (t : Nat → Nat → Int) (m : Nat) : Bool := commaB nm f n && (decide (m ≤ 15) && takesB n t m)
/-- The error that Walk returns. -/
def walkE (nm : Nat → ByteArray) (f : Nat → Nat → Int) (n : Nat) (t : Nat → Nat → Int) (m : Nat) : Int := if walkOk nm f n t m then (if rangeB f t m then 0 else 3) else 1
/-- How many shifts Walk returns. -/
def walkN (nm : Nat → ByteArray) (f : Nat → Nat → Int) (n : Nat) (t : Nat → Nat → Int) (m : Nat) : Nat := if walkE nm f n t m = 0 then m + 1 else 0
/-- What Walk returns: rows g, as many as L, and an error. -/
def WalkR (L : Nat) (E : Int) (g : Nat → Nat → Int) (w : World) (e : Ending) (w' : World) : Prop := ∃ (A : Option Addr) (c : Nat), e = .returned (.tuple #[.slice A L c, .int .i64 E]) ∧ RowsAt w' 6 A L g ∧ Gr w w'
theorem walkR_none {E : Int} {g : Nat → Nat → Int} {w w' : World} {e : Ending} (h : e = .returned (.tuple #[.slice none 0 0, .int .i64 E]) ∧ Gr w w') : WalkR 0 E g w e w' := ⟨none, 0, h.1, RowsAt.nil _ _ _ _, h.2⟩
theorem takeB_parts {n k : Nat} {s c x d : Int} (h : takeB n k s c x d = true) : s = (k : Int) + 1 ∧ 0 ≤ c ∧ c < (n : Int) ∧ 0 ≤ d ∧ d < 8 ∧ ((x = 0 ∧ c = 0) ∨ x = 1 ∨ x = -1) := by
  simpa only [takeB, decide_eq_true_eq] using h
set_option maxRecDepth 100000 in
set_option maxHeartbeats 16000000 in
theorem walk_arg (A B : Option Addr) (n c m d : Nat) (nm : Nat → ByteArray) (f t : Nat → Nat → Int) (w : World) (hA : NamedAt w A n nm f) (hB : RowsAt w 4 B m t) (hbad : walkOk nm f n t m = false) :
    Calls Tryz.prog 29 #[.slice A n c, .slice B m d] w fun e w' => e = .returned (.tuple #[.slice none 0 0, .int .i64 1]) ∧ Gr w w' := by
  have hV := fun W (g : Gr w W) => commaValid_any A n c nm f W (hA.keep g)
  unfold walkOk at hbad
  rcases btf (commaB nm f n) with h1 | h1
  · rw [h1, Bool.true_and] at hbad
    rw [h1] at hV
    have HV := Lib.hid hV
    by_cases h15 : m ≤ 15
    · have d1 : decide (16 ≤ (m : Int)) = false := decide_eq_false (by omega)
      have d1' : decide (16 ≤ m) = false := decide_eq_false (by omega)
      rw [decide_eq_true h15, Bool.true_and] at hbad
      have HB := Lib.hid hB; have HBAD := Lib.hid hbad
      clear hV h1 hbad hA hB
      go_enter Tryz.func29, Tryz.ntmps29
      go_wp2_with fail
      (go_at_call 44; with_reducible refine (HV.out _ (by repeat (first | with_reducible exact Gr.refl _ | with_reducible refine Gr.alloc ?_ _ | with_reducible refine Gr.drew ?_ | with_reducible refine Gr.trans ?_ (by assumption) | with_reducible refine Gr.setCell ?_ (by (try simp); (try omega)) _))).mono ?_; rintro e w' ⟨rfl, hb⟩; have hz := hb.le; obtain ⟨hc, hf⟩ := hb.cells; have hn := hb.cellsN; (try simp only [World.size_alloc] at hc hf hz hn); (try simp only [World.size_setCell] at hc hf hz hn); (try simp only [World.size_drew] at hc hf hz hn))
      have cBX : w'.cell? ⟨w.heap.size, 0, none⟩ = some (.slice A n c) := by simp [go_sem, *]
      have lBX : w.heap.size < w'.heap.size := by omega
      have HG := Lib.hid (show Gr w w' from (by repeat (first | with_reducible exact Gr.refl _ | with_reducible refine Gr.alloc ?_ _ | with_reducible refine Gr.drew ?_ | with_reducible refine Gr.trans ?_ (by assumption) | with_reducible refine Gr.setCell ?_ (by (try simp); (try omega)) _)))
      clear hb hz hc hf hn HV
      obtain ⟨W0, rfl⟩ : ∃ W0 : World, W0 = w' := ⟨_, rfl⟩
      have HBX := Lib.hid cBX
      clear cBX
      go_wp2_with fail
      go_loopw [24] (fun iv wr => ∃ k : Nat, k ≤ m ∧ iv = .int .i64 (k : Int) ∧ takesB n t k = true ∧ Gr W0 wr) (fun iv _ => m - (intOf iv).toNat)
      case atStart => exact ⟨0, Nat.zero_le _, rfl, rfl, Gr.refl _⟩
      case round =>
        obtain ⟨k, hk, rfl, hok, hg⟩ := hrel
        have HOK := Lib.hid hok; have HGR := Lib.hid hg
        clear hok hg
        obtain ⟨wo, rfl⟩ : ∃ wo : World, wo = wr := ⟨_, rfl⟩
        by_cases hlt : k < m
        · have hlt' : decide ((k : Int) < (m : Int)) = true := decide_eq_true (by omega)
          obtain ⟨b, off, rfl, hbl, hcc⟩ := (HB.out.keep (HG.out.trans HGR.out)).at_ hlt
          have c0 := hcc 0 (by omega); have c1 := hcc 1 (by omega); have c2 := hcc 2 (by omega); have c3 := hcc 3 (by omega)
          simp only [Nat.add_zero] at c0
          clear hcc
          go_upto_region 7 with fail
          have hg1 : Gr wo (wo.alloc (.cells #[.int .i64 (t k 0), .int .i64 (t k 1), .int .i64 (t k 2), .int .i64 (t k 3)] 40)) := (Gr.refl _).alloc _
          have a0 : (wo.alloc (.cells #[.int .i64 (t k 0), .int .i64 (t k 1), .int .i64 (t k 2), .int .i64 (t k 3)] 40)).cell? ⟨wo.heap.size, 0, none⟩ = some (.int .i64 (t k 0)) := by simp [go_sem]
          have a1 : (wo.alloc (.cells #[.int .i64 (t k 0), .int .i64 (t k 1), .int .i64 (t k 2), .int .i64 (t k 3)] 40)).cell? ⟨wo.heap.size, 1, none⟩ = some (.int .i64 (t k 1)) := by simp [go_sem]
          have a2 : (wo.alloc (.cells #[.int .i64 (t k 0), .int .i64 (t k 1), .int .i64 (t k 2), .int .i64 (t k 3)] 40)).cell? ⟨wo.heap.size, 2, none⟩ = some (.int .i64 (t k 2)) := by simp [go_sem]
          have a3 : (wo.alloc (.cells #[.int .i64 (t k 0), .int .i64 (t k 1), .int .i64 (t k 2), .int .i64 (t k 3)] 40)).cell? ⟨wo.heap.size, 3, none⟩ = some (.int .i64 (t k 3)) := by simp [go_sem]
          have HG1 := Lib.hid hg1
          have hWR := wrong_any w.heap.size A n c k (t k 0) (t k 1) (t k 2) (t k 3) (wo.alloc (.cells #[.int .i64 (t k 0), .int .i64 (t k 1), .int .i64 (t k 2), .int .i64 (t k 3)] 40)) ((Below.cell (p := ⟨w.heap.size, 0, none⟩) (HGR.out.trans hg1) lBX).trans HBX.out) (Nat.lt_of_lt_of_le lBX (HGR.out.trans hg1).le) (by omega)
          clear c0 c1 c2 c3 hbl hg1
          generalize wo.alloc (.cells #[.int .i64 (t k 0), .int .i64 (t k 1), .int .i64 (t k 2), .int .i64 (t k 3)] 40) = wq at *
          rcases btf (takeB n k (t k 0) (t k 1) (t k 2) (t k 3)) with ht | ht
          · have HN : Hid (takesB n t (k + 1) = true) := Lib.hid (by rw [takesB, HOK.out, ht]; rfl)
            rw [ht] at hWR
            have HWR := Lib.hid hWR
            clear hWR ht
            go_wp2_with fail
            (go_at_call 45; with_reducible refine (HWR.out).mono ?_; rintro e w' ⟨rfl, hb⟩; have hz := hb.le; obtain ⟨hc, hf⟩ := hb.cells; have hn := hb.cellsN; (try simp only [World.size_alloc] at hc hf hz hn); (try simp only [World.size_setCell] at hc hf hz hn); (try simp only [World.size_drew] at hc hf hz hn))
            go_wp2_with fail
            go_roundw
            case rel => exact ⟨k + 1, by omega, by go_num, HN.out, HGR.out.trans (HG1.out.trans (by repeat (first | with_reducible exact Gr.refl _ | with_reducible refine Gr.alloc ?_ _ | with_reducible refine Gr.drew ?_ | with_reducible refine Gr.trans ?_ (by assumption) | with_reducible refine Gr.setCell ?_ (by (try simp); (try omega)) _)))⟩
            case measure => simp [intOf]; omega
          · rw [ht] at hWR
            have HWR := Lib.hid hWR
            clear hWR ht
            go_wp2_with fail
            (go_at_call 45; with_reducible refine (HWR.out).mono ?_; rintro e w' ⟨rfl, hb⟩; have hz := hb.le; obtain ⟨hc, hf⟩ := hb.cells; have hn := hb.cellsN; (try simp only [World.size_alloc] at hc hf hz hn); (try simp only [World.size_setCell] at hc hf hz hn); (try simp only [World.size_drew] at hc hf hz hn))
            go_wp2_with fail
            go_ret2
            exact ⟨rfl, (HG.out.trans (HGR.out.trans HG1.out)).trans (by repeat (first | with_reducible exact Gr.refl _ | with_reducible refine Gr.alloc ?_ _ | with_reducible refine Gr.drew ?_ | with_reducible refine Gr.trans ?_ (by assumption) | with_reducible refine Gr.setCell ?_ (by (try simp); (try omega)) _))⟩
        · obtain rfl : k = m := by omega
          have := HOK.out
          rw [HBAD.out] at this
          cases this
    · have d1 : decide (16 ≤ (m : Int)) = true := decide_eq_true (by omega)
      have d1' : decide (16 ≤ m) = true := decide_eq_true (by omega)
      clear hV h1 hbad hA hB
      go_enter Tryz.func29, Tryz.ntmps29
      go_wp2_with fail
      (go_at_call 44; with_reducible refine (HV.out _ (by repeat (first | with_reducible exact Gr.refl _ | with_reducible refine Gr.alloc ?_ _ | with_reducible refine Gr.drew ?_ | with_reducible refine Gr.trans ?_ (by assumption) | with_reducible refine Gr.setCell ?_ (by (try simp); (try omega)) _))).mono ?_; rintro e w' ⟨rfl, hb⟩; have hz := hb.le; obtain ⟨hc, hf⟩ := hb.cells; have hn := hb.cellsN; (try simp only [World.size_alloc] at hc hf hz hn); (try simp only [World.size_setCell] at hc hf hz hn); (try simp only [World.size_drew] at hc hf hz hn))
      go_wp2_with fail
      go_ret2
      exact ⟨rfl, (by repeat (first | with_reducible exact Gr.refl _ | with_reducible refine Gr.alloc ?_ _ | with_reducible refine Gr.drew ?_ | with_reducible refine Gr.trans ?_ (by assumption) | with_reducible refine Gr.setCell ?_ (by (try simp); (try omega)) _))⟩
  · rw [h1] at hV
    have HV := Lib.hid hV
    clear hV h1 hbad hA hB
    go_enter Tryz.func29, Tryz.ntmps29
    go_wp2_with fail
    (go_at_call 44; with_reducible refine (HV.out _ (by repeat (first | with_reducible exact Gr.refl _ | with_reducible refine Gr.alloc ?_ _ | with_reducible refine Gr.drew ?_ | with_reducible refine Gr.trans ?_ (by assumption) | with_reducible refine Gr.setCell ?_ (by (try simp); (try omega)) _))).mono ?_; rintro e w' ⟨rfl, hb⟩; have hz := hb.le; obtain ⟨hc, hf⟩ := hb.cells; have hn := hb.cellsN; (try simp only [World.size_alloc] at hc hf hz hn); (try simp only [World.size_setCell] at hc hf hz hn); (try simp only [World.size_drew] at hc hf hz hn))
    go_wp2_with fail
    go_ret2
    exact ⟨rfl, (by repeat (first | with_reducible exact Gr.refl _ | with_reducible refine Gr.alloc ?_ _ | with_reducible refine Gr.drew ?_ | with_reducible refine Gr.trans ?_ (by assumption) | with_reducible refine Gr.setCell ?_ (by (try simp); (try omega)) _))⟩
/-- The shift so far in block VB, and the list of the call's own. -/
structure WkS (w : World) (VB : Nat) (u : Nat → Int) (g : Nat → Nat → Int) (LV : Value) (k : Nat) (W : World) : Prop where
  gr : Gr w W
  lo : w.heap.size ≤ VB
  lt : VB + 1 ≤ W.heap.size
  cell : ∀ j, j < 6 → W.cell? ⟨VB, j, none⟩ = some (.int .i64 (u j))
  froz : ∀ j, W.frozen? ⟨VB, j, none⟩ = false
  own : W.ownsRow (VB + 1) 53 6 LV k (rowCells g k)
theorem WkS.keep {w W W' : World} {VB : Nat} {u : Nat → Int} {g : Nat → Nat → Int} {LV : Value} {k : Nat} (h : WkS w VB u g LV k W) (g' : Gr W W') : WkS w VB u g LV k W' := by
  have hl : VB < W.heap.size := by have := h.lt; omega
  exact ⟨h.gr.trans g', h.lo, Nat.le_trans h.lt g'.le, fun j hj => (Below.cell (p := ⟨VB, j, none⟩) g' hl).trans (h.cell j hj), fun j => (Below.frozen (p := ⟨VB, j, none⟩) g' hl).trans (h.froz j), own_keep h.own g'⟩
theorem WkS.arr {w W : World} {VB : Nat} {u : Nat → Int} {g : Nat → Nat → Int} {LV : Value} {k : Nat} (h : WkS w VB u g LV k W) : ArrRel 6 u VB W.heap.size W W :=
  ⟨But.refl _ _ _, Nat.le_refl _, by have := h.lt; omega, h.cell, h.froz⟩
theorem WkS.added {w W W' : World} {VB : Nat} {u u' : Nat → Int} {g : Nat → Nat → Int} {LV : Value} {k : Nat} (h : WkS w VB u g LV k W) (a : ArrRel 6 u' VB W.heap.size W W') : WkS w VB u' g LV k W' := by
  have hg : W.grownBy W' (some VB) := ⟨a.but.os, a.but.tape, a.but.output, a.but.size, fun i hi hne => a.but.block i hi (fun e => hne (by rw [e]))⟩
  refine ⟨h.gr.but a.but h.lo h.gr.le, h.lo, Nat.le_trans h.lt a.size, a.cell, a.froz, h.own.kept hg ?_⟩
  cases eu : LV.ownBlock with
  | none => exact .inl rfl
  | some b => exact .inr (fun e => by have := (h.own.lt b eu).1; cases e; omega)
theorem WkS.pushed {w W X W' : World} {VB : Nat} {u : Nat → Int} {g : Nat → Nat → Int} {LV LV' : Value} {k : Nat} (h : WkS w VB u g LV k W) (g1 : Gr W X) (hown : W'.ownsRow (VB + 1) 53 6 LV' (k + 1) (rowCells g (k + 1))) (hgrow : X.grownBy W' LV.ownBlock) : WkS w VB u g LV' (k + 1) W' := by
  have hX := h.keep g1
  have b1 : Below (VB + 1) X W' := (Below.refl _ _).grown hgrow hX.lt (fun b hb => (hX.own.lt b hb).1)
  have hl : VB < VB + 1 := by omega
  exact ⟨Below.trans hX.gr (Below.mono b1 (by have := hX.lo; omega)), hX.lo, Nat.le_trans hX.lt hgrow.size, fun j hj => (Below.cell (p := ⟨VB, j, none⟩) b1 hl).trans (hX.cell j hj), fun j => (Below.frozen (p := ⟨VB, j, none⟩) b1 hl).trans (hX.froz j), hown⟩
set_option maxRecDepth 100000 in
set_option maxHeartbeats 16000000 in
theorem walk_in (A B : Option Addr) (n c m d : Nat) (nm : Nat → ByteArray) (f t : Nat → Nat → Int) (w : World) (hA : NamedAt w A n nm f) (hB : RowsAt w 4 B m t) (hok : walkOk nm f n t m = true) :
    Calls Tryz.prog 29 #[.slice A n c, .slice B m d] w (WalkR (if rangeB f t m then m + 1 else 0) (if rangeB f t m then 0 else 3) (shP f t) w) := by
  have hV := fun W (g : Gr w W) => commaValid_any A n c nm f W (hA.keep g)
  unfold walkOk at hok
  simp only [Bool.and_eq_true, decide_eq_true_eq] at hok
  obtain ⟨h1, h15, htk⟩ := hok
  rw [h1] at hV
  have hbd := rowsOk_bd (commaB_parts h1).2.2.2.1
  have HV := Lib.hid hV; have HA := Lib.hid hA; have HB := Lib.hid hB; have HTK := Lib.hid (fun k (hk : k < m) => takesB_at htk hk); have HBD := Lib.hid hbd
  have d1 : decide (16 ≤ (m : Int)) = false := decide_eq_false (by omega)
  have d1' : decide (16 ≤ m) = false := decide_eq_false (by omega)
  obtain ⟨i0, hin, hz0, hz1, hz2⟩ := info_parts (show (Tryz.prog.info? 53).map (fun i => (i.zero, i.size, i.bytes)) = some (some (.agg #[.int .i64 0, .int .i64 0, .int .i64 0, .int .i64 0, .int .i64 0, .int .i64 0]), 6, 48) by kernel_rfl)
  have HINF := Lib.hid (And.intro hin (And.intro hz0 (And.intro hz1 hz2)))
  clear hin hz0 hz1 hz2 hV h1 hA hB htk hbd
  obtain ⟨L, hL⟩ : ∃ L : Nat, L = if rangeB f t m then m + 1 else 0 := ⟨_, rfl⟩
  obtain ⟨E, hE⟩ : ∃ E : Int, E = if rangeB f t m then 0 else 3 := ⟨_, rfl⟩
  rw [← hL, ← hE]
  have HLT : Hid (rangeB f t m = true → L = m + 1 ∧ E = 0) := Lib.hid (fun h => by rw [hL, hE, h]; exact ⟨rfl, rfl⟩)
  have HLF : Hid (rangeB f t m = false → L = 0 ∧ E = 3) := Lib.hid (fun h => by rw [hL, hE, h]; exact ⟨rfl, rfl⟩)
  clear hL hE
  go_enter Tryz.func29, Tryz.ntmps29
  go_wp2_with fail
  (go_at_call 44; with_reducible refine (HV.out _ (by repeat (first | with_reducible exact Gr.refl _ | with_reducible refine Gr.alloc ?_ _ | with_reducible refine Gr.drew ?_ | with_reducible refine Gr.trans ?_ (by assumption) | with_reducible refine Gr.setCell ?_ (by (try simp); (try omega)) _))).mono ?_; rintro e w' ⟨rfl, hb⟩; have hz := hb.le; obtain ⟨hc, hf⟩ := hb.cells; have hn := hb.cellsN; (try simp only [World.size_alloc] at hc hf hz hn); (try simp only [World.size_setCell] at hc hf hz hn); (try simp only [World.size_drew] at hc hf hz hn))
  have cBX : w'.cell? ⟨w.heap.size, 0, none⟩ = some (.slice A n c) := by simp [go_sem, *]
  have lBX : w.heap.size < w'.heap.size := by omega
  have HG := Lib.hid (show Gr w w' from (by repeat (first | with_reducible exact Gr.refl _ | with_reducible refine Gr.alloc ?_ _ | with_reducible refine Gr.drew ?_ | with_reducible refine Gr.trans ?_ (by assumption) | with_reducible refine Gr.setCell ?_ (by (try simp); (try omega)) _)))
  clear hb hz hc hf hn HV
  obtain ⟨W0, rfl⟩ : ∃ W0 : World, W0 = w' := ⟨_, rfl⟩
  have HBX := Lib.hid cBX
  clear cBX
  go_wp2_with fail
  go_loopw [24] (fun iv wr => ∃ k : Nat, k ≤ m ∧ iv = .int .i64 (k : Int) ∧ Gr W0 wr) (fun iv _ => m - (intOf iv).toNat)
  case atStart => exact ⟨0, Nat.zero_le _, rfl, Gr.refl _⟩
  case round =>
    obtain ⟨k, hk, rfl, hg⟩ := hrel
    have HGR := Lib.hid hg
    clear hg
    obtain ⟨wo, rfl⟩ : ∃ wo : World, wo = wr := ⟨_, rfl⟩
    by_cases hlt : k < m
    · have hlt' : decide ((k : Int) < (m : Int)) = true := decide_eq_true (by omega)
      obtain ⟨b, off, rfl, hbl, hcc⟩ := (HB.out.keep (HG.out.trans HGR.out)).at_ hlt
      have c0 := hcc 0 (by omega); have c1 := hcc 1 (by omega); have c2 := hcc 2 (by omega); have c3 := hcc 3 (by omega)
      simp only [Nat.add_zero] at c0
      clear hcc
      go_upto_region 7 with fail
      have hg1 : Gr wo (wo.alloc (.cells #[.int .i64 (t k 0), .int .i64 (t k 1), .int .i64 (t k 2), .int .i64 (t k 3)] 40)) := (Gr.refl _).alloc _
      have a0 : (wo.alloc (.cells #[.int .i64 (t k 0), .int .i64 (t k 1), .int .i64 (t k 2), .int .i64 (t k 3)] 40)).cell? ⟨wo.heap.size, 0, none⟩ = some (.int .i64 (t k 0)) := by simp [go_sem]
      have a1 : (wo.alloc (.cells #[.int .i64 (t k 0), .int .i64 (t k 1), .int .i64 (t k 2), .int .i64 (t k 3)] 40)).cell? ⟨wo.heap.size, 1, none⟩ = some (.int .i64 (t k 1)) := by simp [go_sem]
      have a2 : (wo.alloc (.cells #[.int .i64 (t k 0), .int .i64 (t k 1), .int .i64 (t k 2), .int .i64 (t k 3)] 40)).cell? ⟨wo.heap.size, 2, none⟩ = some (.int .i64 (t k 2)) := by simp [go_sem]
      have a3 : (wo.alloc (.cells #[.int .i64 (t k 0), .int .i64 (t k 1), .int .i64 (t k 2), .int .i64 (t k 3)] 40)).cell? ⟨wo.heap.size, 3, none⟩ = some (.int .i64 (t k 3)) := by simp [go_sem]
      have HG1 := Lib.hid hg1
      have hWR := wrong_any w.heap.size A n c k (t k 0) (t k 1) (t k 2) (t k 3) (wo.alloc (.cells #[.int .i64 (t k 0), .int .i64 (t k 1), .int .i64 (t k 2), .int .i64 (t k 3)] 40)) ((Below.cell (p := ⟨w.heap.size, 0, none⟩) (HGR.out.trans hg1) lBX).trans HBX.out) (Nat.lt_of_lt_of_le lBX (HGR.out.trans hg1).le) (by omega)
      rw [HTK.out k hlt] at hWR
      have HWR := Lib.hid hWR
      clear c0 c1 c2 c3 hbl hg1 hWR
      generalize wo.alloc (.cells #[.int .i64 (t k 0), .int .i64 (t k 1), .int .i64 (t k 2), .int .i64 (t k 3)] 40) = wq at *
      go_wp2_with fail
      (go_at_call 45; with_reducible refine (HWR.out).mono ?_; rintro e w' ⟨rfl, hb⟩; have hz := hb.le; obtain ⟨hc, hf⟩ := hb.cells; have hn := hb.cellsN; (try simp only [World.size_alloc] at hc hf hz hn); (try simp only [World.size_setCell] at hc hf hz hn); (try simp only [World.size_drew] at hc hf hz hn))
      go_wp2_with fail
      go_roundw
      case rel => exact ⟨k + 1, by omega, by go_num, HGR.out.trans (HG1.out.trans (by repeat (first | with_reducible exact Gr.refl _ | with_reducible refine Gr.alloc ?_ _ | with_reducible refine Gr.drew ?_ | with_reducible refine Gr.trans ?_ (by assumption) | with_reducible refine Gr.setCell ?_ (by (try simp); (try omega)) _)))⟩
      case measure => simp [intOf]; omega
    · obtain rfl : m = k := by omega
      have hlt' : decide ((m : Int) < (m : Int)) = false := decide_eq_false (by omega)
      have HGW := Lib.hid (HG.out.trans HGR.out)
      have HBX2 : Hid (wo.cell? ⟨w.heap.size, 0, none⟩ = some (.slice A n c)) := Lib.hid ((Below.cell (p := ⟨w.heap.size, 0, none⟩) HGR.out lBX).trans HBX.out)
      have lBX2 := Nat.lt_of_lt_of_le lBX HGR.out.le
      have hS0 : ∀ W, W = (wo.alloc (.cells #[.int .i64 0, .int .i64 0, .int .i64 0, .int .i64 0, .int .i64 0, .int .i64 0] 53)).alloc (.cells #[.int .i64 0, .int .i64 0, .int .i64 0, .int .i64 0, .int .i64 0, .int .i64 0] 53) → WkS wo wo.heap.size (shP f t 0) (shP f t) (.slice (some ⟨wo.heap.size + 1, 0, none⟩) 1 1) 1 W := by
        rintro W rfl
        refine ⟨((Gr.refl _).alloc _).alloc _, Nat.le_refl _, by simp, fun j hj => ?_, fun j => by simp [go_sem], ?_⟩
        · obtain rfl | rfl | rfl | rfl | rfl | rfl : j = 0 ∨ j = 1 ∨ j = 2 ∨ j = 3 ∨ j = 4 ∨ j = 5 := by omega
          all_goals simp [go_sem, shP]
        · have z := World.ownsRow_lit (base := wo.heap.size + 1) (e := 53) (size := 6) (wo.alloc (.cells #[.int .i64 0, .int .i64 0, .int .i64 0, .int .i64 0, .int .i64 0, .int .i64 0] 53)) #[.int .i64 0, .int .i64 0, .int .i64 0, .int .i64 0, .int .i64 0, .int .i64 0] 1 (by simp) (by decide) (by simp)
          rw [World.size_alloc] at z
          exact z
      have HS0 := Lib.hid hS0
      clear HGR HG HBX lBX hS0
      go_wp2_with fail
      generalize hW : (wo.alloc (.cells #[.int .i64 0, .int .i64 0, .int .i64 0, .int .i64 0, .int .i64 0, .int .i64 0] 53)).alloc (.cells #[.int .i64 0, .int .i64 0, .int .i64 0, .int .i64 0, .int .i64 0, .int .i64 0] 53) = W2
      have HS1 := Lib.hid (HS0.out W2 hW.symm)
      clear hW HS0
      generalize hVB : wo.heap.size = VB at *
      have HVB := Lib.hid hVB
      clear hVB
      go_loopw [10, 38] (fun lv iv wr => ∃ (LV : Value) (k : Nat), LV = lv ∧ k ≤ m ∧ iv = .int .i64 (k : Int) ∧ rangeB f t k = true ∧ WkS wo VB (shP f t k) (shP f t) LV (k + 1) wr) (fun _ iv _ => m - (intOf iv).toNat)
      case atStart => exact ⟨_, 0, rfl, Nat.zero_le _, rfl, rfl, HS1.out⟩
      case round =>
        obtain ⟨lv, k, rfl, hk, rfl, hrg, hS⟩ := hrel
        have HS := Lib.hid hS; have HRG := Lib.hid hrg
        have HGR := Lib.hid (HGW.out.trans hS.gr)
        have hsz := hS.lt
        have cBX := (Below.cell (p := ⟨w.heap.size, 0, none⟩) hS.gr (by show w.heap.size < wo.heap.size; have := HVB.out; omega)).trans HBX2.out
        have hbdS := allIn_get (rangeB_at hrg (Nat.le_refl k))
        have HBS : Hid (∀ j, j < 6 → -48 ≤ shP f t k j ∧ shP f t k j ≤ 48) := Lib.hid (fun j hj => by have z := hbdS j hj; rwa [get_row (shP f t) k j hj] at z)
        have hglo := hS.gr.le
        clear hS hrg HS1 hbdS
        obtain ⟨wp, rfl⟩ : ∃ wp : World, wp = wr := ⟨_, rfl⟩
        by_cases hlt : k < m
        · have hlt' : decide ((k : Int) < (m : Int)) = true := decide_eq_true (by omega)
          obtain ⟨b, off, rfl, hbl, hcc⟩ := (HB.out.keep HGR.out).at_ hlt
          have c0 := hcc 0 (by omega); have c1 := hcc 1 (by omega); have c2 := hcc 2 (by omega); have c3 := hcc 3 (by omega)
          simp only [Nat.add_zero] at c0
          obtain ⟨p1, p2, p3, p4, p5, p6⟩ := takeB_parts (HTK.out k hlt)
          obtain ⟨i, hi⟩ := Int.eq_ofNat_of_zero_le p2
          have hin : i < n := by omega
          have HSH : Hid (shP f t (k + 1) = fun j => shP f t k j + t k 2 * f i j) := Lib.hid (by funext j; rw [shP, hi]; rfl)
          rw [hi] at c1
          have hxx : -1 ≤ t k 2 ∧ t k 2 ≤ 1 := by omega
          have hi0 : (0 : Int) ≤ (i : Int) := by omega
          have hi1 : (i : Int) < (n : Int) := by omega
          clear hcc p1 p2 p3 p4 p5 p6 hi
          generalize t k 0 = t0 at *
          generalize t k 2 = x at *
          generalize t k 3 = t3 at *
          go_upto_region 15 with fail
          have hg1 : Gr wp (wp.alloc (.cells #[.int .i64 t0, .int .i64 (i : Int), .int .i64 x, .int .i64 t3] 40)) := (Gr.refl _).alloc _
          have a1 : (wp.alloc (.cells #[.int .i64 t0, .int .i64 (i : Int), .int .i64 x, .int .i64 t3] 40)).cell? ⟨wp.heap.size, 1, none⟩ = some (.int .i64 (i : Int)) := by simp [go_sem]
          have a2 : (wp.alloc (.cells #[.int .i64 t0, .int .i64 (i : Int), .int .i64 x, .int .i64 t3] 40)).cell? ⟨wp.heap.size, 2, none⟩ = some (.int .i64 x) := by simp [go_sem]
          have hsq : wp.heap.size < (wp.alloc (.cells #[.int .i64 t0, .int .i64 (i : Int), .int .i64 x, .int .i64 t3] 40)).heap.size := by simp
          have HG1 := Lib.hid hg1
          have HSQ := Lib.hid (HS.out.keep hg1)
          have cB1 := (Below.cell (p := ⟨w.heap.size, 0, none⟩) hg1 (by show w.heap.size < wp.heap.size; omega)).trans cBX
          have lB1 : w.heap.size < (wp.alloc (.cells #[.int .i64 t0, .int .i64 (i : Int), .int .i64 x, .int .i64 t3] 40)).heap.size := by omega
          clear c0 c1 c2 c3 hbl hg1 cBX HS
          generalize wp.alloc (.cells #[.int .i64 t0, .int .i64 (i : Int), .int .i64 x, .int .i64 t3] 40) = wq at *
          obtain ⟨b2, off2, rfl, hbl2, hsn, e0, e1, e2, e3, e4, e5, e6⟩ := (HA.out.keep (HGR.out.trans HG1.out)).seven hin
          have hb2l : b2 ≠ VB := fun e => by
            obtain ⟨b3, off3, h3, hb3, -⟩ := (HA.out.keep HGW.out).seven hin
            cases h3
            have := HVB.out; omega
          have hbx : w.heap.size ≠ VB := by have := HVB.out; omega
          have htb : wp.heap.size ≠ VB := by omega
          have hAD := add_any VB wq.heap.size (shP f t k) (f i) x wq.drew wq.drew ⟨But.refl _ _ _, by simp, by have := HSQ.out.lt; omega, fun j hj => by rw [World.cell?_drew]; exact HSQ.out.cell j hj, fun j => by rw [World.frozen?_drew]; exact HSQ.out.froz j⟩ (fun j hj => by have := HBS.out j hj; omega) (fun j hj => by
            have z := HBD.out i hin j hj
            rcases (by omega : x = -1 ∨ x = 0 ∨ x = 1) with rfl | rfl | rfl <;> omega)
          have HAD := Lib.hid hAD
          clear hAD e0 hsn
          generalize hTB : wp.heap.size = TB at *
          clear hTB
          go_cut [] (fun wx => ArrRel 6 (fun j => shP f t k j + x * f i j) VB wq.heap.size wq.drew wx)
          case first =>
            refine wp_region_held_drew (S := fun wx => ∀ b o, (⟨min (b + 1) wq.heap.size, 0, none⟩ : Addr) = ⟨b + 1, 0, none⟩ → ¬ (⟨b, 0, none⟩ : Addr) = ⟨VB, 0, none⟩ → wx.cell? ⟨b, o, none⟩ = wq.cell? ⟨b, o, none⟩) (by kernel_rfl) (fun b o _ _ => by rw [World.cell?_drew]) (fun hHeld => ?_)
            refine take_at (i := 0) (oi := _) (d := some 42) (v := ?_) rfl rfl (by kernel_rfl) (by kernel_rfl) (by kernel_rfl) (fun _ _ _ h => h) (Or.inl ⟨by rfl, ?_⟩) hHeld ?_
            rotate_left
            next => (intro w hSw; (try dsimp only at hSw); go_simp; try with_reducible rfl)
            try simp only [Act.put, List.setIfInBounds_toArray, List.set_cons_zero, List.set_cons_succ]
            refine take_at (i := 1) (oi := _) (d := some 43) (v := ?_) rfl rfl (by kernel_rfl) (by kernel_rfl) (by kernel_rfl) (fun _ _ _ h => h) (Or.inl ⟨by rfl, ?_⟩) hHeld ?_
            rotate_left
            next => (intro w hSw; (try dsimp only at hSw); go_simp; try with_reducible rfl)
            try simp only [Act.put, List.setIfInBounds_toArray, List.set_cons_zero, List.set_cons_succ]
            refine take_at (i := 2) (oi := _) (d := some 44) (v := ?_) rfl rfl (by kernel_rfl) (by kernel_rfl) (by kernel_rfl) (fun _ _ _ h => h) (Or.inl ⟨by rfl, ?_⟩) hHeld ?_
            rotate_left
            next => (intro w hSw; (try dsimp only at hSw); go_simp; try with_reducible rfl)
            try simp only [Act.put, List.setIfInBounds_toArray, List.set_cons_zero, List.set_cons_succ]
            refine take_at (i := 3) (oi := _) (d := some 45) (v := ?_) rfl rfl (by kernel_rfl) (by kernel_rfl) (by kernel_rfl) (fun _ _ _ h => h) (Or.inl ⟨by rfl, ?_⟩) hHeld ?_
            rotate_left
            next => (intro w hSw; (try dsimp only at hSw); go_simp; try with_reducible rfl)
            try simp only [Act.put, List.setIfInBounds_toArray, List.set_cons_zero, List.set_cons_succ]
            refine take_at (i := 4) (oi := _) (d := some 46) (v := ?_) rfl rfl (by kernel_rfl) (by kernel_rfl) (by kernel_rfl) (fun _ _ _ h => h) (Or.inl ⟨by rfl, ?_⟩) hHeld ?_
            rotate_left
            next => (intro w hSw; (try dsimp only at hSw); go_simp; try with_reducible rfl)
            try simp only [Act.put, List.setIfInBounds_toArray, List.set_cons_zero, List.set_cons_succ]
            refine take_at (i := 5) (oi := _) (d := some 47) (v := ?_) rfl rfl (by kernel_rfl) (by kernel_rfl) (by kernel_rfl) (fun _ _ _ h => h) (Or.inl ⟨by rfl, ?_⟩) hHeld ?_
            rotate_left
            next => (intro w hSw; (try dsimp only at hSw); go_simp; try with_reducible rfl)
            try simp only [Act.put, List.setIfInBounds_toArray, List.set_cons_zero, List.set_cons_succ]
            refine take_at (i := 6) (oi := _) (d := some 48) (v := ?_) rfl rfl (by kernel_rfl) (by kernel_rfl) (by kernel_rfl) (fun _ _ _ h => h) (Or.inl ⟨by rfl, ?_⟩) hHeld ?_
            rotate_left
            next => (intro w hSw; (try dsimp only at hSw); go_simp; try with_reducible rfl)
            try simp only [Act.put, List.setIfInBounds_toArray, List.set_cons_zero, List.set_cons_succ]
            refine take_at (i := 7) (oi := _) (d := some 49) (v := ?_) rfl rfl (by kernel_rfl) (by kernel_rfl) (by kernel_rfl) (fun _ _ _ h => h) (Or.inl ⟨by rfl, ?_⟩) hHeld ?_
            rotate_left
            next => (intro w hSw; (try dsimp only at hSw); go_simp; try with_reducible rfl)
            try simp only [Act.put, List.setIfInBounds_toArray, List.set_cons_zero, List.set_cons_succ]
            refine wpAnyH_ready (rs := [8]) (by kernel_rfl) (by simp) (AllReadyH.cons (o := _) rfl (fun K hK => ?_) AllReadyH.nil)
            go_simp
            go_at_call 46
            refine HAD.out.mono ?_
            rintro e w6 ⟨rfl, hA6⟩
            refine hK.out _ _ (fun b o h1 h2 => (hA6.but.cell (p := ⟨b, o, none⟩) (lt_of_addr h1) (fun e => h2 (by rw [show b = VB from e]))).trans (World.cell?_drew _ _)) (fun hHeld => ?_)
            clear hK K
            try simp only [Act.put, List.setIfInBounds_toArray, List.set_cons_zero, List.set_cons_succ]
            refine wpAnyH_done (by kernel_rfl) ?_ _
            go_wp2_with fail
            go_meet
            exact hA6
          case rest =>
            have HS2 := Lib.hid (HSQ.out.keep (Gr.refl wq).drew)
            have hS3 := HS2.out.added (W' := wc) (by rw [World.size_drew]; exact hcut)
            rw [← HSH.out] at hS3
            have HS3 := Lib.hid hS3
            have hsz3 := hS3.lt
            have v0 := hS3.cell 0 (by omega); have v1 := hS3.cell 1 (by omega); have v2 := hS3.cell 2 (by omega); have v3 := hS3.cell 3 (by omega); have v4 := hS3.cell 4 (by omega); have v5 := hS3.cell 5 (by omega)
            have HIV := Lib.hid (fun W => pinterval_any (shP f t (k + 1) 0) (shP f t (k + 1) 1) (shP f t (k + 1) 2) (shP f t (k + 1) 3) (shP f t (k + 1) 4) (shP f t (k + 1) 5) W)
            have HR1 : Hid (rangeB f t (k + 1) = allIn ⟨shP f t (k + 1) 0, shP f t (k + 1) 1, shP f t (k + 1) 2, shP f t (k + 1) 3, shP f t (k + 1) 4, shP f t (k + 1) 5⟩ 48 6) := Lib.hid (by rw [rangeB, HRG.out, Bool.true_and])
            have HR0 : Hid (allIn ⟨shP f t (k + 1) 0, shP f t (k + 1) 1, shP f t (k + 1) 2, shP f t (k + 1) 3, shP f t (k + 1) 4, shP f t (k + 1) 5⟩ 48 6 = false → rangeB f t m = false) := Lib.hid (fun h => rangeB_no hlt h)
            clear hS3 hcut HAD HSQ HS2 a1 a2 e1 e2 e3 e4 e5 e6 cB1
            generalize allIn ⟨shP f t (k + 1) 0, shP f t (k + 1) 1, shP f t (k + 1) 2, shP f t (k + 1) 3, shP f t (k + 1) 4, shP f t (k + 1) 5⟩ 48 6 = R at *
            rcases btf R with rfl | rfl
            · go_wp2_with fail
              (go_at_call 47; with_reducible refine (HIV.out _).mono ?_; rintro e w' ⟨rfl, hb⟩; have hz := hb.le; obtain ⟨hc, hf⟩ := hb.cells; have hn := hb.cellsN; (try simp only [World.size_alloc] at hc hf hz hn); (try simp only [World.size_setCell] at hc hf hz hn); (try simp only [World.size_drew] at hc hf hz hn))
              have hgm : Gr wc w' := (by repeat (first | with_reducible exact Gr.refl _ | with_reducible refine Gr.alloc ?_ _ | with_reducible refine Gr.drew ?_ | with_reducible refine Gr.trans ?_ (by assumption) | with_reducible refine Gr.setCell ?_ (by (try simp); (try omega)) _))
              have HS4 := Lib.hid (HS3.out.keep hgm)
              have v0' := HS4.out.cell 0 (by omega); have v1' := HS4.out.cell 1 (by omega); have v2' := HS4.out.cell 2 (by omega); have v3' := HS4.out.cell 3 (by omega); have v4' := HS4.out.cell 4 (by omega); have v5' := HS4.out.cell 5 (by omega)
              have hsz4 := HS4.out.lt
              clear hb hz hc hf hn hgm HS3 v0 v1 v2 v3 v4 v5 HR0
              obtain ⟨w4, rfl⟩ : ∃ w4 : World, w4 = w' := ⟨_, rfl⟩
              go_wp2_with (at_builtin; refine wpList_append_own _ rfl _ _ 49 rfl (VB + 1) 53 i0 (.agg #[.int .i64 0, .int .i64 0, .int .i64 0, .int .i64 0, .int .i64 0, .int .i64 0]) 6 48 Tryz.underlying49 HINF.out.1 HINF.out.2.1 HINF.out.2.2.1 HINF.out.2.2.2 rfl (by decide) _ _ _ rfl (HS4.out.own.alloc _) ⟨w4.heap.size, 0, none⟩ 1 1 [.int .i64 (shP f t (k + 1) 0), .int .i64 (shP f t (k + 1) 1), .int .i64 (shP f t (k + 1) 2), .int .i64 (shP f t (k + 1) 3), .int .i64 (shP f t (k + 1) 4), .int .i64 (shP f t (k + 1) 5)] rfl rfl (cell_six_new _ _ _ _ _ _ _ _) (by intro u hu; simp at hu; rcases hu with rfl | rfl | rfl | rfl | rfl | rfl <;> rfl) (by unfold maxLen; omega) (by omega) (by simp; omega) ?_; intro lv' w5 hown1 hgrow hnil)
              have HN := Lib.hid (HS4.out.pushed ((Gr.refl _).alloc _) hown1 hgrow)
              clear hown1 hgrow hnil
              go_wp2_with fail
              go_roundw
              case rel => exact ⟨_, k + 1, rfl, by omega, by go_num, HR1.out, HN.out⟩
              case measure => simp [intOf]; omega
            · have HLE := Lib.hid (HLF.out (HR0.out rfl))
              go_wp2_with fail
              (go_at_call 47; with_reducible refine (HIV.out _).mono ?_; rintro e w' ⟨rfl, hb⟩; have hz := hb.le; obtain ⟨hc, hf⟩ := hb.cells; have hn := hb.cellsN; (try simp only [World.size_alloc] at hc hf hz hn); (try simp only [World.size_setCell] at hc hf hz hn); (try simp only [World.size_drew] at hc hf hz hn))
              go_wp2_with fail
              go_ret2
              rw [HLE.out.1, HLE.out.2]
              exact walkR_none ⟨rfl, (HGW.out.trans HS3.out.gr).trans (by repeat (first | with_reducible exact Gr.refl _ | with_reducible refine Gr.alloc ?_ _ | with_reducible refine Gr.drew ?_ | with_reducible refine Gr.trans ?_ (by assumption) | with_reducible refine Gr.setCell ?_ (by (try simp); (try omega)) _))⟩
        · obtain rfl : m = k := by omega
          have hlt' : decide ((m : Int) < (m : Int)) = false := decide_eq_false (by omega)
          have HLE := Lib.hid (HLT.out HRG.out)
          obtain ⟨A3, c3, rfl, hrows, -⟩ := rows_of_own HS.out.own (shP f t) (fun i j hi hj => rowCells_at _ _ i j hi hj)
          have HRW := Lib.hid hrows
          clear hrows
          go_wp2_with fail
          go_ret2
          rw [HLE.out.1, HLE.out.2]
          exact ⟨A3, c3, rfl, HRW.out, HGR.out⟩
theorem walk_any (A B : Option Addr) (n c m d : Nat) (nm : Nat → ByteArray) (f t : Nat → Nat → Int) (w : World) (hA : NamedAt w A n nm f) (hB : RowsAt w 4 B m t) :
    Calls Tryz.prog 29 #[.slice A n c, .slice B m d] w (WalkR (walkN nm f n t m) (walkE nm f n t m) (shP f t) w) := by
  rcases btf (walkOk nm f n t m) with h | h
  · have z := walk_in A B n c m d nm f t w hA hB h
    have e1 : walkE nm f n t m = (if rangeB f t m then 0 else 3) := by unfold walkE; rw [if_pos h]
    have e2 : walkN nm f n t m = (if rangeB f t m then m + 1 else 0) := by
      unfold walkN
      rw [e1]
      cases rangeB f t m <;> simp
    rw [e1, e2]
    exact z
  · have e1 : walkE nm f n t m = 1 := by unfold walkE; rw [if_neg (by simp [h])]
    have e2 : walkN nm f n t m = 0 := by unfold walkN; rw [e1]; rfl
    rw [e1, e2]
    exact (walk_arg A B n c m d nm f t w hA hB h).mono fun e w' h => walkR_none h
end Go.Proofs.YtelhmdhhabgihaaGreatDoor
