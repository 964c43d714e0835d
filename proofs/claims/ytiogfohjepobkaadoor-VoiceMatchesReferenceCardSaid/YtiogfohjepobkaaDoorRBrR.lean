/-
  schismaref14.Phrase and Serves: what they answer.
  schismaref14.Breaths, the plain side: what its pass knows before each note.
  schismaref14.Breaths at every input.
-/
import Derived.Test.YtiogfohjepobkaaDoorBrPQ
import Derived.Test.YtiogfohjepobkaaDoorBreaB
import Derived.Test.YtiogfohjepobkaaDoorHeld
import Derived.BigQuiet
import Derived.Deep.QuietTactic
import Derived.IntWalk
import Derived.Test.YtiogfohjepobkaaDoorRVV
import Derived.Test.YtiogfohjepobkaaDoorVHd
namespace Go.Proofs.YtiogfohjepobkaaDoor
open Go.RowKit

/-- Whether lengths and places are a phrase. -/
def phB (g : Nat → Int) (n k : Nat) : Bool := decide (n = k ∧ n ≤ 200) && lenOk g n
set_option maxRecDepth 100000 in
set_option maxHeartbeats 4000000 in
theorem rphrase_any (A M : Option Addr) (n c k d : Nat) (g : Nat → Int) (w : World) (hA : IntsAt w A n g) :
    Calls Tryd.prog 27 #[.slice A n c, .slice M k d] w fun e w' => e = .returned (.bool (phB g n k)) ∧ Gr w w' := by
  have HA := Lib.hid hA
  clear hA
  by_cases hnk : n = k
  · subst hnk
    have hb1 : ((n : Int) == (n : Int)) = true := by simp
    have hb2 : ((n : Int) != (n : Int)) = false := by simp
    by_cases h2 : n ≤ 200
    · have HPB : Hid (phB g n n = lenOk g n) := Lib.hid (by unfold phB; rw [decide_eq_true (show n = n ∧ n ≤ 200 from ⟨rfl, h2⟩), Bool.true_and])
      go_enter Tryd.func27, Tryd.ntmps27
      go_wp2_with fail
      go_loopw [5] (fun i wr => ∃ j : Nat, j ≤ n ∧ i = .int .i64 j ∧ lenOk g j = true ∧ Gr w wr) (fun i _ => n - (intOf i).toNat)
      case atStart => exact ⟨0, Nat.zero_le _, rfl, rfl, Gr.refl _⟩
      case round =>
        obtain ⟨j, hj, rfl, he, hg⟩ := hrel
        have HE := Lib.hid he; have HG := Lib.hid hg
        clear he hg
        by_cases hlt : j < n
        · obtain ⟨b, off, rfl, hb, hc⟩ := (HA.out.keep HG.out).one hlt
          obtain ⟨wp, rfl⟩ : ∃ wp : World, wp = wr := ⟨_, rfl⟩
          have hlt' : (j : Int) < (n : Int) := by omega
          have hj0 : (0 : Int) ≤ (j : Int) := by omega
          rcases (by omega : g j < 1 ∨ (1 ≤ g j ∧ g j ≤ 100000) ∨ (1 ≤ g j ∧ 100000 < g j)) with q | ⟨q, q'⟩ | ⟨q, q'⟩
          · have HN := Lib.hid (lenOk_no (g := g) hlt (by omega))
            have q1 : decide (g j < 1) = true := decide_eq_true q
            go_wp2_with fail
            go_ret
            exact ⟨ret_bool (by rw [HPB.out, HN.out]), HG.out⟩
          · have HS : Hid (lenOk g (j + 1) = true) := Lib.hid (by simp [lenOk, HE.out, q, q'])
            have q1 : decide (g j < 1) = false := decide_eq_false (by omega)
            have q2 : decide (100000 < g j) = false := decide_eq_false (by omega)
            go_wp2_with fail
            go_roundw
            case rel => exact ⟨j + 1, by omega, by go_num, HS.out, HG.out⟩
            case measure => simp [intOf]; omega
          · have HN := Lib.hid (lenOk_no (g := g) hlt (by omega))
            have q1 : decide (g j < 1) = false := decide_eq_false (by omega)
            have q2 : decide (100000 < g j) = true := decide_eq_true q'
            go_wp2_with fail
            go_ret
            exact ⟨ret_bool (by rw [HPB.out, HN.out]), HG.out⟩
        · obtain rfl : n = j := by omega
          obtain ⟨wp, rfl⟩ : ∃ wp : World, wp = wr := ⟨_, rfl⟩
          go_wp2
          go_ret
          exact ⟨ret_bool (by rw [HPB.out, HE.out]), HG.out⟩
    · have HPB : Hid (phB g n n = false) := Lib.hid (by unfold phB; rw [decide_eq_false (show ¬ (n = n ∧ n ≤ 200) from fun h => h2 h.2), Bool.false_and])
      have h3 : (200 : Int) < (n : Int) := by omega
      clear h2
      go_enter Tryd.func27, Tryd.ntmps27
      go_wp2_with fail
      go_ret
      exact ⟨ret_bool HPB.out.symm, Gr.refl _⟩
  · have hb1 : ((n : Int) == (k : Int)) = false := by simp; omega
    have hb2 : ((n : Int) != (k : Int)) = true := by simp; omega
    have hb3 : (n == k) = false := by simp; omega
    have hb4 : (n != k) = true := by simp; omega
    have HPB : Hid (phB g n k = false) := Lib.hid (by unfold phB; rw [decide_eq_false (show ¬ (n = k ∧ n ≤ 200) from fun h => hnk h.1), Bool.false_and])
    clear hnk
    go_enter Tryd.func27, Tryd.ntmps27
    go_wp2_with fail
    go_ret
    exact ⟨ret_bool HPB.out.symm, Gr.refl _⟩
theorem svSt_facts {g : Nat → Int} {m : Nat → Bool} {br : Int} {n : Nat} {u : Nat → Int} {k : Nat} (hok : lenOk g n = true) (hb : 0 ≤ br) : ∀ i, i ≤ n → ∀ run at_, svSt g m br n u k i = some (run, at_) → 0 ≤ run ∧ run ≤ br ∧ at_ ≤ i ∧ at_ ≤ k := by
  intro i
  induction i with
  | zero =>
    intro _ run at_ h
    simp only [svSt, Option.some.injEq, Prod.mk.injEq] at h
    omega
  | succ i ih =>
    intro hi run at_ h
    simp only [svSt] at h
    have hg := lenOk_at hok i (by omega)
    split at h
    · cases h
    · rename_i run0 at0 e0
      have := ih (by omega) run0 at0 e0
      split at h
      · cases h
      · split at h
        · split at h
          · cases h
          · simp only [Option.some.injEq, Prod.mk.injEq] at h
            omega
        · simp only [Option.some.injEq, Prod.mk.injEq] at h
          omega

set_option maxRecDepth 100000 in
set_option maxHeartbeats 8000000 in
theorem rserves_any (br : Int) (A M U : Option Addr) (n c cm k d : Nat) (g : Nat → Int) (m : Nat → Bool) (u : Nat → Int) (w : World) (hA : IntsAt w A n g) (hM : BoolsAt w M n m) (hU : IntsAt w U k u) (hn : n ≤ 200) (hok : lenOk g n = true) (hb0 : 0 ≤ br) (hb1 : br ≤ 100000) (hk : k ≤ 9223372036854775807) :
    Calls Tryd.prog 28 #[.int .i64 br, .slice A n c, .slice M n cm, .slice U k d] w fun e w' => e = .returned (.bool (svB g m br n u k)) ∧ Gr w w' := by
  have HA := Lib.hid hA; have HM := Lib.hid hM; have HU := Lib.hid hU; have HOK := Lib.hid hok
  clear hA hM hU hok
  generalize hR : svB g m br n u k = R
  have HR := Lib.hid hR
  clear hR
  go_enter Tryd.func28, Tryd.ntmps28
  go_wp2_with fail
  go_loopw [9, 10, 11] (fun rv av i wr => ∃ (j : Nat) (run : Int) (a : Nat), j ≤ n ∧ i = .int .i64 j ∧ rv = .int .i64 run ∧ av = .int .i64 a ∧ svSt g m br n u k j = some (run, a) ∧ Gr w wr) (fun _ _ i _ => n - (intOf i).toNat)
  case atStart => exact ⟨0, 0, 0, Nat.zero_le _, rfl, rfl, rfl, rfl, Gr.refl _⟩
  case round =>
    obtain ⟨j, run, a, hj, rfl, rfl, rfl, he, hg⟩ := hrel
    have hf := svSt_facts HOK.out hb0 j hj run a he
    obtain ⟨hf1, hf2, hf3, hf4⟩ := hf
    have HE := Lib.hid he; have HG := Lib.hid hg
    clear he hg
    by_cases hlt : j < n
    · obtain ⟨b, off, rfl, hb, hc⟩ := (HA.out.keep HG.out).one hlt
      obtain ⟨b', off', rfl, hb', hc'⟩ := (HM.out.keep HG.out).one hlt
      obtain ⟨wp, rfl⟩ : ∃ wp : World, wp = wr := ⟨_, rfl⟩
      have hlt' : (j : Int) < (n : Int) := by omega
      have hj0 : (0 : Int) ≤ (j : Int) := by omega
      have hgj := lenOk_at HOK.out j hlt
      obtain ⟨hg1, hg2⟩ := hgj
      have hw1 : IntKind.i64.wrap (run + g j) = run + g j := IntWalk.i64_in _ ⟨by omega, by omega⟩
      have HNX : Hid (svSt g m br n u k (j + 1) = (if br < run + g j then none else if a < k ∧ u a = (j : Int) then (if m j = false ∨ j + 1 = n then none else some (0, a + 1)) else some (run + g j, a))) := Lib.hid (by simp only [svSt, HE.out])
      by_cases q1 : br < run + g j
      · have d1 : decide (br < run + g j) = true := decide_eq_true q1
        have HN : Hid (svB g m br n u k = false) := Lib.hid (svB_none (i := j + 1) (by rw [HNX.out, if_pos q1]) (by omega))
        clear q1
        go_wp2_with fail
        go_ret
        exact ⟨ret_bool (by rw [← HR.out, HN.out]), HG.out⟩
      · have d1 : decide (br < run + g j) = false := decide_eq_false q1
        by_cases q2 : a < k
        · have d2 : decide ((a : Int) < (k : Int)) = true := decide_eq_true (by omega)
          have d2' : decide (a < k) = true := decide_eq_true q2
          obtain ⟨b2, off2, rfl, hb2, hc2⟩ := (HU.out.keep HG.out).one q2
          have ha0 : (0 : Int) ≤ (a : Int) := by omega
          have ha1 : (a : Int) < (k : Int) := by omega
          by_cases q3 : u a = (j : Int)
          · have d3 : (u a == (j : Int)) = true := by simp [q3]
            have hwn : IntKind.i64.wrap ((n : Int) - 1) = (n : Int) - 1 := IntWalk.i64_in _ ⟨by omega, by omega⟩
            have hwa : IntKind.i64.wrap ((a : Int) + 1) = ((a + 1 : Nat) : Int) := (IntWalk.i64_in _ ⟨by omega, by omega⟩).trans (by omega)
            rcases tf (m j) with q4 | q4
            · by_cases q5 : j + 1 = n
              · have d5 : ((j : Int) == (n : Int) - 1) = true := by simp; omega
                have HN : Hid (svB g m br n u k = false) := Lib.hid (svB_none (i := j + 1) (by rw [HNX.out, if_neg q1, if_pos ⟨q2, q3⟩, if_pos (Or.inr q5)]) (by omega))
                clear q1 q3 q5
                go_wp2_with fail
                go_ret
                exact ⟨ret_bool (by rw [← HR.out, HN.out]), HG.out⟩
              · have d5 : ((j : Int) == (n : Int) - 1) = false := by simp; omega
                have HS : Hid (svSt g m br n u k (j + 1) = some (0, a + 1)) := Lib.hid (by rw [HNX.out, if_neg q1, if_pos ⟨q2, q3⟩, if_neg (fun h => h.elim (fun h => by rw [q4] at h; cases h) q5)])
                clear q1 q3 q5
                go_wp2_with fail
                go_roundw
                case rel => exact ⟨j + 1, 0, a + 1, by omega, by go_num, rfl, by go_num, HS.out, HG.out⟩
                case measure => simp [intOf]; omega
            · have HN : Hid (svB g m br n u k = false) := Lib.hid (svB_none (i := j + 1) (by rw [HNX.out, if_neg q1, if_pos ⟨q2, q3⟩, if_pos (Or.inl q4)]) (by omega))
              clear q1 q3
              go_wp2_with fail
              go_ret
              exact ⟨ret_bool (by rw [← HR.out, HN.out]), HG.out⟩
          · have d3 : (u a == (j : Int)) = false := by simp [q3]
            have HS : Hid (svSt g m br n u k (j + 1) = some (run + g j, a)) := Lib.hid (by rw [HNX.out, if_neg q1, if_neg (fun h => q3 h.2)])
            clear q1 q3
            go_wp2_with fail
            go_roundw
            case rel => exact ⟨j + 1, run + g j, a, by omega, by go_num, rfl, rfl, HS.out, HG.out⟩
            case measure => simp [intOf]; omega
        · have d2 : decide ((a : Int) < (k : Int)) = false := decide_eq_false (by omega)
          have d2' : decide (a < k) = false := decide_eq_false q2
          have HS : Hid (svSt g m br n u k (j + 1) = some (run + g j, a)) := Lib.hid (by rw [HNX.out, if_neg q1, if_neg (fun h => q2 h.1)])
          clear q1
          go_wp2_with fail
          go_roundw
          case rel => exact ⟨j + 1, run + g j, a, by omega, by go_num, rfl, rfl, HS.out, HG.out⟩
          case measure => simp [intOf]; omega
    · obtain rfl : n = j := by omega
      obtain ⟨wp, rfl⟩ : ∃ wp : World, wp = wr := ⟨_, rfl⟩
      by_cases q : a = k
      · have d : ((a : Int) == (k : Int)) = true := by simp; omega
        have d' : (a == k) = true := by simp; omega
        have HN : Hid (svB g m br n u k = true) := Lib.hid (by simp only [svB, HE.out, decide_eq_true_eq]; exact q)
        clear q
        go_wp2_with fail
        go_ret
        exact ⟨ret_bool (by rw [← HR.out, HN.out]), HG.out⟩
      · have d : ((a : Int) == (k : Int)) = false := by simp; omega
        have d' : (a == k) = false := by simp; omega
        have HN : Hid (svB g m br n u k = false) := Lib.hid (by simp only [svB, HE.out, decide_eq_false_iff_not]; exact q)
        clear q
        go_wp2_with fail
        go_ret
        exact ⟨ret_bool (by rw [← HR.out, HN.out]), HG.out⟩
end Go.Proofs.YtiogfohjepobkaaDoor

namespace Go.Proofs.YtiogfohjepobkaaDoor
open Go.RowKit

/-- What the pass knows before note i. -/
structure RbI (g : Nat → Int) (m : Nat → Bool) (br : Int) (n i : Nat) (out : List Int) (run last : Int) (from_ : Nat) : Prop where
  runs : Runs g m br n out from_
  fi : from_ ≤ i
  sum : run = preS g i - preS g from_
  le : run ≤ br
  lst : last = lastM m 0 i
theorem lastM_from {m : Nat → Bool} {fr t : Nat} : lastM m fr t = if (fr : Int) ≤ lastM m 0 t then lastM m 0 t else -1 := by
  induction t with
  | zero => rw [show lastM m 0 0 = -1 from rfl, if_neg (by omega)]; rfl
  | succ t ih =>
    by_cases hm : m t = true
    · have e : lastM m 0 (t + 1) = (t : Int) := if_pos ⟨Nat.zero_le _, hm⟩
      rw [e]
      show (if fr ≤ t ∧ m t = true then (t : Int) else lastM m fr t) = _
      by_cases hf : fr ≤ t
      · rw [if_pos ⟨hf, hm⟩, if_pos (by omega)]
      · rw [if_neg (fun h => hf h.1), if_neg (by omega), ih]
        have := lastM_lt m 0 t
        rw [if_neg (by omega)]
    · have e : lastM m 0 (t + 1) = lastM m 0 t := if_neg (fun h => hm h.2)
      rw [e, ← ih]
      exact if_neg (fun h => hm h.2)
theorem RbI.start (g : Nat → Int) (m : Nat → Bool) {br : Int} (n : Nat) (hb : 0 ≤ br) : RbI g m br n 0 [] 0 (-1) 0 := ⟨Runs.nil, Nat.le_refl _, by simp, hb, rfl⟩
theorem RbI.done {g : Nat → Int} {m : Nat → Bool} {br : Int} {n : Nat} {out : List Int} {run last : Int} {fr : Nat} (h : RbI g m br n n out run last fr) : BrOk g m br n out :=
  ⟨fr, h.runs, h.fi, Nat.le_refl _, by have := h.sum; have := h.le; omega, fun h => by omega⟩
theorem RbI.next {g : Nat → Int} {m : Nat → Bool} {br : Int} {n i : Nat} {out : List Int} {run last : Int} {fr : Nat} (h : RbI g m br n i out run last fr) (hr : ¬ br < run + g i) : RbI g m br n (i + 1) out (run + g i) (if m i = true then (i : Int) else last) fr :=
  ⟨h.runs, by have := h.fi; omega, by have := h.sum; simp only [preS]; omega, by omega, by
    by_cases hm : m i = true
    · rw [if_pos hm]; exact (if_pos ⟨Nat.zero_le _, hm⟩ : lastM m 0 (i + 1) = (i : Int)).symm
    · rw [if_neg hm, h.lst]; exact (if_neg (fun h => hm h.2) : lastM m 0 (i + 1) = lastM m 0 i).symm⟩
theorem RbI.reach {g : Nat → Int} {m : Nat → Bool} {br : Int} {n i : Nat} {out : List Int} {run last : Int} {fr : Nat} (h : RbI g m br n i out run last fr) (hi : i < n) (hr : br < run + g i) : Reach g br n fr i :=
  ⟨h.fi, by omega, by have := h.sum; have := h.le; omega, fun _ => by have := h.sum; simp only [preS]; omega⟩
theorem RbI.bad {g : Nat → Int} {m : Nat → Bool} {br : Int} {n i : Nat} {out : List Int} {run last : Int} {fr : Nat} (h : RbI g m br n i out run last fr) (hi : i < n) (hr : br < run + g i) (hl : last < (fr : Int)) : BrBad g m br n out := by
  refine ⟨fr, i, h.runs, h.reach hi hr, hi, ?_⟩
  rw [lastM_from, ← h.lst, if_neg (by omega)]
theorem RbI.breath {g : Nat → Int} {m : Nat → Bool} {br : Int} {n i : Nat} {out : List Int} {run last : Int} {fr : Nat} (h : RbI g m br n i out run last fr) (hi : i < n) (hr : br < run + g i) (hl : (fr : Int) ≤ last) : Runs g m br n (out ++ [last]) (last.toNat + 1) ∧ last < (i : Int) := by
  have e : lastM m fr i = last := by rw [lastM_from, ← h.lst, if_pos hl]
  have := lastM_lt m fr i
  rw [e] at this
  exact ⟨Runs.snoc h.runs (h.reach hi hr) hi e (by omega), this.2.1⟩
/-- Behind a breath that is bad: the notes from there on do not fit either. -/
theorem RbI.breath_bad {g : Nat → Int} {m : Nat → Bool} {br : Int} {n i : Nat} {out : List Int} {run last : Int} {fr : Nat} (h : RbI g m br n i out run last fr) (hi : i < n) (hr : br < run + g i) (hl : (fr : Int) ≤ last) (hb : br < preS g (i + 1) - preS g (last.toNat + 1)) (hm : preS g i - preS g (last.toNat + 1) ≤ br) : BrBad g m br n (out ++ [last]) := by
  obtain ⟨h1, h2⟩ := h.breath hi hr hl
  refine ⟨last.toNat + 1, i, h1, ⟨by omega, by omega, hm, fun _ => hb⟩, hi, ?_⟩
  rw [lastM_from, ← h.lst, if_neg (by omega)]
/-- Behind a breath that serves. -/
theorem RbI.breath_next {g : Nat → Int} {m : Nat → Bool} {br : Int} {n i : Nat} {out : List Int} {run last : Int} {fr : Nat} (h : RbI g m br n i out run last fr) (hi : i < n) (hr : br < run + g i) (hl : (fr : Int) ≤ last) (hb : ¬ br < preS g (i + 1) - preS g (last.toNat + 1)) : RbI g m br n (i + 1) (out ++ [last]) (preS g (i + 1) - preS g (last.toNat + 1)) (if m i = true then (i : Int) else last) (last.toNat + 1) := by
  obtain ⟨h1, h2⟩ := h.breath hi hr hl
  exact ⟨h1, by omega, rfl, by omega, by
    by_cases hm : m i = true
    · rw [if_pos hm]; exact (if_pos ⟨Nat.zero_le _, hm⟩ : lastM m 0 (i + 1) = (i : Int)).symm
    · rw [if_neg hm, h.lst]; exact (if_neg (fun h => hm h.2) : lastM m 0 (i + 1) = lastM m 0 i).symm⟩
/-- What is left of the run behind a breath is not longer than the run was. -/
theorem RbI.rest {g : Nat → Int} {m : Nat → Bool} {br : Int} {n i : Nat} {out : List Int} {run last : Int} {fr : Nat} (h : RbI g m br n i out run last fr) (hok : lenOk g n = true) (hi : i < n) (hr : br < run + g i) (hl : (fr : Int) ≤ last) : preS g i - preS g (last.toNat + 1) ≤ br := by
  obtain ⟨h1, h2⟩ := h.breath hi hr hl
  have := preS_le hok (a := fr) (b := last.toNat + 1) (by omega) (by omega)
  have := h.sum; have := h.le
  omega
theorem RbI.lt {g : Nat → Int} {m : Nat → Bool} {br : Int} {n i : Nat} {out : List Int} {run last : Int} {fr : Nat} (h : RbI g m br n i out run last fr) : -1 ≤ last ∧ last < (i : Int) ∧ out.length ≤ i := by
  have := lastM_lt m 0 i
  have e := h.lst
  have := h.runs.le
  have := h.fi
  refine ⟨by omega, by omega, by omega⟩
end Go.Proofs.YtiogfohjepobkaaDoor

namespace Go.Proofs.YtiogfohjepobkaaDoor
open Go.RowKit

/-- What Breaths of the reference returns. -/
def RBrRes (g : Nat → Int) (m : Nat → Bool) (br : Int) (n : Nat) (w : World) (e : Ending) (w' : World) : Prop :=
  (∃ (l : List Int) (A : Option Addr) (c : Nat), BrOk g m br n l ∧ e = .returned (.tuple #[.slice A l.length c, .int .i64 0]) ∧ IntsAt w' A l.length (fun j => l.getD j 0) ∧ Gr w w') ∨
  (∃ pre, BrBad g m br n pre ∧ e = .returned (.tuple #[.slice none 0 0, .int .i64 22]) ∧ Gr w w')
theorem brCells_at (l : List Int) (j : Nat) (hj : j < l.length) : (brCells l)[j]? = some (.int .i64 (l.getD j 0)) := by
  simp [brCells, List.getD, hj]

set_option maxRecDepth 100000 in
set_option maxHeartbeats 4000000 in
theorem rbreaths_bad1 (l0 l1 l2 l3 l4 l5 h0 h1 h2 h3 h4 h5 st br : Int) (A M : Option Addr) (n c nm cm : Nat) (w : World) (hok : voiceOk ⟨l0, l1, l2, l3, l4, l5⟩ ⟨h0, h1, h2, h3, h4, h5⟩ st br = false) :
    Calls Tryd.prog 18 #[.agg #[.int .i64 l0, .int .i64 l1, .int .i64 l2, .int .i64 l3, .int .i64 l4, .int .i64 l5, .int .i64 h0, .int .i64 h1, .int .i64 h2, .int .i64 h3, .int .i64 h4, .int .i64 h5, .int .i64 st, .int .i64 br], .slice A n c, .slice M nm cm] w fun e w' => e = .returned (.tuple #[.slice none 0 0, .int .i64 1]) ∧ Gr w w' := by
  have hV := fun W => rvalid_any l0 l1 l2 l3 l4 l5 h0 h1 h2 h3 h4 h5 st br W
  rw [hok] at hV
  have HV := Lib.hid hV
  clear hV hok
  go_enter Tryd.func18, Tryd.ntmps18
  go_wp2_with fail
  (go_at_call 12; with_reducible refine (HV.out _).mono ?_; rintro e w' ⟨rfl, hb⟩; have hz := hb.le; obtain ⟨hc, hf⟩ := hb.cells; have hn := hb.cellsN; (try simp only [World.size_alloc] at hc hf hz hn); (try simp only [World.size_setCell] at hc hf hz hn); (try simp only [World.size_drew] at hc hf hz hn))
  go_wp2_with fail
  go_ret2
  exact ⟨rfl, (by repeat (first | with_reducible exact Gr.refl _ | with_reducible refine Gr.alloc ?_ _ | with_reducible refine Gr.drew ?_ | with_reducible refine Gr.trans ?_ (by assumption) | with_reducible refine Gr.setCell ?_ (by (try simp); (try omega)) _))⟩
set_option maxRecDepth 100000 in
set_option maxHeartbeats 4000000 in
theorem rbreaths_bad2 (l0 l1 l2 l3 l4 l5 h0 h1 h2 h3 h4 h5 st br : Int) (A M : Option Addr) (n c nm cm : Nat) (g : Nat → Int) (w : World) (hA : IntsAt w A n g) (hok : voiceOk ⟨l0, l1, l2, l3, l4, l5⟩ ⟨h0, h1, h2, h3, h4, h5⟩ st br = true) (hp : phB g n nm = false) :
    Calls Tryd.prog 18 #[.agg #[.int .i64 l0, .int .i64 l1, .int .i64 l2, .int .i64 l3, .int .i64 l4, .int .i64 l5, .int .i64 h0, .int .i64 h1, .int .i64 h2, .int .i64 h3, .int .i64 h4, .int .i64 h5, .int .i64 st, .int .i64 br], .slice A n c, .slice M nm cm] w fun e w' => e = .returned (.tuple #[.slice none 0 0, .int .i64 1]) ∧ Gr w w' := by
  have hV := fun W => rvalid_any l0 l1 l2 l3 l4 l5 h0 h1 h2 h3 h4 h5 st br W
  have hN := fun W (h : Gr w W) => rphrase_any A M n c nm cm g W (hA.keep h)
  rw [hok] at hV
  rw [hp] at hN
  have HV := Lib.hid hV; have HN := Lib.hid hN
  clear hV hok hN hp hA
  go_enter Tryd.func18, Tryd.ntmps18
  go_wp2_with fail
  (go_at_call 12; with_reducible refine (HV.out _).mono ?_; rintro e w' ⟨rfl, hb⟩; have hz := hb.le; obtain ⟨hc, hf⟩ := hb.cells; have hn := hb.cellsN; (try simp only [World.size_alloc] at hc hf hz hn); (try simp only [World.size_setCell] at hc hf hz hn); (try simp only [World.size_drew] at hc hf hz hn))
  go_wp2_with fail
  (go_at_call 27; with_reducible refine (HN.out _ (by repeat (first | with_reducible exact Gr.refl _ | with_reducible refine Gr.alloc ?_ _ | with_reducible refine Gr.drew ?_ | with_reducible refine Gr.trans ?_ (by assumption) | with_reducible refine Gr.setCell ?_ (by (try simp); (try omega)) _))).mono ?_; rintro e w' ⟨rfl, hb⟩; have hz := hb.le; obtain ⟨hc, hf⟩ := hb.cells; have hn := hb.cellsN; (try simp only [World.size_alloc] at hc hf hz hn); (try simp only [World.size_setCell] at hc hf hz hn); (try simp only [World.size_drew] at hc hf hz hn))
  go_wp2_with fail
  go_ret2
  exact ⟨rfl, (by repeat (first | with_reducible exact Gr.refl _ | with_reducible refine Gr.alloc ?_ _ | with_reducible refine Gr.drew ?_ | with_reducible refine Gr.trans ?_ (by assumption) | with_reducible refine Gr.setCell ?_ (by (try simp); (try omega)) _))⟩

set_option maxRecDepth 100000 in
set_option maxHeartbeats 16000000 in
theorem rbreaths_ok (l0 l1 l2 l3 l4 l5 h0 h1 h2 h3 h4 h5 st br : Int) (A M : Option Addr) (n c cm : Nat) (g : Nat → Int) (m : Nat → Bool) (w : World) (hA : IntsAt w A n g) (hM : BoolsAt w M n m) (hok : voiceOk ⟨l0, l1, l2, l3, l4, l5⟩ ⟨h0, h1, h2, h3, h4, h5⟩ st br = true) (hn : n ≤ 200) (hl : lenOk g n = true) :
    Calls Tryd.prog 18 #[.agg #[.int .i64 l0, .int .i64 l1, .int .i64 l2, .int .i64 l3, .int .i64 l4, .int .i64 l5, .int .i64 h0, .int .i64 h1, .int .i64 h2, .int .i64 h3, .int .i64 h4, .int .i64 h5, .int .i64 st, .int .i64 br], .slice A n c, .slice M n cm] w (RBrRes g m br n w) := by
  have hbr := (voiceOk_parts hok).2.2.2.2.2
  obtain ⟨hbr0, hbr1⟩ := hbr
  have hV := fun W => rvalid_any l0 l1 l2 l3 l4 l5 h0 h1 h2 h3 h4 h5 st br W
  have hN := fun W (h : Gr w W) => rphrase_any A M n c n cm g W (hA.keep h)
  rw [hok] at hV
  have hp : phB g n n = true := by simp [phB, hl, hn]
  rw [hp] at hN
  have HV := Lib.hid hV; have HN := Lib.hid hN; have HA := Lib.hid hA; have HM := Lib.hid hM; have HLK := Lib.hid hl
  obtain ⟨i0, hinfo, hz0, hz1, hz2⟩ := info_parts infoInt
  clear hV hok hN hp hA hM hl
  go_enter Tryd.func18, Tryd.ntmps18
  go_wp2_with fail
  (go_at_call 12; with_reducible refine (HV.out _).mono ?_; rintro e w' ⟨rfl, hb⟩; have hz := hb.le; obtain ⟨hc, hf⟩ := hb.cells; have hn := hb.cellsN; (try simp only [World.size_alloc] at hc hf hz hn); (try simp only [World.size_setCell] at hc hf hz hn); (try simp only [World.size_drew] at hc hf hz hn))
  go_wp2_with fail
  (go_at_call 27; with_reducible refine (HN.out _ (by repeat (first | with_reducible exact Gr.refl _ | with_reducible refine Gr.alloc ?_ _ | with_reducible refine Gr.drew ?_ | with_reducible refine Gr.trans ?_ (by assumption) | with_reducible refine Gr.setCell ?_ (by (try simp); (try omega)) _))).mono ?_; rintro e w' ⟨rfl, hb⟩; have hz := hb.le; obtain ⟨hc, hf⟩ := hb.cells; have hn := hb.cellsN; (try simp only [World.size_alloc] at hc hf hz hn); (try simp only [World.size_setCell] at hc hf hz hn); (try simp only [World.size_drew] at hc hf hz hn))
  have hG := show Gr w w' from (by repeat (first | with_reducible exact Gr.refl _ | with_reducible refine Gr.alloc ?_ _ | with_reducible refine Gr.drew ?_ | with_reducible refine Gr.trans ?_ (by assumption) | with_reducible refine Gr.setCell ?_ (by (try simp); (try omega)) _))
  have hzW : w.heap.size < w'.heap.size := by omega
  have hB : w'.cell? ⟨w.heap.size, 13, none⟩ = some (.int .i64 br) := by simp [go_sem, *]
  have HG := Lib.hid hG; have HB := Lib.hid hB
  clear hG hB hz hb hc hf hn HV HN
  obtain ⟨W0, rfl⟩ : ∃ W0 : World, W0 = w' := ⟨_, rfl⟩
  have HL0 : Hid (OwnL W0.heap.size 3 1 W0 (.slice none 0 0) ([] : List Int).length (brCells []) W0) := Lib.hid (OwnL.start _ _ _ _ (Nat.le_refl _))
  go_wp2_with fail
  go_loopw [9, 10, 11, 12, 13] (fun ov rv lv fv iv wr => ∃ (LV : Value) (out : List Int) (run last : Int) (fr i : Nat), LV = ov ∧ i ≤ n ∧ rv = .int .i64 run ∧ lv = .int .i64 last ∧ fv = .int .i64 (fr : Int) ∧ iv = .int .i64 (i : Int) ∧ RbI g m br n i out run last fr ∧ OwnL W0.heap.size 3 1 W0 LV out.length (brCells out) wr) (fun _ _ _ _ iv _ => n - (intOf iv).toNat)
  case atStart => exact ⟨_, [], 0, -1, 0, 0, rfl, Nat.zero_le _, rfl, rfl, rfl, rfl, RbI.start g m n (by omega), HL0.out⟩
  case round =>
    obtain ⟨ov, out, run, last, fr, i, rfl, hi, rfl, rfl, rfl, rfl, hI, hL⟩ := hrel
    have HI := Lib.hid hI; have HL := Lib.hid hL
    have HGR := Lib.hid (hL.toGr HG.out (Nat.le_refl _))
    have hbc : wr.cell? ⟨w.heap.size, 13, none⟩ = some (.int .i64 br) := (hL.cell hzW).trans HB.out
    have hsz := hL.size
    have hlt3 := hI.lt
    have hrle := hI.le
    have hfi := hI.fi
    clear hI hL HL0
    obtain ⟨wo, rfl⟩ : ∃ wo : World, wo = wr := ⟨_, rfl⟩
    by_cases hlt : i < n
    · obtain ⟨b, off, rfl, hb, hca⟩ := (HA.out.keep HGR.out).one hlt
      obtain ⟨b', off', rfl, hb', hcm⟩ := (HM.out.keep HGR.out).one hlt
      have hg := lenOk_at HLK.out i hlt
      have hrun0 : -20000000 ≤ run := by
        have h1 := HI.out.sum
        have h2 := preS_le HLK.out (a := fr) (b := i) hfi (by omega)
        omega
      have hw1 : IntKind.i64.wrap (run + g i) = run + g i := IntWalk.i64_in _ ⟨by omega, by omega⟩
      by_cases hq : br < run + g i
      · have hqb : decide (br < run + g i) = true := decide_eq_true hq
        have hqb' : decide (run + g i > br) = true := decide_eq_true hq
        by_cases hlf : last < (fr : Int)
        · have hlb : decide (last < (fr : Int)) = true := decide_eq_true hlf
          have HX := Lib.hid (HI.out.bad hlt hq hlf)
          clear hq hlf
          go_wp2_with fail
          go_ret2
          exact .inr ⟨_, HX.out, rfl, HGR.out.trans (by repeat (first | with_reducible exact Gr.refl _ | with_reducible refine Gr.alloc ?_ _ | with_reducible refine Gr.drew ?_ | with_reducible refine Gr.trans ?_ (by assumption) | with_reducible refine Gr.setCell ?_ (by (try simp); (try omega)) _))⟩
        · have hlb : decide (last < (fr : Int)) = false := decide_eq_false hlf
          have HX := Lib.hid (HI.out.breath hlt hq (by omega))
          have HRST := Lib.hid (HI.out.rest HLK.out hlt hq (by omega))
          have hBN := HI.out.breath_next hlt hq (by omega : (fr : Int) ≤ last)
          have hBB := HI.out.breath_bad hlt hq (by omega : (fr : Int) ≤ last)
          obtain ⟨la, rfl⟩ : ∃ la : Nat, last = (la : Int) := ⟨last.toNat, by omega⟩
          rw [Int.toNat_natCast] at hBN hBB HRST
          have HBN := Lib.hid hBN; have HBB := Lib.hid hBB
          have hlb2 : decide (la < fr) = false := by simpa using hlb
          have hla : la < i := by omega
          have hwl : IntKind.i64.wrap ((la : Int) + 1) = (la : Int) + 1 := IntWalk.i64_in _ ⟨by omega, by omega⟩
          clear hq hlf hBN hBB HX HI
          go_wp2_with (at_builtin; refine wpList_append_own _ rfl _ _ 27 rfl W0.heap.size 3 i0 (.int .i64 0) 1 8 Tryd.underlying27 hinfo hz0 hz1 hz2 rfl (by decide) _ _ _ rfl (HL.out.own.alloc _) ⟨wo.heap.size, 0, none⟩ 1 1 [.int .i64 (la : Int)] rfl rfl (cell_one_new _ _ _) (by simp [Value.oneCell']) (by simp only [maxLen]; omega) (by omega) (by simp; omega) ?_; intro v' w3 hown' hgrow hnil)
          have hL3 : OwnL W0.heap.size 3 1 W0 v' (out ++ [(la : Int)]).length (brCells (out ++ [(la : Int)])) w3 := by rw [List.length_append, brCells_snoc]; exact (HL.out.alloc _).grown hown' hgrow
          have HL3 := Lib.hid hL3
          have HG3 := Lib.hid (hL3.toGr HG.out (Nat.le_refl _))
          have hbc3 : w3.cell? ⟨w.heap.size, 13, none⟩ = some (.int .i64 br) := (hL3.cell hzW).trans HB.out
          clear hL3 hown' hgrow hnil hbc hca hcm HL hw1
          go_wp2_with fail
          go_loopw [10, 14] (fun rv kv wr => ∃ k : Nat, la + 1 ≤ k ∧ k ≤ i + 1 ∧ rv = .int .i64 (preS g k - preS g (la + 1)) ∧ kv = .int .i64 (k : Int) ∧ Gr w3 wr) (fun _ kv _ => i + 1 - (intOf kv).toNat)
          case atStart => exact ⟨la + 1, Nat.le_refl _, by omega, by simp, by go_num, Gr.refl _⟩
          case round =>
            obtain ⟨k, hk0, hk1, rfl, rfl, hgk⟩ := hrel
            have HGK := Lib.hid (HG3.out.trans hgk)
            have HLK3 := Lib.hid (HL3.out.gr hgk)
            have hbk : wr.cell? ⟨w.heap.size, 13, none⟩ = some (.int .i64 br) := (HLK3.out.cell hzW).trans HB.out
            have HGK3 := Lib.hid hgk
            obtain ⟨wk, rfl⟩ : ∃ wk : World, wk = wr := ⟨_, rfl⟩
            clear hgk hbc3
            by_cases hki : k ≤ i
            · have hkb : decide ((k : Int) ≤ (i : Int)) = true := decide_eq_true (by omega)
              have hkb2 : decide (k ≤ i) = true := decide_eq_true hki
              obtain ⟨ba, oa, hbo, hba, hck⟩ := (HA.out.keep HGK.out).one (show k < n by omega)
              cases hbo
              have hS1 := preS_le HLK.out (a := la + 1) (b := k) hk0 (by omega)
              have hS2 := preS_le HLK.out (a := k) (b := i) hki (by omega)
              have hRST := HRST.out
              have hgk := lenOk_at HLK.out k (by omega)
              have HS : Hid (preS g k - preS g (la + 1) + g k = preS g (k + 1) - preS g (la + 1)) := Lib.hid (by simp only [preS]; omega)
              have hw2 : IntKind.i64.wrap (preS g k - preS g (la + 1) + g k) = preS g k - preS g (la + 1) + g k := IntWalk.i64_in _ ⟨by omega, by omega⟩
              clear hS1 hS2 hRST hbk
              generalize preS g k - preS g (la + 1) = z at *
              go_wp2_with fail
              go_roundw
              case rel => exact ⟨k + 1, by omega, by omega, by rw [HS.out], by go_num, HGK3.out⟩
              case measure => simp [intOf]; omega
            · obtain rfl : k = i + 1 := by omega
              have hkb : decide (((i + 1 : Nat) : Int) ≤ (i : Int)) = false := decide_eq_false (by omega)
              have hkb2 : decide (i + 1 ≤ i) = false := decide_eq_false (by omega)
              obtain ⟨ba, oa, hbo, hba, hck⟩ := (HM.out.keep HGK.out).one hlt
              cases hbo
              have HRST2 := Lib.hid HRST.out
              clear HRST HG3 HL3 HGK3
              by_cases hq2 : br < preS g (i + 1) - preS g (la + 1)
              · have HX := Lib.hid (HBB.out hq2 HRST2.out)
                have hqb2 : decide (br < preS g (i + 1) - preS g (la + 1)) = true := decide_eq_true hq2
                clear hq2 HBN HBB
                generalize preS g (i + 1) - preS g (la + 1) = z at *
                go_wp2_with fail
                go_ret2
                exact .inr ⟨_, HX.out, rfl, HGK.out.trans (by repeat (first | with_reducible exact Gr.refl _ | with_reducible refine Gr.alloc ?_ _ | with_reducible refine Gr.drew ?_ | with_reducible refine Gr.trans ?_ (by assumption) | with_reducible refine Gr.setCell ?_ (by (try simp); (try omega)) _))⟩
              · have HX := Lib.hid (HBN.out (by omega))
                have hqb2 : decide (br < preS g (i + 1) - preS g (la + 1)) = false := decide_eq_false hq2
                clear hq2 HBN HBB
                generalize preS g (i + 1) - preS g (la + 1) = z at *
                rcases tfq (m i) with hm | hm
                · rw [hm] at hck
                  have HM1 := Lib.hid hm
                  clear hm
                  go_wp2_with fail
                  go_roundw
                  case rel => exact ⟨_, _, z, (i : Int), la + 1, i + 1, rfl, by omega, rfl, rfl, by go_num, by go_num, by have := HX.out; rw [if_pos HM1.out] at this; exact this, HLK3.out⟩
                  case measure => simp [intOf]; omega
                · rw [hm] at hck
                  have HM1 := Lib.hid hm
                  clear hm
                  go_wp2_with fail
                  go_roundw
                  case rel => exact ⟨_, _, z, (la : Int), la + 1, i + 1, rfl, by omega, rfl, rfl, by go_num, by go_num, by have := HX.out; rw [if_neg (by rw [HM1.out]; simp)] at this; exact this, HLK3.out⟩
                  case measure => simp [intOf]; omega
      · have hqb : decide (br < run + g i) = false := decide_eq_false hq
        have HX := Lib.hid (HI.out.next hq)
        clear hq HI
        rcases tfq (m i) with hm | hm
        · rw [hm] at hcm
          have HM1 := Lib.hid hm
          clear hm
          go_wp2_with fail
          go_roundw
          case rel => exact ⟨_, _, run + g i, (i : Int), fr, i + 1, rfl, by omega, rfl, rfl, rfl, by go_num, by have := HX.out; rw [if_pos HM1.out] at this; exact this, HL.out⟩
          case measure => simp [intOf]; omega
        · rw [hm] at hcm
          have HM1 := Lib.hid hm
          clear hm
          go_wp2_with fail
          go_roundw
          case rel => exact ⟨_, _, run + g i, last, fr, i + 1, rfl, by omega, rfl, rfl, rfl, by go_num, by have := HX.out; rw [if_neg (by rw [HM1.out]; simp)] at this; exact this, HL.out⟩
          case measure => simp [intOf]; omega
    · obtain rfl : n = i := by omega
      obtain ⟨A', c', rfl, hints⟩ := ints_own HL.out.own (u := fun j => out.getD j 0) (fun j hj => brCells_at out j hj)
      have HIN := Lib.hid hints
      clear hints
      have HX := Lib.hid HI.out.done
      go_wp2_with fail
      go_ret2
      exact .inl ⟨_, _, _, HX.out, rfl, HIN.out, HGR.out⟩
end Go.Proofs.YtiogfohjepobkaaDoor
