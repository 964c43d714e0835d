/-
  schismaref14.Phrase and Serves: what they answer.
-/
import Derived.Test.YtiogfohjepobkaaDoorBrQ
import Derived.Test.YtiogfohjepobkaaDoorBreaB
import Derived.Test.YtiogfohjepobkaaDoorHeld
import Derived.BigQuiet
import Derived.Deep.QuietTactic
import Derived.IntWalk
namespace Go.Proofs.YtiogfohjepobkaaDoor
open Go.RowKit

/-- Whether lengths and places are a phrase. -/
def phB (g : Nat → Int) (n k : Nat) : Bool := decide (n = k ∧ n ≤ 200) && lenOk g n
set_option maxRecDepth 100000 in
set_option maxHeartbeats 4000000 in
theorem rphrase_any (A M : Option Addr) (n c k d : Nat) (g : Nat → Int) (w : World) (hA : IntsAt w A n g) :
    Calls Tryd.prog 27 #[.slice A n c, .slice M k d] w fun e w' => e = .returned (.bool (phB g n k)) ∧ Gr w w' := by
  have HA := Lib.hid hA
  clear hA
  by_cases hnk : n = k
  · subst hnk
    have hb1 : ((n : Int) == (n : Int)) = true := by simp
    have hb2 : ((n : Int) != (n : Int)) = false := by simp
    by_cases h2 : n ≤ 200
    · have HPB : Hid (phB g n n = lenOk g n) := Lib.hid (by unfold phB; rw [decide_eq_true (show n = n ∧ n ≤ 200 from ⟨rfl, h2⟩), Bool.true_and])
      go_enter Tryd.func27, Tryd.ntmps27
      go_wp2_with fail
      go_loopw [5] (fun i wr => ∃ j : Nat, j ≤ n ∧ i = .int .i64 j ∧ lenOk g j = true ∧ Gr w wr) (fun i _ => n - (intOf i).toNat)
      case atStart => exact ⟨0, Nat.zero_le _, rfl, rfl, Gr.refl _⟩
      case round =>
        obtain ⟨j, hj, rfl, he, hg⟩ := hrel
        have HE := Lib.hid he; have HG := Lib.hid hg
        clear he hg
        by_cases hlt : j < n
        · obtain ⟨b, off, rfl, hb, hc⟩ := (HA.out.keep HG.out).one hlt
          obtain ⟨wp, rfl⟩ : ∃ wp : World, wp = wr := ⟨_, rfl⟩
          have hlt' : (j : Int) < (n : Int) := by omega
          have hj0 : (0 : Int) ≤ (j : Int) := by omega
          rcases (by omega : g j < 1 ∨ (1 ≤ g j ∧ g j ≤ 100000) ∨ (1 ≤ g j ∧ 100000 < g j)) with q | ⟨q, q'⟩ | ⟨q, q'⟩
          · have HN := Lib.hid (lenOk_no (g := g) hlt (by omega))
            have q1 : decide (g j < 1) = true := decide_eq_true q
            go_wp2_with fail
            go_ret
            exact ⟨ret_bool (by rw [HPB.out, HN.out]), HG.out⟩
          · have HS : Hid (lenOk g (j + 1) = true) := Lib.hid (by simp [lenOk, HE.out, q, q'])
            have q1 : decide (g j < 1) = false := decide_eq_false (by omega)
            have q2 : decide (100000 < g j) = false := decide_eq_false (by omega)
            go_wp2_with fail
            go_roundw
            case rel => exact ⟨j + 1, by omega, by go_num, HS.out, HG.out⟩
            case measure => simp [intOf]; omega
          · have HN := Lib.hid (lenOk_no (g := g) hlt (by omega))
            have q1 : decide (g j < 1) = false := decide_eq_false (by omega)
            have q2 : decide (100000 < g j) = true := decide_eq_true q'
            go_wp2_with fail
            go_ret
            exact ⟨ret_bool (by rw [HPB.out, HN.out]), HG.out⟩
        · obtain rfl : n = j := by omega
          obtain ⟨wp, rfl⟩ : ∃ wp : World, wp = wr := ⟨_, rfl⟩
          go_wp2
          go_ret
          exact ⟨ret_bool (by rw [HPB.out, HE.out]), HG.out⟩
    · have HPB : Hid (phB g n n = false) := Lib.hid (by unfold phB; rw [decide_eq_false (show ¬ (n = n ∧ n ≤ 200) from fun h => h2 h.2), Bool.false_and])
      have h3 : (200 : Int) < (n : Int) := by omega
      clear h2
      go_enter Tryd.func27, Tryd.ntmps27
      go_wp2_with fail
      go_ret
      exact ⟨ret_bool HPB.out.symm, Gr.refl _⟩
  · have hb1 : ((n : Int) == (k : Int)) = false := by simp; omega
    have hb2 : ((n : Int) != (k : Int)) = true := by simp; omega
    have hb3 : (n == k) = false := by simp; omega
    have hb4 : (n != k) = true := by simp; omega
    have HPB : Hid (phB g n k = false) := Lib.hid (by unfold phB; rw [decide_eq_false (show ¬ (n = k ∧ n ≤ 200) from fun h => hnk h.1), Bool.false_and])
    clear hnk
    go_enter Tryd.func27, Tryd.ntmps27
    go_wp2_with fail
    go_ret
    exact ⟨ret_bool HPB.out.symm, Gr.refl _⟩
theorem svSt_facts {g : Nat → Int} {m : Nat → Bool} {br : Int} {n : Nat} {u : Nat → Int} {k : Nat} (hok : lenOk g n = true) (hb : 0 ≤ br) : ∀ i, i ≤ n → ∀ run at_, svSt g m br n u k i = some (run, at_) → 0 ≤ run ∧ run ≤ br ∧ at_ ≤ i ∧ at_ ≤ k := by
  intro i
  induction i with
  | zero =>
    intro _ run at_ h
    simp only [svSt, Option.some.injEq, Prod.mk.injEq] at h
    omega
  | succ i ih =>
    intro hi run at_ h
    simp only [svSt] at h
    have hg := lenOk_at hok i (by omega)
    split at h
    · cases h
    · rename_i run0 at0 e0
      have := ih (by omega) run0 at0 e0
      split at h
      · cases h
      · split at h
        · split at h
          · cases h
          · simp only [Option.some.injEq, Prod.mk.injEq] at h
            omega
        · simp only [Option.some.injEq, Prod.mk.injEq] at h
          omega

set_option maxRecDepth 100000 in
set_option maxHeartbeats 8000000 in
theorem rserves_any (br : Int) (A M U : Option Addr) (n c cm k d : Nat) (g : Nat → Int) (m : Nat → Bool) (u : Nat → Int) (w : World) (hA : IntsAt w A n g) (hM : BoolsAt w M n m) (hU : IntsAt w U k u) (hn : n ≤ 200) (hok : lenOk g n = true) (hb0 : 0 ≤ br) (hb1 : br ≤ 100000) (hk : k ≤ 9223372036854775807) :
    Calls Tryd.prog 28 #[.int .i64 br, .slice A n c, .slice M n cm, .slice U k d] w fun e w' => e = .returned (.bool (svB g m br n u k)) ∧ Gr w w' := by
  have HA := Lib.hid hA; have HM := Lib.hid hM; have HU := Lib.hid hU; have HOK := Lib.hid hok
  clear hA hM hU hok
  generalize hR : svB g m br n u k = R
  have HR := Lib.hid hR
  clear hR
  go_enter Tryd.func28, Tryd.ntmps28
  go_wp2_with fail
  go_loopw [9, 10, 11] (fun rv av i wr => ∃ (j : Nat) (run : Int) (a : Nat), j ≤ n ∧ i = .int .i64 j ∧ rv = .int .i64 run ∧ av = .int .i64 a ∧ svSt g m br n u k j = some (run, a) ∧ Gr w wr) (fun _ _ i _ => n - (intOf i).toNat)
  case atStart => exact ⟨0, 0, 0, Nat.zero_le _, rfl, rfl, rfl, rfl, Gr.refl _⟩
  case round =>
    obtain ⟨j, run, a, hj, rfl, rfl, rfl, he, hg⟩ := hrel
    have hf := svSt_facts HOK.out hb0 j hj run a he
    obtain ⟨hf1, hf2, hf3, hf4⟩ := hf
    have HE := Lib.hid he; have HG := Lib.hid hg
    clear he hg
    by_cases hlt : j < n
    · obtain ⟨b, off, rfl, hb, hc⟩ := (HA.out.keep HG.out).one hlt
      obtain ⟨b', off', rfl, hb', hc'⟩ := (HM.out.keep HG.out).one hlt
      obtain ⟨wp, rfl⟩ : ∃ wp : World, wp = wr := ⟨_, rfl⟩
      have hlt' : (j : Int) < (n : Int) := by omega
      have hj0 : (0 : Int) ≤ (j : Int) := by omega
      have hgj := lenOk_at HOK.out j hlt
      obtain ⟨hg1, hg2⟩ := hgj
      have hw1 : IntKind.i64.wrap (run + g j) = run + g j := IntWalk.i64_in _ ⟨by omega, by omega⟩
      have HNX : Hid (svSt g m br n u k (j + 1) = (if br < run + g j then none else if a < k ∧ u a = (j : Int) then (if m j = false ∨ j + 1 = n then none else some (0, a + 1)) else some (run + g j, a))) := Lib.hid (by simp only [svSt, HE.out])
      by_cases q1 : br < run + g j
      · have d1 : decide (br < run + g j) = true := decide_eq_true q1
        have HN : Hid (svB g m br n u k = false) := Lib.hid (svB_none (i := j + 1) (by rw [HNX.out, if_pos q1]) (by omega))
        clear q1
        go_wp2_with fail
        go_ret
        exact ⟨ret_bool (by rw [← HR.out, HN.out]), HG.out⟩
      · have d1 : decide (br < run + g j) = false := decide_eq_false q1
        by_cases q2 : a < k
        · have d2 : decide ((a : Int) < (k : Int)) = true := decide_eq_true (by omega)
          have d2' : decide (a < k) = true := decide_eq_true q2
          obtain ⟨b2, off2, rfl, hb2, hc2⟩ := (HU.out.keep HG.out).one q2
          have ha0 : (0 : Int) ≤ (a : Int) := by omega
          have ha1 : (a : Int) < (k : Int) := by omega
          by_cases q3 : u a = (j : Int)
          · have d3 : (u a == (j : Int)) = true := by simp [q3]
            have hwn : IntKind.i64.wrap ((n : Int) - 1) = (n : Int) - 1 := IntWalk.i64_in _ ⟨by omega, by omega⟩
            have hwa : IntKind.i64.wrap ((a : Int) + 1) = ((a + 1 : Nat) : Int) := (IntWalk.i64_in _ ⟨by omega, by omega⟩).trans (by omega)
            rcases tf (m j) with q4 | q4
            · by_cases q5 : j + 1 = n
              · have d5 : ((j : Int) == (n : Int) - 1) = true := by simp; omega
                have HN : Hid (svB g m br n u k = false) := Lib.hid (svB_none (i := j + 1) (by rw [HNX.out, if_neg q1, if_pos ⟨q2, q3⟩, if_pos (Or.inr q5)]) (by omega))
                clear q1 q3 q5
                go_wp2_with fail
                go_ret
                exact ⟨ret_bool (by rw [← HR.out, HN.out]), HG.out⟩
              · have d5 : ((j : Int) == (n : Int) - 1) = false := by simp; omega
                have HS : Hid (svSt g m br n u k (j + 1) = some (0, a + 1)) := Lib.hid (by rw [HNX.out, if_neg q1, if_pos ⟨q2, q3⟩, if_neg (fun h => h.elim (fun h => by rw [q4] at h; cases h) q5)])
                clear q1 q3 q5
                go_wp2_with fail
                go_roundw
                case rel => exact ⟨j + 1, 0, a + 1, by omega, by go_num, rfl, by go_num, HS.out, HG.out⟩
                case measure => simp [intOf]; omega
            · have HN : Hid (svB g m br n u k = false) := Lib.hid (svB_none (i := j + 1) (by rw [HNX.out, if_neg q1, if_pos ⟨q2, q3⟩, if_pos (Or.inl q4)]) (by omega))
              clear q1 q3
              go_wp2_with fail
              go_ret
              exact ⟨ret_bool (by rw [← HR.out, HN.out]), HG.out⟩
          · have d3 : (u a == (j : Int)) = false := by simp [q3]
            have HS : Hid (svSt g m br n u k (j + 1) = some (run + g j, a)) := Lib.hid (by rw [HNX.out, if_neg q1, if_neg (fun h => q3 h.2)])
            clear q1 q3
            go_wp2_with fail
            go_roundw
            case rel => exact ⟨j + 1, run + g j, a, by omega, by go_num, rfl, rfl, HS.out, HG.out⟩
            case measure => simp [intOf]; omega
        · have d2 : decide ((a : Int) < (k : Int)) = false := decide_eq_false (by omega)
          have d2' : decide (a < k) = false := decide_eq_false q2
          have HS : Hid (svSt g m br n u k (j + 1) = some (run + g j, a)) := Lib.hid (by rw [HNX.out, if_neg q1, if_neg (fun h => q2 h.1)])
          clear q1
          go_wp2_with fail
          go_roundw
          case rel => exact ⟨j + 1, run + g j, a, by omega, by go_num, rfl, rfl, HS.out, HG.out⟩
          case measure => simp [intOf]; omega
    · obtain rfl : n = j := by omega
      obtain ⟨wp, rfl⟩ : ∃ wp : World, wp = wr := ⟨_, rfl⟩
      by_cases q : a = k
      · have d : ((a : Int) == (k : Int)) = true := by simp; omega
        have d' : (a == k) = true := by simp; omega
        have HN : Hid (svB g m br n u k = true) := Lib.hid (by simp only [svB, HE.out, decide_eq_true_eq]; exact q)
        clear q
        go_wp2_with fail
        go_ret
        exact ⟨ret_bool (by rw [← HR.out, HN.out]), HG.out⟩
      · have d : ((a : Int) == (k : Int)) = false := by simp; omega
        have d' : (a == k) = false := by simp; omega
        have HN : Hid (svB g m br n u k = false) := Lib.hid (by simp only [svB, HE.out, decide_eq_false_iff_not]; exact q)
        clear q
        go_wp2_with fail
        go_ret
        exact ⟨ret_bool (by rw [← HR.out, HN.out]), HG.out⟩
end Go.Proofs.YtiogfohjepobkaaDoor
