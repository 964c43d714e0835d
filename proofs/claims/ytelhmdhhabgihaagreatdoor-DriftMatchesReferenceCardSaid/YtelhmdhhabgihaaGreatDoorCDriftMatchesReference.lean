/-
  For every input the law DriftMatchesReference of schismalaw25 returns true, and its arguments read behind the call as before. The package variables that it reads hold what the program's text lays there (tied by the card).
-/
import Derived.Test.YtelhmdhhabgihaaGreatDoorLift
import Derived.Test.YtelhmdhhabgihaaGreatDoorLiftD
import Derived.Test.YtelhmdhhabgihaaGreatDoorLDM
namespace Go.Proofs.YtelhmdhhabgihaaGreatDoor.driftMatchesReference
open Go.ChangeShapes Go.WideShapes Go.ChangeAt Go.RowKit

set_option maxRecDepth 100000 in
theorem contract (H : Type) (enc : TypeId × Value → H) (W : World) (base : Nat) (args : Array Value) (ds gs : List (DataW H)) (before : List MemPlace)
    (hval : ∀ (j : Nat) t v, Tryz.f3.params[j]? = some t → args[j]? = some v → Value.okWide Tryz.prog W .any base t v)
    (hW : DataW.Whole enc Tryz.prog Tryz.f3.params.toList Rows.driftMatchesReferenceSpec.vars false W args.toList ds gs before) (hL : laidMetH Tryz.prog Rows.driftMatchesReferenceRow.laid W) :
    Calls Tryz.prog 3 args W fun e W' => ∃ v, e = .returned v ∧ Rows.driftMatchesReferenceSpec.post enc Tryz.prog Tryz.f3 false true false false W args v W' := by
  have hW' := hW
  obtain ⟨p, q, hA0, hV, rfl, hfz, hnd⟩ := hW
  obtain ⟨rfl, rfl⟩ := trodVars_none hV
  have hA : DataW.TrodAll enc Tryz.prog W 0 (fun _ => true) true Tryz.f3.params.toList args.toList ds p := hA0
  rw [Tryz.params3] at hA hval
  obtain ⟨v0, vs0, d0, ds0, p0, q0, hargs, rfl, rfl, h0, r0⟩ := trodAll_cons hA
  obtain ⟨v1, vs1, d1, ds1, p1, q1, rfl, rfl, rfl, h1, r1⟩ := trodAll_cons r0
  obtain ⟨v2, vs2, d2, ds2, p2, q2, rfl, rfl, rfl, h2, r2⟩ := trodAll_cons r1
  obtain ⟨rfl, rfl, rfl⟩ := trodAll_nil r2
  obtain rfl : args = #[v0, v1, v2] := by cases args; simp_all
  obtain ⟨A0, n0, c0, nm0, f0, rfl, hR0, hn0, hc0⟩ := open_named (hval 0 22 v0 rfl rfl) h0
  obtain ⟨A1, n1, c1, f1, rfl, hR1, hn1, hc1⟩ := open_takes (hval 1 23 v1 rfl rfl) h1
  obtain ⟨i2, rfl, -, -, wf2⟩ := open_int Tryz.underlying3 (hval 2 3 v2 rfl rfl) h2
  have hL' : Logs W := logs_of (l := Rows.driftMatchesReferenceRow.laid) hL (by simp [Rows.driftMatchesReferenceRow])
  have hP' : Primes W := primes_of (l := Rows.driftMatchesReferenceRow.laid) hL (by simp [Rows.driftMatchesReferenceRow])
  refine ((fun x => dmatch_law A0 A1 n0 c0 n1 c1 nm0 f0 f1 x) i2 W hP' hL' hR0 hR1).mono fun e W' ⟨he, hg⟩ => ?_
  subst he
  refine ⟨_, rfl, post_true hW' rfl rfl (by kernel_rfl) (fun t ht => ?_) hg⟩
  rw [Tryz.params3] at ht
  have ht : t = 22 ∨ t = 23 ∨ t = 3 := by simpa using ht
  rcases ht with rfl | rfl | rfl
  all_goals exact ⟨by kernel_rfl, Nat.le_of_ble_eq_true (by kernel_rfl)⟩

theorem laid_met (os : Os) : laidMet Tryz.prog Rows.driftMatchesReferenceRow.laid ((laidWorldD os).forCall (fun _ _ => 0) ⟨#[], #[Value.slice none 0 0, .slice none 0 0, .int .i64 0], []⟩).memory :=
  laidMet_of_run' 8 (by kernel_rfl) (by kernel_rfl)
theorem reads (os : Os) {H : Type} (enc : TypeId × Value → H) : ∃ places, DataW.whole enc Tryz.prog ((laidWorldD os).forCall (fun _ _ => 0) ⟨#[], #[Value.slice none 0 0, .slice none 0 0, .int .i64 0], []⟩).memory Tryz.f3.params.toList Rows.driftMatchesReferenceSpec.vars false #[Value.slice none 0 0, .slice none 0 0, .int .i64 0].toList 8 = some ([.nil, .nil, .lit (.int .i64 0)], [], places) :=
  ⟨[], by kernel_rfl⟩
set_option maxRecDepth 100000 in
theorem lifted (os : Os) (started : os.Started) (H : Type) (enc : TypeId × Value → H) (F : Stop.Interp) :
    ReturnsInHanded {} Tryz.checked os 3 .any ((OpenSpec.ofChange Rows.driftMatchesReferenceSpec).preRow enc Tryz.prog Tryz.f3 Rows.driftMatchesReferenceRow.domain false Rows.driftMatchesReferenceRow.laid) (((OpenSpec.ofChange Rows.driftMatchesReferenceSpec).at F).post enc Tryz.prog Tryz.f3 false true false false) := by
  obtain ⟨places, hx⟩ := reads os enc
  refine returnsInHanded_of_row (C := Tryz.checked) (s := OpenSpec.ofChange Rows.driftMatchesReferenceSpec) own started (by kernel_rfl) Tryz.func3
    (witness_row_at (enc := enc) (C := Tryz.checked) false (laidWorldD os) #[Value.slice none 0 0, .slice none 0 0, .int .i64 0] rfl (by kernel_rfl) (by kernel_rfl) (by kernel_rfl)
      (OpenSpec.preRow_of_cond 8 hx (by kernel_rfl) (fun k hk => by cases hk) (by kernel_rfl) (laid_met os))) ?_
  intro W base args ds gs before hval hW _ _ _ hL _ _
  exact contract H enc W base args ds gs before hval hW hL

theorem said : Rows.DriftMatchesReferenceSaid :=
  OpenClaim.holds_of_cond 3 Tryz.f3 rfl rfl rfl rfl rfl rfl rfl ⟨rfl, rfl, rfl, rfl, rfl⟩ rfl rfl rfl rfl rfl (by kernel_rfl) Tryz.func3 (by kernel_rfl)
    (of_decide_eq_true (by kernel_rfl)) (by unfold Func.isWrapper; first | (rw [if_pos (by decide +kernel)]; kernel_rfl) | (rw [if_neg (by decide +kernel)]; exact ⟨rfl, rfl⟩))
    (fun os started H enc _ F => by rw [OpenClaim.pre_eq_preRow]; exact lifted os started H enc F)

theorem plain (f : FuncId) (fn : Func) (hf : Tryz.pinned.checked.prog.funcNamed "schisma/schismalaw25.DriftMatchesReference" = some f) (hfn : Tryz.pinned.checked.prog.funcs[f]? = some fn) :
    true = Tryz.pinned.checked.prog.looks [] ∧ ∀ (j : Nat) t, fn.params[j]? = some t → Tryz.pinned.checked.prog.wantsStandIn t = false := by
  obtain rfl : f = 3 := Option.some.inj ((show Tryz.prog.funcNamed "schisma/schismalaw25.DriftMatchesReference" = some 3 by kernel_rfl).symm.trans hf) |>.symm
  obtain rfl : fn = Tryz.f3 := (Option.some.inj (Tryz.func3.symm.trans hfn)).symm
  refine ⟨by kernel_rfl, fun j t ht => ?_⟩
  rw [Tryz.params3] at ht
  have ht : t = 22 ∨ t = 23 ∨ t = 3 := by simpa using Array.mem_of_getElem? ht
  rcases ht with rfl | rfl | rfl
  all_goals (show Tryz.prog.wantsStandIn _ = false; kernel_rfl)

theorem card : Rows.DriftMatchesReferenceCardSaid :=
  Claim7.holds_tied_plain_at .later [] _ _ _ _ said (fun _ h => by cases h) (by kernel_rfl) (fun _ h => by cases h) driftMatchesReference_row_tie rfl ⟨rfl, rfl⟩ (by kernel_rfl) rfl plain (by kernel_rfl)
end Go.Proofs.YtelhmdhhabgihaaGreatDoor.driftMatchesReference
