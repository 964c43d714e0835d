/-
  Regions that draw, inside a round: from the plain calculus.
-/
import Derived.Test.YtbaopniofhbjdaaDoorBase
import Derived.OwnWalkIn
import Derived.RangeFuncCalls
import Derived.Deep.RegionHeld3
namespace Go.Proofs.YtbaopniofhbjdaaDoor
open Go.RowKit

theorem rowsIn_round {n l : Nat} {P : Program} {row : String} {args : Array Value} {w : World} {R : Value → World → Prop} (h : Rows P row args w R) : RowsIn (Fence.wide.inRound l) n P row args w R := fun c cs _ =>
  let ⟨v, w', r, s⟩ := h c cs; ⟨v, w', r, stepsIn_wide.2 s⟩
theorem oper_round {n l : Nat} {P : Program} {o : Oper} {a : Act} {w : World} {K : Act → World → Prop} {Q : Exit → Act → World → Prop} (hnd : ∀ c, o.op ≠ .defer c) (h : o.wp P a w K Q) : o.wpIn (Fence.wide.inRound l) n P a w K Q := by
  refine ⟨fun _ _ => trivial, ?_⟩
  rw [Oper.semAt_plain _ _ _ hnd]
  unfold Oper.wp at h
  generalize (execOp a.eval o).run P w = r at *
  cases r with
  | ok x w' =>
    cases x <;> simp only [Oper.upon, Oper.uponIn] at h ⊢ <;>
      first
        | exact h
        | exact ⟨fun h => by simp [Fence.wide] at h, CallsIn.inRound l (callsIn_wide.2 h)⟩
        | exact ⟨fun h => by simp [Fence.wide] at h, rowsIn_round h⟩
  | halt x w' => cases x <;> simp only [Oper.upon, Oper.uponIn] at h ⊢ <;> exact h
theorem any_round {n l : Nat} {P : Program} {md : Region.Mode} {ops : Array Oper} {Q : Exit → Act → World → Prop} (hnd : ∀ (i : Nat) (o : Oper), ops[i]? = some o → ∀ c, o.op ≠ .defer c) (hQ : ¬ LetsOut Q) :
    ∀ (fuel : Nat) (listed : Array Bool) (a : Act) (w : World), wpAny P md ops Q fuel listed a w → wpAnyIn (Fence.wide.inRound l) n P md ops Q fuel listed a w
  | 0, _, _, _, h => h
  | fuel + 1, listed, a, w, h => by
    refine ⟨h.1, fun i hi => ?_⟩
    have hh := h.2 i hi
    unfold wpOp at hh
    unfold wpOpIn
    cases ho : ops[i]? with
    | none => simp only [ho] at hh ⊢; exact any_round hnd hQ _ _ _ _ hh
    | some o =>
      simp only [ho] at hh ⊢
      split
      · rename_i hw
        simp only [hw, if_true] at hh
        rcases hh with hh | hh
        · exact Oper.wpIn_mono (fun a w h => any_round hnd hQ _ _ a w h) (oper_round (hnd i o ho) hh)
        · exact (hQ hh.2).elim
      · rename_i hw
        simp only [hw] at hh
        exact ⟨fun _ _ => trivial, any_round hnd hQ _ _ _ _ hh⟩
/-- A region that draws, in a round, by the plain calculus with a condition that is held. -/
theorem region_round {n l id : Nat} {P : Program} {ops : Array Oper} {Q : Exit → Act → World → Prop} {S : World → Prop} {a : Act} {w : World} (hm : P.follows .mixedOrders = true) (hnd : ∀ (i : Nat) (o : Oper), ops[i]? = some o → ∀ c, o.op ≠ .defer c) (hQ : ¬ LetsOut Q)
    (h : wpAnyH P .any ops Q S ops.size (Array.replicate ops.size false) a w.drew) : (Code.region id ops true).wpIn (Fence.wide.inRound l) n P Q a w :=
  wpIn_region_any hm (any_round hnd hQ _ _ _ _ (wpAny_of_held _ _ _ _ h))
def noDefer (ops : Array Oper) : Bool := ops.all fun o => match o.op with | .defer _ => false | _ => true
theorem noDefer_spec {ops : Array Oper} (h : noDefer ops = true) (i : Nat) (o : Oper) (hi : ops[i]? = some o) (c : _) : o.op ≠ .defer c := by
  intro e
  have := Array.all_eq_true'.1 h o (Array.mem_of_getElem? hi)
  rw [e] at this; cases this
/-- The beginning of a region in a round. -/
theorem region_round_drew {n l id : Nat} {P : Program} {ops : Array Oper} {Q : Exit → Act → World → Prop} {S : World → Prop} {a : Act} {w : World} (hm : P.follows .mixedOrders = true) (hnd : noDefer ops = true) (hQ : ¬ LetsOut Q) (hS : S w.drew)
    (h : S w.drew → wpAnyH P .any ops Q S ops.size (Array.replicate ops.size false) a w.drew) : (Code.region id ops true).wpIn (Fence.wide.inRound l) n P Q a w :=
  region_round hm (noDefer_spec hnd) hQ (h hS)
end Go.Proofs.YtbaopniofhbjdaaDoor
