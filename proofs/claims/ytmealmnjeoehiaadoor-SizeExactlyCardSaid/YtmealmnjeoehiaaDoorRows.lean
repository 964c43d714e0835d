/-
  NARROWER THAN 'FOR EVERY INPUT', by the rows' own cells (each row's printed sentence says how): SizeCommon: laid · SizeSurely: laid · SizeNear: laid · SizeWidth: laid · SizeMultiples: laid · SizeMatchesReference: laid · SizeProducts: laid · SizeOrder: laid · SizeExactly: laid.
  DERIVED. THE GIVEN ROWS OF THIS SEAT. 9 by the template 'for every input the law returns true; each argument reads behind the call as it read before'; 0 by the template 'total and deterministic' (their statements: YtmealmnjeoehiaaDoorTotals.lean).
  GIVEN WITH THE SEED: the statements are not yours to turn. If you find one false, say at which input.
  Laid BY PROGRAM, IN A SANDBOX (cutbox-rows.mjs): the forced cells as the released guide's own fill.sh prints them over the translation 83aeba16f87cd836… (all of the seat's roots in one cut). By AI agents, Wed Nov 11 2026. No macro, syntax, notation, axiom, sorry.
-/
import Derived.Test.YtmealmnjeoehiaaDoorChecked
import GoSem.Claim
import GoSem.ClaimJoined
import GoSem.ClaimMapViews
import Derived.JoinedTies
import Derived.KernelRfl
namespace Go.Proofs.YtmealmnjeoehiaaDoor
/- THE CELL 'sum', in the pinned program and in every row, IS THE sha256 OF THE DUMP (.gsa) THAT YtmealmnjeoehiaaDoorProg.lean LOADS. Nothing in Lean hashes anything: it is a label: what it is worth is what the hold of that sum in a sandbox is worth. -/
noncomputable def Tryd.pinned : Pinned := { name := "ytmealmnjeoehiaadoor", sum := "83aeba16f87cd836f50fab95053dbd7bab53033881207732d118a079c62a4db4", checked := Tryd.checked }
namespace Rows
def none {H : Type} : Left H := { results := [], args := [] }

/- WHAT THE LISTED PACKAGE-LEVEL VARIABLES READ AS WHEN THE CALL BEGINS. Each datum BY PROGRAM (the guide's laid-datum.mjs) off the statement by which the dump's own 'gosem.cut.vars' lays the variable. In a bare row this is a premise. The card (YtmealmnjeoehiaaDoorCards.lean) ties it to the program's text. -/
def laid_schisma_size_logs {H : Type} : DataW H := .agg [.agg [.lit (.int .i64 1000000000), .lit (.int .i64 1000000000)], .agg [.lit (.int .i64 1584962500), .lit (.int .i64 1584962501)], .agg [.lit (.int .i64 2321928094), .lit (.int .i64 2321928095)], .agg [.lit (.int .i64 2807354922), .lit (.int .i64 2807354923)], .agg [.lit (.int .i64 3459431618), .lit (.int .i64 3459431619)], .agg [.lit (.int .i64 3700439718), .lit (.int .i64 3700439719)]]
def laid_schisma_pitch_primes {H : Type} : DataW H := .agg [.lit (.int .i64 2), .lit (.int .i64 3), .lit (.int .i64 5), .lit (.int .i64 7), .lit (.int .i64 11), .lit (.int .i64 13)]

/-- 'schismalaw04.SizeCommon': WHATEVER THE INPUT: true; the input reads as it did. -/
def sizeCommonSpec : ChangeSpec := { name := "sizeCommon", fn := fun _ => fun
  | [d1, d2, d3, d4] => { results := [.lit (.bool true)], args := [d1, d2, d3, d4] }
  | _ => none }
def sizeCommonRow : OpenClaim := { program := "ytmealmnjeoehiaadoor", sum := "83aeba16f87cd836f50fab95053dbd7bab53033881207732d118a079c62a4db4", func := "schisma/schismalaw04.SizeCommon", spec := "sizeCommon", named := ["schisma/size.logs"], apart := false, laid := [("schisma/size.logs", laid_schisma_size_logs)] }
def SizeCommonSaid : Prop := sizeCommonRow.holds Tryd.pinned (OpenSpec.ofChange sizeCommonSpec)

/-- ITS FALSE NEIGHBOUR: 'it returns false'. Refute it at one input. -/
def sizeCommonWrong : ChangeSpec := { name := "sizeCommon", fn := fun _ => fun
  | [d1, d2, d3, d4] => { results := [.lit (.bool false)], args := [d1, d2, d3, d4] }
  | _ => none }
def SizeCommonWrongFalsely : Prop := sizeCommonRow.holds Tryd.pinned (OpenSpec.ofChange sizeCommonWrong)

/-- 'schismalaw04.SizeSurely': WHATEVER THE INPUT: true; the input reads as it did. -/
def sizeSurelySpec : ChangeSpec := { name := "sizeSurely", fn := fun _ => fun
  | [d1, d2, d3, d4, d5, d6] => { results := [.lit (.bool true)], args := [d1, d2, d3, d4, d5, d6] }
  | _ => none }
def sizeSurelyRow : OpenClaim := { program := "ytmealmnjeoehiaadoor", sum := "83aeba16f87cd836f50fab95053dbd7bab53033881207732d118a079c62a4db4", func := "schisma/schismalaw04.SizeSurely", spec := "sizeSurely", unfollowed := true, recurses := true, named := ["schisma/size.logs"], apart := false, laid := [("schisma/size.logs", laid_schisma_size_logs)] }
def SizeSurelySaid : Prop := sizeSurelyRow.holds Tryd.pinned (OpenSpec.ofChange sizeSurelySpec)

/-- ITS FALSE NEIGHBOUR: 'it returns false'. Refute it at one input. -/
def sizeSurelyWrong : ChangeSpec := { name := "sizeSurely", fn := fun _ => fun
  | [d1, d2, d3, d4, d5, d6] => { results := [.lit (.bool false)], args := [d1, d2, d3, d4, d5, d6] }
  | _ => none }
def SizeSurelyWrongFalsely : Prop := sizeSurelyRow.holds Tryd.pinned (OpenSpec.ofChange sizeSurelyWrong)

/-- 'schismalaw04.SizeNear': WHATEVER THE INPUT: true; the input reads as it did. -/
def sizeNearSpec : ChangeSpec := { name := "sizeNear", fn := fun _ => fun
  | [d1, d2, d3, d4, d5] => { results := [.lit (.bool true)], args := [d1, d2, d3, d4, d5] }
  | _ => none }
def sizeNearRow : OpenClaim := { program := "ytmealmnjeoehiaadoor", sum := "83aeba16f87cd836f50fab95053dbd7bab53033881207732d118a079c62a4db4", func := "schisma/schismalaw04.SizeNear", spec := "sizeNear", named := ["schisma/size.logs"], apart := false, laid := [("schisma/size.logs", laid_schisma_size_logs)] }
def SizeNearSaid : Prop := sizeNearRow.holds Tryd.pinned (OpenSpec.ofChange sizeNearSpec)

/-- ITS FALSE NEIGHBOUR: 'it returns false'. Refute it at one input. -/
def sizeNearWrong : ChangeSpec := { name := "sizeNear", fn := fun _ => fun
  | [d1, d2, d3, d4, d5] => { results := [.lit (.bool false)], args := [d1, d2, d3, d4, d5] }
  | _ => none }
def SizeNearWrongFalsely : Prop := sizeNearRow.holds Tryd.pinned (OpenSpec.ofChange sizeNearWrong)

/-- 'schismalaw04.SizeWidth': WHATEVER THE INPUT: true; the input reads as it did. -/
def sizeWidthSpec : ChangeSpec := { name := "sizeWidth", fn := fun _ => fun
  | [d] => { results := [.lit (.bool true)], args := [d] }
  | _ => none }
def sizeWidthRow : OpenClaim := { program := "ytmealmnjeoehiaadoor", sum := "83aeba16f87cd836f50fab95053dbd7bab53033881207732d118a079c62a4db4", func := "schisma/schismalaw04.SizeWidth", spec := "sizeWidth", named := ["schisma/size.logs"], apart := false, laid := [("schisma/size.logs", laid_schisma_size_logs)] }
def SizeWidthSaid : Prop := sizeWidthRow.holds Tryd.pinned (OpenSpec.ofChange sizeWidthSpec)

/-- ITS FALSE NEIGHBOUR: 'it returns false'. Refute it at one input. -/
def sizeWidthWrong : ChangeSpec := { name := "sizeWidth", fn := fun _ => fun
  | [d] => { results := [.lit (.bool false)], args := [d] }
  | _ => none }
def SizeWidthWrongFalsely : Prop := sizeWidthRow.holds Tryd.pinned (OpenSpec.ofChange sizeWidthWrong)

/-- 'schismalaw04.SizeMultiples': WHATEVER THE INPUT: true; the input reads as it did. -/
def sizeMultiplesSpec : ChangeSpec := { name := "sizeMultiples", fn := fun _ => fun
  | [d1, d2, d3] => { results := [.lit (.bool true)], args := [d1, d2, d3] }
  | _ => none }
def sizeMultiplesRow : OpenClaim := { program := "ytmealmnjeoehiaadoor", sum := "83aeba16f87cd836f50fab95053dbd7bab53033881207732d118a079c62a4db4", func := "schisma/schismalaw04.SizeMultiples", spec := "sizeMultiples", unfollowed := true, recurses := true, named := ["schisma/size.logs"], apart := false, laid := [("schisma/size.logs", laid_schisma_size_logs)] }
def SizeMultiplesSaid : Prop := sizeMultiplesRow.holds Tryd.pinned (OpenSpec.ofChange sizeMultiplesSpec)

/-- ITS FALSE NEIGHBOUR: 'it returns false'. Refute it at one input. -/
def sizeMultiplesWrong : ChangeSpec := { name := "sizeMultiples", fn := fun _ => fun
  | [d1, d2, d3] => { results := [.lit (.bool false)], args := [d1, d2, d3] }
  | _ => none }
def SizeMultiplesWrongFalsely : Prop := sizeMultiplesRow.holds Tryd.pinned (OpenSpec.ofChange sizeMultiplesWrong)

/-- 'schismalaw04.SizeMatchesReference': WHATEVER THE INPUT: true; the input reads as it did. -/
def sizeMatchesReferenceSpec : ChangeSpec := { name := "sizeMatchesReference", fn := fun _ => fun
  | [d1, d2, d3, d4, d5, d6] => { results := [.lit (.bool true)], args := [d1, d2, d3, d4, d5, d6] }
  | _ => none }
def sizeMatchesReferenceRow : OpenClaim := { program := "ytmealmnjeoehiaadoor", sum := "83aeba16f87cd836f50fab95053dbd7bab53033881207732d118a079c62a4db4", func := "schisma/schismalaw04.SizeMatchesReference", spec := "sizeMatchesReference", unfollowed := true, recurses := true, named := ["schisma/size.logs"], apart := false, laid := [("schisma/size.logs", laid_schisma_size_logs)] }
def SizeMatchesReferenceSaid : Prop := sizeMatchesReferenceRow.holds Tryd.pinned (OpenSpec.ofChange sizeMatchesReferenceSpec)

/-- ITS FALSE NEIGHBOUR: 'it returns false'. Refute it at one input. -/
def sizeMatchesReferenceWrong : ChangeSpec := { name := "sizeMatchesReference", fn := fun _ => fun
  | [d1, d2, d3, d4, d5, d6] => { results := [.lit (.bool false)], args := [d1, d2, d3, d4, d5, d6] }
  | _ => none }
def SizeMatchesReferenceWrongFalsely : Prop := sizeMatchesReferenceRow.holds Tryd.pinned (OpenSpec.ofChange sizeMatchesReferenceWrong)

/-- 'schismalaw04.SizeProducts': WHATEVER THE INPUT: true; the input reads as it did. -/
def sizeProductsSpec : ChangeSpec := { name := "sizeProducts", fn := fun _ => fun
  | [d1, d2] => { results := [.lit (.bool true)], args := [d1, d2] }
  | _ => none }
def sizeProductsRow : OpenClaim := { program := "ytmealmnjeoehiaadoor", sum := "83aeba16f87cd836f50fab95053dbd7bab53033881207732d118a079c62a4db4", func := "schisma/schismalaw04.SizeProducts", spec := "sizeProducts", unfollowed := true, recurses := true, named := ["schisma/size.logs"], apart := false, laid := [("schisma/size.logs", laid_schisma_size_logs)] }
def SizeProductsSaid : Prop := sizeProductsRow.holds Tryd.pinned (OpenSpec.ofChange sizeProductsSpec)

/-- ITS FALSE NEIGHBOUR: 'it returns false'. Refute it at one input. -/
def sizeProductsWrong : ChangeSpec := { name := "sizeProducts", fn := fun _ => fun
  | [d1, d2] => { results := [.lit (.bool false)], args := [d1, d2] }
  | _ => none }
def SizeProductsWrongFalsely : Prop := sizeProductsRow.holds Tryd.pinned (OpenSpec.ofChange sizeProductsWrong)

/-- 'schismalaw04.SizeOrder': WHATEVER THE INPUT: true; the input reads as it did. -/
def sizeOrderSpec : ChangeSpec := { name := "sizeOrder", fn := fun _ => fun
  | [d1, d2] => { results := [.lit (.bool true)], args := [d1, d2] }
  | _ => none }
def sizeOrderRow : OpenClaim := { program := "ytmealmnjeoehiaadoor", sum := "83aeba16f87cd836f50fab95053dbd7bab53033881207732d118a079c62a4db4", func := "schisma/schismalaw04.SizeOrder", spec := "sizeOrder", unfollowed := true, recurses := true, named := ["schisma/size.logs", "schisma/pitch.primes"], apart := false, laid := [("schisma/pitch.primes", laid_schisma_pitch_primes), ("schisma/size.logs", laid_schisma_size_logs)] }
def SizeOrderSaid : Prop := sizeOrderRow.holds Tryd.pinned (OpenSpec.ofChange sizeOrderSpec)

/-- ITS FALSE NEIGHBOUR: 'it returns false'. Refute it at one input. -/
def sizeOrderWrong : ChangeSpec := { name := "sizeOrder", fn := fun _ => fun
  | [d1, d2] => { results := [.lit (.bool false)], args := [d1, d2] }
  | _ => none }
def SizeOrderWrongFalsely : Prop := sizeOrderRow.holds Tryd.pinned (OpenSpec.ofChange sizeOrderWrong)

/-- 'schismalaw04.SizeExactly': WHATEVER THE INPUT: true; the input reads as it did. -/
def sizeExactlySpec : ChangeSpec := { name := "sizeExactly", fn := fun _ => fun
  | [d1, d2, d3] => { results := [.lit (.bool true)], args := [d1, d2, d3] }
  | _ => none }
def sizeExactlyRow : OpenClaim := { program := "ytmealmnjeoehiaadoor", sum := "83aeba16f87cd836f50fab95053dbd7bab53033881207732d118a079c62a4db4", func := "schisma/schismalaw04.SizeExactly", spec := "sizeExactly", unfollowed := true, recurses := true, named := ["schisma/size.logs", "schisma/pitch.primes"], apart := false, laid := [("schisma/pitch.primes", laid_schisma_pitch_primes), ("schisma/size.logs", laid_schisma_size_logs)] }
def SizeExactlySaid : Prop := sizeExactlyRow.holds Tryd.pinned (OpenSpec.ofChange sizeExactlySpec)

/-- ITS FALSE NEIGHBOUR: 'it returns false'. Refute it at one input. -/
def sizeExactlyWrong : ChangeSpec := { name := "sizeExactly", fn := fun _ => fun
  | [d1, d2, d3] => { results := [.lit (.bool false)], args := [d1, d2, d3] }
  | _ => none }
def SizeExactlyWrongFalsely : Prop := sizeExactlyRow.holds Tryd.pinned (OpenSpec.ofChange sizeExactlyWrong)

/- THE SECOND FORM. 'bulk': how many values and letters a reading holds, each counted each time it is reached (what is shared counts as often as it is met; a slice's spare places count too). A statement '..UptoSaid' is the law's where the arguments, and the package variables that the reading takes, are together of bulk at most 1048576: NARROWER than '..Said'. Prove '..Said' where nothing that the law and all that it calls make is longer than what came in: it says more and counts as full. Else prove '..UptoSaid'. A law counts once. -/
mutual
def uptoBulk {H : Type} : DataW H → Nat
  | .lit (.string bytes) => bytes.length + 1
  | .lit _ => 1
  | .nil => 1
  | .ptr d => uptoBulk d + 1
  | .slice elems spare => uptoBulkAll elems + uptoBulkAll spare + 1
  | .agg parts => uptoBulkAll parts + 1
  | .iface _ d => uptoBulk d + 1
  | .map entries => uptoBulkEntries entries + 1
  | .held _ => 1
def uptoBulkAll {H : Type} : List (DataW H) → Nat
  | [] => 0
  | d :: r => uptoBulk d + uptoBulkAll r
def uptoBulkEntries {H : Type} : List (Lit × DataW H) → Nat
  | [] => 0
  | x :: r => uptoBulkEntry x + uptoBulkEntries r
def uptoBulkEntry {H : Type} : Lit × DataW H → Nat
  | (.string bytes, d) => bytes.length + uptoBulk d + 1
  | (_, d) => uptoBulk d + 1
 end
def uptoSmall : (H : Type) → List (DataW H) → Bool := fun _ ds => decide (uptoBulkAll ds ≤ 1048576)
def OpenSpec.upto (s : _root_.Go.ChangeSpec) : _root_.Go.OpenSpec := { _root_.Go.OpenSpec.ofChange s with cond := some uptoSmall }

/-- 'schismalaw04.SizeCommon', WHERE WHAT IT READS IS OF BULK AT MOST 1048576: true; the input reads as it did. -/
def sizeCommonUptoRow : OpenClaim := { program := "ytmealmnjeoehiaadoor", sum := "83aeba16f87cd836f50fab95053dbd7bab53033881207732d118a079c62a4db4", func := "schisma/schismalaw04.SizeCommon", spec := "sizeCommon", named := ["schisma/size.logs"], apart := false, laid := [("schisma/size.logs", laid_schisma_size_logs)], narrowed := true }
def SizeCommonUptoSaid : Prop := sizeCommonUptoRow.holds Tryd.pinned (OpenSpec.upto sizeCommonSpec)

/-- 'schismalaw04.SizeSurely', WHERE WHAT IT READS IS OF BULK AT MOST 1048576: true; the input reads as it did. -/
def sizeSurelyUptoRow : OpenClaim := { program := "ytmealmnjeoehiaadoor", sum := "83aeba16f87cd836f50fab95053dbd7bab53033881207732d118a079c62a4db4", func := "schisma/schismalaw04.SizeSurely", spec := "sizeSurely", unfollowed := true, recurses := true, named := ["schisma/size.logs"], apart := false, laid := [("schisma/size.logs", laid_schisma_size_logs)], narrowed := true }
def SizeSurelyUptoSaid : Prop := sizeSurelyUptoRow.holds Tryd.pinned (OpenSpec.upto sizeSurelySpec)

/-- 'schismalaw04.SizeNear', WHERE WHAT IT READS IS OF BULK AT MOST 1048576: true; the input reads as it did. -/
def sizeNearUptoRow : OpenClaim := { program := "ytmealmnjeoehiaadoor", sum := "83aeba16f87cd836f50fab95053dbd7bab53033881207732d118a079c62a4db4", func := "schisma/schismalaw04.SizeNear", spec := "sizeNear", named := ["schisma/size.logs"], apart := false, laid := [("schisma/size.logs", laid_schisma_size_logs)], narrowed := true }
def SizeNearUptoSaid : Prop := sizeNearUptoRow.holds Tryd.pinned (OpenSpec.upto sizeNearSpec)

/-- 'schismalaw04.SizeWidth', WHERE WHAT IT READS IS OF BULK AT MOST 1048576: true; the input reads as it did. -/
def sizeWidthUptoRow : OpenClaim := { program := "ytmealmnjeoehiaadoor", sum := "83aeba16f87cd836f50fab95053dbd7bab53033881207732d118a079c62a4db4", func := "schisma/schismalaw04.SizeWidth", spec := "sizeWidth", named := ["schisma/size.logs"], apart := false, laid := [("schisma/size.logs", laid_schisma_size_logs)], narrowed := true }
def SizeWidthUptoSaid : Prop := sizeWidthUptoRow.holds Tryd.pinned (OpenSpec.upto sizeWidthSpec)

/-- 'schismalaw04.SizeMultiples', WHERE WHAT IT READS IS OF BULK AT MOST 1048576: true; the input reads as it did. -/
def sizeMultiplesUptoRow : OpenClaim := { program := "ytmealmnjeoehiaadoor", sum := "83aeba16f87cd836f50fab95053dbd7bab53033881207732d118a079c62a4db4", func := "schisma/schismalaw04.SizeMultiples", spec := "sizeMultiples", unfollowed := true, recurses := true, named := ["schisma/size.logs"], apart := false, laid := [("schisma/size.logs", laid_schisma_size_logs)], narrowed := true }
def SizeMultiplesUptoSaid : Prop := sizeMultiplesUptoRow.holds Tryd.pinned (OpenSpec.upto sizeMultiplesSpec)

/-- 'schismalaw04.SizeMatchesReference', WHERE WHAT IT READS IS OF BULK AT MOST 1048576: true; the input reads as it did. -/
def sizeMatchesReferenceUptoRow : OpenClaim := { program := "ytmealmnjeoehiaadoor", sum := "83aeba16f87cd836f50fab95053dbd7bab53033881207732d118a079c62a4db4", func := "schisma/schismalaw04.SizeMatchesReference", spec := "sizeMatchesReference", unfollowed := true, recurses := true, named := ["schisma/size.logs"], apart := false, laid := [("schisma/size.logs", laid_schisma_size_logs)], narrowed := true }
def SizeMatchesReferenceUptoSaid : Prop := sizeMatchesReferenceUptoRow.holds Tryd.pinned (OpenSpec.upto sizeMatchesReferenceSpec)

/-- 'schismalaw04.SizeProducts', WHERE WHAT IT READS IS OF BULK AT MOST 1048576: true; the input reads as it did. -/
def sizeProductsUptoRow : OpenClaim := { program := "ytmealmnjeoehiaadoor", sum := "83aeba16f87cd836f50fab95053dbd7bab53033881207732d118a079c62a4db4", func := "schisma/schismalaw04.SizeProducts", spec := "sizeProducts", unfollowed := true, recurses := true, named := ["schisma/size.logs"], apart := false, laid := [("schisma/size.logs", laid_schisma_size_logs)], narrowed := true }
def SizeProductsUptoSaid : Prop := sizeProductsUptoRow.holds Tryd.pinned (OpenSpec.upto sizeProductsSpec)

/-- 'schismalaw04.SizeOrder', WHERE WHAT IT READS IS OF BULK AT MOST 1048576: true; the input reads as it did. -/
def sizeOrderUptoRow : OpenClaim := { program := "ytmealmnjeoehiaadoor", sum := "83aeba16f87cd836f50fab95053dbd7bab53033881207732d118a079c62a4db4", func := "schisma/schismalaw04.SizeOrder", spec := "sizeOrder", unfollowed := true, recurses := true, named := ["schisma/size.logs", "schisma/pitch.primes"], apart := false, laid := [("schisma/pitch.primes", laid_schisma_pitch_primes), ("schisma/size.logs", laid_schisma_size_logs)], narrowed := true }
def SizeOrderUptoSaid : Prop := sizeOrderUptoRow.holds Tryd.pinned (OpenSpec.upto sizeOrderSpec)

/-- 'schismalaw04.SizeExactly', WHERE WHAT IT READS IS OF BULK AT MOST 1048576: true; the input reads as it did. -/
def sizeExactlyUptoRow : OpenClaim := { program := "ytmealmnjeoehiaadoor", sum := "83aeba16f87cd836f50fab95053dbd7bab53033881207732d118a079c62a4db4", func := "schisma/schismalaw04.SizeExactly", spec := "sizeExactly", unfollowed := true, recurses := true, named := ["schisma/size.logs", "schisma/pitch.primes"], apart := false, laid := [("schisma/pitch.primes", laid_schisma_pitch_primes), ("schisma/size.logs", laid_schisma_size_logs)], narrowed := true }
def SizeExactlyUptoSaid : Prop := sizeExactlyUptoRow.holds Tryd.pinned (OpenSpec.upto sizeExactlySpec)

end Rows
end Go.Proofs.YtmealmnjeoehiaaDoor
