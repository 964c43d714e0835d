/-
  NARROWER THAN 'FOR EVERY INPUT', by the rows' own cells (each row's printed sentence says how): FretsMatchesReference: laid · FretsFound: laid · FretsChords: laid · FretsFirst: laid · FretsTransposed: laid · FretsTolerance: laid · FretsMoved: laid · FretsFewer: laid.
  DERIVED. THE GIVEN ROWS OF THIS SEAT. 8 by the template 'for every input the law returns true; each argument reads behind the call as it read before'; 0 by the template 'total and deterministic' (their statements: YtohalcookjbaaaaDoorTotals.lean).
  GIVEN WITH THE SEED: the statements are not yours to turn. If you find one false, say at which input.
  Laid BY PROGRAM, IN A SANDBOX (cutbox-rows.mjs): the forced cells as the released guide's own fill.sh prints them over the translation f695e3deae1fc5e5… (all of the seat's roots in one cut). By AI agents, Wed Nov 11 2026. No macro, syntax, notation, axiom, sorry.
-/
import Derived.Test.YtohalcookjbaaaaDoorChecked
import GoSem.Claim
import GoSem.ClaimJoined
import GoSem.ClaimMapViews
import Derived.JoinedTies
import Derived.KernelRfl
namespace Go.Proofs.YtohalcookjbaaaaDoor
/- THE CELL 'sum', in the pinned program and in every row, IS THE sha256 OF THE DUMP (.gsa) THAT YtohalcookjbaaaaDoorProg.lean LOADS. Nothing in Lean hashes anything: it is a label: what it is worth is what the hold of that sum in a sandbox is worth. -/
noncomputable def Tryd.pinned : Pinned := { name := "ytohalcookjbaaaadoor", sum := "f695e3deae1fc5e5696b5b6305a14441132dce9540cdf0b0301098f8ed1ab67c", checked := Tryd.checked }
namespace Rows
def none {H : Type} : Left H := { results := [], args := [] }

/- WHAT THE LISTED PACKAGE-LEVEL VARIABLES READ AS WHEN THE CALL BEGINS. Each datum BY PROGRAM (the guide's laid-datum.mjs) off the statement by which the dump's own 'gosem.cut.vars' lays the variable. In a bare row this is a premise. The card (YtohalcookjbaaaaDoorCards.lean) ties it to the program's text. -/
def laid_schisma_pitch_primes {H : Type} : DataW H := .agg [.lit (.int .i64 2), .lit (.int .i64 3), .lit (.int .i64 5), .lit (.int .i64 7), .lit (.int .i64 11), .lit (.int .i64 13)]
def laid_schisma_size_logs {H : Type} : DataW H := .agg [.agg [.lit (.int .i64 1000000000), .lit (.int .i64 1000000000)], .agg [.lit (.int .i64 1584962500), .lit (.int .i64 1584962501)], .agg [.lit (.int .i64 2321928094), .lit (.int .i64 2321928095)], .agg [.lit (.int .i64 2807354922), .lit (.int .i64 2807354923)], .agg [.lit (.int .i64 3459431618), .lit (.int .i64 3459431619)], .agg [.lit (.int .i64 3700439718), .lit (.int .i64 3700439719)]]

/-- 'schismalaw12.FretsMatchesReference': WHATEVER THE INPUT: true; the input reads as it did. -/
def fretsMatchesReferenceSpec : ChangeSpec := { name := "fretsMatchesReference", fn := fun _ => fun
  | [d1, d2, d3] => { results := [.lit (.bool true)], args := [d1, d2, d3] }
  | _ => none }
def fretsMatchesReferenceRow : OpenClaim := { program := "ytohalcookjbaaaadoor", sum := "f695e3deae1fc5e5696b5b6305a14441132dce9540cdf0b0301098f8ed1ab67c", func := "schisma/schismalaw12.FretsMatchesReference", spec := "fretsMatchesReference", unfollowed := true, recurses := true, named := ["schisma/pitch.primes", "schisma/size.logs"], apart := false, laid := [("schisma/pitch.primes", laid_schisma_pitch_primes), ("schisma/size.logs", laid_schisma_size_logs)] }
def FretsMatchesReferenceSaid : Prop := fretsMatchesReferenceRow.holds Tryd.pinned (OpenSpec.ofChange fretsMatchesReferenceSpec)

/-- ITS FALSE NEIGHBOUR: 'it returns false'. Refute it at one input. -/
def fretsMatchesReferenceWrong : ChangeSpec := { name := "fretsMatchesReference", fn := fun _ => fun
  | [d1, d2, d3] => { results := [.lit (.bool false)], args := [d1, d2, d3] }
  | _ => none }
def FretsMatchesReferenceWrongFalsely : Prop := fretsMatchesReferenceRow.holds Tryd.pinned (OpenSpec.ofChange fretsMatchesReferenceWrong)

/-- 'schismalaw12.FretsFound': WHATEVER THE INPUT: true; the input reads as it did. -/
def fretsFoundSpec : ChangeSpec := { name := "fretsFound", fn := fun _ => fun
  | [d1, d2, d3, d4] => { results := [.lit (.bool true)], args := [d1, d2, d3, d4] }
  | _ => none }
def fretsFoundRow : OpenClaim := { program := "ytohalcookjbaaaadoor", sum := "f695e3deae1fc5e5696b5b6305a14441132dce9540cdf0b0301098f8ed1ab67c", func := "schisma/schismalaw12.FretsFound", spec := "fretsFound", unfollowed := true, recurses := true, named := ["schisma/pitch.primes", "schisma/size.logs"], apart := false, laid := [("schisma/pitch.primes", laid_schisma_pitch_primes), ("schisma/size.logs", laid_schisma_size_logs)] }
def FretsFoundSaid : Prop := fretsFoundRow.holds Tryd.pinned (OpenSpec.ofChange fretsFoundSpec)

/-- ITS FALSE NEIGHBOUR: 'it returns false'. Refute it at one input. -/
def fretsFoundWrong : ChangeSpec := { name := "fretsFound", fn := fun _ => fun
  | [d1, d2, d3, d4] => { results := [.lit (.bool false)], args := [d1, d2, d3, d4] }
  | _ => none }
def FretsFoundWrongFalsely : Prop := fretsFoundRow.holds Tryd.pinned (OpenSpec.ofChange fretsFoundWrong)

/-- 'schismalaw12.FretsChords': WHATEVER THE INPUT: true; the input reads as it did. -/
def fretsChordsSpec : ChangeSpec := { name := "fretsChords", fn := fun _ => fun
  | [d1, d2] => { results := [.lit (.bool true)], args := [d1, d2] }
  | _ => none }
def fretsChordsRow : OpenClaim := { program := "ytohalcookjbaaaadoor", sum := "f695e3deae1fc5e5696b5b6305a14441132dce9540cdf0b0301098f8ed1ab67c", func := "schisma/schismalaw12.FretsChords", spec := "fretsChords", unfollowed := true, recurses := true, named := ["schisma/pitch.primes", "schisma/size.logs"], apart := false, laid := [("schisma/pitch.primes", laid_schisma_pitch_primes), ("schisma/size.logs", laid_schisma_size_logs)] }
def FretsChordsSaid : Prop := fretsChordsRow.holds Tryd.pinned (OpenSpec.ofChange fretsChordsSpec)

/-- ITS FALSE NEIGHBOUR: 'it returns false'. Refute it at one input. -/
def fretsChordsWrong : ChangeSpec := { name := "fretsChords", fn := fun _ => fun
  | [d1, d2] => { results := [.lit (.bool false)], args := [d1, d2] }
  | _ => none }
def FretsChordsWrongFalsely : Prop := fretsChordsRow.holds Tryd.pinned (OpenSpec.ofChange fretsChordsWrong)

/-- 'schismalaw12.FretsFirst': WHATEVER THE INPUT: true; the input reads as it did. -/
def fretsFirstSpec : ChangeSpec := { name := "fretsFirst", fn := fun _ => fun
  | [d1, d2, d3] => { results := [.lit (.bool true)], args := [d1, d2, d3] }
  | _ => none }
def fretsFirstRow : OpenClaim := { program := "ytohalcookjbaaaadoor", sum := "f695e3deae1fc5e5696b5b6305a14441132dce9540cdf0b0301098f8ed1ab67c", func := "schisma/schismalaw12.FretsFirst", spec := "fretsFirst", unfollowed := true, recurses := true, named := ["schisma/pitch.primes", "schisma/size.logs"], apart := false, laid := [("schisma/pitch.primes", laid_schisma_pitch_primes), ("schisma/size.logs", laid_schisma_size_logs)] }
def FretsFirstSaid : Prop := fretsFirstRow.holds Tryd.pinned (OpenSpec.ofChange fretsFirstSpec)

/-- ITS FALSE NEIGHBOUR: 'it returns false'. Refute it at one input. -/
def fretsFirstWrong : ChangeSpec := { name := "fretsFirst", fn := fun _ => fun
  | [d1, d2, d3] => { results := [.lit (.bool false)], args := [d1, d2, d3] }
  | _ => none }
def FretsFirstWrongFalsely : Prop := fretsFirstRow.holds Tryd.pinned (OpenSpec.ofChange fretsFirstWrong)

/-- 'schismalaw12.FretsTransposed': WHATEVER THE INPUT: true; the input reads as it did. -/
def fretsTransposedSpec : ChangeSpec := { name := "fretsTransposed", fn := fun _ => fun
  | [d1, d2, d3] => { results := [.lit (.bool true)], args := [d1, d2, d3] }
  | _ => none }
def fretsTransposedRow : OpenClaim := { program := "ytohalcookjbaaaadoor", sum := "f695e3deae1fc5e5696b5b6305a14441132dce9540cdf0b0301098f8ed1ab67c", func := "schisma/schismalaw12.FretsTransposed", spec := "fretsTransposed", unfollowed := true, recurses := true, named := ["schisma/pitch.primes", "schisma/size.logs"], apart := false, laid := [("schisma/pitch.primes", laid_schisma_pitch_primes), ("schisma/size.logs", laid_schisma_size_logs)] }
def FretsTransposedSaid : Prop := fretsTransposedRow.holds Tryd.pinned (OpenSpec.ofChange fretsTransposedSpec)

/-- ITS FALSE NEIGHBOUR: 'it returns false'. Refute it at one input. -/
def fretsTransposedWrong : ChangeSpec := { name := "fretsTransposed", fn := fun _ => fun
  | [d1, d2, d3] => { results := [.lit (.bool false)], args := [d1, d2, d3] }
  | _ => none }
def FretsTransposedWrongFalsely : Prop := fretsTransposedRow.holds Tryd.pinned (OpenSpec.ofChange fretsTransposedWrong)

/-- 'schismalaw12.FretsTolerance': WHATEVER THE INPUT: true; the input reads as it did. -/
def fretsToleranceSpec : ChangeSpec := { name := "fretsTolerance", fn := fun _ => fun
  | [d1, d2, d3] => { results := [.lit (.bool true)], args := [d1, d2, d3] }
  | _ => none }
def fretsToleranceRow : OpenClaim := { program := "ytohalcookjbaaaadoor", sum := "f695e3deae1fc5e5696b5b6305a14441132dce9540cdf0b0301098f8ed1ab67c", func := "schisma/schismalaw12.FretsTolerance", spec := "fretsTolerance", unfollowed := true, recurses := true, named := ["schisma/pitch.primes", "schisma/size.logs"], apart := false, laid := [("schisma/pitch.primes", laid_schisma_pitch_primes), ("schisma/size.logs", laid_schisma_size_logs)] }
def FretsToleranceSaid : Prop := fretsToleranceRow.holds Tryd.pinned (OpenSpec.ofChange fretsToleranceSpec)

/-- ITS FALSE NEIGHBOUR: 'it returns false'. Refute it at one input. -/
def fretsToleranceWrong : ChangeSpec := { name := "fretsTolerance", fn := fun _ => fun
  | [d1, d2, d3] => { results := [.lit (.bool false)], args := [d1, d2, d3] }
  | _ => none }
def FretsToleranceWrongFalsely : Prop := fretsToleranceRow.holds Tryd.pinned (OpenSpec.ofChange fretsToleranceWrong)

/-- 'schismalaw12.FretsMoved': WHATEVER THE INPUT: true; the input reads as it did. -/
def fretsMovedSpec : ChangeSpec := { name := "fretsMoved", fn := fun _ => fun
  | [d1, d2, d3] => { results := [.lit (.bool true)], args := [d1, d2, d3] }
  | _ => none }
def fretsMovedRow : OpenClaim := { program := "ytohalcookjbaaaadoor", sum := "f695e3deae1fc5e5696b5b6305a14441132dce9540cdf0b0301098f8ed1ab67c", func := "schisma/schismalaw12.FretsMoved", spec := "fretsMoved", unfollowed := true, recurses := true, named := ["schisma/pitch.primes", "schisma/size.logs"], apart := false, laid := [("schisma/pitch.primes", laid_schisma_pitch_primes), ("schisma/size.logs", laid_schisma_size_logs)] }
def FretsMovedSaid : Prop := fretsMovedRow.holds Tryd.pinned (OpenSpec.ofChange fretsMovedSpec)

/-- ITS FALSE NEIGHBOUR: 'it returns false'. Refute it at one input. -/
def fretsMovedWrong : ChangeSpec := { name := "fretsMoved", fn := fun _ => fun
  | [d1, d2, d3] => { results := [.lit (.bool false)], args := [d1, d2, d3] }
  | _ => none }
def FretsMovedWrongFalsely : Prop := fretsMovedRow.holds Tryd.pinned (OpenSpec.ofChange fretsMovedWrong)

/-- 'schismalaw12.FretsFewer': WHATEVER THE INPUT: true; the input reads as it did. -/
def fretsFewerSpec : ChangeSpec := { name := "fretsFewer", fn := fun _ => fun
  | [d1, d2, d3] => { results := [.lit (.bool true)], args := [d1, d2, d3] }
  | _ => none }
def fretsFewerRow : OpenClaim := { program := "ytohalcookjbaaaadoor", sum := "f695e3deae1fc5e5696b5b6305a14441132dce9540cdf0b0301098f8ed1ab67c", func := "schisma/schismalaw12.FretsFewer", spec := "fretsFewer", unfollowed := true, recurses := true, named := ["schisma/pitch.primes", "schisma/size.logs"], apart := false, laid := [("schisma/pitch.primes", laid_schisma_pitch_primes), ("schisma/size.logs", laid_schisma_size_logs)] }
def FretsFewerSaid : Prop := fretsFewerRow.holds Tryd.pinned (OpenSpec.ofChange fretsFewerSpec)

/-- ITS FALSE NEIGHBOUR: 'it returns false'. Refute it at one input. -/
def fretsFewerWrong : ChangeSpec := { name := "fretsFewer", fn := fun _ => fun
  | [d1, d2, d3] => { results := [.lit (.bool false)], args := [d1, d2, d3] }
  | _ => none }
def FretsFewerWrongFalsely : Prop := fretsFewerRow.holds Tryd.pinned (OpenSpec.ofChange fretsFewerWrong)

/- THE SECOND FORM. 'bulk': how many values and letters a reading holds, each counted each time it is reached (what is shared counts as often as it is met; a slice's spare places count too). A statement '..UptoSaid' is the law's where the arguments, and the package variables that the reading takes, are together of bulk at most 1048576: NARROWER than '..Said'. Prove '..Said' where nothing that the law and all that it calls make is longer than what came in: it says more and counts as full. Else prove '..UptoSaid'. A law counts once. -/
mutual
def uptoBulk {H : Type} : DataW H → Nat
  | .lit (.string bytes) => bytes.length + 1
  | .lit _ => 1
  | .nil => 1
  | .ptr d => uptoBulk d + 1
  | .slice elems spare => uptoBulkAll elems + uptoBulkAll spare + 1
  | .agg parts => uptoBulkAll parts + 1
  | .iface _ d => uptoBulk d + 1
  | .map entries => uptoBulkEntries entries + 1
  | .held _ => 1
def uptoBulkAll {H : Type} : List (DataW H) → Nat
  | [] => 0
  | d :: r => uptoBulk d + uptoBulkAll r
def uptoBulkEntries {H : Type} : List (Lit × DataW H) → Nat
  | [] => 0
  | x :: r => uptoBulkEntry x + uptoBulkEntries r
def uptoBulkEntry {H : Type} : Lit × DataW H → Nat
  | (.string bytes, d) => bytes.length + uptoBulk d + 1
  | (_, d) => uptoBulk d + 1
 end
def uptoSmall : (H : Type) → List (DataW H) → Bool := fun _ ds => decide (uptoBulkAll ds ≤ 1048576)
def OpenSpec.upto (s : _root_.Go.ChangeSpec) : _root_.Go.OpenSpec := { _root_.Go.OpenSpec.ofChange s with cond := some uptoSmall }

/-- 'schismalaw12.FretsMatchesReference', WHERE WHAT IT READS IS OF BULK AT MOST 1048576: true; the input reads as it did. -/
def fretsMatchesReferenceUptoRow : OpenClaim := { program := "ytohalcookjbaaaadoor", sum := "f695e3deae1fc5e5696b5b6305a14441132dce9540cdf0b0301098f8ed1ab67c", func := "schisma/schismalaw12.FretsMatchesReference", spec := "fretsMatchesReference", unfollowed := true, recurses := true, named := ["schisma/pitch.primes", "schisma/size.logs"], apart := false, laid := [("schisma/pitch.primes", laid_schisma_pitch_primes), ("schisma/size.logs", laid_schisma_size_logs)], narrowed := true }
def FretsMatchesReferenceUptoSaid : Prop := fretsMatchesReferenceUptoRow.holds Tryd.pinned (OpenSpec.upto fretsMatchesReferenceSpec)

/-- 'schismalaw12.FretsFound', WHERE WHAT IT READS IS OF BULK AT MOST 1048576: true; the input reads as it did. -/
def fretsFoundUptoRow : OpenClaim := { program := "ytohalcookjbaaaadoor", sum := "f695e3deae1fc5e5696b5b6305a14441132dce9540cdf0b0301098f8ed1ab67c", func := "schisma/schismalaw12.FretsFound", spec := "fretsFound", unfollowed := true, recurses := true, named := ["schisma/pitch.primes", "schisma/size.logs"], apart := false, laid := [("schisma/pitch.primes", laid_schisma_pitch_primes), ("schisma/size.logs", laid_schisma_size_logs)], narrowed := true }
def FretsFoundUptoSaid : Prop := fretsFoundUptoRow.holds Tryd.pinned (OpenSpec.upto fretsFoundSpec)

/-- 'schismalaw12.FretsChords', WHERE WHAT IT READS IS OF BULK AT MOST 1048576: true; the input reads as it did. -/
def fretsChordsUptoRow : OpenClaim := { program := "ytohalcookjbaaaadoor", sum := "f695e3deae1fc5e5696b5b6305a14441132dce9540cdf0b0301098f8ed1ab67c", func := "schisma/schismalaw12.FretsChords", spec := "fretsChords", unfollowed := true, recurses := true, named := ["schisma/pitch.primes", "schisma/size.logs"], apart := false, laid := [("schisma/pitch.primes", laid_schisma_pitch_primes), ("schisma/size.logs", laid_schisma_size_logs)], narrowed := true }
def FretsChordsUptoSaid : Prop := fretsChordsUptoRow.holds Tryd.pinned (OpenSpec.upto fretsChordsSpec)

/-- 'schismalaw12.FretsFirst', WHERE WHAT IT READS IS OF BULK AT MOST 1048576: true; the input reads as it did. -/
def fretsFirstUptoRow : OpenClaim := { program := "ytohalcookjbaaaadoor", sum := "f695e3deae1fc5e5696b5b6305a14441132dce9540cdf0b0301098f8ed1ab67c", func := "schisma/schismalaw12.FretsFirst", spec := "fretsFirst", unfollowed := true, recurses := true, named := ["schisma/pitch.primes", "schisma/size.logs"], apart := false, laid := [("schisma/pitch.primes", laid_schisma_pitch_primes), ("schisma/size.logs", laid_schisma_size_logs)], narrowed := true }
def FretsFirstUptoSaid : Prop := fretsFirstUptoRow.holds Tryd.pinned (OpenSpec.upto fretsFirstSpec)

/-- 'schismalaw12.FretsTransposed', WHERE WHAT IT READS IS OF BULK AT MOST 1048576: true; the input reads as it did. -/
def fretsTransposedUptoRow : OpenClaim := { program := "ytohalcookjbaaaadoor", sum := "f695e3deae1fc5e5696b5b6305a14441132dce9540cdf0b0301098f8ed1ab67c", func := "schisma/schismalaw12.FretsTransposed", spec := "fretsTransposed", unfollowed := true, recurses := true, named := ["schisma/pitch.primes", "schisma/size.logs"], apart := false, laid := [("schisma/pitch.primes", laid_schisma_pitch_primes), ("schisma/size.logs", laid_schisma_size_logs)], narrowed := true }
def FretsTransposedUptoSaid : Prop := fretsTransposedUptoRow.holds Tryd.pinned (OpenSpec.upto fretsTransposedSpec)

/-- 'schismalaw12.FretsTolerance', WHERE WHAT IT READS IS OF BULK AT MOST 1048576: true; the input reads as it did. -/
def fretsToleranceUptoRow : OpenClaim := { program := "ytohalcookjbaaaadoor", sum := "f695e3deae1fc5e5696b5b6305a14441132dce9540cdf0b0301098f8ed1ab67c", func := "schisma/schismalaw12.FretsTolerance", spec := "fretsTolerance", unfollowed := true, recurses := true, named := ["schisma/pitch.primes", "schisma/size.logs"], apart := false, laid := [("schisma/pitch.primes", laid_schisma_pitch_primes), ("schisma/size.logs", laid_schisma_size_logs)], narrowed := true }
def FretsToleranceUptoSaid : Prop := fretsToleranceUptoRow.holds Tryd.pinned (OpenSpec.upto fretsToleranceSpec)

/-- 'schismalaw12.FretsMoved', WHERE WHAT IT READS IS OF BULK AT MOST 1048576: true; the input reads as it did. -/
def fretsMovedUptoRow : OpenClaim := { program := "ytohalcookjbaaaadoor", sum := "f695e3deae1fc5e5696b5b6305a14441132dce9540cdf0b0301098f8ed1ab67c", func := "schisma/schismalaw12.FretsMoved", spec := "fretsMoved", unfollowed := true, recurses := true, named := ["schisma/pitch.primes", "schisma/size.logs"], apart := false, laid := [("schisma/pitch.primes", laid_schisma_pitch_primes), ("schisma/size.logs", laid_schisma_size_logs)], narrowed := true }
def FretsMovedUptoSaid : Prop := fretsMovedUptoRow.holds Tryd.pinned (OpenSpec.upto fretsMovedSpec)

/-- 'schismalaw12.FretsFewer', WHERE WHAT IT READS IS OF BULK AT MOST 1048576: true; the input reads as it did. -/
def fretsFewerUptoRow : OpenClaim := { program := "ytohalcookjbaaaadoor", sum := "f695e3deae1fc5e5696b5b6305a14441132dce9540cdf0b0301098f8ed1ab67c", func := "schisma/schismalaw12.FretsFewer", spec := "fretsFewer", unfollowed := true, recurses := true, named := ["schisma/pitch.primes", "schisma/size.logs"], apart := false, laid := [("schisma/pitch.primes", laid_schisma_pitch_primes), ("schisma/size.logs", laid_schisma_size_logs)], narrowed := true }
def FretsFewerUptoSaid : Prop := fretsFewerUptoRow.holds Tryd.pinned (OpenSpec.upto fretsFewerSpec)

end Rows
end Go.Proofs.YtohalcookjbaaaaDoor
