/-
  NARROWER THAN 'FOR EVERY INPUT', by the rows' own cells (each row's printed sentence says how): BrassMatchesReference: laid · BrassFound: laid · BrassBest: laid · BrassBetter: laid · BrassTransposed: laid · BrassExchanged: laid · BrassValves: laid · BrassHarmonics: laid · SizeMatchesReference: laid.
  DERIVED. THE GIVEN ROWS OF THIS SEAT. 9 by the template 'for every input the law returns true; each argument reads behind the call as it read before'; 0 by the template 'total and deterministic' (their statements: YtbaopniofhbjdaaDoorTotals.lean).
  GIVEN WITH THE SEED: the statements are not yours to turn. If you find one false, say at which input.
  Laid BY PROGRAM, IN A SANDBOX (cutbox-rows.mjs): the forced cells as the released guide's own fill.sh prints them over the translation 5838af3d7638f699… (all of the seat's roots in one cut). By AI agents, Wed Nov 11 2026. No macro, syntax, notation, axiom, sorry.
-/
import Derived.Test.YtbaopniofhbjdaaDoorChecked
import GoSem.Claim
import GoSem.ClaimJoined
import GoSem.ClaimMapViews
import Derived.JoinedTies
import Derived.KernelRfl
namespace Go.Proofs.YtbaopniofhbjdaaDoor
/- THE CELL 'sum', in the pinned program and in every row, IS THE sha256 OF THE DUMP (.gsa) THAT YtbaopniofhbjdaaDoorProg.lean LOADS. Nothing in Lean hashes anything: it is a label: what it is worth is what the hold of that sum in a sandbox is worth. -/
noncomputable def Tryd.pinned : Pinned := { name := "ytbaopniofhbjdaadoor", sum := "5838af3d7638f699905e03cf452a68ada63e392aa86a253f69df1dfde30a4d04", checked := Tryd.checked }
namespace Rows
def none {H : Type} : Left H := { results := [], args := [] }

/- WHAT THE LISTED PACKAGE-LEVEL VARIABLES READ AS WHEN THE CALL BEGINS. Each datum BY PROGRAM (the guide's laid-datum.mjs) off the statement by which the dump's own 'gosem.cut.vars' lays the variable. In a bare row this is a premise. The card (YtbaopniofhbjdaaDoorCards.lean) ties it to the program's text. -/
def laid_schisma_pitch_primes {H : Type} : DataW H := .agg [.lit (.int .i64 2), .lit (.int .i64 3), .lit (.int .i64 5), .lit (.int .i64 7), .lit (.int .i64 11), .lit (.int .i64 13)]
def laid_schisma_size_logs {H : Type} : DataW H := .agg [.agg [.lit (.int .i64 1000000000), .lit (.int .i64 1000000000)], .agg [.lit (.int .i64 1584962500), .lit (.int .i64 1584962501)], .agg [.lit (.int .i64 2321928094), .lit (.int .i64 2321928095)], .agg [.lit (.int .i64 2807354922), .lit (.int .i64 2807354923)], .agg [.lit (.int .i64 3459431618), .lit (.int .i64 3459431619)], .agg [.lit (.int .i64 3700439718), .lit (.int .i64 3700439719)]]
def laid_schisma_brass_primes {H : Type} : DataW H := .agg [.lit (.int .i64 2), .lit (.int .i64 3), .lit (.int .i64 5), .lit (.int .i64 7), .lit (.int .i64 11), .lit (.int .i64 13)]

/-- 'schismalaw13.BrassMatchesReference': WHATEVER THE INPUT: true; the input reads as it did. -/
def brassMatchesReferenceSpec : ChangeSpec := { name := "brassMatchesReference", fn := fun _ => fun
  | [d1, d2, d3] => { results := [.lit (.bool true)], args := [d1, d2, d3] }
  | _ => none }
def brassMatchesReferenceRow : OpenClaim := { program := "ytbaopniofhbjdaadoor", sum := "5838af3d7638f699905e03cf452a68ada63e392aa86a253f69df1dfde30a4d04", func := "schisma/schismalaw13.BrassMatchesReference", spec := "brassMatchesReference", unfollowed := true, recurses := true, named := ["schisma/pitch.primes", "schisma/brass.primes", "schisma/size.logs"], apart := false, laid := [("schisma/pitch.primes", laid_schisma_pitch_primes), ("schisma/size.logs", laid_schisma_size_logs), ("schisma/brass.primes", laid_schisma_brass_primes)] }
def BrassMatchesReferenceSaid : Prop := brassMatchesReferenceRow.holds Tryd.pinned (OpenSpec.ofChange brassMatchesReferenceSpec)

/-- ITS FALSE NEIGHBOUR: 'it returns false'. Refute it at one input. -/
def brassMatchesReferenceWrong : ChangeSpec := { name := "brassMatchesReference", fn := fun _ => fun
  | [d1, d2, d3] => { results := [.lit (.bool false)], args := [d1, d2, d3] }
  | _ => none }
def BrassMatchesReferenceWrongFalsely : Prop := brassMatchesReferenceRow.holds Tryd.pinned (OpenSpec.ofChange brassMatchesReferenceWrong)

/-- 'schismalaw13.BrassFound': WHATEVER THE INPUT: true; the input reads as it did. -/
def brassFoundSpec : ChangeSpec := { name := "brassFound", fn := fun _ => fun
  | [d1, d2, d3] => { results := [.lit (.bool true)], args := [d1, d2, d3] }
  | _ => none }
def brassFoundRow : OpenClaim := { program := "ytbaopniofhbjdaadoor", sum := "5838af3d7638f699905e03cf452a68ada63e392aa86a253f69df1dfde30a4d04", func := "schisma/schismalaw13.BrassFound", spec := "brassFound", unfollowed := true, recurses := true, named := ["schisma/pitch.primes", "schisma/brass.primes", "schisma/size.logs"], apart := false, laid := [("schisma/pitch.primes", laid_schisma_pitch_primes), ("schisma/size.logs", laid_schisma_size_logs), ("schisma/brass.primes", laid_schisma_brass_primes)] }
def BrassFoundSaid : Prop := brassFoundRow.holds Tryd.pinned (OpenSpec.ofChange brassFoundSpec)

/-- ITS FALSE NEIGHBOUR: 'it returns false'. Refute it at one input. -/
def brassFoundWrong : ChangeSpec := { name := "brassFound", fn := fun _ => fun
  | [d1, d2, d3] => { results := [.lit (.bool false)], args := [d1, d2, d3] }
  | _ => none }
def BrassFoundWrongFalsely : Prop := brassFoundRow.holds Tryd.pinned (OpenSpec.ofChange brassFoundWrong)

/-- 'schismalaw13.BrassBest': WHATEVER THE INPUT: true; the input reads as it did. -/
def brassBestSpec : ChangeSpec := { name := "brassBest", fn := fun _ => fun
  | [d1, d2] => { results := [.lit (.bool true)], args := [d1, d2] }
  | _ => none }
def brassBestRow : OpenClaim := { program := "ytbaopniofhbjdaadoor", sum := "5838af3d7638f699905e03cf452a68ada63e392aa86a253f69df1dfde30a4d04", func := "schisma/schismalaw13.BrassBest", spec := "brassBest", unfollowed := true, recurses := true, named := ["schisma/pitch.primes", "schisma/brass.primes", "schisma/size.logs"], apart := false, laid := [("schisma/pitch.primes", laid_schisma_pitch_primes), ("schisma/size.logs", laid_schisma_size_logs), ("schisma/brass.primes", laid_schisma_brass_primes)] }
def BrassBestSaid : Prop := brassBestRow.holds Tryd.pinned (OpenSpec.ofChange brassBestSpec)

/-- ITS FALSE NEIGHBOUR: 'it returns false'. Refute it at one input. -/
def brassBestWrong : ChangeSpec := { name := "brassBest", fn := fun _ => fun
  | [d1, d2] => { results := [.lit (.bool false)], args := [d1, d2] }
  | _ => none }
def BrassBestWrongFalsely : Prop := brassBestRow.holds Tryd.pinned (OpenSpec.ofChange brassBestWrong)

/-- 'schismalaw13.BrassBetter': WHATEVER THE INPUT: true; the input reads as it did. -/
def brassBetterSpec : ChangeSpec := { name := "brassBetter", fn := fun _ => fun
  | [d1, d2, d3, d4, d5] => { results := [.lit (.bool true)], args := [d1, d2, d3, d4, d5] }
  | _ => none }
def brassBetterRow : OpenClaim := { program := "ytbaopniofhbjdaadoor", sum := "5838af3d7638f699905e03cf452a68ada63e392aa86a253f69df1dfde30a4d04", func := "schisma/schismalaw13.BrassBetter", spec := "brassBetter", unfollowed := true, recurses := true, named := ["schisma/pitch.primes", "schisma/brass.primes", "schisma/size.logs"], apart := false, laid := [("schisma/pitch.primes", laid_schisma_pitch_primes), ("schisma/size.logs", laid_schisma_size_logs), ("schisma/brass.primes", laid_schisma_brass_primes)] }
def BrassBetterSaid : Prop := brassBetterRow.holds Tryd.pinned (OpenSpec.ofChange brassBetterSpec)

/-- ITS FALSE NEIGHBOUR: 'it returns false'. Refute it at one input. -/
def brassBetterWrong : ChangeSpec := { name := "brassBetter", fn := fun _ => fun
  | [d1, d2, d3, d4, d5] => { results := [.lit (.bool false)], args := [d1, d2, d3, d4, d5] }
  | _ => none }
def BrassBetterWrongFalsely : Prop := brassBetterRow.holds Tryd.pinned (OpenSpec.ofChange brassBetterWrong)

/-- 'schismalaw13.BrassTransposed': WHATEVER THE INPUT: true; the input reads as it did. -/
def brassTransposedSpec : ChangeSpec := { name := "brassTransposed", fn := fun _ => fun
  | [d1, d2, d3] => { results := [.lit (.bool true)], args := [d1, d2, d3] }
  | _ => none }
def brassTransposedRow : OpenClaim := { program := "ytbaopniofhbjdaadoor", sum := "5838af3d7638f699905e03cf452a68ada63e392aa86a253f69df1dfde30a4d04", func := "schisma/schismalaw13.BrassTransposed", spec := "brassTransposed", unfollowed := true, recurses := true, named := ["schisma/pitch.primes", "schisma/brass.primes", "schisma/size.logs"], apart := false, laid := [("schisma/pitch.primes", laid_schisma_pitch_primes), ("schisma/size.logs", laid_schisma_size_logs), ("schisma/brass.primes", laid_schisma_brass_primes)] }
def BrassTransposedSaid : Prop := brassTransposedRow.holds Tryd.pinned (OpenSpec.ofChange brassTransposedSpec)

/-- ITS FALSE NEIGHBOUR: 'it returns false'. Refute it at one input. -/
def brassTransposedWrong : ChangeSpec := { name := "brassTransposed", fn := fun _ => fun
  | [d1, d2, d3] => { results := [.lit (.bool false)], args := [d1, d2, d3] }
  | _ => none }
def BrassTransposedWrongFalsely : Prop := brassTransposedRow.holds Tryd.pinned (OpenSpec.ofChange brassTransposedWrong)

/-- 'schismalaw13.BrassExchanged': WHATEVER THE INPUT: true; the input reads as it did. -/
def brassExchangedSpec : ChangeSpec := { name := "brassExchanged", fn := fun _ => fun
  | [d1, d2, d3, d4, d5] => { results := [.lit (.bool true)], args := [d1, d2, d3, d4, d5] }
  | _ => none }
def brassExchangedRow : OpenClaim := { program := "ytbaopniofhbjdaadoor", sum := "5838af3d7638f699905e03cf452a68ada63e392aa86a253f69df1dfde30a4d04", func := "schisma/schismalaw13.BrassExchanged", spec := "brassExchanged", unfollowed := true, recurses := true, named := ["schisma/pitch.primes", "schisma/brass.primes", "schisma/size.logs"], apart := false, laid := [("schisma/pitch.primes", laid_schisma_pitch_primes), ("schisma/size.logs", laid_schisma_size_logs), ("schisma/brass.primes", laid_schisma_brass_primes)] }
def BrassExchangedSaid : Prop := brassExchangedRow.holds Tryd.pinned (OpenSpec.ofChange brassExchangedSpec)

/-- ITS FALSE NEIGHBOUR: 'it returns false'. Refute it at one input. -/
def brassExchangedWrong : ChangeSpec := { name := "brassExchanged", fn := fun _ => fun
  | [d1, d2, d3, d4, d5] => { results := [.lit (.bool false)], args := [d1, d2, d3, d4, d5] }
  | _ => none }
def BrassExchangedWrongFalsely : Prop := brassExchangedRow.holds Tryd.pinned (OpenSpec.ofChange brassExchangedWrong)

/-- 'schismalaw13.BrassValves': WHATEVER THE INPUT: true; the input reads as it did. -/
def brassValvesSpec : ChangeSpec := { name := "brassValves", fn := fun _ => fun
  | [d1, d2, d3] => { results := [.lit (.bool true)], args := [d1, d2, d3] }
  | _ => none }
def brassValvesRow : OpenClaim := { program := "ytbaopniofhbjdaadoor", sum := "5838af3d7638f699905e03cf452a68ada63e392aa86a253f69df1dfde30a4d04", func := "schisma/schismalaw13.BrassValves", spec := "brassValves", unfollowed := true, recurses := true, named := ["schisma/pitch.primes", "schisma/brass.primes", "schisma/size.logs"], apart := false, laid := [("schisma/pitch.primes", laid_schisma_pitch_primes), ("schisma/size.logs", laid_schisma_size_logs), ("schisma/brass.primes", laid_schisma_brass_primes)] }
def BrassValvesSaid : Prop := brassValvesRow.holds Tryd.pinned (OpenSpec.ofChange brassValvesSpec)

/-- ITS FALSE NEIGHBOUR: 'it returns false'. Refute it at one input. -/
def brassValvesWrong : ChangeSpec := { name := "brassValves", fn := fun _ => fun
  | [d1, d2, d3] => { results := [.lit (.bool false)], args := [d1, d2, d3] }
  | _ => none }
def BrassValvesWrongFalsely : Prop := brassValvesRow.holds Tryd.pinned (OpenSpec.ofChange brassValvesWrong)

/-- 'schismalaw13.BrassHarmonics': WHATEVER THE INPUT: true; the input reads as it did. -/
def brassHarmonicsSpec : ChangeSpec := { name := "brassHarmonics", fn := fun _ => fun
  | [d1, d2, d3, d4] => { results := [.lit (.bool true)], args := [d1, d2, d3, d4] }
  | _ => none }
def brassHarmonicsRow : OpenClaim := { program := "ytbaopniofhbjdaadoor", sum := "5838af3d7638f699905e03cf452a68ada63e392aa86a253f69df1dfde30a4d04", func := "schisma/schismalaw13.BrassHarmonics", spec := "brassHarmonics", unfollowed := true, recurses := true, named := ["schisma/pitch.primes", "schisma/brass.primes", "schisma/size.logs"], apart := false, laid := [("schisma/pitch.primes", laid_schisma_pitch_primes), ("schisma/size.logs", laid_schisma_size_logs), ("schisma/brass.primes", laid_schisma_brass_primes)] }
def BrassHarmonicsSaid : Prop := brassHarmonicsRow.holds Tryd.pinned (OpenSpec.ofChange brassHarmonicsSpec)

/-- ITS FALSE NEIGHBOUR: 'it returns false'. Refute it at one input. -/
def brassHarmonicsWrong : ChangeSpec := { name := "brassHarmonics", fn := fun _ => fun
  | [d1, d2, d3, d4] => { results := [.lit (.bool false)], args := [d1, d2, d3, d4] }
  | _ => none }
def BrassHarmonicsWrongFalsely : Prop := brassHarmonicsRow.holds Tryd.pinned (OpenSpec.ofChange brassHarmonicsWrong)

/-- 'schismalaw04.SizeMatchesReference': WHATEVER THE INPUT: true; the input reads as it did. -/
def sizeMatchesReferenceSpec : ChangeSpec := { name := "sizeMatchesReference", fn := fun _ => fun
  | [d1, d2, d3, d4, d5, d6] => { results := [.lit (.bool true)], args := [d1, d2, d3, d4, d5, d6] }
  | _ => none }
def sizeMatchesReferenceRow : OpenClaim := { program := "ytbaopniofhbjdaadoor", sum := "5838af3d7638f699905e03cf452a68ada63e392aa86a253f69df1dfde30a4d04", func := "schisma/schismalaw04.SizeMatchesReference", spec := "sizeMatchesReference", unfollowed := true, recurses := true, named := ["schisma/size.logs"], apart := false, laid := [("schisma/size.logs", laid_schisma_size_logs)] }
def SizeMatchesReferenceSaid : Prop := sizeMatchesReferenceRow.holds Tryd.pinned (OpenSpec.ofChange sizeMatchesReferenceSpec)

/-- ITS FALSE NEIGHBOUR: 'it returns false'. Refute it at one input. -/
def sizeMatchesReferenceWrong : ChangeSpec := { name := "sizeMatchesReference", fn := fun _ => fun
  | [d1, d2, d3, d4, d5, d6] => { results := [.lit (.bool false)], args := [d1, d2, d3, d4, d5, d6] }
  | _ => none }
def SizeMatchesReferenceWrongFalsely : Prop := sizeMatchesReferenceRow.holds Tryd.pinned (OpenSpec.ofChange sizeMatchesReferenceWrong)

/- THE SECOND FORM. 'bulk': how many values and letters a reading holds, each counted each time it is reached (what is shared counts as often as it is met; a slice's spare places count too). A statement '..UptoSaid' is the law's where the arguments, and the package variables that the reading takes, are together of bulk at most 1048576: NARROWER than '..Said'. Prove '..Said' where nothing that the law and all that it calls make is longer than what came in: it says more and counts as full. Else prove '..UptoSaid'. A law counts once. -/
mutual
def uptoBulk {H : Type} : DataW H → Nat
  | .lit (.string bytes) => bytes.length + 1
  | .lit _ => 1
  | .nil => 1
  | .ptr d => uptoBulk d + 1
  | .slice elems spare => uptoBulkAll elems + uptoBulkAll spare + 1
  | .agg parts => uptoBulkAll parts + 1
  | .iface _ d => uptoBulk d + 1
  | .map entries => uptoBulkEntries entries + 1
  | .held _ => 1
def uptoBulkAll {H : Type} : List (DataW H) → Nat
  | [] => 0
  | d :: r => uptoBulk d + uptoBulkAll r
def uptoBulkEntries {H : Type} : List (Lit × DataW H) → Nat
  | [] => 0
  | x :: r => uptoBulkEntry x + uptoBulkEntries r
def uptoBulkEntry {H : Type} : Lit × DataW H → Nat
  | (.string bytes, d) => bytes.length + uptoBulk d + 1
  | (_, d) => uptoBulk d + 1
 end
def uptoSmall : (H : Type) → List (DataW H) → Bool := fun _ ds => decide (uptoBulkAll ds ≤ 1048576)
def OpenSpec.upto (s : _root_.Go.ChangeSpec) : _root_.Go.OpenSpec := { _root_.Go.OpenSpec.ofChange s with cond := some uptoSmall }

/-- 'schismalaw13.BrassMatchesReference', WHERE WHAT IT READS IS OF BULK AT MOST 1048576: true; the input reads as it did. -/
def brassMatchesReferenceUptoRow : OpenClaim := { program := "ytbaopniofhbjdaadoor", sum := "5838af3d7638f699905e03cf452a68ada63e392aa86a253f69df1dfde30a4d04", func := "schisma/schismalaw13.BrassMatchesReference", spec := "brassMatchesReference", unfollowed := true, recurses := true, named := ["schisma/pitch.primes", "schisma/brass.primes", "schisma/size.logs"], apart := false, laid := [("schisma/pitch.primes", laid_schisma_pitch_primes), ("schisma/size.logs", laid_schisma_size_logs), ("schisma/brass.primes", laid_schisma_brass_primes)], narrowed := true }
def BrassMatchesReferenceUptoSaid : Prop := brassMatchesReferenceUptoRow.holds Tryd.pinned (OpenSpec.upto brassMatchesReferenceSpec)

/-- 'schismalaw13.BrassFound', WHERE WHAT IT READS IS OF BULK AT MOST 1048576: true; the input reads as it did. -/
def brassFoundUptoRow : OpenClaim := { program := "ytbaopniofhbjdaadoor", sum := "5838af3d7638f699905e03cf452a68ada63e392aa86a253f69df1dfde30a4d04", func := "schisma/schismalaw13.BrassFound", spec := "brassFound", unfollowed := true, recurses := true, named := ["schisma/pitch.primes", "schisma/brass.primes", "schisma/size.logs"], apart := false, laid := [("schisma/pitch.primes", laid_schisma_pitch_primes), ("schisma/size.logs", laid_schisma_size_logs), ("schisma/brass.primes", laid_schisma_brass_primes)], narrowed := true }
def BrassFoundUptoSaid : Prop := brassFoundUptoRow.holds Tryd.pinned (OpenSpec.upto brassFoundSpec)

/-- 'schismalaw13.BrassBest', WHERE WHAT IT READS IS OF BULK AT MOST 1048576: true; the input reads as it did. -/
def brassBestUptoRow : OpenClaim := { program := "ytbaopniofhbjdaadoor", sum := "5838af3d7638f699905e03cf452a68ada63e392aa86a253f69df1dfde30a4d04", func := "schisma/schismalaw13.BrassBest", spec := "brassBest", unfollowed := true, recurses := true, named := ["schisma/pitch.primes", "schisma/brass.primes", "schisma/size.logs"], apart := false, laid := [("schisma/pitch.primes", laid_schisma_pitch_primes), ("schisma/size.logs", laid_schisma_size_logs), ("schisma/brass.primes", laid_schisma_brass_primes)], narrowed := true }
def BrassBestUptoSaid : Prop := brassBestUptoRow.holds Tryd.pinned (OpenSpec.upto brassBestSpec)

/-- 'schismalaw13.BrassBetter', WHERE WHAT IT READS IS OF BULK AT MOST 1048576: true; the input reads as it did. -/
def brassBetterUptoRow : OpenClaim := { program := "ytbaopniofhbjdaadoor", sum := "5838af3d7638f699905e03cf452a68ada63e392aa86a253f69df1dfde30a4d04", func := "schisma/schismalaw13.BrassBetter", spec := "brassBetter", unfollowed := true, recurses := true, named := ["schisma/pitch.primes", "schisma/brass.primes", "schisma/size.logs"], apart := false, laid := [("schisma/pitch.primes", laid_schisma_pitch_primes), ("schisma/size.logs", laid_schisma_size_logs), ("schisma/brass.primes", laid_schisma_brass_primes)], narrowed := true }
def BrassBetterUptoSaid : Prop := brassBetterUptoRow.holds Tryd.pinned (OpenSpec.upto brassBetterSpec)

/-- 'schismalaw13.BrassTransposed', WHERE WHAT IT READS IS OF BULK AT MOST 1048576: true; the input reads as it did. -/
def brassTransposedUptoRow : OpenClaim := { program := "ytbaopniofhbjdaadoor", sum := "5838af3d7638f699905e03cf452a68ada63e392aa86a253f69df1dfde30a4d04", func := "schisma/schismalaw13.BrassTransposed", spec := "brassTransposed", unfollowed := true, recurses := true, named := ["schisma/pitch.primes", "schisma/brass.primes", "schisma/size.logs"], apart := false, laid := [("schisma/pitch.primes", laid_schisma_pitch_primes), ("schisma/size.logs", laid_schisma_size_logs), ("schisma/brass.primes", laid_schisma_brass_primes)], narrowed := true }
def BrassTransposedUptoSaid : Prop := brassTransposedUptoRow.holds Tryd.pinned (OpenSpec.upto brassTransposedSpec)

/-- 'schismalaw13.BrassExchanged', WHERE WHAT IT READS IS OF BULK AT MOST 1048576: true; the input reads as it did. -/
def brassExchangedUptoRow : OpenClaim := { program := "ytbaopniofhbjdaadoor", sum := "5838af3d7638f699905e03cf452a68ada63e392aa86a253f69df1dfde30a4d04", func := "schisma/schismalaw13.BrassExchanged", spec := "brassExchanged", unfollowed := true, recurses := true, named := ["schisma/pitch.primes", "schisma/brass.primes", "schisma/size.logs"], apart := false, laid := [("schisma/pitch.primes", laid_schisma_pitch_primes), ("schisma/size.logs", laid_schisma_size_logs), ("schisma/brass.primes", laid_schisma_brass_primes)], narrowed := true }
def BrassExchangedUptoSaid : Prop := brassExchangedUptoRow.holds Tryd.pinned (OpenSpec.upto brassExchangedSpec)

/-- 'schismalaw13.BrassValves', WHERE WHAT IT READS IS OF BULK AT MOST 1048576: true; the input reads as it did. -/
def brassValvesUptoRow : OpenClaim := { program := "ytbaopniofhbjdaadoor", sum := "5838af3d7638f699905e03cf452a68ada63e392aa86a253f69df1dfde30a4d04", func := "schisma/schismalaw13.BrassValves", spec := "brassValves", unfollowed := true, recurses := true, named := ["schisma/pitch.primes", "schisma/brass.primes", "schisma/size.logs"], apart := false, laid := [("schisma/pitch.primes", laid_schisma_pitch_primes), ("schisma/size.logs", laid_schisma_size_logs), ("schisma/brass.primes", laid_schisma_brass_primes)], narrowed := true }
def BrassValvesUptoSaid : Prop := brassValvesUptoRow.holds Tryd.pinned (OpenSpec.upto brassValvesSpec)

/-- 'schismalaw13.BrassHarmonics', WHERE WHAT IT READS IS OF BULK AT MOST 1048576: true; the input reads as it did. -/
def brassHarmonicsUptoRow : OpenClaim := { program := "ytbaopniofhbjdaadoor", sum := "5838af3d7638f699905e03cf452a68ada63e392aa86a253f69df1dfde30a4d04", func := "schisma/schismalaw13.BrassHarmonics", spec := "brassHarmonics", unfollowed := true, recurses := true, named := ["schisma/pitch.primes", "schisma/brass.primes", "schisma/size.logs"], apart := false, laid := [("schisma/pitch.primes", laid_schisma_pitch_primes), ("schisma/size.logs", laid_schisma_size_logs), ("schisma/brass.primes", laid_schisma_brass_primes)], narrowed := true }
def BrassHarmonicsUptoSaid : Prop := brassHarmonicsUptoRow.holds Tryd.pinned (OpenSpec.upto brassHarmonicsSpec)

/-- 'schismalaw04.SizeMatchesReference', WHERE WHAT IT READS IS OF BULK AT MOST 1048576: true; the input reads as it did. -/
def sizeMatchesReferenceUptoRow : OpenClaim := { program := "ytbaopniofhbjdaadoor", sum := "5838af3d7638f699905e03cf452a68ada63e392aa86a253f69df1dfde30a4d04", func := "schisma/schismalaw04.SizeMatchesReference", spec := "sizeMatchesReference", unfollowed := true, recurses := true, named := ["schisma/size.logs"], apart := false, laid := [("schisma/size.logs", laid_schisma_size_logs)], narrowed := true }
def SizeMatchesReferenceUptoSaid : Prop := sizeMatchesReferenceUptoRow.holds Tryd.pinned (OpenSpec.upto sizeMatchesReferenceSpec)

end Rows
end Go.Proofs.YtbaopniofhbjdaaDoor
