/-
  NARROWER THAN 'FOR EVERY INPUT', by the rows' own cells (each row's printed sentence says how): DriftFarthest: laid · DriftHome: laid · DriftJoined: laid · DriftRepeated: laid · DriftOrder: laid · DriftRepeats: laid · DriftAccounts: laid.
  DERIVED. THE GIVEN ROWS OF THIS SEAT. 7 by the template 'for every input the law returns true; each argument reads behind the call as it read before'; 0 by the template 'total and deterministic' (their statements: YtelhmdhhabgihaaDoorTotals.lean).
  GIVEN WITH THE SEED: the statements are not yours to turn. If you find one false, say at which input.
  Laid BY PROGRAM, IN A SANDBOX (cutbox-rows.mjs): the forced cells as the released guide's own fill.sh prints them over the translation 25dc06eb3c9d885b… (all of the seat's roots in one cut). By AI agents, Wed Nov 11 2026. No macro, syntax, notation, axiom, sorry.
-/
import Derived.Test.YtelhmdhhabgihaaDoorChecked
import GoSem.PinnedTables
import GoSem.Claim
import GoSem.ClaimJoined
import GoSem.ClaimMapViews
import Derived.JoinedTies
import Derived.KernelRfl
namespace Go.Proofs.YtelhmdhhabgihaaDoor
/- THE CELL 'sum', in the pinned program and in every row, IS THE sha256 OF THE DUMP (.gsa) THAT YtelhmdhhabgihaaDoorProg.lean LOADS. Nothing in Lean hashes anything: it is a label: what it is worth is what the hold of that sum in a sandbox is worth. -/
noncomputable def Tryd.pinned : Pinned := { name := "ytelhmdhhabgihaadoor", sum := "25dc06eb3c9d885bf7b58ccd26eda0503bce65ed4829dc8b7b5c2cbbedc0a8aa", checked := Tryd.checked }
namespace Rows
def none {H : Type} : Left H := { results := [], args := [] }

/- WHAT THE LISTED PACKAGE-LEVEL VARIABLES READ AS WHEN THE CALL BEGINS. Each datum BY PROGRAM (the guide's laid-datum.mjs) off the statement by which the dump's own 'gosem.cut.vars' lays the variable. In a bare row this is a premise. The card (YtelhmdhhabgihaaDoorCards.lean) ties it to the program's text. -/
def laid_unicode_utf8_acceptRanges {H : Type} : DataW H := .agg [.agg [.lit (.int .u8 128), .lit (.int .u8 191)], .agg [.lit (.int .u8 160), .lit (.int .u8 191)], .agg [.lit (.int .u8 128), .lit (.int .u8 159)], .agg [.lit (.int .u8 144), .lit (.int .u8 191)], .agg [.lit (.int .u8 128), .lit (.int .u8 143)], .agg [.lit (.int .u8 0), .lit (.int .u8 0)], .agg [.lit (.int .u8 0), .lit (.int .u8 0)], .agg [.lit (.int .u8 0), .lit (.int .u8 0)], .agg [.lit (.int .u8 0), .lit (.int .u8 0)], .agg [.lit (.int .u8 0), .lit (.int .u8 0)], .agg [.lit (.int .u8 0), .lit (.int .u8 0)], .agg [.lit (.int .u8 0), .lit (.int .u8 0)], .agg [.lit (.int .u8 0), .lit (.int .u8 0)], .agg [.lit (.int .u8 0), .lit (.int .u8 0)], .agg [.lit (.int .u8 0), .lit (.int .u8 0)], .agg [.lit (.int .u8 0), .lit (.int .u8 0)]]
def laid_schisma_pitch_primes {H : Type} : DataW H := .agg [.lit (.int .i64 2), .lit (.int .i64 3), .lit (.int .i64 5), .lit (.int .i64 7), .lit (.int .i64 11), .lit (.int .i64 13)]
def laid_schisma_size_logs {H : Type} : DataW H := .agg [.agg [.lit (.int .i64 1000000000), .lit (.int .i64 1000000000)], .agg [.lit (.int .i64 1584962500), .lit (.int .i64 1584962501)], .agg [.lit (.int .i64 2321928094), .lit (.int .i64 2321928095)], .agg [.lit (.int .i64 2807354922), .lit (.int .i64 2807354923)], .agg [.lit (.int .i64 3459431618), .lit (.int .i64 3459431619)], .agg [.lit (.int .i64 3700439718), .lit (.int .i64 3700439719)]]
/-- One of Go's own tables, pinned by name: the form's constant. -/
def laid_unicode_utf8_first : DataW Unit := Go.Pinned.utf8First

/-- 'schismalaw25.DriftFarthest': WHATEVER THE INPUT: true; the input reads as it did. -/
def driftFarthestSpec : ChangeSpec := { name := "driftFarthest", fn := fun _ => fun
  | [d1, d2] => { results := [.lit (.bool true)], args := [d1, d2] }
  | _ => none }
def driftFarthestRow : OpenClaim := { program := "ytelhmdhhabgihaadoor", sum := "25dc06eb3c9d885bf7b58ccd26eda0503bce65ed4829dc8b7b5c2cbbedc0a8aa", func := "schisma/schismalaw25.DriftFarthest", spec := "driftFarthest", inPlace := ["internal/bytealg.IndexByteString", "internal/bytealg.IndexString"], unfollowed := true, recurses := true, named := ["unicode/utf8.first", "unicode/utf8.acceptRanges", "schisma/pitch.primes", "schisma/size.logs", "internal/bytealg.MaxLen"], apart := false, laid := [("unicode/utf8.acceptRanges", laid_unicode_utf8_acceptRanges), ("schisma/pitch.primes", laid_schisma_pitch_primes), ("schisma/size.logs", laid_schisma_size_logs), ("unicode/utf8.first", laid_unicode_utf8_first)] }
def DriftFarthestSaid : Prop := driftFarthestRow.holds Tryd.pinned (OpenSpec.ofChange driftFarthestSpec)

/-- ITS FALSE NEIGHBOUR: 'it returns false'. Refute it at one input. -/
def driftFarthestWrong : ChangeSpec := { name := "driftFarthest", fn := fun _ => fun
  | [d1, d2] => { results := [.lit (.bool false)], args := [d1, d2] }
  | _ => none }
def DriftFarthestWrongFalsely : Prop := driftFarthestRow.holds Tryd.pinned (OpenSpec.ofChange driftFarthestWrong)

/-- 'schismalaw25.DriftHome': WHATEVER THE INPUT: true; the input reads as it did. -/
def driftHomeSpec : ChangeSpec := { name := "driftHome", fn := fun _ => fun
  | [d1, d2] => { results := [.lit (.bool true)], args := [d1, d2] }
  | _ => none }
def driftHomeRow : OpenClaim := { program := "ytelhmdhhabgihaadoor", sum := "25dc06eb3c9d885bf7b58ccd26eda0503bce65ed4829dc8b7b5c2cbbedc0a8aa", func := "schisma/schismalaw25.DriftHome", spec := "driftHome", inPlace := ["internal/bytealg.IndexByteString", "internal/bytealg.IndexString"], unfollowed := true, recurses := true, named := ["unicode/utf8.first", "unicode/utf8.acceptRanges", "schisma/pitch.primes", "schisma/size.logs", "internal/bytealg.MaxLen"], apart := false, laid := [("unicode/utf8.acceptRanges", laid_unicode_utf8_acceptRanges), ("schisma/pitch.primes", laid_schisma_pitch_primes), ("schisma/size.logs", laid_schisma_size_logs), ("unicode/utf8.first", laid_unicode_utf8_first)] }
def DriftHomeSaid : Prop := driftHomeRow.holds Tryd.pinned (OpenSpec.ofChange driftHomeSpec)

/-- ITS FALSE NEIGHBOUR: 'it returns false'. Refute it at one input. -/
def driftHomeWrong : ChangeSpec := { name := "driftHome", fn := fun _ => fun
  | [d1, d2] => { results := [.lit (.bool false)], args := [d1, d2] }
  | _ => none }
def DriftHomeWrongFalsely : Prop := driftHomeRow.holds Tryd.pinned (OpenSpec.ofChange driftHomeWrong)

/-- 'schismalaw25.DriftJoined': WHATEVER THE INPUT: true; the input reads as it did. -/
def driftJoinedSpec : ChangeSpec := { name := "driftJoined", fn := fun _ => fun
  | [d1, d2, d3] => { results := [.lit (.bool true)], args := [d1, d2, d3] }
  | _ => none }
def driftJoinedRow : OpenClaim := { program := "ytelhmdhhabgihaadoor", sum := "25dc06eb3c9d885bf7b58ccd26eda0503bce65ed4829dc8b7b5c2cbbedc0a8aa", func := "schisma/schismalaw25.DriftJoined", spec := "driftJoined", inPlace := ["internal/bytealg.IndexByteString", "internal/bytealg.IndexString"], unfollowed := true, recurses := true, named := ["unicode/utf8.first", "unicode/utf8.acceptRanges", "schisma/pitch.primes", "schisma/size.logs", "internal/bytealg.MaxLen"], apart := false, laid := [("unicode/utf8.acceptRanges", laid_unicode_utf8_acceptRanges), ("schisma/pitch.primes", laid_schisma_pitch_primes), ("schisma/size.logs", laid_schisma_size_logs), ("unicode/utf8.first", laid_unicode_utf8_first)] }
def DriftJoinedSaid : Prop := driftJoinedRow.holds Tryd.pinned (OpenSpec.ofChange driftJoinedSpec)

/-- ITS FALSE NEIGHBOUR: 'it returns false'. Refute it at one input. -/
def driftJoinedWrong : ChangeSpec := { name := "driftJoined", fn := fun _ => fun
  | [d1, d2, d3] => { results := [.lit (.bool false)], args := [d1, d2, d3] }
  | _ => none }
def DriftJoinedWrongFalsely : Prop := driftJoinedRow.holds Tryd.pinned (OpenSpec.ofChange driftJoinedWrong)

/-- 'schismalaw25.DriftRepeated': WHATEVER THE INPUT: true; the input reads as it did. -/
def driftRepeatedSpec : ChangeSpec := { name := "driftRepeated", fn := fun _ => fun
  | [d1, d2, d3, d4] => { results := [.lit (.bool true)], args := [d1, d2, d3, d4] }
  | _ => none }
def driftRepeatedRow : OpenClaim := { program := "ytelhmdhhabgihaadoor", sum := "25dc06eb3c9d885bf7b58ccd26eda0503bce65ed4829dc8b7b5c2cbbedc0a8aa", func := "schisma/schismalaw25.DriftRepeated", spec := "driftRepeated", inPlace := ["internal/bytealg.IndexByteString", "internal/bytealg.IndexString"], unfollowed := true, recurses := true, named := ["unicode/utf8.first", "unicode/utf8.acceptRanges", "schisma/pitch.primes", "schisma/size.logs", "internal/bytealg.MaxLen"], apart := false, laid := [("unicode/utf8.acceptRanges", laid_unicode_utf8_acceptRanges), ("schisma/pitch.primes", laid_schisma_pitch_primes), ("schisma/size.logs", laid_schisma_size_logs), ("unicode/utf8.first", laid_unicode_utf8_first)] }
def DriftRepeatedSaid : Prop := driftRepeatedRow.holds Tryd.pinned (OpenSpec.ofChange driftRepeatedSpec)

/-- ITS FALSE NEIGHBOUR: 'it returns false'. Refute it at one input. -/
def driftRepeatedWrong : ChangeSpec := { name := "driftRepeated", fn := fun _ => fun
  | [d1, d2, d3, d4] => { results := [.lit (.bool false)], args := [d1, d2, d3, d4] }
  | _ => none }
def DriftRepeatedWrongFalsely : Prop := driftRepeatedRow.holds Tryd.pinned (OpenSpec.ofChange driftRepeatedWrong)

/-- 'schismalaw25.DriftOrder': WHATEVER THE INPUT: true; the input reads as it did. -/
def driftOrderSpec : ChangeSpec := { name := "driftOrder", fn := fun _ => fun
  | [d1, d2, d3, d4] => { results := [.lit (.bool true)], args := [d1, d2, d3, d4] }
  | _ => none }
def driftOrderRow : OpenClaim := { program := "ytelhmdhhabgihaadoor", sum := "25dc06eb3c9d885bf7b58ccd26eda0503bce65ed4829dc8b7b5c2cbbedc0a8aa", func := "schisma/schismalaw25.DriftOrder", spec := "driftOrder", inPlace := ["internal/bytealg.IndexByteString", "internal/bytealg.IndexString"], unfollowed := true, recurses := true, named := ["unicode/utf8.first", "unicode/utf8.acceptRanges", "schisma/pitch.primes", "schisma/size.logs", "internal/bytealg.MaxLen"], apart := false, laid := [("unicode/utf8.acceptRanges", laid_unicode_utf8_acceptRanges), ("schisma/pitch.primes", laid_schisma_pitch_primes), ("schisma/size.logs", laid_schisma_size_logs), ("unicode/utf8.first", laid_unicode_utf8_first)] }
def DriftOrderSaid : Prop := driftOrderRow.holds Tryd.pinned (OpenSpec.ofChange driftOrderSpec)

/-- ITS FALSE NEIGHBOUR: 'it returns false'. Refute it at one input. -/
def driftOrderWrong : ChangeSpec := { name := "driftOrder", fn := fun _ => fun
  | [d1, d2, d3, d4] => { results := [.lit (.bool false)], args := [d1, d2, d3, d4] }
  | _ => none }
def DriftOrderWrongFalsely : Prop := driftOrderRow.holds Tryd.pinned (OpenSpec.ofChange driftOrderWrong)

/-- 'schismalaw25.DriftRepeats': WHATEVER THE INPUT: true; the input reads as it did. -/
def driftRepeatsSpec : ChangeSpec := { name := "driftRepeats", fn := fun _ => fun
  | [d1, d2, d3, d4] => { results := [.lit (.bool true)], args := [d1, d2, d3, d4] }
  | _ => none }
def driftRepeatsRow : OpenClaim := { program := "ytelhmdhhabgihaadoor", sum := "25dc06eb3c9d885bf7b58ccd26eda0503bce65ed4829dc8b7b5c2cbbedc0a8aa", func := "schisma/schismalaw25.DriftRepeats", spec := "driftRepeats", inPlace := ["internal/bytealg.IndexByteString", "internal/bytealg.IndexString"], unfollowed := true, recurses := true, named := ["unicode/utf8.first", "unicode/utf8.acceptRanges", "schisma/pitch.primes", "schisma/size.logs", "internal/bytealg.MaxLen"], apart := false, laid := [("unicode/utf8.acceptRanges", laid_unicode_utf8_acceptRanges), ("schisma/pitch.primes", laid_schisma_pitch_primes), ("schisma/size.logs", laid_schisma_size_logs), ("unicode/utf8.first", laid_unicode_utf8_first)] }
def DriftRepeatsSaid : Prop := driftRepeatsRow.holds Tryd.pinned (OpenSpec.ofChange driftRepeatsSpec)

/-- ITS FALSE NEIGHBOUR: 'it returns false'. Refute it at one input. -/
def driftRepeatsWrong : ChangeSpec := { name := "driftRepeats", fn := fun _ => fun
  | [d1, d2, d3, d4] => { results := [.lit (.bool false)], args := [d1, d2, d3, d4] }
  | _ => none }
def DriftRepeatsWrongFalsely : Prop := driftRepeatsRow.holds Tryd.pinned (OpenSpec.ofChange driftRepeatsWrong)

/-- 'schismalaw25.DriftAccounts': WHATEVER THE INPUT: true; the input reads as it did. -/
def driftAccountsSpec : ChangeSpec := { name := "driftAccounts", fn := fun _ => fun
  | [d1, d2] => { results := [.lit (.bool true)], args := [d1, d2] }
  | _ => none }
def driftAccountsRow : OpenClaim := { program := "ytelhmdhhabgihaadoor", sum := "25dc06eb3c9d885bf7b58ccd26eda0503bce65ed4829dc8b7b5c2cbbedc0a8aa", func := "schisma/schismalaw25.DriftAccounts", spec := "driftAccounts", inPlace := ["internal/bytealg.IndexByteString", "internal/bytealg.IndexString"], unfollowed := true, recurses := true, named := ["unicode/utf8.first", "unicode/utf8.acceptRanges", "schisma/pitch.primes", "schisma/size.logs", "internal/bytealg.MaxLen"], apart := false, laid := [("unicode/utf8.acceptRanges", laid_unicode_utf8_acceptRanges), ("schisma/pitch.primes", laid_schisma_pitch_primes), ("schisma/size.logs", laid_schisma_size_logs), ("unicode/utf8.first", laid_unicode_utf8_first)] }
def DriftAccountsSaid : Prop := driftAccountsRow.holds Tryd.pinned (OpenSpec.ofChange driftAccountsSpec)

/-- ITS FALSE NEIGHBOUR: 'it returns false'. Refute it at one input. -/
def driftAccountsWrong : ChangeSpec := { name := "driftAccounts", fn := fun _ => fun
  | [d1, d2] => { results := [.lit (.bool false)], args := [d1, d2] }
  | _ => none }
def DriftAccountsWrongFalsely : Prop := driftAccountsRow.holds Tryd.pinned (OpenSpec.ofChange driftAccountsWrong)

/- THE SECOND FORM. 'bulk': how many values and letters a reading holds, each counted each time it is reached (what is shared counts as often as it is met; a slice's spare places count too). A statement '..UptoSaid' is the law's where the arguments, and the package variables that the reading takes, are together of bulk at most 1048576: NARROWER than '..Said'. Prove '..Said' where nothing that the law and all that it calls make is longer than what came in: it says more and counts as full. Else prove '..UptoSaid'. A law counts once. -/
mutual
def uptoBulk {H : Type} : DataW H → Nat
  | .lit (.string bytes) => bytes.length + 1
  | .lit _ => 1
  | .nil => 1
  | .ptr d => uptoBulk d + 1
  | .slice elems spare => uptoBulkAll elems + uptoBulkAll spare + 1
  | .agg parts => uptoBulkAll parts + 1
  | .iface _ d => uptoBulk d + 1
  | .map entries => uptoBulkEntries entries + 1
  | .held _ => 1
def uptoBulkAll {H : Type} : List (DataW H) → Nat
  | [] => 0
  | d :: r => uptoBulk d + uptoBulkAll r
def uptoBulkEntries {H : Type} : List (Lit × DataW H) → Nat
  | [] => 0
  | x :: r => uptoBulkEntry x + uptoBulkEntries r
def uptoBulkEntry {H : Type} : Lit × DataW H → Nat
  | (.string bytes, d) => bytes.length + uptoBulk d + 1
  | (_, d) => uptoBulk d + 1
 end
def uptoSmall : (H : Type) → List (DataW H) → Bool := fun _ ds => decide (uptoBulkAll ds ≤ 1048576)
def OpenSpec.upto (s : _root_.Go.ChangeSpec) : _root_.Go.OpenSpec := { _root_.Go.OpenSpec.ofChange s with cond := some uptoSmall }

/-- 'schismalaw25.DriftFarthest', WHERE WHAT IT READS IS OF BULK AT MOST 1048576: true; the input reads as it did. -/
def driftFarthestUptoRow : OpenClaim := { program := "ytelhmdhhabgihaadoor", sum := "25dc06eb3c9d885bf7b58ccd26eda0503bce65ed4829dc8b7b5c2cbbedc0a8aa", func := "schisma/schismalaw25.DriftFarthest", spec := "driftFarthest", inPlace := ["internal/bytealg.IndexByteString", "internal/bytealg.IndexString"], unfollowed := true, recurses := true, named := ["unicode/utf8.first", "unicode/utf8.acceptRanges", "schisma/pitch.primes", "schisma/size.logs", "internal/bytealg.MaxLen"], apart := false, laid := [("unicode/utf8.acceptRanges", laid_unicode_utf8_acceptRanges), ("schisma/pitch.primes", laid_schisma_pitch_primes), ("schisma/size.logs", laid_schisma_size_logs), ("unicode/utf8.first", laid_unicode_utf8_first)], narrowed := true }
def DriftFarthestUptoSaid : Prop := driftFarthestUptoRow.holds Tryd.pinned (OpenSpec.upto driftFarthestSpec)

/-- 'schismalaw25.DriftHome', WHERE WHAT IT READS IS OF BULK AT MOST 1048576: true; the input reads as it did. -/
def driftHomeUptoRow : OpenClaim := { program := "ytelhmdhhabgihaadoor", sum := "25dc06eb3c9d885bf7b58ccd26eda0503bce65ed4829dc8b7b5c2cbbedc0a8aa", func := "schisma/schismalaw25.DriftHome", spec := "driftHome", inPlace := ["internal/bytealg.IndexByteString", "internal/bytealg.IndexString"], unfollowed := true, recurses := true, named := ["unicode/utf8.first", "unicode/utf8.acceptRanges", "schisma/pitch.primes", "schisma/size.logs", "internal/bytealg.MaxLen"], apart := false, laid := [("unicode/utf8.acceptRanges", laid_unicode_utf8_acceptRanges), ("schisma/pitch.primes", laid_schisma_pitch_primes), ("schisma/size.logs", laid_schisma_size_logs), ("unicode/utf8.first", laid_unicode_utf8_first)], narrowed := true }
def DriftHomeUptoSaid : Prop := driftHomeUptoRow.holds Tryd.pinned (OpenSpec.upto driftHomeSpec)

/-- 'schismalaw25.DriftJoined', WHERE WHAT IT READS IS OF BULK AT MOST 1048576: true; the input reads as it did. -/
def driftJoinedUptoRow : OpenClaim := { program := "ytelhmdhhabgihaadoor", sum := "25dc06eb3c9d885bf7b58ccd26eda0503bce65ed4829dc8b7b5c2cbbedc0a8aa", func := "schisma/schismalaw25.DriftJoined", spec := "driftJoined", inPlace := ["internal/bytealg.IndexByteString", "internal/bytealg.IndexString"], unfollowed := true, recurses := true, named := ["unicode/utf8.first", "unicode/utf8.acceptRanges", "schisma/pitch.primes", "schisma/size.logs", "internal/bytealg.MaxLen"], apart := false, laid := [("unicode/utf8.acceptRanges", laid_unicode_utf8_acceptRanges), ("schisma/pitch.primes", laid_schisma_pitch_primes), ("schisma/size.logs", laid_schisma_size_logs), ("unicode/utf8.first", laid_unicode_utf8_first)], narrowed := true }
def DriftJoinedUptoSaid : Prop := driftJoinedUptoRow.holds Tryd.pinned (OpenSpec.upto driftJoinedSpec)

/-- 'schismalaw25.DriftRepeated', WHERE WHAT IT READS IS OF BULK AT MOST 1048576: true; the input reads as it did. -/
def driftRepeatedUptoRow : OpenClaim := { program := "ytelhmdhhabgihaadoor", sum := "25dc06eb3c9d885bf7b58ccd26eda0503bce65ed4829dc8b7b5c2cbbedc0a8aa", func := "schisma/schismalaw25.DriftRepeated", spec := "driftRepeated", inPlace := ["internal/bytealg.IndexByteString", "internal/bytealg.IndexString"], unfollowed := true, recurses := true, named := ["unicode/utf8.first", "unicode/utf8.acceptRanges", "schisma/pitch.primes", "schisma/size.logs", "internal/bytealg.MaxLen"], apart := false, laid := [("unicode/utf8.acceptRanges", laid_unicode_utf8_acceptRanges), ("schisma/pitch.primes", laid_schisma_pitch_primes), ("schisma/size.logs", laid_schisma_size_logs), ("unicode/utf8.first", laid_unicode_utf8_first)], narrowed := true }
def DriftRepeatedUptoSaid : Prop := driftRepeatedUptoRow.holds Tryd.pinned (OpenSpec.upto driftRepeatedSpec)

/-- 'schismalaw25.DriftOrder', WHERE WHAT IT READS IS OF BULK AT MOST 1048576: true; the input reads as it did. -/
def driftOrderUptoRow : OpenClaim := { program := "ytelhmdhhabgihaadoor", sum := "25dc06eb3c9d885bf7b58ccd26eda0503bce65ed4829dc8b7b5c2cbbedc0a8aa", func := "schisma/schismalaw25.DriftOrder", spec := "driftOrder", inPlace := ["internal/bytealg.IndexByteString", "internal/bytealg.IndexString"], unfollowed := true, recurses := true, named := ["unicode/utf8.first", "unicode/utf8.acceptRanges", "schisma/pitch.primes", "schisma/size.logs", "internal/bytealg.MaxLen"], apart := false, laid := [("unicode/utf8.acceptRanges", laid_unicode_utf8_acceptRanges), ("schisma/pitch.primes", laid_schisma_pitch_primes), ("schisma/size.logs", laid_schisma_size_logs), ("unicode/utf8.first", laid_unicode_utf8_first)], narrowed := true }
def DriftOrderUptoSaid : Prop := driftOrderUptoRow.holds Tryd.pinned (OpenSpec.upto driftOrderSpec)

/-- 'schismalaw25.DriftRepeats', WHERE WHAT IT READS IS OF BULK AT MOST 1048576: true; the input reads as it did. -/
def driftRepeatsUptoRow : OpenClaim := { program := "ytelhmdhhabgihaadoor", sum := "25dc06eb3c9d885bf7b58ccd26eda0503bce65ed4829dc8b7b5c2cbbedc0a8aa", func := "schisma/schismalaw25.DriftRepeats", spec := "driftRepeats", inPlace := ["internal/bytealg.IndexByteString", "internal/bytealg.IndexString"], unfollowed := true, recurses := true, named := ["unicode/utf8.first", "unicode/utf8.acceptRanges", "schisma/pitch.primes", "schisma/size.logs", "internal/bytealg.MaxLen"], apart := false, laid := [("unicode/utf8.acceptRanges", laid_unicode_utf8_acceptRanges), ("schisma/pitch.primes", laid_schisma_pitch_primes), ("schisma/size.logs", laid_schisma_size_logs), ("unicode/utf8.first", laid_unicode_utf8_first)], narrowed := true }
def DriftRepeatsUptoSaid : Prop := driftRepeatsUptoRow.holds Tryd.pinned (OpenSpec.upto driftRepeatsSpec)

/-- 'schismalaw25.DriftAccounts', WHERE WHAT IT READS IS OF BULK AT MOST 1048576: true; the input reads as it did. -/
def driftAccountsUptoRow : OpenClaim := { program := "ytelhmdhhabgihaadoor", sum := "25dc06eb3c9d885bf7b58ccd26eda0503bce65ed4829dc8b7b5c2cbbedc0a8aa", func := "schisma/schismalaw25.DriftAccounts", spec := "driftAccounts", inPlace := ["internal/bytealg.IndexByteString", "internal/bytealg.IndexString"], unfollowed := true, recurses := true, named := ["unicode/utf8.first", "unicode/utf8.acceptRanges", "schisma/pitch.primes", "schisma/size.logs", "internal/bytealg.MaxLen"], apart := false, laid := [("unicode/utf8.acceptRanges", laid_unicode_utf8_acceptRanges), ("schisma/pitch.primes", laid_schisma_pitch_primes), ("schisma/size.logs", laid_schisma_size_logs), ("unicode/utf8.first", laid_unicode_utf8_first)], narrowed := true }
def DriftAccountsUptoSaid : Prop := driftAccountsUptoRow.holds Tryd.pinned (OpenSpec.upto driftAccountsSpec)

end Rows
end Go.Proofs.YtelhmdhhabgihaaDoor
