/-
  NARROWER THAN 'FOR EVERY INPUT', by the rows' own cells (each row's printed sentence says how): VoiceMatchesReference: laid · VoiceRange: laid · VoiceSteps: laid · VoiceBreaths: laid · VoiceLonger: laid · VoiceLine: laid · VoiceWay: laid.
  DERIVED. THE GIVEN ROWS OF THIS SEAT. 7 by the template 'for every input the law returns true; each argument reads behind the call as it read before'; 0 by the template 'total and deterministic' (their statements: YtiogfohjepobkaaDoorTotals.lean).
  GIVEN WITH THE SEED: the statements are not yours to turn. If you find one false, say at which input.
  Laid BY PROGRAM, IN A SANDBOX (cutbox-rows.mjs): the forced cells as the released guide's own fill.sh prints them over the translation f4040a9ffa456e83… (all of the seat's roots in one cut). By AI agents, Wed Nov 11 2026. No macro, syntax, notation, axiom, sorry.
-/
import Derived.Test.YtiogfohjepobkaaDoorChecked
import GoSem.Claim
import GoSem.ClaimJoined
import GoSem.ClaimMapViews
import Derived.JoinedTies
import Derived.KernelRfl
namespace Go.Proofs.YtiogfohjepobkaaDoor
/- THE CELL 'sum', in the pinned program and in every row, IS THE sha256 OF THE DUMP (.gsa) THAT YtiogfohjepobkaaDoorProg.lean LOADS. Nothing in Lean hashes anything: it is a label: what it is worth is what the hold of that sum in a sandbox is worth. -/
noncomputable def Tryd.pinned : Pinned := { name := "ytiogfohjepobkaadoor", sum := "f4040a9ffa456e83cb8969c281f6095bc6b615c3b8f2f56b4f25f7a46a100889", checked := Tryd.checked }
namespace Rows
def none {H : Type} : Left H := { results := [], args := [] }

/- WHAT THE LISTED PACKAGE-LEVEL VARIABLES READ AS WHEN THE CALL BEGINS. Each datum BY PROGRAM (the guide's laid-datum.mjs) off the statement by which the dump's own 'gosem.cut.vars' lays the variable. In a bare row this is a premise. The card (YtiogfohjepobkaaDoorCards.lean) ties it to the program's text. -/
def laid_schisma_pitch_primes {H : Type} : DataW H := .agg [.lit (.int .i64 2), .lit (.int .i64 3), .lit (.int .i64 5), .lit (.int .i64 7), .lit (.int .i64 11), .lit (.int .i64 13)]
def laid_schisma_size_logs {H : Type} : DataW H := .agg [.agg [.lit (.int .i64 1000000000), .lit (.int .i64 1000000000)], .agg [.lit (.int .i64 1584962500), .lit (.int .i64 1584962501)], .agg [.lit (.int .i64 2321928094), .lit (.int .i64 2321928095)], .agg [.lit (.int .i64 2807354922), .lit (.int .i64 2807354923)], .agg [.lit (.int .i64 3459431618), .lit (.int .i64 3459431619)], .agg [.lit (.int .i64 3700439718), .lit (.int .i64 3700439719)]]

/-- 'schismalaw14.VoiceMatchesReference': WHATEVER THE INPUT: true; the input reads as it did. -/
def voiceMatchesReferenceSpec : ChangeSpec := { name := "voiceMatchesReference", fn := fun _ => fun
  | [d1, d2, d3, d4, d5, d6, d7, d8, d9] => { results := [.lit (.bool true)], args := [d1, d2, d3, d4, d5, d6, d7, d8, d9] }
  | _ => none }
def voiceMatchesReferenceRow : OpenClaim := { program := "ytiogfohjepobkaadoor", sum := "f4040a9ffa456e83cb8969c281f6095bc6b615c3b8f2f56b4f25f7a46a100889", func := "schisma/schismalaw14.VoiceMatchesReference", spec := "voiceMatchesReference", unfollowed := true, recurses := true, named := ["schisma/pitch.primes", "schisma/size.logs"], apart := false, laid := [("schisma/pitch.primes", laid_schisma_pitch_primes), ("schisma/size.logs", laid_schisma_size_logs)] }
def VoiceMatchesReferenceSaid : Prop := voiceMatchesReferenceRow.holds Tryd.pinned (OpenSpec.ofChange voiceMatchesReferenceSpec)

/-- ITS FALSE NEIGHBOUR: 'it returns false'. Refute it at one input. -/
def voiceMatchesReferenceWrong : ChangeSpec := { name := "voiceMatchesReference", fn := fun _ => fun
  | [d1, d2, d3, d4, d5, d6, d7, d8, d9] => { results := [.lit (.bool false)], args := [d1, d2, d3, d4, d5, d6, d7, d8, d9] }
  | _ => none }
def VoiceMatchesReferenceWrongFalsely : Prop := voiceMatchesReferenceRow.holds Tryd.pinned (OpenSpec.ofChange voiceMatchesReferenceWrong)

/-- 'schismalaw14.VoiceRange': WHATEVER THE INPUT: true; the input reads as it did. -/
def voiceRangeSpec : ChangeSpec := { name := "voiceRange", fn := fun _ => fun
  | [d1, d2, d3, d4, d5] => { results := [.lit (.bool true)], args := [d1, d2, d3, d4, d5] }
  | _ => none }
def voiceRangeRow : OpenClaim := { program := "ytiogfohjepobkaadoor", sum := "f4040a9ffa456e83cb8969c281f6095bc6b615c3b8f2f56b4f25f7a46a100889", func := "schisma/schismalaw14.VoiceRange", spec := "voiceRange", unfollowed := true, recurses := true, named := ["schisma/pitch.primes", "schisma/size.logs"], apart := false, laid := [("schisma/pitch.primes", laid_schisma_pitch_primes), ("schisma/size.logs", laid_schisma_size_logs)] }
def VoiceRangeSaid : Prop := voiceRangeRow.holds Tryd.pinned (OpenSpec.ofChange voiceRangeSpec)

/-- ITS FALSE NEIGHBOUR: 'it returns false'. Refute it at one input. -/
def voiceRangeWrong : ChangeSpec := { name := "voiceRange", fn := fun _ => fun
  | [d1, d2, d3, d4, d5] => { results := [.lit (.bool false)], args := [d1, d2, d3, d4, d5] }
  | _ => none }
def VoiceRangeWrongFalsely : Prop := voiceRangeRow.holds Tryd.pinned (OpenSpec.ofChange voiceRangeWrong)

/-- 'schismalaw14.VoiceSteps': WHATEVER THE INPUT: true; the input reads as it did. -/
def voiceStepsSpec : ChangeSpec := { name := "voiceSteps", fn := fun _ => fun
  | [d1, d2, d3, d4, d5] => { results := [.lit (.bool true)], args := [d1, d2, d3, d4, d5] }
  | _ => none }
def voiceStepsRow : OpenClaim := { program := "ytiogfohjepobkaadoor", sum := "f4040a9ffa456e83cb8969c281f6095bc6b615c3b8f2f56b4f25f7a46a100889", func := "schisma/schismalaw14.VoiceSteps", spec := "voiceSteps", unfollowed := true, recurses := true, named := ["schisma/pitch.primes", "schisma/size.logs"], apart := false, laid := [("schisma/pitch.primes", laid_schisma_pitch_primes), ("schisma/size.logs", laid_schisma_size_logs)] }
def VoiceStepsSaid : Prop := voiceStepsRow.holds Tryd.pinned (OpenSpec.ofChange voiceStepsSpec)

/-- ITS FALSE NEIGHBOUR: 'it returns false'. Refute it at one input. -/
def voiceStepsWrong : ChangeSpec := { name := "voiceSteps", fn := fun _ => fun
  | [d1, d2, d3, d4, d5] => { results := [.lit (.bool false)], args := [d1, d2, d3, d4, d5] }
  | _ => none }
def VoiceStepsWrongFalsely : Prop := voiceStepsRow.holds Tryd.pinned (OpenSpec.ofChange voiceStepsWrong)

/-- 'schismalaw14.VoiceBreaths': WHATEVER THE INPUT: true; the input reads as it did. -/
def voiceBreathsSpec : ChangeSpec := { name := "voiceBreaths", fn := fun _ => fun
  | [d1, d2, d3, d4] => { results := [.lit (.bool true)], args := [d1, d2, d3, d4] }
  | _ => none }
def voiceBreathsRow : OpenClaim := { program := "ytiogfohjepobkaadoor", sum := "f4040a9ffa456e83cb8969c281f6095bc6b615c3b8f2f56b4f25f7a46a100889", func := "schisma/schismalaw14.VoiceBreaths", spec := "voiceBreaths", unfollowed := true, recurses := true, named := ["schisma/pitch.primes", "schisma/size.logs"], apart := false, laid := [("schisma/pitch.primes", laid_schisma_pitch_primes), ("schisma/size.logs", laid_schisma_size_logs)] }
def VoiceBreathsSaid : Prop := voiceBreathsRow.holds Tryd.pinned (OpenSpec.ofChange voiceBreathsSpec)

/-- ITS FALSE NEIGHBOUR: 'it returns false'. Refute it at one input. -/
def voiceBreathsWrong : ChangeSpec := { name := "voiceBreaths", fn := fun _ => fun
  | [d1, d2, d3, d4] => { results := [.lit (.bool false)], args := [d1, d2, d3, d4] }
  | _ => none }
def VoiceBreathsWrongFalsely : Prop := voiceBreathsRow.holds Tryd.pinned (OpenSpec.ofChange voiceBreathsWrong)

/-- 'schismalaw14.VoiceLonger': WHATEVER THE INPUT: true; the input reads as it did. -/
def voiceLongerSpec : ChangeSpec := { name := "voiceLonger", fn := fun _ => fun
  | [d1, d2, d3, d4, d5] => { results := [.lit (.bool true)], args := [d1, d2, d3, d4, d5] }
  | _ => none }
def voiceLongerRow : OpenClaim := { program := "ytiogfohjepobkaadoor", sum := "f4040a9ffa456e83cb8969c281f6095bc6b615c3b8f2f56b4f25f7a46a100889", func := "schisma/schismalaw14.VoiceLonger", spec := "voiceLonger", unfollowed := true, recurses := true, named := ["schisma/pitch.primes", "schisma/size.logs"], apart := false, laid := [("schisma/pitch.primes", laid_schisma_pitch_primes), ("schisma/size.logs", laid_schisma_size_logs)] }
def VoiceLongerSaid : Prop := voiceLongerRow.holds Tryd.pinned (OpenSpec.ofChange voiceLongerSpec)

/-- ITS FALSE NEIGHBOUR: 'it returns false'. Refute it at one input. -/
def voiceLongerWrong : ChangeSpec := { name := "voiceLonger", fn := fun _ => fun
  | [d1, d2, d3, d4, d5] => { results := [.lit (.bool false)], args := [d1, d2, d3, d4, d5] }
  | _ => none }
def VoiceLongerWrongFalsely : Prop := voiceLongerRow.holds Tryd.pinned (OpenSpec.ofChange voiceLongerWrong)

/-- 'schismalaw14.VoiceLine': WHATEVER THE INPUT: true; the input reads as it did. -/
def voiceLineSpec : ChangeSpec := { name := "voiceLine", fn := fun _ => fun
  | [d1, d2, d3, d4] => { results := [.lit (.bool true)], args := [d1, d2, d3, d4] }
  | _ => none }
def voiceLineRow : OpenClaim := { program := "ytiogfohjepobkaadoor", sum := "f4040a9ffa456e83cb8969c281f6095bc6b615c3b8f2f56b4f25f7a46a100889", func := "schisma/schismalaw14.VoiceLine", spec := "voiceLine", unfollowed := true, recurses := true, named := ["schisma/pitch.primes", "schisma/size.logs"], apart := false, laid := [("schisma/pitch.primes", laid_schisma_pitch_primes), ("schisma/size.logs", laid_schisma_size_logs)] }
def VoiceLineSaid : Prop := voiceLineRow.holds Tryd.pinned (OpenSpec.ofChange voiceLineSpec)

/-- ITS FALSE NEIGHBOUR: 'it returns false'. Refute it at one input. -/
def voiceLineWrong : ChangeSpec := { name := "voiceLine", fn := fun _ => fun
  | [d1, d2, d3, d4] => { results := [.lit (.bool false)], args := [d1, d2, d3, d4] }
  | _ => none }
def VoiceLineWrongFalsely : Prop := voiceLineRow.holds Tryd.pinned (OpenSpec.ofChange voiceLineWrong)

/-- 'schismalaw14.VoiceWay': WHATEVER THE INPUT: true; the input reads as it did. -/
def voiceWaySpec : ChangeSpec := { name := "voiceWay", fn := fun _ => fun
  | [d1, d2, d3, d4, d5] => { results := [.lit (.bool true)], args := [d1, d2, d3, d4, d5] }
  | _ => none }
def voiceWayRow : OpenClaim := { program := "ytiogfohjepobkaadoor", sum := "f4040a9ffa456e83cb8969c281f6095bc6b615c3b8f2f56b4f25f7a46a100889", func := "schisma/schismalaw14.VoiceWay", spec := "voiceWay", unfollowed := true, recurses := true, named := ["schisma/pitch.primes", "schisma/size.logs"], apart := false, laid := [("schisma/pitch.primes", laid_schisma_pitch_primes), ("schisma/size.logs", laid_schisma_size_logs)] }
def VoiceWaySaid : Prop := voiceWayRow.holds Tryd.pinned (OpenSpec.ofChange voiceWaySpec)

/-- ITS FALSE NEIGHBOUR: 'it returns false'. Refute it at one input. -/
def voiceWayWrong : ChangeSpec := { name := "voiceWay", fn := fun _ => fun
  | [d1, d2, d3, d4, d5] => { results := [.lit (.bool false)], args := [d1, d2, d3, d4, d5] }
  | _ => none }
def VoiceWayWrongFalsely : Prop := voiceWayRow.holds Tryd.pinned (OpenSpec.ofChange voiceWayWrong)

/- THE SECOND FORM. 'bulk': how many values and letters a reading holds, each counted each time it is reached (what is shared counts as often as it is met; a slice's spare places count too). A statement '..UptoSaid' is the law's where the arguments, and the package variables that the reading takes, are together of bulk at most 1048576: NARROWER than '..Said'. Prove '..Said' where nothing that the law and all that it calls make is longer than what came in: it says more and counts as full. Else prove '..UptoSaid'. A law counts once. -/
mutual
def uptoBulk {H : Type} : DataW H → Nat
  | .lit (.string bytes) => bytes.length + 1
  | .lit _ => 1
  | .nil => 1
  | .ptr d => uptoBulk d + 1
  | .slice elems spare => uptoBulkAll elems + uptoBulkAll spare + 1
  | .agg parts => uptoBulkAll parts + 1
  | .iface _ d => uptoBulk d + 1
  | .map entries => uptoBulkEntries entries + 1
  | .held _ => 1
def uptoBulkAll {H : Type} : List (DataW H) → Nat
  | [] => 0
  | d :: r => uptoBulk d + uptoBulkAll r
def uptoBulkEntries {H : Type} : List (Lit × DataW H) → Nat
  | [] => 0
  | x :: r => uptoBulkEntry x + uptoBulkEntries r
def uptoBulkEntry {H : Type} : Lit × DataW H → Nat
  | (.string bytes, d) => bytes.length + uptoBulk d + 1
  | (_, d) => uptoBulk d + 1
 end
def uptoSmall : (H : Type) → List (DataW H) → Bool := fun _ ds => decide (uptoBulkAll ds ≤ 1048576)
def OpenSpec.upto (s : _root_.Go.ChangeSpec) : _root_.Go.OpenSpec := { _root_.Go.OpenSpec.ofChange s with cond := some uptoSmall }

/-- 'schismalaw14.VoiceMatchesReference', WHERE WHAT IT READS IS OF BULK AT MOST 1048576: true; the input reads as it did. -/
def voiceMatchesReferenceUptoRow : OpenClaim := { program := "ytiogfohjepobkaadoor", sum := "f4040a9ffa456e83cb8969c281f6095bc6b615c3b8f2f56b4f25f7a46a100889", func := "schisma/schismalaw14.VoiceMatchesReference", spec := "voiceMatchesReference", unfollowed := true, recurses := true, named := ["schisma/pitch.primes", "schisma/size.logs"], apart := false, laid := [("schisma/pitch.primes", laid_schisma_pitch_primes), ("schisma/size.logs", laid_schisma_size_logs)], narrowed := true }
def VoiceMatchesReferenceUptoSaid : Prop := voiceMatchesReferenceUptoRow.holds Tryd.pinned (OpenSpec.upto voiceMatchesReferenceSpec)

/-- 'schismalaw14.VoiceRange', WHERE WHAT IT READS IS OF BULK AT MOST 1048576: true; the input reads as it did. -/
def voiceRangeUptoRow : OpenClaim := { program := "ytiogfohjepobkaadoor", sum := "f4040a9ffa456e83cb8969c281f6095bc6b615c3b8f2f56b4f25f7a46a100889", func := "schisma/schismalaw14.VoiceRange", spec := "voiceRange", unfollowed := true, recurses := true, named := ["schisma/pitch.primes", "schisma/size.logs"], apart := false, laid := [("schisma/pitch.primes", laid_schisma_pitch_primes), ("schisma/size.logs", laid_schisma_size_logs)], narrowed := true }
def VoiceRangeUptoSaid : Prop := voiceRangeUptoRow.holds Tryd.pinned (OpenSpec.upto voiceRangeSpec)

/-- 'schismalaw14.VoiceSteps', WHERE WHAT IT READS IS OF BULK AT MOST 1048576: true; the input reads as it did. -/
def voiceStepsUptoRow : OpenClaim := { program := "ytiogfohjepobkaadoor", sum := "f4040a9ffa456e83cb8969c281f6095bc6b615c3b8f2f56b4f25f7a46a100889", func := "schisma/schismalaw14.VoiceSteps", spec := "voiceSteps", unfollowed := true, recurses := true, named := ["schisma/pitch.primes", "schisma/size.logs"], apart := false, laid := [("schisma/pitch.primes", laid_schisma_pitch_primes), ("schisma/size.logs", laid_schisma_size_logs)], narrowed := true }
def VoiceStepsUptoSaid : Prop := voiceStepsUptoRow.holds Tryd.pinned (OpenSpec.upto voiceStepsSpec)

/-- 'schismalaw14.VoiceBreaths', WHERE WHAT IT READS IS OF BULK AT MOST 1048576: true; the input reads as it did. -/
def voiceBreathsUptoRow : OpenClaim := { program := "ytiogfohjepobkaadoor", sum := "f4040a9ffa456e83cb8969c281f6095bc6b615c3b8f2f56b4f25f7a46a100889", func := "schisma/schismalaw14.VoiceBreaths", spec := "voiceBreaths", unfollowed := true, recurses := true, named := ["schisma/pitch.primes", "schisma/size.logs"], apart := false, laid := [("schisma/pitch.primes", laid_schisma_pitch_primes), ("schisma/size.logs", laid_schisma_size_logs)], narrowed := true }
def VoiceBreathsUptoSaid : Prop := voiceBreathsUptoRow.holds Tryd.pinned (OpenSpec.upto voiceBreathsSpec)

/-- 'schismalaw14.VoiceLonger', WHERE WHAT IT READS IS OF BULK AT MOST 1048576: true; the input reads as it did. -/
def voiceLongerUptoRow : OpenClaim := { program := "ytiogfohjepobkaadoor", sum := "f4040a9ffa456e83cb8969c281f6095bc6b615c3b8f2f56b4f25f7a46a100889", func := "schisma/schismalaw14.VoiceLonger", spec := "voiceLonger", unfollowed := true, recurses := true, named := ["schisma/pitch.primes", "schisma/size.logs"], apart := false, laid := [("schisma/pitch.primes", laid_schisma_pitch_primes), ("schisma/size.logs", laid_schisma_size_logs)], narrowed := true }
def VoiceLongerUptoSaid : Prop := voiceLongerUptoRow.holds Tryd.pinned (OpenSpec.upto voiceLongerSpec)

/-- 'schismalaw14.VoiceLine', WHERE WHAT IT READS IS OF BULK AT MOST 1048576: true; the input reads as it did. -/
def voiceLineUptoRow : OpenClaim := { program := "ytiogfohjepobkaadoor", sum := "f4040a9ffa456e83cb8969c281f6095bc6b615c3b8f2f56b4f25f7a46a100889", func := "schisma/schismalaw14.VoiceLine", spec := "voiceLine", unfollowed := true, recurses := true, named := ["schisma/pitch.primes", "schisma/size.logs"], apart := false, laid := [("schisma/pitch.primes", laid_schisma_pitch_primes), ("schisma/size.logs", laid_schisma_size_logs)], narrowed := true }
def VoiceLineUptoSaid : Prop := voiceLineUptoRow.holds Tryd.pinned (OpenSpec.upto voiceLineSpec)

/-- 'schismalaw14.VoiceWay', WHERE WHAT IT READS IS OF BULK AT MOST 1048576: true; the input reads as it did. -/
def voiceWayUptoRow : OpenClaim := { program := "ytiogfohjepobkaadoor", sum := "f4040a9ffa456e83cb8969c281f6095bc6b615c3b8f2f56b4f25f7a46a100889", func := "schisma/schismalaw14.VoiceWay", spec := "voiceWay", unfollowed := true, recurses := true, named := ["schisma/pitch.primes", "schisma/size.logs"], apart := false, laid := [("schisma/pitch.primes", laid_schisma_pitch_primes), ("schisma/size.logs", laid_schisma_size_logs)], narrowed := true }
def VoiceWayUptoSaid : Prop := voiceWayUptoRow.holds Tryd.pinned (OpenSpec.upto voiceWaySpec)

end Rows
end Go.Proofs.YtiogfohjepobkaaDoor
