/-
  DERIVED. GIVEN WITH THE SEED: THE CARDS: each row of YtiogfohjepobkaaDoorRows.lean that lists a variable, with what it lists TIED to the program's text (the seventh form; the later family's looks); each row that meets fmt, with fmt's text TOLD by the authors' own Lean function (tested against real Go, not proved from fmt's source: count such statements apart). THE CARD IS WHAT COUNTS. Prove the row's statement (the work); the ties are given (YtiogfohjepobkaaDoorTie.lean); close each card by the builder's one call (the guide's Derived/Test/ToyasCard.lean, 'card_holds'). Laid BY PROGRAM, IN A SANDBOX (cutbox-door.mjs). By AI agents, Wed Nov 11 2026. No macro, syntax, notation, axiom, sorry.
-/
import Derived.Test.YtiogfohjepobkaaDoorRows
import GoSem.ClaimSeven
namespace Go.Proofs.YtiogfohjepobkaaDoor
namespace Rows

/-- THE TIED CARD OF 'schismalaw14.VoiceMatchesReference'. -/
def voiceMatchesReferenceCard : Claim7 := { stood := { row := voiceMatchesReferenceRow, standIns := [], harness := (true, "28db040215f8e620e662acb12c5a904c1eb66ea05339413c5ef176d397bd1fc3"), looks := true }, kinds := [], alts := [], laidByText := true, laidKinds := [.data, .data], laidTests := true, laidLooks := .later }
def VoiceMatchesReferenceCardSaid : Prop := Claim7.holds Tryd.pinned (.plain (OpenSpec.ofChange voiceMatchesReferenceSpec)) voiceMatchesReferenceCard

/-- THE TIED CARD OF 'schismalaw14.VoiceRange'. -/
def voiceRangeCard : Claim7 := { stood := { row := voiceRangeRow, standIns := [], harness := (true, "28db040215f8e620e662acb12c5a904c1eb66ea05339413c5ef176d397bd1fc3"), looks := true }, kinds := [], alts := [], laidByText := true, laidKinds := [.data, .data], laidTests := true, laidLooks := .later }
def VoiceRangeCardSaid : Prop := Claim7.holds Tryd.pinned (.plain (OpenSpec.ofChange voiceRangeSpec)) voiceRangeCard

/-- THE TIED CARD OF 'schismalaw14.VoiceSteps'. -/
def voiceStepsCard : Claim7 := { stood := { row := voiceStepsRow, standIns := [], harness := (true, "28db040215f8e620e662acb12c5a904c1eb66ea05339413c5ef176d397bd1fc3"), looks := true }, kinds := [], alts := [], laidByText := true, laidKinds := [.data, .data], laidTests := true, laidLooks := .later }
def VoiceStepsCardSaid : Prop := Claim7.holds Tryd.pinned (.plain (OpenSpec.ofChange voiceStepsSpec)) voiceStepsCard

/-- THE TIED CARD OF 'schismalaw14.VoiceBreaths'. -/
def voiceBreathsCard : Claim7 := { stood := { row := voiceBreathsRow, standIns := [], harness := (true, "28db040215f8e620e662acb12c5a904c1eb66ea05339413c5ef176d397bd1fc3"), looks := true }, kinds := [], alts := [], laidByText := true, laidKinds := [.data, .data], laidTests := true, laidLooks := .later }
def VoiceBreathsCardSaid : Prop := Claim7.holds Tryd.pinned (.plain (OpenSpec.ofChange voiceBreathsSpec)) voiceBreathsCard

/-- THE TIED CARD OF 'schismalaw14.VoiceLonger'. -/
def voiceLongerCard : Claim7 := { stood := { row := voiceLongerRow, standIns := [], harness := (true, "28db040215f8e620e662acb12c5a904c1eb66ea05339413c5ef176d397bd1fc3"), looks := true }, kinds := [], alts := [], laidByText := true, laidKinds := [.data, .data], laidTests := true, laidLooks := .later }
def VoiceLongerCardSaid : Prop := Claim7.holds Tryd.pinned (.plain (OpenSpec.ofChange voiceLongerSpec)) voiceLongerCard

/-- THE TIED CARD OF 'schismalaw14.VoiceLine'. -/
def voiceLineCard : Claim7 := { stood := { row := voiceLineRow, standIns := [], harness := (true, "28db040215f8e620e662acb12c5a904c1eb66ea05339413c5ef176d397bd1fc3"), looks := true }, kinds := [], alts := [], laidByText := true, laidKinds := [.data, .data], laidTests := true, laidLooks := .later }
def VoiceLineCardSaid : Prop := Claim7.holds Tryd.pinned (.plain (OpenSpec.ofChange voiceLineSpec)) voiceLineCard

/-- THE TIED CARD OF 'schismalaw14.VoiceWay'. -/
def voiceWayCard : Claim7 := { stood := { row := voiceWayRow, standIns := [], harness := (true, "28db040215f8e620e662acb12c5a904c1eb66ea05339413c5ef176d397bd1fc3"), looks := true }, kinds := [], alts := [], laidByText := true, laidKinds := [.data, .data], laidTests := true, laidLooks := .later }
def VoiceWayCardSaid : Prop := Claim7.holds Tryd.pinned (.plain (OpenSpec.ofChange voiceWaySpec)) voiceWayCard

/-- THE SECOND FORM's CARD OF 'schismalaw14.VoiceMatchesReference'. -/
def voiceMatchesReferenceUptoCard : Claim7 := { stood := { row := voiceMatchesReferenceUptoRow, standIns := [], harness := (true, "28db040215f8e620e662acb12c5a904c1eb66ea05339413c5ef176d397bd1fc3"), looks := true }, kinds := [], alts := [], laidByText := true, laidKinds := [.data, .data], laidTests := true, laidLooks := .later }
def VoiceMatchesReferenceUptoCardSaid : Prop := Claim7.holds Tryd.pinned (.plain (OpenSpec.upto voiceMatchesReferenceSpec)) voiceMatchesReferenceUptoCard

/-- THE SECOND FORM's CARD OF 'schismalaw14.VoiceRange'. -/
def voiceRangeUptoCard : Claim7 := { stood := { row := voiceRangeUptoRow, standIns := [], harness := (true, "28db040215f8e620e662acb12c5a904c1eb66ea05339413c5ef176d397bd1fc3"), looks := true }, kinds := [], alts := [], laidByText := true, laidKinds := [.data, .data], laidTests := true, laidLooks := .later }
def VoiceRangeUptoCardSaid : Prop := Claim7.holds Tryd.pinned (.plain (OpenSpec.upto voiceRangeSpec)) voiceRangeUptoCard

/-- THE SECOND FORM's CARD OF 'schismalaw14.VoiceSteps'. -/
def voiceStepsUptoCard : Claim7 := { stood := { row := voiceStepsUptoRow, standIns := [], harness := (true, "28db040215f8e620e662acb12c5a904c1eb66ea05339413c5ef176d397bd1fc3"), looks := true }, kinds := [], alts := [], laidByText := true, laidKinds := [.data, .data], laidTests := true, laidLooks := .later }
def VoiceStepsUptoCardSaid : Prop := Claim7.holds Tryd.pinned (.plain (OpenSpec.upto voiceStepsSpec)) voiceStepsUptoCard

/-- THE SECOND FORM's CARD OF 'schismalaw14.VoiceBreaths'. -/
def voiceBreathsUptoCard : Claim7 := { stood := { row := voiceBreathsUptoRow, standIns := [], harness := (true, "28db040215f8e620e662acb12c5a904c1eb66ea05339413c5ef176d397bd1fc3"), looks := true }, kinds := [], alts := [], laidByText := true, laidKinds := [.data, .data], laidTests := true, laidLooks := .later }
def VoiceBreathsUptoCardSaid : Prop := Claim7.holds Tryd.pinned (.plain (OpenSpec.upto voiceBreathsSpec)) voiceBreathsUptoCard

/-- THE SECOND FORM's CARD OF 'schismalaw14.VoiceLonger'. -/
def voiceLongerUptoCard : Claim7 := { stood := { row := voiceLongerUptoRow, standIns := [], harness := (true, "28db040215f8e620e662acb12c5a904c1eb66ea05339413c5ef176d397bd1fc3"), looks := true }, kinds := [], alts := [], laidByText := true, laidKinds := [.data, .data], laidTests := true, laidLooks := .later }
def VoiceLongerUptoCardSaid : Prop := Claim7.holds Tryd.pinned (.plain (OpenSpec.upto voiceLongerSpec)) voiceLongerUptoCard

/-- THE SECOND FORM's CARD OF 'schismalaw14.VoiceLine'. -/
def voiceLineUptoCard : Claim7 := { stood := { row := voiceLineUptoRow, standIns := [], harness := (true, "28db040215f8e620e662acb12c5a904c1eb66ea05339413c5ef176d397bd1fc3"), looks := true }, kinds := [], alts := [], laidByText := true, laidKinds := [.data, .data], laidTests := true, laidLooks := .later }
def VoiceLineUptoCardSaid : Prop := Claim7.holds Tryd.pinned (.plain (OpenSpec.upto voiceLineSpec)) voiceLineUptoCard

/-- THE SECOND FORM's CARD OF 'schismalaw14.VoiceWay'. -/
def voiceWayUptoCard : Claim7 := { stood := { row := voiceWayUptoRow, standIns := [], harness := (true, "28db040215f8e620e662acb12c5a904c1eb66ea05339413c5ef176d397bd1fc3"), looks := true }, kinds := [], alts := [], laidByText := true, laidKinds := [.data, .data], laidTests := true, laidLooks := .later }
def VoiceWayUptoCardSaid : Prop := Claim7.holds Tryd.pinned (.plain (OpenSpec.upto voiceWaySpec)) voiceWayUptoCard
end Rows
end Go.Proofs.YtiogfohjepobkaaDoor
