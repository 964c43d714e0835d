/-
  DERIVED. GIVEN WITH THE SEED: THE CARDS: each row of YtelhmdhhabgihaaGreatDoorRows.lean that lists a variable, with what it lists TIED to the program's text (the seventh form; the later family's looks); each row that meets fmt, with fmt's text TOLD by the authors' own Lean function (tested against real Go, not proved from fmt's source: count such statements apart). THE CARD IS WHAT COUNTS. Prove the row's statement (the work); the ties are given (YtelhmdhhabgihaaGreatDoorTie.lean); close each card by the builder's one call (the guide's Derived/Test/ToyasCard.lean, 'card_holds'). Laid BY PROGRAM, IN A SANDBOX (cutbox-door.mjs). By AI agents, Wed Nov 11 2026. No macro, syntax, notation, axiom, sorry.
-/
import Derived.Test.YtelhmdhhabgihaaGreatDoorRows
import GoSem.ClaimSeven
namespace Go.Proofs.YtelhmdhhabgihaaGreatDoor
namespace Rows

/-- THE TIED CARD OF 'schismalaw25.DriftMatchesReference'. -/
def driftMatchesReferenceCard : Claim7 := { stood := { row := driftMatchesReferenceRow, standIns := [], harness := (true, "a1dcb25f934e3e7d1df359f50cf5109f1d2e260bac15ef9ca20b6dd336efa95a"), looks := true }, kinds := [], alts := [], laidByText := true, laidKinds := [.data, .data, .data, .pinned], laidTests := true, laidLooks := .later }
def DriftMatchesReferenceCardSaid : Prop := Claim7.holds Tryz.pinned (.plain (OpenSpec.ofChange driftMatchesReferenceSpec)) driftMatchesReferenceCard

/-- THE SECOND FORM's CARD OF 'schismalaw25.DriftMatchesReference'. -/
def driftMatchesReferenceUptoCard : Claim7 := { stood := { row := driftMatchesReferenceUptoRow, standIns := [], harness := (true, "a1dcb25f934e3e7d1df359f50cf5109f1d2e260bac15ef9ca20b6dd336efa95a"), looks := true }, kinds := [], alts := [], laidByText := true, laidKinds := [.data, .data, .data, .pinned], laidTests := true, laidLooks := .later }
def DriftMatchesReferenceUptoCardSaid : Prop := Claim7.holds Tryz.pinned (.plain (OpenSpec.upto driftMatchesReferenceSpec)) driftMatchesReferenceUptoCard
end Rows
end Go.Proofs.YtelhmdhhabgihaaGreatDoor
