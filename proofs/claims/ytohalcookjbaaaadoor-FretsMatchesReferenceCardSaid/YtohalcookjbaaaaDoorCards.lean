/-
  DERIVED. GIVEN WITH THE SEED: THE CARDS: each row of YtohalcookjbaaaaDoorRows.lean that lists a variable, with what it lists TIED to the program's text (the seventh form; the later family's looks); each row that meets fmt, with fmt's text TOLD by the authors' own Lean function (tested against real Go, not proved from fmt's source: count such statements apart). THE CARD IS WHAT COUNTS. Prove the row's statement (the work); the ties are given (YtohalcookjbaaaaDoorTie.lean); close each card by the builder's one call (the guide's Derived/Test/ToyasCard.lean, 'card_holds'). Laid BY PROGRAM, IN A SANDBOX (cutbox-door.mjs). By AI agents, Wed Nov 11 2026. No macro, syntax, notation, axiom, sorry.
-/
import Derived.Test.YtohalcookjbaaaaDoorRows
import GoSem.ClaimSeven
namespace Go.Proofs.YtohalcookjbaaaaDoor
namespace Rows

/-- THE TIED CARD OF 'schismalaw12.FretsMatchesReference'. -/
def fretsMatchesReferenceCard : Claim7 := { stood := { row := fretsMatchesReferenceRow, standIns := [], harness := (true, "5e002944be7b1ddb3e017d08fa1ca858b3d5c6784f0f341204e703dd43833afb"), looks := true }, kinds := [], alts := [], laidByText := true, laidKinds := [.data, .data], laidTests := true, laidLooks := .later }
def FretsMatchesReferenceCardSaid : Prop := Claim7.holds Tryd.pinned (.plain (OpenSpec.ofChange fretsMatchesReferenceSpec)) fretsMatchesReferenceCard

/-- THE TIED CARD OF 'schismalaw12.FretsFound'. -/
def fretsFoundCard : Claim7 := { stood := { row := fretsFoundRow, standIns := [], harness := (true, "5e002944be7b1ddb3e017d08fa1ca858b3d5c6784f0f341204e703dd43833afb"), looks := true }, kinds := [], alts := [], laidByText := true, laidKinds := [.data, .data], laidTests := true, laidLooks := .later }
def FretsFoundCardSaid : Prop := Claim7.holds Tryd.pinned (.plain (OpenSpec.ofChange fretsFoundSpec)) fretsFoundCard

/-- THE TIED CARD OF 'schismalaw12.FretsChords'. -/
def fretsChordsCard : Claim7 := { stood := { row := fretsChordsRow, standIns := [], harness := (true, "5e002944be7b1ddb3e017d08fa1ca858b3d5c6784f0f341204e703dd43833afb"), looks := true }, kinds := [], alts := [], laidByText := true, laidKinds := [.data, .data], laidTests := true, laidLooks := .later }
def FretsChordsCardSaid : Prop := Claim7.holds Tryd.pinned (.plain (OpenSpec.ofChange fretsChordsSpec)) fretsChordsCard

/-- THE TIED CARD OF 'schismalaw12.FretsFirst'. -/
def fretsFirstCard : Claim7 := { stood := { row := fretsFirstRow, standIns := [], harness := (true, "5e002944be7b1ddb3e017d08fa1ca858b3d5c6784f0f341204e703dd43833afb"), looks := true }, kinds := [], alts := [], laidByText := true, laidKinds := [.data, .data], laidTests := true, laidLooks := .later }
def FretsFirstCardSaid : Prop := Claim7.holds Tryd.pinned (.plain (OpenSpec.ofChange fretsFirstSpec)) fretsFirstCard

/-- THE TIED CARD OF 'schismalaw12.FretsTransposed'. -/
def fretsTransposedCard : Claim7 := { stood := { row := fretsTransposedRow, standIns := [], harness := (true, "5e002944be7b1ddb3e017d08fa1ca858b3d5c6784f0f341204e703dd43833afb"), looks := true }, kinds := [], alts := [], laidByText := true, laidKinds := [.data, .data], laidTests := true, laidLooks := .later }
def FretsTransposedCardSaid : Prop := Claim7.holds Tryd.pinned (.plain (OpenSpec.ofChange fretsTransposedSpec)) fretsTransposedCard

/-- THE TIED CARD OF 'schismalaw12.FretsTolerance'. -/
def fretsToleranceCard : Claim7 := { stood := { row := fretsToleranceRow, standIns := [], harness := (true, "5e002944be7b1ddb3e017d08fa1ca858b3d5c6784f0f341204e703dd43833afb"), looks := true }, kinds := [], alts := [], laidByText := true, laidKinds := [.data, .data], laidTests := true, laidLooks := .later }
def FretsToleranceCardSaid : Prop := Claim7.holds Tryd.pinned (.plain (OpenSpec.ofChange fretsToleranceSpec)) fretsToleranceCard

/-- THE TIED CARD OF 'schismalaw12.FretsMoved'. -/
def fretsMovedCard : Claim7 := { stood := { row := fretsMovedRow, standIns := [], harness := (true, "5e002944be7b1ddb3e017d08fa1ca858b3d5c6784f0f341204e703dd43833afb"), looks := true }, kinds := [], alts := [], laidByText := true, laidKinds := [.data, .data], laidTests := true, laidLooks := .later }
def FretsMovedCardSaid : Prop := Claim7.holds Tryd.pinned (.plain (OpenSpec.ofChange fretsMovedSpec)) fretsMovedCard

/-- THE TIED CARD OF 'schismalaw12.FretsFewer'. -/
def fretsFewerCard : Claim7 := { stood := { row := fretsFewerRow, standIns := [], harness := (true, "5e002944be7b1ddb3e017d08fa1ca858b3d5c6784f0f341204e703dd43833afb"), looks := true }, kinds := [], alts := [], laidByText := true, laidKinds := [.data, .data], laidTests := true, laidLooks := .later }
def FretsFewerCardSaid : Prop := Claim7.holds Tryd.pinned (.plain (OpenSpec.ofChange fretsFewerSpec)) fretsFewerCard

/-- THE SECOND FORM's CARD OF 'schismalaw12.FretsMatchesReference'. -/
def fretsMatchesReferenceUptoCard : Claim7 := { stood := { row := fretsMatchesReferenceUptoRow, standIns := [], harness := (true, "5e002944be7b1ddb3e017d08fa1ca858b3d5c6784f0f341204e703dd43833afb"), looks := true }, kinds := [], alts := [], laidByText := true, laidKinds := [.data, .data], laidTests := true, laidLooks := .later }
def FretsMatchesReferenceUptoCardSaid : Prop := Claim7.holds Tryd.pinned (.plain (OpenSpec.upto fretsMatchesReferenceSpec)) fretsMatchesReferenceUptoCard

/-- THE SECOND FORM's CARD OF 'schismalaw12.FretsFound'. -/
def fretsFoundUptoCard : Claim7 := { stood := { row := fretsFoundUptoRow, standIns := [], harness := (true, "5e002944be7b1ddb3e017d08fa1ca858b3d5c6784f0f341204e703dd43833afb"), looks := true }, kinds := [], alts := [], laidByText := true, laidKinds := [.data, .data], laidTests := true, laidLooks := .later }
def FretsFoundUptoCardSaid : Prop := Claim7.holds Tryd.pinned (.plain (OpenSpec.upto fretsFoundSpec)) fretsFoundUptoCard

/-- THE SECOND FORM's CARD OF 'schismalaw12.FretsChords'. -/
def fretsChordsUptoCard : Claim7 := { stood := { row := fretsChordsUptoRow, standIns := [], harness := (true, "5e002944be7b1ddb3e017d08fa1ca858b3d5c6784f0f341204e703dd43833afb"), looks := true }, kinds := [], alts := [], laidByText := true, laidKinds := [.data, .data], laidTests := true, laidLooks := .later }
def FretsChordsUptoCardSaid : Prop := Claim7.holds Tryd.pinned (.plain (OpenSpec.upto fretsChordsSpec)) fretsChordsUptoCard

/-- THE SECOND FORM's CARD OF 'schismalaw12.FretsFirst'. -/
def fretsFirstUptoCard : Claim7 := { stood := { row := fretsFirstUptoRow, standIns := [], harness := (true, "5e002944be7b1ddb3e017d08fa1ca858b3d5c6784f0f341204e703dd43833afb"), looks := true }, kinds := [], alts := [], laidByText := true, laidKinds := [.data, .data], laidTests := true, laidLooks := .later }
def FretsFirstUptoCardSaid : Prop := Claim7.holds Tryd.pinned (.plain (OpenSpec.upto fretsFirstSpec)) fretsFirstUptoCard

/-- THE SECOND FORM's CARD OF 'schismalaw12.FretsTransposed'. -/
def fretsTransposedUptoCard : Claim7 := { stood := { row := fretsTransposedUptoRow, standIns := [], harness := (true, "5e002944be7b1ddb3e017d08fa1ca858b3d5c6784f0f341204e703dd43833afb"), looks := true }, kinds := [], alts := [], laidByText := true, laidKinds := [.data, .data], laidTests := true, laidLooks := .later }
def FretsTransposedUptoCardSaid : Prop := Claim7.holds Tryd.pinned (.plain (OpenSpec.upto fretsTransposedSpec)) fretsTransposedUptoCard

/-- THE SECOND FORM's CARD OF 'schismalaw12.FretsTolerance'. -/
def fretsToleranceUptoCard : Claim7 := { stood := { row := fretsToleranceUptoRow, standIns := [], harness := (true, "5e002944be7b1ddb3e017d08fa1ca858b3d5c6784f0f341204e703dd43833afb"), looks := true }, kinds := [], alts := [], laidByText := true, laidKinds := [.data, .data], laidTests := true, laidLooks := .later }
def FretsToleranceUptoCardSaid : Prop := Claim7.holds Tryd.pinned (.plain (OpenSpec.upto fretsToleranceSpec)) fretsToleranceUptoCard

/-- THE SECOND FORM's CARD OF 'schismalaw12.FretsMoved'. -/
def fretsMovedUptoCard : Claim7 := { stood := { row := fretsMovedUptoRow, standIns := [], harness := (true, "5e002944be7b1ddb3e017d08fa1ca858b3d5c6784f0f341204e703dd43833afb"), looks := true }, kinds := [], alts := [], laidByText := true, laidKinds := [.data, .data], laidTests := true, laidLooks := .later }
def FretsMovedUptoCardSaid : Prop := Claim7.holds Tryd.pinned (.plain (OpenSpec.upto fretsMovedSpec)) fretsMovedUptoCard

/-- THE SECOND FORM's CARD OF 'schismalaw12.FretsFewer'. -/
def fretsFewerUptoCard : Claim7 := { stood := { row := fretsFewerUptoRow, standIns := [], harness := (true, "5e002944be7b1ddb3e017d08fa1ca858b3d5c6784f0f341204e703dd43833afb"), looks := true }, kinds := [], alts := [], laidByText := true, laidKinds := [.data, .data], laidTests := true, laidLooks := .later }
def FretsFewerUptoCardSaid : Prop := Claim7.holds Tryd.pinned (.plain (OpenSpec.upto fretsFewerSpec)) fretsFewerUptoCard
end Rows
end Go.Proofs.YtohalcookjbaaaaDoor
