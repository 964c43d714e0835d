/-
  DERIVED. GIVEN WITH THE SEED: THE CARDS: each row of YtbaopniofhbjdaaDoorRows.lean that lists a variable, with what it lists TIED to the program's text (the seventh form; the later family's looks); each row that meets fmt, with fmt's text TOLD by the authors' own Lean function (tested against real Go, not proved from fmt's source: count such statements apart). THE CARD IS WHAT COUNTS. Prove the row's statement (the work); the ties are given (YtbaopniofhbjdaaDoorTie.lean); close each card by the builder's one call (the guide's Derived/Test/ToyasCard.lean, 'card_holds'). Laid BY PROGRAM, IN A SANDBOX (cutbox-door.mjs). By AI agents, Wed Nov 11 2026. No macro, syntax, notation, axiom, sorry.
-/
import Derived.Test.YtbaopniofhbjdaaDoorRows
import GoSem.ClaimSeven
namespace Go.Proofs.YtbaopniofhbjdaaDoor
namespace Rows

/-- THE TIED CARD OF 'schismalaw13.BrassMatchesReference'. -/
def brassMatchesReferenceCard : Claim7 := { stood := { row := brassMatchesReferenceRow, standIns := [], harness := (true, "40604af85d681032588c35b5b9c71f86e3f628c8c8b38b1546da2cfd89e2d991"), looks := true }, kinds := [], alts := [], laidByText := true, laidKinds := [.data, .data, .data], laidTests := true, laidLooks := .later }
def BrassMatchesReferenceCardSaid : Prop := Claim7.holds Tryd.pinned (.plain (OpenSpec.ofChange brassMatchesReferenceSpec)) brassMatchesReferenceCard

/-- THE TIED CARD OF 'schismalaw13.BrassFound'. -/
def brassFoundCard : Claim7 := { stood := { row := brassFoundRow, standIns := [], harness := (true, "40604af85d681032588c35b5b9c71f86e3f628c8c8b38b1546da2cfd89e2d991"), looks := true }, kinds := [], alts := [], laidByText := true, laidKinds := [.data, .data, .data], laidTests := true, laidLooks := .later }
def BrassFoundCardSaid : Prop := Claim7.holds Tryd.pinned (.plain (OpenSpec.ofChange brassFoundSpec)) brassFoundCard

/-- THE TIED CARD OF 'schismalaw13.BrassBest'. -/
def brassBestCard : Claim7 := { stood := { row := brassBestRow, standIns := [], harness := (true, "40604af85d681032588c35b5b9c71f86e3f628c8c8b38b1546da2cfd89e2d991"), looks := true }, kinds := [], alts := [], laidByText := true, laidKinds := [.data, .data, .data], laidTests := true, laidLooks := .later }
def BrassBestCardSaid : Prop := Claim7.holds Tryd.pinned (.plain (OpenSpec.ofChange brassBestSpec)) brassBestCard

/-- THE TIED CARD OF 'schismalaw13.BrassBetter'. -/
def brassBetterCard : Claim7 := { stood := { row := brassBetterRow, standIns := [], harness := (true, "40604af85d681032588c35b5b9c71f86e3f628c8c8b38b1546da2cfd89e2d991"), looks := true }, kinds := [], alts := [], laidByText := true, laidKinds := [.data, .data, .data], laidTests := true, laidLooks := .later }
def BrassBetterCardSaid : Prop := Claim7.holds Tryd.pinned (.plain (OpenSpec.ofChange brassBetterSpec)) brassBetterCard

/-- THE TIED CARD OF 'schismalaw13.BrassTransposed'. -/
def brassTransposedCard : Claim7 := { stood := { row := brassTransposedRow, standIns := [], harness := (true, "40604af85d681032588c35b5b9c71f86e3f628c8c8b38b1546da2cfd89e2d991"), looks := true }, kinds := [], alts := [], laidByText := true, laidKinds := [.data, .data, .data], laidTests := true, laidLooks := .later }
def BrassTransposedCardSaid : Prop := Claim7.holds Tryd.pinned (.plain (OpenSpec.ofChange brassTransposedSpec)) brassTransposedCard

/-- THE TIED CARD OF 'schismalaw13.BrassExchanged'. -/
def brassExchangedCard : Claim7 := { stood := { row := brassExchangedRow, standIns := [], harness := (true, "40604af85d681032588c35b5b9c71f86e3f628c8c8b38b1546da2cfd89e2d991"), looks := true }, kinds := [], alts := [], laidByText := true, laidKinds := [.data, .data, .data], laidTests := true, laidLooks := .later }
def BrassExchangedCardSaid : Prop := Claim7.holds Tryd.pinned (.plain (OpenSpec.ofChange brassExchangedSpec)) brassExchangedCard

/-- THE TIED CARD OF 'schismalaw13.BrassValves'. -/
def brassValvesCard : Claim7 := { stood := { row := brassValvesRow, standIns := [], harness := (true, "40604af85d681032588c35b5b9c71f86e3f628c8c8b38b1546da2cfd89e2d991"), looks := true }, kinds := [], alts := [], laidByText := true, laidKinds := [.data, .data, .data], laidTests := true, laidLooks := .later }
def BrassValvesCardSaid : Prop := Claim7.holds Tryd.pinned (.plain (OpenSpec.ofChange brassValvesSpec)) brassValvesCard

/-- THE TIED CARD OF 'schismalaw13.BrassHarmonics'. -/
def brassHarmonicsCard : Claim7 := { stood := { row := brassHarmonicsRow, standIns := [], harness := (true, "40604af85d681032588c35b5b9c71f86e3f628c8c8b38b1546da2cfd89e2d991"), looks := true }, kinds := [], alts := [], laidByText := true, laidKinds := [.data, .data, .data], laidTests := true, laidLooks := .later }
def BrassHarmonicsCardSaid : Prop := Claim7.holds Tryd.pinned (.plain (OpenSpec.ofChange brassHarmonicsSpec)) brassHarmonicsCard

/-- THE TIED CARD OF 'schismalaw04.SizeMatchesReference'. -/
def sizeMatchesReferenceCard : Claim7 := { stood := { row := sizeMatchesReferenceRow, standIns := [], harness := (true, "40604af85d681032588c35b5b9c71f86e3f628c8c8b38b1546da2cfd89e2d991"), looks := true }, kinds := [], alts := [], laidByText := true, laidKinds := [.data], laidTests := true, laidLooks := .later }
def SizeMatchesReferenceCardSaid : Prop := Claim7.holds Tryd.pinned (.plain (OpenSpec.ofChange sizeMatchesReferenceSpec)) sizeMatchesReferenceCard

/-- THE SECOND FORM's CARD OF 'schismalaw13.BrassMatchesReference'. -/
def brassMatchesReferenceUptoCard : Claim7 := { stood := { row := brassMatchesReferenceUptoRow, standIns := [], harness := (true, "40604af85d681032588c35b5b9c71f86e3f628c8c8b38b1546da2cfd89e2d991"), looks := true }, kinds := [], alts := [], laidByText := true, laidKinds := [.data, .data, .data], laidTests := true, laidLooks := .later }
def BrassMatchesReferenceUptoCardSaid : Prop := Claim7.holds Tryd.pinned (.plain (OpenSpec.upto brassMatchesReferenceSpec)) brassMatchesReferenceUptoCard

/-- THE SECOND FORM's CARD OF 'schismalaw13.BrassFound'. -/
def brassFoundUptoCard : Claim7 := { stood := { row := brassFoundUptoRow, standIns := [], harness := (true, "40604af85d681032588c35b5b9c71f86e3f628c8c8b38b1546da2cfd89e2d991"), looks := true }, kinds := [], alts := [], laidByText := true, laidKinds := [.data, .data, .data], laidTests := true, laidLooks := .later }
def BrassFoundUptoCardSaid : Prop := Claim7.holds Tryd.pinned (.plain (OpenSpec.upto brassFoundSpec)) brassFoundUptoCard

/-- THE SECOND FORM's CARD OF 'schismalaw13.BrassBest'. -/
def brassBestUptoCard : Claim7 := { stood := { row := brassBestUptoRow, standIns := [], harness := (true, "40604af85d681032588c35b5b9c71f86e3f628c8c8b38b1546da2cfd89e2d991"), looks := true }, kinds := [], alts := [], laidByText := true, laidKinds := [.data, .data, .data], laidTests := true, laidLooks := .later }
def BrassBestUptoCardSaid : Prop := Claim7.holds Tryd.pinned (.plain (OpenSpec.upto brassBestSpec)) brassBestUptoCard

/-- THE SECOND FORM's CARD OF 'schismalaw13.BrassBetter'. -/
def brassBetterUptoCard : Claim7 := { stood := { row := brassBetterUptoRow, standIns := [], harness := (true, "40604af85d681032588c35b5b9c71f86e3f628c8c8b38b1546da2cfd89e2d991"), looks := true }, kinds := [], alts := [], laidByText := true, laidKinds := [.data, .data, .data], laidTests := true, laidLooks := .later }
def BrassBetterUptoCardSaid : Prop := Claim7.holds Tryd.pinned (.plain (OpenSpec.upto brassBetterSpec)) brassBetterUptoCard

/-- THE SECOND FORM's CARD OF 'schismalaw13.BrassTransposed'. -/
def brassTransposedUptoCard : Claim7 := { stood := { row := brassTransposedUptoRow, standIns := [], harness := (true, "40604af85d681032588c35b5b9c71f86e3f628c8c8b38b1546da2cfd89e2d991"), looks := true }, kinds := [], alts := [], laidByText := true, laidKinds := [.data, .data, .data], laidTests := true, laidLooks := .later }
def BrassTransposedUptoCardSaid : Prop := Claim7.holds Tryd.pinned (.plain (OpenSpec.upto brassTransposedSpec)) brassTransposedUptoCard

/-- THE SECOND FORM's CARD OF 'schismalaw13.BrassExchanged'. -/
def brassExchangedUptoCard : Claim7 := { stood := { row := brassExchangedUptoRow, standIns := [], harness := (true, "40604af85d681032588c35b5b9c71f86e3f628c8c8b38b1546da2cfd89e2d991"), looks := true }, kinds := [], alts := [], laidByText := true, laidKinds := [.data, .data, .data], laidTests := true, laidLooks := .later }
def BrassExchangedUptoCardSaid : Prop := Claim7.holds Tryd.pinned (.plain (OpenSpec.upto brassExchangedSpec)) brassExchangedUptoCard

/-- THE SECOND FORM's CARD OF 'schismalaw13.BrassValves'. -/
def brassValvesUptoCard : Claim7 := { stood := { row := brassValvesUptoRow, standIns := [], harness := (true, "40604af85d681032588c35b5b9c71f86e3f628c8c8b38b1546da2cfd89e2d991"), looks := true }, kinds := [], alts := [], laidByText := true, laidKinds := [.data, .data, .data], laidTests := true, laidLooks := .later }
def BrassValvesUptoCardSaid : Prop := Claim7.holds Tryd.pinned (.plain (OpenSpec.upto brassValvesSpec)) brassValvesUptoCard

/-- THE SECOND FORM's CARD OF 'schismalaw13.BrassHarmonics'. -/
def brassHarmonicsUptoCard : Claim7 := { stood := { row := brassHarmonicsUptoRow, standIns := [], harness := (true, "40604af85d681032588c35b5b9c71f86e3f628c8c8b38b1546da2cfd89e2d991"), looks := true }, kinds := [], alts := [], laidByText := true, laidKinds := [.data, .data, .data], laidTests := true, laidLooks := .later }
def BrassHarmonicsUptoCardSaid : Prop := Claim7.holds Tryd.pinned (.plain (OpenSpec.upto brassHarmonicsSpec)) brassHarmonicsUptoCard

/-- THE SECOND FORM's CARD OF 'schismalaw04.SizeMatchesReference'. -/
def sizeMatchesReferenceUptoCard : Claim7 := { stood := { row := sizeMatchesReferenceUptoRow, standIns := [], harness := (true, "40604af85d681032588c35b5b9c71f86e3f628c8c8b38b1546da2cfd89e2d991"), looks := true }, kinds := [], alts := [], laidByText := true, laidKinds := [.data], laidTests := true, laidLooks := .later }
def SizeMatchesReferenceUptoCardSaid : Prop := Claim7.holds Tryd.pinned (.plain (OpenSpec.upto sizeMatchesReferenceSpec)) sizeMatchesReferenceUptoCard
end Rows
end Go.Proofs.YtbaopniofhbjdaaDoor
