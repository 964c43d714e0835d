/-
  DERIVED. GIVEN WITH THE SEED: THE CARDS: each row of YtmealmnjeoehiaaDoorRows.lean that lists a variable, with what it lists TIED to the program's text (the seventh form; the later family's looks); each row that meets fmt, with fmt's text TOLD by the authors' own Lean function (tested against real Go, not proved from fmt's source: count such statements apart). THE CARD IS WHAT COUNTS. Prove the row's statement (the work); the ties are given (YtmealmnjeoehiaaDoorTie.lean); close each card by the builder's one call (the guide's Derived/Test/ToyasCard.lean, 'card_holds'). Laid BY PROGRAM, IN A SANDBOX (cutbox-door.mjs). By AI agents, Wed Nov 11 2026. No macro, syntax, notation, axiom, sorry.
-/
import Derived.Test.YtmealmnjeoehiaaDoorRows
import GoSem.ClaimSeven
namespace Go.Proofs.YtmealmnjeoehiaaDoor
namespace Rows

/-- THE TIED CARD OF 'schismalaw04.SizeCommon'. -/
def sizeCommonCard : Claim7 := { stood := { row := sizeCommonRow, standIns := [], harness := (true, "0ae5cc119e693939e28d0c2835cc8cef629a0bc8776b8a25d71dc9104183a6ed"), looks := true }, kinds := [], alts := [], laidByText := true, laidKinds := [.data], laidTests := true, laidLooks := .later }
def SizeCommonCardSaid : Prop := Claim7.holds Tryd.pinned (.plain (OpenSpec.ofChange sizeCommonSpec)) sizeCommonCard

/-- THE TIED CARD OF 'schismalaw04.SizeSurely'. -/
def sizeSurelyCard : Claim7 := { stood := { row := sizeSurelyRow, standIns := [], harness := (true, "0ae5cc119e693939e28d0c2835cc8cef629a0bc8776b8a25d71dc9104183a6ed"), looks := true }, kinds := [], alts := [], laidByText := true, laidKinds := [.data], laidTests := true, laidLooks := .later }
def SizeSurelyCardSaid : Prop := Claim7.holds Tryd.pinned (.plain (OpenSpec.ofChange sizeSurelySpec)) sizeSurelyCard

/-- THE TIED CARD OF 'schismalaw04.SizeNear'. -/
def sizeNearCard : Claim7 := { stood := { row := sizeNearRow, standIns := [], harness := (true, "0ae5cc119e693939e28d0c2835cc8cef629a0bc8776b8a25d71dc9104183a6ed"), looks := true }, kinds := [], alts := [], laidByText := true, laidKinds := [.data], laidTests := true, laidLooks := .later }
def SizeNearCardSaid : Prop := Claim7.holds Tryd.pinned (.plain (OpenSpec.ofChange sizeNearSpec)) sizeNearCard

/-- THE TIED CARD OF 'schismalaw04.SizeWidth'. -/
def sizeWidthCard : Claim7 := { stood := { row := sizeWidthRow, standIns := [], harness := (true, "0ae5cc119e693939e28d0c2835cc8cef629a0bc8776b8a25d71dc9104183a6ed"), looks := true }, kinds := [], alts := [], laidByText := true, laidKinds := [.data], laidTests := true, laidLooks := .later }
def SizeWidthCardSaid : Prop := Claim7.holds Tryd.pinned (.plain (OpenSpec.ofChange sizeWidthSpec)) sizeWidthCard

/-- THE TIED CARD OF 'schismalaw04.SizeMultiples'. -/
def sizeMultiplesCard : Claim7 := { stood := { row := sizeMultiplesRow, standIns := [], harness := (true, "0ae5cc119e693939e28d0c2835cc8cef629a0bc8776b8a25d71dc9104183a6ed"), looks := true }, kinds := [], alts := [], laidByText := true, laidKinds := [.data], laidTests := true, laidLooks := .later }
def SizeMultiplesCardSaid : Prop := Claim7.holds Tryd.pinned (.plain (OpenSpec.ofChange sizeMultiplesSpec)) sizeMultiplesCard

/-- THE TIED CARD OF 'schismalaw04.SizeMatchesReference'. -/
def sizeMatchesReferenceCard : Claim7 := { stood := { row := sizeMatchesReferenceRow, standIns := [], harness := (true, "0ae5cc119e693939e28d0c2835cc8cef629a0bc8776b8a25d71dc9104183a6ed"), looks := true }, kinds := [], alts := [], laidByText := true, laidKinds := [.data], laidTests := true, laidLooks := .later }
def SizeMatchesReferenceCardSaid : Prop := Claim7.holds Tryd.pinned (.plain (OpenSpec.ofChange sizeMatchesReferenceSpec)) sizeMatchesReferenceCard

/-- THE TIED CARD OF 'schismalaw04.SizeProducts'. -/
def sizeProductsCard : Claim7 := { stood := { row := sizeProductsRow, standIns := [], harness := (true, "0ae5cc119e693939e28d0c2835cc8cef629a0bc8776b8a25d71dc9104183a6ed"), looks := true }, kinds := [], alts := [], laidByText := true, laidKinds := [.data], laidTests := true, laidLooks := .later }
def SizeProductsCardSaid : Prop := Claim7.holds Tryd.pinned (.plain (OpenSpec.ofChange sizeProductsSpec)) sizeProductsCard

/-- THE TIED CARD OF 'schismalaw04.SizeOrder'. -/
def sizeOrderCard : Claim7 := { stood := { row := sizeOrderRow, standIns := [], harness := (true, "0ae5cc119e693939e28d0c2835cc8cef629a0bc8776b8a25d71dc9104183a6ed"), looks := true }, kinds := [], alts := [], laidByText := true, laidKinds := [.data, .data], laidTests := true, laidLooks := .later }
def SizeOrderCardSaid : Prop := Claim7.holds Tryd.pinned (.plain (OpenSpec.ofChange sizeOrderSpec)) sizeOrderCard

/-- THE TIED CARD OF 'schismalaw04.SizeExactly'. -/
def sizeExactlyCard : Claim7 := { stood := { row := sizeExactlyRow, standIns := [], harness := (true, "0ae5cc119e693939e28d0c2835cc8cef629a0bc8776b8a25d71dc9104183a6ed"), looks := true }, kinds := [], alts := [], laidByText := true, laidKinds := [.data, .data], laidTests := true, laidLooks := .later }
def SizeExactlyCardSaid : Prop := Claim7.holds Tryd.pinned (.plain (OpenSpec.ofChange sizeExactlySpec)) sizeExactlyCard

/-- THE SECOND FORM's CARD OF 'schismalaw04.SizeCommon'. -/
def sizeCommonUptoCard : Claim7 := { stood := { row := sizeCommonUptoRow, standIns := [], harness := (true, "0ae5cc119e693939e28d0c2835cc8cef629a0bc8776b8a25d71dc9104183a6ed"), looks := true }, kinds := [], alts := [], laidByText := true, laidKinds := [.data], laidTests := true, laidLooks := .later }
def SizeCommonUptoCardSaid : Prop := Claim7.holds Tryd.pinned (.plain (OpenSpec.upto sizeCommonSpec)) sizeCommonUptoCard

/-- THE SECOND FORM's CARD OF 'schismalaw04.SizeSurely'. -/
def sizeSurelyUptoCard : Claim7 := { stood := { row := sizeSurelyUptoRow, standIns := [], harness := (true, "0ae5cc119e693939e28d0c2835cc8cef629a0bc8776b8a25d71dc9104183a6ed"), looks := true }, kinds := [], alts := [], laidByText := true, laidKinds := [.data], laidTests := true, laidLooks := .later }
def SizeSurelyUptoCardSaid : Prop := Claim7.holds Tryd.pinned (.plain (OpenSpec.upto sizeSurelySpec)) sizeSurelyUptoCard

/-- THE SECOND FORM's CARD OF 'schismalaw04.SizeNear'. -/
def sizeNearUptoCard : Claim7 := { stood := { row := sizeNearUptoRow, standIns := [], harness := (true, "0ae5cc119e693939e28d0c2835cc8cef629a0bc8776b8a25d71dc9104183a6ed"), looks := true }, kinds := [], alts := [], laidByText := true, laidKinds := [.data], laidTests := true, laidLooks := .later }
def SizeNearUptoCardSaid : Prop := Claim7.holds Tryd.pinned (.plain (OpenSpec.upto sizeNearSpec)) sizeNearUptoCard

/-- THE SECOND FORM's CARD OF 'schismalaw04.SizeWidth'. -/
def sizeWidthUptoCard : Claim7 := { stood := { row := sizeWidthUptoRow, standIns := [], harness := (true, "0ae5cc119e693939e28d0c2835cc8cef629a0bc8776b8a25d71dc9104183a6ed"), looks := true }, kinds := [], alts := [], laidByText := true, laidKinds := [.data], laidTests := true, laidLooks := .later }
def SizeWidthUptoCardSaid : Prop := Claim7.holds Tryd.pinned (.plain (OpenSpec.upto sizeWidthSpec)) sizeWidthUptoCard

/-- THE SECOND FORM's CARD OF 'schismalaw04.SizeMultiples'. -/
def sizeMultiplesUptoCard : Claim7 := { stood := { row := sizeMultiplesUptoRow, standIns := [], harness := (true, "0ae5cc119e693939e28d0c2835cc8cef629a0bc8776b8a25d71dc9104183a6ed"), looks := true }, kinds := [], alts := [], laidByText := true, laidKinds := [.data], laidTests := true, laidLooks := .later }
def SizeMultiplesUptoCardSaid : Prop := Claim7.holds Tryd.pinned (.plain (OpenSpec.upto sizeMultiplesSpec)) sizeMultiplesUptoCard

/-- THE SECOND FORM's CARD OF 'schismalaw04.SizeMatchesReference'. -/
def sizeMatchesReferenceUptoCard : Claim7 := { stood := { row := sizeMatchesReferenceUptoRow, standIns := [], harness := (true, "0ae5cc119e693939e28d0c2835cc8cef629a0bc8776b8a25d71dc9104183a6ed"), looks := true }, kinds := [], alts := [], laidByText := true, laidKinds := [.data], laidTests := true, laidLooks := .later }
def SizeMatchesReferenceUptoCardSaid : Prop := Claim7.holds Tryd.pinned (.plain (OpenSpec.upto sizeMatchesReferenceSpec)) sizeMatchesReferenceUptoCard

/-- THE SECOND FORM's CARD OF 'schismalaw04.SizeProducts'. -/
def sizeProductsUptoCard : Claim7 := { stood := { row := sizeProductsUptoRow, standIns := [], harness := (true, "0ae5cc119e693939e28d0c2835cc8cef629a0bc8776b8a25d71dc9104183a6ed"), looks := true }, kinds := [], alts := [], laidByText := true, laidKinds := [.data], laidTests := true, laidLooks := .later }
def SizeProductsUptoCardSaid : Prop := Claim7.holds Tryd.pinned (.plain (OpenSpec.upto sizeProductsSpec)) sizeProductsUptoCard

/-- THE SECOND FORM's CARD OF 'schismalaw04.SizeOrder'. -/
def sizeOrderUptoCard : Claim7 := { stood := { row := sizeOrderUptoRow, standIns := [], harness := (true, "0ae5cc119e693939e28d0c2835cc8cef629a0bc8776b8a25d71dc9104183a6ed"), looks := true }, kinds := [], alts := [], laidByText := true, laidKinds := [.data, .data], laidTests := true, laidLooks := .later }
def SizeOrderUptoCardSaid : Prop := Claim7.holds Tryd.pinned (.plain (OpenSpec.upto sizeOrderSpec)) sizeOrderUptoCard

/-- THE SECOND FORM's CARD OF 'schismalaw04.SizeExactly'. -/
def sizeExactlyUptoCard : Claim7 := { stood := { row := sizeExactlyUptoRow, standIns := [], harness := (true, "0ae5cc119e693939e28d0c2835cc8cef629a0bc8776b8a25d71dc9104183a6ed"), looks := true }, kinds := [], alts := [], laidByText := true, laidKinds := [.data, .data], laidTests := true, laidLooks := .later }
def SizeExactlyUptoCardSaid : Prop := Claim7.holds Tryd.pinned (.plain (OpenSpec.upto sizeExactlySpec)) sizeExactlyUptoCard
end Rows
end Go.Proofs.YtmealmnjeoehiaaDoor
