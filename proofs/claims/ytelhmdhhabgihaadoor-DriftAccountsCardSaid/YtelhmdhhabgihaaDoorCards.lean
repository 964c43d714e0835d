/-
  DERIVED. GIVEN WITH THE SEED: THE CARDS: each row of YtelhmdhhabgihaaDoorRows.lean that lists a variable, with what it lists TIED to the program's text (the seventh form; the later family's looks); each row that meets fmt, with fmt's text TOLD by the authors' own Lean function (tested against real Go, not proved from fmt's source: count such statements apart). THE CARD IS WHAT COUNTS. Prove the row's statement (the work); the ties are given (YtelhmdhhabgihaaDoorTie.lean); close each card by the builder's one call (the guide's Derived/Test/ToyasCard.lean, 'card_holds'). Laid BY PROGRAM, IN A SANDBOX (cutbox-door.mjs). By AI agents, Wed Nov 11 2026. No macro, syntax, notation, axiom, sorry.
-/
import Derived.Test.YtelhmdhhabgihaaDoorRows
import GoSem.ClaimSeven
namespace Go.Proofs.YtelhmdhhabgihaaDoor
namespace Rows

/-- THE TIED CARD OF 'schismalaw25.DriftFarthest'. -/
def driftFarthestCard : Claim7 := { stood := { row := driftFarthestRow, standIns := [], harness := (true, "7d085034acdfc253bfe1406ed0df803c2cd674f953407e4c1cc34ad4a5c98e70"), looks := true }, kinds := [], alts := [], laidByText := true, laidKinds := [.data, .data, .data, .pinned], laidTests := true, laidLooks := .later }
def DriftFarthestCardSaid : Prop := Claim7.holds Tryd.pinned (.plain (OpenSpec.ofChange driftFarthestSpec)) driftFarthestCard

/-- THE TIED CARD OF 'schismalaw25.DriftHome'. -/
def driftHomeCard : Claim7 := { stood := { row := driftHomeRow, standIns := [], harness := (true, "7d085034acdfc253bfe1406ed0df803c2cd674f953407e4c1cc34ad4a5c98e70"), looks := true }, kinds := [], alts := [], laidByText := true, laidKinds := [.data, .data, .data, .pinned], laidTests := true, laidLooks := .later }
def DriftHomeCardSaid : Prop := Claim7.holds Tryd.pinned (.plain (OpenSpec.ofChange driftHomeSpec)) driftHomeCard

/-- THE TIED CARD OF 'schismalaw25.DriftJoined'. -/
def driftJoinedCard : Claim7 := { stood := { row := driftJoinedRow, standIns := [], harness := (true, "7d085034acdfc253bfe1406ed0df803c2cd674f953407e4c1cc34ad4a5c98e70"), looks := true }, kinds := [], alts := [], laidByText := true, laidKinds := [.data, .data, .data, .pinned], laidTests := true, laidLooks := .later }
def DriftJoinedCardSaid : Prop := Claim7.holds Tryd.pinned (.plain (OpenSpec.ofChange driftJoinedSpec)) driftJoinedCard

/-- THE TIED CARD OF 'schismalaw25.DriftRepeated'. -/
def driftRepeatedCard : Claim7 := { stood := { row := driftRepeatedRow, standIns := [], harness := (true, "7d085034acdfc253bfe1406ed0df803c2cd674f953407e4c1cc34ad4a5c98e70"), looks := true }, kinds := [], alts := [], laidByText := true, laidKinds := [.data, .data, .data, .pinned], laidTests := true, laidLooks := .later }
def DriftRepeatedCardSaid : Prop := Claim7.holds Tryd.pinned (.plain (OpenSpec.ofChange driftRepeatedSpec)) driftRepeatedCard

/-- THE TIED CARD OF 'schismalaw25.DriftOrder'. -/
def driftOrderCard : Claim7 := { stood := { row := driftOrderRow, standIns := [], harness := (true, "7d085034acdfc253bfe1406ed0df803c2cd674f953407e4c1cc34ad4a5c98e70"), looks := true }, kinds := [], alts := [], laidByText := true, laidKinds := [.data, .data, .data, .pinned], laidTests := true, laidLooks := .later }
def DriftOrderCardSaid : Prop := Claim7.holds Tryd.pinned (.plain (OpenSpec.ofChange driftOrderSpec)) driftOrderCard

/-- THE TIED CARD OF 'schismalaw25.DriftRepeats'. -/
def driftRepeatsCard : Claim7 := { stood := { row := driftRepeatsRow, standIns := [], harness := (true, "7d085034acdfc253bfe1406ed0df803c2cd674f953407e4c1cc34ad4a5c98e70"), looks := true }, kinds := [], alts := [], laidByText := true, laidKinds := [.data, .data, .data, .pinned], laidTests := true, laidLooks := .later }
def DriftRepeatsCardSaid : Prop := Claim7.holds Tryd.pinned (.plain (OpenSpec.ofChange driftRepeatsSpec)) driftRepeatsCard

/-- THE TIED CARD OF 'schismalaw25.DriftAccounts'. -/
def driftAccountsCard : Claim7 := { stood := { row := driftAccountsRow, standIns := [], harness := (true, "7d085034acdfc253bfe1406ed0df803c2cd674f953407e4c1cc34ad4a5c98e70"), looks := true }, kinds := [], alts := [], laidByText := true, laidKinds := [.data, .data, .data, .pinned], laidTests := true, laidLooks := .later }
def DriftAccountsCardSaid : Prop := Claim7.holds Tryd.pinned (.plain (OpenSpec.ofChange driftAccountsSpec)) driftAccountsCard

/-- THE SECOND FORM's CARD OF 'schismalaw25.DriftFarthest'. -/
def driftFarthestUptoCard : Claim7 := { stood := { row := driftFarthestUptoRow, standIns := [], harness := (true, "7d085034acdfc253bfe1406ed0df803c2cd674f953407e4c1cc34ad4a5c98e70"), looks := true }, kinds := [], alts := [], laidByText := true, laidKinds := [.data, .data, .data, .pinned], laidTests := true, laidLooks := .later }
def DriftFarthestUptoCardSaid : Prop := Claim7.holds Tryd.pinned (.plain (OpenSpec.upto driftFarthestSpec)) driftFarthestUptoCard

/-- THE SECOND FORM's CARD OF 'schismalaw25.DriftHome'. -/
def driftHomeUptoCard : Claim7 := { stood := { row := driftHomeUptoRow, standIns := [], harness := (true, "7d085034acdfc253bfe1406ed0df803c2cd674f953407e4c1cc34ad4a5c98e70"), looks := true }, kinds := [], alts := [], laidByText := true, laidKinds := [.data, .data, .data, .pinned], laidTests := true, laidLooks := .later }
def DriftHomeUptoCardSaid : Prop := Claim7.holds Tryd.pinned (.plain (OpenSpec.upto driftHomeSpec)) driftHomeUptoCard

/-- THE SECOND FORM's CARD OF 'schismalaw25.DriftJoined'. -/
def driftJoinedUptoCard : Claim7 := { stood := { row := driftJoinedUptoRow, standIns := [], harness := (true, "7d085034acdfc253bfe1406ed0df803c2cd674f953407e4c1cc34ad4a5c98e70"), looks := true }, kinds := [], alts := [], laidByText := true, laidKinds := [.data, .data, .data, .pinned], laidTests := true, laidLooks := .later }
def DriftJoinedUptoCardSaid : Prop := Claim7.holds Tryd.pinned (.plain (OpenSpec.upto driftJoinedSpec)) driftJoinedUptoCard

/-- THE SECOND FORM's CARD OF 'schismalaw25.DriftRepeated'. -/
def driftRepeatedUptoCard : Claim7 := { stood := { row := driftRepeatedUptoRow, standIns := [], harness := (true, "7d085034acdfc253bfe1406ed0df803c2cd674f953407e4c1cc34ad4a5c98e70"), looks := true }, kinds := [], alts := [], laidByText := true, laidKinds := [.data, .data, .data, .pinned], laidTests := true, laidLooks := .later }
def DriftRepeatedUptoCardSaid : Prop := Claim7.holds Tryd.pinned (.plain (OpenSpec.upto driftRepeatedSpec)) driftRepeatedUptoCard

/-- THE SECOND FORM's CARD OF 'schismalaw25.DriftOrder'. -/
def driftOrderUptoCard : Claim7 := { stood := { row := driftOrderUptoRow, standIns := [], harness := (true, "7d085034acdfc253bfe1406ed0df803c2cd674f953407e4c1cc34ad4a5c98e70"), looks := true }, kinds := [], alts := [], laidByText := true, laidKinds := [.data, .data, .data, .pinned], laidTests := true, laidLooks := .later }
def DriftOrderUptoCardSaid : Prop := Claim7.holds Tryd.pinned (.plain (OpenSpec.upto driftOrderSpec)) driftOrderUptoCard

/-- THE SECOND FORM's CARD OF 'schismalaw25.DriftRepeats'. -/
def driftRepeatsUptoCard : Claim7 := { stood := { row := driftRepeatsUptoRow, standIns := [], harness := (true, "7d085034acdfc253bfe1406ed0df803c2cd674f953407e4c1cc34ad4a5c98e70"), looks := true }, kinds := [], alts := [], laidByText := true, laidKinds := [.data, .data, .data, .pinned], laidTests := true, laidLooks := .later }
def DriftRepeatsUptoCardSaid : Prop := Claim7.holds Tryd.pinned (.plain (OpenSpec.upto driftRepeatsSpec)) driftRepeatsUptoCard

/-- THE SECOND FORM's CARD OF 'schismalaw25.DriftAccounts'. -/
def driftAccountsUptoCard : Claim7 := { stood := { row := driftAccountsUptoRow, standIns := [], harness := (true, "7d085034acdfc253bfe1406ed0df803c2cd674f953407e4c1cc34ad4a5c98e70"), looks := true }, kinds := [], alts := [], laidByText := true, laidKinds := [.data, .data, .data, .pinned], laidTests := true, laidLooks := .later }
def DriftAccountsUptoCardSaid : Prop := Claim7.holds Tryd.pinned (.plain (OpenSpec.upto driftAccountsSpec)) driftAccountsUptoCard
end Rows
end Go.Proofs.YtelhmdhhabgihaaDoor
