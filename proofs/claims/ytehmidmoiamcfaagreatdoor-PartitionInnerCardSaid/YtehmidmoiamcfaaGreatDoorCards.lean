/-
  DERIVED. GIVEN WITH THE SEED: THE CARDS: each row of YtehmidmoiamcfaaGreatDoorRows.lean that lists a variable, with what it lists TIED to the program's text (the seventh form; the later family's looks); each row that meets fmt, with fmt's text TOLD by the authors' own Lean function (tested against real Go, not proved from fmt's source: count such statements apart). THE CARD IS WHAT COUNTS. Prove the row's statement (the work); the ties are given (YtehmidmoiamcfaaGreatDoorTie.lean); close each card by the builder's one call (the guide's Derived/Test/ToyasCard.lean, 'card_holds'). Laid BY PROGRAM, IN A SANDBOX (cutbox-door.mjs). By AI agents, Wed Nov 11 2026. No macro, syntax, notation, axiom, sorry.
-/
import Derived.Test.YtehmidmoiamcfaaGreatDoorRows
import GoSem.ClaimSeven
namespace Go.Proofs.YtehmidmoiamcfaaGreatDoor
namespace Rows

/-- THE TIED CARD OF 'coldpluglaw31.PartitionNames'. -/
def partitionNamesCard : Claim7 := { stood := { row := partitionNamesRow, standIns := [], harness := (true, "b0bc6e9eb47d3a11fa0c738d4685a5d39ef6193f7a1413571fc82349cacab61e"), looks := true }, kinds := [], alts := [], laidByText := true, laidKinds := [.data, .data, .data, .data, .sentinel, .sentinel, .pinned, .pinned], laidTests := true, laidLooks := .later }
def PartitionNamesCardSaid : Prop := Claim7.holds Tryz.pinned (.plain (OpenSpec.ofChange partitionNamesSpec)) partitionNamesCard

/-- THE TIED CARD OF 'coldpluglaw31.PartitionBack'. -/
def partitionBackCard : Claim7 := { stood := { row := partitionBackRow, standIns := [], harness := (true, "b0bc6e9eb47d3a11fa0c738d4685a5d39ef6193f7a1413571fc82349cacab61e"), looks := true }, kinds := [], alts := [], laidByText := true, laidKinds := [.data, .data, .data, .data, .sentinel, .sentinel, .pinned, .pinned], laidTests := true, laidLooks := .later }
def PartitionBackCardSaid : Prop := Claim7.holds Tryz.pinned (.plain (OpenSpec.ofChange partitionBackSpec)) partitionBackCard

/-- THE TIED CARD OF 'coldpluglaw31.PartitionInner'. -/
def partitionInnerCard : Claim7 := { stood := { row := partitionInnerRow, standIns := [], harness := (true, "b0bc6e9eb47d3a11fa0c738d4685a5d39ef6193f7a1413571fc82349cacab61e"), looks := true }, kinds := [], alts := [], laidByText := true, laidKinds := [.data, .data, .data, .data, .sentinel, .sentinel, .pinned, .pinned], laidTests := true, laidLooks := .later }
def PartitionInnerCardSaid : Prop := Claim7.holds Tryz.pinned (.plain (OpenSpec.ofChange partitionInnerSpec)) partitionInnerCard

/-- THE TIED CARD OF 'coldpluglaw31.PartitionLess'. -/
def partitionLessCard : Claim7 := { stood := { row := partitionLessRow, standIns := [], harness := (true, "b0bc6e9eb47d3a11fa0c738d4685a5d39ef6193f7a1413571fc82349cacab61e"), looks := true }, kinds := [], alts := [], laidByText := true, laidKinds := [.data, .data, .data, .data, .sentinel, .sentinel, .pinned, .pinned], laidTests := true, laidLooks := .later }
def PartitionLessCardSaid : Prop := Claim7.holds Tryz.pinned (.plain (OpenSpec.ofChange partitionLessSpec)) partitionLessCard

/-- THE TIED CARD OF 'coldpluglaw31.PartitionWants'. -/
def partitionWantsCard : Claim7 := { stood := { row := partitionWantsRow, standIns := [], harness := (true, "b0bc6e9eb47d3a11fa0c738d4685a5d39ef6193f7a1413571fc82349cacab61e"), looks := true }, kinds := [], alts := [], laidByText := true, laidKinds := [.data, .data, .data, .data, .sentinel, .sentinel, .pinned, .pinned], laidTests := true, laidLooks := .later }
def PartitionWantsCardSaid : Prop := Claim7.holds Tryz.pinned (.plain (OpenSpec.ofChange partitionWantsSpec)) partitionWantsCard

/-- THE TIED CARD OF 'coldpluglaw31.PartitionRights'. -/
def partitionRightsCard : Claim7 := { stood := { row := partitionRightsRow, standIns := [], harness := (true, "b0bc6e9eb47d3a11fa0c738d4685a5d39ef6193f7a1413571fc82349cacab61e"), looks := true }, kinds := [], alts := [], laidByText := true, laidKinds := [.data, .data, .data, .data, .sentinel, .sentinel, .pinned, .pinned], laidTests := true, laidLooks := .later }
def PartitionRightsCardSaid : Prop := Claim7.holds Tryz.pinned (.plain (OpenSpec.ofChange partitionRightsSpec)) partitionRightsCard

/-- THE TIED CARD OF 'coldpluglaw31.PartitionChanged'. -/
def partitionChangedCard : Claim7 := { stood := { row := partitionChangedRow, standIns := [], harness := (true, "b0bc6e9eb47d3a11fa0c738d4685a5d39ef6193f7a1413571fc82349cacab61e"), looks := true }, kinds := [], alts := [], laidByText := true, laidKinds := [.data, .data, .data, .data, .sentinel, .sentinel, .pinned, .pinned], laidTests := true, laidLooks := .later }
def PartitionChangedCardSaid : Prop := Claim7.holds Tryz.pinned (.plain (OpenSpec.ofChange partitionChangedSpec)) partitionChangedCard

/-- THE TIED CARD OF 'coldpluglaw31.PartitionMakes'. -/
def partitionMakesCard : Claim7 := { stood := { row := partitionMakesRow, standIns := [], harness := (true, "b0bc6e9eb47d3a11fa0c738d4685a5d39ef6193f7a1413571fc82349cacab61e"), looks := true }, kinds := [], alts := [], laidByText := true, laidKinds := [.data, .data, .data, .data, .sentinel, .sentinel, .pinned, .pinned], laidTests := true, laidLooks := .later }
def PartitionMakesCardSaid : Prop := Claim7.holds Tryz.pinned (.plain (OpenSpec.ofChange partitionMakesSpec)) partitionMakesCard

/-- THE SECOND FORM's CARD OF 'coldpluglaw31.PartitionNames'. -/
def partitionNamesUptoCard : Claim7 := { stood := { row := partitionNamesUptoRow, standIns := [], harness := (true, "b0bc6e9eb47d3a11fa0c738d4685a5d39ef6193f7a1413571fc82349cacab61e"), looks := true }, kinds := [], alts := [], laidByText := true, laidKinds := [.data, .data, .data, .data, .sentinel, .sentinel, .pinned, .pinned], laidTests := true, laidLooks := .later }
def PartitionNamesUptoCardSaid : Prop := Claim7.holds Tryz.pinned (.plain (OpenSpec.upto partitionNamesSpec)) partitionNamesUptoCard

/-- THE SECOND FORM's CARD OF 'coldpluglaw31.PartitionBack'. -/
def partitionBackUptoCard : Claim7 := { stood := { row := partitionBackUptoRow, standIns := [], harness := (true, "b0bc6e9eb47d3a11fa0c738d4685a5d39ef6193f7a1413571fc82349cacab61e"), looks := true }, kinds := [], alts := [], laidByText := true, laidKinds := [.data, .data, .data, .data, .sentinel, .sentinel, .pinned, .pinned], laidTests := true, laidLooks := .later }
def PartitionBackUptoCardSaid : Prop := Claim7.holds Tryz.pinned (.plain (OpenSpec.upto partitionBackSpec)) partitionBackUptoCard

/-- THE SECOND FORM's CARD OF 'coldpluglaw31.PartitionInner'. -/
def partitionInnerUptoCard : Claim7 := { stood := { row := partitionInnerUptoRow, standIns := [], harness := (true, "b0bc6e9eb47d3a11fa0c738d4685a5d39ef6193f7a1413571fc82349cacab61e"), looks := true }, kinds := [], alts := [], laidByText := true, laidKinds := [.data, .data, .data, .data, .sentinel, .sentinel, .pinned, .pinned], laidTests := true, laidLooks := .later }
def PartitionInnerUptoCardSaid : Prop := Claim7.holds Tryz.pinned (.plain (OpenSpec.upto partitionInnerSpec)) partitionInnerUptoCard

/-- THE SECOND FORM's CARD OF 'coldpluglaw31.PartitionLess'. -/
def partitionLessUptoCard : Claim7 := { stood := { row := partitionLessUptoRow, standIns := [], harness := (true, "b0bc6e9eb47d3a11fa0c738d4685a5d39ef6193f7a1413571fc82349cacab61e"), looks := true }, kinds := [], alts := [], laidByText := true, laidKinds := [.data, .data, .data, .data, .sentinel, .sentinel, .pinned, .pinned], laidTests := true, laidLooks := .later }
def PartitionLessUptoCardSaid : Prop := Claim7.holds Tryz.pinned (.plain (OpenSpec.upto partitionLessSpec)) partitionLessUptoCard

/-- THE SECOND FORM's CARD OF 'coldpluglaw31.PartitionWants'. -/
def partitionWantsUptoCard : Claim7 := { stood := { row := partitionWantsUptoRow, standIns := [], harness := (true, "b0bc6e9eb47d3a11fa0c738d4685a5d39ef6193f7a1413571fc82349cacab61e"), looks := true }, kinds := [], alts := [], laidByText := true, laidKinds := [.data, .data, .data, .data, .sentinel, .sentinel, .pinned, .pinned], laidTests := true, laidLooks := .later }
def PartitionWantsUptoCardSaid : Prop := Claim7.holds Tryz.pinned (.plain (OpenSpec.upto partitionWantsSpec)) partitionWantsUptoCard

/-- THE SECOND FORM's CARD OF 'coldpluglaw31.PartitionRights'. -/
def partitionRightsUptoCard : Claim7 := { stood := { row := partitionRightsUptoRow, standIns := [], harness := (true, "b0bc6e9eb47d3a11fa0c738d4685a5d39ef6193f7a1413571fc82349cacab61e"), looks := true }, kinds := [], alts := [], laidByText := true, laidKinds := [.data, .data, .data, .data, .sentinel, .sentinel, .pinned, .pinned], laidTests := true, laidLooks := .later }
def PartitionRightsUptoCardSaid : Prop := Claim7.holds Tryz.pinned (.plain (OpenSpec.upto partitionRightsSpec)) partitionRightsUptoCard

/-- THE SECOND FORM's CARD OF 'coldpluglaw31.PartitionChanged'. -/
def partitionChangedUptoCard : Claim7 := { stood := { row := partitionChangedUptoRow, standIns := [], harness := (true, "b0bc6e9eb47d3a11fa0c738d4685a5d39ef6193f7a1413571fc82349cacab61e"), looks := true }, kinds := [], alts := [], laidByText := true, laidKinds := [.data, .data, .data, .data, .sentinel, .sentinel, .pinned, .pinned], laidTests := true, laidLooks := .later }
def PartitionChangedUptoCardSaid : Prop := Claim7.holds Tryz.pinned (.plain (OpenSpec.upto partitionChangedSpec)) partitionChangedUptoCard

/-- THE SECOND FORM's CARD OF 'coldpluglaw31.PartitionMakes'. -/
def partitionMakesUptoCard : Claim7 := { stood := { row := partitionMakesUptoRow, standIns := [], harness := (true, "b0bc6e9eb47d3a11fa0c738d4685a5d39ef6193f7a1413571fc82349cacab61e"), looks := true }, kinds := [], alts := [], laidByText := true, laidKinds := [.data, .data, .data, .data, .sentinel, .sentinel, .pinned, .pinned], laidTests := true, laidLooks := .later }
def PartitionMakesUptoCardSaid : Prop := Claim7.holds Tryz.pinned (.plain (OpenSpec.upto partitionMakesSpec)) partitionMakesUptoCard
end Rows
end Go.Proofs.YtehmidmoiamcfaaGreatDoor
