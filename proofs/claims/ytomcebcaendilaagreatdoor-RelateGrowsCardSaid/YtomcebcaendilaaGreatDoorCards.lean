/-
  DERIVED. GIVEN WITH THE SEED: THE CARDS: each row of YtomcebcaendilaaGreatDoorRows.lean that lists a variable, with what it lists TIED to the program's text (the seventh form; the later family's looks); each row that meets fmt, with fmt's text TOLD by the authors' own Lean function (tested against real Go, not proved from fmt's source: count such statements apart). THE CARD IS WHAT COUNTS. Prove the row's statement (the work); the ties are given (YtomcebcaendilaaGreatDoorTie.lean); close each card by the builder's one call (the guide's Derived/Test/ToyasCard.lean, 'card_holds'). Laid BY PROGRAM, IN A SANDBOX (cutbox-door.mjs). By AI agents, Wed Nov 11 2026. No macro, syntax, notation, axiom, sorry.
-/
import Derived.Test.YtomcebcaendilaaGreatDoorRows
import GoSem.ClaimSeven
namespace Go.Proofs.YtomcebcaendilaaGreatDoor
namespace Rows

/-- THE TIED CARD OF 'coldpluglaw27.RelateAncestors'. -/
def relateAncestorsCard : Claim7 := { stood := { row := relateAncestorsRow, standIns := [], harness := (true, "84f243e300f5dbbd44687b8fd486a7592a462a2883b7432107b1ac5bf07e0e76"), looks := true }, kinds := [], alts := [], laidByText := true, laidKinds := [.data, .data, .data, .data, .sentinel, .sentinel, .pinned, .pinned], laidTests := true, laidLooks := .later }
def RelateAncestorsCardSaid : Prop := Claim7.holds Tryz.pinned (.plain (OpenSpec.ofChange relateAncestorsSpec)) relateAncestorsCard

/-- THE TIED CARD OF 'coldpluglaw27.RelateRelates'. -/
def relateRelatesCard : Claim7 := { stood := { row := relateRelatesRow, standIns := [], harness := (true, "84f243e300f5dbbd44687b8fd486a7592a462a2883b7432107b1ac5bf07e0e76"), looks := true }, kinds := [], alts := [], laidByText := true, laidKinds := [.data, .data, .data, .data, .sentinel, .sentinel, .pinned, .pinned], laidTests := true, laidLooks := .later }
def RelateRelatesCardSaid : Prop := Claim7.holds Tryz.pinned (.plain (OpenSpec.ofChange relateRelatesSpec)) relateRelatesCard

/-- THE TIED CARD OF 'coldpluglaw27.RelateOrders'. -/
def relateOrdersCard : Claim7 := { stood := { row := relateOrdersRow, standIns := [], harness := (true, "84f243e300f5dbbd44687b8fd486a7592a462a2883b7432107b1ac5bf07e0e76"), looks := true }, kinds := [], alts := [], laidByText := true, laidKinds := [.data, .data, .data, .data, .sentinel, .sentinel, .pinned, .pinned], laidTests := true, laidLooks := .later }
def RelateOrdersCardSaid : Prop := Claim7.holds Tryz.pinned (.plain (OpenSpec.ofChange relateOrdersSpec)) relateOrdersCard

/-- THE TIED CARD OF 'coldpluglaw27.RelateBatches'. -/
def relateBatchesCard : Claim7 := { stood := { row := relateBatchesRow, standIns := [], harness := (true, "84f243e300f5dbbd44687b8fd486a7592a462a2883b7432107b1ac5bf07e0e76"), looks := true }, kinds := [], alts := [], laidByText := true, laidKinds := [.data, .data, .data, .data, .sentinel, .sentinel, .pinned, .pinned], laidTests := true, laidLooks := .later }
def RelateBatchesCardSaid : Prop := Claim7.holds Tryz.pinned (.plain (OpenSpec.ofChange relateBatchesSpec)) relateBatchesCard

/-- THE TIED CARD OF 'coldpluglaw27.RelateSymmetric'. -/
def relateSymmetricCard : Claim7 := { stood := { row := relateSymmetricRow, standIns := [], harness := (true, "84f243e300f5dbbd44687b8fd486a7592a462a2883b7432107b1ac5bf07e0e76"), looks := true }, kinds := [], alts := [], laidByText := true, laidKinds := [.data, .data, .data, .data, .sentinel, .sentinel, .pinned, .pinned], laidTests := true, laidLooks := .later }
def RelateSymmetricCardSaid : Prop := Claim7.holds Tryz.pinned (.plain (OpenSpec.ofChange relateSymmetricSpec)) relateSymmetricCard

/-- THE TIED CARD OF 'coldpluglaw27.RelateProgress'. -/
def relateProgressCard : Claim7 := { stood := { row := relateProgressRow, standIns := [], harness := (true, "84f243e300f5dbbd44687b8fd486a7592a462a2883b7432107b1ac5bf07e0e76"), looks := true }, kinds := [], alts := [], laidByText := true, laidKinds := [.data, .data, .data, .data, .sentinel, .sentinel, .pinned, .pinned], laidTests := true, laidLooks := .later }
def RelateProgressCardSaid : Prop := Claim7.holds Tryz.pinned (.plain (OpenSpec.ofChange relateProgressSpec)) relateProgressCard

/-- THE TIED CARD OF 'coldpluglaw27.RelateEnds'. -/
def relateEndsCard : Claim7 := { stood := { row := relateEndsRow, standIns := [], harness := (true, "84f243e300f5dbbd44687b8fd486a7592a462a2883b7432107b1ac5bf07e0e76"), looks := true }, kinds := [], alts := [], laidByText := true, laidKinds := [.data, .data, .data, .data, .sentinel, .sentinel, .pinned, .pinned], laidTests := true, laidLooks := .later }
def RelateEndsCardSaid : Prop := Claim7.holds Tryz.pinned (.plain (OpenSpec.ofChange relateEndsSpec)) relateEndsCard

/-- THE TIED CARD OF 'coldpluglaw27.RelateApart'. -/
def relateApartCard : Claim7 := { stood := { row := relateApartRow, standIns := [], harness := (true, "84f243e300f5dbbd44687b8fd486a7592a462a2883b7432107b1ac5bf07e0e76"), looks := true }, kinds := [], alts := [], laidByText := true, laidKinds := [.data, .data, .data, .data, .sentinel, .sentinel, .pinned, .pinned], laidTests := true, laidLooks := .later }
def RelateApartCardSaid : Prop := Claim7.holds Tryz.pinned (.plain (OpenSpec.ofChange relateApartSpec)) relateApartCard

/-- THE TIED CARD OF 'coldpluglaw27.RelateGrows'. -/
def relateGrowsCard : Claim7 := { stood := { row := relateGrowsRow, standIns := [], harness := (true, "84f243e300f5dbbd44687b8fd486a7592a462a2883b7432107b1ac5bf07e0e76"), looks := true }, kinds := [], alts := [], laidByText := true, laidKinds := [.data, .data, .data, .data, .sentinel, .sentinel, .pinned, .pinned], laidTests := true, laidLooks := .later }
def RelateGrowsCardSaid : Prop := Claim7.holds Tryz.pinned (.plain (OpenSpec.ofChange relateGrowsSpec)) relateGrowsCard

/-- THE SECOND FORM's CARD OF 'coldpluglaw27.RelateAncestors'. -/
def relateAncestorsUptoCard : Claim7 := { stood := { row := relateAncestorsUptoRow, standIns := [], harness := (true, "84f243e300f5dbbd44687b8fd486a7592a462a2883b7432107b1ac5bf07e0e76"), looks := true }, kinds := [], alts := [], laidByText := true, laidKinds := [.data, .data, .data, .data, .sentinel, .sentinel, .pinned, .pinned], laidTests := true, laidLooks := .later }
def RelateAncestorsUptoCardSaid : Prop := Claim7.holds Tryz.pinned (.plain (OpenSpec.upto relateAncestorsSpec)) relateAncestorsUptoCard

/-- THE SECOND FORM's CARD OF 'coldpluglaw27.RelateRelates'. -/
def relateRelatesUptoCard : Claim7 := { stood := { row := relateRelatesUptoRow, standIns := [], harness := (true, "84f243e300f5dbbd44687b8fd486a7592a462a2883b7432107b1ac5bf07e0e76"), looks := true }, kinds := [], alts := [], laidByText := true, laidKinds := [.data, .data, .data, .data, .sentinel, .sentinel, .pinned, .pinned], laidTests := true, laidLooks := .later }
def RelateRelatesUptoCardSaid : Prop := Claim7.holds Tryz.pinned (.plain (OpenSpec.upto relateRelatesSpec)) relateRelatesUptoCard

/-- THE SECOND FORM's CARD OF 'coldpluglaw27.RelateOrders'. -/
def relateOrdersUptoCard : Claim7 := { stood := { row := relateOrdersUptoRow, standIns := [], harness := (true, "84f243e300f5dbbd44687b8fd486a7592a462a2883b7432107b1ac5bf07e0e76"), looks := true }, kinds := [], alts := [], laidByText := true, laidKinds := [.data, .data, .data, .data, .sentinel, .sentinel, .pinned, .pinned], laidTests := true, laidLooks := .later }
def RelateOrdersUptoCardSaid : Prop := Claim7.holds Tryz.pinned (.plain (OpenSpec.upto relateOrdersSpec)) relateOrdersUptoCard

/-- THE SECOND FORM's CARD OF 'coldpluglaw27.RelateBatches'. -/
def relateBatchesUptoCard : Claim7 := { stood := { row := relateBatchesUptoRow, standIns := [], harness := (true, "84f243e300f5dbbd44687b8fd486a7592a462a2883b7432107b1ac5bf07e0e76"), looks := true }, kinds := [], alts := [], laidByText := true, laidKinds := [.data, .data, .data, .data, .sentinel, .sentinel, .pinned, .pinned], laidTests := true, laidLooks := .later }
def RelateBatchesUptoCardSaid : Prop := Claim7.holds Tryz.pinned (.plain (OpenSpec.upto relateBatchesSpec)) relateBatchesUptoCard

/-- THE SECOND FORM's CARD OF 'coldpluglaw27.RelateSymmetric'. -/
def relateSymmetricUptoCard : Claim7 := { stood := { row := relateSymmetricUptoRow, standIns := [], harness := (true, "84f243e300f5dbbd44687b8fd486a7592a462a2883b7432107b1ac5bf07e0e76"), looks := true }, kinds := [], alts := [], laidByText := true, laidKinds := [.data, .data, .data, .data, .sentinel, .sentinel, .pinned, .pinned], laidTests := true, laidLooks := .later }
def RelateSymmetricUptoCardSaid : Prop := Claim7.holds Tryz.pinned (.plain (OpenSpec.upto relateSymmetricSpec)) relateSymmetricUptoCard

/-- THE SECOND FORM's CARD OF 'coldpluglaw27.RelateProgress'. -/
def relateProgressUptoCard : Claim7 := { stood := { row := relateProgressUptoRow, standIns := [], harness := (true, "84f243e300f5dbbd44687b8fd486a7592a462a2883b7432107b1ac5bf07e0e76"), looks := true }, kinds := [], alts := [], laidByText := true, laidKinds := [.data, .data, .data, .data, .sentinel, .sentinel, .pinned, .pinned], laidTests := true, laidLooks := .later }
def RelateProgressUptoCardSaid : Prop := Claim7.holds Tryz.pinned (.plain (OpenSpec.upto relateProgressSpec)) relateProgressUptoCard

/-- THE SECOND FORM's CARD OF 'coldpluglaw27.RelateEnds'. -/
def relateEndsUptoCard : Claim7 := { stood := { row := relateEndsUptoRow, standIns := [], harness := (true, "84f243e300f5dbbd44687b8fd486a7592a462a2883b7432107b1ac5bf07e0e76"), looks := true }, kinds := [], alts := [], laidByText := true, laidKinds := [.data, .data, .data, .data, .sentinel, .sentinel, .pinned, .pinned], laidTests := true, laidLooks := .later }
def RelateEndsUptoCardSaid : Prop := Claim7.holds Tryz.pinned (.plain (OpenSpec.upto relateEndsSpec)) relateEndsUptoCard

/-- THE SECOND FORM's CARD OF 'coldpluglaw27.RelateApart'. -/
def relateApartUptoCard : Claim7 := { stood := { row := relateApartUptoRow, standIns := [], harness := (true, "84f243e300f5dbbd44687b8fd486a7592a462a2883b7432107b1ac5bf07e0e76"), looks := true }, kinds := [], alts := [], laidByText := true, laidKinds := [.data, .data, .data, .data, .sentinel, .sentinel, .pinned, .pinned], laidTests := true, laidLooks := .later }
def RelateApartUptoCardSaid : Prop := Claim7.holds Tryz.pinned (.plain (OpenSpec.upto relateApartSpec)) relateApartUptoCard

/-- THE SECOND FORM's CARD OF 'coldpluglaw27.RelateGrows'. -/
def relateGrowsUptoCard : Claim7 := { stood := { row := relateGrowsUptoRow, standIns := [], harness := (true, "84f243e300f5dbbd44687b8fd486a7592a462a2883b7432107b1ac5bf07e0e76"), looks := true }, kinds := [], alts := [], laidByText := true, laidKinds := [.data, .data, .data, .data, .sentinel, .sentinel, .pinned, .pinned], laidTests := true, laidLooks := .later }
def RelateGrowsUptoCardSaid : Prop := Claim7.holds Tryz.pinned (.plain (OpenSpec.upto relateGrowsSpec)) relateGrowsUptoCard
end Rows
end Go.Proofs.YtomcebcaendilaaGreatDoor
