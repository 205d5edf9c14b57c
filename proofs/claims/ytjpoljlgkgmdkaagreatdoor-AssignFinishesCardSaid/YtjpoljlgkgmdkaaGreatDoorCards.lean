/-
  DERIVED. GIVEN WITH THE SEED: THE CARDS: each row of YtjpoljlgkgmdkaaGreatDoorRows.lean that lists a variable, with what it lists TIED to the program's text (the seventh form; the later family's looks); each row that meets fmt, with fmt's text TOLD by the authors' own Lean function (tested against real Go, not proved from fmt's source: count such statements apart). THE CARD IS WHAT COUNTS. Prove the row's statement (the work); the ties are given (YtjpoljlgkgmdkaaGreatDoorTie.lean); close each card by the builder's one call (the guide's Derived/Test/ToyasCard.lean, 'card_holds'). Laid BY PROGRAM, IN A SANDBOX (cutbox-door.mjs). By AI agents, Wed Nov 11 2026. No macro, syntax, notation, axiom, sorry.
-/
import Derived.Test.YtjpoljlgkgmdkaaGreatDoorRows
import GoSem.ClaimSeven
namespace Go.Proofs.YtjpoljlgkgmdkaaGreatDoor
namespace Rows

/-- THE TIED CARD OF 'coldpluglaw13.AssignOrder'. -/
def assignOrderCard : Claim7 := { stood := { row := assignOrderRow, standIns := [], harness := (true, "baef129ecc9b1c747e5ef48518d7eff823d59fcbc5bbc3a03ae801fe973afa43"), looks := true }, kinds := [], alts := [], laidByText := true, laidKinds := [.data, .data, .data, .data, .sentinel, .sentinel, .pinned, .pinned], laidTests := true, laidLooks := .later }
def AssignOrderCardSaid : Prop := Claim7.holds Tryz.pinned (.plain (OpenSpec.ofChange assignOrderSpec)) assignOrderCard

/-- THE TIED CARD OF 'coldpluglaw13.AssignLinks'. -/
def assignLinksCard : Claim7 := { stood := { row := assignLinksRow, standIns := [], harness := (true, "baef129ecc9b1c747e5ef48518d7eff823d59fcbc5bbc3a03ae801fe973afa43"), looks := true }, kinds := [], alts := [], laidByText := true, laidKinds := [.data, .data, .data, .data, .sentinel, .sentinel, .pinned, .pinned], laidTests := true, laidLooks := .later }
def AssignLinksCardSaid : Prop := Claim7.holds Tryz.pinned (.plain (OpenSpec.ofChange assignLinksSpec)) assignLinksCard

/-- THE TIED CARD OF 'coldpluglaw13.AssignBegins'. -/
def assignBeginsCard : Claim7 := { stood := { row := assignBeginsRow, standIns := [], harness := (true, "baef129ecc9b1c747e5ef48518d7eff823d59fcbc5bbc3a03ae801fe973afa43"), looks := true }, kinds := [], alts := [], laidByText := true, laidKinds := [.data, .data, .data, .data, .sentinel, .sentinel, .pinned, .pinned], laidTests := true, laidLooks := .later }
def AssignBeginsCardSaid : Prop := Claim7.holds Tryz.pinned (.plain (OpenSpec.ofChange assignBeginsSpec)) assignBeginsCard

/-- THE TIED CARD OF 'coldpluglaw13.AssignApplies'. -/
def assignAppliesCard : Claim7 := { stood := { row := assignAppliesRow, standIns := [], harness := (true, "baef129ecc9b1c747e5ef48518d7eff823d59fcbc5bbc3a03ae801fe973afa43"), looks := true }, kinds := [], alts := [], laidByText := true, laidKinds := [.data, .data, .data, .data, .sentinel, .sentinel, .pinned, .pinned], laidTests := true, laidLooks := .later }
def AssignAppliesCardSaid : Prop := Claim7.holds Tryz.pinned (.plain (OpenSpec.ofChange assignAppliesSpec)) assignAppliesCard

/-- THE TIED CARD OF 'coldpluglaw13.AssignCloses'. -/
def assignClosesCard : Claim7 := { stood := { row := assignClosesRow, standIns := [], harness := (true, "baef129ecc9b1c747e5ef48518d7eff823d59fcbc5bbc3a03ae801fe973afa43"), looks := true }, kinds := [], alts := [], laidByText := true, laidKinds := [.data, .data, .data, .data, .sentinel, .sentinel, .pinned, .pinned], laidTests := true, laidLooks := .later }
def AssignClosesCardSaid : Prop := Claim7.holds Tryz.pinned (.plain (OpenSpec.ofChange assignClosesSpec)) assignClosesCard

/-- THE TIED CARD OF 'coldpluglaw13.AssignImports'. -/
def assignImportsCard : Claim7 := { stood := { row := assignImportsRow, standIns := [], harness := (true, "baef129ecc9b1c747e5ef48518d7eff823d59fcbc5bbc3a03ae801fe973afa43"), looks := true }, kinds := [], alts := [], laidByText := true, laidKinds := [.data, .data, .data, .data, .sentinel, .sentinel, .pinned, .pinned], laidTests := true, laidLooks := .later }
def AssignImportsCardSaid : Prop := Claim7.holds Tryz.pinned (.plain (OpenSpec.ofChange assignImportsSpec)) assignImportsCard

/-- THE TIED CARD OF 'coldpluglaw13.AssignSound'. -/
def assignSoundCard : Claim7 := { stood := { row := assignSoundRow, standIns := [], harness := (true, "baef129ecc9b1c747e5ef48518d7eff823d59fcbc5bbc3a03ae801fe973afa43"), looks := true }, kinds := [], alts := [], laidByText := true, laidKinds := [.data, .data, .data, .data, .sentinel, .sentinel, .pinned, .pinned], laidTests := true, laidLooks := .later }
def AssignSoundCardSaid : Prop := Claim7.holds Tryz.pinned (.plain (OpenSpec.ofChange assignSoundSpec)) assignSoundCard

/-- THE TIED CARD OF 'coldpluglaw13.AssignFinishes'. -/
def assignFinishesCard : Claim7 := { stood := { row := assignFinishesRow, standIns := [], harness := (true, "baef129ecc9b1c747e5ef48518d7eff823d59fcbc5bbc3a03ae801fe973afa43"), looks := true }, kinds := [], alts := [], laidByText := true, laidKinds := [.data, .data, .data, .data, .sentinel, .sentinel, .pinned, .pinned], laidTests := true, laidLooks := .later }
def AssignFinishesCardSaid : Prop := Claim7.holds Tryz.pinned (.plain (OpenSpec.ofChange assignFinishesSpec)) assignFinishesCard

/-- THE SECOND FORM's CARD OF 'coldpluglaw13.AssignOrder'. -/
def assignOrderUptoCard : Claim7 := { stood := { row := assignOrderUptoRow, standIns := [], harness := (true, "baef129ecc9b1c747e5ef48518d7eff823d59fcbc5bbc3a03ae801fe973afa43"), looks := true }, kinds := [], alts := [], laidByText := true, laidKinds := [.data, .data, .data, .data, .sentinel, .sentinel, .pinned, .pinned], laidTests := true, laidLooks := .later }
def AssignOrderUptoCardSaid : Prop := Claim7.holds Tryz.pinned (.plain (OpenSpec.upto assignOrderSpec)) assignOrderUptoCard

/-- THE SECOND FORM's CARD OF 'coldpluglaw13.AssignLinks'. -/
def assignLinksUptoCard : Claim7 := { stood := { row := assignLinksUptoRow, standIns := [], harness := (true, "baef129ecc9b1c747e5ef48518d7eff823d59fcbc5bbc3a03ae801fe973afa43"), looks := true }, kinds := [], alts := [], laidByText := true, laidKinds := [.data, .data, .data, .data, .sentinel, .sentinel, .pinned, .pinned], laidTests := true, laidLooks := .later }
def AssignLinksUptoCardSaid : Prop := Claim7.holds Tryz.pinned (.plain (OpenSpec.upto assignLinksSpec)) assignLinksUptoCard

/-- THE SECOND FORM's CARD OF 'coldpluglaw13.AssignBegins'. -/
def assignBeginsUptoCard : Claim7 := { stood := { row := assignBeginsUptoRow, standIns := [], harness := (true, "baef129ecc9b1c747e5ef48518d7eff823d59fcbc5bbc3a03ae801fe973afa43"), looks := true }, kinds := [], alts := [], laidByText := true, laidKinds := [.data, .data, .data, .data, .sentinel, .sentinel, .pinned, .pinned], laidTests := true, laidLooks := .later }
def AssignBeginsUptoCardSaid : Prop := Claim7.holds Tryz.pinned (.plain (OpenSpec.upto assignBeginsSpec)) assignBeginsUptoCard

/-- THE SECOND FORM's CARD OF 'coldpluglaw13.AssignApplies'. -/
def assignAppliesUptoCard : Claim7 := { stood := { row := assignAppliesUptoRow, standIns := [], harness := (true, "baef129ecc9b1c747e5ef48518d7eff823d59fcbc5bbc3a03ae801fe973afa43"), looks := true }, kinds := [], alts := [], laidByText := true, laidKinds := [.data, .data, .data, .data, .sentinel, .sentinel, .pinned, .pinned], laidTests := true, laidLooks := .later }
def AssignAppliesUptoCardSaid : Prop := Claim7.holds Tryz.pinned (.plain (OpenSpec.upto assignAppliesSpec)) assignAppliesUptoCard

/-- THE SECOND FORM's CARD OF 'coldpluglaw13.AssignCloses'. -/
def assignClosesUptoCard : Claim7 := { stood := { row := assignClosesUptoRow, standIns := [], harness := (true, "baef129ecc9b1c747e5ef48518d7eff823d59fcbc5bbc3a03ae801fe973afa43"), looks := true }, kinds := [], alts := [], laidByText := true, laidKinds := [.data, .data, .data, .data, .sentinel, .sentinel, .pinned, .pinned], laidTests := true, laidLooks := .later }
def AssignClosesUptoCardSaid : Prop := Claim7.holds Tryz.pinned (.plain (OpenSpec.upto assignClosesSpec)) assignClosesUptoCard

/-- THE SECOND FORM's CARD OF 'coldpluglaw13.AssignImports'. -/
def assignImportsUptoCard : Claim7 := { stood := { row := assignImportsUptoRow, standIns := [], harness := (true, "baef129ecc9b1c747e5ef48518d7eff823d59fcbc5bbc3a03ae801fe973afa43"), looks := true }, kinds := [], alts := [], laidByText := true, laidKinds := [.data, .data, .data, .data, .sentinel, .sentinel, .pinned, .pinned], laidTests := true, laidLooks := .later }
def AssignImportsUptoCardSaid : Prop := Claim7.holds Tryz.pinned (.plain (OpenSpec.upto assignImportsSpec)) assignImportsUptoCard

/-- THE SECOND FORM's CARD OF 'coldpluglaw13.AssignSound'. -/
def assignSoundUptoCard : Claim7 := { stood := { row := assignSoundUptoRow, standIns := [], harness := (true, "baef129ecc9b1c747e5ef48518d7eff823d59fcbc5bbc3a03ae801fe973afa43"), looks := true }, kinds := [], alts := [], laidByText := true, laidKinds := [.data, .data, .data, .data, .sentinel, .sentinel, .pinned, .pinned], laidTests := true, laidLooks := .later }
def AssignSoundUptoCardSaid : Prop := Claim7.holds Tryz.pinned (.plain (OpenSpec.upto assignSoundSpec)) assignSoundUptoCard

/-- THE SECOND FORM's CARD OF 'coldpluglaw13.AssignFinishes'. -/
def assignFinishesUptoCard : Claim7 := { stood := { row := assignFinishesUptoRow, standIns := [], harness := (true, "baef129ecc9b1c747e5ef48518d7eff823d59fcbc5bbc3a03ae801fe973afa43"), looks := true }, kinds := [], alts := [], laidByText := true, laidKinds := [.data, .data, .data, .data, .sentinel, .sentinel, .pinned, .pinned], laidTests := true, laidLooks := .later }
def AssignFinishesUptoCardSaid : Prop := Claim7.holds Tryz.pinned (.plain (OpenSpec.upto assignFinishesSpec)) assignFinishesUptoCard
end Rows
end Go.Proofs.YtjpoljlgkgmdkaaGreatDoor
