/-
  DERIVED. GIVEN WITH THE SEED: THE CARDS: each row of YtnoifjkgimlfaaaDoorRows.lean that lists a variable, with what it lists TIED to the program's text (the seventh form; the later family's looks); each row that meets fmt, with fmt's text TOLD by the authors' own Lean function (tested against real Go, not proved from fmt's source: count such statements apart). THE CARD IS WHAT COUNTS. Prove the row's statement (the work); the ties are given (YtnoifjkgimlfaaaDoorTie.lean); close each card by the builder's one call (the guide's Derived/Test/ToyasCard.lean, 'card_holds'). Laid BY PROGRAM, IN A SANDBOX (cutbox-door.mjs). By AI agents, Wed Nov 11 2026. No macro, syntax, notation, axiom, sorry.
-/
import Derived.Test.YtnoifjkgimlfaaaDoorRows
import GoSem.ClaimSeven
namespace Go.Proofs.YtnoifjkgimlfaaaDoor
namespace Rows

/-- THE TIED CARD OF 'coldpluglaw01.NameSplits'. -/
def nameSplitsCard : Claim7 := { stood := { row := nameSplitsRow, standIns := [], harness := (true, "e468dbfdce402640bf91ebd72aa9e50232048a912ab3a652a6835c1ffeac715b"), looks := false }, kinds := [], alts := [], laidByText := true, laidKinds := [.data, .pinned, .pinned], laidTests := true, laidLooks := .later }
def NameSplitsCardSaid : Prop := Claim7.holds Tryd.pinned (.plain (OpenSpec.ofChange nameSplitsSpec)) nameSplitsCard

/-- THE TIED CARD OF 'coldpluglaw01.NameCleans'. -/
def nameCleansCard : Claim7 := { stood := { row := nameCleansRow, standIns := [], harness := (true, "e468dbfdce402640bf91ebd72aa9e50232048a912ab3a652a6835c1ffeac715b"), looks := false }, kinds := [], alts := [], laidByText := true, laidKinds := [.data, .pinned, .pinned], laidTests := true, laidLooks := .later }
def NameCleansCardSaid : Prop := Claim7.holds Tryd.pinned (.plain (OpenSpec.ofChange nameCleansSpec)) nameCleansCard

/-- THE TIED CARD OF 'coldpluglaw01.NameLinks'. -/
def nameLinksCard : Claim7 := { stood := { row := nameLinksRow, standIns := [], harness := (true, "e468dbfdce402640bf91ebd72aa9e50232048a912ab3a652a6835c1ffeac715b"), looks := false }, kinds := [], alts := [], laidByText := true, laidKinds := [.data, .pinned, .pinned], laidTests := true, laidLooks := .later }
def NameLinksCardSaid : Prop := Claim7.holds Tryd.pinned (.plain (OpenSpec.ofChange nameLinksSpec)) nameLinksCard

/-- THE TIED CARD OF 'coldpluglaw01.NameBeneath'. -/
def nameBeneathCard : Claim7 := { stood := { row := nameBeneathRow, standIns := [], harness := (true, "e468dbfdce402640bf91ebd72aa9e50232048a912ab3a652a6835c1ffeac715b"), looks := false }, kinds := [], alts := [], laidByText := true, laidKinds := [.data, .pinned, .pinned], laidTests := true, laidLooks := .later }
def NameBeneathCardSaid : Prop := Claim7.holds Tryd.pinned (.plain (OpenSpec.ofChange nameBeneathSpec)) nameBeneathCard

/-- THE TIED CARD OF 'coldpluglaw01.NameJoins'. -/
def nameJoinsCard : Claim7 := { stood := { row := nameJoinsRow, standIns := [], harness := (true, "e468dbfdce402640bf91ebd72aa9e50232048a912ab3a652a6835c1ffeac715b"), looks := false }, kinds := [], alts := [], laidByText := true, laidKinds := [.data, .pinned, .pinned], laidTests := true, laidLooks := .later }
def NameJoinsCardSaid : Prop := Claim7.holds Tryd.pinned (.plain (OpenSpec.ofChange nameJoinsSpec)) nameJoinsCard

/-- THE TIED CARD OF 'coldpluglaw01.NameNumbers'. -/
def nameNumbersCard : Claim7 := { stood := { row := nameNumbersRow, standIns := [], harness := (true, "e468dbfdce402640bf91ebd72aa9e50232048a912ab3a652a6835c1ffeac715b"), looks := false }, kinds := [], alts := [], laidByText := true, laidKinds := [.data, .pinned, .pinned], laidTests := true, laidLooks := .later }
def NameNumbersCardSaid : Prop := Claim7.holds Tryd.pinned (.plain (OpenSpec.ofChange nameNumbersSpec)) nameNumbersCard

/-- THE TIED CARD OF 'coldpluglaw01.NameOrders'. -/
def nameOrdersCard : Claim7 := { stood := { row := nameOrdersRow, standIns := [], harness := (true, "e468dbfdce402640bf91ebd72aa9e50232048a912ab3a652a6835c1ffeac715b"), looks := false }, kinds := [], alts := [], laidByText := true, laidKinds := [.data, .pinned, .pinned], laidTests := true, laidLooks := .later }
def NameOrdersCardSaid : Prop := Claim7.holds Tryd.pinned (.plain (OpenSpec.ofChange nameOrdersSpec)) nameOrdersCard

/-- THE TIED CARD OF 'coldpluglaw01.NameCompares'. -/
def nameComparesCard : Claim7 := { stood := { row := nameComparesRow, standIns := [], harness := (true, "e468dbfdce402640bf91ebd72aa9e50232048a912ab3a652a6835c1ffeac715b"), looks := false }, kinds := [], alts := [], laidByText := true, laidKinds := [.data, .pinned, .pinned], laidTests := true, laidLooks := .later }
def NameComparesCardSaid : Prop := Claim7.holds Tryd.pinned (.plain (OpenSpec.ofChange nameComparesSpec)) nameComparesCard

/-- THE TIED CARD OF 'coldpluglaw01.NameValids'. -/
def nameValidsCard : Claim7 := { stood := { row := nameValidsRow, standIns := [], harness := (true, "e468dbfdce402640bf91ebd72aa9e50232048a912ab3a652a6835c1ffeac715b"), looks := false }, kinds := [], alts := [], laidByText := true, laidKinds := [.data, .pinned, .pinned], laidTests := true, laidLooks := .later }
def NameValidsCardSaid : Prop := Claim7.holds Tryd.pinned (.plain (OpenSpec.ofChange nameValidsSpec)) nameValidsCard

/-- THE SECOND FORM's CARD OF 'coldpluglaw01.NameSplits'. -/
def nameSplitsUptoCard : Claim7 := { stood := { row := nameSplitsUptoRow, standIns := [], harness := (true, "e468dbfdce402640bf91ebd72aa9e50232048a912ab3a652a6835c1ffeac715b"), looks := false }, kinds := [], alts := [], laidByText := true, laidKinds := [.data, .pinned, .pinned], laidTests := true, laidLooks := .later }
def NameSplitsUptoCardSaid : Prop := Claim7.holds Tryd.pinned (.plain (OpenSpec.upto nameSplitsSpec)) nameSplitsUptoCard

/-- THE SECOND FORM's CARD OF 'coldpluglaw01.NameCleans'. -/
def nameCleansUptoCard : Claim7 := { stood := { row := nameCleansUptoRow, standIns := [], harness := (true, "e468dbfdce402640bf91ebd72aa9e50232048a912ab3a652a6835c1ffeac715b"), looks := false }, kinds := [], alts := [], laidByText := true, laidKinds := [.data, .pinned, .pinned], laidTests := true, laidLooks := .later }
def NameCleansUptoCardSaid : Prop := Claim7.holds Tryd.pinned (.plain (OpenSpec.upto nameCleansSpec)) nameCleansUptoCard

/-- THE SECOND FORM's CARD OF 'coldpluglaw01.NameLinks'. -/
def nameLinksUptoCard : Claim7 := { stood := { row := nameLinksUptoRow, standIns := [], harness := (true, "e468dbfdce402640bf91ebd72aa9e50232048a912ab3a652a6835c1ffeac715b"), looks := false }, kinds := [], alts := [], laidByText := true, laidKinds := [.data, .pinned, .pinned], laidTests := true, laidLooks := .later }
def NameLinksUptoCardSaid : Prop := Claim7.holds Tryd.pinned (.plain (OpenSpec.upto nameLinksSpec)) nameLinksUptoCard

/-- THE SECOND FORM's CARD OF 'coldpluglaw01.NameBeneath'. -/
def nameBeneathUptoCard : Claim7 := { stood := { row := nameBeneathUptoRow, standIns := [], harness := (true, "e468dbfdce402640bf91ebd72aa9e50232048a912ab3a652a6835c1ffeac715b"), looks := false }, kinds := [], alts := [], laidByText := true, laidKinds := [.data, .pinned, .pinned], laidTests := true, laidLooks := .later }
def NameBeneathUptoCardSaid : Prop := Claim7.holds Tryd.pinned (.plain (OpenSpec.upto nameBeneathSpec)) nameBeneathUptoCard

/-- THE SECOND FORM's CARD OF 'coldpluglaw01.NameJoins'. -/
def nameJoinsUptoCard : Claim7 := { stood := { row := nameJoinsUptoRow, standIns := [], harness := (true, "e468dbfdce402640bf91ebd72aa9e50232048a912ab3a652a6835c1ffeac715b"), looks := false }, kinds := [], alts := [], laidByText := true, laidKinds := [.data, .pinned, .pinned], laidTests := true, laidLooks := .later }
def NameJoinsUptoCardSaid : Prop := Claim7.holds Tryd.pinned (.plain (OpenSpec.upto nameJoinsSpec)) nameJoinsUptoCard

/-- THE SECOND FORM's CARD OF 'coldpluglaw01.NameNumbers'. -/
def nameNumbersUptoCard : Claim7 := { stood := { row := nameNumbersUptoRow, standIns := [], harness := (true, "e468dbfdce402640bf91ebd72aa9e50232048a912ab3a652a6835c1ffeac715b"), looks := false }, kinds := [], alts := [], laidByText := true, laidKinds := [.data, .pinned, .pinned], laidTests := true, laidLooks := .later }
def NameNumbersUptoCardSaid : Prop := Claim7.holds Tryd.pinned (.plain (OpenSpec.upto nameNumbersSpec)) nameNumbersUptoCard

/-- THE SECOND FORM's CARD OF 'coldpluglaw01.NameOrders'. -/
def nameOrdersUptoCard : Claim7 := { stood := { row := nameOrdersUptoRow, standIns := [], harness := (true, "e468dbfdce402640bf91ebd72aa9e50232048a912ab3a652a6835c1ffeac715b"), looks := false }, kinds := [], alts := [], laidByText := true, laidKinds := [.data, .pinned, .pinned], laidTests := true, laidLooks := .later }
def NameOrdersUptoCardSaid : Prop := Claim7.holds Tryd.pinned (.plain (OpenSpec.upto nameOrdersSpec)) nameOrdersUptoCard

/-- THE SECOND FORM's CARD OF 'coldpluglaw01.NameCompares'. -/
def nameComparesUptoCard : Claim7 := { stood := { row := nameComparesUptoRow, standIns := [], harness := (true, "e468dbfdce402640bf91ebd72aa9e50232048a912ab3a652a6835c1ffeac715b"), looks := false }, kinds := [], alts := [], laidByText := true, laidKinds := [.data, .pinned, .pinned], laidTests := true, laidLooks := .later }
def NameComparesUptoCardSaid : Prop := Claim7.holds Tryd.pinned (.plain (OpenSpec.upto nameComparesSpec)) nameComparesUptoCard

/-- THE SECOND FORM's CARD OF 'coldpluglaw01.NameValids'. -/
def nameValidsUptoCard : Claim7 := { stood := { row := nameValidsUptoRow, standIns := [], harness := (true, "e468dbfdce402640bf91ebd72aa9e50232048a912ab3a652a6835c1ffeac715b"), looks := false }, kinds := [], alts := [], laidByText := true, laidKinds := [.data, .pinned, .pinned], laidTests := true, laidLooks := .later }
def NameValidsUptoCardSaid : Prop := Claim7.holds Tryd.pinned (.plain (OpenSpec.upto nameValidsSpec)) nameValidsUptoCard
end Rows
end Go.Proofs.YtnoifjkgimlfaaaDoor
