/-
  DERIVED. GIVEN WITH THE SEED: THE CARDS: each row of YtnlocdhhecockaaGreatDoorRows.lean that lists a variable, with what it lists TIED to the program's text (the seventh form; the later family's looks); each row that meets fmt, with fmt's text TOLD by the authors' own Lean function (tested against real Go, not proved from fmt's source: count such statements apart). THE CARD IS WHAT COUNTS. Prove the row's statement (the work); the ties are given (YtnlocdhhecockaaGreatDoorTie.lean); close each card by the builder's one call (the guide's Derived/Test/ToyasCard.lean, 'card_holds'). Laid BY PROGRAM, IN A SANDBOX (cutbox-door.mjs). By AI agents, Wed Nov 11 2026. No macro, syntax, notation, axiom, sorry.
-/
import Derived.Test.YtnlocdhhecockaaGreatDoorRows
import GoSem.ClaimSeven
namespace Go.Proofs.YtnlocdhhecockaaGreatDoor
namespace Rows

/-- THE TIED CARD OF 'coldpluglaw07.ContentParses'. -/
def contentParsesCard : Claim7 := { stood := { row := contentParsesRow, standIns := [], harness := (true, "76633e413a343cd6ffec7cb4b45ffb3baf90d81c5bc0d428ab102bc7bb158a33"), looks := true }, kinds := [], alts := [], laidByText := true, laidKinds := [.data, .data, .data, .data, .sentinel, .sentinel, .pinned], laidTests := true, laidLooks := .later }
def ContentParsesCardSaid : Prop := Claim7.holds Tryz.pinned (.plain (OpenSpec.ofChange contentParsesSpec)) contentParsesCard

/-- THE SECOND FORM's CARD OF 'coldpluglaw07.ContentParses'. -/
def contentParsesUptoCard : Claim7 := { stood := { row := contentParsesUptoRow, standIns := [], harness := (true, "76633e413a343cd6ffec7cb4b45ffb3baf90d81c5bc0d428ab102bc7bb158a33"), looks := true }, kinds := [], alts := [], laidByText := true, laidKinds := [.data, .data, .data, .data, .sentinel, .sentinel, .pinned], laidTests := true, laidLooks := .later }
def ContentParsesUptoCardSaid : Prop := Claim7.holds Tryz.pinned (.plain (OpenSpec.upto contentParsesSpec)) contentParsesUptoCard
end Rows
end Go.Proofs.YtnlocdhhecockaaGreatDoor
