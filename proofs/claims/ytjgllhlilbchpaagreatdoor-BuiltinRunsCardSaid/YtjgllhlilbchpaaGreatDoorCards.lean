/-
  DERIVED. GIVEN WITH THE SEED: THE CARDS: each row of YtjgllhlilbchpaaGreatDoorRows.lean that lists a variable, with what it lists TIED to the program's text (the seventh form; the later family's looks); each row that meets fmt, with fmt's text TOLD by the authors' own Lean function (tested against real Go, not proved from fmt's source: count such statements apart). THE CARD IS WHAT COUNTS. Prove the row's statement (the work); the ties are given (YtjgllhlilbchpaaGreatDoorTie.lean); close each card by the builder's one call (the guide's Derived/Test/ToyasCard.lean, 'card_holds'). Laid BY PROGRAM, IN A SANDBOX (cutbox-door.mjs). By AI agents, Wed Nov 11 2026. No macro, syntax, notation, axiom, sorry.
-/
import Derived.Test.YtjgllhlilbchpaaGreatDoorRows
import GoSem.ClaimSeven
namespace Go.Proofs.YtjgllhlilbchpaaGreatDoor
namespace Rows

/-- THE TIED CARD OF 'coldpluglaw11.BuiltinParents'. -/
def builtinParentsCard : Claim7 := { stood := { row := builtinParentsRow, standIns := [], harness := (true, "ce57c01c6c048df1ba41435d7a483fe0856009d4385a46c753c7c81c54d25ede"), looks := true }, kinds := [], alts := [], laidByText := true, laidKinds := [.data, .data, .data, .data, .sentinel, .sentinel, .pinned], laidTests := true, laidLooks := .later }
def BuiltinParentsCardSaid : Prop := Claim7.holds Tryz.pinned (.plain (OpenSpec.ofChange builtinParentsSpec)) builtinParentsCard

/-- THE TIED CARD OF 'coldpluglaw11.BuiltinKeys'. -/
def builtinKeysCard : Claim7 := { stood := { row := builtinKeysRow, standIns := [], harness := (true, "ce57c01c6c048df1ba41435d7a483fe0856009d4385a46c753c7c81c54d25ede"), looks := true }, kinds := [], alts := [], laidByText := true, laidKinds := [.data, .data, .data, .data, .sentinel, .sentinel, .pinned], laidTests := true, laidLooks := .later }
def BuiltinKeysCardSaid : Prop := Claim7.holds Tryz.pinned (.plain (OpenSpec.ofChange builtinKeysSpec)) builtinKeysCard

/-- THE TIED CARD OF 'coldpluglaw11.BuiltinBases'. -/
def builtinBasesCard : Claim7 := { stood := { row := builtinBasesRow, standIns := [], harness := (true, "ce57c01c6c048df1ba41435d7a483fe0856009d4385a46c753c7c81c54d25ede"), looks := true }, kinds := [], alts := [], laidByText := true, laidKinds := [.data, .data, .data, .data, .sentinel, .sentinel, .pinned], laidTests := true, laidLooks := .later }
def BuiltinBasesCardSaid : Prop := Claim7.holds Tryz.pinned (.plain (OpenSpec.ofChange builtinBasesSpec)) builtinBasesCard

/-- THE TIED CARD OF 'coldpluglaw11.BuiltinValues'. -/
def builtinValuesCard : Claim7 := { stood := { row := builtinValuesRow, standIns := [], harness := (true, "ce57c01c6c048df1ba41435d7a483fe0856009d4385a46c753c7c81c54d25ede"), looks := true }, kinds := [], alts := [], laidByText := true, laidKinds := [.data, .data, .data, .data, .sentinel, .sentinel, .pinned, .pinned], laidTests := true, laidLooks := .later }
def BuiltinValuesCardSaid : Prop := Claim7.holds Tryz.pinned (.plain (OpenSpec.ofChange builtinValuesSpec)) builtinValuesCard

/-- THE TIED CARD OF 'coldpluglaw11.BuiltinRuns'. -/
def builtinRunsCard : Claim7 := { stood := { row := builtinRunsRow, standIns := [], harness := (true, "ce57c01c6c048df1ba41435d7a483fe0856009d4385a46c753c7c81c54d25ede"), looks := true }, kinds := [], alts := [], laidByText := true, laidKinds := [.data, .data, .data, .data, .sentinel, .sentinel, .pinned, .pinned], laidTests := true, laidLooks := .later }
def BuiltinRunsCardSaid : Prop := Claim7.holds Tryz.pinned (.plain (OpenSpec.ofChange builtinRunsSpec)) builtinRunsCard

/-- THE TIED CARD OF 'coldpluglaw11.BuiltinContents'. -/
def builtinContentsCard : Claim7 := { stood := { row := builtinContentsRow, standIns := [], harness := (true, "ce57c01c6c048df1ba41435d7a483fe0856009d4385a46c753c7c81c54d25ede"), looks := true }, kinds := [], alts := [], laidByText := true, laidKinds := [.data, .data, .data, .data, .sentinel, .sentinel, .pinned, .pinned], laidTests := true, laidLooks := .later }
def BuiltinContentsCardSaid : Prop := Claim7.holds Tryz.pinned (.plain (OpenSpec.ofChange builtinContentsSpec)) builtinContentsCard

/-- THE TIED CARD OF 'coldpluglaw11.BuiltinStays'. -/
def builtinStaysCard : Claim7 := { stood := { row := builtinStaysRow, standIns := [], harness := (true, "ce57c01c6c048df1ba41435d7a483fe0856009d4385a46c753c7c81c54d25ede"), looks := true }, kinds := [], alts := [], laidByText := true, laidKinds := [.data, .data, .data, .data, .sentinel, .sentinel, .pinned, .pinned], laidTests := true, laidLooks := .later }
def BuiltinStaysCardSaid : Prop := Claim7.holds Tryz.pinned (.plain (OpenSpec.ofChange builtinStaysSpec)) builtinStaysCard

/-- THE SECOND FORM's CARD OF 'coldpluglaw11.BuiltinParents'. -/
def builtinParentsUptoCard : Claim7 := { stood := { row := builtinParentsUptoRow, standIns := [], harness := (true, "ce57c01c6c048df1ba41435d7a483fe0856009d4385a46c753c7c81c54d25ede"), looks := true }, kinds := [], alts := [], laidByText := true, laidKinds := [.data, .data, .data, .data, .sentinel, .sentinel, .pinned], laidTests := true, laidLooks := .later }
def BuiltinParentsUptoCardSaid : Prop := Claim7.holds Tryz.pinned (.plain (OpenSpec.upto builtinParentsSpec)) builtinParentsUptoCard

/-- THE SECOND FORM's CARD OF 'coldpluglaw11.BuiltinKeys'. -/
def builtinKeysUptoCard : Claim7 := { stood := { row := builtinKeysUptoRow, standIns := [], harness := (true, "ce57c01c6c048df1ba41435d7a483fe0856009d4385a46c753c7c81c54d25ede"), looks := true }, kinds := [], alts := [], laidByText := true, laidKinds := [.data, .data, .data, .data, .sentinel, .sentinel, .pinned], laidTests := true, laidLooks := .later }
def BuiltinKeysUptoCardSaid : Prop := Claim7.holds Tryz.pinned (.plain (OpenSpec.upto builtinKeysSpec)) builtinKeysUptoCard

/-- THE SECOND FORM's CARD OF 'coldpluglaw11.BuiltinBases'. -/
def builtinBasesUptoCard : Claim7 := { stood := { row := builtinBasesUptoRow, standIns := [], harness := (true, "ce57c01c6c048df1ba41435d7a483fe0856009d4385a46c753c7c81c54d25ede"), looks := true }, kinds := [], alts := [], laidByText := true, laidKinds := [.data, .data, .data, .data, .sentinel, .sentinel, .pinned], laidTests := true, laidLooks := .later }
def BuiltinBasesUptoCardSaid : Prop := Claim7.holds Tryz.pinned (.plain (OpenSpec.upto builtinBasesSpec)) builtinBasesUptoCard

/-- THE SECOND FORM's CARD OF 'coldpluglaw11.BuiltinValues'. -/
def builtinValuesUptoCard : Claim7 := { stood := { row := builtinValuesUptoRow, standIns := [], harness := (true, "ce57c01c6c048df1ba41435d7a483fe0856009d4385a46c753c7c81c54d25ede"), looks := true }, kinds := [], alts := [], laidByText := true, laidKinds := [.data, .data, .data, .data, .sentinel, .sentinel, .pinned, .pinned], laidTests := true, laidLooks := .later }
def BuiltinValuesUptoCardSaid : Prop := Claim7.holds Tryz.pinned (.plain (OpenSpec.upto builtinValuesSpec)) builtinValuesUptoCard

/-- THE SECOND FORM's CARD OF 'coldpluglaw11.BuiltinRuns'. -/
def builtinRunsUptoCard : Claim7 := { stood := { row := builtinRunsUptoRow, standIns := [], harness := (true, "ce57c01c6c048df1ba41435d7a483fe0856009d4385a46c753c7c81c54d25ede"), looks := true }, kinds := [], alts := [], laidByText := true, laidKinds := [.data, .data, .data, .data, .sentinel, .sentinel, .pinned, .pinned], laidTests := true, laidLooks := .later }
def BuiltinRunsUptoCardSaid : Prop := Claim7.holds Tryz.pinned (.plain (OpenSpec.upto builtinRunsSpec)) builtinRunsUptoCard

/-- THE SECOND FORM's CARD OF 'coldpluglaw11.BuiltinContents'. -/
def builtinContentsUptoCard : Claim7 := { stood := { row := builtinContentsUptoRow, standIns := [], harness := (true, "ce57c01c6c048df1ba41435d7a483fe0856009d4385a46c753c7c81c54d25ede"), looks := true }, kinds := [], alts := [], laidByText := true, laidKinds := [.data, .data, .data, .data, .sentinel, .sentinel, .pinned, .pinned], laidTests := true, laidLooks := .later }
def BuiltinContentsUptoCardSaid : Prop := Claim7.holds Tryz.pinned (.plain (OpenSpec.upto builtinContentsSpec)) builtinContentsUptoCard

/-- THE SECOND FORM's CARD OF 'coldpluglaw11.BuiltinStays'. -/
def builtinStaysUptoCard : Claim7 := { stood := { row := builtinStaysUptoRow, standIns := [], harness := (true, "ce57c01c6c048df1ba41435d7a483fe0856009d4385a46c753c7c81c54d25ede"), looks := true }, kinds := [], alts := [], laidByText := true, laidKinds := [.data, .data, .data, .data, .sentinel, .sentinel, .pinned, .pinned], laidTests := true, laidLooks := .later }
def BuiltinStaysUptoCardSaid : Prop := Claim7.holds Tryz.pinned (.plain (OpenSpec.upto builtinStaysSpec)) builtinStaysUptoCard
end Rows
end Go.Proofs.YtjgllhlilbchpaaGreatDoor
