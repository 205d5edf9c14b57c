/-
  NARROWER THAN 'FOR EVERY INPUT', by the rows' own cells (each row's printed sentence says how): NameSplits: laid · NameCleans: laid · NameLinks: laid · NameBeneath: laid · NameJoins: laid · NameNumbers: laid · NameOrders: laid · NameCompares: laid · NameValids: laid.
  DERIVED. THE GIVEN ROWS OF THIS SEAT. 9 by the template 'for every input the law returns true; each argument reads behind the call as it read before'; 0 by the template 'total and deterministic' (their statements: YtnoifjkgimlfaaaDoorTotals.lean).
  GIVEN WITH THE SEED: the statements are not yours to turn. If you find one false, say at which input.
  Laid BY PROGRAM, IN A SANDBOX (cutbox-rows.mjs): the forced cells as the released guide's own fill.sh prints them over the translation 79d2409f17b411bd… (all of the seat's roots in one cut). By AI agents, Wed Nov 11 2026. No macro, syntax, notation, axiom, sorry.
-/
import Derived.Test.YtnoifjkgimlfaaaDoorChecked
import GoSem.PinnedTables
import GoSem.Claim
import GoSem.ClaimJoined
import GoSem.ClaimMapViews
import Derived.JoinedTies
import Derived.KernelRfl
namespace Go.Proofs.YtnoifjkgimlfaaaDoor
/- THE CELL 'sum', in the pinned program and in every row, IS THE sha256 OF THE DUMP (.gsa) THAT YtnoifjkgimlfaaaDoorProg.lean LOADS. Nothing in Lean hashes anything: it is a label: what it is worth is what the hold of that sum in a sandbox is worth. -/
noncomputable def Tryd.pinned : Pinned := { name := "ytnoifjkgimlfaaadoor", sum := "79d2409f17b411bd3b367ea4c19b9a1abe80a90fc1ae71d0672790ab4a335875", checked := Tryd.checked }
namespace Rows
def none {H : Type} : Left H := { results := [], args := [] }

/- WHAT THE LISTED PACKAGE-LEVEL VARIABLES READ AS WHEN THE CALL BEGINS. Each datum BY PROGRAM (the guide's laid-datum.mjs) off the statement by which the dump's own 'gosem.cut.vars' lays the variable. In a bare row this is a premise. The card (YtnoifjkgimlfaaaDoorCards.lean) ties it to the program's text. -/
def laid_unicode_utf8_acceptRanges {H : Type} : DataW H := .agg [.agg [.lit (.int .u8 128), .lit (.int .u8 191)], .agg [.lit (.int .u8 160), .lit (.int .u8 191)], .agg [.lit (.int .u8 128), .lit (.int .u8 159)], .agg [.lit (.int .u8 144), .lit (.int .u8 191)], .agg [.lit (.int .u8 128), .lit (.int .u8 143)], .agg [.lit (.int .u8 0), .lit (.int .u8 0)], .agg [.lit (.int .u8 0), .lit (.int .u8 0)], .agg [.lit (.int .u8 0), .lit (.int .u8 0)], .agg [.lit (.int .u8 0), .lit (.int .u8 0)], .agg [.lit (.int .u8 0), .lit (.int .u8 0)], .agg [.lit (.int .u8 0), .lit (.int .u8 0)], .agg [.lit (.int .u8 0), .lit (.int .u8 0)], .agg [.lit (.int .u8 0), .lit (.int .u8 0)], .agg [.lit (.int .u8 0), .lit (.int .u8 0)], .agg [.lit (.int .u8 0), .lit (.int .u8 0)], .agg [.lit (.int .u8 0), .lit (.int .u8 0)]]
/-- One of Go's own tables, pinned by name: the form's constant. -/
def laid_unicode_CaseRanges : DataW Unit := Go.Pinned.caseRanges
/-- One of Go's own tables, pinned by name: the form's constant. -/
def laid_unicode_utf8_first : DataW Unit := Go.Pinned.utf8First

/-- 'coldpluglaw01.NameSplits': WHATEVER THE INPUT: true; the input reads as it did. -/
def nameSplitsSpec : ChangeSpec := { name := "nameSplits", fn := fun _ => fun
  | [d] => { results := [.lit (.bool true)], args := [d] }
  | _ => none }
def nameSplitsRow : OpenClaim := { program := "ytnoifjkgimlfaaadoor", sum := "79d2409f17b411bd3b367ea4c19b9a1abe80a90fc1ae71d0672790ab4a335875", func := "coldplug/coldpluglaw01.NameSplits", spec := "nameSplits", inPlace := ["internal/bytealg.CountString", "internal/bytealg.IndexByteString", "internal/bytealg.IndexString", "internal/abi.NoEscape", "internal/bytealg.MakeNoZero"], unfollowed := true, recurses := true, named := ["unicode/utf8.first", "unicode/utf8.acceptRanges", "internal/bytealg.MaxLen", "unicode.CaseRanges"], apart := false, laid := [("unicode/utf8.acceptRanges", laid_unicode_utf8_acceptRanges), ("unicode.CaseRanges", laid_unicode_CaseRanges), ("unicode/utf8.first", laid_unicode_utf8_first)] }
def NameSplitsSaid : Prop := nameSplitsRow.holds Tryd.pinned (OpenSpec.ofChange nameSplitsSpec)

/-- ITS FALSE NEIGHBOUR: 'it returns false'. Refute it at one input. -/
def nameSplitsWrong : ChangeSpec := { name := "nameSplits", fn := fun _ => fun
  | [d] => { results := [.lit (.bool false)], args := [d] }
  | _ => none }
def NameSplitsWrongFalsely : Prop := nameSplitsRow.holds Tryd.pinned (OpenSpec.ofChange nameSplitsWrong)

/-- 'coldpluglaw01.NameCleans': WHATEVER THE INPUT: true; the input reads as it did. -/
def nameCleansSpec : ChangeSpec := { name := "nameCleans", fn := fun _ => fun
  | [d] => { results := [.lit (.bool true)], args := [d] }
  | _ => none }
def nameCleansRow : OpenClaim := { program := "ytnoifjkgimlfaaadoor", sum := "79d2409f17b411bd3b367ea4c19b9a1abe80a90fc1ae71d0672790ab4a335875", func := "coldplug/coldpluglaw01.NameCleans", spec := "nameCleans", inPlace := ["internal/bytealg.CountString", "internal/bytealg.IndexByteString", "internal/bytealg.IndexString", "internal/abi.NoEscape", "internal/bytealg.MakeNoZero"], unfollowed := true, recurses := true, named := ["unicode/utf8.first", "unicode/utf8.acceptRanges", "internal/bytealg.MaxLen", "unicode.CaseRanges"], apart := false, laid := [("unicode/utf8.acceptRanges", laid_unicode_utf8_acceptRanges), ("unicode.CaseRanges", laid_unicode_CaseRanges), ("unicode/utf8.first", laid_unicode_utf8_first)] }
def NameCleansSaid : Prop := nameCleansRow.holds Tryd.pinned (OpenSpec.ofChange nameCleansSpec)

/-- ITS FALSE NEIGHBOUR: 'it returns false'. Refute it at one input. -/
def nameCleansWrong : ChangeSpec := { name := "nameCleans", fn := fun _ => fun
  | [d] => { results := [.lit (.bool false)], args := [d] }
  | _ => none }
def NameCleansWrongFalsely : Prop := nameCleansRow.holds Tryd.pinned (OpenSpec.ofChange nameCleansWrong)

/-- 'coldpluglaw01.NameLinks': WHATEVER THE INPUT: true; the input reads as it did. -/
def nameLinksSpec : ChangeSpec := { name := "nameLinks", fn := fun _ => fun
  | [d] => { results := [.lit (.bool true)], args := [d] }
  | _ => none }
def nameLinksRow : OpenClaim := { program := "ytnoifjkgimlfaaadoor", sum := "79d2409f17b411bd3b367ea4c19b9a1abe80a90fc1ae71d0672790ab4a335875", func := "coldplug/coldpluglaw01.NameLinks", spec := "nameLinks", inPlace := ["internal/bytealg.CountString", "internal/bytealg.IndexByteString", "internal/bytealg.IndexString", "internal/abi.NoEscape", "internal/bytealg.MakeNoZero"], unfollowed := true, recurses := true, named := ["unicode/utf8.first", "unicode/utf8.acceptRanges", "internal/bytealg.MaxLen", "unicode.CaseRanges"], apart := false, laid := [("unicode/utf8.acceptRanges", laid_unicode_utf8_acceptRanges), ("unicode.CaseRanges", laid_unicode_CaseRanges), ("unicode/utf8.first", laid_unicode_utf8_first)] }
def NameLinksSaid : Prop := nameLinksRow.holds Tryd.pinned (OpenSpec.ofChange nameLinksSpec)

/-- ITS FALSE NEIGHBOUR: 'it returns false'. Refute it at one input. -/
def nameLinksWrong : ChangeSpec := { name := "nameLinks", fn := fun _ => fun
  | [d] => { results := [.lit (.bool false)], args := [d] }
  | _ => none }
def NameLinksWrongFalsely : Prop := nameLinksRow.holds Tryd.pinned (OpenSpec.ofChange nameLinksWrong)

/-- 'coldpluglaw01.NameBeneath': WHATEVER THE INPUT: true; the input reads as it did. -/
def nameBeneathSpec : ChangeSpec := { name := "nameBeneath", fn := fun _ => fun
  | [d1, d2] => { results := [.lit (.bool true)], args := [d1, d2] }
  | _ => none }
def nameBeneathRow : OpenClaim := { program := "ytnoifjkgimlfaaadoor", sum := "79d2409f17b411bd3b367ea4c19b9a1abe80a90fc1ae71d0672790ab4a335875", func := "coldplug/coldpluglaw01.NameBeneath", spec := "nameBeneath", inPlace := ["internal/bytealg.CountString", "internal/bytealg.IndexByteString", "internal/bytealg.IndexString", "internal/abi.NoEscape", "internal/bytealg.MakeNoZero"], unfollowed := true, recurses := true, named := ["unicode/utf8.first", "unicode/utf8.acceptRanges", "internal/bytealg.MaxLen", "unicode.CaseRanges"], apart := false, laid := [("unicode/utf8.acceptRanges", laid_unicode_utf8_acceptRanges), ("unicode.CaseRanges", laid_unicode_CaseRanges), ("unicode/utf8.first", laid_unicode_utf8_first)] }
def NameBeneathSaid : Prop := nameBeneathRow.holds Tryd.pinned (OpenSpec.ofChange nameBeneathSpec)

/-- ITS FALSE NEIGHBOUR: 'it returns false'. Refute it at one input. -/
def nameBeneathWrong : ChangeSpec := { name := "nameBeneath", fn := fun _ => fun
  | [d1, d2] => { results := [.lit (.bool false)], args := [d1, d2] }
  | _ => none }
def NameBeneathWrongFalsely : Prop := nameBeneathRow.holds Tryd.pinned (OpenSpec.ofChange nameBeneathWrong)

/-- 'coldpluglaw01.NameJoins': WHATEVER THE INPUT: true; the input reads as it did. -/
def nameJoinsSpec : ChangeSpec := { name := "nameJoins", fn := fun _ => fun
  | [d] => { results := [.lit (.bool true)], args := [d] }
  | _ => none }
def nameJoinsRow : OpenClaim := { program := "ytnoifjkgimlfaaadoor", sum := "79d2409f17b411bd3b367ea4c19b9a1abe80a90fc1ae71d0672790ab4a335875", func := "coldplug/coldpluglaw01.NameJoins", spec := "nameJoins", inPlace := ["internal/bytealg.CountString", "internal/bytealg.IndexByteString", "internal/bytealg.IndexString", "internal/abi.NoEscape", "internal/bytealg.MakeNoZero"], unfollowed := true, recurses := true, named := ["unicode/utf8.first", "unicode/utf8.acceptRanges", "internal/bytealg.MaxLen", "unicode.CaseRanges"], apart := false, laid := [("unicode/utf8.acceptRanges", laid_unicode_utf8_acceptRanges), ("unicode.CaseRanges", laid_unicode_CaseRanges), ("unicode/utf8.first", laid_unicode_utf8_first)] }
def NameJoinsSaid : Prop := nameJoinsRow.holds Tryd.pinned (OpenSpec.ofChange nameJoinsSpec)

/-- ITS FALSE NEIGHBOUR: 'it returns false'. Refute it at one input. -/
def nameJoinsWrong : ChangeSpec := { name := "nameJoins", fn := fun _ => fun
  | [d] => { results := [.lit (.bool false)], args := [d] }
  | _ => none }
def NameJoinsWrongFalsely : Prop := nameJoinsRow.holds Tryd.pinned (OpenSpec.ofChange nameJoinsWrong)

/-- 'coldpluglaw01.NameNumbers': WHATEVER THE INPUT: true; the input reads as it did. -/
def nameNumbersSpec : ChangeSpec := { name := "nameNumbers", fn := fun _ => fun
  | [d] => { results := [.lit (.bool true)], args := [d] }
  | _ => none }
def nameNumbersRow : OpenClaim := { program := "ytnoifjkgimlfaaadoor", sum := "79d2409f17b411bd3b367ea4c19b9a1abe80a90fc1ae71d0672790ab4a335875", func := "coldplug/coldpluglaw01.NameNumbers", spec := "nameNumbers", inPlace := ["internal/bytealg.CountString", "internal/bytealg.IndexByteString", "internal/bytealg.IndexString", "internal/abi.NoEscape", "internal/bytealg.MakeNoZero"], unfollowed := true, recurses := true, named := ["unicode/utf8.first", "unicode/utf8.acceptRanges", "internal/bytealg.MaxLen", "unicode.CaseRanges"], apart := false, laid := [("unicode/utf8.acceptRanges", laid_unicode_utf8_acceptRanges), ("unicode.CaseRanges", laid_unicode_CaseRanges), ("unicode/utf8.first", laid_unicode_utf8_first)] }
def NameNumbersSaid : Prop := nameNumbersRow.holds Tryd.pinned (OpenSpec.ofChange nameNumbersSpec)

/-- ITS FALSE NEIGHBOUR: 'it returns false'. Refute it at one input. -/
def nameNumbersWrong : ChangeSpec := { name := "nameNumbers", fn := fun _ => fun
  | [d] => { results := [.lit (.bool false)], args := [d] }
  | _ => none }
def NameNumbersWrongFalsely : Prop := nameNumbersRow.holds Tryd.pinned (OpenSpec.ofChange nameNumbersWrong)

/-- 'coldpluglaw01.NameOrders': WHATEVER THE INPUT: true; the input reads as it did. -/
def nameOrdersSpec : ChangeSpec := { name := "nameOrders", fn := fun _ => fun
  | [d1, d2, d3] => { results := [.lit (.bool true)], args := [d1, d2, d3] }
  | _ => none }
def nameOrdersRow : OpenClaim := { program := "ytnoifjkgimlfaaadoor", sum := "79d2409f17b411bd3b367ea4c19b9a1abe80a90fc1ae71d0672790ab4a335875", func := "coldplug/coldpluglaw01.NameOrders", spec := "nameOrders", inPlace := ["internal/bytealg.CountString", "internal/bytealg.IndexByteString", "internal/bytealg.IndexString", "internal/abi.NoEscape", "internal/bytealg.MakeNoZero"], unfollowed := true, recurses := true, named := ["unicode/utf8.first", "unicode/utf8.acceptRanges", "internal/bytealg.MaxLen", "unicode.CaseRanges"], apart := false, laid := [("unicode/utf8.acceptRanges", laid_unicode_utf8_acceptRanges), ("unicode.CaseRanges", laid_unicode_CaseRanges), ("unicode/utf8.first", laid_unicode_utf8_first)] }
def NameOrdersSaid : Prop := nameOrdersRow.holds Tryd.pinned (OpenSpec.ofChange nameOrdersSpec)

/-- ITS FALSE NEIGHBOUR: 'it returns false'. Refute it at one input. -/
def nameOrdersWrong : ChangeSpec := { name := "nameOrders", fn := fun _ => fun
  | [d1, d2, d3] => { results := [.lit (.bool false)], args := [d1, d2, d3] }
  | _ => none }
def NameOrdersWrongFalsely : Prop := nameOrdersRow.holds Tryd.pinned (OpenSpec.ofChange nameOrdersWrong)

/-- 'coldpluglaw01.NameCompares': WHATEVER THE INPUT: true; the input reads as it did. -/
def nameComparesSpec : ChangeSpec := { name := "nameCompares", fn := fun _ => fun
  | [d1, d2] => { results := [.lit (.bool true)], args := [d1, d2] }
  | _ => none }
def nameComparesRow : OpenClaim := { program := "ytnoifjkgimlfaaadoor", sum := "79d2409f17b411bd3b367ea4c19b9a1abe80a90fc1ae71d0672790ab4a335875", func := "coldplug/coldpluglaw01.NameCompares", spec := "nameCompares", inPlace := ["internal/bytealg.CountString", "internal/bytealg.IndexByteString", "internal/bytealg.IndexString", "internal/abi.NoEscape", "internal/bytealg.MakeNoZero", "internal/bytealg.abigen_runtime_cmpstring"], unfollowed := true, recurses := true, named := ["unicode/utf8.first", "unicode/utf8.acceptRanges", "internal/bytealg.MaxLen", "unicode.CaseRanges"], apart := false, laid := [("unicode/utf8.acceptRanges", laid_unicode_utf8_acceptRanges), ("unicode.CaseRanges", laid_unicode_CaseRanges), ("unicode/utf8.first", laid_unicode_utf8_first)] }
def NameComparesSaid : Prop := nameComparesRow.holds Tryd.pinned (OpenSpec.ofChange nameComparesSpec)

/-- ITS FALSE NEIGHBOUR: 'it returns false'. Refute it at one input. -/
def nameComparesWrong : ChangeSpec := { name := "nameCompares", fn := fun _ => fun
  | [d1, d2] => { results := [.lit (.bool false)], args := [d1, d2] }
  | _ => none }
def NameComparesWrongFalsely : Prop := nameComparesRow.holds Tryd.pinned (OpenSpec.ofChange nameComparesWrong)

/-- 'coldpluglaw01.NameValids': WHATEVER THE INPUT: true; the input reads as it did. -/
def nameValidsSpec : ChangeSpec := { name := "nameValids", fn := fun _ => fun
  | [d] => { results := [.lit (.bool true)], args := [d] }
  | _ => none }
def nameValidsRow : OpenClaim := { program := "ytnoifjkgimlfaaadoor", sum := "79d2409f17b411bd3b367ea4c19b9a1abe80a90fc1ae71d0672790ab4a335875", func := "coldplug/coldpluglaw01.NameValids", spec := "nameValids", inPlace := ["internal/bytealg.CountString", "internal/bytealg.IndexByteString", "internal/bytealg.IndexString", "internal/abi.NoEscape", "internal/bytealg.MakeNoZero"], unfollowed := true, recurses := true, named := ["unicode/utf8.first", "unicode/utf8.acceptRanges", "internal/bytealg.MaxLen", "unicode.CaseRanges"], apart := false, laid := [("unicode/utf8.acceptRanges", laid_unicode_utf8_acceptRanges), ("unicode.CaseRanges", laid_unicode_CaseRanges), ("unicode/utf8.first", laid_unicode_utf8_first)] }
def NameValidsSaid : Prop := nameValidsRow.holds Tryd.pinned (OpenSpec.ofChange nameValidsSpec)

/-- ITS FALSE NEIGHBOUR: 'it returns false'. Refute it at one input. -/
def nameValidsWrong : ChangeSpec := { name := "nameValids", fn := fun _ => fun
  | [d] => { results := [.lit (.bool false)], args := [d] }
  | _ => none }
def NameValidsWrongFalsely : Prop := nameValidsRow.holds Tryd.pinned (OpenSpec.ofChange nameValidsWrong)

/- THE SECOND FORM. 'bulk': how many values and letters a reading holds, each counted each time it is reached (what is shared counts as often as it is met; a slice's spare places count too). A statement '..UptoSaid' is the law's where the arguments, and the package variables that the reading takes, are together of bulk at most 1048576: NARROWER than '..Said'. Prove '..Said' where nothing that the law and all that it calls make is longer than what came in: it says more and counts as full. Else prove '..UptoSaid'. A law counts once. -/
mutual
def uptoBulk {H : Type} : DataW H → Nat
  | .lit (.string bytes) => bytes.length + 1
  | .lit _ => 1
  | .nil => 1
  | .ptr d => uptoBulk d + 1
  | .slice elems spare => uptoBulkAll elems + uptoBulkAll spare + 1
  | .agg parts => uptoBulkAll parts + 1
  | .iface _ d => uptoBulk d + 1
  | .map entries => uptoBulkEntries entries + 1
  | .held _ => 1
def uptoBulkAll {H : Type} : List (DataW H) → Nat
  | [] => 0
  | d :: r => uptoBulk d + uptoBulkAll r
def uptoBulkEntries {H : Type} : List (Lit × DataW H) → Nat
  | [] => 0
  | x :: r => uptoBulkEntry x + uptoBulkEntries r
def uptoBulkEntry {H : Type} : Lit × DataW H → Nat
  | (.string bytes, d) => bytes.length + uptoBulk d + 1
  | (_, d) => uptoBulk d + 1
 end
def uptoSmall : (H : Type) → List (DataW H) → Bool := fun _ ds => decide (uptoBulkAll ds ≤ 1048576)
def OpenSpec.upto (s : _root_.Go.ChangeSpec) : _root_.Go.OpenSpec := { _root_.Go.OpenSpec.ofChange s with cond := some uptoSmall }

/-- 'coldpluglaw01.NameSplits', WHERE WHAT IT READS IS OF BULK AT MOST 1048576: true; the input reads as it did. -/
def nameSplitsUptoRow : OpenClaim := { program := "ytnoifjkgimlfaaadoor", sum := "79d2409f17b411bd3b367ea4c19b9a1abe80a90fc1ae71d0672790ab4a335875", func := "coldplug/coldpluglaw01.NameSplits", spec := "nameSplits", inPlace := ["internal/bytealg.CountString", "internal/bytealg.IndexByteString", "internal/bytealg.IndexString", "internal/abi.NoEscape", "internal/bytealg.MakeNoZero"], unfollowed := true, recurses := true, named := ["unicode/utf8.first", "unicode/utf8.acceptRanges", "internal/bytealg.MaxLen", "unicode.CaseRanges"], apart := false, laid := [("unicode/utf8.acceptRanges", laid_unicode_utf8_acceptRanges), ("unicode.CaseRanges", laid_unicode_CaseRanges), ("unicode/utf8.first", laid_unicode_utf8_first)], narrowed := true }
def NameSplitsUptoSaid : Prop := nameSplitsUptoRow.holds Tryd.pinned (OpenSpec.upto nameSplitsSpec)

/-- 'coldpluglaw01.NameCleans', WHERE WHAT IT READS IS OF BULK AT MOST 1048576: true; the input reads as it did. -/
def nameCleansUptoRow : OpenClaim := { program := "ytnoifjkgimlfaaadoor", sum := "79d2409f17b411bd3b367ea4c19b9a1abe80a90fc1ae71d0672790ab4a335875", func := "coldplug/coldpluglaw01.NameCleans", spec := "nameCleans", inPlace := ["internal/bytealg.CountString", "internal/bytealg.IndexByteString", "internal/bytealg.IndexString", "internal/abi.NoEscape", "internal/bytealg.MakeNoZero"], unfollowed := true, recurses := true, named := ["unicode/utf8.first", "unicode/utf8.acceptRanges", "internal/bytealg.MaxLen", "unicode.CaseRanges"], apart := false, laid := [("unicode/utf8.acceptRanges", laid_unicode_utf8_acceptRanges), ("unicode.CaseRanges", laid_unicode_CaseRanges), ("unicode/utf8.first", laid_unicode_utf8_first)], narrowed := true }
def NameCleansUptoSaid : Prop := nameCleansUptoRow.holds Tryd.pinned (OpenSpec.upto nameCleansSpec)

/-- 'coldpluglaw01.NameLinks', WHERE WHAT IT READS IS OF BULK AT MOST 1048576: true; the input reads as it did. -/
def nameLinksUptoRow : OpenClaim := { program := "ytnoifjkgimlfaaadoor", sum := "79d2409f17b411bd3b367ea4c19b9a1abe80a90fc1ae71d0672790ab4a335875", func := "coldplug/coldpluglaw01.NameLinks", spec := "nameLinks", inPlace := ["internal/bytealg.CountString", "internal/bytealg.IndexByteString", "internal/bytealg.IndexString", "internal/abi.NoEscape", "internal/bytealg.MakeNoZero"], unfollowed := true, recurses := true, named := ["unicode/utf8.first", "unicode/utf8.acceptRanges", "internal/bytealg.MaxLen", "unicode.CaseRanges"], apart := false, laid := [("unicode/utf8.acceptRanges", laid_unicode_utf8_acceptRanges), ("unicode.CaseRanges", laid_unicode_CaseRanges), ("unicode/utf8.first", laid_unicode_utf8_first)], narrowed := true }
def NameLinksUptoSaid : Prop := nameLinksUptoRow.holds Tryd.pinned (OpenSpec.upto nameLinksSpec)

/-- 'coldpluglaw01.NameBeneath', WHERE WHAT IT READS IS OF BULK AT MOST 1048576: true; the input reads as it did. -/
def nameBeneathUptoRow : OpenClaim := { program := "ytnoifjkgimlfaaadoor", sum := "79d2409f17b411bd3b367ea4c19b9a1abe80a90fc1ae71d0672790ab4a335875", func := "coldplug/coldpluglaw01.NameBeneath", spec := "nameBeneath", inPlace := ["internal/bytealg.CountString", "internal/bytealg.IndexByteString", "internal/bytealg.IndexString", "internal/abi.NoEscape", "internal/bytealg.MakeNoZero"], unfollowed := true, recurses := true, named := ["unicode/utf8.first", "unicode/utf8.acceptRanges", "internal/bytealg.MaxLen", "unicode.CaseRanges"], apart := false, laid := [("unicode/utf8.acceptRanges", laid_unicode_utf8_acceptRanges), ("unicode.CaseRanges", laid_unicode_CaseRanges), ("unicode/utf8.first", laid_unicode_utf8_first)], narrowed := true }
def NameBeneathUptoSaid : Prop := nameBeneathUptoRow.holds Tryd.pinned (OpenSpec.upto nameBeneathSpec)

/-- 'coldpluglaw01.NameJoins', WHERE WHAT IT READS IS OF BULK AT MOST 1048576: true; the input reads as it did. -/
def nameJoinsUptoRow : OpenClaim := { program := "ytnoifjkgimlfaaadoor", sum := "79d2409f17b411bd3b367ea4c19b9a1abe80a90fc1ae71d0672790ab4a335875", func := "coldplug/coldpluglaw01.NameJoins", spec := "nameJoins", inPlace := ["internal/bytealg.CountString", "internal/bytealg.IndexByteString", "internal/bytealg.IndexString", "internal/abi.NoEscape", "internal/bytealg.MakeNoZero"], unfollowed := true, recurses := true, named := ["unicode/utf8.first", "unicode/utf8.acceptRanges", "internal/bytealg.MaxLen", "unicode.CaseRanges"], apart := false, laid := [("unicode/utf8.acceptRanges", laid_unicode_utf8_acceptRanges), ("unicode.CaseRanges", laid_unicode_CaseRanges), ("unicode/utf8.first", laid_unicode_utf8_first)], narrowed := true }
def NameJoinsUptoSaid : Prop := nameJoinsUptoRow.holds Tryd.pinned (OpenSpec.upto nameJoinsSpec)

/-- 'coldpluglaw01.NameNumbers', WHERE WHAT IT READS IS OF BULK AT MOST 1048576: true; the input reads as it did. -/
def nameNumbersUptoRow : OpenClaim := { program := "ytnoifjkgimlfaaadoor", sum := "79d2409f17b411bd3b367ea4c19b9a1abe80a90fc1ae71d0672790ab4a335875", func := "coldplug/coldpluglaw01.NameNumbers", spec := "nameNumbers", inPlace := ["internal/bytealg.CountString", "internal/bytealg.IndexByteString", "internal/bytealg.IndexString", "internal/abi.NoEscape", "internal/bytealg.MakeNoZero"], unfollowed := true, recurses := true, named := ["unicode/utf8.first", "unicode/utf8.acceptRanges", "internal/bytealg.MaxLen", "unicode.CaseRanges"], apart := false, laid := [("unicode/utf8.acceptRanges", laid_unicode_utf8_acceptRanges), ("unicode.CaseRanges", laid_unicode_CaseRanges), ("unicode/utf8.first", laid_unicode_utf8_first)], narrowed := true }
def NameNumbersUptoSaid : Prop := nameNumbersUptoRow.holds Tryd.pinned (OpenSpec.upto nameNumbersSpec)

/-- 'coldpluglaw01.NameOrders', WHERE WHAT IT READS IS OF BULK AT MOST 1048576: true; the input reads as it did. -/
def nameOrdersUptoRow : OpenClaim := { program := "ytnoifjkgimlfaaadoor", sum := "79d2409f17b411bd3b367ea4c19b9a1abe80a90fc1ae71d0672790ab4a335875", func := "coldplug/coldpluglaw01.NameOrders", spec := "nameOrders", inPlace := ["internal/bytealg.CountString", "internal/bytealg.IndexByteString", "internal/bytealg.IndexString", "internal/abi.NoEscape", "internal/bytealg.MakeNoZero"], unfollowed := true, recurses := true, named := ["unicode/utf8.first", "unicode/utf8.acceptRanges", "internal/bytealg.MaxLen", "unicode.CaseRanges"], apart := false, laid := [("unicode/utf8.acceptRanges", laid_unicode_utf8_acceptRanges), ("unicode.CaseRanges", laid_unicode_CaseRanges), ("unicode/utf8.first", laid_unicode_utf8_first)], narrowed := true }
def NameOrdersUptoSaid : Prop := nameOrdersUptoRow.holds Tryd.pinned (OpenSpec.upto nameOrdersSpec)

/-- 'coldpluglaw01.NameCompares', WHERE WHAT IT READS IS OF BULK AT MOST 1048576: true; the input reads as it did. -/
def nameComparesUptoRow : OpenClaim := { program := "ytnoifjkgimlfaaadoor", sum := "79d2409f17b411bd3b367ea4c19b9a1abe80a90fc1ae71d0672790ab4a335875", func := "coldplug/coldpluglaw01.NameCompares", spec := "nameCompares", inPlace := ["internal/bytealg.CountString", "internal/bytealg.IndexByteString", "internal/bytealg.IndexString", "internal/abi.NoEscape", "internal/bytealg.MakeNoZero", "internal/bytealg.abigen_runtime_cmpstring"], unfollowed := true, recurses := true, named := ["unicode/utf8.first", "unicode/utf8.acceptRanges", "internal/bytealg.MaxLen", "unicode.CaseRanges"], apart := false, laid := [("unicode/utf8.acceptRanges", laid_unicode_utf8_acceptRanges), ("unicode.CaseRanges", laid_unicode_CaseRanges), ("unicode/utf8.first", laid_unicode_utf8_first)], narrowed := true }
def NameComparesUptoSaid : Prop := nameComparesUptoRow.holds Tryd.pinned (OpenSpec.upto nameComparesSpec)

/-- 'coldpluglaw01.NameValids', WHERE WHAT IT READS IS OF BULK AT MOST 1048576: true; the input reads as it did. -/
def nameValidsUptoRow : OpenClaim := { program := "ytnoifjkgimlfaaadoor", sum := "79d2409f17b411bd3b367ea4c19b9a1abe80a90fc1ae71d0672790ab4a335875", func := "coldplug/coldpluglaw01.NameValids", spec := "nameValids", inPlace := ["internal/bytealg.CountString", "internal/bytealg.IndexByteString", "internal/bytealg.IndexString", "internal/abi.NoEscape", "internal/bytealg.MakeNoZero"], unfollowed := true, recurses := true, named := ["unicode/utf8.first", "unicode/utf8.acceptRanges", "internal/bytealg.MaxLen", "unicode.CaseRanges"], apart := false, laid := [("unicode/utf8.acceptRanges", laid_unicode_utf8_acceptRanges), ("unicode.CaseRanges", laid_unicode_CaseRanges), ("unicode/utf8.first", laid_unicode_utf8_first)], narrowed := true }
def NameValidsUptoSaid : Prop := nameValidsUptoRow.holds Tryd.pinned (OpenSpec.upto nameValidsSpec)

end Rows
end Go.Proofs.YtnoifjkgimlfaaaDoor
