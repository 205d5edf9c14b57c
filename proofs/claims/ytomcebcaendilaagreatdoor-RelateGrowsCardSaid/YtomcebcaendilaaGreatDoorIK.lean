/-
  The walk of package tree's Check.
-/
import Derived.Test.YtomcebcaendilaaGreatDoorIJ
set_option linter.unusedSimpArgs false
set_option linter.unusedVariables false
namespace Go.Cold
open Go Go.RowKit
end Go.Cold
namespace Go.Proofs.YtomcebcaendilaaGreatDoor
open Go.RowKit Go.Cold
end Go.Proofs.YtomcebcaendilaaGreatDoor
