/-
  The walks of the reference's Closed and Batch.
-/
import Derived.Test.YtomcebcaendilaaGreatDoorIRC
set_option linter.unusedSimpArgs false
set_option linter.unusedVariables false
namespace Go.Cold
open Go Go.RowKit
end Go.Cold
namespace Go.Proofs.YtomcebcaendilaaGreatDoor
open Go.RowKit Go.Cold
end Go.Proofs.YtomcebcaendilaaGreatDoor
namespace Go.Proofs.YtomcebcaendilaaGreatDoor
open Go.RowKit Go.Cold
end Go.Proofs.YtomcebcaendilaaGreatDoor
