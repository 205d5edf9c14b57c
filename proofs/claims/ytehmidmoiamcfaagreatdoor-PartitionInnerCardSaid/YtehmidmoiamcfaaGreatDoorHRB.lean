/-
  The walks of package relate: partition, Partition, Sisters; of the reference: Partition, Sisters.
-/
import Derived.Test.YtehmidmoiamcfaaGreatDoorHD
import Derived.Test.YtehmidmoiamcfaaGreatDoorHO
import Derived.Test.YtehmidmoiamcfaaGreatDoorHSH
import Derived.Test.YtehmidmoiamcfaaGreatDoorHRF
import Derived.Test.YtehmidmoiamcfaaGreatDoorHA
import Derived.Test.YtehmidmoiamcfaaGreatDoorHTC
import Derived.Test.YtehmidmoiamcfaaGreatDoorHTA
import Derived.Test.YtehmidmoiamcfaaGreatDoorHTB
import Derived.Deep.RegionHeld3
set_option linter.unusedSimpArgs false
set_option linter.unusedVariables false
namespace Go.Cold
open Go Go.RowKit
end Go.Cold
namespace Go.Proofs.YtehmidmoiamcfaaGreatDoor
open Go.RowKit Go.Cold
end Go.Proofs.YtehmidmoiamcfaaGreatDoor
namespace Go.Cold
open Go Go.RowKit
end Go.Cold
namespace Go.Proofs.YtehmidmoiamcfaaGreatDoor
open Go.RowKit Go.Cold
end Go.Proofs.YtehmidmoiamcfaaGreatDoor
namespace Go.Cold
open Go Go.RowKit
end Go.Cold
namespace Go.Cold
open Go Go.RowKit
end Go.Cold
namespace Go.Cold
open Go Go.RowKit
section
variable {α : Type} [RepS α] {N N' F : Nat → Prop} {w w' : World} {A : Option Addr} {c q base : Nat} {T : TypeId} {v : Value} {l : List α}
end
end Go.Cold
namespace Go.Cold
open Go Go.RowKit Go.Proofs.YtehmidmoiamcfaaGreatDoor
end Go.Cold
namespace Go.Cold
open Go Go.RowKit Go.Proofs.YtehmidmoiamcfaaGreatDoor
end Go.Cold
namespace Go.Cold
open Go Go.RowKit Go.Proofs.YtehmidmoiamcfaaGreatDoor
end Go.Cold
namespace Go.Cold
open Go Go.RowKit Go.Proofs.YtehmidmoiamcfaaGreatDoor
end Go.Cold
namespace Go.Cold
open Go Go.RowKit Go.Proofs.YtehmidmoiamcfaaGreatDoor
end Go.Cold
namespace Go.Proofs.YtehmidmoiamcfaaGreatDoor
open Go.RowKit Go.Cold
end Go.Proofs.YtehmidmoiamcfaaGreatDoor
