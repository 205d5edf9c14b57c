/-
  The walk of the reference's Remove.
-/
import Derived.Test.YtehmidmoiamcfaaGreatDoorETB
import Derived.Test.YtehmidmoiamcfaaGreatDoorERB
import Derived.Test.YtehmidmoiamcfaaGreatDoorES
set_option linter.unusedSimpArgs false
set_option linter.unusedVariables false
namespace Go.Cold
open Go Go.RowKit
end Go.Cold
namespace Go.Proofs.YtehmidmoiamcfaaGreatDoor
open Go.RowKit Go.Cold
/-- What a function answers that makes a tree: the error, and the tree. -/
def TreF (F : Nat → Prop) (z : Int) (l : List Dev) (w : World) (e : Ending) (w' : World) : Prop := Below w.heap.size w w' ∧ ∃ v, e = .returned (.tuple #[.agg #[v], .int .i64 z]) ∧ OwnsS F w' w.heap.size 43 v l
theorem TreF.err {F : Nat → Prop} {z : Int} {w w' : World} {e : Ending} (h1 : Below w.heap.size w w') (h2 : e = .returned (.tuple #[.agg #[.slice none 0 0], .int .i64 z])) : TreF F z [] w e w' := ⟨h1, _, h2, OwnsS.nil_ _ _ _ _⟩
end Go.Proofs.YtehmidmoiamcfaaGreatDoor
namespace Go.Proofs.YtehmidmoiamcfaaGreatDoor
open Go.RowKit Go.Cold
/-- tree.Insert. -/
theorem Insert_any (A : Option Addr) (c : Nat) (L : List Dev) (d : Dev) (A2 : Option Addr) (c2 : Nat) (w : World) (B : Nat) (hB : B ≤ w.heap.size) (hx : Sl w B A c L) (hd : devOk d) (ha : Sl w B A2 c2 d.attrs) (hsm : d.orig.size ≤ 2147483648) (hvt : VT L) (hok : Ok w) :
  Calls Tryz.prog 32 #[.agg #[.slice A L.length c], .agg #[.int .i64 d.idx, .int .i64 d.par, .string d.nm, .string d.orig, .string d.sub, .string d.drv, .string d.ali, .int .i64 d.kind, .int .i64 d.num, .slice A2 d.attrs.length c2]] w (TreF (fun b => w.heap.size ≤ b) (insE L d) (insR L d) w) := by
 by_cases he : progE L d = 0
 ·
  refine (Insert_new A c L d A2 c2 w B hB hx hd ha hsm hvt hok he).mono ?_
  rintro e w' ⟨h1, v, h2, h3⟩
  rw [prog_ins hvt] at he
  rw [he, show insR L d = insL L d by unfold insR; rw [if_pos he]]
  exact ⟨h1, v, h2, h3⟩
 ·
  refine (Insert_err A c L d A2 c2 w B hB hx hd ha hsm hvt hok he).mono ?_
  rintro e w' ⟨h1, h2⟩
  rw [prog_ins hvt] at he h2
  rw [show insR L d = [] by unfold insR; rw [if_neg he]]
  exact TreF.err h1 h2
end Go.Proofs.YtehmidmoiamcfaaGreatDoor
