/-
  The walks of layer 7: the reference's depth.
-/
import Derived.Test.YtnlocdhhecockaaGreatDoorCnA
set_option linter.unusedSimpArgs false
set_option linter.unusedVariables false
namespace Go.Cold
open Go Go.RowKit
mutual
/-- The reference's depth: a content of kind 0 has none. -/
def depthR : Cont → Int
  | .mk k _ _ _ _ _ xs => if k = 0 then 0 else depthRL xs + 1
def depthRL : List Cont → Int
  | [] => 0
  | x :: xs => max (depthR x) (depthRL xs)
end
theorem depthRL_app (x : Cont) : ∀ xs : List Cont, depthRL (xs ++ [x]) = max (depthRL xs) (depthR x)
  | [] => by rw [List.nil_append, depthRL, depthRL, depthRL, Int.max_comm]
  | y :: ys => by rw [List.cons_append, depthRL, depthRL, depthRL_app x ys, Int.max_assoc]
mutual
theorem depthR_nonneg : ∀ a : Cont, 0 ≤ depthR a
  | .mk k _ _ _ _ _ xs => by
    have := depthRL_nonneg xs
    rw [depthR]; split <;> omega
theorem depthRL_nonneg : ∀ xs : List Cont, 0 ≤ depthRL xs
  | [] => by rw [depthRL]; omega
  | x :: xs => by
    have := depthR_nonneg x
    have := depthRL_nonneg xs
    rw [depthRL]; omega
end
mutual
theorem depthR_le_C : ∀ a : Cont, depthR a ≤ depthC a
  | .mk k _ _ _ _ _ xs => by
    have := depthRL_le_L xs
    have := depthL_nonneg xs
    rw [depthR, depthC]; split <;> omega
theorem depthRL_le_L : ∀ xs : List Cont, depthRL xs ≤ depthL xs
  | [] => by rw [depthRL, depthL]; omega
  | x :: xs => by
    have := depthR_le_C x
    have := depthRL_le_L xs
    rw [depthRL, depthL]; omega
end
end Go.Cold
