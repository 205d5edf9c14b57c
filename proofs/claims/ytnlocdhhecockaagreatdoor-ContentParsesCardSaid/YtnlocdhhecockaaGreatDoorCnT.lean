/-
  The plain side of layer 7, on: the text of a content, as content.text makes it. No program is named here.
-/
import Derived.Test.YtnlocdhhecockaaGreatDoorCnK
import Derived.Lib.Join
import Derived.Lib.ItoaNum
set_option linter.unusedSimpArgs false
set_option linter.unusedVariables false
namespace Go.Cold
open Go Go.RowKit
/-- A number from 0 to 99 as a text. -/
def numT (n : Int) : ByteArray := ⟨(Lib.decDigits n.toNat).toArray⟩
/-- Texts, with a comma between two. -/
def commaB (xs : List ByteArray) : ByteArray := ⟨(Lib.join (xs.map (·.data.toList)) [44]).toArray⟩
mutual
/-- The text of a content whose numbers are from 0 to 99. -/
def textC : Cont → ByteArray
  | .mk k i l s t e xs =>
    if k = 1 then ((⟨#[102, 115, 58]⟩ ++ i) ++ ⟨#[58]⟩) ++ l
    else if k = 2 then ((((((⟨#[114, 97, 105, 100, 58]⟩ ++ i) ++ ⟨#[58]⟩) ++ numT s) ++ ⟨#[47]⟩ ++ numT t) ++ ⟨#[47]⟩) ++ numT e) ++ ((⟨#[40]⟩ ++ commaB (textL xs)) ++ ⟨#[41]⟩)
    else if k = 3 then (⟨#[99, 114, 121, 112, 116, 58]⟩ ++ i) ++ ((⟨#[40]⟩ ++ commaB (textL xs)) ++ ⟨#[41]⟩)
    else if k = 4 then (((((⟨#[112, 118, 58]⟩ ++ i) ++ ⟨#[58]⟩) ++ numT s) ++ ⟨#[47]⟩) ++ numT t) ++ ((⟨#[40]⟩ ++ commaB (textL xs)) ++ ⟨#[41]⟩)
    else if k = 5 then (⟨#[116, 97, 98, 108, 101, 58]⟩ ++ i) ++ ((⟨#[40]⟩ ++ commaB (textL xs)) ++ ⟨#[41]⟩)
    else ⟨#[]⟩
def textL : List Cont → List ByteArray
  | [] => []
  | x :: xs => textC x :: textL xs
end
theorem textL_app (x : Cont) : ∀ xs : List Cont, textL (xs ++ [x]) = textL xs ++ [textC x]
  | [] => by rw [List.nil_append, textL, textL, textL, List.nil_append]
  | y :: ys => by rw [List.cons_append, textL, textL, textL_app x ys, List.cons_append]
theorem textL_length : ∀ xs : List Cont, (textL xs).length = xs.length
  | [] => by rw [textL]; rfl
  | x :: xs => by rw [textL, List.length_cons, List.length_cons, textL_length xs]
end Go.Cold
