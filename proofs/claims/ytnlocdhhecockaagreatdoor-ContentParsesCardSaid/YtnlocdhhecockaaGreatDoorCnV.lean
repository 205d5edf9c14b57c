/-
  The plain side of layer 7, on: what the parser of the program reads. No program is named here.
-/
import Derived.Test.YtnlocdhhecockaaGreatDoorCnQ
import Derived.Test.YtnlocdhhecockaaGreatDoorCnT
set_option linter.unusedSimpArgs false
set_option linter.unusedVariables false
namespace Go.Cold
open Go Go.RowKit
/-- The piece of a text from a place on, up to the first byte of some. -/
def pieceP (s ends : ByteArray) (k : Nat) : ByteArray := (s.extract k s.size).extract 0 (untilN (s.extract k s.size) ends)
def afterP (s ends : ByteArray) (k : Nat) : Nat := k + untilN (s.extract k s.size) ends
/-- Behind a text that must stand here. -/
def wantP (s t : ByteArray) (k : Nat) : Option Nat := if skipB s k t then some (k + t.size) else none
/-- The number whose text this is. -/
def numP (t : ByteArray) : Option Int := match Lib.atoiAll t.data.toList with
  | .ok n => if Lib.itoa n = t.data.toList then some n else none
  | _ => none
def numAt (s : ByteArray) (k : Nat) : Option (Int × Nat) := (numP (pieceP s ⟨#[47, 40, 44, 41, 58]⟩ k)).map fun n => (n, afterP s ⟨#[47, 40, 44, 41, 58]⟩ k)
mutual
/-- The content at a place, and the place behind it; 'none' if the parser calls the text bad. -/
def contP (s : ByteArray) : Nat → Nat → Option (Cont × Nat)
  | 0, _ => none
  | f + 1, k =>
    let kind := pieceP s ⟨#[58, 44, 41]⟩ k
    let k1 := afterP s ⟨#[58, 44, 41]⟩ k
    if kind = ⟨#[]⟩ then some (.mk 0 ⟨#[]⟩ ⟨#[]⟩ 0 0 0 [], k1) else
    (wantP s ⟨#[58]⟩ k1).bind fun k2 =>
    let i := pieceP s ⟨#[58, 40, 44, 41]⟩ k2
    let k3 := afterP s ⟨#[58, 40, 44, 41]⟩ k2
    if kind = ⟨#[102, 115]⟩ then (wantP s ⟨#[58]⟩ k3).bind fun k4 => some (.mk 1 i (pieceP s ⟨#[44, 41]⟩ k4) 0 0 0 [], afterP s ⟨#[44, 41]⟩ k4)
    else if kind = ⟨#[114, 97, 105, 100]⟩ then
      (wantP s ⟨#[58]⟩ k3).bind fun k4 => (numAt s k4).bind fun (n1, k5) => (wantP s ⟨#[47]⟩ k5).bind fun k6 => (numAt s k6).bind fun (n2, k7) => (wantP s ⟨#[47]⟩ k7).bind fun k8 => (numAt s k8).bind fun (n3, k9) =>
      (wantP s ⟨#[40]⟩ k9).bind fun k10 => (innerP s f k10 []).map fun (xs, k11) => (.mk 2 i ⟨#[]⟩ n1 n2 n3 xs, k11)
    else if kind = ⟨#[99, 114, 121, 112, 116]⟩ then (wantP s ⟨#[40]⟩ k3).bind fun k10 => (innerP s f k10 []).map fun (xs, k11) => (.mk 3 i ⟨#[]⟩ 0 0 0 xs, k11)
    else if kind = ⟨#[112, 118]⟩ then
      (wantP s ⟨#[58]⟩ k3).bind fun k4 => (numAt s k4).bind fun (n1, k5) => (wantP s ⟨#[47]⟩ k5).bind fun k6 => (numAt s k6).bind fun (n2, k7) =>
      (wantP s ⟨#[40]⟩ k7).bind fun k10 => (innerP s f k10 []).map fun (xs, k11) => (.mk 4 i ⟨#[]⟩ n1 n2 0 xs, k11)
    else if kind = ⟨#[116, 97, 98, 108, 101]⟩ then (wantP s ⟨#[40]⟩ k3).bind fun k10 => (innerP s f k10 []).map fun (xs, k11) => (.mk 5 i ⟨#[]⟩ 0 0 0 xs, k11)
    else none
/-- The contents up to the closing bracket; xs are read. -/
def innerP (s : ByteArray) : Nat → Nat → List Cont → Option (List Cont × Nat)
  | 0, _, _ => none
  | f + 1, k, xs => (contP s f k).bind fun (x, k1) => if skipB s k1 ⟨#[41]⟩ then some (xs ++ [x], k1 + 1) else (wantP s ⟨#[44]⟩ k1).bind fun k2 => innerP s f k2 (xs ++ [x])
end
end Go.Cold
