/-
  The walk of layer 7's cursor.until, given what strings.IndexAny does at the text.
-/
import Derived.Test.YtnlocdhhecockaaGreatDoorCnN
import Derived.Lib.IndexAny
set_option linter.unusedSimpArgs false
set_option linter.unusedVariables false
namespace Go.Cold
open Go Go.RowKit
/-- How far 'until' goes. -/
def untilN (r ends : ByteArray) : Nat := if Lib.indexAny r.data.toList ends.data.toList < 0 then r.size else (Lib.indexAny r.data.toList ends.data.toList).toNat
theorem CurAt.below {w w' : World} {b k : Nat} {s : ByteArray} {bad : Bool} (h : CurAt w b s k bad) (hb : Below w.heap.size w w') : CurAt w' b s k bad ∧ w.grownBy w' (some b) := by
  obtain ⟨h0, h1, h2, hf, hlt⟩ := h
  refine ⟨⟨(hb.cell (p := ⟨b, 0, none⟩) hlt).trans h0, (hb.cell (p := ⟨b, 1, none⟩) hlt).trans h1, (hb.cell (p := ⟨b, 2, none⟩) hlt).trans h2, fun j => (hb.frozen (p := ⟨b, j, none⟩) hlt).trans (hf j), by have := hb.size; omega⟩, hb.os, hb.tape, hb.output, hb.size, fun q hq _ => hb.block q hq⟩
end Go.Cold
namespace Go.Proofs.YtnlocdhhecockaaGreatDoor
open Go.RowKit Go.Cold

def UntilPost (s ends : ByteArray) (k b : Nat) (bad : Bool) (w : World) (e : Ending) (w' : World) : Prop := e = .returned (.string ((s.extract k s.size).extract 0 (untilN (s.extract k s.size) ends))) ∧
  CurAt w' b s (k + untilN (s.extract k s.size) ends) bad ∧ w.grownBy w' (some b)
set_option maxRecDepth 10000 in
theorem until_any (s ends : ByteArray) (k b : Nat) (bad : Bool) (w : World) (hs : s.size ≤ 1000) (hk : k ≤ s.size) (hc : CurAt w b s k bad)
    (hlen : untilN (s.extract k s.size) ends ≤ (s.extract k s.size).size)
    (hix : ∀ W, Calls Tryz.prog 39 #[.string (s.extract k s.size), .string ends] W fun e W' => e = .returned (.int .i64 (Lib.indexAny (s.extract k s.size).data.toList ends.data.toList)) ∧ Below W.heap.size W W') :
    Calls Tryz.prog 23 #[.pointer (some ⟨b, 0, none⟩), .string ends] w (UntilPost s ends k b bad w) := by
  obtain ⟨h0, h1, h2, hf, hlt⟩ := id hc
  have HC := Lib.hid hc; clear hc
  have HIX := Lib.hid hix; clear hix
  have i1 : (k : Int) ≤ (s.size : Int) := by omega
  have hrs : (s.extract k s.size).size = s.size - k := by rw [ByteArray.size_extract]; omega
  have HLEN := Lib.hid hlen; clear hlen
  have HRS := Lib.hid hrs; clear hrs
  go_enter Tryz.func23, Tryz.ntmps23
  go_wp2_with fail
  go_quiet (fail)
  obtain ⟨c1, g1⟩ := cur_stay nq HC.out
  obtain ⟨r, hr⟩ : ∃ r, s.extract k s.size = r := ⟨_, rfl⟩
  rw [hr] at HIX HLEN HRS ⊢
  have HR := Lib.hid hr; clear hr
  have HC1 := Lib.hid c1; have HG1 := Lib.hid g1; clear c1 g1
  go_wp2_with fail
  refine (HIX.out _).mono ?_
  rintro e w1 ⟨rfl, hb1⟩
  obtain ⟨c2, g2⟩ := HC1.out.below hb1
  obtain ⟨p0, p1, p2, pf, plt⟩ := id c2
  have hun : untilN r ends = if Lib.indexAny r.data.toList ends.data.toList < 0 then r.size else (Lib.indexAny r.data.toList ends.data.toList).toNat := rfl
  have hl := HLEN.out
  have hrs := HRS.out
  obtain ⟨z, hz⟩ : ∃ z, Lib.indexAny r.data.toList ends.data.toList = z := ⟨_, rfl⟩
  rw [hz] at hun ⊢
  have HC2 := Lib.hid c2; have HG2 := Lib.hid g2; clear c2 g2 hb1 h0 h1 h2 hf hlt
  by_cases hz0 : z < 0
  · rw [if_pos hz0] at hun
    have HUN := Lib.hid hun; clear hun hl hz
    have i2 : (k : Int) + (r.size : Int) ≤ 1000 := by omega
    have HRS2 := Lib.hid hrs; clear hrs
    go_wp2
    go_ret
    obtain ⟨q1, q2⟩ := cur_step 0 r.size HC2.out
    unfold UntilPost
    rw [HR.out, HUN.out]
    refine ⟨ret_str ?_, q1, grown_trans (grown_trans HG1.out HG2.out) q2⟩
    exact (ByteArray.extract_zero_size (b := r)).symm
  · rw [if_neg hz0] at hun
    obtain ⟨m, rfl⟩ := Int.eq_ofNat_of_zero_le (show 0 ≤ z by omega)
    rw [Int.toNat_natCast] at hun
    rw [hun] at hl
    have HUN := Lib.hid hun; clear hun hz
    have i2 : (m : Int) ≤ (r.size : Int) := by omega
    have i3 : (k : Int) + (m : Int) ≤ 1000 := by omega
    have HRS2 := Lib.hid hrs; clear hrs
    go_wp2
    go_ret
    obtain ⟨q1, q2⟩ := cur_step 0 m HC2.out
    unfold UntilPost
    rw [HR.out, HUN.out]
    exact ⟨rfl, q1, grown_trans (grown_trans HG1.out HG2.out) q2⟩
end Go.Proofs.YtnlocdhhecockaaGreatDoor
