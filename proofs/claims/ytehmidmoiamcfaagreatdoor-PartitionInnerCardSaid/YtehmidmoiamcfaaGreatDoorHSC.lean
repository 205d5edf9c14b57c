/-
  The walks of coldplugmake's Fold and Tape.
-/
import Derived.Test.YtehmidmoiamcfaaGreatDoorHA
import Derived.Test.YtehmidmoiamcfaaGreatDoorHD
import Derived.Test.YtehmidmoiamcfaaGreatDoorHSA
import Derived.Lib.IndexAny
import Derived.Test.YtehmidmoiamcfaaGreatDoorHSB
import Derived.Lib.Join
import Derived.Lib.ItoaNum
import Derived.BigQuiet
set_option linter.unusedSimpArgs false
set_option linter.unusedVariables false
namespace Go.Cold
open Go Go.RowKit
end Go.Cold
namespace Go.Proofs.YtehmidmoiamcfaaGreatDoor
open Go.RowKit Go.Cold

end Go.Proofs.YtehmidmoiamcfaaGreatDoor
namespace Go.Cold
open Go Go.RowKit
/-- A parser in block b: the text, the place, whether the text is bad. -/
def CurAt (w : World) (b : Nat) (s : ByteArray) (k : Nat) (bad : Bool) : Prop := w.cell? ⟨b, 0, none⟩ = some (.string s) ∧ w.cell? ⟨b, 1, none⟩ = some (.int .i64 k) ∧ w.cell? ⟨b, 2, none⟩ = some (.bool bad) ∧
 (∀ j, w.frozen? ⟨b, j, none⟩ = false) ∧ b < w.heap.size
def skipB (s : ByteArray) (k : Nat) (t : ByteArray) : Bool := Lib.hasPrefix (s.extract k s.size).data.toList t.data.toList
theorem skipB_le {s t : ByteArray} {k : Nat} (hk : k ≤ s.size) (h : skipB s k t = true) : k + t.size ≤ s.size := by
 unfold skipB Lib.hasPrefix at h
 have h1 := (List.isPrefixOf_iff_prefix.1 h).length_le
 rw [ba_size, ba_size, ByteArray.size_extract] at h1
 omega
end Go.Cold
namespace Go.Proofs.YtehmidmoiamcfaaGreatDoor
open Go.RowKit Go.Cold

theorem quiet_same {P : Program} {f : FuncId} {args : Array Value} {w : World} {n : Nat} {v : Value}
  (h : Calls P f args (w.drewN n) fun e w' => e = .returned v ∧ w' = w.drewN n) : Calls P f args (w.drewN n) fun e w'' => e = .returned v ∧ ∃ m, w'' = w.drewN m :=
 h.mono fun _ _ ⟨he, hm⟩ => ⟨he, n, hm⟩
theorem cur_step {w : World} {b k : Nat} {s : ByteArray} {bad : Bool} (nq : Nat) (m : Nat) (h : CurAt w b s k bad) : CurAt ((w.setCell ⟨b, 1, none⟩ (.int .i64 ((k : Int) + m))).drewN nq) b s (k + m) bad ∧ w.grownBy ((w.setCell ⟨b, 1, none⟩ (.int .i64 ((k : Int) + m))).drewN nq) (some b) := by
 obtain ⟨h0, h1, h2, hf, hlt⟩ := h
 refine ⟨⟨?_, ?_, ?_, fun j => ?_, by simpa using hlt⟩, grown_next nq hlt⟩
 · exact (World.cell?_setCell_other w ⟨b, 1, none⟩ ⟨b, 0, none⟩ _ (fun e => by injection e with _ e; cases e)).trans h0
 · exact (set_at w _ _ (by rw [h1]; rfl)).trans (by simp)
 · exact (World.cell?_setCell_other w ⟨b, 1, none⟩ ⟨b, 2, none⟩ _ (fun e => by injection e with _ e; cases e)).trans h2
 · exact (World.frozen?_setCell w _ _ _).trans (hf j)
theorem cur_stay {w : World} {b k : Nat} {s : ByteArray} {bad : Bool} (nq : Nat) (h : CurAt w b s k bad) : CurAt (w.drewN nq) b s k bad ∧ w.grownBy (w.drewN nq) (some b) :=
 ⟨h, ⟨rfl, rfl, rfl, Nat.le_refl _, fun _ _ _ => rfl⟩⟩

def SkipPost (s : ByteArray) (k : Nat) (t : ByteArray) (b : Nat) (bad : Bool) (w : World) (e : Ending) (w' : World) : Prop := e = .returned (.bool (skipB s k t)) ∧ CurAt w' b s (if skipB s k t then k + t.size else k) bad ∧ w.grownBy w' (some b)
set_option maxRecDepth 10000 in
theorem skip_any (s t : ByteArray) (k b : Nat) (bad : Bool) (w : World) (hs : s.size ≤ 1000) (hk : k ≤ s.size) (hc : CurAt w b s k bad) : Calls Tryz.prog 110 #[.pointer (some ⟨b, 0, none⟩), .string t] w (SkipPost s k t b bad w) := by
 obtain ⟨h0, h1, h2, hf, hlt⟩ := id hc
 have HC := Lib.hid hc; clear hc
 have i1 : (k : Int) ≤ (s.size : Int) := by omega
 cases hq : skipB s k t with
 | true =>
  have hle := skipB_le hk hq
  have hq' : Lib.hasPrefix (s.extract k s.size).data.toList t.data.toList = true := hq
  have hq2 := hq'
  rw [Lib.extract_data] at hq2
  have i2 : (k : Int) + (t.size : Int) ≤ 1000 := by omega
  have HQ := Lib.hid hq; clear hq
  go_enter Tryz.func110, Tryz.ntmps110
  go_wp2_with fail
  go_quiet ((go_at_call 159; exact quiet_same (Tryz.strings_HasPrefix _ _ _)))
  go_wp2
  go_ret
  refine ⟨ret_bool HQ.out.symm, ?_⟩
  rw [HQ.out, if_pos rfl]
  exact cur_step _ t.size HC.out
 | false =>
  have hq' : Lib.hasPrefix (s.extract k s.size).data.toList t.data.toList = false := hq
  have hq2 := hq'
  rw [Lib.extract_data] at hq2
  have HQ := Lib.hid hq; clear hq
  go_enter Tryz.func110, Tryz.ntmps110
  go_wp2_with fail
  go_quiet ((go_at_call 159; exact quiet_same (Tryz.strings_HasPrefix _ _ _)))
  go_wp2
  go_ret
  refine ⟨ret_bool HQ.out.symm, ?_⟩
  rw [HQ.out, if_neg (by decide)]
  exact cur_stay _ HC.out

theorem cur_bad {w : World} {b k : Nat} {s : ByteArray} {bad : Bool} (bad' : Bool) (h : CurAt w b s k bad) : CurAt (w.setCell ⟨b, 2, none⟩ (.bool bad')) b s k bad' ∧ w.grownBy (w.setCell ⟨b, 2, none⟩ (.bool bad')) (some b) := by
 obtain ⟨h0, h1, h2, hf, hlt⟩ := h
 refine ⟨⟨?_, ?_, ?_, fun j => ?_, by simpa using hlt⟩, ⟨rfl, rfl, rfl, by simp, fun q _ hne => Below.heap_setCell _ _ _ _ (fun e => hne (by rw [e]))⟩⟩
 · exact (World.cell?_setCell_other w ⟨b, 2, none⟩ ⟨b, 0, none⟩ _ (fun e => by injection e with _ e; cases e)).trans h0
 · exact (World.cell?_setCell_other w ⟨b, 2, none⟩ ⟨b, 1, none⟩ _ (fun e => by injection e with _ e; cases e)).trans h1
 · exact set_at w _ _ (by rw [h2]; rfl)
 · exact (World.frozen?_setCell w _ _ _).trans (hf j)
def WantPost (s : ByteArray) (k : Nat) (t : ByteArray) (b : Nat) (bad : Bool) (w : World) (_ : Ending) (w' : World) : Prop := CurAt w' b s (if skipB s k t then k + t.size else k) (!skipB s k t || bad) ∧ w.grownBy w' (some b)
set_option maxRecDepth 10000 in
theorem want_any (s t : ByteArray) (k b : Nat) (bad : Bool) (w : World) (hs : s.size ≤ 1000) (hk : k ≤ s.size) (hc : CurAt w b s k bad) : Calls Tryz.prog 72 #[.pointer (some ⟨b, 0, none⟩), .string t] w fun e w' => e = .returned (.tuple #[]) ∧ WantPost s k t b bad w e w' := by
 have hcall := skip_any s t k b bad w hs hk hc
 have HCALL := Lib.hid hcall; clear hcall hc
 go_enter Tryz.func72, Tryz.ntmps72
 go_wp2_with fail
 refine HCALL.out.mono ?_
 rintro e w1 ⟨rfl, hc1, hg1⟩
 cases hq : skipB s k t with
 | true =>
  rw [hq, if_pos rfl] at hc1
  obtain ⟨h0, h1, h2, hf, hlt⟩ := id hc1
  have HC := Lib.hid hc1; clear hc1
  have HG := Lib.hid hg1; clear hg1
  have HQ := Lib.hid hq; clear hq
  go_wp2
  go_end0
  obtain ⟨q1, q2⟩ := cur_bad bad HC.out
  refine ⟨rfl, ?_, grown_trans HG.out q2⟩
  rw [HQ.out, if_pos rfl]
  exact q1
 | false =>
  rw [hq, if_neg (by decide)] at hc1
  obtain ⟨h0, h1, h2, hf, hlt⟩ := id hc1
  have HC := Lib.hid hc1; clear hc1
  have HG := Lib.hid hg1; clear hg1
  have HQ := Lib.hid hq; clear hq
  go_wp2
  go_end0
  obtain ⟨q1, q2⟩ := cur_bad true HC.out
  refine ⟨rfl, ?_, grown_trans HG.out q2⟩
  rw [HQ.out, if_neg (by decide)]
  exact q1
end Go.Proofs.YtehmidmoiamcfaaGreatDoor
namespace Go.Cold
open Go Go.RowKit
/-- How far 'until' goes. -/
def untilN (r ends : ByteArray) : Nat := if Lib.indexAny r.data.toList ends.data.toList < 0 then r.size else (Lib.indexAny r.data.toList ends.data.toList).toNat
theorem CurAt.below {w w' : World} {b k : Nat} {s : ByteArray} {bad : Bool} (h : CurAt w b s k bad) (hb : Below w.heap.size w w') : CurAt w' b s k bad ∧ w.grownBy w' (some b) := by
 obtain ⟨h0, h1, h2, hf, hlt⟩ := h
 refine ⟨⟨(hb.cell (p := ⟨b, 0, none⟩) hlt).trans h0, (hb.cell (p := ⟨b, 1, none⟩) hlt).trans h1, (hb.cell (p := ⟨b, 2, none⟩) hlt).trans h2, fun j => (hb.frozen (p := ⟨b, j, none⟩) hlt).trans (hf j), by have := hb.size; omega⟩, hb.os, hb.tape, hb.output, hb.size, fun q hq _ => hb.block q hq⟩
end Go.Cold
namespace Go.Proofs.YtehmidmoiamcfaaGreatDoor
open Go.RowKit Go.Cold

def UntilPost (s ends : ByteArray) (k b : Nat) (bad : Bool) (w : World) (e : Ending) (w' : World) : Prop := e = .returned (.string ((s.extract k s.size).extract 0 (untilN (s.extract k s.size) ends))) ∧
 CurAt w' b s (k + untilN (s.extract k s.size) ends) bad ∧ w.grownBy w' (some b)
set_option maxRecDepth 10000 in
theorem until_any (s ends : ByteArray) (k b : Nat) (bad : Bool) (w : World) (hs : s.size ≤ 1000) (hk : k ≤ s.size) (hc : CurAt w b s k bad)
  (hlen : untilN (s.extract k s.size) ends ≤ (s.extract k s.size).size)
  (hix : ∀ W, Calls Tryz.prog 109 #[.string (s.extract k s.size), .string ends] W fun e W' => e = .returned (.int .i64 (Lib.indexAny (s.extract k s.size).data.toList ends.data.toList)) ∧ Below W.heap.size W W') :
  Calls Tryz.prog 71 #[.pointer (some ⟨b, 0, none⟩), .string ends] w (UntilPost s ends k b bad w) := by
 obtain ⟨h0, h1, h2, hf, hlt⟩ := id hc
 have HC := Lib.hid hc; clear hc
 have HIX := Lib.hid hix; clear hix
 have i1 : (k : Int) ≤ (s.size : Int) := by omega
 have hrs : (s.extract k s.size).size = s.size - k := by rw [ByteArray.size_extract]; omega
 have HLEN := Lib.hid hlen; clear hlen
 have HRS := Lib.hid hrs; clear hrs
 go_enter Tryz.func71, Tryz.ntmps71
 go_wp2_with fail
 go_quiet (fail)
 obtain ⟨c1, g1⟩ := cur_stay nq HC.out
 obtain ⟨r, hr⟩ : ∃ r, s.extract k s.size = r := ⟨_, rfl⟩
 rw [hr] at HIX HLEN HRS ⊢
 have HR := Lib.hid hr; clear hr
 have HC1 := Lib.hid c1; have HG1 := Lib.hid g1; clear c1 g1
 go_wp2_with fail
 refine (HIX.out _).mono ?_
 rintro e w1 ⟨rfl, hb1⟩
 obtain ⟨c2, g2⟩ := HC1.out.below hb1
 obtain ⟨p0, p1, p2, pf, plt⟩ := id c2
 have hun : untilN r ends = if Lib.indexAny r.data.toList ends.data.toList < 0 then r.size else (Lib.indexAny r.data.toList ends.data.toList).toNat := rfl
 have hl := HLEN.out
 have hrs := HRS.out
 obtain ⟨z, hz⟩ : ∃ z, Lib.indexAny r.data.toList ends.data.toList = z := ⟨_, rfl⟩
 rw [hz] at hun ⊢
 have HC2 := Lib.hid c2; have HG2 := Lib.hid g2; clear c2 g2 hb1 h0 h1 h2 hf hlt
 by_cases hz0 : z < 0
 ·
  rw [if_pos hz0] at hun
  have HUN := Lib.hid hun; clear hun hl hz
  have i2 : (k : Int) + (r.size : Int) ≤ 1000 := by omega
  have HRS2 := Lib.hid hrs; clear hrs
  go_wp2
  go_ret
  obtain ⟨q1, q2⟩ := cur_step 0 r.size HC2.out
  unfold UntilPost
  rw [HR.out, HUN.out]
  refine ⟨ret_str ?_, q1, grown_trans (grown_trans HG1.out HG2.out) q2⟩
  exact (ByteArray.extract_zero_size (b := r)).symm
 ·
  rw [if_neg hz0] at hun
  obtain ⟨m, rfl⟩ := Int.eq_ofNat_of_zero_le (show 0 ≤ z by omega)
  rw [Int.toNat_natCast] at hun
  rw [hun] at hl
  have HUN := Lib.hid hun; clear hun hz
  have i2 : (m : Int) ≤ (r.size : Int) := by omega
  have i3 : (k : Int) + (m : Int) ≤ 1000 := by omega
  have HRS2 := Lib.hid hrs; clear hrs
  go_wp2
  go_ret
  obtain ⟨q1, q2⟩ := cur_step 0 m HC2.out
  unfold UntilPost
  rw [HR.out, HUN.out]
  exact ⟨rfl, q1, grown_trans (grown_trans HG1.out HG2.out) q2⟩
end Go.Proofs.YtehmidmoiamcfaaGreatDoor
namespace Go.Cold
open Go Go.RowKit
/-- A number from 0 to 99 as a text. -/
def numT (n : Int) : ByteArray := ⟨(Lib.decDigits n.toNat).toArray⟩
/-- Texts, with a comma between two. -/
def commaB (xs : List ByteArray) : ByteArray := ⟨(Lib.join (xs.map (·.data.toList)) [44]).toArray⟩
mutual
/-- The text of a content whose numbers are from 0 to 99. -/
def textC : Cont → ByteArray
 | .mk k i l s t e xs =>
  if k = 1 then ((⟨#[102, 115, 58]⟩ ++ i) ++ ⟨#[58]⟩) ++ l
  else if k = 2 then ((((((⟨#[114, 97, 105, 100, 58]⟩ ++ i) ++ ⟨#[58]⟩) ++ numT s) ++ ⟨#[47]⟩ ++ numT t) ++ ⟨#[47]⟩) ++ numT e) ++ ((⟨#[40]⟩ ++ commaB (textL xs)) ++ ⟨#[41]⟩)
  else if k = 3 then (⟨#[99, 114, 121, 112, 116, 58]⟩ ++ i) ++ ((⟨#[40]⟩ ++ commaB (textL xs)) ++ ⟨#[41]⟩)
  else if k = 4 then (((((⟨#[112, 118, 58]⟩ ++ i) ++ ⟨#[58]⟩) ++ numT s) ++ ⟨#[47]⟩) ++ numT t) ++ ((⟨#[40]⟩ ++ commaB (textL xs)) ++ ⟨#[41]⟩)
  else if k = 5 then (⟨#[116, 97, 98, 108, 101, 58]⟩ ++ i) ++ ((⟨#[40]⟩ ++ commaB (textL xs)) ++ ⟨#[41]⟩)
  else ⟨#[]⟩
def textL : List Cont → List ByteArray
 | [] => []
 | x :: xs => textC x :: textL xs
end
theorem textL_app (x : Cont) : ∀ xs : List Cont, textL (xs ++ [x]) = textL xs ++ [textC x]
 | [] => by rw [List.nil_append, textL, textL, textL, List.nil_append]
 | y :: ys => by rw [List.cons_append, textL, textL, textL_app x ys, List.cons_append]
theorem textL_length : ∀ xs : List Cont, (textL xs).length = xs.length
 | [] => by rw [textL]; rfl
 | x :: xs => by rw [textL, List.length_cons, List.length_cons, textL_length xs]
end Go.Cold
namespace Go.Proofs.YtehmidmoiamcfaaGreatDoor
open Go.RowKit Go.Cold

def FormatPost (a : Cont) (T : ByteArray) (w : World) (e : Ending) (w' : World) : Prop := Below w.heap.size w w' ∧
  ((badC a = true ∧ e = .returned (.tuple #[.string ⟨#[]⟩, .int .i64 70])) ∨ (badC a = false ∧ 256 < T.size ∧ e = .returned (.tuple #[.string ⟨#[]⟩, .int .i64 71])) ∨
   (badC a = false ∧ T.size ≤ 256 ∧ e = .returned (.tuple #[.string T, .int .i64 0])))
theorem Format_any (a : Cont) (cs : List Value) (w : World) (h : CRd w w.heap.size a cs) (hn : nodesC a ≤ 2 ^ 40) (T : ByteArray)
    (htext : badC a = false → ∀ (W : World) (ds : List Value), CRd W W.heap.size a ds → Calls Tryz.prog 117 #[.agg ds.toArray] W fun e W' => e = .returned (.string T) ∧ Below W.heap.size W W') :
    Calls Tryz.prog 79 #[.agg cs.toArray] w (FormatPost a T w) := by
  have hcells : ∃ k i l s t e A n c, cs = contCells k i l s t e A n c := by
    obtain ⟨k, i, l, s, t, e, xs⟩ := a
    obtain ⟨A, c, rfl, -, -⟩ := CRd_iff.1 h
    exact ⟨_, _, _, _, _, _, _, _, _, rfl⟩
  obtain ⟨k, i, l, s, t, e, A, n, c, rfl⟩ := hcells
  simp only [contCells]
  obtain ⟨w0, hw0⟩ : ∃ w0, w.alloc (.cells #[.int .i64 k, .string i, .string l, .int .i64 s, .int .i64 t, .int .i64 e, .slice A n c] 36) = w0 := ⟨_, rfl⟩
  obtain ⟨hb0, hg0, hbox⟩ := box7 hw0
  obtain ⟨d0, d1, d2, d3, d4, d5, d6⟩ := hbox.zero
  have hr0 := CRd_more (show w.heap.size ≤ w0.heap.size by omega) _ _ (CRd_keep hb0 _ _ h)
  have HCALL := Lib.hid (c7Check_any _ _ w0 hr0 hn)
  have HR := Lib.hid hr0; clear hr0 h hn
  have HB := Lib.hid hbox; clear hbox
  have HT := Lib.hid htext; clear htext
  go_enter Tryz.func79, Tryz.ntmps79
  go_wp2_with fail
  refine HCALL.out.mono ?_
  rintro e' w2 ⟨rfl, hb2⟩
  clear d0 d1 d2 d3 d4 d5 d6
  obtain ⟨d0, d1, d2, d3, d4, d5, d6⟩ := (HB.out.keep hb2 (by omega)).zero
  have hb02 : Below w.heap.size w w2 := hb0.trans (hb2.mono (by omega))
  cases hbad : badC a with
  | true =>
    rw [checkE_bad hbad]
    have HBAD := Lib.hid hbad; clear hbad
    go_wp2
    go_ret2
    exact ⟨hb02, .inl ⟨HBAD.out, rfl⟩⟩
  | false =>
    rw [checkE_ok hbad]
    have hcall := HT.out hbad w2 _ (CRd_more hb2.size _ _ (CRd_keep hb2 _ _ HR.out))
    have HBAD := Lib.hid hbad; clear hbad
    have HC2 := Lib.hid hcall; clear hcall
    go_wp2_with fail
    refine HC2.out.mono ?_
    rintro e' w3 ⟨rfl, hb3⟩
    have hb03 := hb02.trans (hb3.mono hb02.size)
    by_cases hsz : T.size ≤ 256
    · go_wp2
      go_ret2
      exact ⟨hb03, .inr (.inr ⟨HBAD.out, hsz, rfl⟩)⟩
    · go_wp2
      go_ret2
      exact ⟨hb03, .inr (.inl ⟨HBAD.out, by omega, rfl⟩)⟩
end Go.Proofs.YtehmidmoiamcfaaGreatDoor
namespace Go.Cold
open Go Go.RowKit
def noneB (s t e : Int) : Bool := decide (t = 0) && (decide (s = 0) && decide (e = 0))
def slots2 (s t : Int) : Bool := c7withinB t 16 && c7withinB s t
/-- What the reference asks of the fields of a content, its depth and what is inside left out. -/
def ownB : Cont → Bool
  | .mk k i l s t e xs => if k = 0 then i.toList.isEmpty && (l.toList.isEmpty && (noneB s t e && decide (xs.length = 0))) else idB i &&
    (if k = 1 then (l.toList.isEmpty || idB l) && (noneB s t e && decide (xs.length = 0))
     else if k = 2 then l.toList.isEmpty && (slots2 s t && (c7withinB e t && decide (xs.length = 1)))
     else if k = 3 then l.toList.isEmpty && (noneB s t e && decide (xs.length = 1))
     else if k = 4 then l.toList.isEmpty && (slots2 s t && (decide (e = 0) && c7withinB xs.length 16))
     else if k = 5 then l.toList.isEmpty && (noneB s t e && c7withinB xs.length 16) else false)
theorem empty_iff (l : ByteArray) : l.toList = [] ↔ l = ByteArray.empty := by
  have he : ByteArray.empty.toList = [] := by decide +kernel
  have h := ba_beq l ByteArray.empty
  rw [he] at h
  constructor
  · intro hl
    rw [hl] at h
    exact of_decide_eq_true h.symm
  · rintro rfl; exact he
theorem isEmpty_iff (l : ByteArray) : l.toList.isEmpty = true ↔ l = ByteArray.empty := by
  rw [List.isEmpty_iff, empty_iff]
theorem alike_own (c : Cont) : alikeB c = ownB c := by
  obtain ⟨k, i, l, s, t, e, xs⟩ := c
  rw [Bool.eq_iff_iff]
  unfold alikeB ownB usedC condC slots2 noneB
  by_cases h0 : k = 0
  · simp [h0, sameC_iff, empty_iff]
    try grind
  by_cases h1 : k = 1
  · simp [h1, sameC_iff, empty_iff]
    try grind
  by_cases h2 : k = 2
  · simp [h2, sameC_iff, empty_iff]
    try grind
  by_cases h3 : k = 3
  · simp [h3, sameC_iff, empty_iff]
    try grind
  by_cases h4 : k = 4
  · simp [h4, sameC_iff, empty_iff]
    try grind
  by_cases h5 : k = 5
  · simp [h5, sameC_iff, empty_iff]
    try grind
  simp [h0, h1, h2, h3, h4, h5]
mutual
/-- The reference's 'valid'. -/
def refB : Nat → Cont → Bool
  | d, .mk k i l s t e xs => refL d xs && ((decide (k = 0) || decide (0 < d)) && ownB (.mk k i l s t e xs))
def refL : Nat → List Cont → Bool
  | _, [] => true
  | d, x :: xs => (decide (0 < d) && refB (d - 1) x) && refL d xs
end
theorem refL_app (d : Nat) (x : Cont) : ∀ xs : List Cont, refL d (xs ++ [x]) = (refL d xs && (decide (0 < d) && refB (d - 1) x))
  | [] => by rw [List.nil_append, refL, refL, refL]; simp
  | y :: ys => by rw [List.cons_append, refL, refL, refL_app d x ys]; simp only [Bool.and_assoc]
theorem refL_bad {d : Nat} {x : Cont} {xs : List Cont} {k : Nat} (hx : xs[k]? = some x) (h : (decide (0 < d) && refB (d - 1) x) = false) : refL d xs = false := by
  induction xs generalizing k with
  | nil => simp at hx
  | cons y ys ih =>
    rw [refL]
    cases k with
    | zero => simp at hx; subst hx; rw [h]; rfl
    | succ k => rw [ih (by simpa using hx)]; simp
theorem own_none {i l : ByteArray} {s t e : Int} {xs : List Cont} (h : ownB (.mk 0 i l s t e xs) = true) : xs = [] := by
  unfold ownB at h; simp at h; exact h.2.2.2
mutual
theorem ref_iff : ∀ (c : Cont) (d : Nat), refB d c = true ↔ depthC c ≤ d ∧ ∀ x ∈ walkC c, alikeB x = true
  | .mk k i l s t e xs, d => by
    rw [refB, walkC, depthC]
    simp only [Bool.and_eq_true, List.mem_cons, forall_eq_or_imp, alike_own, Bool.or_eq_true, decide_eq_true_eq]
    have hL := refL_iff xs d
    by_cases hk : k = 0
    · subst hk
      constructor
      · rintro ⟨h1, -, h2⟩
        have := own_none h2
        subst this
        exact ⟨by rw [if_pos rfl, depthL]; omega, h2, fun x hx => by rw [walkL] at hx; cases hx⟩
      · rintro ⟨h1, h2, h3⟩
        have := own_none h2
        subst this
        exact ⟨by rw [refL], .inl rfl, h2⟩
    · rw [if_neg hk]
      constructor
      · rintro ⟨h1, h2, h3⟩
        have hd : 0 < d := h2.resolve_left hk
        obtain ⟨h4, h5⟩ := (hL hd).1 h1
        exact ⟨by omega, h3, fun x hx => by rw [← alike_own]; exact h5 x hx⟩
      · rintro ⟨h1, h2, h3⟩
        have := depthL_nonneg xs
        have hd : 0 < d := by omega
        exact ⟨(hL hd).2 ⟨by omega, fun x hx => by rw [alike_own]; exact h3 x hx⟩, .inr hd, h2⟩
theorem refL_iff : ∀ (xs : List Cont) (d : Nat), 0 < d → (refL d xs = true ↔ depthL xs + 1 ≤ d ∧ ∀ x ∈ walkL xs, alikeB x = true)
  | [], d, hd => by rw [refL, depthL, walkL]; simp; omega
  | y :: ys, d, hd => by
    rw [refL, depthL, walkL]
    have h1 := ref_iff y (d - 1)
    have h2 := refL_iff ys d hd
    simp only [Bool.and_eq_true, decide_eq_true_eq, h1, h2, List.mem_append]
    constructor
    · rintro ⟨⟨-, h3, h4⟩, h5, h6⟩
      exact ⟨by omega, fun x hx => hx.elim (h4 x) (h6 x)⟩
    · rintro ⟨h3, h4⟩
      exact ⟨⟨hd, by omega, fun x hx => h4 x (.inl hx)⟩, by omega, fun x hx => h4 x (.inr hx)⟩
end
theorem ref_bad (c : Cont) : refB 6 c = !badC c := by
  rw [Bool.eq_iff_iff, ref_iff]
  unfold badC
  simp
end Go.Cold
namespace Go.Cold
open Go Go.RowKit
/-- Every content in it has the fields of its kind. -/
def AllOk (c : Cont) : Prop := ∀ x ∈ walkC c, ownB x = true
theorem walkL_mem {xs : List Cont} {x : Cont} : x ∈ walkL xs ↔ ∃ y ∈ xs, x ∈ walkC y := by
 induction xs with
 | nil => rw [walkL]; simp
 | cons z zs ih => rw [walkL, List.mem_append, ih]; simp
theorem AllOk_mk {k : Int} {i l : ByteArray} {s t e : Int} {xs : List Cont} : AllOk (.mk k i l s t e xs) ↔ ownB (.mk k i l s t e xs) = true ∧ ∀ x ∈ xs, AllOk x := by
 unfold AllOk
 rw [walkC]
 simp only [List.mem_cons, forall_eq_or_imp, walkL_mem]
 constructor
 · rintro ⟨h1, h2⟩; exact ⟨h1, fun y hy x hx => h2 x ⟨y, hy, hx⟩⟩
 · rintro ⟨h1, h2⟩; exact ⟨h1, fun x ⟨y, hy, hx⟩ => h2 y hy x hx⟩
theorem bad_of {c : Cont} (h : AllOk c) (hd : depthC c ≤ 6) : badC c = false := by
 unfold badC
 simp only [Bool.or_eq_false_iff, decide_eq_false_iff_not, List.any_eq_false]
 exact ⟨by omega, fun x hx => by rw [alike_own, h x hx]; simp⟩
theorem ok_of_bad {c : Cont} (h : badC c = false) : AllOk c ∧ depthC c ≤ 6 := by
 unfold badC at h
 simp only [Bool.or_eq_false_iff, decide_eq_false_iff_not, List.any_eq_false] at h
 exact ⟨fun x hx => by have := h.2 x hx; rw [alike_own] at this; simpa using this, by omega⟩
theorem kind_of_inner {k : Int} {i l : ByteArray} {s t e : Int} {xs : List Cont} {x : Cont} (h : AllOk (.mk k i l s t e xs)) (hx : x ∈ xs) : k ≠ 0 := by
 rintro rfl
 have := own_none (AllOk_mk.1 h).1
 subst this; cases hx
mutual
theorem depth_walk : ∀ (c : Cont) (x : Cont), x ∈ walkC c → depthC x ≤ depthC c
 | .mk k i l s t e xs, x, h => by
  rw [walkC, List.mem_cons] at h
  rcases h with rfl | h
  · exact Int.le_refl _
  ·
   have := depth_walkL xs x h
   rw [depthC]; split <;> omega
theorem depth_walkL : ∀ (xs : List Cont) (x : Cont), x ∈ walkL xs → depthC x ≤ depthL xs
 | [], x, h => by rw [walkL] at h; cases h
 | y :: ys, x, h => by
  rw [walkL, List.mem_append] at h
  rw [depthL]
  rcases h with h | h
  · have := depth_walk y x h; omega
  · have := depth_walkL ys x h; omega
end
mutual
theorem depth_same : ∀ c : Cont, AllOk c → depthR c = depthC c
 | .mk k i l s t e xs, h => by
  obtain ⟨h1, h2⟩ := AllOk_mk.1 h
  rw [depthR, depthC]
  by_cases hk : k = 0
  ·
   subst hk
   have := own_none h1
   subst this
   rw [if_pos rfl, if_pos rfl, depthL]
  · rw [if_neg hk, if_neg hk, depth_sameL xs h2]
theorem depth_sameL : ∀ xs : List Cont, (∀ x ∈ xs, AllOk x) → depthRL xs = depthL xs
 | [], _ => by rw [depthRL, depthL]
 | x :: xs, h => by rw [depthRL, depthL, depth_same x (h x List.mem_cons_self), depth_sameL xs (fun y hy => h y (List.mem_cons_of_mem _ hy))]
end
end Go.Cold
namespace Go.Cold
open Go Go.RowKit
theorem ownsRow_below {w w' : World} {base n : Nat} {e : TypeId} {v : Value} {l : List Value} (h : w.ownsRow base e 1 v n l) (hb : Below w.heap.size w w') : w'.ownsRow base e 1 v n l := by
 have hg : w.grownBy w' none := ⟨hb.os, hb.tape, hb.output, hb.size, fun k hk _ => hb.block k hk⟩
 exact h.kept hg (by
  cases hv : v.ownBlock with
  | none => exact .inl rfl
  | some k => exact .inr (by simp))
theorem numT_size {n : Nat} (h : n < 100) : (numT n).size ≤ 2 := by
 have : ∀ m : Fin 100, (numT m.val).size ≤ 2 := by decide +kernel
 exact this ⟨n, h⟩
theorem comma_len (xs : List ByteArray) : (commaB xs).size = (Lib.join (xs.map (·.data.toList)) [44]).length := by
 unfold commaB
 rw [show (⟨(Lib.join (xs.map (·.data.toList)) [44]).toArray⟩ : ByteArray).size = (Lib.join (xs.map (·.data.toList)) [44]).toArray.size from rfl]; simp
theorem join_size (xs : List ByteArray) : (commaB xs).size + 1 ≤ (xs.map (fun x => x.size + 1)).sum + 1 := by
 have h0 := comma_len xs
 rw [h0]
 cases xs with
 | nil => simp [Lib.join_nil]
 | cons x r =>
  rw [List.map_cons, Lib.join_cons, List.length_append, List.map_cons, List.sum_cons]
  have h1 : ∀ r : List ByteArray, (Lib.joinTail [44] (r.map (·.data.toList))).length = (r.map (fun x => x.size + 1)).sum := by
   intro r
   induction r with
   | nil => simp [Lib.joinTail]
   | cons y r ih =>
    unfold Lib.joinTail at ih ⊢
    rw [List.map_cons, List.map_cons, List.flatten_cons, List.length_append, List.map_cons, List.sum_cons, ← ih]
    simp
    try omega
  rw [h1]
  have : x.data.toList.length = x.size := ba_size x
  omega
theorem own_nums {k : Int} {i l : ByteArray} {s t e : Int} {xs : List Cont} (h : ownB (.mk k i l s t e xs) = true) :
  (k = 0 ∨ k = 1 ∨ k = 2 ∨ k = 3 ∨ k = 4 ∨ k = 5) ∧ i.size ≤ 16 ∧ l.size ≤ 16 ∧ (0 ≤ s ∧ s ≤ 16) ∧ (0 ≤ t ∧ t ≤ 16) ∧ (0 ≤ e ∧ e ≤ 16) := by
 have hid : ∀ z : ByteArray, idB z = true → z.size ≤ 16 := fun z hz => by
  unfold idB at hz; simp only [Bool.and_eq_true, decide_eq_true_eq] at hz; omega
 have hem : ∀ z : ByteArray, z.toList.isEmpty = true → z.size ≤ 16 := fun z hz => by
  rw [isEmpty_iff] at hz; subst hz; decide
 unfold ownB noneB slots2 c7withinB at h
 dsimp only at h
 by_cases h0 : k = 0
 ·
  simp only [h0, if_true, Bool.and_eq_true, decide_eq_true_eq] at h
  exact ⟨.inl h0, hem _ h.1, hem _ h.2.1, by omega, by omega, by omega⟩
 rw [if_neg h0, Bool.and_eq_true] at h
 obtain ⟨hi, h⟩ := h
 have hi' := hid _ hi
 by_cases h1 : k = 1
 ·
  simp only [h1, if_true, Bool.and_eq_true, decide_eq_true_eq, Bool.or_eq_true] at h
  exact ⟨by omega, hi', h.1.elim (hem _) (hid _), by omega, by omega, by omega⟩
 by_cases h2 : k = 2
 ·
  simp [h2] at h
  exact ⟨by omega, hi', hem _ (by simpa using h.1), by omega, by omega, by omega⟩
 by_cases h3 : k = 3
 ·
  simp [h3] at h
  exact ⟨by omega, hi', hem _ (by simpa using h.1), by omega, by omega, by omega⟩
 by_cases h4 : k = 4
 ·
  simp [h4] at h
  exact ⟨by omega, hi', hem _ (by simpa using h.1), by omega, by omega, by omega⟩
 by_cases h5 : k = 5
 ·
  simp [h5] at h
  exact ⟨by omega, hi', hem _ (by simpa using h.1), by omega, by omega, by omega⟩
 simp [h1, h2, h3, h4, h5] at h
theorem lit_size (a : Array UInt8) : (⟨a⟩ : ByteArray).size = a.size := rfl
theorem numT_int {z : Int} (h : 0 ≤ z ∧ z ≤ 16) : (numT z).size ≤ 2 := by
 obtain ⟨n, rfl⟩ := Int.eq_ofNat_of_zero_le h.1
 exact numT_size (by omega)
mutual
theorem text_size : ∀ c : Cont, AllOk c → (textC c).size + 1 ≤ 40 * nodesC c
 | .mk k i l s t e xs, h => by
  obtain ⟨h1, h2⟩ := AllOk_mk.1 h
  have h3 := text_sizeL xs h2
  obtain ⟨-, hi, hl, hs, ht, he⟩ := own_nums h1
  have hs := numT_int hs
  have ht := numT_int ht
  have he := numT_int he
  have lit : ∀ a : Array UInt8, (⟨a⟩ : ByteArray).size = a.size := fun _ => rfl
  rw [textC, nodesC]
  split
  · simp only [ByteArray.size_append, lit]; simp; omega
  split
  · simp only [ByteArray.size_append, lit]; simp; omega
  split
  · simp only [ByteArray.size_append, lit]; simp; omega
  split
  · simp only [ByteArray.size_append, lit]; simp; omega
  split
  · simp only [ByteArray.size_append, lit]; simp; omega
  · simp only [lit]; simp; omega
theorem text_sizeL : ∀ xs : List Cont, (∀ x ∈ xs, AllOk x) → (commaB (textL xs)).size ≤ 40 * nodesL xs
 | xs, h => by
  have h1 := join_size (textL xs)
  have h2 := text_sum xs h
  omega
theorem text_sum : ∀ xs : List Cont, (∀ x ∈ xs, AllOk x) → ((textL xs).map (fun x => x.size + 1)).sum ≤ 40 * nodesL xs
 | [], _ => by rw [textL, nodesL]; simp
 | x :: xs, h => by
  have h1 := text_size x (h x List.mem_cons_self)
  have h2 := text_sum xs (fun y hy => h y (List.mem_cons_of_mem _ hy))
  rw [textL, nodesL, List.map_cons, List.sum_cons]
  omega
end
theorem text_mem : ∀ {xs : List Cont} {t : ByteArray}, t ∈ textL xs → ∃ x ∈ xs, t = textC x
 | [], t, h => by rw [textL] at h; cases h
 | x :: xs, t, h => by
  rw [textL, List.mem_cons] at h
  rcases h with rfl | h
  · exact ⟨x, List.mem_cons_self, rfl⟩
  ·
   obtain ⟨y, hy, rfl⟩ := text_mem h
   exact ⟨y, List.mem_cons_of_mem _ hy, rfl⟩
end Go.Cold
namespace Go.Proofs.YtehmidmoiamcfaaGreatDoor
open Go.RowKit Go.Cold

theorem info_str : (Tryz.prog.info? 9).map (fun i => (i.zero, i.size, i.bytes)) = some (some (.string ByteArray.empty), 1, 16) := by kernel_rfl
theorem JoinComma_any (A : Option Addr) (c : Nat) (xs : List ByteArray) (w : World) (hx : Sl w w.heap.size A c xs) (hlen : (commaB xs).size ≤ 140737488355328) (hn : xs.length ≤ 140737488355328) :
  Calls Tryz.prog 83 #[.slice A xs.length c, .string ⟨#[44]⟩] w fun e w' => e = .returned (.string (commaB xs)) ∧ Below w.heap.size w w' := by
 rcases Nat.eq_zero_or_pos xs.length with h0 | h0
 ·
  have hx0 : xs = [] := List.eq_nil_of_length_eq_zero h0
  subst hx0
  exact (Tryz.strings_Join_none A c ⟨#[44]⟩ w).mono fun e w' ⟨he, hw⟩ => ⟨he, by rw [hw]; exact Below.refl _ _⟩
 ·
  obtain ⟨b, o, rfl, hb, h1⟩ := hx.strs h0
  exact Tryz.strings_Join b o c xs ⟨#[44]⟩ w h1 hb hn hx.1 (by rw [← comma_len]; exact hlen)
theorem itoa_small (n : Nat) (h : n < 100) (w : World) : Calls Tryz.prog 34 #[.int .i64 n] w fun e w' => e = .returned (.string (numT n)) ∧ w' = w := Tryz.strconv_Itoa_small n h w

set_option maxHeartbeats 8000000 in
set_option maxRecDepth 100000 in
theorem text_all (N : Nat) : ∀ (a : Cont) (cs : List Value) (w : World), szC a < N → CRd w w.heap.size a cs → AllOk a → nodesC a ≤ 2 ^ 40 → Calls Tryz.prog 117 #[.agg cs.toArray] w fun e' w' => e' = .returned (.string (textC a)) ∧ Below w.heap.size w w' := by
 induction N with
 | zero => intro a cs w h; omega
 | succ N ih =>
  intro a cs w hsz hrd hall hnod
  obtain ⟨kk, i, l, s, t, e, xs⟩ := a
  obtain ⟨A, c, rfl, hok, hsl⟩ := CRd_iff.1 hrd
  clear hrd hok
  obtain ⟨i0, hi0, hz0, hz1, hz2⟩ := info_parts info_str
  have HI0 := Lib.hid hi0; clear hi0
  have HZ0 := Lib.hid hz0; clear hz0
  have HZ1 := Lib.hid hz1; clear hz1
  have HZ2 := Lib.hid hz2; clear hz2
  have IH := Lib.hid ih; clear ih
  have hx1 := hsl.1; have hx2 := hsl.2.1
  unfold maxLen at hx2
  have HSl := Lib.hid hsl; clear hsl
  have HSZ := Lib.hid hsz; clear hsz
  have hnL : nodesL xs ≤ 2 ^ 40 := by rw [nodesC] at hnod; omega
  have HNOD := Lib.hid hnL; clear hnod hnL
  obtain ⟨hown, hin⟩ := AllOk_mk.1 hall
  have HALL := Lib.hid hin; clear hall hin
  obtain ⟨hkind, hisz, hlsz, hs0, ht0, he0⟩ := own_nums hown
  clear hown
  obtain ⟨s, rfl⟩ := Int.eq_ofNat_of_zero_le hs0.1
  obtain ⟨t, rfl⟩ := Int.eq_ofNat_of_zero_le ht0.1
  obtain ⟨e, rfl⟩ := Int.eq_ofNat_of_zero_le he0.1
  have HS0 := Lib.hid (show s < 100 by omega); have HT0 := Lib.hid (show t < 100 by omega); have HE0 := Lib.hid (show e < 100 by omega)
  have HIS := Lib.hid hisz; have HLS := Lib.hid hlsz
  clear hs0 ht0 he0 hisz hlsz
  simp only [contCells]
  obtain ⟨w0, hw0⟩ : ∃ w0, w.alloc (.cells #[.int .i64 kk, .string i, .string l, .int .i64 s, .int .i64 t, .int .i64 e, .slice A xs.length c] 36) = w0 := ⟨_, rfl⟩
  obtain ⟨hb0, hg0, hbox⟩ := box7 hw0
  obtain ⟨d0, d1, d2, d3, d4, d5, d6⟩ := hbox.zero
  go_enter Tryz.func117, Tryz.ntmps117
  go_wp2_with fail
  have HBOX := Lib.hid hbox
  have HKIND := Lib.hid hkind
  clear hkind hbox hw0 d0 d1 d2 d3 d4 d5 d6
  generalize hgg : w.heap.size = g at *
  go_loopw [3, 11] (fun v i wr => ∃ k : Nat, k ≤ xs.length ∧ i = .int .i64 k ∧ Hid (wr.ownsRow (g + 1) 9 1 v k ((textL (xs.take k)).map Value.string)) ∧ Below w0.heap.size w0 wr) (fun _ i _ => xs.length - (intOf i).toNat)
  case atStart => exact ⟨0, Nat.zero_le _, rfl, (by rw [List.take_zero, textL]; exact World.ownsRow_nil _ _ _ _), Below.refl _ _⟩
  case round =>
   obtain ⟨k, hk, rfl, HOwn, hb⟩ := hrel
   have hbw : Below g w wr := hb0.trans (hb.mono (by omega))
   by_cases hlt : k < xs.length
   ·
    have hslr := HSl.out.next (by omega) (hgg ▸ hbw)
    obtain ⟨b3, o3, rfl, hb3, cs, hcs, hcells⟩ := hslr.cont hlt
    obtain ⟨x, hx⟩ : ∃ x, xs[k] = x := ⟨_, rfl⟩
    have hxm : x ∈ xs := hx ▸ List.getElem_mem hlt
    have htk : xs.take (k + 1) = xs.take k ++ [x] := by rw [← hx]; exact List.take_succ_eq_append_getElem hlt
    rw [hx] at hcs
    clear hslr
    have hszx := szC_mem (k := kk) (i := i) (l := l) (s := s) (t := t) (e := e) hxm
    have hnl : xs.length ≤ nodesL xs := nodesL_length xs
    have hnx : nodesC x ≤ 2 ^ 40 := by
     have h1 := nodesL_mem hxm
     have h2 := HNOD.out
     omega
    have hax := HALL.out x hxm
    have hkb : k + 1 ≤ 2 ^ 40 := by
     have h2 := HNOD.out
     omega
    obtain ⟨kk2, i2, l2, s2, t2, e2, xs2⟩ := x
    obtain ⟨A2, c2, rfl, hok2, hsl2⟩ := CRd_iff.1 hcs
    obtain ⟨c0, c1, c2', c3, c4, c5, c6⟩ := cells7 hcells
    have i1 : (k : Int) < (xs.length : Int) := by omega
    obtain ⟨w2, hw2⟩ : ∃ w2, wr.alloc (.cells #[.int .i64 kk2, .string i2, .string l2, .int .i64 s2, .int .i64 t2, .int .i64 e2, .slice A2 xs2.length c2] 36) = w2 := ⟨_, rfl⟩
    obtain ⟨hb2, hg2', hbox2⟩ := box7 hw2
    obtain ⟨f0, f1, f2, f3, f4, f5, f6⟩ := hbox2.zero
    have hcall := IH.out (.mk kk2 i2 l2 s2 t2 e2 xs2) _ w2 (by have := HSZ.out; omega) (CRd_more (by omega) _ _ (CRd_keep hb2 _ _ hcs)) hax hnx
    clear hcells hcs hok2 hsl2 hx hxm hszx hnx hnl hax
    have HCALL := Lib.hid hcall; clear hcall
    have HTK := Lib.hid htk; clear htk
    have HKB := Lib.hid hkb; clear hkb
    go_wp2_with fail
    refine HCALL.out.mono ?_
    rintro e' w3 ⟨rfl, hb3'⟩
    clear c0 c1 c2' c3 c4 c5 c6 f0 f1 f2 f3 f4 f5 f6 hw2 hbox2
    obtain ⟨T, hT⟩ : ∃ T, textC (.mk kk2 i2 l2 s2 t2 e2 xs2) = T := ⟨_, rfl⟩
    rw [hT]
    have HT := Lib.hid hT; clear hT
    have hbr3 : Below wr.heap.size wr w3 := hb2.trans (hb3'.mono (by omega))
    have HOwn3 := Lib.hid (ownsRow_below HOwn.out hbr3)
    go_wp2_with (at_builtin; go_must (refine wpList_append_own _ rfl _ _ 72 rfl (g + 1) 9 i0 (.string ByteArray.empty) 1 16 Tryz.underlying72 HI0.out HZ0.out HZ1.out HZ2.out rfl (by decide) _ _ _ rfl (HOwn3.out.alloc _) ⟨w3.heap.size, 0, none⟩ 1 1 [.string T] rfl rfl (cell_one_new _ _ _) (by intro u hu; simp at hu; subst hu; rfl) (by have := HKB.out; unfold maxLen; omega) (by have := HKB.out; omega) (by have := hb.size; have := hbr3.size; simp; omega) ?_); intro v' w5 hown' hgrow _)
    have hb5 : Below w0.heap.size w0 w5 := ((hb.trans (hbr3.mono hb.size)).alloc (by have := hb.size; have := hbr3.size; omega) _).grown hgrow (by have := hb.size; have := hbr3.size; simp; omega) (fun q hq => by have := (HOwn3.out.lt q hq).1; omega)
    have HOwn5 := Lib.hid hown'; clear hown' hgrow
    clear hb hbw hbr3 hb3' hb2
    go_wp2
    go_roundw
    case rel =>
     refine ⟨k + 1, by omega, by go_num, ?_, hb5⟩
     show Hid _
     refine Lib.hid ?_
     rw [HTK.out, textL_app, HT.out, List.map_append]
     exact HOwn5.out
    case measure => simp [intOf]; omega
   ·
    have hkk : k = xs.length := by omega
    subst hkk
    rw [List.take_length] at HOwn
    have hown := HOwn.out
    rw [← textL_length xs] at hown
    have hts := text_sizeL xs HALL.out
    obtain ⟨A5, c5, rfl, hsl5⟩ := Sl.ofOwn hown (fun x hx => by
     obtain ⟨y, hy, rfl⟩ := text_mem hx
     have h1 := text_size y (HALL.out y hy)
     have h2 := nodesL_mem hy
     have h3 := HNOD.out
     unfold maxLen; omega)
    rw [textL_length]
    have hjoin := JoinComma_any A5 c5 (textL xs) wr hsl5 (by have := HNOD.out; omega) (by have := HNOD.out; have := nodesL_length xs; rw [textL_length]; omega)
    rw [textL_length] at hjoin
    obtain ⟨J, hJ⟩ : ∃ J, commaB (textL xs) = J := ⟨_, rfl⟩
    have hJs : J.size ≤ 2 ^ 60 := by have := HNOD.out; rw [← hJ]; omega
    have HJS := Lib.hid hJs; clear hJs
    rw [hJ] at hjoin
    have HJ := Lib.hid hJ; have HJOIN := Lib.hid hjoin; clear hJ hjoin hsl5 hown HOwn hts
    obtain ⟨d0, d1, d2, d3, d4, d5, d6⟩ := (HBOX.out.keep hb (by omega)).zero
    go_wp2_with fail
    refine HJOIN.out.mono ?_
    rintro e' w6 ⟨rfl, hb6⟩
    clear d0 d1 d2 d3 d4 d5 d6
    obtain ⟨d0, d1, d2, d3, d4, d5, d6⟩ := ((HBOX.out.keep hb (by omega)).keep hb6 (by have := hb.size; omega)).zero
    have hb06 : Below g w w6 := hbw.trans (hb6.mono (by have := hbw.size; omega))
    have HB06 := Lib.hid hb06; clear hb06 hb6 hbw
    have hgr : ∀ n, Below g w (w6.drewN n) := fun n => below_drewN HB06.out n
    have HGR := Lib.hid hgr; clear hgr
    have his := HIS.out; have hls := HLS.out; have hjs := HJS.out
    have n1 := numT_size HS0.out; have n2 := numT_size HT0.out; have n3 := numT_size HE0.out
    rcases HKIND.out with rfl | rfl | rfl | rfl | rfl | rfl
    ·
     go_wp2
     go_ret
     refine ⟨ret_str ?_, by first | (rw [hgg]; exact HB06.out) | exact HB06.out | (rw [hgg]; exact HGR.out _) | exact HGR.out _⟩
     rw [textC, HJ.out]
     simp
    ·
     go_wp2
     go_ret
     refine ⟨ret_str ?_, by first | (rw [hgg]; exact HB06.out) | exact HB06.out | (rw [hgg]; exact HGR.out _) | exact HGR.out _⟩
     rw [textC, HJ.out]
     simp
    ·
     go_wp2_with fail
     go_quiet ((first | (go_at_call 34; first | exact quiet_same (itoa_small s HS0.out _) | exact quiet_same (itoa_small t HT0.out _) | exact quiet_same (itoa_small e HE0.out _)) | (rw [if_neg (by first | omega | (simp only [ByteArray.size_append, lit_size]; simp; omega))]; exact ⟨rfl, rfl⟩)))
     go_wp2
     go_ret
     refine ⟨ret_str ?_, by first | (rw [hgg]; exact HB06.out) | exact HB06.out | (rw [hgg]; exact HGR.out _) | exact HGR.out _⟩
     rw [textC, HJ.out]
     simp
    ·
     go_wp2
     go_ret
     refine ⟨ret_str ?_, by first | (rw [hgg]; exact HB06.out) | exact HB06.out | (rw [hgg]; exact HGR.out _) | exact HGR.out _⟩
     rw [textC, HJ.out]
     simp
    ·
     go_wp2_with fail
     go_quiet ((first | (go_at_call 34; first | exact quiet_same (itoa_small s HS0.out _) | exact quiet_same (itoa_small t HT0.out _) | exact quiet_same (itoa_small e HE0.out _)) | (rw [if_neg (by first | omega | (simp only [ByteArray.size_append, lit_size]; simp; omega))]; exact ⟨rfl, rfl⟩)))
     go_wp2
     go_ret
     refine ⟨ret_str ?_, by first | (rw [hgg]; exact HB06.out) | exact HB06.out | (rw [hgg]; exact HGR.out _) | exact HGR.out _⟩
     rw [textC, HJ.out]
     simp
    ·
     go_wp2
     go_ret
     refine ⟨ret_str ?_, by first | (rw [hgg]; exact HB06.out) | exact HB06.out | (rw [hgg]; exact HGR.out _) | exact HGR.out _⟩
     rw [textC, HJ.out]
     simp
theorem text_any (a : Cont) (cs : List Value) (w : World) (h : CRd w w.heap.size a cs) (ha : AllOk a) (hn : nodesC a ≤ 2 ^ 40) : Calls Tryz.prog 117 #[.agg cs.toArray] w fun e' w' => e' = .returned (.string (textC a)) ∧ Below w.heap.size w w' :=
 text_all _ a cs w (Nat.lt_succ_self _) h ha hn
end Go.Proofs.YtehmidmoiamcfaaGreatDoor
namespace Go.Cold
open Go Go.RowKit
/-- The piece of a text from a place on, up to the first byte of some. -/
def pieceP (s ends : ByteArray) (k : Nat) : ByteArray := (s.extract k s.size).extract 0 (untilN (s.extract k s.size) ends)
def afterP (s ends : ByteArray) (k : Nat) : Nat := k + untilN (s.extract k s.size) ends
/-- Behind a text that must stand here. -/
def wantP (s t : ByteArray) (k : Nat) : Option Nat := if skipB s k t then some (k + t.size) else none
/-- The number whose text this is. -/
def numP (t : ByteArray) : Option Int := match Lib.atoiAll t.data.toList with
 | .ok n => if Lib.itoa n = t.data.toList then some n else none
 | _ => none
def numAt (s : ByteArray) (k : Nat) : Option (Int × Nat) := (numP (pieceP s ⟨#[47, 40, 44, 41, 58]⟩ k)).map fun n => (n, afterP s ⟨#[47, 40, 44, 41, 58]⟩ k)
mutual
/-- The content at a place, and the place behind it; 'none' if the parser calls the text bad. -/
def contP (s : ByteArray) : Nat → Nat → Option (Cont × Nat)
 | 0, _ => none
 | f + 1, k =>
  let kind := pieceP s ⟨#[58, 44, 41]⟩ k
  let k1 := afterP s ⟨#[58, 44, 41]⟩ k
  if kind = ⟨#[]⟩ then some (.mk 0 ⟨#[]⟩ ⟨#[]⟩ 0 0 0 [], k1) else
  (wantP s ⟨#[58]⟩ k1).bind fun k2 =>
  let i := pieceP s ⟨#[58, 40, 44, 41]⟩ k2
  let k3 := afterP s ⟨#[58, 40, 44, 41]⟩ k2
  if kind = ⟨#[102, 115]⟩ then (wantP s ⟨#[58]⟩ k3).bind fun k4 => some (.mk 1 i (pieceP s ⟨#[44, 41]⟩ k4) 0 0 0 [], afterP s ⟨#[44, 41]⟩ k4)
  else if kind = ⟨#[114, 97, 105, 100]⟩ then
   (wantP s ⟨#[58]⟩ k3).bind fun k4 => (numAt s k4).bind fun (n1, k5) => (wantP s ⟨#[47]⟩ k5).bind fun k6 => (numAt s k6).bind fun (n2, k7) => (wantP s ⟨#[47]⟩ k7).bind fun k8 => (numAt s k8).bind fun (n3, k9) =>
   (wantP s ⟨#[40]⟩ k9).bind fun k10 => (innerP s f k10 []).map fun (xs, k11) => (.mk 2 i ⟨#[]⟩ n1 n2 n3 xs, k11)
  else if kind = ⟨#[99, 114, 121, 112, 116]⟩ then (wantP s ⟨#[40]⟩ k3).bind fun k10 => (innerP s f k10 []).map fun (xs, k11) => (.mk 3 i ⟨#[]⟩ 0 0 0 xs, k11)
  else if kind = ⟨#[112, 118]⟩ then
   (wantP s ⟨#[58]⟩ k3).bind fun k4 => (numAt s k4).bind fun (n1, k5) => (wantP s ⟨#[47]⟩ k5).bind fun k6 => (numAt s k6).bind fun (n2, k7) =>
   (wantP s ⟨#[40]⟩ k7).bind fun k10 => (innerP s f k10 []).map fun (xs, k11) => (.mk 4 i ⟨#[]⟩ n1 n2 0 xs, k11)
  else if kind = ⟨#[116, 97, 98, 108, 101]⟩ then (wantP s ⟨#[40]⟩ k3).bind fun k10 => (innerP s f k10 []).map fun (xs, k11) => (.mk 5 i ⟨#[]⟩ 0 0 0 xs, k11)
  else none
/-- The contents up to the closing bracket; xs are read. -/
def innerP (s : ByteArray) : Nat → Nat → List Cont → Option (List Cont × Nat)
 | 0, _, _ => none
 | f + 1, k, xs => (contP s f k).bind fun (x, k1) => if skipB s k1 ⟨#[41]⟩ then some (xs ++ [x], k1 + 1) else (wantP s ⟨#[44]⟩ k1).bind fun k2 => innerP s f k2 (xs ++ [x])
end
end Go.Cold
