/-
  The walk of layer 7's Format, given what text does at the content.
-/
import Derived.Test.YtnlocdhhecockaaGreatDoorCnK
set_option linter.unusedSimpArgs false
set_option linter.unusedVariables false
namespace Go.Proofs.YtnlocdhhecockaaGreatDoor
open Go.RowKit Go.Cold

def FormatPost (a : Cont) (T : ByteArray) (w : World) (e : Ending) (w' : World) : Prop := Below w.heap.size w w' ∧
  ((badC a = true ∧ e = .returned (.tuple #[.string ⟨#[]⟩, .int .i64 70])) ∨ (badC a = false ∧ 256 < T.size ∧ e = .returned (.tuple #[.string ⟨#[]⟩, .int .i64 71])) ∨
   (badC a = false ∧ T.size ≤ 256 ∧ e = .returned (.tuple #[.string T, .int .i64 0])))
theorem Format_any (a : Cont) (cs : List Value) (w : World) (h : CRd w w.heap.size a cs) (hn : nodesC a ≤ 2 ^ 40) (T : ByteArray)
    (htext : badC a = false → ∀ (W : World) (ds : List Value), CRd W W.heap.size a ds → Calls Tryz.prog 19 #[.agg ds.toArray] W fun e W' => e = .returned (.string T) ∧ Below W.heap.size W W') :
    Calls Tryz.prog 9 #[.agg cs.toArray] w (FormatPost a T w) := by
  have hcells : ∃ k i l s t e A n c, cs = contCells k i l s t e A n c := by
    obtain ⟨k, i, l, s, t, e, xs⟩ := a
    obtain ⟨A, c, rfl, -, -⟩ := CRd_iff.1 h
    exact ⟨_, _, _, _, _, _, _, _, _, rfl⟩
  obtain ⟨k, i, l, s, t, e, A, n, c, rfl⟩ := hcells
  simp only [contCells]
  obtain ⟨w0, hw0⟩ : ∃ w0, w.alloc (.cells #[.int .i64 k, .string i, .string l, .int .i64 s, .int .i64 t, .int .i64 e, .slice A n c] 31) = w0 := ⟨_, rfl⟩
  obtain ⟨hb0, hg0, hbox⟩ := box7 hw0
  obtain ⟨d0, d1, d2, d3, d4, d5, d6⟩ := hbox.zero
  have hr0 := CRd_more (show w.heap.size ≤ w0.heap.size by omega) _ _ (CRd_keep hb0 _ _ h)
  have HCALL := Lib.hid (Check_any _ _ w0 hr0 hn)
  have HR := Lib.hid hr0; clear hr0 h hn
  have HB := Lib.hid hbox; clear hbox
  have HT := Lib.hid htext; clear htext
  go_enter Tryz.func9, Tryz.ntmps9
  go_wp2_with fail
  refine HCALL.out.mono ?_
  rintro e' w2 ⟨rfl, hb2⟩
  clear d0 d1 d2 d3 d4 d5 d6
  obtain ⟨d0, d1, d2, d3, d4, d5, d6⟩ := (HB.out.keep hb2 (by omega)).zero
  have hb02 : Below w.heap.size w w2 := hb0.trans (hb2.mono (by omega))
  cases hbad : badC a with
  | true =>
    rw [checkE_bad hbad]
    have HBAD := Lib.hid hbad; clear hbad
    go_wp2
    go_ret2
    exact ⟨hb02, .inl ⟨HBAD.out, rfl⟩⟩
  | false =>
    rw [checkE_ok hbad]
    have hcall := HT.out hbad w2 _ (CRd_more hb2.size _ _ (CRd_keep hb2 _ _ HR.out))
    have HBAD := Lib.hid hbad; clear hbad
    have HC2 := Lib.hid hcall; clear hcall
    go_wp2_with fail
    refine HC2.out.mono ?_
    rintro e' w3 ⟨rfl, hb3⟩
    have hb03 := hb02.trans (hb3.mono hb02.size)
    by_cases hsz : T.size ≤ 256
    · go_wp2
      go_ret2
      exact ⟨hb03, .inr (.inr ⟨HBAD.out, hsz, rfl⟩)⟩
    · go_wp2
      go_ret2
      exact ⟨hb03, .inr (.inl ⟨HBAD.out, by omega, rfl⟩)⟩
end Go.Proofs.YtnlocdhhecockaaGreatDoor
