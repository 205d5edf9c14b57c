/-
  The walks of layer 7's reference: Valid and Format.
-/
import Derived.Test.YtnlocdhhecockaaDoorCnY
import Derived.Test.YtnlocdhhecockaaDoorCnZ
import Derived.Test.YtnlocdhhecockaaDoorCnS
set_option linter.unusedSimpArgs false
set_option linter.unusedVariables false
namespace Go.Proofs.YtnlocdhhecockaaDoor
open Go.RowKit Go.Cold

set_option maxRecDepth 10000 in
/-- The reference's Valid. -/
theorem RValid_any (a : Cont) (cs : List Value) (w : World) (h : CRd w w.heap.size a cs) : Calls Tryd.prog 13 #[.agg cs.toArray] w fun e' w' => e' = .returned (.bool (!badC a)) ∧ Below w.heap.size w w' := by
  have hcells : ∃ k i l s t e A n c, cs = contCells k i l s t e A n c := by
    obtain ⟨k, i, l, s, t, e, xs⟩ := a
    obtain ⟨A, c, rfl, -, -⟩ := CRd_iff.1 h
    exact ⟨_, _, _, _, _, _, _, _, _, rfl⟩
  obtain ⟨k, i, l, s, t, e, A, n, c, rfl⟩ := hcells
  simp only [contCells]
  obtain ⟨w0, hw0⟩ : ∃ w0, w.alloc (.cells #[.int .i64 k, .string i, .string l, .int .i64 s, .int .i64 t, .int .i64 e, .slice A n c] 24) = w0 := ⟨_, rfl⟩
  obtain ⟨hb0, hg0, hbox⟩ := box7 hw0
  obtain ⟨d0, d1, d2, d3, d4, d5, d6⟩ := hbox.zero
  have hr0 := CRd_more (show w.heap.size ≤ w0.heap.size by omega) _ _ (CRd_keep hb0 _ _ h)
  have hcall := rvalid_any a _ 6 w0 hr0 (by decide)
  rw [ref_bad] at hcall
  have HCALL := Lib.hid hcall; clear hcall hr0 h hbox
  go_enter Tryd.func13, Tryd.ntmps13
  go_wp2_with fail
  refine Calls.mono (HCALL.out : Calls Tryd.prog 28 #[.agg #[.int .i64 k, .string i, .string l, .int .i64 s, .int .i64 t, .int .i64 e, .slice A n c], .int .i64 6] w0 _) ?_
  rintro e' w2 ⟨rfl, hb2⟩
  go_wp2
  go_ret
  exact ⟨rfl, hb0.trans (hb2.mono (by omega))⟩
set_option maxRecDepth 10000 in
/-- The reference's Format. -/
theorem RFormat_any (a : Cont) (cs : List Value) (w : World) (h : CRd w w.heap.size a cs) (hn : nodesC a ≤ 2 ^ 40) : Calls Tryd.prog 12 #[.agg cs.toArray] w (FormatPost a (textC a) w) := by
  have hcells : ∃ k i l s t e A n c, cs = contCells k i l s t e A n c := by
    obtain ⟨k, i, l, s, t, e, xs⟩ := a
    obtain ⟨A, c, rfl, -, -⟩ := CRd_iff.1 h
    exact ⟨_, _, _, _, _, _, _, _, _, rfl⟩
  obtain ⟨k, i, l, s, t, e, A, n, c, rfl⟩ := hcells
  simp only [contCells]
  obtain ⟨w0, hw0⟩ : ∃ w0, w.alloc (.cells #[.int .i64 k, .string i, .string l, .int .i64 s, .int .i64 t, .int .i64 e, .slice A n c] 24) = w0 := ⟨_, rfl⟩
  obtain ⟨hb0, hg0, hbox⟩ := box7 hw0
  obtain ⟨d0, d1, d2, d3, d4, d5, d6⟩ := hbox.zero
  have hr0 := CRd_more (show w.heap.size ≤ w0.heap.size by omega) _ _ (CRd_keep hb0 _ _ h)
  have HCALL := Lib.hid (RValid_any _ _ w0 hr0)
  have HR := Lib.hid hr0; clear hr0 h
  have HB := Lib.hid hbox; clear hbox
  obtain ⟨T, hT⟩ : ∃ T, textC a = T := ⟨_, rfl⟩
  rw [hT]
  have HT := Lib.hid hT; clear hT
  go_enter Tryd.func12, Tryd.ntmps12
  go_wp2_with fail
  refine HCALL.out.mono ?_
  rintro e' w2 ⟨rfl, hb2⟩
  clear d0 d1 d2 d3 d4 d5 d6
  obtain ⟨d0, d1, d2, d3, d4, d5, d6⟩ := (HB.out.keep hb2 (by omega)).zero
  have hb02 : Below w.heap.size w w2 := hb0.trans (hb2.mono (by omega))
  cases hbad : badC a with
  | true =>
    have HBAD := Lib.hid hbad; clear hbad
    go_wp2
    go_ret2
    exact ⟨hb02, .inl ⟨HBAD.out, rfl⟩⟩
  | false =>
    have hcall := rtext_any a _ w2 (CRd_more hb2.size _ _ (CRd_keep hb2 _ _ HR.out)) (ok_of_bad hbad).1 hn
    rw [HT.out] at hcall
    have HBAD := Lib.hid hbad; clear hbad
    have HC2 := Lib.hid hcall; clear hcall
    go_wp2_with fail
    refine HC2.out.mono ?_
    rintro e' w3 ⟨rfl, hb3⟩
    have hb03 := hb02.trans (hb3.mono hb02.size)
    by_cases hsz : T.size ≤ 256
    · go_wp2
      go_ret2
      exact ⟨hb03, .inr (.inr ⟨HBAD.out, hsz, rfl⟩)⟩
    · go_wp2
      go_ret2
      exact ⟨hb03, .inr (.inl ⟨HBAD.out, by omega, rfl⟩)⟩
end Go.Proofs.YtnlocdhhecockaaDoor
