/-
  The walk of layer 7's reference: Valid.
-/
import Derived.Test.YtnlocdhhecockaaGreatDoorCnY
import Derived.Test.YtnlocdhhecockaaGreatDoorCnZ
set_option linter.unusedSimpArgs false
set_option linter.unusedVariables false
namespace Go.Proofs.YtnlocdhhecockaaGreatDoor
open Go.RowKit Go.Cold

set_option maxRecDepth 10000 in
/-- The reference's Valid. -/
theorem RValid_any (a : Cont) (cs : List Value) (w : World) (h : CRd w w.heap.size a cs) : Calls Tryz.prog 18 #[.agg cs.toArray] w fun e' w' => e' = .returned (.bool (!badC a)) ∧ Below w.heap.size w w' := by
  have hcells : ∃ k i l s t e A n c, cs = contCells k i l s t e A n c := by
    obtain ⟨k, i, l, s, t, e, xs⟩ := a
    obtain ⟨A, c, rfl, -, -⟩ := CRd_iff.1 h
    exact ⟨_, _, _, _, _, _, _, _, _, rfl⟩
  obtain ⟨k, i, l, s, t, e, A, n, c, rfl⟩ := hcells
  simp only [contCells]
  obtain ⟨w0, hw0⟩ : ∃ w0, w.alloc (.cells #[.int .i64 k, .string i, .string l, .int .i64 s, .int .i64 t, .int .i64 e, .slice A n c] 31) = w0 := ⟨_, rfl⟩
  obtain ⟨hb0, hg0, hbox⟩ := box7 hw0
  obtain ⟨d0, d1, d2, d3, d4, d5, d6⟩ := hbox.zero
  have hr0 := CRd_more (show w.heap.size ≤ w0.heap.size by omega) _ _ (CRd_keep hb0 _ _ h)
  have hcall := rvalid_any a _ 6 w0 hr0 (by decide)
  rw [ref_bad] at hcall
  have HCALL := Lib.hid hcall; clear hcall hr0 h hbox
  go_enter Tryz.func18, Tryz.ntmps18
  go_wp2_with fail
  refine Calls.mono (HCALL.out : Calls Tryz.prog 34 #[.agg #[.int .i64 k, .string i, .string l, .int .i64 s, .int .i64 t, .int .i64 e, .slice A n c], .int .i64 6] w0 _) ?_
  rintro e' w2 ⟨rfl, hb2⟩
  go_wp2
  go_ret
  exact ⟨rfl, hb0.trans (hb2.mono (by omega))⟩
end Go.Proofs.YtnlocdhhecockaaGreatDoor
