/-
  The walk of layer 7's Check.
-/
import Derived.Test.YtnlocdhhecockaaGreatDoorCnJ
import Derived.Test.YtnlocdhhecockaaGreatDoorCnF
set_option linter.unusedSimpArgs false
set_option linter.unusedVariables false
namespace Go.Cold
open Go Go.RowKit
mutual
theorem depth_le_nodes : ∀ a : Cont, depthC a ≤ nodesC a
  | .mk k _ _ _ _ _ xs => by
    have := depthL_le_nodes xs
    rw [depthC, nodesC]; split <;> omega
theorem depthL_le_nodes : ∀ xs : List Cont, depthL xs ≤ nodesL xs
  | [] => by rw [depthL, nodesL]; omega
  | x :: xs => by
    have := depth_le_nodes x
    have := depthL_le_nodes xs
    rw [depthL, nodesL]; omega
end
/-- What Check answers: 0 for a valid content. -/
noncomputable def badC (a : Cont) : Bool := decide (6 < depthC a) || (walkC a).any (fun x => !alikeB x)
noncomputable def checkE (a : Cont) : Int := if badC a then 70 else 0
theorem checkE_bad {a : Cont} (h : badC a = true) : checkE a = 70 := by rw [checkE, if_pos h]
theorem checkE_ok {a : Cont} (h : badC a = false) : checkE a = 0 := by rw [checkE, h]; rfl
end Go.Cold
namespace Go.Proofs.YtnlocdhhecockaaGreatDoor
open Go.RowKit Go.Cold

theorem alike_any (a : Cont) (cs : List Value) (w : World) (h : CRd w w.heap.size a cs) : Calls Tryz.prog 30 #[.agg cs.toArray] w fun e' w' => e' = .returned (.bool (alikeB a)) ∧ Below w.heap.size w w' := by
  obtain ⟨k, i, l, s, t, e, xs⟩ := a
  by_cases h0 : k = 0
  · subst h0; exact alike_none i l s t e xs cs w h
  by_cases h1 : k = 1
  · subst h1; exact alike_file i l s t e xs cs w h
  by_cases h2 : k = 2
  · subst h2; exact alike_raid i l s t e xs cs w h
  by_cases h3 : k = 3
  · subst h3; exact alike_crypt i l s t e xs cs w h
  by_cases h4 : k = 4
  · subst h4; exact alike_group i l s t e xs cs w h
  by_cases h5 : k = 5
  · subst h5; exact alike_table i l s t e xs cs w h
  exact alike_other k i l s t e xs cs w h h0 h1 h2 h3 h4 h5

theorem check1_any (a : Cont) (cs : List Value) (w : World) (h : CRd w w.heap.size a cs) : Calls Tryz.prog 29 #[.agg cs.toArray] w fun e' w' => e' = .returned (.bool (!alikeB a)) ∧ Below w.heap.size w w' := by
  obtain ⟨k, i, l, s, t, e, xs⟩ := a
  obtain ⟨A, c, rfl, -, -⟩ := CRd_iff.1 h
  simp only [contCells]
  obtain ⟨w0, hw0⟩ : ∃ w0, w.alloc (.cells #[.int .i64 k, .string i, .string l, .int .i64 s, .int .i64 t, .int .i64 e, .slice A xs.length c] 31) = w0 := ⟨_, rfl⟩
  obtain ⟨hb0, hg0, hbox⟩ := box7 hw0
  obtain ⟨d0, d1, d2, d3, d4, d5, d6⟩ := hbox.zero
  have hcall := alike_any _ _ w0 (CRd_more (by omega) _ _ (CRd_keep hb0 _ _ h))
  have HCALL := Lib.hid hcall; clear hcall h hbox
  go_enter Tryz.func29, Tryz.ntmps29
  go_wp2_with fail
  refine HCALL.out.mono ?_
  rintro e' w2 ⟨rfl, hb2⟩
  obtain ⟨z, hz⟩ : ∃ z, alikeB (.mk k i l s t e xs) = z := ⟨_, rfl⟩
  rw [hz]
  have HZ := Lib.hid hz; clear hz
  go_wp2
  go_ret
  exact ⟨ret_bool (by rw [HZ.out]), hb0.trans (hb2.mono (by omega))⟩
theorem check_pred (w : World) : PredC 29 #[] w (fun x => !alikeB x) :=
  ⟨enters_of Tryz.func29 (by kernel_rfl) rfl, fun x cs W hx _ => by simpa using check1_any x cs W hx⟩

/-- content.Check. -/
theorem Check_any (a : Cont) (cs : List Value) (w : World) (h : CRd w w.heap.size a cs) (hn : nodesC a ≤ 2 ^ 40) :
    Calls Tryz.prog 16 #[.agg cs.toArray] w fun e' w' => e' = .returned (.int .i64 (checkE a)) ∧ Below w.heap.size w w' := by
  have hd : depthC a ≤ 2 ^ 60 := by have := depth_le_nodes a; omega
  have hcells : ∃ k i l s t e A n c, cs = contCells k i l s t e A n c := by
    obtain ⟨k, i, l, s, t, e, xs⟩ := a
    obtain ⟨A, c, rfl, -, -⟩ := CRd_iff.1 h
    exact ⟨_, _, _, _, _, _, _, _, _, rfl⟩
  obtain ⟨k, i, l, s, t, e, A, n, c, rfl⟩ := hcells
  simp only [contCells]
  obtain ⟨w0, hw0⟩ : ∃ w0, w.alloc (.cells #[.int .i64 k, .string i, .string l, .int .i64 s, .int .i64 t, .int .i64 e, .slice A n c] 31) = w0 := ⟨_, rfl⟩
  obtain ⟨hb0, hg0, hbox⟩ := box7 hw0
  obtain ⟨d0, d1, d2, d3, d4, d5, d6⟩ := hbox.zero
  have hr0 := CRd_more (show w.heap.size ≤ w0.heap.size by omega) _ _ (CRd_keep hb0 _ _ h)
  have hcall := Depth_any _ _ w0 hr0 hd
  have HCALL := Lib.hid hcall; clear hcall h
  have HR := Lib.hid hr0; clear hr0
  have HN := Lib.hid hn; clear hn hd
  have HB := Lib.hid hbox; clear hbox
  go_enter Tryz.func16, Tryz.ntmps16
  go_wp2_with fail
  refine HCALL.out.mono ?_
  rintro e' w2 ⟨rfl, hb2⟩
  clear d0 d1 d2 d3 d4 d5 d6
  obtain ⟨d0, d1, d2, d3, d4, d5, d6⟩ := (HB.out.keep hb2 (by omega)).zero
  obtain ⟨z, hz⟩ : ∃ z, depthC a = z := ⟨_, rfl⟩
  rw [hz]
  have HZ := Lib.hid hz; clear hz
  have hb02 : Below w.heap.size w w2 := hb0.trans (hb2.mono (by omega))
  by_cases h6 : 6 < z
  · have h6' : decide (6 < z) = true := by simpa using h6
    go_wp2
    go_ret
    exact ⟨ret_int (checkE_bad (by rw [badC, HZ.out, h6']; simp)).symm, hb02⟩
  · have h6' : decide (6 < z) = false := by simpa using h6
    have hw := Walk_any a _ w2 (CRd_more hb2.size _ _ (CRd_keep hb2 _ _ HR.out)) HN.out
    have HW := Lib.hid hw; clear hw
    go_wp2_with fail
    refine HW.out.mono ?_
    rintro e' w3 ⟨v, rfl, hown, hb3⟩
    obtain ⟨A3, c3, rfl, hsl⟩ := hown.sl
    have HSL := Lib.hid hsl; clear hsl hown
    have hb03 := hb02.trans (hb3.mono hb02.size)
    go_wp2_with fail
    refine (ContainsFuncC_any A3 c3 (walkC a) _ _ _ w3 HSL.out (check_pred w3)).mono ?_
    rintro e' w4 ⟨rfl, hb4⟩
    have hb04 := hb03.trans (hb4.mono hb03.size)
    cases hq : (walkC a).any (fun x => !alikeB x) with
    | true =>
      have HQ := Lib.hid hq; clear hq
      go_wp2
      go_ret
      exact ⟨ret_int (checkE_bad (by rw [badC, HQ.out]; simp)).symm, hb04⟩
    | false =>
      have HQ := Lib.hid hq; clear hq
      go_wp2
      go_ret
      exact ⟨ret_int (checkE_ok (by rw [badC, HQ.out, HZ.out, h6']; simp)).symm, hb04⟩
end Go.Proofs.YtnlocdhhecockaaGreatDoor
