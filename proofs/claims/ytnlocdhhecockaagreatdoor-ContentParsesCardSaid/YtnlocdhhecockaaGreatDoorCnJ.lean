/-
  The walk of layer 7's alike, kind by kind; printed by genalike.py.
-/
import Derived.Test.YtnlocdhhecockaaGreatDoorCnI
import Derived.Test.YtnlocdhhecockaaGreatDoorCnE
set_option linter.unusedSimpArgs false
set_option linter.unusedVariables false
namespace Go.Cold
open Go Go.RowKit
/-- The fields that a content of its kind may have. -/
def usedC : Cont → Cont
  | .mk k i l s t e _ => if k = 1 then .mk k i l 0 0 0 [] else if k = 2 then .mk k i ByteArray.empty s t e [] else if k = 4 then .mk k i ByteArray.empty s t 0 [] else .mk k i ByteArray.empty 0 0 0 []
/-- What is asked of the fields, kind by kind. -/
def condC : Cont → Bool
  | .mk k _ l s t e xs => if k = 1 then decide (xs.length = 0) && (l.toList.isEmpty || idB l) else if k = 2 then decide (xs.length = 1) && ((withinB t 16 && withinB s t) && withinB e t)
      else if k = 3 then decide (xs.length = 1) else if k = 4 then withinB xs.length 16 && (withinB t 16 && withinB s t) else if k = 5 then withinB xs.length 16 else false
noncomputable def alikeB : Cont → Bool
  | .mk k i l s t e xs => if k = 0 then sameC (.mk k i l s t e xs) (.mk 0 ByteArray.empty ByteArray.empty 0 0 0 []) else condC (.mk k i l s t e xs) && (idB i && sameC (.mk k i l s t e []) (usedC (.mk k i l s t e xs)))
end Go.Cold
namespace Go.Proofs.YtnlocdhhecockaaGreatDoor
open Go.RowKit Go.Cold

theorem slots_raw (kk : Int) (i l : ByteArray) (s t e : Int) (A : Option Addr) (n c : Nat) (w : World) : Calls Tryz.prog 46 #[.agg #[.int .i64 kk, .string i, .string l, .int .i64 s, .int .i64 t, .int .i64 e, .slice A n c]] w fun e' w' => e' = .returned (.bool (withinB t 16 && withinB s t)) ∧ Below w.heap.size w w' := by
  obtain ⟨w0, hw0⟩ : ∃ w0, w.alloc (.cells #[.int .i64 kk, .string i, .string l, .int .i64 s, .int .i64 t, .int .i64 e, .slice A n c] 31) = w0 := ⟨_, rfl⟩
  obtain ⟨hb0, hg0, hbox⟩ := box7 hw0
  obtain ⟨d0, d1, d2, d3, d4, d5, d6⟩ := hbox.zero
  go_enter Tryz.func46, Tryz.ntmps46
  go_wp2_with fail
  refine (within_any t 16 _).mono ?_; rintro e' w' ⟨rfl, rfl⟩
  cases h1 : (decide (1 ≤ t) && decide (t ≤ 16)) with
  | true =>
    have H1 := Lib.hid h1; clear h1
    go_wp2_with fail
    refine (within_any s t _).mono ?_; rintro e' w' ⟨rfl, rfl⟩
    obtain ⟨z, hz⟩ : ∃ z, (decide (1 ≤ s) && decide (s ≤ t)) = z := ⟨_, rfl⟩
    rw [hz]
    have HZ := Lib.hid hz; clear hz
    go_wp2
    go_ret
    exact ⟨ret_bool (by rw [withinB, withinB, H1.out, HZ.out]; rfl), hb0⟩
  | false =>
    have H1 := Lib.hid h1; clear h1
    go_wp2
    go_ret
    exact ⟨ret_bool (by rw [withinB, H1.out]; rfl), hb0⟩

set_option maxRecDepth 100000 in
theorem alike_none (i l : ByteArray) (s t e : Int) (xs : List Cont) (cs : List Value) (w : World) (h : CRd w w.heap.size (.mk 0 i l s t e xs) cs) : Calls Tryz.prog 30 #[.agg cs.toArray] w fun e' w' => e' = .returned (.bool (alikeB (.mk 0 i l s t e xs))) ∧ Below w.heap.size w w' := by
  obtain ⟨A, c, rfl, hok, hsl⟩ := CRd_iff.1 h
  have hzv := (zero_of_info (P := Tryz.prog) (t := 31) info_cont2).1
  simp only [contCells]
  obtain ⟨w0, hw0⟩ : ∃ w0, w.alloc (.cells #[.int .i64 0, .string i, .string l, .int .i64 s, .int .i64 t, .int .i64 e, .slice A xs.length c] 31) = w0 := ⟨_, rfl⟩
  obtain ⟨hb0, hg0, hbox⟩ := box7 hw0
  obtain ⟨d0, d1, d2, d3, d4, d5, d6⟩ := hbox.zero
  have hz0 : CRd w0 w0.heap.size (.mk 0 ByteArray.empty ByteArray.empty 0 0 0 []) (contCells 0 ByteArray.empty ByteArray.empty 0 0 0 none 0 0) :=
    CRd_iff.2 ⟨none, 0, rfl, ⟨by unfold okInt; omega, by unfold maxLen; decide, by unfold maxLen; decide, by unfold okInt; omega, by unfold okInt; omega, by unfold okInt; omega⟩, Sl.nil_⟩
  have hcall := Same_any (.mk 0 i l s t e xs) (.mk 0 ByteArray.empty ByteArray.empty 0 0 0 []) _ _ w0 (CRd_more (by omega) _ _ (CRd_keep hb0 _ _ h)) hz0
  have HCALL := Lib.hid hcall
  clear hcall h hsl hok hbox hz0
  go_enter Tryz.func30, Tryz.ntmps30
  go_wp2_with fail
  refine HCALL.out.mono ?_
  rintro e' w2 ⟨rfl, hb2⟩
  obtain ⟨z, hz⟩ : ∃ z, sameC (.mk 0 i l s t e xs) (.mk 0 ByteArray.empty ByteArray.empty 0 0 0 []) = z := ⟨_, rfl⟩
  rw [hz]
  have HZ := Lib.hid hz; clear hz
  go_wp2
  go_ret
  exact ⟨ret_bool (by rw [alikeB, if_pos rfl, HZ.out]), hb0.trans (hb2.mono (by omega))⟩

set_option maxRecDepth 100000 in
set_option maxHeartbeats 8000000 in
theorem alike_crypt (i l : ByteArray) (s t e : Int) (xs : List Cont) (cs : List Value) (w : World) (h : CRd w w.heap.size (.mk 3 i l s t e xs) cs) : Calls Tryz.prog 30 #[.agg cs.toArray] w fun e' w' => e' = .returned (.bool (alikeB (.mk 3 i l s t e xs))) ∧ Below w.heap.size w w' := by
  obtain ⟨A, c, rfl, hok, hsl⟩ := CRd_iff.1 h
  have hzv := (zero_of_info (P := Tryz.prog) (t := 31) info_cont2).1
  simp only [contCells]
  obtain ⟨w0, hw0⟩ : ∃ w0, w.alloc (.cells #[.int .i64 3, .string i, .string l, .int .i64 s, .int .i64 t, .int .i64 e, .slice A xs.length c] 31) = w0 := ⟨_, rfl⟩
  obtain ⟨hb0, hg0, hbox⟩ := box7 hw0
  obtain ⟨d0, d1, d2, d3, d4, d5, d6⟩ := hbox.zero
  have hfr0 : ∀ j, w0.frozen? ⟨w.heap.size, j, none⟩ = false := fun j => box7f hw0 j
  obtain ⟨n, hn⟩ : ∃ n, xs.length = n := ⟨_, rfl⟩
  have hnc := hsl.1
  have hcm := hsl.2.1
  have HC := Lib.hid (show condC (.mk 3 i l s t e xs) = condC (.mk 3 i l s t e xs) from rfl)
  have HOK := Lib.hid hok
  have hi := hok.2.1
  have hl := hok.2.2.1
  have hrd := CRd_more (show w.heap.size ≤ w0.heap.size by omega) _ _ (CRd_keep hb0 _ _ h)
  clear h hsl hbox hok
  by_cases hlen : xs.length = 1
  · have hlenb : ((xs.length : Int) != 1) = false := by simp [hlen]
    have hcond : condC (.mk 3 i l s t e xs) = true := by unfold condC; simp [hlen]
    have HCOND := Lib.hid hcond; clear hcond hlen hn
    go_enter Tryz.func30, Tryz.ntmps30
    go_wp2_with fail
    go_region
    go_wp2_with fail
    refine (isID_any i _ hi).mono ?_
    rintro e' w6 ⟨rfl, hb6⟩
    have hbw : Below w.heap.size w w6 := Below.trans (b := _) (by (repeat first | refine Below.setCell ?_ (by first | (simp [hg0]; done) | (simp [hg0]; omega)) _ | refine Below.drew ?_ | refine Below.alloc ?_ (by first | (simp [hg0]; done) | (simp [hg0]; omega)) _); exact hb0) (hb6.mono (by first | (simp [hg0]; done) | (simp [hg0]; omega)))
    have q0 : w6.cell? ⟨w.heap.size, 0, none⟩ = some (.int .i64 3) := (hb6.cell (p := ⟨w.heap.size, 0, none⟩) (by first | (simp [hg0]; done) | (simp [hg0]; omega))).trans (by simp [go_sem, *])
    have q1 : w6.cell? ⟨w.heap.size, 1, none⟩ = some (.string i) := (hb6.cell (p := ⟨w.heap.size, 1, none⟩) (by first | (simp [hg0]; done) | (simp [hg0]; omega))).trans (by simp [go_sem, *])
    have q2 : w6.cell? ⟨w.heap.size, 2, none⟩ = some (.string l) := (hb6.cell (p := ⟨w.heap.size, 2, none⟩) (by first | (simp [hg0]; done) | (simp [hg0]; omega))).trans (by simp [go_sem, *])
    have q3 : w6.cell? ⟨w.heap.size, 3, none⟩ = some (.int .i64 s) := (hb6.cell (p := ⟨w.heap.size, 3, none⟩) (by first | (simp [hg0]; done) | (simp [hg0]; omega))).trans (by simp [go_sem, *])
    have q4 : w6.cell? ⟨w.heap.size, 4, none⟩ = some (.int .i64 t) := (hb6.cell (p := ⟨w.heap.size, 4, none⟩) (by first | (simp [hg0]; done) | (simp [hg0]; omega))).trans (by simp [go_sem, *])
    have q5 : w6.cell? ⟨w.heap.size, 5, none⟩ = some (.int .i64 e) := (hb6.cell (p := ⟨w.heap.size, 5, none⟩) (by first | (simp [hg0]; done) | (simp [hg0]; omega))).trans (by simp [go_sem, *])
    have q6 : w6.cell? ⟨w.heap.size, 6, none⟩ = some (.slice none 0 0) := (hb6.cell (p := ⟨w.heap.size, 6, none⟩) (by first | (simp [hg0]; done) | (simp [hg0]; omega))).trans (by simp [go_sem, *])
    have r0 : w6.cell? ⟨w.heap.size + 1, 0, none⟩ = some (.int .i64 3) := (hb6.cell (p := ⟨w.heap.size + 1, 0, none⟩) (by first | (simp [hg0]; done) | (simp [hg0]; omega))).trans (by simp [go_sem, *])
    have r1 : w6.cell? ⟨w.heap.size + 1, 1, none⟩ = some (.string i) := (hb6.cell (p := ⟨w.heap.size + 1, 1, none⟩) (by first | (simp [hg0]; done) | (simp [hg0]; omega))).trans (by simp [go_sem, *])
    have r2 : w6.cell? ⟨w.heap.size + 1, 2, none⟩ = some (.string ByteArray.empty) := (hb6.cell (p := ⟨w.heap.size + 1, 2, none⟩) (by first | (simp [hg0]; done) | (simp [hg0]; omega))).trans (by simp [go_sem, *])
    have r3 : w6.cell? ⟨w.heap.size + 1, 3, none⟩ = some (.int .i64 0) := (hb6.cell (p := ⟨w.heap.size + 1, 3, none⟩) (by first | (simp [hg0]; done) | (simp [hg0]; omega))).trans (by simp [go_sem, *])
    have r4 : w6.cell? ⟨w.heap.size + 1, 4, none⟩ = some (.int .i64 0) := (hb6.cell (p := ⟨w.heap.size + 1, 4, none⟩) (by first | (simp [hg0]; done) | (simp [hg0]; omega))).trans (by simp [go_sem, *])
    have r5 : w6.cell? ⟨w.heap.size + 1, 5, none⟩ = some (.int .i64 0) := (hb6.cell (p := ⟨w.heap.size + 1, 5, none⟩) (by first | (simp [hg0]; done) | (simp [hg0]; omega))).trans (by simp [go_sem, *])
    have r6 : w6.cell? ⟨w.heap.size + 1, 6, none⟩ = some (.slice none 0 0) := (hb6.cell (p := ⟨w.heap.size + 1, 6, none⟩) (by first | (simp [hg0]; done) | (simp [hg0]; omega))).trans (by simp [go_sem, *])
    clear hb6 d0 d1 d2 d3 d4 d5 d6
    cases hid : idB i with
    | false =>
      have HI := Lib.hid hid; clear hid
      go_wp2
      go_ret
      exact ⟨ret_bool (by rw [alikeB, if_neg (by decide), HI.out]; simp), hbw⟩
    | true =>
      have HI := Lib.hid hid; clear hid
      have hcall := Same_any (.mk 3 i l s t e []) (.mk 3 i ByteArray.empty 0 0 0 []) _ _ w6 (CRd_iff.2 ⟨none, 0, rfl, HOK.out, Sl.nil_⟩) (CRd_iff.2 ⟨none, 0, rfl, by have := HOK.out; unfold okInt maxLen at *; simp at *; omega, Sl.nil_⟩)
      have HCALL := Lib.hid hcall; clear hcall
      go_wp2_with fail
      refine HCALL.out.mono ?_
      rintro e' w7 ⟨rfl, hb7⟩
      have hz : sameC (.mk 3 i l s t e []) (usedC (.mk 3 i l s t e xs)) = sameC (.mk 3 i l s t e []) (.mk 3 i ByteArray.empty 0 0 0 []) := by rw [usedC]; simp
      obtain ⟨z, hz2⟩ : ∃ z, sameC (.mk 3 i l s t e []) (.mk 3 i ByteArray.empty 0 0 0 []) = z := ⟨_, rfl⟩
      rw [hz2] at hz ⊢
      have HZ := Lib.hid hz; clear hz hz2
      go_wp2
      go_ret
      exact ⟨ret_bool (by rw [alikeB, if_neg (by decide), HCOND.out, HI.out, HZ.out]; simp), hbw.trans (hb7.mono hbw.size)⟩
  · have hlenb : ((xs.length : Int) != 1) = true := by simp; omega
    have hcond : condC (.mk 3 i l s t e xs) = false := by unfold condC; simp [hlen]
    have HCOND := Lib.hid hcond; clear hcond hlen hn
    go_enter Tryz.func30, Tryz.ntmps30
    go_wp2_with fail
    go_region
    go_wp2
    go_ret
    exact ⟨ret_bool (by rw [alikeB, if_neg (by decide), HCOND.out]; simp), (by (repeat first | refine Below.setCell ?_ (by first | (simp [hg0]; done) | (simp [hg0]; omega)) _ | refine Below.drew ?_ | refine Below.alloc ?_ (by first | (simp [hg0]; done) | (simp [hg0]; omega)) _); exact hb0)⟩
set_option maxRecDepth 100000 in
set_option maxHeartbeats 8000000 in
theorem alike_table (i l : ByteArray) (s t e : Int) (xs : List Cont) (cs : List Value) (w : World) (h : CRd w w.heap.size (.mk 5 i l s t e xs) cs) : Calls Tryz.prog 30 #[.agg cs.toArray] w fun e' w' => e' = .returned (.bool (alikeB (.mk 5 i l s t e xs))) ∧ Below w.heap.size w w' := by
  obtain ⟨A, c, rfl, hok, hsl⟩ := CRd_iff.1 h
  have hzv := (zero_of_info (P := Tryz.prog) (t := 31) info_cont2).1
  simp only [contCells]
  obtain ⟨w0, hw0⟩ : ∃ w0, w.alloc (.cells #[.int .i64 5, .string i, .string l, .int .i64 s, .int .i64 t, .int .i64 e, .slice A xs.length c] 31) = w0 := ⟨_, rfl⟩
  obtain ⟨hb0, hg0, hbox⟩ := box7 hw0
  obtain ⟨d0, d1, d2, d3, d4, d5, d6⟩ := hbox.zero
  have hfr0 : ∀ j, w0.frozen? ⟨w.heap.size, j, none⟩ = false := fun j => box7f hw0 j
  have hnc := hsl.1
  have hcm := hsl.2.1
  have HC := Lib.hid (show condC (.mk 5 i l s t e xs) = condC (.mk 5 i l s t e xs) from rfl)
  have HOK := Lib.hid hok
  have hi := hok.2.1
  have hl := hok.2.2.1
  have hrd := CRd_more (show w.heap.size ≤ w0.heap.size by omega) _ _ (CRd_keep hb0 _ _ h)
  clear h hsl hbox hok
  go_enter Tryz.func30, Tryz.ntmps30
  go_wp2_with fail
  go_region
  go_wp2_with fail
  refine (within_any _ 16 _).mono ?_; rintro e' w' ⟨rfl, rfl⟩
  cases hB : (decide (1 ≤ (xs.length : Int)) && decide ((xs.length : Int) ≤ 16)) with
  | true =>
    have hcond : condC (.mk 5 i l s t e xs) = true := by unfold condC; simp only [withinB, hB]; simp
    have HCOND := Lib.hid hcond; clear hcond hB
    go_wp2_with fail
    refine (isID_any i _ hi).mono ?_
    rintro e' w6 ⟨rfl, hb6⟩
    have hbwz : Below w.heap.size w w6 := Below.trans (b := _) (by (repeat first | refine Below.setCell ?_ (by first | (simp [hg0]; done) | (simp [hg0]; omega) | (simp; omega)) _ | refine Below.drew ?_ | refine Below.alloc ?_ (by first | (simp [hg0]; done) | (simp [hg0]; omega) | (simp; omega)) _); exact hb0) (hb6.mono (by first | (simp [hg0]; done) | (simp [hg0]; omega) | (simp; omega)))
    have hsz : w.heap.size + 2 ≤ w6.heap.size := Nat.le_trans (by first | (simp [hg0]; done) | (simp [hg0]; omega) | (simp; omega)) hb6.size
    have qz0 : w6.cell? ⟨w.heap.size, 0, none⟩ = some (.int .i64 5) := (hb6.cell (p := ⟨w.heap.size, 0, none⟩) (by first | (simp [hg0]; done) | (simp [hg0]; omega) | (simp; omega))).trans (by simp [go_sem, *])
    have qz1 : w6.cell? ⟨w.heap.size, 1, none⟩ = some (.string i) := (hb6.cell (p := ⟨w.heap.size, 1, none⟩) (by first | (simp [hg0]; done) | (simp [hg0]; omega) | (simp; omega))).trans (by simp [go_sem, *])
    have qz2 : w6.cell? ⟨w.heap.size, 2, none⟩ = some (.string l) := (hb6.cell (p := ⟨w.heap.size, 2, none⟩) (by first | (simp [hg0]; done) | (simp [hg0]; omega) | (simp; omega))).trans (by simp [go_sem, *])
    have qz3 : w6.cell? ⟨w.heap.size, 3, none⟩ = some (.int .i64 s) := (hb6.cell (p := ⟨w.heap.size, 3, none⟩) (by first | (simp [hg0]; done) | (simp [hg0]; omega) | (simp; omega))).trans (by simp [go_sem, *])
    have qz4 : w6.cell? ⟨w.heap.size, 4, none⟩ = some (.int .i64 t) := (hb6.cell (p := ⟨w.heap.size, 4, none⟩) (by first | (simp [hg0]; done) | (simp [hg0]; omega) | (simp; omega))).trans (by simp [go_sem, *])
    have qz5 : w6.cell? ⟨w.heap.size, 5, none⟩ = some (.int .i64 e) := (hb6.cell (p := ⟨w.heap.size, 5, none⟩) (by first | (simp [hg0]; done) | (simp [hg0]; omega) | (simp; omega))).trans (by simp [go_sem, *])
    have qz6 : w6.cell? ⟨w.heap.size, 6, none⟩ = some (.slice none 0 0) := (hb6.cell (p := ⟨w.heap.size, 6, none⟩) (by first | (simp [hg0]; done) | (simp [hg0]; omega) | (simp; omega))).trans (by simp [go_sem, *])
    have rz0 : w6.cell? ⟨w.heap.size + 1, 0, none⟩ = some (.int .i64 5) := (hb6.cell (p := ⟨w.heap.size + 1, 0, none⟩) (by first | (simp [hg0]; done) | (simp [hg0]; omega) | (simp; omega))).trans (by simp [go_sem, *])
    have rz1 : w6.cell? ⟨w.heap.size + 1, 1, none⟩ = some (.string i) := (hb6.cell (p := ⟨w.heap.size + 1, 1, none⟩) (by first | (simp [hg0]; done) | (simp [hg0]; omega) | (simp; omega))).trans (by simp [go_sem, *])
    have rz2 : w6.cell? ⟨w.heap.size + 1, 2, none⟩ = some (.string ByteArray.empty) := (hb6.cell (p := ⟨w.heap.size + 1, 2, none⟩) (by first | (simp [hg0]; done) | (simp [hg0]; omega) | (simp; omega))).trans (by simp [go_sem, *])
    have rz3 : w6.cell? ⟨w.heap.size + 1, 3, none⟩ = some (.int .i64 0) := (hb6.cell (p := ⟨w.heap.size + 1, 3, none⟩) (by first | (simp [hg0]; done) | (simp [hg0]; omega) | (simp; omega))).trans (by simp [go_sem, *])
    have rz4 : w6.cell? ⟨w.heap.size + 1, 4, none⟩ = some (.int .i64 0) := (hb6.cell (p := ⟨w.heap.size + 1, 4, none⟩) (by first | (simp [hg0]; done) | (simp [hg0]; omega) | (simp; omega))).trans (by simp [go_sem, *])
    have rz5 : w6.cell? ⟨w.heap.size + 1, 5, none⟩ = some (.int .i64 0) := (hb6.cell (p := ⟨w.heap.size + 1, 5, none⟩) (by first | (simp [hg0]; done) | (simp [hg0]; omega) | (simp; omega))).trans (by simp [go_sem, *])
    have rz6 : w6.cell? ⟨w.heap.size + 1, 6, none⟩ = some (.slice none 0 0) := (hb6.cell (p := ⟨w.heap.size + 1, 6, none⟩) (by first | (simp [hg0]; done) | (simp [hg0]; omega) | (simp; omega))).trans (by simp [go_sem, *])
    have fgz : ∀ j, w6.frozen? ⟨w.heap.size, j, none⟩ = false := fun j => (hb6.frozen (p := ⟨w.heap.size, j, none⟩) (by first | (simp [hg0]; done) | (simp [hg0]; omega) | (simp; omega))).trans (by simp [go_sem, *])
    clear hb6
    clear d0 d1 d2 d3 d4 d5 d6
    cases hid : idB i with
    | false =>
      have HI := Lib.hid hid; clear hid
      go_wp2
      go_ret
      exact ⟨ret_bool (by rw [alikeB, if_neg (by decide), HI.out]; simp), hbwz⟩
    | true =>
      have HI := Lib.hid hid; clear hid
      have hcall := Same_any (.mk 5 i l s t e []) (.mk 5 i ByteArray.empty 0 0 0 []) _ _ w6 (CRd_iff.2 ⟨none, 0, rfl, HOK.out, Sl.nil_⟩) (CRd_iff.2 ⟨none, 0, rfl, by have := HOK.out; unfold okInt maxLen at *; simp at *; omega, Sl.nil_⟩)
      have HCALL := Lib.hid hcall; clear hcall
      go_wp2_with fail
      refine HCALL.out.mono ?_
      rintro e' w7 ⟨rfl, hb7⟩
      have hz : sameC (.mk 5 i l s t e []) (usedC (.mk 5 i l s t e xs)) = sameC (.mk 5 i l s t e []) (.mk 5 i ByteArray.empty 0 0 0 []) := by rw [usedC]; simp
      obtain ⟨z, hz2⟩ : ∃ z, sameC (.mk 5 i l s t e []) (.mk 5 i ByteArray.empty 0 0 0 []) = z := ⟨_, rfl⟩
      rw [hz2] at hz ⊢
      have HZ := Lib.hid hz; clear hz hz2
      go_wp2
      go_ret
      exact ⟨ret_bool (by rw [alikeB, if_neg (by decide), HCOND.out, HI.out, HZ.out]; simp), hbwz.trans (hb7.mono hbwz.size)⟩
  | false =>
    have hcond : condC (.mk 5 i l s t e xs) = false := by unfold condC; simp only [withinB, hB]; simp
    have HCOND := Lib.hid hcond; clear hcond hB
    go_wp2
    go_ret
    exact ⟨ret_bool (by rw [alikeB, if_neg (by decide), HCOND.out]; simp), (by (repeat first | refine Below.setCell ?_ (by first | (simp [hg0]; done) | (simp [hg0]; omega) | (simp; omega)) _ | refine Below.drew ?_ | refine Below.alloc ?_ (by first | (simp [hg0]; done) | (simp [hg0]; omega) | (simp; omega)) _); exact hb0)⟩
set_option maxRecDepth 100000 in
set_option maxHeartbeats 8000000 in
theorem alike_file (i l : ByteArray) (s t e : Int) (xs : List Cont) (cs : List Value) (w : World) (h : CRd w w.heap.size (.mk 1 i l s t e xs) cs) : Calls Tryz.prog 30 #[.agg cs.toArray] w fun e' w' => e' = .returned (.bool (alikeB (.mk 1 i l s t e xs))) ∧ Below w.heap.size w w' := by
  obtain ⟨A, c, rfl, hok, hsl⟩ := CRd_iff.1 h
  have hzv := (zero_of_info (P := Tryz.prog) (t := 31) info_cont2).1
  simp only [contCells]
  obtain ⟨w0, hw0⟩ : ∃ w0, w.alloc (.cells #[.int .i64 1, .string i, .string l, .int .i64 s, .int .i64 t, .int .i64 e, .slice A xs.length c] 31) = w0 := ⟨_, rfl⟩
  obtain ⟨hb0, hg0, hbox⟩ := box7 hw0
  obtain ⟨d0, d1, d2, d3, d4, d5, d6⟩ := hbox.zero
  have hfr0 : ∀ j, w0.frozen? ⟨w.heap.size, j, none⟩ = false := fun j => box7f hw0 j
  have hnc := hsl.1
  have hcm := hsl.2.1
  have HC := Lib.hid (show condC (.mk 1 i l s t e xs) = condC (.mk 1 i l s t e xs) from rfl)
  have HOK := Lib.hid hok
  have hi := hok.2.1
  have hl := hok.2.2.1
  have hrd := CRd_more (show w.heap.size ≤ w0.heap.size by omega) _ _ (CRd_keep hb0 _ _ h)
  clear h hsl hbox hok
  by_cases hlen : xs.length = 0
  · have hlenb : decide (0 < xs.length) = false := by simp [hlen]
    have hlenc : decide ((0 : Int) < (xs.length : Int)) = false := by simp [hlen]
    cases hle : l.toList.isEmpty with
    | true =>
      have hle1 : l.toList = [] := by simpa using hle
      have hle2 : (l.toList == []) = true := by simpa using hle
      have hle3 : (l.toList != []) = false := by simpa using hle
      have hcond : condC (.mk 1 i l s t e xs) = true := by unfold condC; simp [hlen, hle]
      have HCOND := Lib.hid hcond; clear hcond hlen
      go_enter Tryz.func30, Tryz.ntmps30
      go_wp2_with fail
      go_region
      go_wp2_with fail
      refine (isID_any i _ hi).mono ?_
      rintro e' w6 ⟨rfl, hb6⟩
      have hbwz : Below w.heap.size w w6 := Below.trans (b := _) (by (repeat first | refine Below.setCell ?_ (by first | (simp [hg0]; done) | (simp [hg0]; omega) | (simp; omega)) _ | refine Below.drew ?_ | refine Below.alloc ?_ (by first | (simp [hg0]; done) | (simp [hg0]; omega) | (simp; omega)) _); exact hb0) (hb6.mono (by first | (simp [hg0]; done) | (simp [hg0]; omega) | (simp; omega)))
      have hsz : w.heap.size + 2 ≤ w6.heap.size := Nat.le_trans (by first | (simp [hg0]; done) | (simp [hg0]; omega) | (simp; omega)) hb6.size
      have qz0 : w6.cell? ⟨w.heap.size, 0, none⟩ = some (.int .i64 1) := (hb6.cell (p := ⟨w.heap.size, 0, none⟩) (by first | (simp [hg0]; done) | (simp [hg0]; omega) | (simp; omega))).trans (by simp [go_sem, *])
      have qz1 : w6.cell? ⟨w.heap.size, 1, none⟩ = some (.string i) := (hb6.cell (p := ⟨w.heap.size, 1, none⟩) (by first | (simp [hg0]; done) | (simp [hg0]; omega) | (simp; omega))).trans (by simp [go_sem, *])
      have qz2 : w6.cell? ⟨w.heap.size, 2, none⟩ = some (.string l) := (hb6.cell (p := ⟨w.heap.size, 2, none⟩) (by first | (simp [hg0]; done) | (simp [hg0]; omega) | (simp; omega))).trans (by simp [go_sem, *])
      have qz3 : w6.cell? ⟨w.heap.size, 3, none⟩ = some (.int .i64 s) := (hb6.cell (p := ⟨w.heap.size, 3, none⟩) (by first | (simp [hg0]; done) | (simp [hg0]; omega) | (simp; omega))).trans (by simp [go_sem, *])
      have qz4 : w6.cell? ⟨w.heap.size, 4, none⟩ = some (.int .i64 t) := (hb6.cell (p := ⟨w.heap.size, 4, none⟩) (by first | (simp [hg0]; done) | (simp [hg0]; omega) | (simp; omega))).trans (by simp [go_sem, *])
      have qz5 : w6.cell? ⟨w.heap.size, 5, none⟩ = some (.int .i64 e) := (hb6.cell (p := ⟨w.heap.size, 5, none⟩) (by first | (simp [hg0]; done) | (simp [hg0]; omega) | (simp; omega))).trans (by simp [go_sem, *])
      have qz6 : w6.cell? ⟨w.heap.size, 6, none⟩ = some (.slice none 0 0) := (hb6.cell (p := ⟨w.heap.size, 6, none⟩) (by first | (simp [hg0]; done) | (simp [hg0]; omega) | (simp; omega))).trans (by simp [go_sem, *])
      have rz0 : w6.cell? ⟨w.heap.size + 1, 0, none⟩ = some (.int .i64 1) := (hb6.cell (p := ⟨w.heap.size + 1, 0, none⟩) (by first | (simp [hg0]; done) | (simp [hg0]; omega) | (simp; omega))).trans (by simp [go_sem, *])
      have rz1 : w6.cell? ⟨w.heap.size + 1, 1, none⟩ = some (.string i) := (hb6.cell (p := ⟨w.heap.size + 1, 1, none⟩) (by first | (simp [hg0]; done) | (simp [hg0]; omega) | (simp; omega))).trans (by simp [go_sem, *])
      have rz2 : w6.cell? ⟨w.heap.size + 1, 2, none⟩ = some (.string l) := (hb6.cell (p := ⟨w.heap.size + 1, 2, none⟩) (by first | (simp [hg0]; done) | (simp [hg0]; omega) | (simp; omega))).trans (by simp [go_sem, *])
      have rz3 : w6.cell? ⟨w.heap.size + 1, 3, none⟩ = some (.int .i64 0) := (hb6.cell (p := ⟨w.heap.size + 1, 3, none⟩) (by first | (simp [hg0]; done) | (simp [hg0]; omega) | (simp; omega))).trans (by simp [go_sem, *])
      have rz4 : w6.cell? ⟨w.heap.size + 1, 4, none⟩ = some (.int .i64 0) := (hb6.cell (p := ⟨w.heap.size + 1, 4, none⟩) (by first | (simp [hg0]; done) | (simp [hg0]; omega) | (simp; omega))).trans (by simp [go_sem, *])
      have rz5 : w6.cell? ⟨w.heap.size + 1, 5, none⟩ = some (.int .i64 0) := (hb6.cell (p := ⟨w.heap.size + 1, 5, none⟩) (by first | (simp [hg0]; done) | (simp [hg0]; omega) | (simp; omega))).trans (by simp [go_sem, *])
      have rz6 : w6.cell? ⟨w.heap.size + 1, 6, none⟩ = some (.slice none 0 0) := (hb6.cell (p := ⟨w.heap.size + 1, 6, none⟩) (by first | (simp [hg0]; done) | (simp [hg0]; omega) | (simp; omega))).trans (by simp [go_sem, *])
      have fgz : ∀ j, w6.frozen? ⟨w.heap.size, j, none⟩ = false := fun j => (hb6.frozen (p := ⟨w.heap.size, j, none⟩) (by first | (simp [hg0]; done) | (simp [hg0]; omega) | (simp; omega))).trans (by simp [go_sem, *])
      clear hb6
      clear d0 d1 d2 d3 d4 d5 d6
      cases hid : idB i with
      | false =>
        have HI := Lib.hid hid; clear hid
        go_wp2
        go_ret
        exact ⟨ret_bool (by rw [alikeB, if_neg (by decide), HI.out]; simp), hbwz⟩
      | true =>
        have HI := Lib.hid hid; clear hid
        have hcall := Same_any (.mk 1 i l s t e []) (.mk 1 i l 0 0 0 []) _ _ w6 (CRd_iff.2 ⟨none, 0, rfl, HOK.out, Sl.nil_⟩) (CRd_iff.2 ⟨none, 0, rfl, by have := HOK.out; unfold okInt maxLen at *; simp at *; omega, Sl.nil_⟩)
        have HCALL := Lib.hid hcall; clear hcall
        go_wp2_with fail
        refine HCALL.out.mono ?_
        rintro e' w7 ⟨rfl, hb7⟩
        have hz : sameC (.mk 1 i l s t e []) (usedC (.mk 1 i l s t e xs)) = sameC (.mk 1 i l s t e []) (.mk 1 i l 0 0 0 []) := by rw [usedC]; simp
        obtain ⟨z, hz2⟩ : ∃ z, sameC (.mk 1 i l s t e []) (.mk 1 i l 0 0 0 []) = z := ⟨_, rfl⟩
        rw [hz2] at hz ⊢
        have HZ := Lib.hid hz; clear hz hz2
        go_wp2
        go_ret
        exact ⟨ret_bool (by rw [alikeB, if_neg (by decide), HCOND.out, HI.out, HZ.out]; simp), hbwz.trans (hb7.mono hbwz.size)⟩
    | false =>
      have hle1 : ¬ l.toList = [] := by simpa using hle
      have hle2 : (l.toList == []) = false := by simpa using hle
      have hle3 : (l.toList != []) = true := by simpa using hle
      have hcond : condC (.mk 1 i l s t e xs) = idB l := by unfold condC; simp [hlen, hle]
      have HCOND := Lib.hid hcond; clear hcond hlen
      go_enter Tryz.func30, Tryz.ntmps30
      go_wp2_with fail
      go_region
      go_wp2_with fail
      refine (isID_any l _ hl).mono ?_
      rintro e' w5 ⟨rfl, hb5⟩
      have hbwy : Below w.heap.size w w5 := Below.trans (b := _) (by (repeat first | refine Below.setCell ?_ (by first | (simp [hg0]; done) | (simp [hg0]; omega) | (simp; omega)) _ | refine Below.drew ?_ | refine Below.alloc ?_ (by first | (simp [hg0]; done) | (simp [hg0]; omega) | (simp; omega)) _); exact hb0) (hb5.mono (by first | (simp [hg0]; done) | (simp [hg0]; omega) | (simp; omega)))
      have hsy : w.heap.size + 2 ≤ w5.heap.size := Nat.le_trans (by first | (simp [hg0]; done) | (simp [hg0]; omega) | (simp; omega)) hb5.size
      have qy0 : w5.cell? ⟨w.heap.size, 0, none⟩ = some (.int .i64 1) := (hb5.cell (p := ⟨w.heap.size, 0, none⟩) (by first | (simp [hg0]; done) | (simp [hg0]; omega) | (simp; omega))).trans (by simp [go_sem, *])
      have qy1 : w5.cell? ⟨w.heap.size, 1, none⟩ = some (.string i) := (hb5.cell (p := ⟨w.heap.size, 1, none⟩) (by first | (simp [hg0]; done) | (simp [hg0]; omega) | (simp; omega))).trans (by simp [go_sem, *])
      have qy2 : w5.cell? ⟨w.heap.size, 2, none⟩ = some (.string l) := (hb5.cell (p := ⟨w.heap.size, 2, none⟩) (by first | (simp [hg0]; done) | (simp [hg0]; omega) | (simp; omega))).trans (by simp [go_sem, *])
      have qy3 : w5.cell? ⟨w.heap.size, 3, none⟩ = some (.int .i64 s) := (hb5.cell (p := ⟨w.heap.size, 3, none⟩) (by first | (simp [hg0]; done) | (simp [hg0]; omega) | (simp; omega))).trans (by simp [go_sem, *])
      have qy4 : w5.cell? ⟨w.heap.size, 4, none⟩ = some (.int .i64 t) := (hb5.cell (p := ⟨w.heap.size, 4, none⟩) (by first | (simp [hg0]; done) | (simp [hg0]; omega) | (simp; omega))).trans (by simp [go_sem, *])
      have qy5 : w5.cell? ⟨w.heap.size, 5, none⟩ = some (.int .i64 e) := (hb5.cell (p := ⟨w.heap.size, 5, none⟩) (by first | (simp [hg0]; done) | (simp [hg0]; omega) | (simp; omega))).trans (by simp [go_sem, *])
      have qy6 : w5.cell? ⟨w.heap.size, 6, none⟩ = some (.slice A xs.length c) := (hb5.cell (p := ⟨w.heap.size, 6, none⟩) (by first | (simp [hg0]; done) | (simp [hg0]; omega) | (simp; omega))).trans (by simp [go_sem, *])
      have ry0 : w5.cell? ⟨w.heap.size + 1, 0, none⟩ = some (.int .i64 1) := (hb5.cell (p := ⟨w.heap.size + 1, 0, none⟩) (by first | (simp [hg0]; done) | (simp [hg0]; omega) | (simp; omega))).trans (by simp [go_sem, *])
      have ry1 : w5.cell? ⟨w.heap.size + 1, 1, none⟩ = some (.string i) := (hb5.cell (p := ⟨w.heap.size + 1, 1, none⟩) (by first | (simp [hg0]; done) | (simp [hg0]; omega) | (simp; omega))).trans (by simp [go_sem, *])
      have ry2 : w5.cell? ⟨w.heap.size + 1, 2, none⟩ = some (.string l) := (hb5.cell (p := ⟨w.heap.size + 1, 2, none⟩) (by first | (simp [hg0]; done) | (simp [hg0]; omega) | (simp; omega))).trans (by simp [go_sem, *])
      have ry3 : w5.cell? ⟨w.heap.size + 1, 3, none⟩ = some (.int .i64 0) := (hb5.cell (p := ⟨w.heap.size + 1, 3, none⟩) (by first | (simp [hg0]; done) | (simp [hg0]; omega) | (simp; omega))).trans (by simp [go_sem, *])
      have ry4 : w5.cell? ⟨w.heap.size + 1, 4, none⟩ = some (.int .i64 0) := (hb5.cell (p := ⟨w.heap.size + 1, 4, none⟩) (by first | (simp [hg0]; done) | (simp [hg0]; omega) | (simp; omega))).trans (by simp [go_sem, *])
      have ry5 : w5.cell? ⟨w.heap.size + 1, 5, none⟩ = some (.int .i64 0) := (hb5.cell (p := ⟨w.heap.size + 1, 5, none⟩) (by first | (simp [hg0]; done) | (simp [hg0]; omega) | (simp; omega))).trans (by simp [go_sem, *])
      have ry6 : w5.cell? ⟨w.heap.size + 1, 6, none⟩ = some (.slice none 0 0) := (hb5.cell (p := ⟨w.heap.size + 1, 6, none⟩) (by first | (simp [hg0]; done) | (simp [hg0]; omega) | (simp; omega))).trans (by simp [go_sem, *])
      have fgy : ∀ j, w5.frozen? ⟨w.heap.size, j, none⟩ = false := fun j => (hb5.frozen (p := ⟨w.heap.size, j, none⟩) (by first | (simp [hg0]; done) | (simp [hg0]; omega) | (simp; omega))).trans (by simp [go_sem, *])
      clear hb5
      clear d0 d1 d2 d3 d4 d5 d6 hfr0
      cases hid1 : idB l with
      | true =>
        have HID1 := Lib.hid hid1; clear hid1
        go_wp2_with fail
        refine (isID_any i _ hi).mono ?_
        rintro e' w6 ⟨rfl, hb6⟩
        have hbwz : Below w.heap.size w w6 := Below.trans (b := _) (by (repeat first | refine Below.setCell ?_ (by first | (simp [hg0]; done) | (simp [hg0]; omega) | (simp; omega)) _ | refine Below.drew ?_ | refine Below.alloc ?_ (by first | (simp [hg0]; done) | (simp [hg0]; omega) | (simp; omega)) _); exact hbwy) (hb6.mono (by first | (simp [hg0]; done) | (simp [hg0]; omega) | (simp; omega)))
        have hsz : w.heap.size + 2 ≤ w6.heap.size := Nat.le_trans (by first | (simp [hg0]; done) | (simp [hg0]; omega) | (simp; omega)) hb6.size
        have qz0 : w6.cell? ⟨w.heap.size, 0, none⟩ = some (.int .i64 1) := (hb6.cell (p := ⟨w.heap.size, 0, none⟩) (by first | (simp [hg0]; done) | (simp [hg0]; omega) | (simp; omega))).trans (by simp [go_sem, *])
        have qz1 : w6.cell? ⟨w.heap.size, 1, none⟩ = some (.string i) := (hb6.cell (p := ⟨w.heap.size, 1, none⟩) (by first | (simp [hg0]; done) | (simp [hg0]; omega) | (simp; omega))).trans (by simp [go_sem, *])
        have qz2 : w6.cell? ⟨w.heap.size, 2, none⟩ = some (.string l) := (hb6.cell (p := ⟨w.heap.size, 2, none⟩) (by first | (simp [hg0]; done) | (simp [hg0]; omega) | (simp; omega))).trans (by simp [go_sem, *])
        have qz3 : w6.cell? ⟨w.heap.size, 3, none⟩ = some (.int .i64 s) := (hb6.cell (p := ⟨w.heap.size, 3, none⟩) (by first | (simp [hg0]; done) | (simp [hg0]; omega) | (simp; omega))).trans (by simp [go_sem, *])
        have qz4 : w6.cell? ⟨w.heap.size, 4, none⟩ = some (.int .i64 t) := (hb6.cell (p := ⟨w.heap.size, 4, none⟩) (by first | (simp [hg0]; done) | (simp [hg0]; omega) | (simp; omega))).trans (by simp [go_sem, *])
        have qz5 : w6.cell? ⟨w.heap.size, 5, none⟩ = some (.int .i64 e) := (hb6.cell (p := ⟨w.heap.size, 5, none⟩) (by first | (simp [hg0]; done) | (simp [hg0]; omega) | (simp; omega))).trans (by simp [go_sem, *])
        have qz6 : w6.cell? ⟨w.heap.size, 6, none⟩ = some (.slice none 0 0) := (hb6.cell (p := ⟨w.heap.size, 6, none⟩) (by first | (simp [hg0]; done) | (simp [hg0]; omega) | (simp; omega))).trans (by simp [go_sem, *])
        have rz0 : w6.cell? ⟨w.heap.size + 1, 0, none⟩ = some (.int .i64 1) := (hb6.cell (p := ⟨w.heap.size + 1, 0, none⟩) (by first | (simp [hg0]; done) | (simp [hg0]; omega) | (simp; omega))).trans (by simp [go_sem, *])
        have rz1 : w6.cell? ⟨w.heap.size + 1, 1, none⟩ = some (.string i) := (hb6.cell (p := ⟨w.heap.size + 1, 1, none⟩) (by first | (simp [hg0]; done) | (simp [hg0]; omega) | (simp; omega))).trans (by simp [go_sem, *])
        have rz2 : w6.cell? ⟨w.heap.size + 1, 2, none⟩ = some (.string l) := (hb6.cell (p := ⟨w.heap.size + 1, 2, none⟩) (by first | (simp [hg0]; done) | (simp [hg0]; omega) | (simp; omega))).trans (by simp [go_sem, *])
        have rz3 : w6.cell? ⟨w.heap.size + 1, 3, none⟩ = some (.int .i64 0) := (hb6.cell (p := ⟨w.heap.size + 1, 3, none⟩) (by first | (simp [hg0]; done) | (simp [hg0]; omega) | (simp; omega))).trans (by simp [go_sem, *])
        have rz4 : w6.cell? ⟨w.heap.size + 1, 4, none⟩ = some (.int .i64 0) := (hb6.cell (p := ⟨w.heap.size + 1, 4, none⟩) (by first | (simp [hg0]; done) | (simp [hg0]; omega) | (simp; omega))).trans (by simp [go_sem, *])
        have rz5 : w6.cell? ⟨w.heap.size + 1, 5, none⟩ = some (.int .i64 0) := (hb6.cell (p := ⟨w.heap.size + 1, 5, none⟩) (by first | (simp [hg0]; done) | (simp [hg0]; omega) | (simp; omega))).trans (by simp [go_sem, *])
        have rz6 : w6.cell? ⟨w.heap.size + 1, 6, none⟩ = some (.slice none 0 0) := (hb6.cell (p := ⟨w.heap.size + 1, 6, none⟩) (by first | (simp [hg0]; done) | (simp [hg0]; omega) | (simp; omega))).trans (by simp [go_sem, *])
        have fgz : ∀ j, w6.frozen? ⟨w.heap.size, j, none⟩ = false := fun j => (hb6.frozen (p := ⟨w.heap.size, j, none⟩) (by first | (simp [hg0]; done) | (simp [hg0]; omega) | (simp; omega))).trans (by simp [go_sem, *])
        clear hb6
        clear qy0 qy1 qy2 qy3 qy4 qy5 qy6 ry0 ry1 ry2 ry3 ry4 ry5 ry6
        cases hid : idB i with
        | false =>
          have HI := Lib.hid hid; clear hid
          go_wp2
          go_ret
          exact ⟨ret_bool (by rw [alikeB, if_neg (by decide), HI.out]; simp), hbwz⟩
        | true =>
          have HI := Lib.hid hid; clear hid
          have hcall := Same_any (.mk 1 i l s t e []) (.mk 1 i l 0 0 0 []) _ _ w6 (CRd_iff.2 ⟨none, 0, rfl, HOK.out, Sl.nil_⟩) (CRd_iff.2 ⟨none, 0, rfl, by have := HOK.out; unfold okInt maxLen at *; simp at *; omega, Sl.nil_⟩)
          have HCALL := Lib.hid hcall; clear hcall
          go_wp2_with fail
          refine HCALL.out.mono ?_
          rintro e' w7 ⟨rfl, hb7⟩
          have hz : sameC (.mk 1 i l s t e []) (usedC (.mk 1 i l s t e xs)) = sameC (.mk 1 i l s t e []) (.mk 1 i l 0 0 0 []) := by rw [usedC]; simp
          obtain ⟨z, hz2⟩ : ∃ z, sameC (.mk 1 i l s t e []) (.mk 1 i l 0 0 0 []) = z := ⟨_, rfl⟩
          rw [hz2] at hz ⊢
          have HZ := Lib.hid hz; clear hz hz2
          go_wp2
          go_ret
          exact ⟨ret_bool (by rw [alikeB, if_neg (by decide), HCOND.out, HID1.out, HI.out, HZ.out]; simp), hbwz.trans (hb7.mono hbwz.size)⟩
      | false =>
        have HID1 := Lib.hid hid1; clear hid1
        go_wp2
        go_ret
        exact ⟨ret_bool (by rw [alikeB, if_neg (by decide), HCOND.out, HID1.out]; simp), hbwy⟩
  · have hlenb : decide (0 < xs.length) = true := by simp; omega
    have hlenc : decide ((0 : Int) < (xs.length : Int)) = true := by simp; omega
    have hcond : condC (.mk 1 i l s t e xs) = false := by unfold condC; simp [hlen]
    have HCOND := Lib.hid hcond; clear hcond hlen
    go_enter Tryz.func30, Tryz.ntmps30
    go_wp2_with fail
    go_region
    go_wp2
    go_ret
    exact ⟨ret_bool (by rw [alikeB, if_neg (by decide), HCOND.out]; simp), (by (repeat first | refine Below.setCell ?_ (by first | (simp [hg0]; done) | (simp [hg0]; omega) | (simp; omega)) _ | refine Below.drew ?_ | refine Below.alloc ?_ (by first | (simp [hg0]; done) | (simp [hg0]; omega) | (simp; omega)) _); exact hb0)⟩
set_option maxRecDepth 100000 in
set_option maxHeartbeats 8000000 in
theorem alike_group (i l : ByteArray) (s t e : Int) (xs : List Cont) (cs : List Value) (w : World) (h : CRd w w.heap.size (.mk 4 i l s t e xs) cs) : Calls Tryz.prog 30 #[.agg cs.toArray] w fun e' w' => e' = .returned (.bool (alikeB (.mk 4 i l s t e xs))) ∧ Below w.heap.size w w' := by
  obtain ⟨A, c, rfl, hok, hsl⟩ := CRd_iff.1 h
  have hzv := (zero_of_info (P := Tryz.prog) (t := 31) info_cont2).1
  simp only [contCells]
  obtain ⟨w0, hw0⟩ : ∃ w0, w.alloc (.cells #[.int .i64 4, .string i, .string l, .int .i64 s, .int .i64 t, .int .i64 e, .slice A xs.length c] 31) = w0 := ⟨_, rfl⟩
  obtain ⟨hb0, hg0, hbox⟩ := box7 hw0
  obtain ⟨d0, d1, d2, d3, d4, d5, d6⟩ := hbox.zero
  have hfr0 : ∀ j, w0.frozen? ⟨w.heap.size, j, none⟩ = false := fun j => box7f hw0 j
  have hnc := hsl.1
  have hcm := hsl.2.1
  have HC := Lib.hid (show condC (.mk 4 i l s t e xs) = condC (.mk 4 i l s t e xs) from rfl)
  have HOK := Lib.hid hok
  have hi := hok.2.1
  have hl := hok.2.2.1
  have hrd := CRd_more (show w.heap.size ≤ w0.heap.size by omega) _ _ (CRd_keep hb0 _ _ h)
  clear h hsl hbox hok
  go_enter Tryz.func30, Tryz.ntmps30
  go_wp2_with fail
  go_region
  go_wp2_with fail
  go_region
  all_goals
    go_wp2_with fail
    refine (within_any _ 16 _).mono ?_; rintro e' w' ⟨rfl, rfl⟩
    cases hB : (decide (1 ≤ (xs.length : Int)) && decide ((xs.length : Int) ≤ 16)) with
    | true =>
      have hcond : condC (.mk 4 i l s t e xs) = (withinB t 16 && withinB s t) := by unfold condC; simp only [withinB, hB]; simp
      have HCOND := Lib.hid hcond; clear hcond hB
      go_wp2_with fail
      refine (slots_raw _ _ _ _ _ _ _ _ _ _).mono ?_
      rintro e' w5 ⟨rfl, hb5⟩
      have hbwy : Below w.heap.size w w5 := Below.trans (b := _) (by (repeat first | refine Below.setCell ?_ (by first | (simp [hg0]; done) | (simp [hg0]; omega) | (simp; omega)) _ | refine Below.drew ?_ | refine Below.alloc ?_ (by first | (simp [hg0]; done) | (simp [hg0]; omega) | (simp; omega)) _); exact hb0) (hb5.mono (by first | (simp [hg0]; done) | (simp [hg0]; omega) | (simp; omega)))
      have hsy : w.heap.size + 2 ≤ w5.heap.size := Nat.le_trans (by first | (simp [hg0]; done) | (simp [hg0]; omega) | (simp; omega)) hb5.size
      have qy0 : w5.cell? ⟨w.heap.size, 0, none⟩ = some (.int .i64 4) := (hb5.cell (p := ⟨w.heap.size, 0, none⟩) (by first | (simp [hg0]; done) | (simp [hg0]; omega) | (simp; omega))).trans (by simp [go_sem, *])
      have qy1 : w5.cell? ⟨w.heap.size, 1, none⟩ = some (.string i) := (hb5.cell (p := ⟨w.heap.size, 1, none⟩) (by first | (simp [hg0]; done) | (simp [hg0]; omega) | (simp; omega))).trans (by simp [go_sem, *])
      have qy2 : w5.cell? ⟨w.heap.size, 2, none⟩ = some (.string l) := (hb5.cell (p := ⟨w.heap.size, 2, none⟩) (by first | (simp [hg0]; done) | (simp [hg0]; omega) | (simp; omega))).trans (by simp [go_sem, *])
      have qy3 : w5.cell? ⟨w.heap.size, 3, none⟩ = some (.int .i64 s) := (hb5.cell (p := ⟨w.heap.size, 3, none⟩) (by first | (simp [hg0]; done) | (simp [hg0]; omega) | (simp; omega))).trans (by simp [go_sem, *])
      have qy4 : w5.cell? ⟨w.heap.size, 4, none⟩ = some (.int .i64 t) := (hb5.cell (p := ⟨w.heap.size, 4, none⟩) (by first | (simp [hg0]; done) | (simp [hg0]; omega) | (simp; omega))).trans (by simp [go_sem, *])
      have qy5 : w5.cell? ⟨w.heap.size, 5, none⟩ = some (.int .i64 e) := (hb5.cell (p := ⟨w.heap.size, 5, none⟩) (by first | (simp [hg0]; done) | (simp [hg0]; omega) | (simp; omega))).trans (by simp [go_sem, *])
      have qy6 : w5.cell? ⟨w.heap.size, 6, none⟩ = some (.slice A xs.length c) := (hb5.cell (p := ⟨w.heap.size, 6, none⟩) (by first | (simp [hg0]; done) | (simp [hg0]; omega) | (simp; omega))).trans (by simp [go_sem, *])
      have ry0 : w5.cell? ⟨w.heap.size + 1, 0, none⟩ = some (.int .i64 4) := (hb5.cell (p := ⟨w.heap.size + 1, 0, none⟩) (by first | (simp [hg0]; done) | (simp [hg0]; omega) | (simp; omega))).trans (by simp [go_sem, *])
      have ry1 : w5.cell? ⟨w.heap.size + 1, 1, none⟩ = some (.string i) := (hb5.cell (p := ⟨w.heap.size + 1, 1, none⟩) (by first | (simp [hg0]; done) | (simp [hg0]; omega) | (simp; omega))).trans (by simp [go_sem, *])
      have ry2 : w5.cell? ⟨w.heap.size + 1, 2, none⟩ = some (.string ByteArray.empty) := (hb5.cell (p := ⟨w.heap.size + 1, 2, none⟩) (by first | (simp [hg0]; done) | (simp [hg0]; omega) | (simp; omega))).trans (by simp [go_sem, *])
      have ry3 : w5.cell? ⟨w.heap.size + 1, 3, none⟩ = some (.int .i64 s) := (hb5.cell (p := ⟨w.heap.size + 1, 3, none⟩) (by first | (simp [hg0]; done) | (simp [hg0]; omega) | (simp; omega))).trans (by simp [go_sem, *])
      have ry4 : w5.cell? ⟨w.heap.size + 1, 4, none⟩ = some (.int .i64 t) := (hb5.cell (p := ⟨w.heap.size + 1, 4, none⟩) (by first | (simp [hg0]; done) | (simp [hg0]; omega) | (simp; omega))).trans (by simp [go_sem, *])
      have ry5 : w5.cell? ⟨w.heap.size + 1, 5, none⟩ = some (.int .i64 0) := (hb5.cell (p := ⟨w.heap.size + 1, 5, none⟩) (by first | (simp [hg0]; done) | (simp [hg0]; omega) | (simp; omega))).trans (by simp [go_sem, *])
      have ry6 : w5.cell? ⟨w.heap.size + 1, 6, none⟩ = some (.slice none 0 0) := (hb5.cell (p := ⟨w.heap.size + 1, 6, none⟩) (by first | (simp [hg0]; done) | (simp [hg0]; omega) | (simp; omega))).trans (by simp [go_sem, *])
      have fgy : ∀ j, w5.frozen? ⟨w.heap.size, j, none⟩ = false := fun j => (hb5.frozen (p := ⟨w.heap.size, j, none⟩) (by first | (simp [hg0]; done) | (simp [hg0]; omega) | (simp; omega))).trans (by simp [go_sem, *])
      clear hb5
      clear d0 d1 d2 d3 d4 d5 d6 hfr0
      cases hB2 : (withinB t 16 && withinB s t) with
      | true =>
        have HB2 := Lib.hid hB2; clear hB2
        go_wp2_with fail
        refine (isID_any i _ hi).mono ?_
        rintro e' w6 ⟨rfl, hb6⟩
        have hbwz : Below w.heap.size w w6 := Below.trans (b := _) (by (repeat first | refine Below.setCell ?_ (by first | (simp [hg0]; done) | (simp [hg0]; omega) | (simp; omega)) _ | refine Below.drew ?_ | refine Below.alloc ?_ (by first | (simp [hg0]; done) | (simp [hg0]; omega) | (simp; omega)) _); exact hbwy) (hb6.mono (by first | (simp [hg0]; done) | (simp [hg0]; omega) | (simp; omega)))
        have hsz : w.heap.size + 2 ≤ w6.heap.size := Nat.le_trans (by first | (simp [hg0]; done) | (simp [hg0]; omega) | (simp; omega)) hb6.size
        have qz0 : w6.cell? ⟨w.heap.size, 0, none⟩ = some (.int .i64 4) := (hb6.cell (p := ⟨w.heap.size, 0, none⟩) (by first | (simp [hg0]; done) | (simp [hg0]; omega) | (simp; omega))).trans (by simp [go_sem, *])
        have qz1 : w6.cell? ⟨w.heap.size, 1, none⟩ = some (.string i) := (hb6.cell (p := ⟨w.heap.size, 1, none⟩) (by first | (simp [hg0]; done) | (simp [hg0]; omega) | (simp; omega))).trans (by simp [go_sem, *])
        have qz2 : w6.cell? ⟨w.heap.size, 2, none⟩ = some (.string l) := (hb6.cell (p := ⟨w.heap.size, 2, none⟩) (by first | (simp [hg0]; done) | (simp [hg0]; omega) | (simp; omega))).trans (by simp [go_sem, *])
        have qz3 : w6.cell? ⟨w.heap.size, 3, none⟩ = some (.int .i64 s) := (hb6.cell (p := ⟨w.heap.size, 3, none⟩) (by first | (simp [hg0]; done) | (simp [hg0]; omega) | (simp; omega))).trans (by simp [go_sem, *])
        have qz4 : w6.cell? ⟨w.heap.size, 4, none⟩ = some (.int .i64 t) := (hb6.cell (p := ⟨w.heap.size, 4, none⟩) (by first | (simp [hg0]; done) | (simp [hg0]; omega) | (simp; omega))).trans (by simp [go_sem, *])
        have qz5 : w6.cell? ⟨w.heap.size, 5, none⟩ = some (.int .i64 e) := (hb6.cell (p := ⟨w.heap.size, 5, none⟩) (by first | (simp [hg0]; done) | (simp [hg0]; omega) | (simp; omega))).trans (by simp [go_sem, *])
        have qz6 : w6.cell? ⟨w.heap.size, 6, none⟩ = some (.slice none 0 0) := (hb6.cell (p := ⟨w.heap.size, 6, none⟩) (by first | (simp [hg0]; done) | (simp [hg0]; omega) | (simp; omega))).trans (by simp [go_sem, *])
        have rz0 : w6.cell? ⟨w.heap.size + 1, 0, none⟩ = some (.int .i64 4) := (hb6.cell (p := ⟨w.heap.size + 1, 0, none⟩) (by first | (simp [hg0]; done) | (simp [hg0]; omega) | (simp; omega))).trans (by simp [go_sem, *])
        have rz1 : w6.cell? ⟨w.heap.size + 1, 1, none⟩ = some (.string i) := (hb6.cell (p := ⟨w.heap.size + 1, 1, none⟩) (by first | (simp [hg0]; done) | (simp [hg0]; omega) | (simp; omega))).trans (by simp [go_sem, *])
        have rz2 : w6.cell? ⟨w.heap.size + 1, 2, none⟩ = some (.string ByteArray.empty) := (hb6.cell (p := ⟨w.heap.size + 1, 2, none⟩) (by first | (simp [hg0]; done) | (simp [hg0]; omega) | (simp; omega))).trans (by simp [go_sem, *])
        have rz3 : w6.cell? ⟨w.heap.size + 1, 3, none⟩ = some (.int .i64 s) := (hb6.cell (p := ⟨w.heap.size + 1, 3, none⟩) (by first | (simp [hg0]; done) | (simp [hg0]; omega) | (simp; omega))).trans (by simp [go_sem, *])
        have rz4 : w6.cell? ⟨w.heap.size + 1, 4, none⟩ = some (.int .i64 t) := (hb6.cell (p := ⟨w.heap.size + 1, 4, none⟩) (by first | (simp [hg0]; done) | (simp [hg0]; omega) | (simp; omega))).trans (by simp [go_sem, *])
        have rz5 : w6.cell? ⟨w.heap.size + 1, 5, none⟩ = some (.int .i64 0) := (hb6.cell (p := ⟨w.heap.size + 1, 5, none⟩) (by first | (simp [hg0]; done) | (simp [hg0]; omega) | (simp; omega))).trans (by simp [go_sem, *])
        have rz6 : w6.cell? ⟨w.heap.size + 1, 6, none⟩ = some (.slice none 0 0) := (hb6.cell (p := ⟨w.heap.size + 1, 6, none⟩) (by first | (simp [hg0]; done) | (simp [hg0]; omega) | (simp; omega))).trans (by simp [go_sem, *])
        have fgz : ∀ j, w6.frozen? ⟨w.heap.size, j, none⟩ = false := fun j => (hb6.frozen (p := ⟨w.heap.size, j, none⟩) (by first | (simp [hg0]; done) | (simp [hg0]; omega) | (simp; omega))).trans (by simp [go_sem, *])
        clear hb6
        clear qy0 qy1 qy2 qy3 qy4 qy5 qy6 ry0 ry1 ry2 ry3 ry4 ry5 ry6
        cases hid : idB i with
        | false =>
          have HI := Lib.hid hid; clear hid
          go_wp2
          go_ret
          exact ⟨ret_bool (by rw [alikeB, if_neg (by decide), HI.out]; simp), hbwz⟩
        | true =>
          have HI := Lib.hid hid; clear hid
          have hcall := Same_any (.mk 4 i l s t e []) (.mk 4 i ByteArray.empty s t 0 []) _ _ w6 (CRd_iff.2 ⟨none, 0, rfl, HOK.out, Sl.nil_⟩) (CRd_iff.2 ⟨none, 0, rfl, by have := HOK.out; unfold okInt maxLen at *; simp at *; omega, Sl.nil_⟩)
          have HCALL := Lib.hid hcall; clear hcall
          go_wp2_with fail
          refine HCALL.out.mono ?_
          rintro e' w7 ⟨rfl, hb7⟩
          have hz : sameC (.mk 4 i l s t e []) (usedC (.mk 4 i l s t e xs)) = sameC (.mk 4 i l s t e []) (.mk 4 i ByteArray.empty s t 0 []) := by rw [usedC]; simp
          obtain ⟨z, hz2⟩ : ∃ z, sameC (.mk 4 i l s t e []) (.mk 4 i ByteArray.empty s t 0 []) = z := ⟨_, rfl⟩
          rw [hz2] at hz ⊢
          have HZ := Lib.hid hz; clear hz hz2
          go_wp2
          go_ret
          exact ⟨ret_bool (by rw [alikeB, if_neg (by decide), HCOND.out, HB2.out, HI.out, HZ.out]; simp), hbwz.trans (hb7.mono hbwz.size)⟩
      | false =>
        have HB2 := Lib.hid hB2; clear hB2
        go_wp2
        go_ret
        exact ⟨ret_bool (by rw [alikeB, if_neg (by decide), HCOND.out, HB2.out]; simp), hbwy⟩
    | false =>
      have hcond : condC (.mk 4 i l s t e xs) = false := by unfold condC; simp only [withinB, hB]; simp
      have HCOND := Lib.hid hcond; clear hcond hB
      go_wp2
      go_ret
      exact ⟨ret_bool (by rw [alikeB, if_neg (by decide), HCOND.out]; simp), (by (repeat first | refine Below.setCell ?_ (by first | (simp [hg0]; done) | (simp [hg0]; omega) | (simp; omega)) _ | refine Below.drew ?_ | refine Below.alloc ?_ (by first | (simp [hg0]; done) | (simp [hg0]; omega) | (simp; omega)) _); exact hb0)⟩
set_option maxRecDepth 100000 in
set_option maxHeartbeats 8000000 in
theorem alike_raid (i l : ByteArray) (s t e : Int) (xs : List Cont) (cs : List Value) (w : World) (h : CRd w w.heap.size (.mk 2 i l s t e xs) cs) : Calls Tryz.prog 30 #[.agg cs.toArray] w fun e' w' => e' = .returned (.bool (alikeB (.mk 2 i l s t e xs))) ∧ Below w.heap.size w w' := by
  obtain ⟨A, c, rfl, hok, hsl⟩ := CRd_iff.1 h
  have hzv := (zero_of_info (P := Tryz.prog) (t := 31) info_cont2).1
  simp only [contCells]
  obtain ⟨w0, hw0⟩ : ∃ w0, w.alloc (.cells #[.int .i64 2, .string i, .string l, .int .i64 s, .int .i64 t, .int .i64 e, .slice A xs.length c] 31) = w0 := ⟨_, rfl⟩
  obtain ⟨hb0, hg0, hbox⟩ := box7 hw0
  obtain ⟨d0, d1, d2, d3, d4, d5, d6⟩ := hbox.zero
  have hfr0 : ∀ j, w0.frozen? ⟨w.heap.size, j, none⟩ = false := fun j => box7f hw0 j
  have hnc := hsl.1
  have hcm := hsl.2.1
  have HC := Lib.hid (show condC (.mk 2 i l s t e xs) = condC (.mk 2 i l s t e xs) from rfl)
  have HOK := Lib.hid hok
  have hi := hok.2.1
  have hl := hok.2.2.1
  have hrd := CRd_more (show w.heap.size ≤ w0.heap.size by omega) _ _ (CRd_keep hb0 _ _ h)
  clear h hsl hbox hok
  by_cases hlen : xs.length = 1
  · have hlenb : ((xs.length : Int) != 1) = false := by simp [hlen]
    have hcond : condC (.mk 2 i l s t e xs) = ((withinB t 16 && withinB s t) && withinB e t) := by unfold condC; simp [hlen]
    have HCOND := Lib.hid hcond; clear hcond hlen
    go_enter Tryz.func30, Tryz.ntmps30
    go_wp2_with fail
    go_region
    go_wp2_with fail
    go_region
    all_goals
      go_wp2_with fail
      refine (slots_raw _ _ _ _ _ _ _ _ _ _).mono ?_
      rintro e' w5 ⟨rfl, hb5⟩
      have hbwy : Below w.heap.size w w5 := Below.trans (b := _) (by (repeat first | refine Below.setCell ?_ (by first | (simp [hg0]; done) | (simp [hg0]; omega) | (simp; omega)) _ | refine Below.drew ?_ | refine Below.alloc ?_ (by first | (simp [hg0]; done) | (simp [hg0]; omega) | (simp; omega)) _); exact hb0) (hb5.mono (by first | (simp [hg0]; done) | (simp [hg0]; omega) | (simp; omega)))
      have hsy : w.heap.size + 2 ≤ w5.heap.size := Nat.le_trans (by first | (simp [hg0]; done) | (simp [hg0]; omega) | (simp; omega)) hb5.size
      have qy0 : w5.cell? ⟨w.heap.size, 0, none⟩ = some (.int .i64 2) := (hb5.cell (p := ⟨w.heap.size, 0, none⟩) (by first | (simp [hg0]; done) | (simp [hg0]; omega) | (simp; omega))).trans (by simp [go_sem, *])
      have qy1 : w5.cell? ⟨w.heap.size, 1, none⟩ = some (.string i) := (hb5.cell (p := ⟨w.heap.size, 1, none⟩) (by first | (simp [hg0]; done) | (simp [hg0]; omega) | (simp; omega))).trans (by simp [go_sem, *])
      have qy2 : w5.cell? ⟨w.heap.size, 2, none⟩ = some (.string l) := (hb5.cell (p := ⟨w.heap.size, 2, none⟩) (by first | (simp [hg0]; done) | (simp [hg0]; omega) | (simp; omega))).trans (by simp [go_sem, *])
      have qy3 : w5.cell? ⟨w.heap.size, 3, none⟩ = some (.int .i64 s) := (hb5.cell (p := ⟨w.heap.size, 3, none⟩) (by first | (simp [hg0]; done) | (simp [hg0]; omega) | (simp; omega))).trans (by simp [go_sem, *])
      have qy4 : w5.cell? ⟨w.heap.size, 4, none⟩ = some (.int .i64 t) := (hb5.cell (p := ⟨w.heap.size, 4, none⟩) (by first | (simp [hg0]; done) | (simp [hg0]; omega) | (simp; omega))).trans (by simp [go_sem, *])
      have qy5 : w5.cell? ⟨w.heap.size, 5, none⟩ = some (.int .i64 e) := (hb5.cell (p := ⟨w.heap.size, 5, none⟩) (by first | (simp [hg0]; done) | (simp [hg0]; omega) | (simp; omega))).trans (by simp [go_sem, *])
      have qy6 : w5.cell? ⟨w.heap.size, 6, none⟩ = some (.slice A xs.length c) := (hb5.cell (p := ⟨w.heap.size, 6, none⟩) (by first | (simp [hg0]; done) | (simp [hg0]; omega) | (simp; omega))).trans (by simp [go_sem, *])
      have ry0 : w5.cell? ⟨w.heap.size + 1, 0, none⟩ = some (.int .i64 2) := (hb5.cell (p := ⟨w.heap.size + 1, 0, none⟩) (by first | (simp [hg0]; done) | (simp [hg0]; omega) | (simp; omega))).trans (by simp [go_sem, *])
      have ry1 : w5.cell? ⟨w.heap.size + 1, 1, none⟩ = some (.string i) := (hb5.cell (p := ⟨w.heap.size + 1, 1, none⟩) (by first | (simp [hg0]; done) | (simp [hg0]; omega) | (simp; omega))).trans (by simp [go_sem, *])
      have ry2 : w5.cell? ⟨w.heap.size + 1, 2, none⟩ = some (.string ByteArray.empty) := (hb5.cell (p := ⟨w.heap.size + 1, 2, none⟩) (by first | (simp [hg0]; done) | (simp [hg0]; omega) | (simp; omega))).trans (by simp [go_sem, *])
      have ry3 : w5.cell? ⟨w.heap.size + 1, 3, none⟩ = some (.int .i64 s) := (hb5.cell (p := ⟨w.heap.size + 1, 3, none⟩) (by first | (simp [hg0]; done) | (simp [hg0]; omega) | (simp; omega))).trans (by simp [go_sem, *])
      have ry4 : w5.cell? ⟨w.heap.size + 1, 4, none⟩ = some (.int .i64 t) := (hb5.cell (p := ⟨w.heap.size + 1, 4, none⟩) (by first | (simp [hg0]; done) | (simp [hg0]; omega) | (simp; omega))).trans (by simp [go_sem, *])
      have ry5 : w5.cell? ⟨w.heap.size + 1, 5, none⟩ = some (.int .i64 e) := (hb5.cell (p := ⟨w.heap.size + 1, 5, none⟩) (by first | (simp [hg0]; done) | (simp [hg0]; omega) | (simp; omega))).trans (by simp [go_sem, *])
      have ry6 : w5.cell? ⟨w.heap.size + 1, 6, none⟩ = some (.slice none 0 0) := (hb5.cell (p := ⟨w.heap.size + 1, 6, none⟩) (by first | (simp [hg0]; done) | (simp [hg0]; omega) | (simp; omega))).trans (by simp [go_sem, *])
      have fgy : ∀ j, w5.frozen? ⟨w.heap.size, j, none⟩ = false := fun j => (hb5.frozen (p := ⟨w.heap.size, j, none⟩) (by first | (simp [hg0]; done) | (simp [hg0]; omega) | (simp; omega))).trans (by simp [go_sem, *])
      clear hb5
      clear d0 d1 d2 d3 d4 d5 d6 hfr0
      cases hB2 : (withinB t 16 && withinB s t) with
      | true =>
        have HB2 := Lib.hid hB2; clear hB2
        go_wp2_with fail
        refine (within_any e t _).mono ?_; rintro e' w' ⟨rfl, rfl⟩
        cases hB3 : (decide (1 ≤ e) && decide (e ≤ t)) with
        | true =>
          have HB3 := Lib.hid (show withinB e t = true from hB3); clear hB3
          go_wp2_with fail
          refine (isID_any i _ hi).mono ?_
          rintro e' w6 ⟨rfl, hb6⟩
          have hbwz : Below w.heap.size w w6 := Below.trans (b := _) (by (repeat first | refine Below.setCell ?_ (by first | (simp [hg0]; done) | (simp [hg0]; omega) | (simp; omega)) _ | refine Below.drew ?_ | refine Below.alloc ?_ (by first | (simp [hg0]; done) | (simp [hg0]; omega) | (simp; omega)) _); exact hbwy) (hb6.mono (by first | (simp [hg0]; done) | (simp [hg0]; omega) | (simp; omega)))
          have hsz : w.heap.size + 2 ≤ w6.heap.size := Nat.le_trans (by first | (simp [hg0]; done) | (simp [hg0]; omega) | (simp; omega)) hb6.size
          have qz0 : w6.cell? ⟨w.heap.size, 0, none⟩ = some (.int .i64 2) := (hb6.cell (p := ⟨w.heap.size, 0, none⟩) (by first | (simp [hg0]; done) | (simp [hg0]; omega) | (simp; omega))).trans (by simp [go_sem, *])
          have qz1 : w6.cell? ⟨w.heap.size, 1, none⟩ = some (.string i) := (hb6.cell (p := ⟨w.heap.size, 1, none⟩) (by first | (simp [hg0]; done) | (simp [hg0]; omega) | (simp; omega))).trans (by simp [go_sem, *])
          have qz2 : w6.cell? ⟨w.heap.size, 2, none⟩ = some (.string l) := (hb6.cell (p := ⟨w.heap.size, 2, none⟩) (by first | (simp [hg0]; done) | (simp [hg0]; omega) | (simp; omega))).trans (by simp [go_sem, *])
          have qz3 : w6.cell? ⟨w.heap.size, 3, none⟩ = some (.int .i64 s) := (hb6.cell (p := ⟨w.heap.size, 3, none⟩) (by first | (simp [hg0]; done) | (simp [hg0]; omega) | (simp; omega))).trans (by simp [go_sem, *])
          have qz4 : w6.cell? ⟨w.heap.size, 4, none⟩ = some (.int .i64 t) := (hb6.cell (p := ⟨w.heap.size, 4, none⟩) (by first | (simp [hg0]; done) | (simp [hg0]; omega) | (simp; omega))).trans (by simp [go_sem, *])
          have qz5 : w6.cell? ⟨w.heap.size, 5, none⟩ = some (.int .i64 e) := (hb6.cell (p := ⟨w.heap.size, 5, none⟩) (by first | (simp [hg0]; done) | (simp [hg0]; omega) | (simp; omega))).trans (by simp [go_sem, *])
          have qz6 : w6.cell? ⟨w.heap.size, 6, none⟩ = some (.slice none 0 0) := (hb6.cell (p := ⟨w.heap.size, 6, none⟩) (by first | (simp [hg0]; done) | (simp [hg0]; omega) | (simp; omega))).trans (by simp [go_sem, *])
          have rz0 : w6.cell? ⟨w.heap.size + 1, 0, none⟩ = some (.int .i64 2) := (hb6.cell (p := ⟨w.heap.size + 1, 0, none⟩) (by first | (simp [hg0]; done) | (simp [hg0]; omega) | (simp; omega))).trans (by simp [go_sem, *])
          have rz1 : w6.cell? ⟨w.heap.size + 1, 1, none⟩ = some (.string i) := (hb6.cell (p := ⟨w.heap.size + 1, 1, none⟩) (by first | (simp [hg0]; done) | (simp [hg0]; omega) | (simp; omega))).trans (by simp [go_sem, *])
          have rz2 : w6.cell? ⟨w.heap.size + 1, 2, none⟩ = some (.string ByteArray.empty) := (hb6.cell (p := ⟨w.heap.size + 1, 2, none⟩) (by first | (simp [hg0]; done) | (simp [hg0]; omega) | (simp; omega))).trans (by simp [go_sem, *])
          have rz3 : w6.cell? ⟨w.heap.size + 1, 3, none⟩ = some (.int .i64 s) := (hb6.cell (p := ⟨w.heap.size + 1, 3, none⟩) (by first | (simp [hg0]; done) | (simp [hg0]; omega) | (simp; omega))).trans (by simp [go_sem, *])
          have rz4 : w6.cell? ⟨w.heap.size + 1, 4, none⟩ = some (.int .i64 t) := (hb6.cell (p := ⟨w.heap.size + 1, 4, none⟩) (by first | (simp [hg0]; done) | (simp [hg0]; omega) | (simp; omega))).trans (by simp [go_sem, *])
          have rz5 : w6.cell? ⟨w.heap.size + 1, 5, none⟩ = some (.int .i64 e) := (hb6.cell (p := ⟨w.heap.size + 1, 5, none⟩) (by first | (simp [hg0]; done) | (simp [hg0]; omega) | (simp; omega))).trans (by simp [go_sem, *])
          have rz6 : w6.cell? ⟨w.heap.size + 1, 6, none⟩ = some (.slice none 0 0) := (hb6.cell (p := ⟨w.heap.size + 1, 6, none⟩) (by first | (simp [hg0]; done) | (simp [hg0]; omega) | (simp; omega))).trans (by simp [go_sem, *])
          have fgz : ∀ j, w6.frozen? ⟨w.heap.size, j, none⟩ = false := fun j => (hb6.frozen (p := ⟨w.heap.size, j, none⟩) (by first | (simp [hg0]; done) | (simp [hg0]; omega) | (simp; omega))).trans (by simp [go_sem, *])
          clear hb6
          clear qy0 qy1 qy2 qy3 qy4 qy5 qy6 ry0 ry1 ry2 ry3 ry4 ry5 ry6
          cases hid : idB i with
          | false =>
            have HI := Lib.hid hid; clear hid
            go_wp2
            go_ret
            exact ⟨ret_bool (by rw [alikeB, if_neg (by decide), HI.out]; simp), hbwz⟩
          | true =>
            have HI := Lib.hid hid; clear hid
            have hcall := Same_any (.mk 2 i l s t e []) (.mk 2 i ByteArray.empty s t e []) _ _ w6 (CRd_iff.2 ⟨none, 0, rfl, HOK.out, Sl.nil_⟩) (CRd_iff.2 ⟨none, 0, rfl, by have := HOK.out; unfold okInt maxLen at *; simp at *; omega, Sl.nil_⟩)
            have HCALL := Lib.hid hcall; clear hcall
            go_wp2_with fail
            refine HCALL.out.mono ?_
            rintro e' w7 ⟨rfl, hb7⟩
            have hz : sameC (.mk 2 i l s t e []) (usedC (.mk 2 i l s t e xs)) = sameC (.mk 2 i l s t e []) (.mk 2 i ByteArray.empty s t e []) := by rw [usedC]; simp
            obtain ⟨z, hz2⟩ : ∃ z, sameC (.mk 2 i l s t e []) (.mk 2 i ByteArray.empty s t e []) = z := ⟨_, rfl⟩
            rw [hz2] at hz ⊢
            have HZ := Lib.hid hz; clear hz hz2
            go_wp2
            go_ret
            exact ⟨ret_bool (by rw [alikeB, if_neg (by decide), HCOND.out, HB2.out, HB3.out, HI.out, HZ.out]; simp), hbwz.trans (hb7.mono hbwz.size)⟩
        | false =>
          have HB3 := Lib.hid (show withinB e t = false from hB3); clear hB3
          go_wp2
          go_ret
          exact ⟨ret_bool (by rw [alikeB, if_neg (by decide), HCOND.out, HB2.out, HB3.out]; simp), hbwy⟩
      | false =>
        have HB2 := Lib.hid hB2; clear hB2
        go_wp2
        go_ret
        exact ⟨ret_bool (by rw [alikeB, if_neg (by decide), HCOND.out, HB2.out]; simp), hbwy⟩
  · have hlenb : ((xs.length : Int) != 1) = true := by simp; omega
    have hcond : condC (.mk 2 i l s t e xs) = false := by unfold condC; simp [hlen]
    have HCOND := Lib.hid hcond; clear hcond hlen
    go_enter Tryz.func30, Tryz.ntmps30
    go_wp2_with fail
    go_region
    go_wp2_with fail
    go_region
    all_goals
      go_wp2
      go_ret
      exact ⟨ret_bool (by rw [alikeB, if_neg (by decide), HCOND.out]; simp), (by (repeat first | refine Below.setCell ?_ (by first | (simp [hg0]; done) | (simp [hg0]; omega) | (simp; omega)) _ | refine Below.drew ?_ | refine Below.alloc ?_ (by first | (simp [hg0]; done) | (simp [hg0]; omega) | (simp; omega)) _); exact hb0)⟩
set_option maxRecDepth 100000 in
set_option maxHeartbeats 8000000 in
theorem alike_other (k : Int) (i l : ByteArray) (s t e : Int) (xs : List Cont) (cs : List Value) (w : World) (h : CRd w w.heap.size (.mk k i l s t e xs) cs) (hk0 : ¬ k = 0) (hk1 : ¬ k = 1) (hk2 : ¬ k = 2) (hk3 : ¬ k = 3) (hk4 : ¬ k = 4) (hk5 : ¬ k = 5) : Calls Tryz.prog 30 #[.agg cs.toArray] w fun e' w' => e' = .returned (.bool (alikeB (.mk k i l s t e xs))) ∧ Below w.heap.size w w' := by
  obtain ⟨A, c, rfl, hok, hsl⟩ := CRd_iff.1 h
  have hzv := (zero_of_info (P := Tryz.prog) (t := 31) info_cont2).1
  simp only [contCells]
  obtain ⟨w0, hw0⟩ : ∃ w0, w.alloc (.cells #[.int .i64 k, .string i, .string l, .int .i64 s, .int .i64 t, .int .i64 e, .slice A xs.length c] 31) = w0 := ⟨_, rfl⟩
  obtain ⟨hb0, hg0, hbox⟩ := box7 hw0
  obtain ⟨d0, d1, d2, d3, d4, d5, d6⟩ := hbox.zero
  have hfr0 : ∀ j, w0.frozen? ⟨w.heap.size, j, none⟩ = false := fun j => box7f hw0 j
  have hnc := hsl.1
  have hcm := hsl.2.1
  have HC := Lib.hid (show condC (.mk k i l s t e xs) = condC (.mk k i l s t e xs) from rfl)
  have HOK := Lib.hid hok
  have hi := hok.2.1
  have hl := hok.2.2.1
  have hrd := CRd_more (show w.heap.size ≤ w0.heap.size by omega) _ _ (CRd_keep hb0 _ _ h)
  clear h hsl hbox hok
  have b0 : (k == 0) = false := by simpa using hk0
  have b1 : (k == 1) = false := by simpa using hk1
  have b2 : (k == 2) = false := by simpa using hk2
  have b3 : (k == 3) = false := by simpa using hk3
  have b4 : (k == 4) = false := by simpa using hk4
  have b5 : (k == 5) = false := by simpa using hk5
  have hcond : alikeB (.mk k i l s t e xs) = false := by unfold alikeB condC; simp [hk0, hk1, hk2, hk3, hk4, hk5]
  have HCOND := Lib.hid hcond; clear hcond
  go_enter Tryz.func30, Tryz.ntmps30
  go_wp2_with fail
  go_region
  go_wp2
  go_ret
  exact ⟨ret_bool (by rw [HCOND.out]), (by (repeat first | refine Below.setCell ?_ (by first | (simp [hg0]; done) | (simp [hg0]; omega) | (simp; omega)) _ | refine Below.drew ?_ | refine Below.alloc ?_ (by first | (simp [hg0]; done) | (simp [hg0]; omega) | (simp; omega)) _); exact hb0)⟩
end Go.Proofs.YtnlocdhhecockaaGreatDoor
