/-
  The walk of layer 7's reference: Parse.
-/
import Derived.Test.YtnlocdhhecockaaGreatDoorRdE
import Derived.Test.YtnlocdhhecockaaGreatDoorRdB
import Derived.Test.YtnlocdhhecockaaGreatDoorCqC
import Derived.Test.YtnlocdhhecockaaGreatDoorCpD
set_option linter.unusedSimpArgs false
set_option linter.unusedVariables false
namespace Go.Proofs.YtnlocdhhecockaaGreatDoor
open Go.RowKit Go.Cold

set_option maxHeartbeats 8000000 in
set_option maxRecDepth 100000 in
/-- The reference's Parse answers as the program's. -/
theorem RParse_any (s : ByteArray) (w : World) (hsz : s.size ≤ maxLen) (hok : Ok8 w) : Calls Tryz.prog 7 #[.string s] w (ParsePost s w) := by
  have hzv := (zero_of_info (P := Tryz.prog) (t := 31) info_cont2).1
  unfold maxLen at hsz
  by_cases hs : s.size ≤ 256
  case neg =>
    have i1 : ¬ (s.size : Int) ≤ 256 := by omega
    have i2 : (256 : Int) < (s.size : Int) := by omega
    have hn : parseC s = none := by unfold parseC; rw [if_pos (by omega)]
    have HN := Lib.hid hn; clear hn
    go_enter Tryz.func7, Tryz.ntmps7
    go_wp2
    refine bodyPost_ret (v := .tuple #[.agg #[.int .i64 0, .string ByteArray.empty, .string ByteArray.empty, .int .i64 0, .int .i64 0, .int .i64 0, .slice none 0 0], .int .i64 71]) (by simp [results, Tryz.results7, go_sem]) rfl ⟨?_, .inr ⟨HN.out, by rw [if_pos (by omega)]; rfl⟩⟩
    (repeat first | refine Below.setCell ?_ (by first | (simp; done) | (simp; omega)) _ | refine Below.alloc ?_ (by first | (simp; done) | (simp; omega)) _); exact Below.refl _ _
  have i1 : (s.size : Int) ≤ 256 := by omega
  have i2 : ¬ (256 : Int) < (s.size : Int) := by omega
  have HOK := Lib.hid hok
  clear hok hsz
  go_enter Tryz.func7, Tryz.ntmps7
  go_upto_region 3 with fail
  obtain ⟨w1, hw1⟩ : ∃ w1, w.alloc (.cells #[.int .i64 0, .string ByteArray.empty, .string ByteArray.empty, .int .i64 0, .int .i64 0, .int .i64 0, .slice none 0 0] 31) = w1 := ⟨_, rfl⟩
  obtain ⟨hb1, hg1, -⟩ := box7 hw1
  have hr1 : BoxL w1 w.heap.size zeroL := box_mk hw1
  rw [hw1]
  have HB1 := Lib.hid hb1; have HG1 := Lib.hid hg1; have HR1 := Lib.hid hr1
  clear hw1 hb1 hg1 hr1
  have hfail : parseC s = none → ∀ (w5 : World), Below w.heap.size w w5 → ParsePost s w (.returned (.tuple #[zeroA, .int .i64 70])) (((((((w5.setCell ⟨w.heap.size, 0, none⟩ (.int .i64 0)).setCell ⟨w.heap.size, 1, none⟩ (.string ByteArray.empty)).setCell ⟨w.heap.size, 2, none⟩ (.string ByteArray.empty)).setCell ⟨w.heap.size, 3, none⟩ (.int .i64 0)).setCell ⟨w.heap.size, 4, none⟩ (.int .i64 0)).setCell ⟨w.heap.size, 5, none⟩ (.int .i64 0)).setCell ⟨w.heap.size, 6, none⟩ (.slice none 0 0)) := by
    intro h w5 hb5
    exact ⟨below7 hb5 (Nat.le_refl _) _ _ _ _ _ _ _, .inr ⟨h, by rw [if_neg (by omega)]⟩⟩
  have HFAIL := Lib.hid hfail; clear hfail
  have hpc : parseC s = (match readR 6 s with
    | none => none
    | some (c, r) => if r.size = 0 ∧ badC c = false ∧ textC c = s then some c else none) := by
    rw [← ref_parse]; unfold refP; rw [if_neg (by omega)]; cases readR 6 s <;> rfl
  have HPC := Lib.hid hpc; clear hpc
  go_wp2_with fail
  clear i1 i2
  refine Calls.mono (read_any 6 (by decide) s w1 hs (HOK.out.below HB1.out) : Calls Tryz.prog 17 #[.string s, .int .i64 6] w1 _) ?_
  rintro e w2 ⟨hb2, hor⟩
  have HB2 := Lib.hid hb2
  have HR2 := Lib.hid (HR1.out.kept (grown_none hb2) (fun e => by cases e)); have HB02 := Lib.hid (HB1.out.trans (hb2.mono HB1.out.size))
  clear hb2
  rcases hor with ⟨c, cs, r, hR, rfl, hnew⟩ | ⟨hR, k, i, l, sl, t, le, A, n, cp, rfl⟩
  case inr =>
    have hn : parseC s = none := by rw [HPC.out, hR]
    have HN := Lib.hid hn; clear hn hR
    go_upto_region 4 with fail
    obtain ⟨w3, hw3⟩ : ∃ w3, w2.alloc (.cells #[.int .i64 k, .string i, .string l, .int .i64 sl, .int .i64 t, .int .i64 le, .slice A n cp] 31) = w3 := ⟨_, rfl⟩
    obtain ⟨hb3, hg3, -⟩ := box7 hw3
    rw [hw3]
    have HR3 := Lib.hid (HR2.out.kept (grown_none hb3) (fun e => by cases e)); have HB03 := Lib.hid (HB02.out.trans (hb3.mono HB02.out.size))
    clear hw3 hb3 hg3
    have y0 := HR3.out.1 0 _ rfl; have y1 := HR3.out.1 1 _ rfl; have y2 := HR3.out.1 2 _ rfl; have y3 := HR3.out.1 3 _ rfl; have y4 := HR3.out.1 4 _ rfl; have y5 := HR3.out.1 5 _ rfl; have y6 := HR3.out.1 6 _ rfl; have yf := HR3.out.2.1
    go_wp2
    exact bodyPost_ret (v := .tuple #[.agg #[.int .i64 0, .string ByteArray.empty, .string ByteArray.empty, .int .i64 0, .int .i64 0, .int .i64 0, .slice none 0 0], .int .i64 70]) (by simp [results, Tryz.results7, go_sem, y0, y1, y2, y3, y4, y5, y6]) rfl (HFAIL.out HN.out _ HB03.out)
  have hlen := read_len _ _ _ _ hR
  have hpc2 := HPC.out
  rw [hR] at hpc2
  simp only at hpc2
  have HPC2 := Lib.hid hpc2; have HLEN := Lib.hid hlen; clear hpc2 hlen hR
  obtain ⟨k, i, l, sl, t, le, xs⟩ := c
  obtain ⟨A, cp, rfl⟩ := CRdS_cells hnew
  simp only [contCells]
  have HNEW := Lib.hid hnew; clear hnew
  go_upto_region 4 with fail
  obtain ⟨w3, hw3⟩ : ∃ w3, w2.alloc (.cells #[.int .i64 k, .string i, .string l, .int .i64 sl, .int .i64 t, .int .i64 le, .slice A xs.length cp] 31) = w3 := ⟨_, rfl⟩
  obtain ⟨hb3, hg3, hbox3⟩ := box7 hw3
  rw [hw3]
  have HR3 := Lib.hid (HR2.out.kept (grown_none hb3) (fun e => by cases e)); have HB03 := Lib.hid (HB02.out.trans (hb3.mono HB02.out.size))
  have hnew3 : CRdS w3 (fun x => w1.heap.size ≤ x ∧ x < w2.heap.size) (.mk k i l sl t le xs) (contCells k i l sl t le A xs.length cp) := CRdS_mono (fun _ h => h) (fun y o u hy hu => (hb3.cell (p := ⟨y, o, none⟩) (by exact hy.2)).trans hu) _ _ HNEW.out
  have hx3 : CRd w3 w3.heap.size (.mk k i l sl t le xs) (contCells k i l sl t le A xs.length cp) := CRd_more (by omega) _ _ (CRd_keep hb3 _ _ HNEW.out.crd)
  have HNEW3 := Lib.hid hnew3; have HX3 := Lib.hid hx3; have HBOX3 := Lib.hid hbox3; have HG3 := Lib.hid hg3
  clear hw3 hb3 hg3 hbox3 hnew3 hx3 HNEW
  by_cases hr0 : r.size = 0
  case neg =>
    have hre : ¬ r.toList = [] := fun h => hr0 (by rw [(empty_iff r).1 h]; rfl)
    have hre2 : r.toList.isEmpty = false := by simpa using hre
    have hre3 : (!r.toList.isEmpty) = true := by rw [hre2]; rfl
    have hn : parseC s = none := by rw [HPC2.out, if_neg (fun h => hr0 h.1)]
    have HN := Lib.hid hn; clear hn hr0
    have y0 := HR3.out.1 0 _ rfl; have y1 := HR3.out.1 1 _ rfl; have y2 := HR3.out.1 2 _ rfl; have y3 := HR3.out.1 3 _ rfl; have y4 := HR3.out.1 4 _ rfl; have y5 := HR3.out.1 5 _ rfl; have y6 := HR3.out.1 6 _ rfl; have yf := HR3.out.2.1
    go_wp2
    exact bodyPost_ret (v := .tuple #[.agg #[.int .i64 0, .string ByteArray.empty, .string ByteArray.empty, .int .i64 0, .int .i64 0, .int .i64 0, .slice none 0 0], .int .i64 70]) (by simp [results, Tryz.results7, go_sem, y0, y1, y2, y3, y4, y5, y6]) rfl (HFAIL.out HN.out _ HB03.out)
  have hre : r.toList = [] := by rw [of_list (List.eq_nil_of_length_eq_zero (show r.data.toList.length = 0 by rw [ba_size]; exact hr0))]; decide +kernel
  have hre2 : r.toList.isEmpty = true := by rw [hre]; rfl
  have HR0 := Lib.hid hr0; clear hr0
  obtain ⟨d0, d1, d2, d3, d4, d5, d6⟩ := HBOX3.out.zero
  have hcall := RValid_any (.mk k i l sl t le xs) _ w3 HX3.out
  simp only [contCells] at hcall
  obtain ⟨C, hC⟩ : ∃ C, Cont.mk k i l sl t le xs = C := ⟨_, rfl⟩
  rw [hC] at hcall
  have HC := Lib.hid hC; clear hC
  cases hbad : badC C with
  | true =>
    rw [hbad] at hcall
    have HCALL := Lib.hid hcall; clear hcall
    have hn : parseC s = none := by rw [HPC2.out, HC.out, hbad]; simp
    have HN := Lib.hid hn; clear hn hbad
    go_wp2_with fail
    refine HCALL.out.mono ?_
    rintro e w4 ⟨rfl, hb4⟩
    have HR4 := Lib.hid (HR3.out.kept (grown_none hb4) (fun e => by cases e)); have HB04 := Lib.hid (HB03.out.trans (hb4.mono HB03.out.size))
    clear d0 d1 d2 d3 d4 d5 d6 hb4
    have y0 := HR4.out.1 0 _ rfl; have y1 := HR4.out.1 1 _ rfl; have y2 := HR4.out.1 2 _ rfl; have y3 := HR4.out.1 3 _ rfl; have y4 := HR4.out.1 4 _ rfl; have y5 := HR4.out.1 5 _ rfl; have y6 := HR4.out.1 6 _ rfl; have yf := HR4.out.2.1
    go_wp2
    exact bodyPost_ret (v := .tuple #[.agg #[.int .i64 0, .string ByteArray.empty, .string ByteArray.empty, .int .i64 0, .int .i64 0, .int .i64 0, .slice none 0 0], .int .i64 70]) (by simp [results, Tryz.results7, go_sem, y0, y1, y2, y3, y4, y5, y6]) rfl (HFAIL.out HN.out _ HB04.out)
  | false =>
    rw [hbad] at hcall
    have HCALL := Lib.hid hcall; clear hcall
    have HBAD := Lib.hid hbad; clear hbad
    go_wp2_with fail
    refine HCALL.out.mono ?_
    rintro e w4 ⟨rfl, hb4⟩
    have HR4 := Lib.hid (HR3.out.kept (grown_none hb4) (fun e => by cases e)); have HB04 := Lib.hid (HB03.out.trans (hb4.mono HB03.out.size))
    clear d0 d1 d2 d3 d4 d5 d6
    obtain ⟨d0, d1, d2, d3, d4, d5, d6⟩ := (HBOX3.out.keep hb4 (by have := HG3.out; omega)).zero
    have hx4 := CRd_more hb4.size _ _ (CRd_keep hb4 _ _ HX3.out)
    rw [HC.out] at hx4
    have hnd : nodesC C ≤ 257 := by have := HLEN.out; rw [HC.out] at this; omega
    have hcall := rtext_any C _ w4 hx4 (ok_of_bad HBAD.out).1 (by omega)
    simp only [contCells] at hcall
    obtain ⟨X, hX⟩ : ∃ X, textC C = X := ⟨_, rfl⟩
    rw [hX] at hcall
    have HCALL2 := Lib.hid hcall; have HX := Lib.hid hX; have HB4 := Lib.hid hb4; have HND := Lib.hid hnd
    clear hcall hX hb4 hx4 hnd
    go_wp2_with fail
    refine HCALL2.out.mono ?_
    rintro e w5 ⟨rfl, hb5⟩
    have HR5 := Lib.hid (HR4.out.kept (grown_none hb5) (fun e => by cases e)); have HB05 := Lib.hid (HB04.out.trans (hb5.mono HB04.out.size))
    have hb35 : Below w3.heap.size w3 w5 := HB4.out.trans (hb5.mono HB4.out.size)
    clear d0 d1 d2 d3 d4 d5 d6
    obtain ⟨d0, d1, d2, d3, d4, d5, d6⟩ := (HBOX3.out.keep hb35 (by have := HG3.out; omega)).zero
    have HB35 := Lib.hid hb35; clear hb5 hb35
    by_cases hts : X = s
    · have hn : parseC s = some C := by rw [HPC2.out, HC.out, if_pos ⟨HR0.out, HBAD.out, HX.out.trans hts⟩]
      have HN := Lib.hid hn; clear hn
      have e1 : (X.toList == s.toList) = true := by rw [hts]; simp
      have e2 : (X.toList != s.toList) = false := by rw [bne, e1]; rfl
      have HTS := Lib.hid hts; clear hts
      have y0 := HR5.out.1 0 _ rfl; have y1 := HR5.out.1 1 _ rfl; have y2 := HR5.out.1 2 _ rfl; have y3 := HR5.out.1 3 _ rfl; have y4 := HR5.out.1 4 _ rfl; have y5 := HR5.out.1 5 _ rfl; have y6 := HR5.out.1 6 _ rfl; have yf := HR5.out.2.1
      go_wp2
      refine bodyPost_ret (v := .tuple #[.agg #[.int .i64 k, .string i, .string l, .int .i64 sl, .int .i64 t, .int .i64 le, .slice A xs.length cp], .int .i64 0]) (by simp [results, Tryz.results7, go_sem, y0, y1, y2, y3, y4, y5, y6]) rfl ⟨below7 HB05.out (Nat.le_refl _) _ _ _ _ _ _ _, .inl ⟨_, contCells k i l sl t le A xs.length cp, HN.out, rfl, ?_, HND.out⟩⟩
      rw [← HC.out]
      unfold NewC
      rw [fin_size]
      refine CRdS_mono (fun y hy => ⟨by have := hy.1; have := HG1.out; omega, by have := hy.2; have := HG3.out; have := HB35.out.size; omega⟩) (fun y o u hy hu => ?_) _ _ HNEW3.out
      exact fin_cells _ _ _ _ _ _ _ y o u (by have := hy.1; have := HG1.out; omega) ((HB35.out.cell (p := ⟨y, o, none⟩) (by show y < w3.heap.size; have := hy.2; have := HG3.out; omega)).trans hu)
    · have hn : parseC s = none := by rw [HPC2.out, HC.out, if_neg (fun h => hts (HX.out.symm.trans h.2.2))]
      have HN := Lib.hid hn; clear hn
      have e1 : (X.toList == s.toList) = false := by rw [ba_beq]; exact decide_eq_false hts
      have e2 : (X.toList != s.toList) = true := by rw [bne, e1]; rfl
      clear hts
      have y0 := HR5.out.1 0 _ rfl; have y1 := HR5.out.1 1 _ rfl; have y2 := HR5.out.1 2 _ rfl; have y3 := HR5.out.1 3 _ rfl; have y4 := HR5.out.1 4 _ rfl; have y5 := HR5.out.1 5 _ rfl; have y6 := HR5.out.1 6 _ rfl; have yf := HR5.out.2.1
      go_wp2
      exact bodyPost_ret (v := .tuple #[.agg #[.int .i64 0, .string ByteArray.empty, .string ByteArray.empty, .int .i64 0, .int .i64 0, .int .i64 0, .slice none 0 0], .int .i64 70]) (by simp [results, Tryz.results7, go_sem, y0, y1, y2, y3, y4, y5, y6]) rfl (HFAIL.out HN.out _ HB05.out)
end Go.Proofs.YtnlocdhhecockaaGreatDoor
