/-
  ContentFormats answers true for all contents up to a size and every tape: program and reference have the same text of a content, or the same error.
  Conditions: those of the given row and card, nothing else.
-/
import Derived.Test.YtnlocdhhecockaaDoorLSames
import Derived.Test.YtnlocdhhecockaaDoorCqC
import Derived.Deep.RegionHeld3
set_option linter.unusedSimpArgs false
set_option linter.unusedVariables false
namespace Go.Proofs.YtnlocdhhecockaaDoor
open Go.RowKit Go.Cold Go.Sort

set_option maxHeartbeats 4000000 in
set_option maxRecDepth 100000 in
theorem lawFormats_any (Ca : Cont) (csa : List Value) (A : Option Addr) (c : Nat) (xs : List Int) (w : World) (hok : Ok7 w) (ha : CRd w w.heap.size Ca csa) (hx : Sl w w.heap.size A c xs) (hna : nodesC Ca ≤ 2 ^ 39) :
    Calls Tryd.prog 3 #[.agg csa.toArray, .slice A xs.length c] w fun e w' => e = .returned (.bool true) ∧ Below w.heap.size w w' := by
  obtain ⟨ka, ia, la, sa, ta, ea, ya⟩ := Ca
  obtain ⟨A1, c1, rfl, -, -⟩ := CRd_iff.1 ha
  have hla := (CRd_iff.1 ha).choose_spec.choose_spec.2.2.1
  simp only [contCells] at ha ⊢
  obtain ⟨Ca, hCa⟩ : ∃ C, Cont.mk ka ia la sa ta ea ya = C := ⟨_, rfl⟩
  rw [hCa] at ha hna
  have HOK := Lib.hid hok; have HX := Lib.hid hx; have HA := Lib.hid ha; have HNA := Lib.hid hna
  clear hok hx ha hna hCa hla
  go_enter Tryd.func3, Tryd.ntmps3
  go_upto_region 2 with fail
  obtain ⟨w1, hw1⟩ : ∃ w1, w.alloc (.cells #[.int .i64 ka, .string ia, .string la, .int .i64 sa, .int .i64 ta, .int .i64 ea, .slice A1 ya.length c1] 24) = w1 := ⟨_, rfl⟩
  obtain ⟨w3, hw3⟩ : ∃ w3, w1.alloc (.cells #[.slice A xs.length c, .int .i64 0] 28) = w3 := ⟨_, rfl⟩
  obtain ⟨hb1, hg1, -⟩ := box7 hw1
  have hba := box_new hw1
  have htape := tape_at (HX.out.keep hb1) hb1.size
  rw [hw3] at htape
  have hb3 : Below w1.heap.size w1 w3 := by rw [← hw3]; exact (Below.refl _ _).alloc (Nat.le_refl _) _
  have hg3 : w3.heap.size = w1.heap.size + 1 := by rw [← hw3]; simp
  have hb03 : Below w.heap.size w w3 := hb1.trans (hb3.mono hb1.size)
  try rw [hw1, hw3]
  have hba3 := hba.kept (grown_none hb3) (fun e => by cases e)
  have e1 : w.heap.size + 1 = w1.heap.size := hg1.symm
  try rw [e1]
  have HS := Lib.hid (And.intro hg1 hg3); have HBA := Lib.hid hba3; have HB03 := Lib.hid hb03; have HTP := Lib.hid htape
  clear hw1 hw3 hb1 hb3 hg1 hg3 hba htape hb03 hba3 e1
  have hbd := below_drewN_self w3 w3.heap.size 1
  have hcall := valid_any xs w.heap.size w1.heap.size 4 0 w3.drew (by decide) (HTP.out.kept (grown_none hbd) (fun e => by cases e) (fun g hg => by cases hg))
  have HV := Lib.hid hcall; have HBD := Lib.hid hbd; clear hcall hbd
  have HBAD := Lib.hid (HBA.out.kept (grown_none HBD.out) (fun e => by cases e))
  refine wp_region_held_drew (S := fun w' => BoxL w' w.heap.size [.int .i64 ka, .string ia, .string la, .int .i64 sa, .int .i64 ta, .int .i64 ea, .slice A1 ya.length c1]) (by kernel_rfl) HBAD.out (fun hS0 => ?_)
  refine wpAnyH_take (i := 0) (oi := ⟨some 16, _, _, _, _, _⟩) (v := .agg #[.int .i64 ka, .string ia, .string la, .int .i64 sa, .int .i64 ta, .int .i64 ea, .slice A1 ya.length c1]) rfl (by kernel_rfl) (by kernel_rfl) (by kernel_rfl) (fun _ _ _ h => h) (Or.inl ⟨by rfl, fun w' hS => by (have z0 := hS.1 0 _ rfl; have z1 := hS.1 1 _ rfl; have z2 := hS.1 2 _ rfl; have z3 := hS.1 3 _ rfl; have z4 := hS.1 4 _ rfl; have z5 := hS.1 5 _ rfl; have z6 := hS.1 6 _ rfl; go_simp)⟩) hS0 ?_
  try simp only [Act.put, List.setIfInBounds_toArray, List.set_cons_zero, List.set_cons_succ]
  refine wpAnyH_take (i := 1) (oi := ⟨some 17, _, _, _, _, _⟩) (v := .pointer (some ⟨w1.heap.size, 0, none⟩)) rfl (by kernel_rfl) (by kernel_rfl) (by kernel_rfl) (fun _ _ _ h => h) (Or.inl ⟨by rfl, fun w' hS => by go_simp⟩) hS0 ?_
  try simp only [Act.put, List.setIfInBounds_toArray, List.set_cons_zero, List.set_cons_succ]
  refine wpAnyH_take (i := 2) (oi := ⟨some 18, _, _, _, _, _⟩) (v := .pointer (some ⟨w1.heap.size, 0, none⟩)) rfl (by kernel_rfl) (by kernel_rfl) (by kernel_rfl) (fun _ _ _ h => h) (Or.inl ⟨by rfl, fun w' hS => by go_simp⟩) hS0 ?_
  try simp only [Act.put, List.setIfInBounds_toArray, List.set_cons_zero, List.set_cons_succ]
  refine wpAnyH_ready (rs := [3]) (by kernel_rfl) (by simp) ?_
  refine AllReadyH.cons (o := ⟨some 19, .call ⟨_, _, _⟩, _, _, _, _⟩) rfl (fun K hK => ?_) AllReadyH.nil
  go_simp
  go_at_call 9
  refine Calls.mono (HV.out : Calls Tryd.prog 9 #[.pointer (some ⟨w1.heap.size, 0, none⟩), .int .i64 4] w3.drew _) ?_
  rintro e w4 ⟨Cc, cs, k4, rfl, hnew, ht4, hg4, -, -, hnod, hk4⟩
  have hsz := HS.out
  have hS1 := hS0.kept hg4 (fun e => by have := Option.some.inj e; omega)
  refine hK.out _ _ hS1 (fun _ => ?_)
  clear hK K
  try simp only [Act.put, List.setIfInBounds_toArray, List.set_cons_zero, List.set_cons_succ]
  have hd3 : w3.drew.heap.size = w3.heap.size := rfl
  have hs34 := hg4.size
  have hcc : CRdS w4 (fun x => x < w4.heap.size ∧ x ≠ w1.heap.size) Cc cs := CRdS_mono (fun y hy => ⟨by have := hy.2; omega, by have := hy.1; omega⟩) (fun _ _ _ _ hu => hu) _ _ hnew
  have hnod' : nodesC Cc ≤ 256 := hnod
  have hk4' : k4 ≤ 0 + 6 * 256 := hk4
  have hcall := spoilt_any xs w.heap.size w1.heap.size k4 Cc cs w4 (by omega) ht4 hcc (by omega)
  have HSPO := Lib.hid hcall; have HG4 := Lib.hid hg4; have HND := Lib.hid hnod'
  clear hcall hnew ht4 hg4 hnod hk4 hnod' hk4' hcc hsz hd3 hs34
  refine wpAnyH_ready (rs := [4]) (by kernel_rfl) (by simp) ?_
  refine AllReadyH.cons (o := ⟨some 20, .call ⟨_, _, _⟩, _, _, _, _⟩) rfl (fun K hK => ?_) AllReadyH.nil
  go_simp
  go_at_call 8
  refine HSPO.out.mono ?_
  rintro e w5 ⟨Cd, cs5, k5, rfl, hcd, -, hg5, hnd5⟩
  have hsz := HS.out
  have hS2 := hS1.kept hg5 (fun e => by have := Option.some.inj e; omega)
  refine hK.out _ _ hS2 (fun _ => ?_)
  clear hK K
  try simp only [Act.put, List.setIfInBounds_toArray, List.set_cons_zero, List.set_cons_succ]
  obtain ⟨kd, i4, l4, s4, t4, e4, y4⟩ := Cd
  obtain ⟨A4, c4, rfl⟩ := CRdS_cells hcd
  simp only [contCells] at hcd ⊢
  have HCD := Lib.hid hcd; have HG5 := Lib.hid hg5; have HND5 := Lib.hid hnd5
  clear hcd hg5 hnd5 hsz
  refine wpAnyH_ready (rs := [5]) (by kernel_rfl) (by simp) ?_
  refine AllReadyH.cons (o := ⟨some 21, .buildSlice _ _ _, _, _, _, _⟩) rfl (fun K hK => ?_) AllReadyH.nil
  go_simp
  obtain ⟨w6, hw6⟩ : ∃ w6, w5.alloc (.cells #[.int .i64 ka, .string ia, .string la, .int .i64 sa, .int .i64 ta, .int .i64 ea, .slice A1 ya.length c1, .int .i64 kd, .string i4, .string l4, .int .i64 s4, .int .i64 t4, .int .i64 e4, .slice A4 y4.length c4] 24) = w6 := ⟨_, rfl⟩
  have hb6 : Below w5.heap.size w5 w6 := by rw [← hw6]; exact (Below.refl _ _).alloc (Nat.le_refl _) _
  have hg6 : w6.heap.size = w5.heap.size + 1 := by rw [← hw6]; simp
  have hbl : BoxL w6 w5.heap.size ([.int .i64 ka, .string ia, .string la, .int .i64 sa, .int .i64 ta, .int .i64 ea, .slice A1 ya.length c1] ++ [.int .i64 kd, .string i4, .string l4, .int .i64 s4, .int .i64 t4, .int .i64 e4, .slice A4 y4.length c4]) := box_new hw6
  rw [hw6]
  have hS3 := hS2.kept (grown_none hb6) (fun e => by cases e)
  refine hK.out _ _ hS3 (fun _ => ?_)
  clear hK K
  try simp only [Act.put, List.setIfInBounds_toArray, List.set_cons_zero, List.set_cons_succ]
  refine wpAnyH_take (i := 6) (oi := ⟨some 6, _, _, _, _, _⟩) (v := .slice (some ⟨w5.heap.size, 0, none⟩) 2 2) rfl (by kernel_rfl) (by kernel_rfl) (by kernel_rfl) (fun _ _ _ h => h) (Or.inl ⟨by rfl, fun w' hS => by go_simp⟩) hS3 ?_
  try simp only [Act.put, List.setIfInBounds_toArray, List.set_cons_zero, List.set_cons_succ]
  refine wpAnyH_done (by kernel_rfl) ?_ _
  have hsz := HS.out
  have hs35 : w3.heap.size ≤ w5.heap.size := Nat.le_trans (show w3.drew.heap.size ≤ w4.heap.size from HG4.out.size) HG5.out.size
  have hb06 : Below w.heap.size w w6 := (below_of_grown (below_of_grown (HB03.out.trans (HBD.out.mono HB03.out.size)) HG4.out (by show w.heap.size ≤ w3.heap.size; omega) (by omega)) HG5.out (by have h : w3.drew.heap.size ≤ w4.heap.size := HG4.out.size; have h2 : w3.drew.heap.size = w3.heap.size := rfl; omega) (by omega)).trans (hb6.mono (by omega))
  have ha6 := CRd_more hb06.size _ _ (CRd_keep hb06 _ _ HA.out)
  have hd6 : CRd w6 w6.heap.size _ _ := CRdS_mono (S' := fun x => x < w6.heap.size) (w' := w6) (fun y hy => by have := hy.1; omega) (fun y o u hy hu => (hb6.cell (p := ⟨y, o, none⟩) (by exact hy.1)).trans hu) _ _ HCD.out
  obtain ⟨Cd, hCd⟩ : ∃ C, Cont.mk kd i4 l4 s4 t4 e4 y4 = C := ⟨_, rfl⟩
  have hnd := HND5.out
  rw [hCd] at hd6 hnd
  have hsl : Sl w6 w6.heap.size (some ⟨w5.heap.size, 0, none⟩) 2 [Ca, Cd] := by
    refine ⟨by simp, by unfold maxLen; decide, fun _ => ⟨w5.heap.size, 0, rfl, by omega, fun q x hx => ?_⟩⟩
    have hq : q = 0 ∨ q = 1 := by have := (List.getElem?_eq_some_iff.1 hx).1; simp at this; omega
    rcases hq with rfl | rfl
    · simp at hx; subst hx
      refine ⟨_, ha6, fun j u hu => ?_⟩
      have h := hbl.1 j u (by rw [List.getElem?_append_left (List.getElem?_eq_some_iff.1 hu).1]; exact hu)
      show w6.cell? ⟨w5.heap.size, 0 + (0 * 7 + j), none⟩ = some u
      rw [show 0 + (0 * 7 + j) = j by omega]; exact h
    · simp at hx; subst hx
      refine ⟨_, hd6, fun j u hu => ?_⟩
      have h := hbl.1 (7 + j) u (by rw [List.getElem?_append_right (by simp)]; simpa using hu)
      show w6.cell? ⟨w5.heap.size, 0 + (1 * 7 + j), none⟩ = some u
      rw [show 0 + (1 * 7 + j) = 7 + j by omega]; exact h
  have hnn : ∀ x ∈ [Ca, Cd], nodesC x ≤ 2 ^ 40 := by
    intro x hx
    have h1 := HNA.out; have h2 := HND.out
    simp only [List.mem_cons, List.not_mem_nil, or_false] at hx
    rcases hx with rfl | rfl <;> omega
  have HSL := Lib.hid hsl; have HNN := Lib.hid hnn; have HB06 := Lib.hid hb06
  have x6 := hS3.1 6 _ rfl
  obtain ⟨L, hL⟩ : ∃ L, [Ca, Cd] = L := ⟨_, rfl⟩
  have hll : L.length = 2 := by rw [← hL]; rfl
  rw [hL] at HSL HNN
  have HLL := Lib.hid hll
  clear hS0 hS1 hS2 hS3 hb6 hg6 hbl hw6 hsz hs35 hb06 ha6 hd6 hCd hnd hsl hnn hL hll
  by_cases hl20 : (20 : Int) < ya.length
  · go_wp2_with fail
    have hkn := known_any w6 (HOK.out.below HB06.out)
    refine hkn.mono ?_
    rintro e w7 ⟨rfl, hb7⟩
    clear hkn
    go_wp2
    go_ret
    exact ⟨rfl, HB06.out.trans (hb7.mono HB06.out.size)⟩
  · go_wp2_with fail
    clear x6
    go_loopw [7] (fun i wr => ∃ m : Nat, m ≤ 2 ∧ i = .int .i64 m ∧ Below w6.heap.size w6 wr) (fun i _ => 2 - (intOf i).toNat)
    case atStart => exact ⟨0, by decide, rfl, Below.refl _ _⟩
    case round =>
      obtain ⟨m, hm, rfl, hb⟩ := hrel
      have h06 : Below w.heap.size w wr := HB06.out.trans (hb.mono HB06.out.size)
      by_cases hlt : m < 2
      · have i1 : (m : Int) < 2 := by omega
        have hltL : m < L.length := by have := HLL.out; omega
        obtain ⟨b4, o4, hA4, hb4, ds, hds, hdc⟩ := (HSL.out.next (Nat.le_refl _) hb).cont hltL
        injection hA4 with hA4
        injection hA4 with hA5 hA6 _
        subst hA5 hA6
        obtain ⟨x, hx⟩ : ∃ x, L[m] = x := ⟨_, rfl⟩
        rw [hx] at hds
        have hxn := HNN.out x (hx ▸ List.getElem_mem hltL)
        obtain ⟨kk2, i2, l2, s2, t2, e2, xs2⟩ := x
        obtain ⟨A7, c7, rfl, -, -⟩ := CRd_iff.1 hds
        have hcx := cells7 hdc
        rw [Nat.zero_add] at hcx
        have HC := Lib.hid hcx; clear hcx
        obtain ⟨X, hX⟩ : ∃ X, Cont.mk kk2 i2 l2 s2 t2 e2 xs2 = X := ⟨_, rfl⟩
        rw [hX] at hds hxn
        simp only [contCells] at hds
        have HRD := Lib.hid hds; have HXN := Lib.hid hxn; have HBR := Lib.hid hb; have H06 := Lib.hid h06; have HB4 := Lib.hid hb4
        clear hds hxn hX hx hdc hb h06 hltL hb4
        obtain ⟨T, hT⟩ : ∃ T, textC X = T := ⟨_, rfl⟩
        have hcases : (badC X = true) ∨ (badC X = false ∧ 256 < T.size) ∨ (badC X = false ∧ T.size ≤ 256) := by
          cases badC X with
          | true => exact .inl rfl
          | false => rcases Nat.lt_or_ge 256 T.size with h | h
                     · exact .inr (.inl ⟨rfl, h⟩)
                     · exact .inr (.inr ⟨rfl, h⟩)
        have HT := Lib.hid hT; clear hT
        obtain ⟨d0, d1, d2, d3, d4, d5, d6⟩ := HC.out
        rcases hcases with hbad | ⟨hbad, hsz⟩ | ⟨hbad, hsz⟩
        · skip
          have HBADX := Lib.hid hbad
          have hpost : ∀ e w0 w', FormatPost X (textC X) w0 e w' → e = .returned (.tuple #[.string ⟨#[]⟩, .int .i64 70]) ∧ Below w0.heap.size w0 w' := fun e w0 w' h => by
            obtain ⟨h1, h2⟩ := h
            rw [HT.out] at h2
            rcases h2 with ⟨-, h⟩ | ⟨h, -⟩ | ⟨h, -⟩
            · exact ⟨h, h1⟩
            · rw [HBADX.out] at h; cases h
            · rw [HBADX.out] at h; cases h
          have HPOST := Lib.hid hpost; clear hpost hbad
          go_wp2_with fail
          refine (Format2_any X _ wr HRD.out HXN.out).mono ?_
          intro e w7 hq
          obtain ⟨rfl, hb7⟩ := HPOST.out _ _ _ hq
          clear hq d0 d1 d2 d3 d4 d5 d6
          obtain ⟨d0, d1, d2, d3, d4, d5, d6⟩ := HC.out.keep hb7 HB4.out
          have HB7 := Lib.hid hb7; clear hb7
          go_wp2_with fail
          refine (RFormat_any X _ w7 (CRd_more HB7.out.size _ _ (CRd_keep HB7.out _ _ HRD.out)) HXN.out).mono ?_
          intro e w8 hq
          obtain ⟨rfl, hb8⟩ := HPOST.out _ _ _ hq
          clear hq d0 d1 d2 d3 d4 d5 d6
          have hb78 := HB7.out.trans (hb8.mono HB7.out.size)
          obtain ⟨d0, d1, d2, d3, d4, d5, d6⟩ := HC.out.keep hb78 HB4.out
          have HB8 := Lib.hid hb78; clear hb78 hb8
          go_wp2_with fail
          refine (RValid_any X _ w8 (CRd_more HB8.out.size _ _ (CRd_keep HB8.out _ _ HRD.out))).mono ?_
          rintro e w9 ⟨rfl, hb9⟩
          rw [HBADX.out]
          clear d0 d1 d2 d3 d4 d5 d6
          have hb89 := HB8.out.trans (hb9.mono HB8.out.size)
          obtain ⟨d0, d1, d2, d3, d4, d5, d6⟩ := HC.out.keep hb89 HB4.out
          have HB9 := Lib.hid hb89; clear hb89 hb9
          have hck := Check_any X _ w9 (CRd_more HB9.out.size _ _ (CRd_keep HB9.out _ _ HRD.out)) HXN.out
          rw [checkE_bad HBADX.out] at hck
          have HCK := Lib.hid hck; clear hck
          go_wp2_with fail
          refine HCK.out.mono ?_
          rintro e w10 ⟨rfl, hb10⟩
          clear d0 d1 d2 d3 d4 d5 d6
          have hbn := HBR.out.trans ((HB9.out.trans (hb10.mono HB9.out.size)).mono HBR.out.size)
          have HBN := Lib.hid hbn; clear hbn hb10
          go_wp2
          go_roundw
          case rel => exact ⟨m + 1, by omega, by go_num, HBN.out⟩
          case measure => simp [intOf]; omega
        · skip
          have HBADX := Lib.hid hbad; have HSZX := Lib.hid hsz
          have hpost : ∀ e w0 w', FormatPost X (textC X) w0 e w' → e = .returned (.tuple #[.string ⟨#[]⟩, .int .i64 71]) ∧ Below w0.heap.size w0 w' := fun e w0 w' h => by
            obtain ⟨h1, h2⟩ := h
            rw [HT.out] at h2
            rcases h2 with ⟨h, -⟩ | ⟨-, -, h⟩ | ⟨-, h, -⟩
            · rw [HBADX.out] at h; cases h
            · exact ⟨h, h1⟩
            · have := HSZX.out; omega
          have HPOST := Lib.hid hpost; clear hpost hbad hsz
          go_wp2_with fail
          refine (Format2_any X _ wr HRD.out HXN.out).mono ?_
          intro e w7 hq
          obtain ⟨rfl, hb7⟩ := HPOST.out _ _ _ hq
          clear hq d0 d1 d2 d3 d4 d5 d6
          obtain ⟨d0, d1, d2, d3, d4, d5, d6⟩ := HC.out.keep hb7 HB4.out
          have HB7 := Lib.hid hb7; clear hb7
          go_wp2_with fail
          refine (RFormat_any X _ w7 (CRd_more HB7.out.size _ _ (CRd_keep HB7.out _ _ HRD.out)) HXN.out).mono ?_
          intro e w8 hq
          obtain ⟨rfl, hb8⟩ := HPOST.out _ _ _ hq
          clear hq d0 d1 d2 d3 d4 d5 d6
          have hb78 := HB7.out.trans (hb8.mono HB7.out.size)
          obtain ⟨d0, d1, d2, d3, d4, d5, d6⟩ := HC.out.keep hb78 HB4.out
          have HB8 := Lib.hid hb78; clear hb78 hb8
          go_wp2_with fail
          refine (RValid_any X _ w8 (CRd_more HB8.out.size _ _ (CRd_keep HB8.out _ _ HRD.out))).mono ?_
          rintro e w9 ⟨rfl, hb9⟩
          rw [HBADX.out]
          clear d0 d1 d2 d3 d4 d5 d6
          have hb89 := HB8.out.trans (hb9.mono HB8.out.size)
          obtain ⟨d0, d1, d2, d3, d4, d5, d6⟩ := HC.out.keep hb89 HB4.out
          have HB9 := Lib.hid hb89; clear hb89 hb9
          have hck := Check_any X _ w9 (CRd_more HB9.out.size _ _ (CRd_keep HB9.out _ _ HRD.out)) HXN.out
          rw [checkE_ok HBADX.out] at hck
          have HCK := Lib.hid hck; clear hck
          go_wp2_with fail
          refine HCK.out.mono ?_
          rintro e w10 ⟨rfl, hb10⟩
          clear d0 d1 d2 d3 d4 d5 d6
          have hbn := HBR.out.trans ((HB9.out.trans (hb10.mono HB9.out.size)).mono HBR.out.size)
          have HBN := Lib.hid hbn; clear hbn hb10
          go_wp2
          go_roundw
          case rel => exact ⟨m + 1, by omega, by go_num, HBN.out⟩
          case measure => simp [intOf]; omega
        · skip
          have HBADX := Lib.hid hbad; have HSZX := Lib.hid hsz
          have hpost : ∀ e w0 w', FormatPost X (textC X) w0 e w' → e = .returned (.tuple #[.string T, .int .i64 0]) ∧ Below w0.heap.size w0 w' := fun e w0 w' h => by
            obtain ⟨h1, h2⟩ := h
            rw [HT.out] at h2
            rcases h2 with ⟨h, -⟩ | ⟨-, h, -⟩ | ⟨-, -, h⟩
            · rw [HBADX.out] at h; cases h
            · have := HSZX.out; omega
            · exact ⟨h, h1⟩
          have HPOST := Lib.hid hpost; clear hpost hbad hsz
          go_wp2_with fail
          refine (Format2_any X _ wr HRD.out HXN.out).mono ?_
          intro e w7 hq
          obtain ⟨rfl, hb7⟩ := HPOST.out _ _ _ hq
          clear hq d0 d1 d2 d3 d4 d5 d6
          obtain ⟨d0, d1, d2, d3, d4, d5, d6⟩ := HC.out.keep hb7 HB4.out
          have HB7 := Lib.hid hb7; clear hb7
          go_wp2_with fail
          refine (RFormat_any X _ w7 (CRd_more HB7.out.size _ _ (CRd_keep HB7.out _ _ HRD.out)) HXN.out).mono ?_
          intro e w8 hq
          obtain ⟨rfl, hb8⟩ := HPOST.out _ _ _ hq
          clear hq d0 d1 d2 d3 d4 d5 d6
          have hb78 := HB7.out.trans (hb8.mono HB7.out.size)
          obtain ⟨d0, d1, d2, d3, d4, d5, d6⟩ := HC.out.keep hb78 HB4.out
          have HB8 := Lib.hid hb78; clear hb78 hb8
          go_wp2_with fail
          refine (RValid_any X _ w8 (CRd_more HB8.out.size _ _ (CRd_keep HB8.out _ _ HRD.out))).mono ?_
          rintro e w9 ⟨rfl, hb9⟩
          rw [HBADX.out]
          clear d0 d1 d2 d3 d4 d5 d6
          have hb89 := HB8.out.trans (hb9.mono HB8.out.size)
          obtain ⟨d0, d1, d2, d3, d4, d5, d6⟩ := HC.out.keep hb89 HB4.out
          have HB9 := Lib.hid hb89; clear hb89 hb9
          have hck := Check_any X _ w9 (CRd_more HB9.out.size _ _ (CRd_keep HB9.out _ _ HRD.out)) HXN.out
          rw [checkE_ok HBADX.out] at hck
          have HCK := Lib.hid hck; clear hck
          go_wp2_with fail
          refine HCK.out.mono ?_
          rintro e w10 ⟨rfl, hb10⟩
          clear d0 d1 d2 d3 d4 d5 d6
          have hbn := HBR.out.trans ((HB9.out.trans (hb10.mono HB9.out.size)).mono HBR.out.size)
          have HBN := Lib.hid hbn; clear hbn hb10
          go_wp2
          go_roundw
          case rel => exact ⟨m + 1, by omega, by go_num, HBN.out⟩
          case measure => simp [intOf]; omega
      · have hm2 : m = 2 := by omega
        have i1 : ¬ (m : Int) < 2 := by omega
        have hkn := known_any wr (HOK.out.below h06)
        have HKN := Lib.hid hkn; have H06 := Lib.hid h06
        clear hkn h06 hb
        go_wp2_with fail
        refine HKN.out.mono ?_
        rintro e w7 ⟨rfl, hb7⟩
        go_wp2
        go_ret
        exact ⟨rfl, H06.out.trans (hb7.mono H06.out.size)⟩
end Go.Proofs.YtnlocdhhecockaaDoor
