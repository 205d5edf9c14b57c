/-
  ContentBack answers true for every text and every tape: what a content prints is read as that content, and a text that is read is what its content prints.
  Conditions: those of the given row and card, nothing else.
-/
import Derived.Test.YtnlocdhhecockaaDoorLSames
import Derived.Test.YtnlocdhhecockaaDoorCsA
import Derived.Test.YtnlocdhhecockaaDoorCrD
import Derived.Test.YtnlocdhhecockaaDoorIxC
set_option linter.unusedSimpArgs false
set_option linter.unusedVariables false
namespace Go.Proofs.YtnlocdhhecockaaDoor
open Go.RowKit Go.Cold Go.Sort

theorem nodes_40 {C : Cont} {n : Nat} (h : nodesC C ≤ n) (hn : n ≤ 2 ^ 40) : nodesC C ≤ 2 ^ 40 := Nat.le_trans h hn
set_option maxHeartbeats 8000000 in
set_option maxRecDepth 100000 in
theorem lawBack_any (s : ByteArray) (A : Option Addr) (c : Nat) (xs : List Int) (w : World) (hok : Ok7 w) (hs : s.size ≤ maxLen) (hx : Sl w w.heap.size A c xs) :
    Calls Tryd.prog 4 #[.string s, .slice A xs.length c] w fun e w' => e = .returned (.bool true) ∧ Below w.heap.size w w' := by
  have HOK := Lib.hid hok; have HX := Lib.hid hx; have HSZ := Lib.hid hs
  clear hok hx hs
  go_enter Tryd.func4, Tryd.ntmps4
  go_wp2_with fail
  have htape := tape_at HX.out (Nat.le_refl _)
  obtain ⟨w1, hw1⟩ : ∃ w1, w.alloc (.cells #[.slice A xs.length c, .int .i64 0] 28) = w1 := ⟨_, rfl⟩
  rw [hw1] at htape ⊢
  have hb1 : Below w.heap.size w w1 := by rw [← hw1]; exact (Below.refl _ _).alloc (Nat.le_refl _) _
  have hs1 : w1.heap.size = w.heap.size + 1 := by rw [← hw1]; simp
  have HB1 := Lib.hid hb1; have HS1 := Lib.hid hs1
  have hcall := valid_any xs w.heap.size w.heap.size 4 0 w1 (by decide) htape
  clear hw1 hb1 hs1 htape
  refine Calls.mono (hcall : Calls Tryd.prog 9 #[.pointer (some ⟨w.heap.size, 0, none⟩), .int .i64 4] w1 _) ?_
  rintro e w2 ⟨cc, cs, k', rfl, hnew, ht2, hg2, hall, hdep, hnod, hk2⟩
  clear hcall
  have hb2 : Below w.heap.size w w2 := below_of_grown HB1.out hg2 (by have := HS1.out; omega) (Nat.le_refl _)
  have hrd2 := hnew.crd
  have hbad := bad_of hall (show depthC cc ≤ 6 by have h : depthC cc ≤ 4 := hdep; omega)
  have hnod1 : nodesC cc ≤ 256 := hnod
  have hnod' : nodesC cc ≤ 2 ^ 40 := nodes_40 hnod1 (by decide)
  have hk21 : k' ≤ 0 + 6 * 256 := hk2
  have hk2' : k' ≤ 2 ^ 30 := by omega
  obtain ⟨kk, i, l, s1, t, le, ys⟩ := cc
  obtain ⟨A3, c3, rfl⟩ := CRdS_cells hnew
  simp only [contCells] at hrd2 ⊢
  obtain ⟨C, hC⟩ : ∃ C, Cont.mk kk i l s1 t le ys = C := ⟨_, rfl⟩
  rw [hC] at hrd2 hbad hnod'
  have HB2 := Lib.hid hb2; have HRD2 := Lib.hid hrd2; have HBAD := Lib.hid hbad; have HNOD := Lib.hid hnod'; have HT2 := Lib.hid ht2; have HK2 := Lib.hid hk2'; have HC := Lib.hid hC; have HS2 := Lib.hid hg2.size
  clear hb2 hrd2 hbad hnod' ht2 hk2' hall hdep hnod hnod1 hk21 hnew hg2 hk2 hC
  go_upto_region 3 with fail
  obtain ⟨w3, hw3⟩ : ∃ w3, w2.alloc (.cells #[.int .i64 kk, .string i, .string l, .int .i64 s1, .int .i64 t, .int .i64 le, .slice A3 ys.length c3] 24) = w3 := ⟨_, rfl⟩
  obtain ⟨hb3, hg3, hbox3⟩ := box7 hw3
  rw [hw3]
  have hb03 : Below w.heap.size w w3 := HB2.out.trans (hb3.mono HB2.out.size)
  have hrd3 := CRd_more (show w2.heap.size ≤ w3.heap.size by omega) _ _ (CRd_keep hb3 _ _ HRD2.out)
  have ht3 := HT2.out.kept (grown_none hb3) (fun e => by cases e) (fun g hg => by cases hg)
  have HB3 := Lib.hid hb03; have HRD3 := Lib.hid hrd3; have HBOX := Lib.hid hbox3; have HG3 := Lib.hid hg3; have HT3 := Lib.hid ht3
  clear hw3 hb3 hg3 hbox3 hb03 hrd3 ht3 HRD2 HT2
  obtain ⟨d0, d1, d2, d3, d4, d5, d6⟩ := HBOX.out.zero
  obtain ⟨T, hT⟩ : ∃ T, textC C = T := ⟨_, rfl⟩
  have HT := Lib.hid hT; clear hT
  go_wp2_with fail
  refine (Format2_any C _ w3 HRD3.out HNOD.out).mono ?_
  rintro e w4 ⟨hb4, hor⟩
  rw [HT.out] at hor
  rcases hor with ⟨h, -⟩ | ⟨-, -, rfl⟩ | ⟨-, hts, rfl⟩
  · rw [HBAD.out] at h; cases h
  · have hb04 : Below w.heap.size w w4 := HB3.out.trans (hb4.mono HB3.out.size)
    have ht4 := HT3.out.kept (grown_none hb4) (fun e => by cases e) (fun g hg => by cases hg)
    obtain ⟨w7, hw7⟩ : ∃ w7, w4 = w7 := ⟨_, rfl⟩
    rw [hw7] at hb04 ht4
    rw [hw7]
    have HB7 := Lib.hid hb04; have HT7 := Lib.hid ht4
    clear hb4 hb04 ht4 hw7
    clear d0 d1 d2 d3 d4 d5 d6
    go_wp2_with fail
    refine (ltext_any xs w.heap.size w.heap.size k' w7 HK2.out HT7.out).mono ?_
    rintro e w8 ⟨u, rfl, hus, hg8⟩
    have hb8 : Below w.heap.size w w8 := below_of_grown HB7.out hg8 HB7.out.size (Nat.le_refl _)
    have HB8 := Lib.hid hb8; have HUS := Lib.hid hus
    clear hb8 hus hg8
    go_upto_region 11 with fail
    obtain ⟨w9, hw9⟩ : ∃ w9, w8.alloc (.cells #[.string s, .string u] 9) = w9 := ⟨_, rfl⟩
    have hb9 : Below w8.heap.size w8 w9 := by rw [← hw9]; exact (Below.refl _ _).alloc (Nat.le_refl _) _
    have hbl : BoxL w9 w8.heap.size [.string s, .string u] := box_new hw9
    have hg9 : w9.heap.size = w8.heap.size + 1 := by rw [← hw9]; simp
    rw [hw9]
    have hb09 := HB8.out.trans (hb9.mono HB8.out.size)
    have HB9 := Lib.hid hb09; have HBL := Lib.hid hbl; have HG9 := Lib.hid hg9
    clear hb9 hbl hg9 hb09 hw9
    go_wp2_with fail
    go_loopw [12] (fun i wr => ∃ m : Nat, m ≤ 2 ∧ i = .int .i64 m ∧ Below w9.heap.size w9 wr) (fun i _ => 2 - (intOf i).toNat)
    case atStart => exact ⟨0, by decide, rfl, Below.refl _ _⟩
    case round =>
      obtain ⟨m, hm, rfl, hb⟩ := hrel
      have h0r : Below w.heap.size w wr := HB9.out.trans (hb.mono HB9.out.size)
      by_cases hlt : m < 2
      · have i1 : (m : Int) < 2 := by omega
        have hcell : ∃ q : ByteArray, q.size ≤ maxLen ∧ ∀ W, Below wr.heap.size wr W → W.cell? ⟨w8.heap.size, m, none⟩ = some (.string q) := by
          have h9 : ∀ W, Below wr.heap.size wr W → BoxL W w8.heap.size [.string s, .string u] := fun W hW => (HBL.out.kept (grown_none hb) (fun e => by cases e)).kept (grown_none hW) (fun e => by cases e)
          have hm2 : m = 0 ∨ m = 1 := by omega
          rcases hm2 with rfl | rfl
          · exact ⟨s, HSZ.out, fun W hW => (h9 W hW).1 0 _ rfl⟩
          · exact ⟨u, by have := HUS.out; unfold maxLen; omega, fun W hW => (h9 W hW).1 1 _ rfl⟩
        obtain ⟨q, hq, hqc⟩ := hcell
        have hqr := hqc wr (Below.refl _ _)
        have HQ := Lib.hid hq; have HQC := Lib.hid hqc; have HBR := Lib.hid hb; have H0R := Lib.hid h0r
        clear hq hqc hb h0r
        go_wp2_with fail
        refine (Parse_any q (fun h => IxOk_any _ (by omega)) wr HQ.out (HOK.out.below H0R.out)).mono ?_
        rintro e w10 ⟨hb10, hor⟩
        rcases hor with ⟨D, ds, hD, rfl, hnD, hnn⟩ | ⟨hD, rfl⟩
        · have hrD := hnD.crd
          obtain ⟨h1, h2, h3, -⟩ := AllOk_parse hD
          have hbD := bad_of h1 h2
          have htx := text_parse hD
          obtain ⟨ka, ia, la, sa, ta, ea, ya⟩ := D
          obtain ⟨A5, c5, rfl⟩ := CRdS_cells hnD
          simp only [contCells] at hrD ⊢
          obtain ⟨D, hDD⟩ : ∃ C, Cont.mk ka ia la sa ta ea ya = C := ⟨_, rfl⟩
          rw [hDD] at hrD hbD htx hnn
          have HB10 := Lib.hid hb10; have HRDD := Lib.hid hrD; have HBD := Lib.hid hbD; have HTX := Lib.hid htx; have HNN := Lib.hid hnn; have HQ2 := Lib.hid h3
          clear hb10 hrD hbD htx hnn h1 h2 h3 hD hnD hDD hqr
          go_upto_region 15 with fail
          obtain ⟨w11, hw11⟩ : ∃ w11, w10.alloc (.cells #[.int .i64 ka, .string ia, .string la, .int .i64 sa, .int .i64 ta, .int .i64 ea, .slice A5 ya.length c5] 24) = w11 := ⟨_, rfl⟩
          obtain ⟨hb11, hg11, hbox11⟩ := box7 hw11
          rw [hw11]
          have hbr11 : Below wr.heap.size wr w11 := HB10.out.trans (hb11.mono HB10.out.size)
          have hrd11 := CRd_more (show w10.heap.size ≤ w11.heap.size by omega) _ _ (CRd_keep hb11 _ _ HRDD.out)
          have HB11 := Lib.hid hbr11; have HRD11 := Lib.hid hrd11
          obtain ⟨d0, d1, d2, d3, d4, d5, d6⟩ := hbox11.zero
          clear hw11 hb11 hg11 hbox11 hbr11 hrd11
          go_wp2_with fail
          refine (Format2_any D _ w11 HRD11.out (nodes_40 HNN.out (by decide))).mono ?_
          rintro e w12 ⟨hb12, hor⟩
          rw [HTX.out] at hor
          rcases hor with ⟨h, -⟩ | ⟨-, h, -⟩ | ⟨-, -, rfl⟩
          · rw [HBD.out] at h; cases h
          · exact absurd HQ2.out (by omega)
          have hbr12 : Below wr.heap.size wr w12 := HB11.out.trans (hb12.mono HB11.out.size)
          have hq12 := HQC.out w12 hbr12
          have HB12 := Lib.hid hbr12
          clear hb12 hbr12 d0 d1 d2 d3 d4 d5 d6
          go_wp2
          go_roundw
          case rel => exact ⟨m + 1, by omega, by go_num, HBR.out.trans (HB12.out.mono HBR.out.size)⟩
          case measure => simp [intOf]; omega
        · have hne : ∃ y : Int, (if 256 < q.size then (71 : Int) else 70) = y ∧ (y == 0) = false := by
            split
            · exact ⟨71, rfl, rfl⟩
            · exact ⟨70, rfl, rfl⟩
          obtain ⟨y, hy1, hy2⟩ := hne
          rw [hy1]
          unfold zeroA
          have HB10 := Lib.hid hb10
          clear hb10 hD hy1 hqr
          go_upto_region 15 with fail
          obtain ⟨w11, hw11⟩ : ∃ w11, w10.alloc (.cells #[.int .i64 0, .string ByteArray.empty, .string ByteArray.empty, .int .i64 0, .int .i64 0, .int .i64 0, .slice none 0 0] 24) = w11 := ⟨_, rfl⟩
          obtain ⟨hb11, hg11, -⟩ := box7 hw11
          rw [hw11]
          have hbr11 : Below wr.heap.size wr w11 := HB10.out.trans (hb11.mono HB10.out.size)
          have HB11 := Lib.hid hbr11
          clear hw11 hb11 hg11 hbr11
          go_wp2
          go_roundw
          case rel => exact ⟨m + 1, by omega, by go_num, HBR.out.trans (HB11.out.mono HBR.out.size)⟩
          case measure => simp [intOf]; omega
      · have hm2 : m = 2 := by omega
        have i1 : ¬ (m : Int) < 2 := by omega
        have hkn := known_any wr (HOK.out.below h0r)
        have HKN := Lib.hid hkn; have H0R := Lib.hid h0r
        clear hkn h0r hb
        go_wp2_with fail
        refine HKN.out.mono ?_
        rintro e w10 ⟨rfl, hb10⟩
        go_wp2
        go_ret
        exact ⟨rfl, H0R.out.trans (hb10.mono H0R.out.size)⟩
  · have hok4 : Ok7 w4 := HOK.out.below (HB3.out.trans (hb4.mono HB3.out.size))
    have hpt : parseC T = some C := by have h := HT.out; rw [← h]; rw [← h] at hts; exact parse_text HBAD.out hts
    have hcall := Parse_any T (fun h => IxOk_any _ (by omega)) w4 (by unfold maxLen; omega) hok4
    have HPT := Lib.hid hpt; have HP := Lib.hid hcall; have HB4 := Lib.hid hb4
    clear hok4 hpt hcall hts hb4 d0 d1 d2 d3 d4 d5 d6
    go_wp2_with fail
    refine HP.out.mono ?_
    rintro e w5 ⟨hb5, hor⟩
    rcases hor with ⟨D, ds, hD, rfl, hnD, -⟩ | ⟨hD, -⟩
    case inr => rw [HPT.out] at hD; cases hD
    rw [HPT.out] at hD
    obtain rfl := Option.some.inj hD
    clear hD
    have hrD := hnD.crd
    rw [← HC.out] at hnD
    obtain ⟨A5, c5, rfl⟩ := CRdS_cells hnD
    simp only [contCells] at hrD ⊢
    have hb35 : Below w3.heap.size w3 w5 := HB4.out.trans (hb5.mono HB4.out.size)
    have HB35 := Lib.hid hb35; have HRD5 := Lib.hid hrD
    clear hb5 hb35 hrD hnD
    go_upto_region 6 with fail
    obtain ⟨w6, hw6⟩ : ∃ w6, w5.alloc (.cells #[.int .i64 kk, .string i, .string l, .int .i64 s1, .int .i64 t, .int .i64 le, .slice A5 ys.length c5] 24) = w6 := ⟨_, rfl⟩
    obtain ⟨hb6, hg6, hbox6⟩ := box7 hw6
    rw [hw6]
    have hb36 : Below w3.heap.size w3 w6 := HB35.out.trans (hb6.mono HB35.out.size)
    have hrd6 := CRd_more (show w5.heap.size ≤ w6.heap.size by omega) _ _ (CRd_keep hb6 _ _ HRD5.out)
    have hrd6' := CRd_more hb36.size _ _ (CRd_keep hb36 _ _ HRD3.out)
    obtain ⟨d0, d1, d2, d3, d4, d5, d6⟩ := (HBOX.out.keep hb36 (by have := HG3.out; omega)).zero
    obtain ⟨f0, f1, f2, f3, f4, f5, f6⟩ := hbox6.zero
    have hsame := RSame_any C C _ _ w6 hrd6' hrd6
    rw [sameC_self] at hsame
    have HSAME := Lib.hid hsame; have HB36 := Lib.hid hb36
    clear hw6 hb6 hg6 hbox6 hb36 hrd6 hrd6' hsame
    go_wp2_with fail
    refine HSAME.out.mono ?_
    rintro e w7 ⟨rfl, hb7⟩
    have hb37 : Below w3.heap.size w3 w7 := HB36.out.trans (hb7.mono HB36.out.size)
    have hb07 : Below w.heap.size w w7 := HB3.out.trans (hb37.mono HB3.out.size)
    have ht7 := HT3.out.kept (grown_none hb37) (fun e => by cases e) (fun g hg => by cases hg)
    have HB7 := Lib.hid hb07; have HT7 := Lib.hid ht7
    clear hb7 hb37 hb07 ht7 f0 f1 f2 f3 f4 f5 f6
    clear d0 d1 d2 d3 d4 d5 d6
    go_wp2_with fail
    refine (ltext_any xs w.heap.size w.heap.size k' w7 HK2.out HT7.out).mono ?_
    rintro e w8 ⟨u, rfl, hus, hg8⟩
    have hb8 : Below w.heap.size w w8 := below_of_grown HB7.out hg8 HB7.out.size (Nat.le_refl _)
    have HB8 := Lib.hid hb8; have HUS := Lib.hid hus
    clear hb8 hus hg8
    go_upto_region 11 with fail
    obtain ⟨w9, hw9⟩ : ∃ w9, w8.alloc (.cells #[.string s, .string u] 9) = w9 := ⟨_, rfl⟩
    have hb9 : Below w8.heap.size w8 w9 := by rw [← hw9]; exact (Below.refl _ _).alloc (Nat.le_refl _) _
    have hbl : BoxL w9 w8.heap.size [.string s, .string u] := box_new hw9
    have hg9 : w9.heap.size = w8.heap.size + 1 := by rw [← hw9]; simp
    rw [hw9]
    have hb09 := HB8.out.trans (hb9.mono HB8.out.size)
    have HB9 := Lib.hid hb09; have HBL := Lib.hid hbl; have HG9 := Lib.hid hg9
    clear hb9 hbl hg9 hb09 hw9
    go_wp2_with fail
    go_loopw [12] (fun i wr => ∃ m : Nat, m ≤ 2 ∧ i = .int .i64 m ∧ Below w9.heap.size w9 wr) (fun i _ => 2 - (intOf i).toNat)
    case atStart => exact ⟨0, by decide, rfl, Below.refl _ _⟩
    case round =>
      obtain ⟨m, hm, rfl, hb⟩ := hrel
      have h0r : Below w.heap.size w wr := HB9.out.trans (hb.mono HB9.out.size)
      by_cases hlt : m < 2
      · have i1 : (m : Int) < 2 := by omega
        have hcell : ∃ q : ByteArray, q.size ≤ maxLen ∧ ∀ W, Below wr.heap.size wr W → W.cell? ⟨w8.heap.size, m, none⟩ = some (.string q) := by
          have h9 : ∀ W, Below wr.heap.size wr W → BoxL W w8.heap.size [.string s, .string u] := fun W hW => (HBL.out.kept (grown_none hb) (fun e => by cases e)).kept (grown_none hW) (fun e => by cases e)
          have hm2 : m = 0 ∨ m = 1 := by omega
          rcases hm2 with rfl | rfl
          · exact ⟨s, HSZ.out, fun W hW => (h9 W hW).1 0 _ rfl⟩
          · exact ⟨u, by have := HUS.out; unfold maxLen; omega, fun W hW => (h9 W hW).1 1 _ rfl⟩
        obtain ⟨q, hq, hqc⟩ := hcell
        have hqr := hqc wr (Below.refl _ _)
        have HQ := Lib.hid hq; have HQC := Lib.hid hqc; have HBR := Lib.hid hb; have H0R := Lib.hid h0r
        clear hq hqc hb h0r
        go_wp2_with fail
        refine (Parse_any q (fun h => IxOk_any _ (by omega)) wr HQ.out (HOK.out.below H0R.out)).mono ?_
        rintro e w10 ⟨hb10, hor⟩
        rcases hor with ⟨D, ds, hD, rfl, hnD, hnn⟩ | ⟨hD, rfl⟩
        · have hrD := hnD.crd
          obtain ⟨h1, h2, h3, -⟩ := AllOk_parse hD
          have hbD := bad_of h1 h2
          have htx := text_parse hD
          obtain ⟨ka, ia, la, sa, ta, ea, ya⟩ := D
          obtain ⟨A5, c5, rfl⟩ := CRdS_cells hnD
          simp only [contCells] at hrD ⊢
          obtain ⟨D, hDD⟩ : ∃ C, Cont.mk ka ia la sa ta ea ya = C := ⟨_, rfl⟩
          rw [hDD] at hrD hbD htx hnn
          have HB10 := Lib.hid hb10; have HRDD := Lib.hid hrD; have HBD := Lib.hid hbD; have HTX := Lib.hid htx; have HNN := Lib.hid hnn; have HQ2 := Lib.hid h3
          clear hb10 hrD hbD htx hnn h1 h2 h3 hD hnD hDD hqr
          go_upto_region 15 with fail
          obtain ⟨w11, hw11⟩ : ∃ w11, w10.alloc (.cells #[.int .i64 ka, .string ia, .string la, .int .i64 sa, .int .i64 ta, .int .i64 ea, .slice A5 ya.length c5] 24) = w11 := ⟨_, rfl⟩
          obtain ⟨hb11, hg11, hbox11⟩ := box7 hw11
          rw [hw11]
          have hbr11 : Below wr.heap.size wr w11 := HB10.out.trans (hb11.mono HB10.out.size)
          have hrd11 := CRd_more (show w10.heap.size ≤ w11.heap.size by omega) _ _ (CRd_keep hb11 _ _ HRDD.out)
          have HB11 := Lib.hid hbr11; have HRD11 := Lib.hid hrd11
          obtain ⟨d0, d1, d2, d3, d4, d5, d6⟩ := hbox11.zero
          clear hw11 hb11 hg11 hbox11 hbr11 hrd11
          go_wp2_with fail
          refine (Format2_any D _ w11 HRD11.out (nodes_40 HNN.out (by decide))).mono ?_
          rintro e w12 ⟨hb12, hor⟩
          rw [HTX.out] at hor
          rcases hor with ⟨h, -⟩ | ⟨-, h, -⟩ | ⟨-, -, rfl⟩
          · rw [HBD.out] at h; cases h
          · exact absurd HQ2.out (by omega)
          have hbr12 : Below wr.heap.size wr w12 := HB11.out.trans (hb12.mono HB11.out.size)
          have hq12 := HQC.out w12 hbr12
          have HB12 := Lib.hid hbr12
          clear hb12 hbr12 d0 d1 d2 d3 d4 d5 d6
          go_wp2
          go_roundw
          case rel => exact ⟨m + 1, by omega, by go_num, HBR.out.trans (HB12.out.mono HBR.out.size)⟩
          case measure => simp [intOf]; omega
        · have hne : ∃ y : Int, (if 256 < q.size then (71 : Int) else 70) = y ∧ (y == 0) = false := by
            split
            · exact ⟨71, rfl, rfl⟩
            · exact ⟨70, rfl, rfl⟩
          obtain ⟨y, hy1, hy2⟩ := hne
          rw [hy1]
          unfold zeroA
          have HB10 := Lib.hid hb10
          clear hb10 hD hy1 hqr
          go_upto_region 15 with fail
          obtain ⟨w11, hw11⟩ : ∃ w11, w10.alloc (.cells #[.int .i64 0, .string ByteArray.empty, .string ByteArray.empty, .int .i64 0, .int .i64 0, .int .i64 0, .slice none 0 0] 24) = w11 := ⟨_, rfl⟩
          obtain ⟨hb11, hg11, -⟩ := box7 hw11
          rw [hw11]
          have hbr11 : Below wr.heap.size wr w11 := HB10.out.trans (hb11.mono HB10.out.size)
          have HB11 := Lib.hid hbr11
          clear hw11 hb11 hg11 hbr11
          go_wp2
          go_roundw
          case rel => exact ⟨m + 1, by omega, by go_num, HBR.out.trans (HB11.out.mono HBR.out.size)⟩
          case measure => simp [intOf]; omega
      · have hm2 : m = 2 := by omega
        have i1 : ¬ (m : Int) < 2 := by omega
        have hkn := known_any wr (HOK.out.below h0r)
        have HKN := Lib.hid hkn; have H0R := Lib.hid h0r
        clear hkn h0r hb
        go_wp2_with fail
        refine HKN.out.mono ?_
        rintro e w10 ⟨rfl, hb10⟩
        go_wp2
        go_ret
        exact ⟨rfl, H0R.out.trans (hb10.mono H0R.out.size)⟩
end Go.Proofs.YtnlocdhhecockaaDoor
