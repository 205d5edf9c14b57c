/-
  PartitionInner: row and card.
 Conditions: those of the given row and card (the listed variables of the library hold what the text lays), nothing else.
-/
import Derived.Test.YtehmidmoiamcfaaGreatDoorHTC
import Derived.Test.YtehmidmoiamcfaaGreatDoorHRB
import Derived.Test.YtehmidmoiamcfaaGreatDoorHSA
import Derived.Test.YtehmidmoiamcfaaGreatDoorHSH
import Derived.ShutString
set_option linter.unusedSimpArgs false
set_option linter.unusedVariables false
namespace Go.Cold
open Go Go.RowKit
theorem cells7_next {w w' : World} {b o : Nat} {k : Int} {i l : ByteArray} {s t e : Int} {A : Option Addr} {n c : Nat} (h : Cells7 w b o k i l s t e A n c) (hb : Below w.heap.size w w') : Cells7 w' b o k i l s t e A n c := h.keep hb (block_lt_of_cell h.1)
theorem inner_cells {w : World} {B : Nat} {k : Int} {i l : ByteArray} {s t e : Int} {xs : List Cont} {A : Option Addr} {c : Nat} (h : CRd w B (.mk k i l s t e xs) [.int .i64 k, .string i, .string l, .int .i64 s, .int .i64 t, .int .i64 e, .slice A xs.length c]) {j : Nat} {x : Cont} (hx : xs[j]? = some x) :
  ∃ b o, A = some ⟨b, o, none⟩ ∧ ∃ cs, CRd w B x cs ∧ ∀ q u, cs[q]? = some u → w.cell? ⟨b, o + j * 7 + q, none⟩ = some u := by
 obtain ⟨A', c', hcs, -, hsl⟩ := CRd_iff.1 h
 simp only [contCells, List.cons.injEq, Value.slice.injEq] at hcs
 obtain ⟨-, -, -, -, -, -, ⟨rfl, -, rfl⟩, -⟩ := hcs
 obtain ⟨hlt, rfl⟩ := List.getElem?_eq_some_iff.1 hx
 obtain ⟨b, o, h1, -, h2⟩ := hsl.cont hlt
 exact ⟨b, o, h1, h2⟩
theorem inner_slice {w : World} {B : Nat} {k : Int} {i l : ByteArray} {s t e : Int} {xs : List Cont} {A : Option Addr} {c : Nat} (h : CRd w B (.mk k i l s t e xs) [.int .i64 k, .string i, .string l, .int .i64 s, .int .i64 t, .int .i64 e, .slice A xs.length c]) : xs.length ≤ c ∧ c ≤ maxLen := by
 obtain ⟨A', c', hcs, -, hsl⟩ := CRd_iff.1 h
 simp only [contCells, List.cons.injEq, Value.slice.injEq] at hcs
 obtain ⟨-, -, -, -, -, -, ⟨rfl, -, rfl⟩, -⟩ := hcs
 exact ⟨hsl.1, hsl.2.1⟩
end Go.Cold
namespace Go.Proofs.YtehmidmoiamcfaaGreatDoor
open Go.RowKit Go.Cold
set_option maxRecDepth 100000 in
set_option maxHeartbeats 4000000 in
theorem lawInner31_any (A : Option Addr) (c : Nat) (xs : List Int) (raw : ByteArray) (w : World) (hok : Ok w) (h7 : Ok7 w) (hx : Sl w w.heap.size A c xs) (hr : raw.size ≤ 281474976710656) :
  Calls Tryz.prog 5 #[.slice A xs.length c, .string raw] w fun e w' => e = .returned (.bool true) ∧ Below w.heap.size w w' := by
 have H7 := Lib.hid h7; have HOK := Lib.hid hok; have HX := Lib.hid hx
 clear hok h7 hx
 go_enter Tryz.func5, Tryz.ntmps5
 by_cases hc : 300 < raw.size
 ·
  have i1 : (300 : Int) < (raw.size : Int) := by omega
  have i2 : (raw.size : Int) > 300 := by omega
  clear hr hc
  go_wp2_with fail
  refine (known31_any _ H7.out).mono ?_
  rintro e w1 ⟨rfl, hb1⟩
  go_wp2
  go_ret
  exact ⟨rfl, hb1⟩
 have i1 : ¬ (300 : Int) < (raw.size : Int) := by omega
 have i2 : ¬ (raw.size : Int) > 300 := by omega
 have HRW := Lib.hid (show raw.size ≤ 300 by omega)
 clear hr hc
 go_upto_region 4 with fail
 have htape := tape_new HX.out
 obtain ⟨w1, hw1_⟩ : ∃ z, w.alloc (.cells #[.slice A xs.length c, .int .i64 0] 32) = z := ⟨_, rfl⟩
 rw [hw1_] at htape
 have hb1 : Below w.heap.size w w1 := by rw [← hw1_]; exact (Below.refl _ _).alloc (Nat.le_refl _) _
 have HG1 := Lib.hid (show w1.heap.size = w.heap.size + 1 by rw [← hw1_]; simp)
 try rw [hw1_]
 have HT1 := Lib.hid htape; have HB1 := Lib.hid hb1
 clear hw1_ htape hb1
 clear i1 i2
 go_wp2_with fail
 refine (text31_any raw xs 0 w.heap.size w.heap.size _ (by decide) HT1.out (by have := HRW.out; unfold maxLen; omega)).mono ?_
 rintro e w3 ⟨s, k3, rfl, hts, -, -, hg_⟩
 have HSS := Lib.hid (show s.size ≤ 2320 by have := HRW.out; omega)
 have HB3 := Lib.hid (below_of_grown HB1.out hg_ HB1.out.size (Nat.le_refl _))
 clear hts hg_ HT1
 go_wp2_with fail
 refine (Parse_any s (fun h => IxOk_any _ (by omega)) _ (by have := HSS.out; unfold maxLen; omega) (H7.out.below HB3.out)).mono ?_
 rintro e wp ⟨hb_, hor⟩
 have HBwp := Lib.hid (HB3.out.trans (hb_.mono HB3.out.size))
 clear hb_
 rcases hor with ⟨C, cs, hC, rfl, hnew, hnod⟩ | ⟨hC, rfl⟩
 case inr =>
  have hne : ∃ y : Int, (if 256 < s.size then (71 : Int) else 70) = y ∧ (y != 0) = true ∧ ¬ y = 0 := by
   split
   · exact ⟨71, rfl, rfl, by omega⟩
   · exact ⟨70, rfl, rfl, by omega⟩
  obtain ⟨y, hy1, hy2, hy3⟩ := hne
  rw [hy1]
  unfold zeroA
  have HC := Lib.hid hC; clear hC hy1
  go_upto_region 6 with fail
  obtain ⟨wz, hwz⟩ : ∃ z, wp.alloc (.cells #[.int .i64 0, .string ByteArray.empty, .string ByteArray.empty, .int .i64 0, .int .i64 0, .int .i64 0, .slice none 0 0] 36) = z := ⟨_, rfl⟩
  have hb_ : Below wp.heap.size wp wz := by rw [← hwz]; exact (Below.refl _ _).alloc (Nat.le_refl _) _
  try rw [hwz]
  have HBwz := Lib.hid (HBwp.out.trans (hb_.mono HBwp.out.size))
  clear hwz hb_
  go_wp2_with fail
  refine (disk_any sdaB s _ (by show (3 : Nat) ≤ _; unfold maxLen; omega) (by have := HSS.out; unfold maxLen; omega)).mono ?_
  rintro e wa ⟨hb_, A4, c4, rfl, hsl⟩
  have HBwa := Lib.hid (HBwz.out.trans (hb_.mono HBwz.out.size))
  have HSL4 := Lib.hid (hsl.sl (B := wa.heap.size) (fun x hx => hx.2)); clear hb_ hsl
  go_wp2_with fail
  refine (Wants_any A4 c4 (diskD sdaB s) slSda 3 _ wa.heap.size (Nat.le_refl _) HSL4.out (H7.out.below HBwa.out) (by show (3 : Nat) ≤ _; unfold maxLen; omega) (by show (4 : Nat) ≤ _; unfold maxLen; omega) (by unfold okI; omega)).mono ?_
  rintro e wb ⟨hb_, v_, rfl, hown_⟩
  obtain ⟨A5, c5, rfl, hs_⟩ := hown_.sl
  have HBwb := Lib.hid (HBwa.out.trans (hb_.mono HBwa.out.size))
  have HL := Lib.hid hs_; clear hb_ hs_ hown_ HSL4
  obtain ⟨L, hL⟩ : ∃ z, wantsD (diskD sdaB s) slSda 3 = z := ⟨_, rfl⟩
  rw [hL] at HL ⊢
  have HLD := Lib.hid hL; clear hL
  have hlz : L.length = 0 := by rw [← HLD.out, want_none HC.out]; rfl
  rw [hlz]
  go_wp2_with fail
  refine (known31_any _ (H7.out.below HBwb.out)).mono ?_
  rintro e wk ⟨rfl, hk_⟩
  go_wp2
  go_ret
  exact ⟨rfl, HBwb.out.trans (hk_.mono HBwb.out.size)⟩
 obtain ⟨hao, hdep, -, -⟩ := AllOk_parse hC
 have HC := Lib.hid hC; have HDC := Lib.hid hdep
 clear hC hao hdep hnod
 obtain ⟨kc, ic, lc, sc, tc, ec, xsc⟩ := C
 obtain ⟨Ac, cc, rfl⟩ := CRdS_cells hnew
 have hrc := hnew.crd
 simp only [contCells] at hrc ⊢
 clear hnew
 have HRC := Lib.hid (show CRd wp wp.heap.size (.mk kc ic lc sc tc ec xsc) [.int .i64 kc, .string ic, .string lc, .int .i64 sc, .int .i64 tc, .int .i64 ec, .slice Ac xsc.length cc] from hrc); clear hrc
 go_upto_region 6 with fail
 obtain ⟨wz, hwz⟩ : ∃ z, wp.alloc (.cells #[.int .i64 kc, .string ic, .string lc, .int .i64 sc, .int .i64 tc, .int .i64 ec, .slice Ac xsc.length cc] 36) = z := ⟨_, rfl⟩
 have hb_ : Below wp.heap.size wp wz := by rw [← hwz]; exact (Below.refl _ _).alloc (Nat.le_refl _) _
 have HXc := Lib.hid (show BoxL wz wp.heap.size [.int .i64 kc, .string ic, .string lc, .int .i64 sc, .int .i64 tc, .int .i64 ec, .slice Ac xsc.length cc] from box_mk hwz)
 try rw [hwz]
 have HBwz := Lib.hid (HBwp.out.trans (hb_.mono HBwp.out.size))
 have HRCwz := Lib.hid (crd_next HRC.out hb_)
 clear hwz hb_
 go_wp2_with fail
 refine (disk_any sdaB s _ (by show (3 : Nat) ≤ _; unfold maxLen; omega) (by have := HSS.out; unfold maxLen; omega)).mono ?_
 rintro e wa ⟨hb_, A4, c4, rfl, hsl⟩
 have HBwa := Lib.hid (HBwz.out.trans (hb_.mono HBwz.out.size))
 have cwa := Lib.hid (HXc.out.kept (grown_none hb_) (fun e => by cases e))
 have HRCwa := Lib.hid (crd_next HRCwz.out hb_)
 have HSL4 := Lib.hid (hsl.sl (B := wa.heap.size) (fun x hx => hx.2)); clear hb_ hsl
 go_wp2_with fail
 refine (Wants_any A4 c4 (diskD sdaB s) slSda 3 _ wa.heap.size (Nat.le_refl _) HSL4.out (H7.out.below HBwa.out) (by show (3 : Nat) ≤ _; unfold maxLen; omega) (by show (4 : Nat) ≤ _; unfold maxLen; omega) (by unfold okI; omega)).mono ?_
 rintro e wb ⟨hb_, v_, rfl, hown_⟩
 obtain ⟨A5, c5, rfl, hs_⟩ := hown_.sl
 have HBwb := Lib.hid (HBwa.out.trans (hb_.mono HBwa.out.size))
 have cwb := Lib.hid (cwa.out.kept (grown_none hb_) (fun e => by cases e))
 have HRCwb := Lib.hid (crd_next HRCwa.out hb_)
 have HL := Lib.hid hs_; clear hb_ hs_ hown_ HSL4
 obtain ⟨L, hL⟩ : ∃ z, wantsD (diskD sdaB s) slSda 3 = z := ⟨_, rfl⟩
 rw [hL] at HL ⊢
 have HLD := Lib.hid hL; clear hL
 have hl0 := (HL.out).1; have hl1 := (HL.out).2.1
 unfold maxLen at hl1
 have cc0 := cwb.out.1 0 _ rfl
 have cc6 := cwb.out.1 6 _ rfl
 by_cases hkc : kc = 5
 case neg =>
  have hk1 : (kc != 5) = true := by simpa using hkc
  have hk2 : (kc == 5) = false := by simpa using hkc
  have hlz : L.length = 0 := by rw [← HLD.out, want_kind HC.out hkc]; rfl
  rw [hlz]
  clear hkc
  go_wp2_with fail
  refine (known31_any _ (H7.out.below HBwb.out)).mono ?_
  rintro e wk ⟨rfl, hk_⟩
  go_wp2
  go_ret
  exact ⟨rfl, HBwb.out.trans (hk_.mono HBwb.out.size)⟩
 subst hkc
 have HWF := Lib.hid (want_full (origin := slSda) (round := 3) HC.out rfl)
 have hlen : L.length = xsc.length := by rw [← HLD.out]; exact HWF.out.1
 have e9 : ((L.length : Int) != (xsc.length : Int)) = false := by rw [hlen]; simp
 have e9' : ((L.length : Int) == (xsc.length : Int)) = true := by rw [hlen]; simp
 have HLEN := Lib.hid hlen; clear hlen
 go_wp2_with fail
 clear e9 e9'
 clear cc0 cc6
 go_loopw [10] (fun i wr => ∃ k : Nat, k ≤ L.length ∧ i = .int .i64 (k : Int) ∧ Hid (Below wb.heap.size wb wr)) (fun i _ => L.length - (intOf i).toNat)
 case atStart => exact ⟨0, Nat.zero_le _, rfl, Below.refl _ _⟩
 case round =>
  obtain ⟨k, hk, rfl, HBR⟩ := hrel
  have HBwr := Lib.hid (HBwb.out.trans (HBR.out.mono HBwb.out.size)); have HLwr := Lib.hid (HL.out.next (Nat.le_refl _) HBR.out); have HRCwr := Lib.hid (crd_next HRCwb.out HBR.out); have cwr := Lib.hid (cwb.out.kept (grown_none HBR.out) (fun e => by cases e))
  by_cases hlt : k < L.length
  ·
   have i1 : (k : Int) < (L.length : Int) := by omega
   obtain ⟨x, hk5, hxi, hat, hpx, hdx, hsx, hnum, hk16, hpt⟩ := wantD_at (origin := slSda) (round := 3) HC.out (i := k) (by rw [HLD.out]; exact hlt)
   have hat2 : L[k]'hlt = ⟨slSda, ptName sdaB ((k + 1 : Nat) : Int), textC x, 3⟩ := by rw [← hat]; congr 1; exact HLD.out.symm
   obtain ⟨b, o, rfl, -, -, a0, a1, a2, a3⟩ := (HLwr.out).virt hlt
   rw [hat2] at a0 a1 a2 a3
   obtain ⟨T, hT⟩ : ∃ z, textC x = z := ⟨_, rfl⟩
   rw [hT] at hpx hsx hat2 a2
   have HPX := Lib.hid hpx; have HTS2 := Lib.hid hsx; have HTS := Lib.hid (show T.size ≤ 2320 by have := HSS.out; omega); have HXI := Lib.hid hxi; have HNUM := Lib.hid hnum; have HPT := Lib.hid hpt; have HK5 := Lib.hid hk5
   have HDP := Lib.hid (show depthC x < depthC (.mk 5 ic lc sc tc ec xsc) ∧ depthC (.mk 5 ic lc sc tc ec xsc) ≤ 6 from ⟨hdx, HDC.out⟩)
   have HGC := Lib.hid (show wr.cell? ⟨b, o + k * 4 + 2, none⟩ = some (.string T) from a2)
   have HA0 := Lib.hid a0; have HA1 := Lib.hid a1; have HA3 := Lib.hid a3
   have gcell := HGC.out
   clear hat hat2 hpx hdx hsx hnum hpt hk5 hxi hT a0 a1 a2 a3
   obtain ⟨O, hO⟩ : ∃ z, ptName sdaB ((k + 1 : Nat) : Int) = z := ⟨_, rfl⟩
   rw [hO] at HNUM HA1
   have hdz : decide (numR sdaB O ≠ 0) = true := decide_eq_true (by have := HNUM.out; omega)
   have hnz : (numR sdaB O : Int) = ((k + 1 : Nat) : Int) := by have := HNUM.out; omega
   have HDZ := Lib.hid hdz; have HNZ := Lib.hid hnz; clear hO hdz hnz
   have HC0 := Lib.hid (show wr.cell? ⟨b, o + k * 4, none⟩ = some (.string slSda) from HA0.out)
   have HC1 := Lib.hid (show wr.cell? ⟨b, o + k * 4 + 1, none⟩ = some (.string O) from HA1.out)
   have HC3 := Lib.hid (show wr.cell? ⟨b, o + k * 4 + 3, none⟩ = some (.int .i64 3) from HA3.out)
   clear HA0 HA1 HA3
   go_wp2_with fail
   refine (Parse_any T (fun h => IxOk_any _ (by omega)) _ (by have := HTS.out; have := HSS.out; have := HTS2.out; unfold maxLen; omega) (H7.out.below HBwr.out)).mono ?_
   rintro e wq ⟨hb_, hor⟩
   clear gcell
   have HBwq := Lib.hid (HBwr.out.trans (hb_.mono HBwr.out.size))
   have cwq := Lib.hid (cwr.out.kept (grown_none hb_) (fun e => by cases e))
   have HLwq := Lib.hid ((HLwr.out).next (Nat.le_refl _) hb_)
   have HRCwq := Lib.hid (crd_next HRCwr.out hb_)
   have HBRwq := Lib.hid (below_more HBR.out hb_)
   have HGCwq := Lib.hid (cell_next HGC.out hb_)
   have HC0wq := Lib.hid (cell_next HC0.out hb_)
   have HC1wq := Lib.hid (cell_next HC1.out hb_)
   have HC3wq := Lib.hid (cell_next HC3.out hb_)
   clear hb_
   rcases hor with ⟨X, cs, hX, rfl, hnew, hnod⟩ | ⟨hX, -⟩
   case inr => rw [HPX.out] at hX; cases hX
   rw [HPX.out] at hX
   obtain rfl := Option.some.inj hX
   clear hX hnod
   obtain ⟨kx, ix, lx, sx, tx, ex, xsx⟩ := x
   obtain ⟨Ax, cx, rfl⟩ := CRdS_cells hnew
   have hrx := hnew.crd
   simp only [contCells] at hrx ⊢
   clear hnew
   have HRX := Lib.hid (show CRd wq wq.heap.size (.mk kx ix lx sx tx ex xsx) [.int .i64 kx, .string ix, .string lx, .int .i64 sx, .int .i64 tx, .int .i64 ex, .slice Ax xsx.length cx] from hrx); clear hrx
   go_upto_region 15 with fail
   obtain ⟨wy, hwy⟩ : ∃ z, wq.alloc (.cells #[.int .i64 kx, .string ix, .string lx, .int .i64 sx, .int .i64 tx, .int .i64 ex, .slice Ax xsx.length cx] 36) = z := ⟨_, rfl⟩
   have hb_ : Below wq.heap.size wq wy := by rw [← hwy]; exact (Below.refl _ _).alloc (Nat.le_refl _) _
   have HXx := Lib.hid (show BoxL wy wq.heap.size [.int .i64 kx, .string ix, .string lx, .int .i64 sx, .int .i64 tx, .int .i64 ex, .slice Ax xsx.length cx] from box_mk hwy)
   try rw [hwy]
   have HBwy := Lib.hid (HBwq.out.trans (hb_.mono HBwq.out.size))
   have cwy := Lib.hid (cwq.out.kept (grown_none hb_) (fun e => by cases e))
   have HLwy := Lib.hid ((HLwq.out).next (Nat.le_refl _) hb_)
   have HRCwy := Lib.hid (crd_next HRCwq.out hb_)
   have HBRwy := Lib.hid (below_more HBRwq.out hb_)
   have HGCwy := Lib.hid (cell_next HGCwq.out hb_)
   have HC0wy := Lib.hid (cell_next HC0wq.out hb_)
   have HC1wy := Lib.hid (cell_next HC1wq.out hb_)
   have HC3wy := Lib.hid (cell_next HC3wq.out hb_)
   have HRXwy := Lib.hid (crd_next HRX.out hb_)
   clear hwy hb_
   have cc1 := HC1wy.out
   go_wp2_with fail
   refine (PNumber_any ⟨#[115, 100, 97]⟩ O _ (by show (3 : Nat) ≤ _; unfold maxLen; omega)).mono ?_
   rintro e wn ⟨rfl, hwn_⟩
   rw [hwn_]; clear hwn_ wn
   rw [show numR ⟨#[115, 100, 97]⟩ O = numR sdaB O from rfl, HDZ.out, HNZ.out]
   clear cc1
   obtain ⟨b7, o7, hA7, cs7, hcr7, hcell7⟩ := inner_cells HRCwy.out HXI.out
   subst hA7
   obtain ⟨Ae, ce, rfl⟩ := CRdS_cells hcr7
   simp only [contCells] at hcr7
   have HC7 := Lib.hid (cells7 hcell7)
   have HRE := Lib.hid (show CRd wy wy.heap.size (.mk kx ix lx sx tx ex xsx) [.int .i64 kx, .string ix, .string lx, .int .i64 sx, .int .i64 tx, .int .i64 ex, .slice Ae xsx.length ce] from hcr7); clear hcr7 hcell7
   have his := inner_slice HRCwy.out
   go_upto_region 16 with fail
   refine wp_region_held_drew (S := fun w' => BoxL w' wq.heap.size [.int .i64 kx, .string ix, .string lx, .int .i64 sx, .int .i64 tx, .int .i64 ex, .slice Ax xsx.length cx] ∧ BoxL w' wp.heap.size [.int .i64 5, .string ic, .string lc, .int .i64 sc, .int .i64 tc, .int .i64 ec, .slice (some ⟨b7, o7, none⟩) xsc.length cc] ∧ Cells7 w' b7 (o7 + k * 7) kx ix lx sx tx ex Ae xsx.length ce ∧ w'.cell? ⟨b, o + k * 4, none⟩ = some (.string slSda) ∧ w'.cell? ⟨b, o + k * 4 + 3, none⟩ = some (.int .i64 3)) (by kernel_rfl) ⟨HXx.out.drew, cwy.out.drew, cells7_next HC7.out (below_drewN_self _ _ 1), cell_next HC0wy.out (below_drewN_self _ _ 1), cell_next HC3wy.out (below_drewN_self _ _ 1)⟩ (fun hS0 => ?_)
   obtain ⟨wd, hwd⟩ : ∃ z, World.drew wy = z := ⟨_, rfl⟩
   rw [hwd] at hS0 ⊢
   have hb_ : Below wy.heap.size wy wd := by rw [← hwd]; exact below_drewN_self _ _ 1
   clear hwd hS0
   have HBwd := Lib.hid (HBwy.out.trans (hb_.mono HBwy.out.size))
   have cwd := Lib.hid (cwy.out.kept (grown_none hb_) (fun e => by cases e))
   have xwd := Lib.hid (HXx.out.kept (grown_none hb_) (fun e => by cases e))
   have HLwd := Lib.hid ((HLwy.out).next (Nat.le_refl _) hb_)
   have HRCwd := Lib.hid (crd_next HRCwy.out hb_)
   have HBRwd := Lib.hid (below_more HBRwy.out hb_)
   have HGCwd := Lib.hid (cell_next HGCwy.out hb_)
   have HC0wd := Lib.hid (cell_next HC0wy.out hb_)
   have HC1wd := Lib.hid (cell_next HC1wy.out hb_)
   have HC3wd := Lib.hid (cell_next HC3wy.out hb_)
   have HRXwd := Lib.hid (crd_next HRXwy.out hb_)
   have HC7wd := Lib.hid (cells7_next HC7.out hb_)
   have HREwd := Lib.hid (crd_next HRE.out hb_)
   clear hb_
   refine wpAnyH_take (i := 0) (oi := ⟨some 76, _, _, _, _, _⟩) (v := .int .i64 0) rfl (by kernel_rfl) (by kernel_rfl) (by kernel_rfl) (fun _ _ _ h => h) (Or.inl ⟨by rfl, fun w' hS => by go_simp⟩) ⟨xwd.out, cwd.out, HC7wd.out, HC0wd.out, HC3wd.out⟩ ?_
   try simp only [Act.put, List.setIfInBounds_toArray, List.set_cons_zero, List.set_cons_succ]
   refine wpAnyH_take (i := 1) (oi := ⟨some 77, _, _, _, _, _⟩) (v := .bool false) rfl (by kernel_rfl) (by kernel_rfl) (by kernel_rfl) (fun _ _ _ h => h) (Or.inl ⟨by rfl, fun w' hS => by go_simp⟩) ⟨xwd.out, cwd.out, HC7wd.out, HC0wd.out, HC3wd.out⟩ ?_
   try simp only [Act.put, List.setIfInBounds_toArray, List.set_cons_zero, List.set_cons_succ]
   refine wpAnyH_take (i := 2) (oi := ⟨some 78, _, _, _, _, _⟩) (v := .bool false) rfl (by kernel_rfl) (by kernel_rfl) (by kernel_rfl) (fun _ _ _ h => h) (Or.inl ⟨by rfl, fun w' hS => by go_simp⟩) ⟨xwd.out, cwd.out, HC7wd.out, HC0wd.out, HC3wd.out⟩ ?_
   try simp only [Act.put, List.setIfInBounds_toArray, List.set_cons_zero, List.set_cons_succ]
   refine wpAnyH_take (i := 3) (oi := ⟨some 79, _, _, _, _, _⟩) (v := .agg #[.int .i64 kx, .string ix, .string lx, .int .i64 sx, .int .i64 tx, .int .i64 ex, .slice Ax xsx.length cx]) rfl (by kernel_rfl) (by kernel_rfl) (by kernel_rfl) (fun _ _ _ h => h) (Or.inl ⟨by rfl, fun w' hS => by (have u0_ := hS.1.1 0 _ rfl; have u1_ := hS.1.1 1 _ rfl; have u2_ := hS.1.1 2 _ rfl; have u3_ := hS.1.1 3 _ rfl; have u4_ := hS.1.1 4 _ rfl; have u5_ := hS.1.1 5 _ rfl; have u6_ := hS.1.1 6 _ rfl; go_simp)⟩) ⟨xwd.out, cwd.out, HC7wd.out, HC0wd.out, HC3wd.out⟩ ?_
   try simp only [Act.put, List.setIfInBounds_toArray, List.set_cons_zero, List.set_cons_succ]
   refine wpAnyH_take (i := 4) (oi := ⟨some 80, _, _, _, _, _⟩) (v := .pointer (some ⟨wp.heap.size, 6, none⟩)) rfl (by kernel_rfl) (by kernel_rfl) (by kernel_rfl) (fun _ _ _ h => h) (Or.inl ⟨by rfl, fun w' hS => by go_simp⟩) ⟨xwd.out, cwd.out, HC7wd.out, HC0wd.out, HC3wd.out⟩ ?_
   try simp only [Act.put, List.setIfInBounds_toArray, List.set_cons_zero, List.set_cons_succ]
   refine wpAnyH_take (i := 5) (oi := ⟨some 81, _, _, _, _, _⟩) (v := .slice (some ⟨b7, o7, none⟩) xsc.length cc) rfl (by kernel_rfl) (by kernel_rfl) (by kernel_rfl) (fun _ _ _ h => h) (Or.inl ⟨by rfl, fun w' hS => by (have u0_ := hS.2.1.1 6 _ rfl; go_simp)⟩) ⟨xwd.out, cwd.out, HC7wd.out, HC0wd.out, HC3wd.out⟩ ?_
   try simp only [Act.put, List.setIfInBounds_toArray, List.set_cons_zero, List.set_cons_succ]
   have hxlt : k < xsc.length := (List.getElem?_eq_some_iff.1 HXI.out).1
   have i7 : (k : Int) < (xsc.length : Int) := by omega
   refine wpAnyH_take (i := 6) (oi := ⟨some 82, _, _, _, _, _⟩) (v := .int .i64 k) rfl (by kernel_rfl) (by kernel_rfl) (by kernel_rfl) (fun _ _ _ h => h) (Or.inl ⟨by rfl, fun w' hS => by go_simp⟩) ⟨xwd.out, cwd.out, HC7wd.out, HC0wd.out, HC3wd.out⟩ ?_
   try simp only [Act.put, List.setIfInBounds_toArray, List.set_cons_zero, List.set_cons_succ]
   refine wpAnyH_take (i := 7) (oi := ⟨some 83, _, _, _, _, _⟩) (v := .pointer (some ⟨b7, o7 + k * 7, none⟩)) rfl (by kernel_rfl) (by kernel_rfl) (by kernel_rfl) (fun _ _ _ h => h) (Or.inl ⟨by rfl, fun w' hS => by go_simp⟩) ⟨xwd.out, cwd.out, HC7wd.out, HC0wd.out, HC3wd.out⟩ ?_
   try simp only [Act.put, List.setIfInBounds_toArray, List.set_cons_zero, List.set_cons_succ]
   refine wpAnyH_take (i := 8) (oi := ⟨some 84, _, _, _, _, _⟩) (v := .agg #[.int .i64 kx, .string ix, .string lx, .int .i64 sx, .int .i64 tx, .int .i64 ex, .slice Ae xsx.length ce]) rfl (by kernel_rfl) (by kernel_rfl) (by kernel_rfl) (fun _ _ _ h => h) (Or.inl ⟨by rfl, fun w' hS => by (obtain ⟨u0_, u1_, u2_, u3_, u4_, u5_, u6_⟩ := hS.2.2.1; go_simp)⟩) ⟨xwd.out, cwd.out, HC7wd.out, HC0wd.out, HC3wd.out⟩ ?_
   try simp only [Act.put, List.setIfInBounds_toArray, List.set_cons_zero, List.set_cons_succ]
   refine wpAnyH_ready (rs := [9]) (by kernel_rfl) (by simp) ?_
   refine AllReadyH.cons (o := ⟨some 85, .call ⟨_, _, _⟩, _, _, _, _⟩) rfl (fun K hK => ?_) AllReadyH.nil
   go_simp
   go_at_call 20
   refine (Same_any (.mk kx ix lx sx tx ex xsx) (.mk kx ix lx sx tx ex xsx) _ _ wd HRXwd.out HREwd.out).mono ?_
   rintro e' ws ⟨rfl, hb_⟩
   have HBws := Lib.hid (HBwd.out.trans (hb_.mono HBwd.out.size))
   have cws := Lib.hid (cwd.out.kept (grown_none hb_) (fun e => by cases e))
   have xws := Lib.hid (xwd.out.kept (grown_none hb_) (fun e => by cases e))
   have HLws := Lib.hid ((HLwd.out).next (Nat.le_refl _) hb_)
   have HRCws := Lib.hid (crd_next HRCwd.out hb_)
   have HBRws := Lib.hid (below_more HBRwd.out hb_)
   have HGCws := Lib.hid (cell_next HGCwd.out hb_)
   have HC0ws := Lib.hid (cell_next HC0wd.out hb_)
   have HC1ws := Lib.hid (cell_next HC1wd.out hb_)
   have HC3ws := Lib.hid (cell_next HC3wd.out hb_)
   have HRXws := Lib.hid (crd_next HRXwd.out hb_)
   have HC7ws := Lib.hid (cells7_next HC7wd.out hb_)
   have HREws := Lib.hid (crd_next HREwd.out hb_)
   rw [sameC_self]
   clear hb_
   refine hK.out _ _ ⟨xws.out, cws.out, HC7ws.out, HC0ws.out, HC3ws.out⟩ (fun _ => ?_)
   clear hK K
   try simp only [Act.put, List.setIfInBounds_toArray, List.set_cons_zero, List.set_cons_succ]
   have hk20 : k < 20 := by have h : xsc.length ≤ 16 := inner_len HC.out; omega
   have hwr : IntKind.i64.wrap ((k : Int) + 1) = ((k + 1 : Nat) : Int) := by rw [IntKind.wrap_i64]; omega
   have hwr2 : wrap64 ((k : Int) + 1) = ((k + 1 : Nat) : Int) := by unfold wrap64; omega
   refine wpAnyH_take (i := 10) (oi := ⟨some 86, _, _, _, _, _⟩) (v := .bool false) rfl (by kernel_rfl) (by kernel_rfl) (by kernel_rfl) (fun _ _ _ h => h) (Or.inl ⟨by rfl, fun w' hS => by go_simp⟩) ⟨xws.out, cws.out, HC7ws.out, HC0ws.out, HC3ws.out⟩ ?_
   try simp only [Act.put, List.setIfInBounds_toArray, List.set_cons_zero, List.set_cons_succ]
   refine wpAnyH_take (i := 11) (oi := ⟨some 87, _, _, _, _, _⟩) (v := .bool false) rfl (by kernel_rfl) (by kernel_rfl) (by kernel_rfl) (fun _ _ _ h => h) (Or.inl ⟨by rfl, fun w' hS => by go_simp⟩) ⟨xws.out, cws.out, HC7ws.out, HC0ws.out, HC3ws.out⟩ ?_
   try simp only [Act.put, List.setIfInBounds_toArray, List.set_cons_zero, List.set_cons_succ]
   refine wpAnyH_take (i := 12) (oi := ⟨some 88, _, _, _, _, _⟩) (v := .bool false) rfl (by kernel_rfl) (by kernel_rfl) (by kernel_rfl) (fun _ _ _ h => h) (Or.inl ⟨by rfl, fun w' hS => by go_simp⟩) ⟨xws.out, cws.out, HC7ws.out, HC0ws.out, HC3ws.out⟩ ?_
   try simp only [Act.put, List.setIfInBounds_toArray, List.set_cons_zero, List.set_cons_succ]
   refine wpAnyH_take (i := 13) (oi := ⟨some 89, _, _, _, _, _⟩) (v := .bool true) rfl (by kernel_rfl) (by kernel_rfl) (by kernel_rfl) (fun _ _ _ h => h) (Or.inl ⟨by rfl, fun w' hS => by go_simp⟩) ⟨xws.out, cws.out, HC7ws.out, HC0ws.out, HC3ws.out⟩ ?_
   try simp only [Act.put, List.setIfInBounds_toArray, List.set_cons_zero, List.set_cons_succ]
   refine wpAnyH_take (i := 14) (oi := ⟨some 90, _, _, _, _, _⟩) (v := .bool false) rfl (by kernel_rfl) (by kernel_rfl) (by kernel_rfl) (fun _ _ _ h => h) (Or.inl ⟨by rfl, fun w' hS => by go_simp⟩) ⟨xws.out, cws.out, HC7ws.out, HC0ws.out, HC3ws.out⟩ ?_
   try simp only [Act.put, List.setIfInBounds_toArray, List.set_cons_zero, List.set_cons_succ]
   refine wpAnyH_take (i := 15) (oi := ⟨some 91, _, _, _, _, _⟩) (v := .bool false) rfl (by kernel_rfl) (by kernel_rfl) (by kernel_rfl) (fun _ _ _ h => h) (Or.inl ⟨by rfl, fun w' hS => by go_simp⟩) ⟨xws.out, cws.out, HC7ws.out, HC0ws.out, HC3ws.out⟩ ?_
   try simp only [Act.put, List.setIfInBounds_toArray, List.set_cons_zero, List.set_cons_succ]
   refine wpAnyH_take (i := 16) (oi := ⟨some 92, _, _, _, _, _⟩) (v := .bool false) rfl (by kernel_rfl) (by kernel_rfl) (by kernel_rfl) (fun _ _ _ h => h) (Or.inl ⟨by rfl, fun w' hS => by go_simp⟩) ⟨xws.out, cws.out, HC7ws.out, HC0ws.out, HC3ws.out⟩ ?_
   try simp only [Act.put, List.setIfInBounds_toArray, List.set_cons_zero, List.set_cons_succ]
   refine wpAnyH_take (i := 17) (oi := ⟨some 93, _, _, _, _, _⟩) (v := .int .i64 ((k + 1 : Nat) : Int)) rfl (by kernel_rfl) (by kernel_rfl) (by kernel_rfl) (fun _ _ _ h => h) (Or.inl ⟨by rfl, fun w' hS => by go_simp⟩) ⟨xws.out, cws.out, HC7ws.out, HC0ws.out, HC3ws.out⟩ ?_
   try simp only [Act.put, List.setIfInBounds_toArray, List.set_cons_zero, List.set_cons_succ]
   refine wpAnyH_take (i := 18) (oi := ⟨some 94, _, _, _, _, _⟩) (v := .int .i64 k) rfl (by kernel_rfl) (by kernel_rfl) (by kernel_rfl) (fun _ _ _ h => h) (Or.inl ⟨by rfl, fun w' hS => by go_simp⟩) ⟨xws.out, cws.out, HC7ws.out, HC0ws.out, HC3ws.out⟩ ?_
   try simp only [Act.put, List.setIfInBounds_toArray, List.set_cons_zero, List.set_cons_succ]
   refine wpAnyH_take (i := 19) (oi := ⟨some 95, _, _, _, _, _⟩) (v := .int .i64 ((k + 1 : Nat) : Int)) rfl (by kernel_rfl) (by kernel_rfl) (by kernel_rfl) (fun _ _ _ h => h) (Or.inl ⟨by rfl, fun w' hS => by go_simp⟩) ⟨xws.out, cws.out, HC7ws.out, HC0ws.out, HC3ws.out⟩ ?_
   try simp only [Act.put, List.setIfInBounds_toArray, List.set_cons_zero, List.set_cons_succ]
   refine wpAnyH_take (i := 20) (oi := ⟨some 96, _, _, _, _, _⟩) (v := .bool false) rfl (by kernel_rfl) (by kernel_rfl) (by kernel_rfl) (fun _ _ _ h => h) (Or.inl ⟨by rfl, fun w' hS => by go_simp⟩) ⟨xws.out, cws.out, HC7ws.out, HC0ws.out, HC3ws.out⟩ ?_
   try simp only [Act.put, List.setIfInBounds_toArray, List.set_cons_zero, List.set_cons_succ]
   refine wpAnyH_take (i := 21) (oi := ⟨some 97, _, _, _, _, _⟩) (v := .bool false) rfl (by kernel_rfl) (by kernel_rfl) (by kernel_rfl) (fun _ _ _ h => h) (Or.inl ⟨by rfl, fun w' hS => by go_simp⟩) ⟨xws.out, cws.out, HC7ws.out, HC0ws.out, HC3ws.out⟩ ?_
   try simp only [Act.put, List.setIfInBounds_toArray, List.set_cons_zero, List.set_cons_succ]
   refine wpAnyH_take (i := 22) (oi := ⟨some 98, _, _, _, _, _⟩) (v := .bool false) rfl (by kernel_rfl) (by kernel_rfl) (by kernel_rfl) (fun _ _ _ h => h) (Or.inl ⟨by rfl, fun w' hS => by go_simp⟩) ⟨xws.out, cws.out, HC7ws.out, HC0ws.out, HC3ws.out⟩ ?_
   try simp only [Act.put, List.setIfInBounds_toArray, List.set_cons_zero, List.set_cons_succ]
   refine wpAnyH_take (i := 23) (oi := ⟨some 99, _, _, _, _, _⟩) (v := .slice (some ⟨b, o, none⟩) L.length c5) rfl (by kernel_rfl) (by kernel_rfl) (by kernel_rfl) (fun _ _ _ h => h) (Or.inl ⟨by rfl, fun w' hS => by go_simp⟩) ⟨xws.out, cws.out, HC7ws.out, HC0ws.out, HC3ws.out⟩ ?_
   try simp only [Act.put, List.setIfInBounds_toArray, List.set_cons_zero, List.set_cons_succ]
   refine wpAnyH_take (i := 24) (oi := ⟨some 100, _, _, _, _, _⟩) (v := .int .i64 k) rfl (by kernel_rfl) (by kernel_rfl) (by kernel_rfl) (fun _ _ _ h => h) (Or.inl ⟨by rfl, fun w' hS => by go_simp⟩) ⟨xws.out, cws.out, HC7ws.out, HC0ws.out, HC3ws.out⟩ ?_
   try simp only [Act.put, List.setIfInBounds_toArray, List.set_cons_zero, List.set_cons_succ]
   refine wpAnyH_take (i := 25) (oi := ⟨some 101, _, _, _, _, _⟩) (v := .pointer (some ⟨b, o + k * 4, none⟩)) rfl (by kernel_rfl) (by kernel_rfl) (by kernel_rfl) (fun _ _ _ h => h) (Or.inl ⟨by rfl, fun w' hS => by go_simp⟩) ⟨xws.out, cws.out, HC7ws.out, HC0ws.out, HC3ws.out⟩ ?_
   try simp only [Act.put, List.setIfInBounds_toArray, List.set_cons_zero, List.set_cons_succ]
   refine wpAnyH_take (i := 26) (oi := ⟨some 102, _, _, _, _, _⟩) (v := .pointer (some ⟨b, o + k * 4, none⟩)) rfl (by kernel_rfl) (by kernel_rfl) (by kernel_rfl) (fun _ _ _ h => h) (Or.inl ⟨by rfl, fun w' hS => by go_simp⟩) ⟨xws.out, cws.out, HC7ws.out, HC0ws.out, HC3ws.out⟩ ?_
   try simp only [Act.put, List.setIfInBounds_toArray, List.set_cons_zero, List.set_cons_succ]
   refine wpAnyH_take (i := 27) (oi := ⟨some 103, _, _, _, _, _⟩) (v := .string slSda) rfl (by kernel_rfl) (by kernel_rfl) (by kernel_rfl) (fun _ _ _ h => h) (Or.inl ⟨by rfl, fun w' hS => by (have u0_ := hS.2.2.2.1; go_simp)⟩) ⟨xws.out, cws.out, HC7ws.out, HC0ws.out, HC3ws.out⟩ ?_
   try simp only [Act.put, List.setIfInBounds_toArray, List.set_cons_zero, List.set_cons_succ]
   refine wpAnyH_take (i := 28) (oi := ⟨some 104, _, _, _, _, _⟩) (v := .bool false) rfl (by kernel_rfl) (by kernel_rfl) (by kernel_rfl) (fun _ _ _ h => h) (Or.inl ⟨by rfl, fun w' hS => by (go_simp; decide +kernel)⟩) ⟨xws.out, cws.out, HC7ws.out, HC0ws.out, HC3ws.out⟩ ?_
   try simp only [Act.put, List.setIfInBounds_toArray, List.set_cons_zero, List.set_cons_succ]
   refine wpAnyH_take (i := 29) (oi := ⟨some 105, _, _, _, _, _⟩) (v := .bool false) rfl (by kernel_rfl) (by kernel_rfl) (by kernel_rfl) (fun _ _ _ h => h) (Or.inl ⟨by rfl, fun w' hS => by go_simp⟩) ⟨xws.out, cws.out, HC7ws.out, HC0ws.out, HC3ws.out⟩ ?_
   try simp only [Act.put, List.setIfInBounds_toArray, List.set_cons_zero, List.set_cons_succ]
   refine wpAnyH_take (i := 30) (oi := ⟨some 106, _, _, _, _, _⟩) (v := .bool false) rfl (by kernel_rfl) (by kernel_rfl) (by kernel_rfl) (fun _ _ _ h => h) (Or.inl ⟨by rfl, fun w' hS => by go_simp⟩) ⟨xws.out, cws.out, HC7ws.out, HC0ws.out, HC3ws.out⟩ ?_
   try simp only [Act.put, List.setIfInBounds_toArray, List.set_cons_zero, List.set_cons_succ]
   refine wpAnyH_take (i := 31) (oi := ⟨some 107, _, _, _, _, _⟩) (v := .slice (some ⟨b, o, none⟩) L.length c5) rfl (by kernel_rfl) (by kernel_rfl) (by kernel_rfl) (fun _ _ _ h => h) (Or.inl ⟨by rfl, fun w' hS => by go_simp⟩) ⟨xws.out, cws.out, HC7ws.out, HC0ws.out, HC3ws.out⟩ ?_
   try simp only [Act.put, List.setIfInBounds_toArray, List.set_cons_zero, List.set_cons_succ]
   refine wpAnyH_take (i := 32) (oi := ⟨some 108, _, _, _, _, _⟩) (v := .int .i64 k) rfl (by kernel_rfl) (by kernel_rfl) (by kernel_rfl) (fun _ _ _ h => h) (Or.inl ⟨by rfl, fun w' hS => by go_simp⟩) ⟨xws.out, cws.out, HC7ws.out, HC0ws.out, HC3ws.out⟩ ?_
   try simp only [Act.put, List.setIfInBounds_toArray, List.set_cons_zero, List.set_cons_succ]
   refine wpAnyH_take (i := 33) (oi := ⟨some 109, _, _, _, _, _⟩) (v := .pointer (some ⟨b, o + k * 4, none⟩)) rfl (by kernel_rfl) (by kernel_rfl) (by kernel_rfl) (fun _ _ _ h => h) (Or.inl ⟨by rfl, fun w' hS => by go_simp⟩) ⟨xws.out, cws.out, HC7ws.out, HC0ws.out, HC3ws.out⟩ ?_
   try simp only [Act.put, List.setIfInBounds_toArray, List.set_cons_zero, List.set_cons_succ]
   refine wpAnyH_take (i := 34) (oi := ⟨some 110, _, _, _, _, _⟩) (v := .pointer (some ⟨b, o + k * 4 + 3, none⟩)) rfl (by kernel_rfl) (by kernel_rfl) (by kernel_rfl) (fun _ _ _ h => h) (Or.inl ⟨by rfl, fun w' hS => by go_simp⟩) ⟨xws.out, cws.out, HC7ws.out, HC0ws.out, HC3ws.out⟩ ?_
   try simp only [Act.put, List.setIfInBounds_toArray, List.set_cons_zero, List.set_cons_succ]
   refine wpAnyH_take (i := 35) (oi := ⟨some 111, _, _, _, _, _⟩) (v := .int .i64 3) rfl (by kernel_rfl) (by kernel_rfl) (by kernel_rfl) (fun _ _ _ h => h) (Or.inl ⟨by rfl, fun w' hS => by (have u0_ := hS.2.2.2.2; go_simp)⟩) ⟨xws.out, cws.out, HC7ws.out, HC0ws.out, HC3ws.out⟩ ?_
   try simp only [Act.put, List.setIfInBounds_toArray, List.set_cons_zero, List.set_cons_succ]
   refine wpAnyH_take (i := 36) (oi := ⟨some 112, _, _, _, _, _⟩) (v := .bool false) rfl (by kernel_rfl) (by kernel_rfl) (by kernel_rfl) (fun _ _ _ h => h) (Or.inl ⟨by rfl, fun w' hS => by go_simp⟩) ⟨xws.out, cws.out, HC7ws.out, HC0ws.out, HC3ws.out⟩ ?_
   try simp only [Act.put, List.setIfInBounds_toArray, List.set_cons_zero, List.set_cons_succ]
   refine wpAnyH_take (i := 37) (oi := ⟨some 113, _, _, _, _, _⟩) (v := .bool false) rfl (by kernel_rfl) (by kernel_rfl) (by kernel_rfl) (fun _ _ _ h => h) (Or.inl ⟨by rfl, fun w' hS => by go_simp⟩) ⟨xws.out, cws.out, HC7ws.out, HC0ws.out, HC3ws.out⟩ ?_
   try simp only [Act.put, List.setIfInBounds_toArray, List.set_cons_zero, List.set_cons_succ]
   refine wpAnyH_done (by kernel_rfl) ?_ _
   clear his hxlt i7
   go_wp2
   go_roundw
   case rel => exact ⟨k + 1, by omega, by go_num, HBRws⟩
   case measure => simp [intOf]; omega
  ·
   have i1 : ¬ (k : Int) < (L.length : Int) := by omega
   go_wp2_with fail
   refine (known31_any _ (H7.out.below HBwr.out)).mono ?_
   rintro e wk ⟨rfl, hk_⟩
   go_wp2
   go_ret
   exact ⟨rfl, HBwr.out.trans (hk_.mono HBwr.out.size)⟩
end Go.Proofs.YtehmidmoiamcfaaGreatDoor
namespace Go.Proofs.YtehmidmoiamcfaaGreatDoor
open Go.RowKit Go.Cold
namespace cPartitionInner
open Go.ChangeShapes Go.WideShapes Go.ChangeAt
open Go.ChangeMaps (open_string)
set_option maxRecDepth 100000
theorem reads (os : Os) {H : Type} (enc : TypeId × Value → H) : ∃ places, DataW.whole enc Tryz.prog ((World.laidAll Tryz.prog os Rows.partitionInnerRow.laid).forCall (fun _ _ => 0) ⟨#[], #[.slice none 0 0, .string ⟨#[]⟩], []⟩).memory Tryz.f5.params.toList Rows.partitionInnerSpec.vars false (#[.slice none 0 0, .string ⟨#[]⟩] : Array Value).toList 8 = some ([.nil, .lit (.string [])], [], places) :=
 ⟨[], by kernel_rfl⟩
theorem lifted (os : Os) (started : os.Started) (H : Type) (enc : TypeId × Value → H) (F : Stop.Interp) :
  ReturnsInHanded {} Tryz.checked os 5 .any ((OpenSpec.ofChange Rows.partitionInnerSpec).preRow enc Tryz.prog Tryz.f5 Rows.partitionInnerRow.domain false Rows.partitionInnerRow.laid) (((OpenSpec.ofChange Rows.partitionInnerSpec).at F).post enc Tryz.prog Tryz.f5 false true false false) := by
 obtain ⟨places, hx⟩ := reads os enc
 refine law_lifted os started H enc F (by kernel_rfl) Tryz.func5 #[.slice none 0 0, .string ⟨#[]⟩] (World.shaped_of_ZipB (by kernel_rfl) (by kernel_rfl)) (by kernel_rfl)
  (OpenSpec.preRow_of_cond 8 hx (by kernel_rfl) (fun k hk => by cases hk) (by kernel_rfl) (laidMet_laidAll _ (by kernel_rfl) (by kernel_rfl))) rfl rfl
  (fun ds hl => by
   rw [Tryz.params5] at hl
   match ds, hl with
   | [d0, d1], _ => rfl) (by kernel_rfl) ?_
 intro W base args ds ps hval hA hlt hz hsh hlaid
 rw [Tryz.params5] at hA hval
 obtain ⟨v0, vs0, d0, ds0, p0, q0, hargs, rfl, rfl, h0, r0⟩ := trodAll_cons hA
 obtain ⟨v1, vs1, d1, ds1, p1, q1, rfl, rfl, rfl, h1, r1⟩ := trodAll_cons r0
 obtain ⟨rfl, rfl, rfl⟩ := trodAll_nil r1
 obtain rfl : args = #[v0, v1] := by cases args; simp_all
 obtain ⟨A0, c0, xs0, rfl, s0⟩ := open_nums Tryz.underlying29 Tryz.underlying3 (by kernel_rfl) (hval 0 29 v0 rfl rfl) h0 (fun x hx => hlt x (List.mem_append_left _ hx))
 obtain ⟨a1, rfl, rfl, rfl, w1⟩ := open_string Tryz.underlying9 (hval 1 9 v1 rfl rfl) h1
 have hzz := hz
 rw [Tryz.params5] at hzz
 simp [DataW.weightsEach, DataW.weights, reachBytes] at hzz
 exact lawInner31_any A0 c0 xs0 a1 W (show Ok W from Tryz.laysM146.s1_3 W hsh) (ok7_of_laid hlaid) s0 (Nat.le_trans (of_decide_eq_true hzz.2) (by decide))
theorem said : Rows.PartitionInnerSaid :=
 OpenClaim.holds_of_cond 5 Tryz.f5 rfl rfl rfl rfl rfl rfl rfl ⟨rfl, rfl, rfl, rfl, rfl⟩ rfl rfl rfl rfl rfl (by kernel_rfl) Tryz.func5 (by kernel_rfl)
  (of_decide_eq_true (by kernel_rfl)) (by unfold Func.isWrapper; first | (rw [if_pos (by decide +kernel)]; kernel_rfl) | (rw [if_neg (by decide +kernel)]; exact ⟨rfl, rfl⟩))
  (fun os started H enc _ F => by rw [OpenClaim.pre_eq_preRow]; exact lifted os started H enc F)
theorem plain (f : FuncId) (fn : Func) (hf : Tryz.pinned.checked.prog.funcNamed Rows.partitionInnerRow.func = some f) (hfn : Tryz.pinned.checked.prog.funcs[f]? = some fn) :
  true = Tryz.pinned.checked.prog.looks [] ∧ ∀ (j : Nat) t, fn.params[j]? = some t → Tryz.pinned.checked.prog.wantsStandIn t = false := by
 obtain rfl : f = 5 := Option.some.inj ((show Tryz.prog.funcNamed Rows.partitionInnerRow.func = some 5 by kernel_rfl).symm.trans hf) |>.symm
 obtain rfl : fn = Tryz.f5 := (Option.some.inj (Tryz.func5.symm.trans hfn)).symm
 refine ⟨by kernel_rfl, fun j t ht => ?_⟩
 rw [Tryz.params5] at ht
 have hm : t ∈ [29, 9] := by simpa using Array.mem_of_getElem? ht
 have hall : ([29, 9].all fun u => !Tryz.prog.wantsStandIn u) = true := by kernel_rfl
 exact (show Tryz.prog.wantsStandIn t = false by simpa using List.all_eq_true.1 hall t hm)
/-- The card. -/
theorem card : Rows.PartitionInnerCardSaid :=
 Claim7.holds_tied_plain_at .later [] _ _ _ _ said (fun _ h => by cases h) (by kernel_rfl) (fun _ h => by cases h) partitionInner_row_tie rfl ⟨rfl, rfl⟩ (by kernel_rfl) rfl plain (by kernel_rfl)
end cPartitionInner
end Go.Proofs.YtehmidmoiamcfaaGreatDoor
