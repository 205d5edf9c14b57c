/-
  PartitionLess: row and card.
 Conditions: those of the given row and card (the listed variables of the library hold what the text lays), nothing else.
-/
import Derived.Test.YtehmidmoiamcfaaGreatDoorHTC
import Derived.Test.YtehmidmoiamcfaaGreatDoorHSA
import Derived.Test.YtehmidmoiamcfaaGreatDoorHSH
import Derived.ShutString
set_option linter.unusedSimpArgs false
set_option linter.unusedVariables false
namespace Go.Proofs.YtehmidmoiamcfaaGreatDoor
open Go.RowKit Go.Cold
set_option maxRecDepth 100000 in
set_option maxHeartbeats 4000000 in
theorem lawLess31_any (A : Option Addr) (c : Nat) (xs : List Int) (w : World) (hok : Ok w) (h7 : Ok7 w) (hx : Sl w w.heap.size A c xs) :
  Calls Tryz.prog 6 #[.slice A xs.length c] w fun e w' => e = .returned (.bool true) ∧ Below w.heap.size w w' := by
 have H7 := Lib.hid h7; have HOK := Lib.hid hok; have HX := Lib.hid hx
 clear hok h7 hx
 go_enter Tryz.func6, Tryz.ntmps6
 go_upto_region 2 with fail
 have htape := tape_new HX.out
 obtain ⟨w1, hw1_⟩ : ∃ z, w.alloc (.cells #[.slice A xs.length c, .int .i64 0] 32) = z := ⟨_, rfl⟩
 rw [hw1_] at htape
 have hb1 : Below w.heap.size w w1 := by rw [← hw1_]; exact (Below.refl _ _).alloc (Nat.le_refl _) _
 have HG1 := Lib.hid (show w1.heap.size = w.heap.size + 1 by rw [← hw1_]; simp)
 try rw [hw1_]
 have HT1 := Lib.hid htape; have HB1 := Lib.hid hb1
 clear hw1_ htape hb1
 go_wp2_with fail
 refine (text31_any ByteArray.empty xs 0 w.heap.size w.heap.size _ (by decide) HT1.out (by show (0 : Nat) ≤ _; unfold maxLen; omega)).mono ?_
 rintro e w3 ⟨s, k3, rfl, hts, -, -, hg_⟩
 have HSS := Lib.hid (show s.size ≤ 2020 by have h0 : (ByteArray.empty).size = 0 := rfl; omega)
 have HB3 := Lib.hid (below_of_grown HB1.out hg_ HB1.out.size (Nat.le_refl _))
 clear hts hg_ HT1
 go_wp2_with fail
 refine (disk_any sdaB s _ (by show (3 : Nat) ≤ _; unfold maxLen; omega) (by have := HSS.out; unfold maxLen; omega)).mono ?_
 rintro e wa ⟨hb_, A4, c4, rfl, hsl⟩
 have HBwa := Lib.hid (HB3.out.trans (hb_.mono HB3.out.size))
 have HSL4 := Lib.hid (hsl.sl (B := wa.heap.size) (fun x hx => hx.2)); clear hb_ hsl
 go_wp2_with fail
 refine (Wants_any A4 c4 (diskD sdaB s) slSda 1 _ wa.heap.size (Nat.le_refl _) HSL4.out (H7.out.below HBwa.out) (by show (3 : Nat) ≤ _; unfold maxLen; omega) (by show (4 : Nat) ≤ _; unfold maxLen; omega) (by unfold okI; omega)).mono ?_
 rintro e wb ⟨hb_, v_, rfl, hown_⟩
 obtain ⟨A5, c5, rfl, hs_⟩ := hown_.sl
 have HBwb := Lib.hid (HBwa.out.trans (hb_.mono HBwa.out.size))
 have HL := Lib.hid hs_; clear hb_ hs_ hown_ HSL4
 obtain ⟨L, hL⟩ : ∃ z, wantsD (diskD sdaB s) slSda 1 = z := ⟨_, rfl⟩
 rw [hL] at HL ⊢
 have HLD := Lib.hid hL; clear hL
 go_wp2_with fail
 refine (Parse_any s (fun h => IxOk_any _ (by omega)) _ (by have := HSS.out; unfold maxLen; omega) (H7.out.below HBwb.out)).mono ?_
 rintro e wp ⟨hb_, hor⟩
 have HBwp := Lib.hid (HBwb.out.trans (hb_.mono HBwb.out.size))
 have HLwp := Lib.hid ((HL.out).next (Nat.le_refl _) hb_)
 clear hb_
 rcases hor with ⟨C, cs, hC, rfl, hnew, hnod⟩ | ⟨hC, rfl⟩
 case inr =>
  have HL0 := Lib.hid (show L = [] by rw [← HLD.out]; exact want_none hC)
  have hne : ∃ y : Int, (if 256 < s.size then (71 : Int) else 70) = y ∧ (y != 0) = true ∧ ¬ y = 0 := by
   split
   · exact ⟨71, rfl, rfl, by omega⟩
   · exact ⟨70, rfl, rfl, by omega⟩
  obtain ⟨y, hy1, hy2, hy3⟩ := hne
  rw [hy1]
  unfold zeroA
  clear hC hy1
  go_upto_region 5 with fail
  obtain ⟨wz, hwz⟩ : ∃ z, wp.alloc (.cells #[.int .i64 0, .string ByteArray.empty, .string ByteArray.empty, .int .i64 0, .int .i64 0, .int .i64 0, .slice none 0 0] 36) = z := ⟨_, rfl⟩
  have hb_ : Below wp.heap.size wp wz := by rw [← hwz]; exact (Below.refl _ _).alloc (Nat.le_refl _) _
  try rw [hwz]
  have HBwz := Lib.hid (HBwp.out.trans (hb_.mono HBwp.out.size))
  have HLwz := Lib.hid ((HLwp.out).next (Nat.le_refl _) hb_)
  clear hwz hb_
  have hlz : L.length = 0 := by rw [HL0.out]; rfl
  rw [hlz]
  go_wp2_with fail
  go_loopw [8] (fun i wr => i = .int .i64 0 ∧ wr = wz) (fun _ _ => 0)
  case atStart => exact ⟨rfl, rfl⟩
  case round =>
   obtain ⟨rfl, rfl⟩ := hrel
   go_wp2_with fail
   refine (known31_any _ (H7.out.below HBwz.out)).mono ?_
   rintro e wk ⟨rfl, hk_⟩
   go_wp2
   go_ret
   exact ⟨rfl, HBwz.out.trans (hk_.mono HBwz.out.size)⟩
 obtain ⟨hao, hdep, -, -⟩ := AllOk_parse hC
 have HC := Lib.hid hC; have HDC := Lib.hid hdep
 clear hC hao hdep hnod
 obtain ⟨kc, ic, lc, sc, tc, ec, xsc⟩ := C
 obtain ⟨Ac, cc, rfl⟩ := CRdS_cells hnew
 have hrc := hnew.crd
 simp only [contCells] at hrc ⊢
 clear hnew
 have HRC := Lib.hid (show CRd wp wp.heap.size (.mk kc ic lc sc tc ec xsc) [.int .i64 kc, .string ic, .string lc, .int .i64 sc, .int .i64 tc, .int .i64 ec, .slice Ac xsc.length cc] from hrc); clear hrc
 go_upto_region 5 with fail
 obtain ⟨wz, hwz⟩ : ∃ z, wp.alloc (.cells #[.int .i64 kc, .string ic, .string lc, .int .i64 sc, .int .i64 tc, .int .i64 ec, .slice Ac xsc.length cc] 36) = z := ⟨_, rfl⟩
 have hb_ : Below wp.heap.size wp wz := by rw [← hwz]; exact (Below.refl _ _).alloc (Nat.le_refl _) _
 have HXc := Lib.hid (show BoxL wz wp.heap.size [.int .i64 kc, .string ic, .string lc, .int .i64 sc, .int .i64 tc, .int .i64 ec, .slice Ac xsc.length cc] from box_mk hwz)
 try rw [hwz]
 have HBwz := Lib.hid (HBwp.out.trans (hb_.mono HBwp.out.size))
 have HLwz := Lib.hid ((HLwp.out).next (Nat.le_refl _) hb_)
 have HRCwz := Lib.hid (crd_next HRC.out hb_)
 clear hwz hb_
 go_wp2_with fail
 go_loopw [8] (fun i wr => ∃ k : Nat, k ≤ L.length ∧ i = .int .i64 (k : Int) ∧ Hid (Below wz.heap.size wz wr)) (fun i _ => L.length - (intOf i).toNat)
 case atStart => exact ⟨0, Nat.zero_le _, rfl, Below.refl _ _⟩
 case round =>
  obtain ⟨k, hk, rfl, HBR⟩ := hrel
  have HBwr := Lib.hid (HBwz.out.trans (HBR.out.mono HBwz.out.size)); have HLwr := Lib.hid (HLwz.out.next (Nat.le_refl _) HBR.out); have HRCwr := Lib.hid (crd_next HRCwz.out HBR.out); have cwr := Lib.hid (HXc.out.kept (grown_none HBR.out) (fun e => by cases e))
  have hl0 := (HLwr.out).1; have hl1 := (HLwr.out).2.1
  unfold maxLen at hl1
  by_cases hlt : k < L.length
  ·
   have i1 : (k : Int) < (L.length : Int) := by omega
   obtain ⟨x, hk5, hxi, hat, hpx, hdx, hsx, hnum, hk16, hpt⟩ := wantD_at (origin := slSda) (round := 1) HC.out (i := k) (by rw [HLD.out]; exact hlt)
   have hat2 : L[k]'hlt = ⟨slSda, ptName sdaB ((k + 1 : Nat) : Int), textC x, 1⟩ := by rw [← hat]; congr 1; exact HLD.out.symm
   obtain ⟨b, o, rfl, -, -, a0, a1, a2, a3⟩ := (HLwr.out).virt hlt
   rw [hat2] at a0 a1 a2 a3
   obtain ⟨T, hT⟩ : ∃ z, textC x = z := ⟨_, rfl⟩
   rw [hT] at hpx hsx hat2 a2
   have HPX := Lib.hid hpx; have HTS2 := Lib.hid hsx; have HTS := Lib.hid (show T.size ≤ 2020 by have := HSS.out; omega); have HXI := Lib.hid hxi; have HNUM := Lib.hid hnum; have HPT := Lib.hid hpt; have HK5 := Lib.hid hk5
   have HDP := Lib.hid (show depthC x < depthC (.mk kc ic lc sc tc ec xsc) ∧ depthC (.mk kc ic lc sc tc ec xsc) ≤ 6 from ⟨hdx, HDC.out⟩)
   have HGC := Lib.hid (show wr.cell? ⟨b, o + k * 4 + 2, none⟩ = some (.string T) from a2)
   have HA0 := Lib.hid a0; have HA1 := Lib.hid a1; have HA3 := Lib.hid a3
   have gcell := HGC.out
   clear hat hat2 hpx hdx hsx hnum hpt hk5 hxi hT a0 a1 a2 a3
   go_wp2_with fail
   refine (Parse_any T (fun h => IxOk_any _ (by omega)) _ (by have := HTS.out; unfold maxLen; omega) (H7.out.below HBwr.out)).mono ?_
   rintro e wq ⟨hb_, hor⟩
   clear gcell
   have HBwq := Lib.hid (HBwr.out.trans (hb_.mono HBwr.out.size))
   have cwq := Lib.hid (cwr.out.kept (grown_none hb_) (fun e => by cases e))
   have HLwq := Lib.hid ((HLwr.out).next (Nat.le_refl _) hb_)
   have HRCwq := Lib.hid (crd_next HRCwr.out hb_)
   have HBRwq := Lib.hid (below_more HBR.out hb_)
   have HGCwq := Lib.hid (cell_next HGC.out hb_)
   clear hb_
   rcases hor with ⟨X, cs, hX, rfl, hnew, hnod⟩ | ⟨hX, -⟩
   case inr => rw [HPX.out] at hX; cases hX
   rw [HPX.out] at hX
   obtain rfl := Option.some.inj hX
   clear hX hnod
   obtain ⟨kx, ix, lx, sx, tx, ex, xsx⟩ := x
   obtain ⟨Ax, cx, rfl⟩ := CRdS_cells hnew
   have hrx := hnew.crd
   simp only [contCells] at hrx ⊢
   clear hnew
   have HRX := Lib.hid (show CRd wq wq.heap.size (.mk kx ix lx sx tx ex xsx) [.int .i64 kx, .string ix, .string lx, .int .i64 sx, .int .i64 tx, .int .i64 ex, .slice Ax xsx.length cx] from hrx); clear hrx
   go_upto_region 9 with fail
   obtain ⟨wy, hwy⟩ : ∃ z, wq.alloc (.cells #[.int .i64 kx, .string ix, .string lx, .int .i64 sx, .int .i64 tx, .int .i64 ex, .slice Ax xsx.length cx] 36) = z := ⟨_, rfl⟩
   have hb_ : Below wq.heap.size wq wy := by rw [← hwy]; exact (Below.refl _ _).alloc (Nat.le_refl _) _
   have HXx := Lib.hid (show BoxL wy wq.heap.size [.int .i64 kx, .string ix, .string lx, .int .i64 sx, .int .i64 tx, .int .i64 ex, .slice Ax xsx.length cx] from box_mk hwy)
   try rw [hwy]
   have HBwy := Lib.hid (HBwq.out.trans (hb_.mono HBwq.out.size))
   have cwy := Lib.hid (cwq.out.kept (grown_none hb_) (fun e => by cases e))
   have HLwy := Lib.hid ((HLwq.out).next (Nat.le_refl _) hb_)
   have HRCwy := Lib.hid (crd_next HRCwq.out hb_)
   have HBRwy := Lib.hid (below_more HBRwq.out hb_)
   have HGCwy := Lib.hid (cell_next HGCwq.out hb_)
   have HRXwy := Lib.hid (crd_next HRX.out hb_)
   clear hwy hb_
   refine wp_region_held_drew (S := fun w' => (BoxL w' wq.heap.size [.int .i64 kx, .string ix, .string lx, .int .i64 sx, .int .i64 tx, .int .i64 ex, .slice Ax xsx.length cx] ∧ BoxL w' wp.heap.size [.int .i64 kc, .string ic, .string lc, .int .i64 sc, .int .i64 tc, .int .i64 ec, .slice Ac xsc.length cc]) ∧ w'.cell? ⟨b, o + k * 4 + 2, none⟩ = some (.string T)) (by kernel_rfl) ⟨⟨HXx.out.drew, cwy.out.drew⟩, cell_next HGCwy.out (below_drewN_self _ _ 1)⟩ (fun hS0 => ?_)
   obtain ⟨wd, hwd⟩ : ∃ z, World.drew wy = z := ⟨_, rfl⟩
   rw [hwd] at hS0 ⊢
   have hb_ : Below wy.heap.size wy wd := by rw [← hwd]; exact below_drewN_self _ _ 1
   clear hwd hS0
   have HBwd := Lib.hid (HBwy.out.trans (hb_.mono HBwy.out.size))
   have cwd := Lib.hid (cwy.out.kept (grown_none hb_) (fun e => by cases e))
   have xwd := Lib.hid (HXx.out.kept (grown_none hb_) (fun e => by cases e))
   have HLwd := Lib.hid ((HLwy.out).next (Nat.le_refl _) hb_)
   have HRCwd := Lib.hid (crd_next HRCwy.out hb_)
   have HBRwd := Lib.hid (below_more HBRwy.out hb_)
   have HGCwd := Lib.hid (cell_next HGCwy.out hb_)
   have HRXwd := Lib.hid (crd_next HRXwy.out hb_)
   clear hb_
   refine wpAnyH_take (i := 0) (oi := ⟨some 39, _, _, _, _, _⟩) (v := .int .i64 0) rfl (by kernel_rfl) (by kernel_rfl) (by kernel_rfl) (fun _ _ _ h => h) (Or.inl ⟨by rfl, fun w' hS => by go_simp⟩) ⟨⟨xwd.out, cwd.out⟩, HGCwd.out⟩ ?_
   try simp only [Act.put, List.setIfInBounds_toArray, List.set_cons_zero, List.set_cons_succ]
   refine wpAnyH_take (i := 1) (oi := ⟨some 40, _, _, _, _, _⟩) (v := .bool false) rfl (by kernel_rfl) (by kernel_rfl) (by kernel_rfl) (fun _ _ _ h => h) (Or.inl ⟨by rfl, fun w' hS => by go_simp⟩) ⟨⟨xwd.out, cwd.out⟩, HGCwd.out⟩ ?_
   try simp only [Act.put, List.setIfInBounds_toArray, List.set_cons_zero, List.set_cons_succ]
   refine wpAnyH_take (i := 2) (oi := ⟨some 41, _, _, _, _, _⟩) (v := .bool false) rfl (by kernel_rfl) (by kernel_rfl) (by kernel_rfl) (fun _ _ _ h => h) (Or.inl ⟨by rfl, fun w' hS => by go_simp⟩) ⟨⟨xwd.out, cwd.out⟩, HGCwd.out⟩ ?_
   try simp only [Act.put, List.setIfInBounds_toArray, List.set_cons_zero, List.set_cons_succ]
   refine wpAnyH_take (i := 3) (oi := ⟨some 42, _, _, _, _, _⟩) (v := .int .i64 0) rfl (by kernel_rfl) (by kernel_rfl) (by kernel_rfl) (fun _ _ _ h => h) (Or.inl ⟨by rfl, fun w' hS => by go_simp⟩) ⟨⟨xwd.out, cwd.out⟩, HGCwd.out⟩ ?_
   try simp only [Act.put, List.setIfInBounds_toArray, List.set_cons_zero, List.set_cons_succ]
   refine wpAnyH_take (i := 4) (oi := ⟨some 43, _, _, _, _, _⟩) (v := .bool false) rfl (by kernel_rfl) (by kernel_rfl) (by kernel_rfl) (fun _ _ _ h => h) (Or.inl ⟨by rfl, fun w' hS => by go_simp⟩) ⟨⟨xwd.out, cwd.out⟩, HGCwd.out⟩ ?_
   try simp only [Act.put, List.setIfInBounds_toArray, List.set_cons_zero, List.set_cons_succ]
   refine wpAnyH_take (i := 5) (oi := ⟨some 44, _, _, _, _, _⟩) (v := .bool false) rfl (by kernel_rfl) (by kernel_rfl) (by kernel_rfl) (fun _ _ _ h => h) (Or.inl ⟨by rfl, fun w' hS => by go_simp⟩) ⟨⟨xwd.out, cwd.out⟩, HGCwd.out⟩ ?_
   try simp only [Act.put, List.setIfInBounds_toArray, List.set_cons_zero, List.set_cons_succ]
   refine wpAnyH_take (i := 6) (oi := ⟨some 45, _, _, _, _, _⟩) (v := .bool false) rfl (by kernel_rfl) (by kernel_rfl) (by kernel_rfl) (fun _ _ _ h => h) (Or.inl ⟨by rfl, fun w' hS => by go_simp⟩) ⟨⟨xwd.out, cwd.out⟩, HGCwd.out⟩ ?_
   try simp only [Act.put, List.setIfInBounds_toArray, List.set_cons_zero, List.set_cons_succ]
   refine wpAnyH_take (i := 7) (oi := ⟨some 46, _, _, _, _, _⟩) (v := .agg #[.int .i64 kx, .string ix, .string lx, .int .i64 sx, .int .i64 tx, .int .i64 ex, .slice Ax xsx.length cx]) rfl (by kernel_rfl) (by kernel_rfl) (by kernel_rfl) (fun _ _ _ h => h) (Or.inl ⟨by rfl, fun w' hS => by (have u0_ := hS.1.1.1 0 _ rfl; have u1_ := hS.1.1.1 1 _ rfl; have u2_ := hS.1.1.1 2 _ rfl; have u3_ := hS.1.1.1 3 _ rfl; have u4_ := hS.1.1.1 4 _ rfl; have u5_ := hS.1.1.1 5 _ rfl; have u6_ := hS.1.1.1 6 _ rfl; go_simp)⟩) ⟨⟨xwd.out, cwd.out⟩, HGCwd.out⟩ ?_
   try simp only [Act.put, List.setIfInBounds_toArray, List.set_cons_zero, List.set_cons_succ]
   refine wpAnyH_take (i := 9) (oi := ⟨some 48, _, _, _, _, _⟩) (v := .agg #[.int .i64 kc, .string ic, .string lc, .int .i64 sc, .int .i64 tc, .int .i64 ec, .slice Ac xsc.length cc]) rfl (by kernel_rfl) (by kernel_rfl) (by kernel_rfl) (fun _ _ _ h => h) (Or.inl ⟨by rfl, fun w' hS => by (have u0_ := hS.1.2.1 0 _ rfl; have u1_ := hS.1.2.1 1 _ rfl; have u2_ := hS.1.2.1 2 _ rfl; have u3_ := hS.1.2.1 3 _ rfl; have u4_ := hS.1.2.1 4 _ rfl; have u5_ := hS.1.2.1 5 _ rfl; have u6_ := hS.1.2.1 6 _ rfl; go_simp)⟩) ⟨⟨xwd.out, cwd.out⟩, HGCwd.out⟩ ?_
   try simp only [Act.put, List.setIfInBounds_toArray, List.set_cons_zero, List.set_cons_succ]
   refine wpAnyH_ready (rs := [8]) (by kernel_rfl) (by simp) ?_
   refine AllReadyH.cons (o := ⟨some 47, .call ⟨_, _, _⟩, _, _, _, _⟩) rfl (fun K hK => ?_) AllReadyH.nil
   go_simp
   go_at_call 21
   refine (Depth_any (.mk kx ix lx sx tx ex xsx) _ wd HRXwd.out (by have := HDP.out; exact Int.le_trans (show _ ≤ (6 : Int) by omega) (by decide))).mono ?_
   rintro e' wd1 ⟨rfl, hb_⟩
   have HBwd1 := Lib.hid (HBwd.out.trans (hb_.mono HBwd.out.size))
   have cwd1 := Lib.hid (cwd.out.kept (grown_none hb_) (fun e => by cases e))
   have xwd1 := Lib.hid (xwd.out.kept (grown_none hb_) (fun e => by cases e))
   have HLwd1 := Lib.hid ((HLwd.out).next (Nat.le_refl _) hb_)
   have HRCwd1 := Lib.hid (crd_next HRCwd.out hb_)
   have HBRwd1 := Lib.hid (below_more HBRwd.out hb_)
   have HGCwd1 := Lib.hid (cell_next HGCwd.out hb_)
   have HRXwd1 := Lib.hid (crd_next HRXwd.out hb_)
   clear hb_
   obtain ⟨dx, hdx⟩ : ∃ z, depthC (.mk kx ix lx sx tx ex xsx) = z := ⟨_, rfl⟩
   rw [hdx] at HDP ⊢
   clear hdx
   refine hK.out _ _ ⟨⟨xwd1.out, cwd1.out⟩, HGCwd1.out⟩ (fun _ => ?_)
   clear hK K
   try simp only [Act.put, List.setIfInBounds_toArray, List.set_cons_zero, List.set_cons_succ]
   refine wpAnyH_ready (rs := [10]) (by kernel_rfl) (by simp) ?_
   refine AllReadyH.cons (o := ⟨some 49, .call ⟨_, _, _⟩, _, _, _, _⟩) rfl (fun K hK => ?_) AllReadyH.nil
   go_simp
   go_at_call 21
   refine (Depth_any (.mk kc ic lc sc tc ec xsc) _ wd1 HRCwd1.out (by have := HDP.out; exact Int.le_trans (show _ ≤ (6 : Int) by omega) (by decide))).mono ?_
   rintro e' wd2 ⟨rfl, hb_⟩
   have HBwd2 := Lib.hid (HBwd1.out.trans (hb_.mono HBwd1.out.size))
   have cwd2 := Lib.hid (cwd1.out.kept (grown_none hb_) (fun e => by cases e))
   have xwd2 := Lib.hid (xwd1.out.kept (grown_none hb_) (fun e => by cases e))
   have HLwd2 := Lib.hid ((HLwd1.out).next (Nat.le_refl _) hb_)
   have HRCwd2 := Lib.hid (crd_next HRCwd1.out hb_)
   have HBRwd2 := Lib.hid (below_more HBRwd1.out hb_)
   have HGCwd2 := Lib.hid (cell_next HGCwd1.out hb_)
   have HRXwd2 := Lib.hid (crd_next HRXwd1.out hb_)
   clear hb_
   obtain ⟨dc, hdc⟩ : ∃ z, depthC (.mk kc ic lc sc tc ec xsc) = z := ⟨_, rfl⟩
   rw [hdc] at HDP ⊢
   clear hdc
   refine hK.out _ _ ⟨⟨xwd2.out, cwd2.out⟩, HGCwd2.out⟩ (fun _ => ?_)
   clear hK K
   try simp only [Act.put, List.setIfInBounds_toArray, List.set_cons_zero, List.set_cons_succ]
   have hge : ¬ dc ≤ dx := by have := HDP.out; omega
   have hge2 : (dx ≥ dc) = False := by have := HDP.out; simp; omega
   have hge3 : dx < dc := by have := HDP.out; omega
   refine wpAnyH_take (i := 11) (oi := ⟨some 50, _, _, _, _, _⟩) (v := .bool false) rfl (by kernel_rfl) (by kernel_rfl) (by kernel_rfl) (fun _ _ _ h => h) (Or.inl ⟨by rfl, fun w' hS => by go_simp⟩) ⟨⟨xwd2.out, cwd2.out⟩, HGCwd2.out⟩ ?_
   try simp only [Act.put, List.setIfInBounds_toArray, List.set_cons_zero, List.set_cons_succ]
   refine wpAnyH_take (i := 12) (oi := ⟨some 51, _, _, _, _, _⟩) (v := .bool false) rfl (by kernel_rfl) (by kernel_rfl) (by kernel_rfl) (fun _ _ _ h => h) (Or.inl ⟨by rfl, fun w' hS => by go_simp⟩) ⟨⟨xwd2.out, cwd2.out⟩, HGCwd2.out⟩ ?_
   try simp only [Act.put, List.setIfInBounds_toArray, List.set_cons_zero, List.set_cons_succ]
   refine wpAnyH_take (i := 13) (oi := ⟨some 52, _, _, _, _, _⟩) (v := .bool false) rfl (by kernel_rfl) (by kernel_rfl) (by kernel_rfl) (fun _ _ _ h => h) (Or.inl ⟨by rfl, fun w' hS => by go_simp⟩) ⟨⟨xwd2.out, cwd2.out⟩, HGCwd2.out⟩ ?_
   try simp only [Act.put, List.setIfInBounds_toArray, List.set_cons_zero, List.set_cons_succ]
   have hsz : ¬ (s.size : Int) ≤ (T.size : Int) := by have := HTS2.out; omega
   have hsz2 : (T.size : Int) < (s.size : Int) := by have := HTS2.out; omega
   refine wpAnyH_take (i := 14) (oi := ⟨some 53, _, _, _, _, _⟩) (v := .slice (some ⟨b, o, none⟩) L.length c5) rfl (by kernel_rfl) (by kernel_rfl) (by kernel_rfl) (fun _ _ _ h => h) (Or.inl ⟨by rfl, fun w' hS => by go_simp⟩) ⟨⟨xwd2.out, cwd2.out⟩, HGCwd2.out⟩ ?_
   try simp only [Act.put, List.setIfInBounds_toArray, List.set_cons_zero, List.set_cons_succ]
   refine wpAnyH_take (i := 15) (oi := ⟨some 54, _, _, _, _, _⟩) (v := .int .i64 k) rfl (by kernel_rfl) (by kernel_rfl) (by kernel_rfl) (fun _ _ _ h => h) (Or.inl ⟨by rfl, fun w' hS => by go_simp⟩) ⟨⟨xwd2.out, cwd2.out⟩, HGCwd2.out⟩ ?_
   try simp only [Act.put, List.setIfInBounds_toArray, List.set_cons_zero, List.set_cons_succ]
   refine wpAnyH_take (i := 16) (oi := ⟨some 55, _, _, _, _, _⟩) (v := .pointer (some ⟨b, o + k * 4, none⟩)) rfl (by kernel_rfl) (by kernel_rfl) (by kernel_rfl) (fun _ _ _ h => h) (Or.inl ⟨by rfl, fun w' hS => by go_simp⟩) ⟨⟨xwd2.out, cwd2.out⟩, HGCwd2.out⟩ ?_
   try simp only [Act.put, List.setIfInBounds_toArray, List.set_cons_zero, List.set_cons_succ]
   refine wpAnyH_take (i := 17) (oi := ⟨some 56, _, _, _, _, _⟩) (v := .pointer (some ⟨b, o + k * 4 + 2, none⟩)) rfl (by kernel_rfl) (by kernel_rfl) (by kernel_rfl) (fun _ _ _ h => h) (Or.inl ⟨by rfl, fun w' hS => by go_simp⟩) ⟨⟨xwd2.out, cwd2.out⟩, HGCwd2.out⟩ ?_
   try simp only [Act.put, List.setIfInBounds_toArray, List.set_cons_zero, List.set_cons_succ]
   refine wpAnyH_take (i := 18) (oi := ⟨some 57, _, _, _, _, _⟩) (v := .string T) rfl (by kernel_rfl) (by kernel_rfl) (by kernel_rfl) (fun _ _ _ h => h) (Or.inl ⟨by rfl, fun w' hS => by (have u0_ := hS.2; go_simp)⟩) ⟨⟨xwd2.out, cwd2.out⟩, HGCwd2.out⟩ ?_
   try simp only [Act.put, List.setIfInBounds_toArray, List.set_cons_zero, List.set_cons_succ]
   refine wpAnyH_take (i := 19) (oi := ⟨some 58, _, _, _, _, _⟩) (v := .int .i64 T.size) rfl (by kernel_rfl) (by kernel_rfl) (by kernel_rfl) (fun _ _ _ h => h) (Or.inl ⟨by rfl, fun w' hS => by go_simp⟩) ⟨⟨xwd2.out, cwd2.out⟩, HGCwd2.out⟩ ?_
   try simp only [Act.put, List.setIfInBounds_toArray, List.set_cons_zero, List.set_cons_succ]
   refine wpAnyH_take (i := 20) (oi := ⟨some 59, _, _, _, _, _⟩) (v := .string s) rfl (by kernel_rfl) (by kernel_rfl) (by kernel_rfl) (fun _ _ _ h => h) (Or.inl ⟨by rfl, fun w' hS => by go_simp⟩) ⟨⟨xwd2.out, cwd2.out⟩, HGCwd2.out⟩ ?_
   try simp only [Act.put, List.setIfInBounds_toArray, List.set_cons_zero, List.set_cons_succ]
   refine wpAnyH_take (i := 21) (oi := ⟨some 60, _, _, _, _, _⟩) (v := .int .i64 s.size) rfl (by kernel_rfl) (by kernel_rfl) (by kernel_rfl) (fun _ _ _ h => h) (Or.inl ⟨by rfl, fun w' hS => by go_simp⟩) ⟨⟨xwd2.out, cwd2.out⟩, HGCwd2.out⟩ ?_
   try simp only [Act.put, List.setIfInBounds_toArray, List.set_cons_zero, List.set_cons_succ]
   refine wpAnyH_take (i := 22) (oi := ⟨some 61, _, _, _, _, _⟩) (v := .bool false) rfl (by kernel_rfl) (by kernel_rfl) (by kernel_rfl) (fun _ _ _ h => h) (Or.inl ⟨by rfl, fun w' hS => by go_simp⟩) ⟨⟨xwd2.out, cwd2.out⟩, HGCwd2.out⟩ ?_
   try simp only [Act.put, List.setIfInBounds_toArray, List.set_cons_zero, List.set_cons_succ]
   refine wpAnyH_take (i := 23) (oi := ⟨some 62, _, _, _, _, _⟩) (v := .bool false) rfl (by kernel_rfl) (by kernel_rfl) (by kernel_rfl) (fun _ _ _ h => h) (Or.inl ⟨by rfl, fun w' hS => by go_simp⟩) ⟨⟨xwd2.out, cwd2.out⟩, HGCwd2.out⟩ ?_
   try simp only [Act.put, List.setIfInBounds_toArray, List.set_cons_zero, List.set_cons_succ]
   refine wpAnyH_done (by kernel_rfl) ?_ _
   go_wp2
   go_roundw
   case rel => exact ⟨k + 1, by omega, by go_num, HBRwd2⟩
   case measure => simp [intOf]; omega
  ·
   have i1 : ¬ (k : Int) < (L.length : Int) := by omega
   go_wp2_with fail
   refine (known31_any _ (H7.out.below HBwr.out)).mono ?_
   rintro e wk ⟨rfl, hk_⟩
   go_wp2
   go_ret
   exact ⟨rfl, HBwr.out.trans (hk_.mono HBwr.out.size)⟩
end Go.Proofs.YtehmidmoiamcfaaGreatDoor
namespace Go.Proofs.YtehmidmoiamcfaaGreatDoor
open Go.RowKit Go.Cold
namespace cPartitionLess
open Go.ChangeShapes Go.WideShapes Go.ChangeAt
open Go.ChangeMaps (open_string)
set_option maxRecDepth 100000
theorem reads (os : Os) {H : Type} (enc : TypeId × Value → H) : ∃ places, DataW.whole enc Tryz.prog ((World.laidAll Tryz.prog os Rows.partitionLessRow.laid).forCall (fun _ _ => 0) ⟨#[], #[.slice none 0 0], []⟩).memory Tryz.f6.params.toList Rows.partitionLessSpec.vars false (#[.slice none 0 0] : Array Value).toList 8 = some ([.nil], [], places) :=
 ⟨[], by kernel_rfl⟩
theorem lifted (os : Os) (started : os.Started) (H : Type) (enc : TypeId × Value → H) (F : Stop.Interp) :
  ReturnsInHanded {} Tryz.checked os 6 .any ((OpenSpec.ofChange Rows.partitionLessSpec).preRow enc Tryz.prog Tryz.f6 Rows.partitionLessRow.domain false Rows.partitionLessRow.laid) (((OpenSpec.ofChange Rows.partitionLessSpec).at F).post enc Tryz.prog Tryz.f6 false true false false) := by
 obtain ⟨places, hx⟩ := reads os enc
 refine law_lifted os started H enc F (by kernel_rfl) Tryz.func6 #[.slice none 0 0] (World.shaped_of_ZipB (by kernel_rfl) (by kernel_rfl)) (by kernel_rfl)
  (OpenSpec.preRow_of_cond 8 hx (by kernel_rfl) (fun k hk => by cases hk) (by kernel_rfl) (laidMet_laidAll _ (by kernel_rfl) (by kernel_rfl))) rfl rfl
  (fun ds hl => by
   rw [Tryz.params6] at hl
   match ds, hl with
   | [d0], _ => rfl) (by kernel_rfl) ?_
 intro W base args ds ps hval hA hlt hz hsh hlaid
 rw [Tryz.params6] at hA hval
 obtain ⟨v0, vs0, d0, ds0, p0, q0, hargs, rfl, rfl, h0, r0⟩ := trodAll_cons hA
 obtain ⟨rfl, rfl, rfl⟩ := trodAll_nil r0
 obtain rfl : args = #[v0] := by cases args; simp_all
 obtain ⟨A0, c0, xs0, rfl, s0⟩ := open_nums Tryz.underlying29 Tryz.underlying3 (by kernel_rfl) (hval 0 29 v0 rfl rfl) h0 (fun x hx => hlt x (List.mem_append_left _ hx))
 exact lawLess31_any A0 c0 xs0 W (show Ok W from Tryz.laysM146.s1_3 W hsh) (ok7_of_laid hlaid) s0
theorem said : Rows.PartitionLessSaid :=
 OpenClaim.holds_of_cond 6 Tryz.f6 rfl rfl rfl rfl rfl rfl rfl ⟨rfl, rfl, rfl, rfl, rfl⟩ rfl rfl rfl rfl rfl (by kernel_rfl) Tryz.func6 (by kernel_rfl)
  (of_decide_eq_true (by kernel_rfl)) (by unfold Func.isWrapper; first | (rw [if_pos (by decide +kernel)]; kernel_rfl) | (rw [if_neg (by decide +kernel)]; exact ⟨rfl, rfl⟩))
  (fun os started H enc _ F => by rw [OpenClaim.pre_eq_preRow]; exact lifted os started H enc F)
theorem plain (f : FuncId) (fn : Func) (hf : Tryz.pinned.checked.prog.funcNamed Rows.partitionLessRow.func = some f) (hfn : Tryz.pinned.checked.prog.funcs[f]? = some fn) :
  true = Tryz.pinned.checked.prog.looks [] ∧ ∀ (j : Nat) t, fn.params[j]? = some t → Tryz.pinned.checked.prog.wantsStandIn t = false := by
 obtain rfl : f = 6 := Option.some.inj ((show Tryz.prog.funcNamed Rows.partitionLessRow.func = some 6 by kernel_rfl).symm.trans hf) |>.symm
 obtain rfl : fn = Tryz.f6 := (Option.some.inj (Tryz.func6.symm.trans hfn)).symm
 refine ⟨by kernel_rfl, fun j t ht => ?_⟩
 rw [Tryz.params6] at ht
 have hm : t ∈ [29] := by simpa using Array.mem_of_getElem? ht
 have hall : ([29].all fun u => !Tryz.prog.wantsStandIn u) = true := by kernel_rfl
 exact (show Tryz.prog.wantsStandIn t = false by simpa using List.all_eq_true.1 hall t hm)
/-- The card. -/
theorem card : Rows.PartitionLessCardSaid :=
 Claim7.holds_tied_plain_at .later [] _ _ _ _ said (fun _ h => by cases h) (by kernel_rfl) (fun _ h => by cases h) partitionLess_row_tie rfl ⟨rfl, rfl⟩ (by kernel_rfl) rfl plain (by kernel_rfl)
end cPartitionLess
end Go.Proofs.YtehmidmoiamcfaaGreatDoor
