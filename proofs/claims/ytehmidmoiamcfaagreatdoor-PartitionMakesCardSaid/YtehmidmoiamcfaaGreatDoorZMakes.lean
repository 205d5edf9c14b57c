/-
  PartitionMakes: row and card.
 Conditions: those of the given row and card (the listed variables of the library hold what the text lays), nothing else.
-/
import Derived.Test.YtehmidmoiamcfaaGreatDoorETD
import Derived.Test.YtehmidmoiamcfaaGreatDoorETB
import Derived.Test.YtehmidmoiamcfaaGreatDoorEK
import Derived.Test.YtehmidmoiamcfaaGreatDoorEU
import Derived.Test.YtehmidmoiamcfaaGreatDoorEE
import Derived.Deep.DeepCutAuto
import Derived.Test.YtehmidmoiamcfaaGreatDoorESH
import Derived.ShutString
set_option linter.unusedSimpArgs false
set_option linter.unusedVariables false
namespace Go.Proofs.YtehmidmoiamcfaaGreatDoor
open Go.RowKit Go.Cold
set_option maxRecDepth 100000 in
set_option maxHeartbeats 8000000 in
theorem lawMakes31_any (A : Option Addr) (c : Nat) (xs : List Int) (w : World) (hok : Ok w) (h7 : Ok7 w) (hx : Sl w w.heap.size A c xs) :
  Calls Tryz.prog 10 #[.slice A xs.length c] w fun e w' => e = .returned (.bool true) ∧ Below w.heap.size w w' := by
 have H7 := Lib.hid h7; have HOK := Lib.hid hok; have HX := Lib.hid hx
 have hzt := (zero_of_info (P := Tryz.prog) (t := 57) info_tree2).1
 have hzv := (zero_of_info (P := Tryz.prog) (t := 43) info_dev2).1
 have HZV := Lib.hid hzv
 clear hok h7 hx hzv
 go_enter Tryz.func10, Tryz.ntmps10
 go_upto_region 2 with fail
 have htape := tape_new HX.out
 obtain ⟨w1, hw1_⟩ : ∃ z, w.alloc (.cells #[.slice A xs.length c, .int .i64 0] 32) = z := ⟨_, rfl⟩
 rw [hw1_] at htape
 have hb1 : Below w.heap.size w w1 := by rw [← hw1_]; exact (Below.refl _ _).alloc (Nat.le_refl _) _
 have HG1 := Lib.hid (show w1.heap.size = w.heap.size + 1 by rw [← hw1_]; simp)
 try rw [hw1_]
 have HT1 := Lib.hid htape; have HB1 := Lib.hid hb1
 clear hw1_ htape hb1
 go_wp2_with fail
 refine (text31_any ⟨#[116, 97, 98, 108, 101, 58, 116, 40, 41]⟩ xs 0 w.heap.size w.heap.size _ (by decide) HT1.out (by show (9 : Nat) ≤ _; unfold maxLen; omega)).mono ?_
 rintro e w3 ⟨s, k3, rfl, hts, -, -, hg_⟩
 have HSS := Lib.hid (show s.size ≤ 2040 by have h0 : (⟨#[116, 97, 98, 108, 101, 58, 116, 40, 41]⟩ : ByteArray).size = 9 := rfl; omega)
 have HB3 := Lib.hid (below_of_grown HB1.out hg_ HB1.out.size (Nat.le_refl _))
 clear hts hg_ HT1 hzt
 go_wp2_with fail
 refine (disk_any sdaB s _ (by show (3 : Nat) ≤ _; unfold maxLen; omega) (by have := HSS.out; unfold maxLen; omega)).mono ?_
 rintro e wa ⟨hb_, A4, c4, rfl, hsl⟩
 have HBwa := Lib.hid (HB3.out.trans (hb_.mono HB3.out.size))
 have HSL4 := Lib.hid (show Sl wa wa.heap.size A4 c4 (diskD sdaB s).attrs from hsl.sl (fun x hx => hx.2)); clear hb_ hsl
 have hdo : devOk (diskD sdaB s) := by
  have z3 : sdaB.size = 3 := rfl
  have z5 : (⟨#[98, 108, 111, 99, 107]⟩ : ByteArray).size = 5 := rfl
  have z0 : ByteArray.empty.size = 0 := rfl
  simp only [devOk, diskD, okI, maxLen]
  rw [z3, z5, z0]; omega
 have HDO := Lib.hid hdo; clear hdo
 go_wp2_with fail
 refine (Insert_any none 0 [] (diskD sdaB s) A4 c4 _ _ (Nat.le_refl _) Sl.nil_ HDO.out HSL4.out (by show (3 : Nat) ≤ 2147483648; omega) VT_nil (HOK.out.next HBwa.out)).mono ?_
 rintro e wu ⟨hb_, vu, rfl, ho_⟩
 obtain ⟨U, hU⟩ : ∃ z, insR [] (diskD sdaB s) = z := ⟨_, rfl⟩
 obtain ⟨z, hz⟩ : ∃ z, insE [] (diskD sdaB s) = z := ⟨_, rfl⟩
 rw [hU] at ho_
 rw [hz]
 obtain ⟨Au, cu, hvu, hsu_⟩ := ho_.cs
 subst hvu
 have HBwu := Lib.hid (HBwa.out.trans (hb_.mono HBwa.out.size))
 have HSU := Lib.hid (show SlS wu (fun x => x < wu.heap.size) Au cu U from hsu_.mono (fun x hx => hx.2) (fun _ _ _ _ hu => hu)); clear hb_ hsu_ ho_ HSL4
 go_upto_region 3 with fail
 have hgt : w.heap.size ≤ wu.heap.size := HBwu.out.size
 have HGT := Lib.hid hgt; clear hgt
 obtain ⟨w1, hw1⟩ : ∃ w1, wu.alloc (.cells #[.slice Au U.length cu] 57) = w1 := ⟨_, rfl⟩
 have hbw1 : Below wu.heap.size wu w1 := by rw [← hw1]; exact (Below.refl _ _).alloc (Nat.le_refl _) _
 have HGw1 := Lib.hid (show w1.heap.size = wu.heap.size + 1 by rw [← hw1]; simp)
 have HXtw1 := Lib.hid (show BoxL w1 wu.heap.size [.slice Au U.length cu] from box_mk hw1)
 try simp only [hw1]
 have HBw1 := Lib.hid (HBwu.out.trans (hbw1.mono HBwu.out.size))
 have HSTEPw1 := Lib.hid hbw1
 clear hw1 hbw1
 try rw [show wu.heap.size + 1 = w1.heap.size from HGw1.out.symm]
 have HFU := Lib.hid (show FreeS (fun x => x = wu.heap.size) w1 Au cu U from (SlS.below HSU.out (HSTEPw1.out) (fun x hx => hx)).free (fun x hx => ⟨by have := HGw1.out; omega, fun e => by omega⟩))
 have ct0 := HXtw1.out.1 0 _ rfl
 by_cases hck : checkD (diskD sdaB s) = 0
 case neg =>
  have hz1 : z = 41 := by rw [← hz]; unfold insE; rw [if_pos hck]
  subst hz1
  clear hU hck hz
  go_wp2_with fail
  refine (known31_any _ (H7.out.below HBw1.out)).mono ?_
  rintro e wk ⟨rfl, hb⟩
  go_wp2
  go_ret
  exact ⟨by try rfl, HBw1.out.trans (hb.mono HBw1.out.size)⟩
 obtain ⟨hs0, hst⟩ := disk_bad hck
 obtain ⟨hi0, hmk⟩ := MkL.first hst
 rw [mk_disk hs0] at hi0 hmk
 have hz1 : z = 0 := by rw [← hz]; exact hi0
 subst hz1
 have hU1 : insL [] (diskD sdaB s) = U := by rw [← hU]; unfold insR; rw [if_pos hi0]
 rw [hU1] at hmk
 have HMK := Lib.hid hmk; have HS0 := Lib.hid hs0; have HST := Lib.hid hst
 have hul : U.length = 1 := hmk.len
 clear hU1 hU hz hck hi0 hmk hs0 hst
 have e5 : ((U.length : Int) != 1) = false := by rw [hul]; rfl
 have e5' : ((U.length : Int) == 1) = true := by rw [hul]; rfl
 have i0 : (0 : Int) < (U.length : Int) := by omega
 have hu0 : 0 < U.length := by omega
 obtain ⟨b3, o3, hAu, hb3, A3, c3, hok3, hsl3, hcs3⟩ := (HFU.out.out).dev hu0
 subst hAu
 have hx0 : U[0]'hu0 = diskD sdaB s := by
  obtain ⟨j, t, hj, hx⟩ := (HMK.out.mem _).1 (List.getElem_mem hu0)
  have hj1 := (List.getElem?_eq_some_iff.1 hj).1
  have hj0 : j = 0 := by simp at hj1; omega
  subst hj0
  simp at hj
  rw [hx, ← hj, mk_disk HS0.out]
 rw [hx0] at hok3 hsl3 hcs3
 rw [show o3 + 0 * 10 = o3 by omega] at hcs3
 obtain ⟨y0, y1, y2, y3, y4, y5, y6, y7, y8, y9⟩ := hcs3
 simp only [diskD] at y0 y1 y2 y3 y4 y5 y6 y7 y8 y9
 have HSD := Lib.hid hsl3; clear hsl3 hok3 hx0 hb3 hu0 hul
 go_wp2_with fail
 refine (Wants_any A3 c3 (diskD sdaB s) slSda 1 _ w1.heap.size (Nat.le_refl _) HSD.out (H7.out.below HBw1.out) (by show (3 : Nat) ≤ _; unfold maxLen; omega) (by show (4 : Nat) ≤ _; unfold maxLen; omega) (by unfold okI; omega)).mono ?_
 rintro e wb ⟨hb_, v_, rfl, hown_⟩
 obtain ⟨V, hV⟩ : ∃ z, wantsD (diskD sdaB s) slSda 1 = z := ⟨_, rfl⟩
 rw [hV] at hown_
 have hgt2 : wu.heap.size < w1.heap.size := by have := HGw1.out; omega
 obtain ⟨A5, c5, hv5, hs_⟩ := hown_.free (N := fun x => x = wu.heap.size) (fun x hx => ⟨by subst hx; exact hgt2, fun h => h⟩)
 subst hv5
 clear y0 y1 y2 y3 y4 y5 y6 y7 y8 y9 e5 e5' i0
 clear ct0
 have HBwb := Lib.hid (HBw1.out.trans (hb_.mono HBw1.out.size))
 have twb := Lib.hid (HXtw1.out.kept (grown_none hb_) (fun e => by cases e))
 have HFUwb := Lib.hid ((HFU.out).below hb_)
 have HVV := Lib.hid hV; have HFV := Lib.hid hs_; clear hb_ hV hs_ hown_ hgt2
 have HVL := Lib.hid (makes_len HVV.out HST.out)
 have HMS := Lib.hid (show MkS w wu.heap.size (some ⟨b3, o3, none⟩) cu U A5 c5 V wb from ⟨HBwb.out, twb.out, HFUwb.out, HFV.out, HGT.out⟩)
 have HM0 := Lib.hid (show MkL (tsM s V 0) U from HMK.out)
 have hv1 := HFV.out.lens
 unfold maxLen at hv1
 obtain ⟨hv1, hv2⟩ := hv1
 go_wp2_with fail
 go_loopw [7] (fun kk wr => ∃ i : Nat, i ≤ V.length ∧ kk = .int .i64 i ∧ ∃ (A : Option Addr) (c : Nat) (L : List Dev), Hid (MkS w wu.heap.size A c L A5 c5 V wr) ∧ Hid (MkL (tsM s V i) L)) (fun kk _ => V.length - (intOf kk).toNat)
 case atStart => exact ⟨0, Nat.zero_le _, rfl, _, _, _, HMS, HM0⟩
 case round =>
  clear HMS HM0 HFV HFU HMK HSD
  obtain ⟨i, hi, rfl, A, c, L, HMS, HML⟩ := hrel
  by_cases hit : i < V.length
  ·
   have i1 : (i : Int) < (V.length : Int) := by omega
   have HIT := Lib.hid hit
   obtain ⟨O, hO⟩ : ∃ z, ptName sdaB ((i + 1 : Nat) : Int) = z := ⟨_, rfl⟩
   obtain ⟨t, ht⟩ : ∃ z, (V[i]'hit).cont = z := ⟨_, rfl⟩
   obtain ⟨m1, m2, m3, -, -⟩ := makes_at HVV.out HST.out hit
   obtain ⟨b5, o5, hA5, hb5, -, -, a1, a2, -⟩ := (HMS.out.2.2.2.1.out).virt hit
   subst hA5
   rw [m1, hO] at a1
   rw [ht] at a2 m2
   have HOKT := Lib.hid m2; have HI16 := Lib.hid m3; have HC1 := Lib.hid a1; have HC2 := Lib.hid a2; have HB5 := Lib.hid hb5; have HO := Lib.hid hO; have HTC := Lib.hid ht
   have HSZ := Lib.hid (show O.size ≤ 32 by rw [← hO]; have := (mkD_ok (t := t) m3).2; rw [(mkD_fields i t).2.2.2.1] at this; exact this)
   have HTZ := Lib.hid (show t.size ≤ 256 by unfold okT textB at m2; simp only [Bool.and_eq_true, decide_eq_true_eq] at m2; exact m2.2)
   clear m1 m2 m3 a1 a2 hb5 ht hO
   go_upto_region 11 with fail
   have HBr0 := Lib.hid (Below.refl wr.heap.size wr)
   go_cut [8] (fun s8 wx => ∃ (g8 : Nat) (A4 : Option Addr) (c4 : Nat), s8 = .pointer (some ⟨g8, 0, none⟩) ∧ Hid (wr.heap.size ≤ g8) ∧ Hid (MkD wr g8 A4 c4 1 0 1 O t wx))
   case first =>
    refine wp_region_held_drew (S := fun w' => w'.cell? ⟨b5, o5 + i * 4 + 1, none⟩ = some (.string O) ∧ w'.cell? ⟨b5, o5 + i * 4 + 2, none⟩ = some (.string t)) (by kernel_rfl) ⟨cell_next HC1.out (below_drewN_self _ _ 1), cell_next HC2.out (below_drewN_self _ _ 1)⟩ (fun hS0 => ?_)
    obtain ⟨wd, hwd⟩ : ∃ z, World.drew wr = z := ⟨_, rfl⟩
    rw [hwd] at hS0 ⊢
    have hb_ : Below wr.heap.size wr wd := by rw [← hwd]; exact below_drewN_self _ _ 1
    clear hwd hS0
    have HBwd := Lib.hid (HBr0.out.trans (hb_.mono HBr0.out.size))
    have HC1wd := Lib.hid (cell_next HC1.out hb_)
    have HC2wd := Lib.hid (cell_next HC2.out hb_)
    clear hb_
    refine wpAnyH_take (i := 0) (oi := ⟨some 43, _, _, _, _, _⟩) (v := .slice (some ⟨b5, o5, none⟩) V.length c5) rfl (by kernel_rfl) (by kernel_rfl) (by kernel_rfl) (fun _ _ _ h => h) (Or.inl ⟨by rfl, fun w' hS => by go_simp⟩) ⟨HC1wd.out, HC2wd.out⟩ ?_
    try simp only [Act.put, List.setIfInBounds_toArray, List.set_cons_zero, List.set_cons_succ]
    refine wpAnyH_take (i := 1) (oi := ⟨some 44, _, _, _, _, _⟩) (v := .int .i64 i) rfl (by kernel_rfl) (by kernel_rfl) (by kernel_rfl) (fun _ _ _ h => h) (Or.inl ⟨by rfl, fun w' hS => by go_simp⟩) ⟨HC1wd.out, HC2wd.out⟩ ?_
    try simp only [Act.put, List.setIfInBounds_toArray, List.set_cons_zero, List.set_cons_succ]
    refine wpAnyH_take (i := 2) (oi := ⟨some 45, _, _, _, _, _⟩) (v := .pointer (some ⟨b5, o5 + i * 4, none⟩)) rfl (by kernel_rfl) (by kernel_rfl) (by kernel_rfl) (fun _ _ _ h => h) (Or.inl ⟨by rfl, fun w' hS => by go_simp⟩) ⟨HC1wd.out, HC2wd.out⟩ ?_
    try simp only [Act.put, List.setIfInBounds_toArray, List.set_cons_zero, List.set_cons_succ]
    refine wpAnyH_take (i := 3) (oi := ⟨some 46, _, _, _, _, _⟩) (v := .pointer (some ⟨b5, o5 + i * 4 + 1, none⟩)) rfl (by kernel_rfl) (by kernel_rfl) (by kernel_rfl) (fun _ _ _ h => h) (Or.inl ⟨by rfl, fun w' hS => by go_simp⟩) ⟨HC1wd.out, HC2wd.out⟩ ?_
    try simp only [Act.put, List.setIfInBounds_toArray, List.set_cons_zero, List.set_cons_succ]
    refine wpAnyH_take (i := 4) (oi := ⟨some 47, _, _, _, _, _⟩) (v := .string O) rfl (by kernel_rfl) (by kernel_rfl) (by kernel_rfl) (fun _ _ _ h => h) (Or.inl ⟨by rfl, fun w' hS => by (have u0_ := hS.1; go_simp)⟩) ⟨HC1wd.out, HC2wd.out⟩ ?_
    try simp only [Act.put, List.setIfInBounds_toArray, List.set_cons_zero, List.set_cons_succ]
    refine wpAnyH_take (i := 5) (oi := ⟨some 48, _, _, _, _, _⟩) (v := .slice (some ⟨b5, o5, none⟩) V.length c5) rfl (by kernel_rfl) (by kernel_rfl) (by kernel_rfl) (fun _ _ _ h => h) (Or.inl ⟨by rfl, fun w' hS => by go_simp⟩) ⟨HC1wd.out, HC2wd.out⟩ ?_
    try simp only [Act.put, List.setIfInBounds_toArray, List.set_cons_zero, List.set_cons_succ]
    refine wpAnyH_take (i := 6) (oi := ⟨some 49, _, _, _, _, _⟩) (v := .int .i64 i) rfl (by kernel_rfl) (by kernel_rfl) (by kernel_rfl) (fun _ _ _ h => h) (Or.inl ⟨by rfl, fun w' hS => by go_simp⟩) ⟨HC1wd.out, HC2wd.out⟩ ?_
    try simp only [Act.put, List.setIfInBounds_toArray, List.set_cons_zero, List.set_cons_succ]
    refine wpAnyH_take (i := 7) (oi := ⟨some 50, _, _, _, _, _⟩) (v := .pointer (some ⟨b5, o5 + i * 4, none⟩)) rfl (by kernel_rfl) (by kernel_rfl) (by kernel_rfl) (fun _ _ _ h => h) (Or.inl ⟨by rfl, fun w' hS => by go_simp⟩) ⟨HC1wd.out, HC2wd.out⟩ ?_
    try simp only [Act.put, List.setIfInBounds_toArray, List.set_cons_zero, List.set_cons_succ]
    refine wpAnyH_take (i := 8) (oi := ⟨some 51, _, _, _, _, _⟩) (v := .pointer (some ⟨b5, o5 + i * 4 + 2, none⟩)) rfl (by kernel_rfl) (by kernel_rfl) (by kernel_rfl) (fun _ _ _ h => h) (Or.inl ⟨by rfl, fun w' hS => by go_simp⟩) ⟨HC1wd.out, HC2wd.out⟩ ?_
    try simp only [Act.put, List.setIfInBounds_toArray, List.set_cons_zero, List.set_cons_succ]
    refine wpAnyH_take (i := 9) (oi := ⟨some 52, _, _, _, _, _⟩) (v := .string t) rfl (by kernel_rfl) (by kernel_rfl) (by kernel_rfl) (fun _ _ _ h => h) (Or.inl ⟨by rfl, fun w' hS => by (have u0_ := hS.2; go_simp)⟩) ⟨HC1wd.out, HC2wd.out⟩ ?_
    try simp only [Act.put, List.setIfInBounds_toArray, List.set_cons_zero, List.set_cons_succ]
    refine wpAnyH_ready (rs := [10, 11]) (by kernel_rfl) (by simp) ?_
    refine AllReadyH.cons (o := ⟨some 53, .call ⟨_, _, _⟩, _, _, _, _⟩) rfl (fun K hK => ?_) (AllReadyH.cons (o := ⟨some 8, .alloc _, _, _, _, _⟩) rfl (fun K hK => ?_) (AllReadyH.nil))
    ·
     go_simp
     go_at_call 19
     refine (disk_any O t wd (by have := HSZ.out; unfold maxLen; omega) (by have := HTZ.out; unfold maxLen; omega)).mono ?_
     rintro e' q2 ⟨hb_, A4, c4, rfl, hat_⟩
     have HBq2 := Lib.hid (HBwd.out.trans (hb_.mono HBwd.out.size))
     have HC1q2 := Lib.hid (cell_next HC1wd.out hb_)
     have HC2q2 := Lib.hid (cell_next HC2wd.out hb_)
     clear hb_
     have HAT := Lib.hid hat_; clear hat_
     refine hK.out _ _ ⟨HC1q2.out, HC2q2.out⟩ (fun _ => ?_)
     clear hK K
     try simp only [Act.put, List.setIfInBounds_toArray, List.set_cons_zero, List.set_cons_succ]
     refine wpAnyH_ready (rs := [11]) (by kernel_rfl) (by simp) ?_
     refine AllReadyH.cons (o := ⟨some 8, .alloc _, _, _, _, _⟩) rfl (fun K hK => ?_) (AllReadyH.nil)
     have hzv := HZV.out
     have HGR := Lib.hid (show wr.heap.size ≤ q2.heap.size from HBq2.out.size)
     go_simp
     obtain ⟨q3, hq3⟩ : ∃ z, q2.alloc (.cells #[.int .i64 0, .int .i64 0, .string ByteArray.empty, .string ByteArray.empty, .string ByteArray.empty, .string ByteArray.empty, .string ByteArray.empty, .int .i64 0, .int .i64 0, .slice none 0 0] 43) = z := ⟨_, rfl⟩
     have hb_ : Below q2.heap.size q2 q3 := by rw [← hq3]; exact (Below.refl _ _).alloc (Nat.le_refl _) _
     have HXdq3 := Lib.hid (show BoxL q3 q2.heap.size [.int .i64 0, .int .i64 0, .string ByteArray.empty, .string ByteArray.empty, .string ByteArray.empty, .string ByteArray.empty, .string ByteArray.empty, .int .i64 0, .int .i64 0, .slice none 0 0] from box_mk hq3)
     try rw [hq3]
     clear hq3
     have HBq3 := Lib.hid (HBq2.out.trans (hb_.mono HBq2.out.size))
     have HC1q3 := Lib.hid (cell_next HC1q2.out hb_)
     have HC2q3 := Lib.hid (cell_next HC2q2.out hb_)
     have HATq3 := Lib.hid (SlS.below HAT.out hb_ (fun x hx => hx.2))
     clear hb_
     refine hK.out _ _ ⟨HC1q3.out, HC2q3.out⟩ (fun _ => ?_)
     clear hK K
     try simp only [Act.put, List.setIfInBounds_toArray, List.set_cons_zero, List.set_cons_succ]
     try clear hzv
     have HNE := Lib.hid (show ∀ x, (fun x => wd.heap.size ≤ x ∧ x < q2.heap.size) x → x ≠ q2.heap.size from fun x hx => by have := hx.2; omega)
     refine wpAnyH_ready (rs := [12]) (by kernel_rfl) (by simp) ?_
     refine AllReadyH.cons (o := ⟨none, .store _ _ _, _, _, _, _⟩) rfl (fun K hK => ?_) (AllReadyH.nil)
     have z0 := HXdq3.out.1 0 _ rfl; have z1 := HXdq3.out.1 1 _ rfl; have z2 := HXdq3.out.1 2 _ rfl; have z3 := HXdq3.out.1 3 _ rfl; have z4 := HXdq3.out.1 4 _ rfl; have z5 := HXdq3.out.1 5 _ rfl; have z6 := HXdq3.out.1 6 _ rfl; have z7 := HXdq3.out.1 7 _ rfl; have z8 := HXdq3.out.1 8 _ rfl; have z9 := HXdq3.out.1 9 _ rfl; have zf := HXdq3.out.2.1
     go_simp
     clear z0 z1 z2 z3 z4 z5 z6 z7 z8 z9 zf
     obtain ⟨q4, hq4⟩ : ∃ z, ((((((((((q3.setCell ⟨q2.heap.size, 0, none⟩ (.int .i64 1)).setCell ⟨q2.heap.size, 1, none⟩ (.int .i64 0)).setCell ⟨q2.heap.size, 2, none⟩ (.string O)).setCell ⟨q2.heap.size, 3, none⟩ (.string O)).setCell ⟨q2.heap.size, 4, none⟩ (.string ⟨#[98, 108, 111, 99, 107]⟩)).setCell ⟨q2.heap.size, 5, none⟩ (.string ByteArray.empty)).setCell ⟨q2.heap.size, 6, none⟩ (.string ByteArray.empty)).setCell ⟨q2.heap.size, 7, none⟩ (.int .i64 2)).setCell ⟨q2.heap.size, 8, none⟩ (.int .i64 1)).setCell ⟨q2.heap.size, 9, none⟩ (.slice A4 1 c4)) = z := ⟨_, rfl⟩
     have HXS := Lib.hid (show BoxL q4 q2.heap.size [.int .i64 1, .int .i64 0, .string O, .string O, .string ⟨#[98, 108, 111, 99, 107]⟩, .string ByteArray.empty, .string ByteArray.empty, .int .i64 2, .int .i64 1, .slice A4 1 c4] by rw [← hq4]; exact HXdq3.out.set10 _ _ _ _ _ _ _ _ _ _)
     have HBS := Lib.hid (show Below wr.heap.size wr q4 by rw [← hq4]; exact below10 HBq3.out HGR.out _ _ _ _ _ _ _ _ _ _)
     have HAS := Lib.hid (show SlS q4 (fun x => wd.heap.size ≤ x ∧ x < q2.heap.size) A4 c4 (diskD O t).attrs by rw [← hq4]; exact HATq3.out.set10 HNE.out _ _ _ _ _ _ _ _ _ _)
     have HC1S := Lib.hid (show q4.cell? ⟨b5, o5 + i * 4 + 1, none⟩ = some (.string O) from (HBS.out.cell (p := ⟨b5, o5 + i * 4 + 1, none⟩) HB5.out).trans HC1.out)
     have HC2S := Lib.hid (show q4.cell? ⟨b5, o5 + i * 4 + 2, none⟩ = some (.string t) from (HBS.out.cell (p := ⟨b5, o5 + i * 4 + 2, none⟩) HB5.out).trans HC2.out)
     have HLE := Lib.hid (show q2.heap.size ≤ q4.heap.size by rw [← hq4]; first | (simp; done) | (simp; have := HXdq3.out.2.2; omega))
     simp only [hq4]
     clear hq4
     refine hK.out _ _ ⟨HC1S.out, HC2S.out⟩ (fun _ => ?_)
     clear hK K
     try simp only [Act.put, List.setIfInBounds_toArray, List.set_cons_zero, List.set_cons_succ]
     refine wpAnyH_done (by kernel_rfl) ?_ _
     go_wp2_with fail
     go_meet
     exact ⟨q2.heap.size, A4, c4, rfl, HGR, Lib.hid ⟨HBS.out, HXS.out, HAS.out.free (fun x hx => ⟨by have := hx.2; have := HLE.out; omega, HNE.out x hx⟩)⟩⟩
    ·
     have hzv := HZV.out
     have HGR := Lib.hid (show wr.heap.size ≤ wd.heap.size from HBwd.out.size)
     go_simp
     obtain ⟨q5, hq5⟩ : ∃ z, wd.alloc (.cells #[.int .i64 0, .int .i64 0, .string ByteArray.empty, .string ByteArray.empty, .string ByteArray.empty, .string ByteArray.empty, .string ByteArray.empty, .int .i64 0, .int .i64 0, .slice none 0 0] 43) = z := ⟨_, rfl⟩
     have hb_ : Below wd.heap.size wd q5 := by rw [← hq5]; exact (Below.refl _ _).alloc (Nat.le_refl _) _
     have HXdq5 := Lib.hid (show BoxL q5 wd.heap.size [.int .i64 0, .int .i64 0, .string ByteArray.empty, .string ByteArray.empty, .string ByteArray.empty, .string ByteArray.empty, .string ByteArray.empty, .int .i64 0, .int .i64 0, .slice none 0 0] from box_mk hq5)
     try rw [hq5]
     clear hq5
     have HBq5 := Lib.hid (HBwd.out.trans (hb_.mono HBwd.out.size))
     have HC1q5 := Lib.hid (cell_next HC1wd.out hb_)
     have HC2q5 := Lib.hid (cell_next HC2wd.out hb_)
     clear hb_
     refine hK.out _ _ ⟨HC1q5.out, HC2q5.out⟩ (fun _ => ?_)
     clear hK K
     try simp only [Act.put, List.setIfInBounds_toArray, List.set_cons_zero, List.set_cons_succ]
     try clear hzv
     refine wpAnyH_ready (rs := [10]) (by kernel_rfl) (by simp) ?_
     refine AllReadyH.cons (o := ⟨some 53, .call ⟨_, _, _⟩, _, _, _, _⟩) rfl (fun K hK => ?_) (AllReadyH.nil)
     go_simp
     go_at_call 19
     refine (disk_any O t q5 (by have := HSZ.out; unfold maxLen; omega) (by have := HTZ.out; unfold maxLen; omega)).mono ?_
     rintro e' q6 ⟨hb_, A4, c4, rfl, hat_⟩
     have HNE := Lib.hid (show ∀ x, (q5.heap.size ≤ x ∧ x < q6.heap.size) → x ≠ wd.heap.size from fun x hx => by have := HXdq5.out.2.2; omega)
     have HBq6 := Lib.hid (HBq5.out.trans (hb_.mono HBq5.out.size))
     have dq6 := Lib.hid (HXdq5.out.kept (grown_none hb_) (fun e => by cases e))
     have HC1q6 := Lib.hid (cell_next HC1q5.out hb_)
     have HC2q6 := Lib.hid (cell_next HC2q5.out hb_)
     clear hb_
     have HAT := Lib.hid hat_; clear hat_
     refine hK.out _ _ ⟨HC1q6.out, HC2q6.out⟩ (fun _ => ?_)
     clear hK K
     try simp only [Act.put, List.setIfInBounds_toArray, List.set_cons_zero, List.set_cons_succ]
     refine wpAnyH_ready (rs := [12]) (by kernel_rfl) (by simp) ?_
     refine AllReadyH.cons (o := ⟨none, .store _ _ _, _, _, _, _⟩) rfl (fun K hK => ?_) (AllReadyH.nil)
     have z0 := dq6.out.1 0 _ rfl; have z1 := dq6.out.1 1 _ rfl; have z2 := dq6.out.1 2 _ rfl; have z3 := dq6.out.1 3 _ rfl; have z4 := dq6.out.1 4 _ rfl; have z5 := dq6.out.1 5 _ rfl; have z6 := dq6.out.1 6 _ rfl; have z7 := dq6.out.1 7 _ rfl; have z8 := dq6.out.1 8 _ rfl; have z9 := dq6.out.1 9 _ rfl; have zf := dq6.out.2.1
     go_simp
     clear z0 z1 z2 z3 z4 z5 z6 z7 z8 z9 zf
     obtain ⟨q7, hq7⟩ : ∃ z, ((((((((((q6.setCell ⟨wd.heap.size, 0, none⟩ (.int .i64 1)).setCell ⟨wd.heap.size, 1, none⟩ (.int .i64 0)).setCell ⟨wd.heap.size, 2, none⟩ (.string O)).setCell ⟨wd.heap.size, 3, none⟩ (.string O)).setCell ⟨wd.heap.size, 4, none⟩ (.string ⟨#[98, 108, 111, 99, 107]⟩)).setCell ⟨wd.heap.size, 5, none⟩ (.string ByteArray.empty)).setCell ⟨wd.heap.size, 6, none⟩ (.string ByteArray.empty)).setCell ⟨wd.heap.size, 7, none⟩ (.int .i64 2)).setCell ⟨wd.heap.size, 8, none⟩ (.int .i64 1)).setCell ⟨wd.heap.size, 9, none⟩ (.slice A4 1 c4)) = z := ⟨_, rfl⟩
     have HXS := Lib.hid (show BoxL q7 wd.heap.size [.int .i64 1, .int .i64 0, .string O, .string O, .string ⟨#[98, 108, 111, 99, 107]⟩, .string ByteArray.empty, .string ByteArray.empty, .int .i64 2, .int .i64 1, .slice A4 1 c4] by rw [← hq7]; exact dq6.out.set10 _ _ _ _ _ _ _ _ _ _)
     have HBS := Lib.hid (show Below wr.heap.size wr q7 by rw [← hq7]; exact below10 HBq6.out HGR.out _ _ _ _ _ _ _ _ _ _)
     have HAS := Lib.hid (show SlS q7 (fun x => q5.heap.size ≤ x ∧ x < q6.heap.size) A4 c4 (diskD O t).attrs by rw [← hq7]; exact HAT.out.set10 HNE.out _ _ _ _ _ _ _ _ _ _)
     have HC1S := Lib.hid (show q7.cell? ⟨b5, o5 + i * 4 + 1, none⟩ = some (.string O) from (HBS.out.cell (p := ⟨b5, o5 + i * 4 + 1, none⟩) HB5.out).trans HC1.out)
     have HC2S := Lib.hid (show q7.cell? ⟨b5, o5 + i * 4 + 2, none⟩ = some (.string t) from (HBS.out.cell (p := ⟨b5, o5 + i * 4 + 2, none⟩) HB5.out).trans HC2.out)
     have HLE := Lib.hid (show q6.heap.size ≤ q7.heap.size by rw [← hq7]; first | (simp; done) | (simp; have := dq6.out.2.2; omega))
     simp only [hq7]
     clear hq7
     refine hK.out _ _ ⟨HC1S.out, HC2S.out⟩ (fun _ => ?_)
     clear hK K
     try simp only [Act.put, List.setIfInBounds_toArray, List.set_cons_zero, List.set_cons_succ]
     refine wpAnyH_done (by kernel_rfl) ?_ _
     go_wp2_with fail
     go_meet
     exact ⟨wd.heap.size, A4, c4, rfl, HGR, Lib.hid ⟨HBS.out, HXS.out, HAS.out.free (fun x hx => ⟨by have := hx.2; have := HLE.out; omega, HNE.out x hx⟩)⟩⟩
   case rest =>
   obtain ⟨g8, A4, c4, rfl, HG8, HD⟩ := hcut
   have HXD := Lib.hid HD.out.2.1; have HBD := Lib.hid HD.out.1; have HAD := Lib.hid HD.out.2.2; clear HD
   have cd0 := HXD.out.1 0 _ rfl
   have cd1 := HXD.out.1 1 _ rfl
   have cd2 := HXD.out.1 2 _ rfl
   have cd3 := HXD.out.1 3 _ rfl
   have cd4 := HXD.out.1 4 _ rfl
   have cd5 := HXD.out.1 5 _ rfl
   have cd6 := HXD.out.1 6 _ rfl
   have cd7 := HXD.out.1 7 _ rfl
   have cd8 := HXD.out.1 8 _ rfl
   have cd9 := HXD.out.1 9 _ rfl
   have cfd := HXD.out.2.1
   have hwr2 : IntKind.i64.wrap (2 + (i : Int)) = 2 + (i : Int) := by rw [IntKind.wrap_i64]; have := HI16.out; omega
   have hwr3 : wrap64 (2 + (i : Int)) = 2 + (i : Int) := by unfold wrap64; have := HI16.out; omega
   go_upto_region 13 with fail
   clear cd0 cd1 cd2 cd3 cd4 cd5 cd6 cd7 cd8 cd9 cfd
   have hgs := grown_one wc g8 0 (.int .i64 (2 + (i : Int)))
   have hbx_ := HXD.out.set_ (j := 0) (by simp) (.int .i64 (2 + (i : Int)))
   obtain ⟨wd0, hwd0⟩ : ∃ z, wc.setCell ⟨g8, 0, none⟩ (.int .i64 (2 + (i : Int))) = z := ⟨_, rfl⟩
   rw [hwd0] at hgs hbx_ ⊢
   clear hwd0
   have HXwd0 := Lib.hid (show BoxL wd0 g8 [.int .i64 (2 + (i : Int)), .int .i64 0, .string O, .string O, .string ⟨#[98, 108, 111, 99, 107]⟩, .string ByteArray.empty, .string ByteArray.empty, .int .i64 2, .int .i64 1, .slice A4 1 c4] from hbx_)
   have HBwd0 := Lib.hid (HBD.out.grown hgs HBD.out.size (fun q hq => by have := Option.some.inj hq; have := HG8.out; omega))
   have HAwd0 := Lib.hid (HAD.out.grown hgs (.inl rfl))
   clear hgs hbx_
   have hgs := grown_one wd0 g8 1 (.int .i64 1)
   have hbx_ := HXwd0.out.set_ (j := 1) (by simp) (.int .i64 1)
   obtain ⟨wd1, hwd1⟩ : ∃ z, wd0.setCell ⟨g8, 1, none⟩ (.int .i64 1) = z := ⟨_, rfl⟩
   rw [hwd1] at hgs hbx_ ⊢
   clear hwd1
   have HXwd1 := Lib.hid (show BoxL wd1 g8 [.int .i64 (2 + (i : Int)), .int .i64 1, .string O, .string O, .string ⟨#[98, 108, 111, 99, 107]⟩, .string ByteArray.empty, .string ByteArray.empty, .int .i64 2, .int .i64 1, .slice A4 1 c4] from hbx_)
   have HBwd1 := Lib.hid (HBwd0.out.grown hgs HBwd0.out.size (fun q hq => by have := Option.some.inj hq; have := HG8.out; omega))
   have HAwd1 := Lib.hid (HAwd0.out.grown hgs (.inl rfl))
   clear hgs hbx_
   have hgs := grown_one wd1 g8 8 (.int .i64 (2 + (i : Int)))
   have hbx_ := HXwd1.out.set_ (j := 8) (by simp) (.int .i64 (2 + (i : Int)))
   obtain ⟨wd2, hwd2⟩ : ∃ z, wd1.setCell ⟨g8, 8, none⟩ (.int .i64 (2 + (i : Int))) = z := ⟨_, rfl⟩
   rw [hwd2] at hgs hbx_ ⊢
   clear hwd2
   have HXwd2 := Lib.hid (show BoxL wd2 g8 [.int .i64 (2 + (i : Int)), .int .i64 1, .string O, .string O, .string ⟨#[98, 108, 111, 99, 107]⟩, .string ByteArray.empty, .string ByteArray.empty, .int .i64 2, .int .i64 (2 + (i : Int)), .slice A4 1 c4] from hbx_)
   have HBwd2 := Lib.hid (HBwd1.out.grown hgs HBwd1.out.size (fun q hq => by have := Option.some.inj hq; have := HG8.out; omega))
   have HAwd2 := Lib.hid (HAwd1.out.grown hgs (.inl rfl))
   clear hgs hbx_
   clear hwr2 hwr3
   obtain ⟨D, hD⟩ : ∃ D, mkD (i + 1) t = D := ⟨_, rfl⟩
   obtain ⟨d0, d1, d2, d3, d4, d5, d6, d7, d8⟩ := mkD_fields i t
   have HDK := Lib.hid (mkD_ok (t := t) HI16.out)
   rw [HO.out] at d2 d3
   rw [hD] at d0 d1 d2 d3 d4 d5 d6 d7 d8 HDK
   have HSTEP := Lib.hid (MkL.step HML.out (by rw [tsM_len hi]; omega) (by rw [tsM_len hi]; have := HI16.out; omega) HOKT.out)
   rw [tsM_len hi, hD] at HSTEP
   have HTS := Lib.hid (show tsM s V (i + 1) = tsM s V i ++ [t] by rw [tsM_succ HIT.out, HTC.out])
   have HC2N := Lib.hid (show wd2.cell? ⟨b5, o5 + i * 4 + 2, none⟩ = some (.string t) from (HBwd2.out.cell (p := ⟨b5, o5 + i * 4 + 2, none⟩) HB5.out).trans HC2.out)
   by_cases ht0 : t.size = 0
   ·
    have hte : t = ⟨#[]⟩ := by apply ba_ext; rw [List.length_eq_zero_iff.1 (show t.data.toList.length = 0 by rw [ba_size]; exact ht0)]
    have p1 : (t.toList == (⟨#[]⟩ : ByteArray).toList) = true := by rw [ba_beq]; exact decide_eq_true hte
    have p2 : (t.toList == []) = true := by rw [hte]; decide +kernel
    have da : D.attrs = [] := by rw [← hD]; exact mkD_none ht0
    clear hte ht0
    have c2n := HC2N.out
    have cd9 := HXwd2.out.1 9 _ rfl
    have cfd := HXwd2.out.2.1
    go_upto_region 15 with fail
    clear c2n p1 p2
    clear cd9 cfd
    have hgs := grown_one wd2 g8 9 (.slice none 0 0)
    have hbx_ := HXwd2.out.set_ (j := 9) (by simp) (.slice none 0 0)
    obtain ⟨wd3, hwd3⟩ : ∃ z, wd2.setCell ⟨g8, 9, none⟩ (.slice none 0 0) = z := ⟨_, rfl⟩
    rw [hwd3] at hgs hbx_ ⊢
    clear hwd3
    have HXwd3 := Lib.hid (show BoxL wd3 g8 [.int .i64 (2 + (i : Int)), .int .i64 1, .string O, .string O, .string ⟨#[98, 108, 111, 99, 107]⟩, .string ByteArray.empty, .string ByteArray.empty, .int .i64 2, .int .i64 (2 + (i : Int)), .slice none 0 0] from hbx_)
    have HBwd3 := Lib.hid (HBwd2.out.grown hgs HBwd2.out.size (fun q hq => by have := Option.some.inj hq; have := HG8.out; omega))
    have HAwd3 := Lib.hid (HAwd2.out.grown hgs (.inl rfl))
    clear hgs hbx_
    have HXF := Lib.hid (show BoxL wd3 g8 [.int .i64 D.idx, .int .i64 D.par, .string D.nm, .string D.orig, .string D.sub, .string D.drv, .string D.ali, .int .i64 D.kind, .int .i64 D.num, .slice none D.attrs.length 0] by have h := HXwd3.out; simpa only [d0, d1, d2, d3, d4, d5, d6, d7, d8, da, List.length_nil, List.length_singleton] using h)
    have HMW := Lib.hid (HMS.out.below HBwd3.out)
    have HTW := Lib.hid HMW.out.2.1
    have HDA := Lib.hid da; clear d0 d1 d2 d3 d4 d5 d6 d7 d8 da hD
    have cd0 := HXF.out.1 0 _ rfl
    have cd1 := HXF.out.1 1 _ rfl
    have cd2 := HXF.out.1 2 _ rfl
    have cd3 := HXF.out.1 3 _ rfl
    have cd4 := HXF.out.1 4 _ rfl
    have cd5 := HXF.out.1 5 _ rfl
    have cd6 := HXF.out.1 6 _ rfl
    have cd7 := HXF.out.1 7 _ rfl
    have cd8 := HXF.out.1 8 _ rfl
    have cd9 := HXF.out.1 9 _ rfl
    have ct0 := HTW.out.1 0 _ rfl
    have cft := HTW.out.2.1
    have HBI := Lib.hid (show Below w.heap.size w wd3 from HMW.out.1)
    go_wp2_with fail
    refine (Insert_any A c L D none 0 _ _ (Nat.le_refl _) HMW.out.2.2.1.out HDK.out.1 (by have h := HDA.out; rw [h]; exact Sl.nil_) (by have := HDK.out.2; omega) HML.out.vt (HOK.out.next HBI.out)).mono ?_
    rintro e wi ⟨hb_, vi, rfl, ho_⟩
    obtain ⟨L2, hL2⟩ : ∃ z, insL L D = z := ⟨_, rfl⟩
    rw [show insR L D = L2 by unfold insR; rw [if_pos HSTEP.out.1, hL2]] at ho_
    rw [hL2] at HSTEP
    rw [HSTEP.out.1]
    have hgm : wu.heap.size < wd3.heap.size := HTW.out.2.2
    obtain ⟨Ai, ci, hvi, hsi⟩ := ho_.free (N := fun x => x = wu.heap.size) (fun x hx => ⟨by rw [hx]; exact hgm, fun h => by rw [hx] at h; omega⟩)
    subst hvi
    clear cd0 cd1 cd2 cd3 cd4 cd5 cd6 cd7 cd8 cd9 ct0 cft
    have HMI := Lib.hid (HMW.out.below hb_)
    have HFI := Lib.hid hsi
    clear hb_ hsi ho_ hgm hL2
    have HTI := Lib.hid HMI.out.2.1
    have ct0 := HTI.out.1 0 _ rfl
    have cft := HTI.out.2.1
    go_upto_region 16 with fail
    clear ct0 cft
    obtain ⟨wj, hwj⟩ : ∃ z, wi.setCell ⟨wu.heap.size, 0, none⟩ (.slice Ai L2.length ci) = z := ⟨_, rfl⟩
    have hbx_ := HTI.out.set_ (j := 0) (by simp) (.slice Ai L2.length ci)
    have hfi := HFI.out.set_ (q := wu.heap.size) rfl 0 (.slice Ai L2.length ci)
    have hfv := HMI.out.2.2.2.1.set_ (q := wu.heap.size) rfl 0 (.slice Ai L2.length ci)
    have hbj := below_new (j := 0) HMI.out.1 HGT.out (.slice Ai L2.length ci)
    rw [hwj] at hbx_ hfi hfv hbj ⊢
    clear hwj
    have HMJ := Lib.hid (show MkS w wu.heap.size Ai ci L2 (some ⟨b5, o5, none⟩) c5 V wj from ⟨hbj, hbx_, hfi, hfv, HGT.out⟩)
    have HMLJ := Lib.hid (show MkL (tsM s V (i + 1)) L2 by rw [HTS.out]; exact HSTEP.out.2)
    clear hbx_ hfi hfv hbj
    go_wp2
    go_roundw
    case rel => exact ⟨i + 1, by have := HIT.out; omega, by go_num, _, _, _, HMJ, HMLJ⟩
    case measure => have := HIT.out; simp [intOf]; omega
   ·
    have p1 : (t.toList == (⟨#[]⟩ : ByteArray).toList) = false := by rw [ba_beq]; exact decide_eq_false (fun h => ht0 (by rw [h]; rfl))
    have p2 : (t.toList == []) = false := by rw [show ([] : List UInt8) = (⟨#[]⟩ : ByteArray).toList by decide +kernel]; exact p1
    have da : D.attrs = [⟨⟨#[99, 111, 110, 116, 101, 110, 116]⟩, t⟩] := by rw [← hD]; exact mkD_some ht0
    clear ht0
    have c2n := HC2N.out
    go_upto_region 15 with fail
    clear c2n p1 p2
    have HXF := Lib.hid (show BoxL wd2 g8 [.int .i64 D.idx, .int .i64 D.par, .string D.nm, .string D.orig, .string D.sub, .string D.drv, .string D.ali, .int .i64 D.kind, .int .i64 D.num, .slice A4 D.attrs.length c4] by have h := HXwd2.out; simpa only [d0, d1, d2, d3, d4, d5, d6, d7, d8, da, List.length_nil, List.length_singleton] using h)
    have HMW := Lib.hid (HMS.out.below HBwd2.out)
    have HTW := Lib.hid HMW.out.2.1
    have HDA := Lib.hid da; clear d0 d1 d2 d3 d4 d5 d6 d7 d8 da hD
    have cd0 := HXF.out.1 0 _ rfl
    have cd1 := HXF.out.1 1 _ rfl
    have cd2 := HXF.out.1 2 _ rfl
    have cd3 := HXF.out.1 3 _ rfl
    have cd4 := HXF.out.1 4 _ rfl
    have cd5 := HXF.out.1 5 _ rfl
    have cd6 := HXF.out.1 6 _ rfl
    have cd7 := HXF.out.1 7 _ rfl
    have cd8 := HXF.out.1 8 _ rfl
    have cd9 := HXF.out.1 9 _ rfl
    have ct0 := HTW.out.1 0 _ rfl
    have cft := HTW.out.2.1
    have HBI := Lib.hid (show Below w.heap.size w wd2 from HMW.out.1)
    go_wp2_with fail
    refine (Insert_any A c L D A4 c4 _ _ (Nat.le_refl _) HMW.out.2.2.1.out HDK.out.1 (by rw [HDA.out]; exact (HAwd2.out.out)) (by have := HDK.out.2; omega) HML.out.vt (HOK.out.next HBI.out)).mono ?_
    rintro e wi ⟨hb_, vi, rfl, ho_⟩
    obtain ⟨L2, hL2⟩ : ∃ z, insL L D = z := ⟨_, rfl⟩
    rw [show insR L D = L2 by unfold insR; rw [if_pos HSTEP.out.1, hL2]] at ho_
    rw [hL2] at HSTEP
    rw [HSTEP.out.1]
    have hgm : wu.heap.size < wd2.heap.size := HTW.out.2.2
    obtain ⟨Ai, ci, hvi, hsi⟩ := ho_.free (N := fun x => x = wu.heap.size) (fun x hx => ⟨by rw [hx]; exact hgm, fun h => by rw [hx] at h; omega⟩)
    subst hvi
    clear cd0 cd1 cd2 cd3 cd4 cd5 cd6 cd7 cd8 cd9 ct0 cft
    have HMI := Lib.hid (HMW.out.below hb_)
    have HFI := Lib.hid hsi
    clear hb_ hsi ho_ hgm hL2
    have HTI := Lib.hid HMI.out.2.1
    have ct0 := HTI.out.1 0 _ rfl
    have cft := HTI.out.2.1
    go_upto_region 16 with fail
    clear ct0 cft
    obtain ⟨wj, hwj⟩ : ∃ z, wi.setCell ⟨wu.heap.size, 0, none⟩ (.slice Ai L2.length ci) = z := ⟨_, rfl⟩
    have hbx_ := HTI.out.set_ (j := 0) (by simp) (.slice Ai L2.length ci)
    have hfi := HFI.out.set_ (q := wu.heap.size) rfl 0 (.slice Ai L2.length ci)
    have hfv := HMI.out.2.2.2.1.set_ (q := wu.heap.size) rfl 0 (.slice Ai L2.length ci)
    have hbj := below_new (j := 0) HMI.out.1 HGT.out (.slice Ai L2.length ci)
    rw [hwj] at hbx_ hfi hfv hbj ⊢
    clear hwj
    have HMJ := Lib.hid (show MkS w wu.heap.size Ai ci L2 (some ⟨b5, o5, none⟩) c5 V wj from ⟨hbj, hbx_, hfi, hfv, HGT.out⟩)
    have HMLJ := Lib.hid (show MkL (tsM s V (i + 1)) L2 by rw [HTS.out]; exact HSTEP.out.2)
    clear hbx_ hfi hfv hbj
    go_wp2
    go_roundw
    case rel => exact ⟨i + 1, by have := HIT.out; omega, by go_num, _, _, _, HMJ, HMLJ⟩
    case measure => have := HIT.out; simp [intOf]; omega
  ·
   have i1 : ¬ (i : Int) < (V.length : Int) := by omega
   obtain rfl : i = V.length := by omega
   have hlz := HMS.out.2.2.1.lens
   unfold maxLen at hlz
   obtain ⟨hl1, hl2⟩ := hlz
   have hvz := HMS.out.2.2.2.1.lens
   unfold maxLen at hvz
   obtain ⟨hvl1, hvl2⟩ := hvz
   go_wp2_with fail
   go_loopw [9] (fun kk wx => ∃ i : Nat, i ≤ V.length ∧ kk = .int .i64 i ∧ Hid (MkS w wu.heap.size A c L A5 c5 V wx)) (fun kk _ => V.length - (intOf kk).toNat)
   case atStart => exact ⟨0, Nat.zero_le _, rfl, HMS⟩
   case round =>
    clear HMS
    obtain ⟨i, hi2, rfl, HMS⟩ := hrel
    have HTR := Lib.hid HMS.out.2.1; have HBR := Lib.hid HMS.out.1; have HSR := Lib.hid (HMS.out.2.2.1.out)
    by_cases hit : i < V.length
    ·
     have i2 : (i : Int) < (V.length : Int) := by omega
     have HIT := Lib.hid hit
     obtain ⟨m1, m2, m3, m4, m5⟩ := makes_at HVV.out HST.out hit
     have hlen := tsM_len (s := s) (V := V) (Nat.le_refl V.length)
     have HRT := Lib.hid (show rightB L (2 + (i : Int)) = true by have := HML.out.right (by rw [hlen]; omega) HS0.out (show (tsM s V V.length)[0]? = some s from rfl) (tsM_at hit (Nat.le_refl _)) (by omega) m5; rw [show 1 + ((i + 1 : Nat) : Int) = 2 + (i : Int) by omega] at this; exact this)
     have HI16 := Lib.hid m3
     have HSI := Lib.hid (show 0 < i → sisB L 2 (2 + (i : Int)) = true from fun h => by have := HML.out.sis (by rw [hlen]; omega) (show 2 ≤ i + 1 by omega) (by rw [hlen]; omega); rw [show 1 + ((i + 1 : Nat) : Int) = 2 + (i : Int) by omega] at this; exact this)
     clear m1 m2 m3 m4 m5 hlen hit
     have hwr2 : IntKind.i64.wrap (2 + (i : Int)) = 2 + (i : Int) := by rw [IntKind.wrap_i64]; have := HI16.out; omega
     have hwr3 : wrap64 (2 + (i : Int)) = 2 + (i : Int) := by unfold wrap64; have := HI16.out; omega
     have ct0 := HTR.out.1 0 _ rfl
     go_wp2_with fail
     refine (PRight_any A c L (2 + (i : Int)) _ _ (Nat.le_refl _) HSR.out HML.out.vt (H7.out.below HBR.out)).mono ?_
     rintro e w8 ⟨rfl, hbw8⟩
     clear ct0
     have HBw8 := Lib.hid (HBR.out.trans (hbw8.mono HBR.out.size))
     have tw8 := Lib.hid (HTR.out.kept (grown_none hbw8) (fun e => by cases e))
     have HMSw8 := Lib.hid ((HMS.out).below hbw8)
     have HSRw8 := Lib.hid ((HSR.out).next (Nat.le_refl _) hbw8)
     clear hbw8
     have ct0 := tw8.out.1 0 _ rfl
     rw [HRT.out]
     by_cases h0 : 0 < i
     ·
      have i4 : (0 : Int) < (i : Int) := by omega
      have i5 : (i : Int) > 0 := by omega
      go_wp2_with fail
      refine (Sisters_any A c L 2 (2 + (i : Int)) _ _ (Nat.le_refl _) HSRw8.out HML.out.vt (ok7_a (H7.out.below HBw8.out))).mono ?_
      rintro e w9 ⟨rfl, hbw9⟩
      clear ct0
      have HBw9 := Lib.hid (HBw8.out.trans (hbw9.mono HBw8.out.size))
      have tw9 := Lib.hid (tw8.out.kept (grown_none hbw9) (fun e => by cases e))
      have HMSw9 := Lib.hid ((HMSw8.out).below hbw9)
      have HSRw9 := Lib.hid ((HSRw8.out).next (Nat.le_refl _) hbw9)
      clear hbw9
      have ct0 := tw9.out.1 0 _ rfl
      rw [HSI.out h0]
      clear hwr2 hwr3
      go_wp2
      go_roundw
      case rel => exact ⟨i + 1, by have := HIT.out; omega, by go_num, HMSw9⟩
      case measure => have := HIT.out; simp [intOf]; omega
     ·
      have i4 : ¬ (0 : Int) < (i : Int) := by omega
      have i5 : ¬ (i : Int) > 0 := by omega
      clear hwr2 hwr3
      go_wp2
      go_roundw
      case rel => exact ⟨i + 1, by have := HIT.out; omega, by go_num, HMSw8⟩
      case measure => have := HIT.out; simp [intOf]; omega
    ·
     have i2 : ¬ (i : Int) < (V.length : Int) := by omega
     have ct0 := HTR.out.1 0 _ rfl
     go_wp2_with fail
     refine (PRight_any A c L 1 _ _ (Nat.le_refl _) HSR.out HML.out.vt (H7.out.below HBR.out)).mono ?_
     rintro e w10 ⟨rfl, hbw10⟩
     clear ct0
     have HBw10 := Lib.hid (HBR.out.trans (hbw10.mono HBR.out.size))
     have tw10 := Lib.hid (HTR.out.kept (grown_none hbw10) (fun e => by cases e))
     have HMSw10 := Lib.hid ((HMS.out).below hbw10)
     have HSRw10 := Lib.hid ((HSR.out).next (Nat.le_refl _) hbw10)
     clear hbw10
     have ct0 := tw10.out.1 0 _ rfl
     rw [HML.out.disk (by rw [tsM_len (Nat.le_refl _)]; omega)]
     go_wp2_with fail
     refine (known31_any _ (H7.out.below HBw10.out)).mono ?_
     rintro e wk ⟨rfl, hb⟩
     go_wp2
     go_ret
     exact ⟨by try rfl, HBw10.out.trans (hb.mono HBw10.out.size)⟩
end Go.Proofs.YtehmidmoiamcfaaGreatDoor
namespace Go.Proofs.YtehmidmoiamcfaaGreatDoor
open Go.RowKit Go.Cold
namespace cPartitionMakes
open Go.ChangeShapes Go.WideShapes Go.ChangeAt
open Go.ChangeMaps (open_string)
set_option maxRecDepth 100000
theorem reads (os : Os) {H : Type} (enc : TypeId × Value → H) : ∃ places, DataW.whole enc Tryz.prog ((World.laidAll Tryz.prog os Rows.partitionMakesRow.laid).forCall (fun _ _ => 0) ⟨#[], #[.slice none 0 0], []⟩).memory Tryz.f10.params.toList Rows.partitionMakesSpec.vars false (#[.slice none 0 0] : Array Value).toList 8 = some ([.nil], [], places) :=
 ⟨[], by kernel_rfl⟩
theorem lifted (os : Os) (started : os.Started) (H : Type) (enc : TypeId × Value → H) (F : Stop.Interp) :
  ReturnsInHanded {} Tryz.checked os 10 .any ((OpenSpec.ofChange Rows.partitionMakesSpec).preRow enc Tryz.prog Tryz.f10 Rows.partitionMakesRow.domain false Rows.partitionMakesRow.laid) (((OpenSpec.ofChange Rows.partitionMakesSpec).at F).post enc Tryz.prog Tryz.f10 false true false false) := by
 obtain ⟨places, hx⟩ := reads os enc
 refine law_lifted os started H enc F (by kernel_rfl) Tryz.func10 #[.slice none 0 0] (World.shaped_of_ZipB (by kernel_rfl) (by kernel_rfl)) (by kernel_rfl)
  (OpenSpec.preRow_of_cond 8 hx (by kernel_rfl) (fun k hk => by cases hk) (by kernel_rfl) (laidMet_laidAll _ (by kernel_rfl) (by kernel_rfl))) rfl rfl
  (fun ds hl => by
   rw [Tryz.params10] at hl
   match ds, hl with
   | [d0], _ => rfl) (by kernel_rfl) ?_
 intro W base args ds ps hval hA hlt hz hsh hlaid
 rw [Tryz.params10] at hA hval
 obtain ⟨v0, vs0, d0, ds0, p0, q0, hargs, rfl, rfl, h0, r0⟩ := trodAll_cons hA
 obtain ⟨rfl, rfl, rfl⟩ := trodAll_nil r0
 obtain rfl : args = #[v0] := by cases args; simp_all
 obtain ⟨A0, c0, xs0, rfl, s0⟩ := open_nums Tryz.underlying29 Tryz.underlying3 (by kernel_rfl) (hval 0 29 v0 rfl rfl) h0 (fun x hx => hlt x (List.mem_append_left _ hx))
 exact lawMakes31_any A0 c0 xs0 W (show Ok W from Tryz.laysM146.s1_3 W hsh) (ok7_of_laid hlaid) s0
theorem said : Rows.PartitionMakesSaid :=
 OpenClaim.holds_of_cond 10 Tryz.f10 rfl rfl rfl rfl rfl rfl rfl ⟨rfl, rfl, rfl, rfl, rfl⟩ rfl rfl rfl rfl rfl (by kernel_rfl) Tryz.func10 (by kernel_rfl)
  (of_decide_eq_true (by kernel_rfl)) (by unfold Func.isWrapper; first | (rw [if_pos (by decide +kernel)]; kernel_rfl) | (rw [if_neg (by decide +kernel)]; exact ⟨rfl, rfl⟩))
  (fun os started H enc _ F => by rw [OpenClaim.pre_eq_preRow]; exact lifted os started H enc F)
theorem plain (f : FuncId) (fn : Func) (hf : Tryz.pinned.checked.prog.funcNamed Rows.partitionMakesRow.func = some f) (hfn : Tryz.pinned.checked.prog.funcs[f]? = some fn) :
  true = Tryz.pinned.checked.prog.looks [] ∧ ∀ (j : Nat) t, fn.params[j]? = some t → Tryz.pinned.checked.prog.wantsStandIn t = false := by
 obtain rfl : f = 10 := Option.some.inj ((show Tryz.prog.funcNamed Rows.partitionMakesRow.func = some 10 by kernel_rfl).symm.trans hf) |>.symm
 obtain rfl : fn = Tryz.f10 := (Option.some.inj (Tryz.func10.symm.trans hfn)).symm
 refine ⟨by kernel_rfl, fun j t ht => ?_⟩
 rw [Tryz.params10] at ht
 have hm : t ∈ [29] := by simpa using Array.mem_of_getElem? ht
 have hall : ([29].all fun u => !Tryz.prog.wantsStandIn u) = true := by kernel_rfl
 exact (show Tryz.prog.wantsStandIn t = false by simpa using List.all_eq_true.1 hall t hm)
/-- The card. -/
theorem card : Rows.PartitionMakesCardSaid :=
 Claim7.holds_tied_plain_at .later [] _ _ _ _ said (fun _ h => by cases h) (by kernel_rfl) (fun _ h => by cases h) partitionMakes_row_tie rfl ⟨rfl, rfl⟩ (by kernel_rfl) rfl plain (by kernel_rfl)
end cPartitionMakes
end Go.Proofs.YtehmidmoiamcfaaGreatDoor
