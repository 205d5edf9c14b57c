/-
  RelateProgress: row and card.
 Conditions: those of the given row and card (the listed variables of the library hold what the text lays), nothing else.
-/
import Derived.Test.YtomcebcaendilaaGreatDoorHRH
import Derived.Test.YtomcebcaendilaaGreatDoorHRG
import Derived.Test.YtomcebcaendilaaGreatDoorHL
import Derived.Test.YtomcebcaendilaaGreatDoorHM
import Derived.ShutString
set_option linter.unusedSimpArgs false
set_option linter.unusedVariables false
namespace Go.Proofs.YtomcebcaendilaaGreatDoor
open Go.RowKit Go.Cold
set_option maxRecDepth 100000 in
set_option maxHeartbeats 8000000 in
theorem lawProgress_any (A : Option Addr) (c : Nat) (xs : List Int) (A2 : Option Addr) (c2 : Nat) (ds : List Int) (w : World) (hok : Ok w) (hoa : OkA w) (hx : Sl w w.heap.size A c xs) (hds : Sl w w.heap.size A2 c2 ds) :
  Calls Tryz.prog 8 #[.slice A xs.length c, .slice A2 ds.length c2] w fun e w' => e = .returned (.bool true) ∧ Below w.heap.size w w' := by
 have HOK := Lib.hid hok; have HOA := Lib.hid hoa; have HX := Lib.hid hx
 have hds1 := hds.1; have hds2 := hds.2.1
 unfold maxLen at hds2
 have HDS := Lib.hid hds
 clear hok hoa hx hds
 go_enter Tryz.func8, Tryz.ntmps8
 by_cases hrds : 100 < ds.length
 ·
  have i0ds : (100 : Int) < (ds.length : Int) := by omega
  go_wp2_with fail
  refine (known_any _ HOK.out HOA.out).mono ?_
  rintro e w' ⟨rfl, hb⟩
  go_wp2
  go_ret
  exact ⟨by try rfl, hb⟩
 have i0ds : ¬ (100 : Int) < (ds.length : Int) := by omega
 have HLDS := Lib.hid (show ds.length ≤ 100 by omega)
 go_upto_region 4 with fail
 have htape := tape_new HX.out
 have HNG := Lib.hid (notG_of HOK.out)
 obtain ⟨w1, hw1⟩ : ∃ z, w.alloc (.cells #[.slice A xs.length c, .int .i64 0] 31) = z := ⟨_, rfl⟩
 rw [hw1] at htape
 have hb1 : Below w.heap.size w w1 := by rw [← hw1]; exact (Below.refl _ _).alloc (Nat.le_refl _) _
 have HGw1 := Lib.hid (show w1.heap.size = w.heap.size + 1 by rw [← hw1]; simp)
 try simp only [hw1]
 have HTAPE := Lib.hid htape
 clear hw1 htape
 have HSw1 := Lib.hid (show w.heap.size ≤ w1.heap.size from hb1.size)
 have HBw1 := Lib.hid hb1
 clear hb1
 go_wp2_with fail
 refine (TreeM_any xs 0 w.heap.size w.heap.size 12 w1 (by decide) HTAPE.out ⟨by decide, by decide⟩ (HOK.out.next HBw1.out) HNG.out).mono ?_
 rintro e w2 ⟨AT, cT, L, k1, rfl, ⟨hvt, hmd⟩, hln, hsl, hk1, htp, hg2⟩
 have hb2 : Below w.heap.size w w2 := below_of_grown HBw1.out hg2 HBw1.out.size (Nat.le_refl _)
 have HSB2 := Lib.hid (show w1.heap.size ≤ w2.heap.size from hg2.size)
 have hx1 := hsl.1; have hx2 := hsl.2.1
 unfold maxLen at hx2
 have HVT := Lib.hid hvt; have HMD := Lib.hid hmd; have HLN := Lib.hid (show L.length ≤ 12 by omega); have HSL := Lib.hid (hsl.sl (B := w2.heap.size) (fun x hx => hx.2))
 have HBw2 := Lib.hid hb2
 clear HTAPE hvt hmd hln hsl hk1 htp hg2 hb2
 go_upto_region 4 with fail
 obtain ⟨w3, hw3⟩ : ∃ w3, w2.alloc (.cells #[.slice AT L.length cT] 27) = w3 := ⟨_, rfl⟩
 have hbw3 : Below w2.heap.size w2 w3 := by rw [← hw3]; exact (Below.refl _ _).alloc (Nat.le_refl _) _
 have HGw3 := Lib.hid (show w3.heap.size = w2.heap.size + 1 by rw [← hw3]; simp)
 have HXtw3 := Lib.hid (show BoxL w3 w2.heap.size [.slice AT L.length cT] from box_mk hw3)
 try simp only [hw3]
 have HSTEPw3 := Lib.hid hbw3
 have HSw3 := Lib.hid (show w2.heap.size ≤ w3.heap.size from hbw3.size)
 have HBw3 := Lib.hid (HBw2.out.trans (hbw3.mono HBw2.out.size))
 have HSLw3 := Lib.hid ((HSL.out).next (Nat.le_refl _) hbw3)
 clear hw3 hbw3
 try rw [show w2.heap.size + 1 = w3.heap.size from HGw3.out.symm]
 have HLA := Lib.hid (show ∀ d ∈ L, d.attrs.length ≤ 1000000 from fun d hd => attrs_le (HVT.out.chk d hd))
 have ct0 := HXtw3.out.1 0 _ rfl
 obtain ⟨bt, hbt⟩ : ∃ z, batR L ds [] (ordR L ds) [] = z := ⟨_, rfl⟩
 obtain ⟨od, hod⟩ : ∃ z, ordR L ds = z := ⟨_, rfl⟩
 have hiff : bt = [] ↔ od = [] := by rw [← hbt, ← hod]; exact bat_progress HVT.out.wf ds
 have hcase : (¬ (0 : Int) < (bt.length : Int) ∧ ¬ (0 : Int) < (od.length : Int)) ∨ ((0 : Int) < (bt.length : Int) ∧ (0 : Int) < (od.length : Int)) := by
  rcases bt with _ | ⟨b, r⟩
  · rw [hiff.1 rfl]; exact .inl ⟨by simp, by simp⟩
  ·
   rcases od with _ | ⟨o, s⟩
   · exact absurd (hiff.2 rfl) (by simp)
   · exact .inr ⟨by simp, by simp⟩
 have HBT := Lib.hid hbt; have HOD := Lib.hid hod; clear hbt hod hiff
 rcases hcase with ⟨p1, p2⟩ | ⟨p1, p2⟩
 ·
  clear ct0
  refine wp_region_held_drew (S := fun w' => BoxL w' w2.heap.size [.slice AT L.length cT]) (by kernel_rfl) HXtw3.out.drew (fun hS0 => ?_)
  obtain ⟨wd, hwd⟩ : ∃ z, World.drew w3 = z := ⟨_, rfl⟩
  rw [hwd] at hS0 ⊢
  have hb_ : Below w3.heap.size w3 wd := by rw [← hwd]; exact below_drewN_self _ _ 1
  clear hwd
  have HSAwd := Lib.hid hS0; clear hS0
  have HSwd := Lib.hid (show w3.heap.size ≤ wd.heap.size from hb_.size)
  have HBwd := Lib.hid (HBw3.out.trans (hb_.mono HBw3.out.size))
  have twd := Lib.hid (HXtw3.out.kept (grown_none hb_) (fun e => by cases e))
  have HSLwd := Lib.hid ((HSLw3.out).next (Nat.le_refl _) hb_)
  clear hb_
  refine wpAnyH_take (i := 0) (oi := ⟨some 14, _, _, _, _, _⟩) (v := .agg #[.slice AT L.length cT]) rfl (by kernel_rfl) (by kernel_rfl) (by kernel_rfl) (fun _ _ _ h => h) (Or.inl ⟨by rfl, fun w' hS => by (have u0_ := hS.1 0 _ rfl; go_simp)⟩) HSAwd.out ?_
  try simp only [Act.put, List.setIfInBounds_toArray, List.set_cons_zero, List.set_cons_succ]
  refine wpAnyH_take (i := 1) (oi := ⟨some 15, _, _, _, _, _⟩) (v := .slice A2 ds.length c2) rfl (by kernel_rfl) (by kernel_rfl) (by kernel_rfl) (fun _ _ _ h => h) (Or.inl ⟨by rfl, fun w' hS => by go_simp⟩) HSAwd.out ?_
  try simp only [Act.put, List.setIfInBounds_toArray, List.set_cons_zero, List.set_cons_succ]
  refine wpAnyH_take (i := 5) (oi := ⟨some 19, _, _, _, _, _⟩) (v := .agg #[.slice AT L.length cT]) rfl (by kernel_rfl) (by kernel_rfl) (by kernel_rfl) (fun _ _ _ h => h) (Or.inl ⟨by rfl, fun w' hS => by (have u0_ := hS.1 0 _ rfl; go_simp)⟩) HSAwd.out ?_
  try simp only [Act.put, List.setIfInBounds_toArray, List.set_cons_zero, List.set_cons_succ]
  refine wpAnyH_take (i := 6) (oi := ⟨some 20, _, _, _, _, _⟩) (v := .slice A2 ds.length c2) rfl (by kernel_rfl) (by kernel_rfl) (by kernel_rfl) (fun _ _ _ h => h) (Or.inl ⟨by rfl, fun w' hS => by go_simp⟩) HSAwd.out ?_
  try simp only [Act.put, List.setIfInBounds_toArray, List.set_cons_zero, List.set_cons_succ]
  refine wpAnyH_ready (rs := [2]) (by kernel_rfl) (by simp) ?_
  refine AllReadyH.cons (o := ⟨some 16, .call ⟨_, _, _⟩, _, _, _, _⟩) rfl (fun K hK => ?_) AllReadyH.nil
  go_simp
  go_at_call 27
  refine (Batch_any AT cT L _ _ (Nat.le_refl _) HSLwd.out HVT.out A2 c2 ds w.heap.size HBwd.out.size (HDS.out.keep HBwd.out) none 0 [] 0 (Nat.zero_le _) Sl.nil_ (by have := HLDS.out; omega) (by decide) (HOA.out.next HBwd.out)).mono ?_
  rintro e' q1 hgot_
  obtain ⟨hb_, A4, c4, rfl, hs_⟩ := hgot_.sl
  rw [HBT.out] at hs_ ⊢
  have HS4 := Lib.hid hs_; clear hgot_ hs_
  have HSAq1 := Lib.hid (show BoxL q1 w2.heap.size [.slice AT L.length cT] from (HSAwd.out).kept (grown_none hb_) (fun e => by cases e))
  have HSq1 := Lib.hid (show wd.heap.size ≤ q1.heap.size from hb_.size)
  have HBq1 := Lib.hid (HBwd.out.trans (hb_.mono HBwd.out.size))
  have tq1 := Lib.hid (twd.out.kept (grown_none hb_) (fun e => by cases e))
  have HSLq1 := Lib.hid ((HSLwd.out).next (Nat.le_refl _) hb_)
  clear hb_
  refine hK.out _ _ HSAq1.out (fun _ => ?_)
  clear hK K
  try simp only [Act.put, List.setIfInBounds_toArray, List.set_cons_zero, List.set_cons_succ]
  refine wpAnyH_take (i := 3) (oi := ⟨some 17, _, _, _, _, _⟩) (v := .int .i64 bt.length) rfl (by kernel_rfl) (by kernel_rfl) (by kernel_rfl) (fun _ _ _ h => h) (Or.inl ⟨by rfl, fun w' hS => by go_simp⟩) HSAq1.out ?_
  try simp only [Act.put, List.setIfInBounds_toArray, List.set_cons_zero, List.set_cons_succ]
  refine wpAnyH_take (i := 4) (oi := ⟨some 18, _, _, _, _, _⟩) (v := .bool false) rfl (by kernel_rfl) (by kernel_rfl) (by kernel_rfl) (fun _ _ _ h => h) (Or.inl ⟨by rfl, fun w' hS => by (go_simp; first | exact List.eq_nil_of_length_eq_zero (by omega) | omega | (intro h; rw [h] at p1; simp at p1))⟩) HSAq1.out ?_
  try simp only [Act.put, List.setIfInBounds_toArray, List.set_cons_zero, List.set_cons_succ]
  refine wpAnyH_ready (rs := [7]) (by kernel_rfl) (by simp) ?_
  refine AllReadyH.cons (o := ⟨some 21, .call ⟨_, _, _⟩, _, _, _, _⟩) rfl (fun K hK => ?_) AllReadyH.nil
  go_simp
  go_at_call 23
  refine (Order_any AT cT L _ _ (Nat.le_refl _) HSLq1.out HVT.out A2 c2 ds w.heap.size HBq1.out.size (HDS.out.keep HBq1.out)).mono ?_
  rintro e' q2 hgot_
  obtain ⟨hb_, A5, c5, rfl, hs_⟩ := hgot_.sl
  rw [HOD.out] at hs_ ⊢
  have HS5 := Lib.hid hs_; clear hgot_ hs_
  have HSAq2 := Lib.hid (show BoxL q2 w2.heap.size [.slice AT L.length cT] from (HSAq1.out).kept (grown_none hb_) (fun e => by cases e))
  have HSq2 := Lib.hid (show q1.heap.size ≤ q2.heap.size from hb_.size)
  have HBq2 := Lib.hid (HBq1.out.trans (hb_.mono HBq1.out.size))
  have tq2 := Lib.hid (tq1.out.kept (grown_none hb_) (fun e => by cases e))
  have HSLq2 := Lib.hid ((HSLq1.out).next (Nat.le_refl _) hb_)
  have HS4q2 := Lib.hid ((HS4.out).next (Nat.le_refl _) hb_)
  clear hb_
  refine hK.out _ _ HSAq2.out (fun _ => ?_)
  clear hK K
  try simp only [Act.put, List.setIfInBounds_toArray, List.set_cons_zero, List.set_cons_succ]
  refine wpAnyH_take (i := 8) (oi := ⟨some 22, _, _, _, _, _⟩) (v := .int .i64 od.length) rfl (by kernel_rfl) (by kernel_rfl) (by kernel_rfl) (fun _ _ _ h => h) (Or.inl ⟨by rfl, fun w' hS => by go_simp⟩) HSAq2.out ?_
  try simp only [Act.put, List.setIfInBounds_toArray, List.set_cons_zero, List.set_cons_succ]
  refine wpAnyH_take (i := 9) (oi := ⟨some 23, _, _, _, _, _⟩) (v := .bool false) rfl (by kernel_rfl) (by kernel_rfl) (by kernel_rfl) (fun _ _ _ h => h) (Or.inl ⟨by rfl, fun w' hS => by (go_simp; first | exact List.eq_nil_of_length_eq_zero (by omega) | omega | (intro h; rw [h] at p2; simp at p2))⟩) HSAq2.out ?_
  try simp only [Act.put, List.setIfInBounds_toArray, List.set_cons_zero, List.set_cons_succ]
  refine wpAnyH_take (i := 10) (oi := ⟨some 24, _, _, _, _, _⟩) (v := .bool true) rfl (by kernel_rfl) (by kernel_rfl) (by kernel_rfl) (fun _ _ _ h => h) (Or.inl ⟨by rfl, fun w' hS => by go_simp⟩) HSAq2.out ?_
  try simp only [Act.put, List.setIfInBounds_toArray, List.set_cons_zero, List.set_cons_succ]
  refine wpAnyH_take (i := 11) (oi := ⟨some 25, _, _, _, _, _⟩) (v := .bool true) rfl (by kernel_rfl) (by kernel_rfl) (by kernel_rfl) (fun _ _ _ h => h) (Or.inl ⟨by rfl, fun w' hS => by go_simp⟩) HSAq2.out ?_
  try simp only [Act.put, List.setIfInBounds_toArray, List.set_cons_zero, List.set_cons_succ]
  refine wpAnyH_ready (rs := [12]) (by kernel_rfl) (by simp) ?_
  refine AllReadyH.cons (o := ⟨some 26, .call ⟨_, _, _⟩, _, _, _, _⟩) rfl (fun K hK => ?_) AllReadyH.nil
  go_simp
  go_at_call 12
  refine (known_any _ (HOK.out.next HBq2.out) (HOA.out.next HBq2.out)).mono ?_
  rintro e' wk ⟨rfl, hb_⟩
  have HSAwk := Lib.hid (show BoxL wk w2.heap.size [.slice AT L.length cT] from (HSAq2.out).kept (grown_none hb_) (fun e => by cases e))
  have HSwk := Lib.hid (show q2.heap.size ≤ wk.heap.size from hb_.size)
  have HBwk := Lib.hid (HBq2.out.trans (hb_.mono HBq2.out.size))
  have twk := Lib.hid (tq2.out.kept (grown_none hb_) (fun e => by cases e))
  have HSLwk := Lib.hid ((HSLq2.out).next (Nat.le_refl _) hb_)
  have HS4wk := Lib.hid ((HS4q2.out).next (Nat.le_refl _) hb_)
  have HS5wk := Lib.hid ((HS5.out).next (Nat.le_refl _) hb_)
  clear hb_
  refine hK.out _ _ HSAwk.out (fun _ => ?_)
  clear hK K
  try simp only [Act.put, List.setIfInBounds_toArray, List.set_cons_zero, List.set_cons_succ]
  refine wpAnyH_take (i := 13) (oi := ⟨some 27, _, _, _, _, _⟩) (v := .bool true) rfl (by kernel_rfl) (by kernel_rfl) (by kernel_rfl) (fun _ _ _ h => h) (Or.inl ⟨by rfl, fun w' hS => by go_simp⟩) HSAwk.out ?_
  try simp only [Act.put, List.setIfInBounds_toArray, List.set_cons_zero, List.set_cons_succ]
  refine wpAnyH_take (i := 14) (oi := ⟨some 4, _, _, _, _, _⟩) (v := .bool true) rfl (by kernel_rfl) (by kernel_rfl) (by kernel_rfl) (fun _ _ _ h => h) (Or.inl ⟨by rfl, fun w' hS => by go_simp⟩) HSAwk.out ?_
  try simp only [Act.put, List.setIfInBounds_toArray, List.set_cons_zero, List.set_cons_succ]
  refine wpAnyH_done (by kernel_rfl) ?_ _
  go_wp2
  go_ret
  exact ⟨by try rfl, HBwk.out⟩
 ·
  clear ct0
  refine wp_region_held_drew (S := fun w' => BoxL w' w2.heap.size [.slice AT L.length cT]) (by kernel_rfl) HXtw3.out.drew (fun hS0 => ?_)
  obtain ⟨wd, hwd⟩ : ∃ z, World.drew w3 = z := ⟨_, rfl⟩
  rw [hwd] at hS0 ⊢
  have hb_ : Below w3.heap.size w3 wd := by rw [← hwd]; exact below_drewN_self _ _ 1
  clear hwd
  have HSAwd := Lib.hid hS0; clear hS0
  have HSwd := Lib.hid (show w3.heap.size ≤ wd.heap.size from hb_.size)
  have HBwd := Lib.hid (HBw3.out.trans (hb_.mono HBw3.out.size))
  have twd := Lib.hid (HXtw3.out.kept (grown_none hb_) (fun e => by cases e))
  have HSLwd := Lib.hid ((HSLw3.out).next (Nat.le_refl _) hb_)
  clear hb_
  refine wpAnyH_take (i := 0) (oi := ⟨some 14, _, _, _, _, _⟩) (v := .agg #[.slice AT L.length cT]) rfl (by kernel_rfl) (by kernel_rfl) (by kernel_rfl) (fun _ _ _ h => h) (Or.inl ⟨by rfl, fun w' hS => by (have u0_ := hS.1 0 _ rfl; go_simp)⟩) HSAwd.out ?_
  try simp only [Act.put, List.setIfInBounds_toArray, List.set_cons_zero, List.set_cons_succ]
  refine wpAnyH_take (i := 1) (oi := ⟨some 15, _, _, _, _, _⟩) (v := .slice A2 ds.length c2) rfl (by kernel_rfl) (by kernel_rfl) (by kernel_rfl) (fun _ _ _ h => h) (Or.inl ⟨by rfl, fun w' hS => by go_simp⟩) HSAwd.out ?_
  try simp only [Act.put, List.setIfInBounds_toArray, List.set_cons_zero, List.set_cons_succ]
  refine wpAnyH_take (i := 5) (oi := ⟨some 19, _, _, _, _, _⟩) (v := .agg #[.slice AT L.length cT]) rfl (by kernel_rfl) (by kernel_rfl) (by kernel_rfl) (fun _ _ _ h => h) (Or.inl ⟨by rfl, fun w' hS => by (have u0_ := hS.1 0 _ rfl; go_simp)⟩) HSAwd.out ?_
  try simp only [Act.put, List.setIfInBounds_toArray, List.set_cons_zero, List.set_cons_succ]
  refine wpAnyH_take (i := 6) (oi := ⟨some 20, _, _, _, _, _⟩) (v := .slice A2 ds.length c2) rfl (by kernel_rfl) (by kernel_rfl) (by kernel_rfl) (fun _ _ _ h => h) (Or.inl ⟨by rfl, fun w' hS => by go_simp⟩) HSAwd.out ?_
  try simp only [Act.put, List.setIfInBounds_toArray, List.set_cons_zero, List.set_cons_succ]
  refine wpAnyH_ready (rs := [2]) (by kernel_rfl) (by simp) ?_
  refine AllReadyH.cons (o := ⟨some 16, .call ⟨_, _, _⟩, _, _, _, _⟩) rfl (fun K hK => ?_) AllReadyH.nil
  go_simp
  go_at_call 27
  refine (Batch_any AT cT L _ _ (Nat.le_refl _) HSLwd.out HVT.out A2 c2 ds w.heap.size HBwd.out.size (HDS.out.keep HBwd.out) none 0 [] 0 (Nat.zero_le _) Sl.nil_ (by have := HLDS.out; omega) (by decide) (HOA.out.next HBwd.out)).mono ?_
  rintro e' q1 hgot_
  obtain ⟨hb_, A4, c4, rfl, hs_⟩ := hgot_.sl
  rw [HBT.out] at hs_ ⊢
  have HS4 := Lib.hid hs_; clear hgot_ hs_
  have HSAq1 := Lib.hid (show BoxL q1 w2.heap.size [.slice AT L.length cT] from (HSAwd.out).kept (grown_none hb_) (fun e => by cases e))
  have HSq1 := Lib.hid (show wd.heap.size ≤ q1.heap.size from hb_.size)
  have HBq1 := Lib.hid (HBwd.out.trans (hb_.mono HBwd.out.size))
  have tq1 := Lib.hid (twd.out.kept (grown_none hb_) (fun e => by cases e))
  have HSLq1 := Lib.hid ((HSLwd.out).next (Nat.le_refl _) hb_)
  clear hb_
  refine hK.out _ _ HSAq1.out (fun _ => ?_)
  clear hK K
  try simp only [Act.put, List.setIfInBounds_toArray, List.set_cons_zero, List.set_cons_succ]
  refine wpAnyH_take (i := 3) (oi := ⟨some 17, _, _, _, _, _⟩) (v := .int .i64 bt.length) rfl (by kernel_rfl) (by kernel_rfl) (by kernel_rfl) (fun _ _ _ h => h) (Or.inl ⟨by rfl, fun w' hS => by go_simp⟩) HSAq1.out ?_
  try simp only [Act.put, List.setIfInBounds_toArray, List.set_cons_zero, List.set_cons_succ]
  refine wpAnyH_take (i := 4) (oi := ⟨some 18, _, _, _, _, _⟩) (v := .bool true) rfl (by kernel_rfl) (by kernel_rfl) (by kernel_rfl) (fun _ _ _ h => h) (Or.inl ⟨by rfl, fun w' hS => by (go_simp; first | exact List.eq_nil_of_length_eq_zero (by omega) | omega | (intro h; rw [h] at p1; simp at p1))⟩) HSAq1.out ?_
  try simp only [Act.put, List.setIfInBounds_toArray, List.set_cons_zero, List.set_cons_succ]
  refine wpAnyH_ready (rs := [7]) (by kernel_rfl) (by simp) ?_
  refine AllReadyH.cons (o := ⟨some 21, .call ⟨_, _, _⟩, _, _, _, _⟩) rfl (fun K hK => ?_) AllReadyH.nil
  go_simp
  go_at_call 23
  refine (Order_any AT cT L _ _ (Nat.le_refl _) HSLq1.out HVT.out A2 c2 ds w.heap.size HBq1.out.size (HDS.out.keep HBq1.out)).mono ?_
  rintro e' q2 hgot_
  obtain ⟨hb_, A5, c5, rfl, hs_⟩ := hgot_.sl
  rw [HOD.out] at hs_ ⊢
  have HS5 := Lib.hid hs_; clear hgot_ hs_
  have HSAq2 := Lib.hid (show BoxL q2 w2.heap.size [.slice AT L.length cT] from (HSAq1.out).kept (grown_none hb_) (fun e => by cases e))
  have HSq2 := Lib.hid (show q1.heap.size ≤ q2.heap.size from hb_.size)
  have HBq2 := Lib.hid (HBq1.out.trans (hb_.mono HBq1.out.size))
  have tq2 := Lib.hid (tq1.out.kept (grown_none hb_) (fun e => by cases e))
  have HSLq2 := Lib.hid ((HSLq1.out).next (Nat.le_refl _) hb_)
  have HS4q2 := Lib.hid ((HS4.out).next (Nat.le_refl _) hb_)
  clear hb_
  refine hK.out _ _ HSAq2.out (fun _ => ?_)
  clear hK K
  try simp only [Act.put, List.setIfInBounds_toArray, List.set_cons_zero, List.set_cons_succ]
  refine wpAnyH_take (i := 8) (oi := ⟨some 22, _, _, _, _, _⟩) (v := .int .i64 od.length) rfl (by kernel_rfl) (by kernel_rfl) (by kernel_rfl) (fun _ _ _ h => h) (Or.inl ⟨by rfl, fun w' hS => by go_simp⟩) HSAq2.out ?_
  try simp only [Act.put, List.setIfInBounds_toArray, List.set_cons_zero, List.set_cons_succ]
  refine wpAnyH_take (i := 9) (oi := ⟨some 23, _, _, _, _, _⟩) (v := .bool true) rfl (by kernel_rfl) (by kernel_rfl) (by kernel_rfl) (fun _ _ _ h => h) (Or.inl ⟨by rfl, fun w' hS => by (go_simp; first | exact List.eq_nil_of_length_eq_zero (by omega) | omega | (intro h; rw [h] at p2; simp at p2))⟩) HSAq2.out ?_
  try simp only [Act.put, List.setIfInBounds_toArray, List.set_cons_zero, List.set_cons_succ]
  refine wpAnyH_take (i := 10) (oi := ⟨some 24, _, _, _, _, _⟩) (v := .bool true) rfl (by kernel_rfl) (by kernel_rfl) (by kernel_rfl) (fun _ _ _ h => h) (Or.inl ⟨by rfl, fun w' hS => by go_simp⟩) HSAq2.out ?_
  try simp only [Act.put, List.setIfInBounds_toArray, List.set_cons_zero, List.set_cons_succ]
  refine wpAnyH_take (i := 11) (oi := ⟨some 25, _, _, _, _, _⟩) (v := .bool true) rfl (by kernel_rfl) (by kernel_rfl) (by kernel_rfl) (fun _ _ _ h => h) (Or.inl ⟨by rfl, fun w' hS => by go_simp⟩) HSAq2.out ?_
  try simp only [Act.put, List.setIfInBounds_toArray, List.set_cons_zero, List.set_cons_succ]
  refine wpAnyH_ready (rs := [12]) (by kernel_rfl) (by simp) ?_
  refine AllReadyH.cons (o := ⟨some 26, .call ⟨_, _, _⟩, _, _, _, _⟩) rfl (fun K hK => ?_) AllReadyH.nil
  go_simp
  go_at_call 12
  refine (known_any _ (HOK.out.next HBq2.out) (HOA.out.next HBq2.out)).mono ?_
  rintro e' wk ⟨rfl, hb_⟩
  have HSAwk := Lib.hid (show BoxL wk w2.heap.size [.slice AT L.length cT] from (HSAq2.out).kept (grown_none hb_) (fun e => by cases e))
  have HSwk := Lib.hid (show q2.heap.size ≤ wk.heap.size from hb_.size)
  have HBwk := Lib.hid (HBq2.out.trans (hb_.mono HBq2.out.size))
  have twk := Lib.hid (tq2.out.kept (grown_none hb_) (fun e => by cases e))
  have HSLwk := Lib.hid ((HSLq2.out).next (Nat.le_refl _) hb_)
  have HS4wk := Lib.hid ((HS4q2.out).next (Nat.le_refl _) hb_)
  have HS5wk := Lib.hid ((HS5.out).next (Nat.le_refl _) hb_)
  clear hb_
  refine hK.out _ _ HSAwk.out (fun _ => ?_)
  clear hK K
  try simp only [Act.put, List.setIfInBounds_toArray, List.set_cons_zero, List.set_cons_succ]
  refine wpAnyH_take (i := 13) (oi := ⟨some 27, _, _, _, _, _⟩) (v := .bool true) rfl (by kernel_rfl) (by kernel_rfl) (by kernel_rfl) (fun _ _ _ h => h) (Or.inl ⟨by rfl, fun w' hS => by go_simp⟩) HSAwk.out ?_
  try simp only [Act.put, List.setIfInBounds_toArray, List.set_cons_zero, List.set_cons_succ]
  refine wpAnyH_take (i := 14) (oi := ⟨some 4, _, _, _, _, _⟩) (v := .bool true) rfl (by kernel_rfl) (by kernel_rfl) (by kernel_rfl) (fun _ _ _ h => h) (Or.inl ⟨by rfl, fun w' hS => by go_simp⟩) HSAwk.out ?_
  try simp only [Act.put, List.setIfInBounds_toArray, List.set_cons_zero, List.set_cons_succ]
  refine wpAnyH_done (by kernel_rfl) ?_ _
  go_wp2
  go_ret
  exact ⟨by try rfl, HBwk.out⟩
end Go.Proofs.YtomcebcaendilaaGreatDoor
namespace Go.Proofs.YtomcebcaendilaaGreatDoor
open Go.RowKit Go.Cold
namespace cRelateProgress
open Go.ChangeShapes Go.WideShapes Go.ChangeAt
open Go.ChangeMaps (open_string)
set_option maxRecDepth 100000
theorem reads (os : Os) {H : Type} (enc : TypeId × Value → H) : ∃ places, DataW.whole enc Tryz.prog ((World.laidAll Tryz.prog os Rows.relateProgressRow.laid).forCall (fun _ _ => 0) ⟨#[], #[.slice none 0 0, .slice none 0 0], []⟩).memory Tryz.f8.params.toList Rows.relateProgressSpec.vars false (#[.slice none 0 0, .slice none 0 0] : Array Value).toList 8 = some ([.nil, .nil], [], places) :=
 ⟨[], by kernel_rfl⟩
theorem lifted (os : Os) (started : os.Started) (H : Type) (enc : TypeId × Value → H) (F : Stop.Interp) :
  ReturnsInHanded {} Tryz.checked os 8 .any ((OpenSpec.ofChange Rows.relateProgressSpec).preRow enc Tryz.prog Tryz.f8 Rows.relateProgressRow.domain false Rows.relateProgressRow.laid) (((OpenSpec.ofChange Rows.relateProgressSpec).at F).post enc Tryz.prog Tryz.f8 false true false false) := by
 obtain ⟨places, hx⟩ := reads os enc
 refine law_lifted os started H enc F (by kernel_rfl) Tryz.func8 #[.slice none 0 0, .slice none 0 0] (World.shaped_of_ZipB (by kernel_rfl) (by kernel_rfl)) (by kernel_rfl)
  (OpenSpec.preRow_of_cond 8 hx (by kernel_rfl) (fun k hk => by cases hk) (by kernel_rfl) (laidMet_laidAll _ (by kernel_rfl) (by kernel_rfl))) rfl rfl
  (fun ds hl => by
   rw [Tryz.params8] at hl
   match ds, hl with
   | [d0, d1], _ => rfl) (by kernel_rfl) ?_
 intro W base args ds ps hval hA hlt hz hsh hlaid
 rw [Tryz.params8] at hA hval
 obtain ⟨v0, vs0, d0, ds0, p0, q0, hargs, rfl, rfl, h0, r0⟩ := trodAll_cons hA
 obtain ⟨v1, vs1, d1, ds1, p1, q1, rfl, rfl, rfl, h1, r1⟩ := trodAll_cons r0
 obtain ⟨rfl, rfl, rfl⟩ := trodAll_nil r1
 obtain rfl : args = #[v0, v1] := by cases args; simp_all
 obtain ⟨A0, c0, xs0, rfl, s0⟩ := open_nums Tryz.underlying24 Tryz.underlying3 (by kernel_rfl) (hval 0 24 v0 rfl rfl) h0 (fun x hx => hlt x (List.mem_append_left _ hx))
 obtain ⟨A1, c1, xs1, rfl, s1⟩ := open_nums Tryz.underlying24 Tryz.underlying3 (by kernel_rfl) (hval 1 24 v1 rfl rfl) h1 (fun x hx => hlt x (List.mem_append_right _ (List.mem_append_left _ hx)))
 exact lawProgress_any A0 c0 xs0 A1 c1 xs1 W (show Ok W from Tryz.laysM146.s1_3 W hsh) (oka_of_laid hlaid) s0 s1
theorem said : Rows.RelateProgressSaid :=
 OpenClaim.holds_of_cond 8 Tryz.f8 rfl rfl rfl rfl rfl rfl rfl ⟨rfl, rfl, rfl, rfl, rfl⟩ rfl rfl rfl rfl rfl (by kernel_rfl) Tryz.func8 (by kernel_rfl)
  (of_decide_eq_true (by kernel_rfl)) (by unfold Func.isWrapper; first | (rw [if_pos (by decide +kernel)]; kernel_rfl) | (rw [if_neg (by decide +kernel)]; exact ⟨rfl, rfl⟩))
  (fun os started H enc _ F => by rw [OpenClaim.pre_eq_preRow]; exact lifted os started H enc F)
theorem plain (f : FuncId) (fn : Func) (hf : Tryz.pinned.checked.prog.funcNamed Rows.relateProgressRow.func = some f) (hfn : Tryz.pinned.checked.prog.funcs[f]? = some fn) :
  true = Tryz.pinned.checked.prog.looks [] ∧ ∀ (j : Nat) t, fn.params[j]? = some t → Tryz.pinned.checked.prog.wantsStandIn t = false := by
 obtain rfl : f = 8 := Option.some.inj ((show Tryz.prog.funcNamed Rows.relateProgressRow.func = some 8 by kernel_rfl).symm.trans hf) |>.symm
 obtain rfl : fn = Tryz.f8 := (Option.some.inj (Tryz.func8.symm.trans hfn)).symm
 refine ⟨by kernel_rfl, fun j t ht => ?_⟩
 rw [Tryz.params8] at ht
 have hm : t ∈ [24, 24] := by simpa using Array.mem_of_getElem? ht
 have hall : ([24, 24].all fun u => !Tryz.prog.wantsStandIn u) = true := by kernel_rfl
 exact (show Tryz.prog.wantsStandIn t = false by simpa using List.all_eq_true.1 hall t hm)
/-- The card. -/
theorem card : Rows.RelateProgressCardSaid :=
 Claim7.holds_tied_plain_at .later [] _ _ _ _ said (fun _ h => by cases h) (by kernel_rfl) (fun _ h => by cases h) relateProgress_row_tie rfl ⟨rfl, rfl⟩ (by kernel_rfl) rfl plain (by kernel_rfl)
end cRelateProgress
end Go.Proofs.YtomcebcaendilaaGreatDoor
