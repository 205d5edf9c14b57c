/-
  PartitionRights: row and card.
 Conditions: those of the given row and card (the listed variables of the library hold what the text lays), nothing else.
-/
import Derived.Test.YtehmidmoiamcfaaGreatDoorITD
import Derived.Test.YtehmidmoiamcfaaGreatDoorITB
import Derived.Test.YtehmidmoiamcfaaGreatDoorIRG
import Derived.Test.YtehmidmoiamcfaaGreatDoorIH
import Derived.Test.YtehmidmoiamcfaaGreatDoorISH
import Derived.ShutString
set_option linter.unusedSimpArgs false
set_option linter.unusedVariables false
namespace Go.Cold
open Go Go.RowKit
/-- Where a law of the chapter stands: the tree's box, the tree, a list of numbers. -/
def RsS (w : World) (gt : Nat) (A : Option Addr) (c : Nat) (L : List Dev) (A2 : Option Addr) (c2 : Nat) (ll : List Int) (wr : World) : Prop :=
 Below w.heap.size w wr ∧ BoxL wr gt [.slice A L.length c] ∧ Sl wr wr.heap.size A c L ∧ Sl wr wr.heap.size A2 c2 ll
theorem RsS.below {w wr wx : World} {gt : Nat} {A A2 : Option Addr} {c c2 : Nat} {L : List Dev} {ll : List Int} (h : RsS w gt A c L A2 c2 ll wr) (hb : Below wr.heap.size wr wx) : RsS w gt A c L A2 c2 ll wx :=
 ⟨h.1.trans (hb.mono h.1.size), h.2.1.kept (grown_none hb) (fun e => by cases e), h.2.2.1.next (Nat.le_refl _) hb, h.2.2.2.next (Nat.le_refl _) hb⟩
theorem okI_all {w : World} {B c : Nat} {A : Option Addr} {xs : List Int} (h : Sl w B A c xs) : ∀ n ∈ xs, okI n := by
 intro n hn
 obtain ⟨i, hi, rfl⟩ := List.getElem_of_mem hn
 obtain ⟨b, o, e, hb, h4⟩ := h.2.2 (by omega)
 obtain ⟨cs, h5, h6⟩ := h4 i _ (List.getElem?_eq_getElem hi)
 exact h5.2
theorem flat_one : ∀ l : List Int, (l.map fun x => [Value.int .i64 x]).flatten = l.map fun x => .int .i64 x
 | [] => rfl
 | x :: r => by rw [List.map_cons, List.flatten_cons, flat_one r]; rfl
theorem own_ints {F : Nat → Prop} {w w' : World} {T : TypeId} {xs : List Int} {cs : Array Value} (h : w.alloc (.cells cs T) = w') (hc : cs.toList = xs.map fun x => .int .i64 x) (hok : ∀ x ∈ xs, okI x) (hn : xs.length ≤ maxLen) : OwnsS F w' w.heap.size T (.slice (some ⟨w.heap.size, 0, none⟩) xs.length xs.length) xs := by
 have hs : cs.size = xs.length * 1 := by rw [← Array.length_toList, hc]; simp
 have h1 := World.ownsRow_lit (base := w.heap.size) (e := T) (size := 1) w cs xs.length (Nat.le_refl _) hn hs
 rw [h] at h1
 refine ⟨xs.map fun x => [.int .i64 x], ?_, by simp, fun i x cs' hx hcs => ?_⟩
 ·
  have e : (xs.map fun x => [Value.int .i64 x]).flatten = cs.toList := by rw [hc]; exact flat_one xs
  rw [e]; exact h1
 ·
  rw [List.getElem?_map, hx] at hcs
  cases hcs
  exact ⟨rfl, hok x (List.mem_of_getElem? hx)⟩
end Go.Cold
namespace Go.Proofs.YtehmidmoiamcfaaGreatDoor
open Go.RowKit Go.Cold
set_option maxRecDepth 100000 in
set_option maxHeartbeats 8000000 in
theorem lawRights31_any (A : Option Addr) (c : Nat) (xs : List Int) (n : Int) (w : World) (hok : Ok w) (h7 : Ok7 w) (hx : Sl w w.heap.size A c xs) (hn : okI n) :
  Calls Tryz.prog 8 #[.slice A xs.length c, .int .i64 n] w fun e w' => e = .returned (.bool true) ∧ Below w.heap.size w w' := by
 have HN := Lib.hid hn; have H7 := Lib.hid h7; have hoa := ok7_a h7; clear hn h7
 have HOK := Lib.hid hok; have HOA := Lib.hid hoa; have HX := Lib.hid hx
 clear hok hoa hx 
 go_enter Tryz.func8, Tryz.ntmps8
 go_upto_region 2 with fail
 have htape := tape_new HX.out
 have HNG := Lib.hid (notG_of HOK.out)
 obtain ⟨w1, hw1⟩ : ∃ z, w.alloc (.cells #[.slice A xs.length c, .int .i64 0] 32) = z := ⟨_, rfl⟩
 rw [hw1] at htape
 have hb1 : Below w.heap.size w w1 := by rw [← hw1]; exact (Below.refl _ _).alloc (Nat.le_refl _) _
 have HGw1 := Lib.hid (show w1.heap.size = w.heap.size + 1 by rw [← hw1]; simp)
 try simp only [hw1]
 have HTAPE := Lib.hid htape
 clear hw1 htape
 have HSw1 := Lib.hid (show w.heap.size ≤ w1.heap.size from hb1.size)
 have HBw1 := Lib.hid hb1
 clear hb1
 go_wp2_with fail
 refine (TreeM_any xs 0 w.heap.size w.heap.size 12 w1 (by decide) HTAPE.out ⟨by decide, by decide⟩ (HOK.out.next HBw1.out) HNG.out).mono ?_
 rintro e w2 ⟨AT, cT, L, k1, rfl, ⟨hvt, hmd⟩, hln, hsl, hk1, htp, hg2⟩
 have hb2 : Below w.heap.size w w2 := below_of_grown HBw1.out hg2 HBw1.out.size (Nat.le_refl _)
 have HSB2 := Lib.hid (show w1.heap.size ≤ w2.heap.size from hg2.size)
 have hx1 := hsl.1; have hx2 := hsl.2.1
 unfold maxLen at hx2
 have HVT := Lib.hid hvt; have HMD := Lib.hid hmd; have HLN := Lib.hid (show L.length ≤ 12 by omega); have HSL := Lib.hid (hsl.sl (B := w2.heap.size) (fun x hx => hx.2))
 have HBw2 := Lib.hid hb2
 clear HTAPE hvt hmd hln hsl hk1 htp hg2 hb2
 go_upto_region 3 with fail
 obtain ⟨w3, hw3⟩ : ∃ w3, w2.alloc (.cells #[.slice AT L.length cT] 57) = w3 := ⟨_, rfl⟩
 have hbw3 : Below w2.heap.size w2 w3 := by rw [← hw3]; exact (Below.refl _ _).alloc (Nat.le_refl _) _
 have HGw3 := Lib.hid (show w3.heap.size = w2.heap.size + 1 by rw [← hw3]; simp)
 have HXtw3 := Lib.hid (show BoxL w3 w2.heap.size [.slice AT L.length cT] from box_mk hw3)
 try simp only [hw3]
 have HSTEPw3 := Lib.hid hbw3
 have HSw3 := Lib.hid (show w2.heap.size ≤ w3.heap.size from hbw3.size)
 have HBw3 := Lib.hid (HBw2.out.trans (hbw3.mono HBw2.out.size))
 have HSLw3 := Lib.hid ((HSL.out).next (Nat.le_refl _) hbw3)
 clear hw3 hbw3
 try rw [show w2.heap.size + 1 = w3.heap.size from HGw3.out.symm]
 have HLA := Lib.hid (show ∀ d ∈ L, d.attrs.length ≤ 1000000 from fun d hd => attrs_le (HVT.out.chk d hd))
 have ct0 := HXtw3.out.1 0 _ rfl
 go_wp2_with fail
 have HRS := Lib.hid (show RsS w w2.heap.size AT cT L none 0 [] w3 from ⟨HBw3.out, HXtw3.out, HSLw3.out, Sl.nil_⟩)
 clear ct0
 go_loopw [7] (fun kk wr => ∃ i : Nat, i ≤ L.length ∧ kk = .int .i64 i ∧ Hid (RsS w w2.heap.size AT cT L none 0 [] wr)) (fun kk _ => L.length - (intOf kk).toNat)
 case atStart => exact ⟨0, Nat.zero_le _, rfl, HRS⟩
 case round =>
  clear HRS
  obtain ⟨i, hi, rfl, HRS⟩ := hrel
  have t0 := HRS.out.2.1.1 0 _ rfl
  by_cases hit : i < L.length
  ·
   have i2 : (i : Int) < (L.length : Int) := by omega
   go_upto_region 6 with fail
   clear t0
   obtain ⟨b3, o3, rfl, hb3, A3, c3, hok3, -, hcs3⟩ := HRS.out.2.2.1.dev hit
   obtain ⟨x, hx⟩ : ∃ x, L[i]'hit = x := ⟨_, rfl⟩
   rw [hx] at hok3 hcs3
   have HCX := Lib.hid hcs3.1; have HOX := Lib.hid hok3.1
   clear hcs3 hok3 hx hb3
   have HBR := Lib.hid HRS.out.1; have HTR := Lib.hid HRS.out.2.1; have HSR := Lib.hid HRS.out.2.2.1
   refine wp_region_held_drew (S := fun w' => BoxL w' w2.heap.size [.slice (some ⟨b3, o3, none⟩) L.length cT] ∧ w'.cell? ⟨b3, o3 + i * 10, none⟩ = some (.int .i64 x.idx)) (by kernel_rfl) ⟨HTR.out.drew, by show (World.drew wr).cell? _ = _; exact HCX.out⟩ (fun hS0 => ?_)
   obtain ⟨wd1, hwd1⟩ : ∃ z, World.drew wr = z := ⟨_, rfl⟩
   rw [hwd1] at hS0 ⊢
   have hb_ : Below wr.heap.size wr wd1 := by rw [← hwd1]; exact below_drewN_self _ _ 1
   clear hwd1
   have HSAwd1 := Lib.hid hS0; clear hS0
   have HSwd1 := Lib.hid (show wr.heap.size ≤ wd1.heap.size from hb_.size)
   have HBwd1 := Lib.hid (HBR.out.trans (hb_.mono HBR.out.size))
   have twd1 := Lib.hid (HTR.out.kept (grown_none hb_) (fun e => by cases e))
   have HSLwd1 := Lib.hid ((HSR.out).next (Nat.le_refl _) hb_)
   clear hb_
   refine wpAnyH_take (i := 0) (oi := ⟨some 20, _, _, _, _, _⟩) (v := .agg #[.slice (some ⟨b3, o3, none⟩) L.length cT]) rfl (by kernel_rfl) (by kernel_rfl) (by kernel_rfl) (fun _ _ _ h => h) (Or.inl ⟨by rfl, fun w' hS => by (have u0_ := hS.1.1 0 _ rfl; go_simp)⟩) HSAwd1.out ?_
   try simp only [Act.put, List.setIfInBounds_toArray, List.set_cons_zero, List.set_cons_succ]
   refine wpAnyH_take (i := 1) (oi := ⟨some 21, _, _, _, _, _⟩) (v := .pointer (some ⟨w2.heap.size, 0, none⟩)) rfl (by kernel_rfl) (by kernel_rfl) (by kernel_rfl) (fun _ _ _ h => h) (Or.inl ⟨by rfl, fun w' hS => by go_simp⟩) HSAwd1.out ?_
   try simp only [Act.put, List.setIfInBounds_toArray, List.set_cons_zero, List.set_cons_succ]
   refine wpAnyH_take (i := 2) (oi := ⟨some 22, _, _, _, _, _⟩) (v := .slice (some ⟨b3, o3, none⟩) L.length cT) rfl (by kernel_rfl) (by kernel_rfl) (by kernel_rfl) (fun _ _ _ h => h) (Or.inl ⟨by rfl, fun w' hS => by (have u0_ := hS.1.1 0 _ rfl; go_simp)⟩) HSAwd1.out ?_
   try simp only [Act.put, List.setIfInBounds_toArray, List.set_cons_zero, List.set_cons_succ]
   refine wpAnyH_take (i := 3) (oi := ⟨some 23, _, _, _, _, _⟩) (v := .int .i64 i) rfl (by kernel_rfl) (by kernel_rfl) (by kernel_rfl) (fun _ _ _ h => h) (Or.inl ⟨by rfl, fun w' hS => by go_simp⟩) HSAwd1.out ?_
   try simp only [Act.put, List.setIfInBounds_toArray, List.set_cons_zero, List.set_cons_succ]
   refine wpAnyH_take (i := 4) (oi := ⟨some 24, _, _, _, _, _⟩) (v := .pointer (some ⟨b3, o3 + i * 10, none⟩)) rfl (by kernel_rfl) (by kernel_rfl) (by kernel_rfl) (fun _ _ _ h => h) (Or.inl ⟨by rfl, fun w' hS => by go_simp⟩) HSAwd1.out ?_
   try simp only [Act.put, List.setIfInBounds_toArray, List.set_cons_zero, List.set_cons_succ]
   refine wpAnyH_take (i := 5) (oi := ⟨some 25, _, _, _, _, _⟩) (v := .pointer (some ⟨b3, o3 + i * 10, none⟩)) rfl (by kernel_rfl) (by kernel_rfl) (by kernel_rfl) (fun _ _ _ h => h) (Or.inl ⟨by rfl, fun w' hS => by go_simp⟩) HSAwd1.out ?_
   try simp only [Act.put, List.setIfInBounds_toArray, List.set_cons_zero, List.set_cons_succ]
   refine wpAnyH_take (i := 6) (oi := ⟨some 26, _, _, _, _, _⟩) (v := .int .i64 x.idx) rfl (by kernel_rfl) (by kernel_rfl) (by kernel_rfl) (fun _ _ _ h => h) (Or.inl ⟨by rfl, fun w' hS => by (have u0_ := hS.2; go_simp)⟩) HSAwd1.out ?_
   try simp only [Act.put, List.setIfInBounds_toArray, List.set_cons_zero, List.set_cons_succ]
   refine wpAnyH_take (i := 8) (oi := ⟨some 28, _, _, _, _, _⟩) (v := .agg #[.slice (some ⟨b3, o3, none⟩) L.length cT]) rfl (by kernel_rfl) (by kernel_rfl) (by kernel_rfl) (fun _ _ _ h => h) (Or.inl ⟨by rfl, fun w' hS => by (have u0_ := hS.1.1 0 _ rfl; go_simp)⟩) HSAwd1.out ?_
   try simp only [Act.put, List.setIfInBounds_toArray, List.set_cons_zero, List.set_cons_succ]
   refine wpAnyH_take (i := 9) (oi := ⟨some 29, _, _, _, _, _⟩) (v := .pointer (some ⟨w2.heap.size, 0, none⟩)) rfl (by kernel_rfl) (by kernel_rfl) (by kernel_rfl) (fun _ _ _ h => h) (Or.inl ⟨by rfl, fun w' hS => by go_simp⟩) HSAwd1.out ?_
   try simp only [Act.put, List.setIfInBounds_toArray, List.set_cons_zero, List.set_cons_succ]
   refine wpAnyH_take (i := 10) (oi := ⟨some 30, _, _, _, _, _⟩) (v := .slice (some ⟨b3, o3, none⟩) L.length cT) rfl (by kernel_rfl) (by kernel_rfl) (by kernel_rfl) (fun _ _ _ h => h) (Or.inl ⟨by rfl, fun w' hS => by (have u0_ := hS.1.1 0 _ rfl; go_simp)⟩) HSAwd1.out ?_
   try simp only [Act.put, List.setIfInBounds_toArray, List.set_cons_zero, List.set_cons_succ]
   refine wpAnyH_take (i := 11) (oi := ⟨some 31, _, _, _, _, _⟩) (v := .int .i64 i) rfl (by kernel_rfl) (by kernel_rfl) (by kernel_rfl) (fun _ _ _ h => h) (Or.inl ⟨by rfl, fun w' hS => by go_simp⟩) HSAwd1.out ?_
   try simp only [Act.put, List.setIfInBounds_toArray, List.set_cons_zero, List.set_cons_succ]
   refine wpAnyH_take (i := 12) (oi := ⟨some 32, _, _, _, _, _⟩) (v := .pointer (some ⟨b3, o3 + i * 10, none⟩)) rfl (by kernel_rfl) (by kernel_rfl) (by kernel_rfl) (fun _ _ _ h => h) (Or.inl ⟨by rfl, fun w' hS => by go_simp⟩) HSAwd1.out ?_
   try simp only [Act.put, List.setIfInBounds_toArray, List.set_cons_zero, List.set_cons_succ]
   refine wpAnyH_take (i := 13) (oi := ⟨some 33, _, _, _, _, _⟩) (v := .pointer (some ⟨b3, o3 + i * 10, none⟩)) rfl (by kernel_rfl) (by kernel_rfl) (by kernel_rfl) (fun _ _ _ h => h) (Or.inl ⟨by rfl, fun w' hS => by go_simp⟩) HSAwd1.out ?_
   try simp only [Act.put, List.setIfInBounds_toArray, List.set_cons_zero, List.set_cons_succ]
   refine wpAnyH_take (i := 14) (oi := ⟨some 34, _, _, _, _, _⟩) (v := .int .i64 x.idx) rfl (by kernel_rfl) (by kernel_rfl) (by kernel_rfl) (fun _ _ _ h => h) (Or.inl ⟨by rfl, fun w' hS => by (have u0_ := hS.2; go_simp)⟩) HSAwd1.out ?_
   try simp only [Act.put, List.setIfInBounds_toArray, List.set_cons_zero, List.set_cons_succ]
   refine wpAnyH_ready (rs := [7]) (by kernel_rfl) (by simp) ?_
   refine AllReadyH.cons (o := ⟨some 27, .call ⟨_, _, _⟩, _, _, _, _⟩) rfl (fun K hK => ?_) AllReadyH.nil
   go_simp
   go_at_call 27
   refine (PRight_any (some ⟨b3, o3, none⟩) cT L x.idx _ _ (Nat.le_refl _) HSLwd1.out HVT.out (H7.out.below HBwd1.out)).mono ?_
   rintro e' s1 ⟨rfl, hb_⟩
   obtain ⟨sz, hsz⟩ : ∃ z, rightB L x.idx = z := ⟨_, rfl⟩
   rw [hsz]
   have HSZ := Lib.hid hsz; clear hsz
   have HSAs1 := Lib.hid (show BoxL s1 w2.heap.size [.slice (some ⟨b3, o3, none⟩) L.length cT] ∧ s1.cell? ⟨b3, o3 + i * 10, none⟩ = some (.int .i64 x.idx) from ⟨(HSAwd1.out.1).kept (grown_none hb_) (fun e => by cases e), cell_on hb_ (HSAwd1.out.2)⟩)
   have HSs1 := Lib.hid (show wd1.heap.size ≤ s1.heap.size from hb_.size)
   have HBs1 := Lib.hid (HBwd1.out.trans (hb_.mono HBwd1.out.size))
   have ts1 := Lib.hid (twd1.out.kept (grown_none hb_) (fun e => by cases e))
   have HSLs1 := Lib.hid ((HSLwd1.out).next (Nat.le_refl _) hb_)
   clear hb_
   refine hK.out _ _ HSAs1.out (fun _ => ?_)
   clear hK K
   try simp only [Act.put, List.setIfInBounds_toArray, List.set_cons_zero, List.set_cons_succ]
   refine wpAnyH_ready (rs := [15]) (by kernel_rfl) (by simp) ?_
   refine AllReadyH.cons (o := ⟨some 35, .call ⟨_, _, _⟩, _, _, _, _⟩) rfl (fun K hK => ?_) AllReadyH.nil
   go_simp
   go_at_call 28
   refine (RRight_any (some ⟨b3, o3, none⟩) cT L x.idx _ _ (Nat.le_refl _) HSLs1.out HVT.out (H7.out.below HBs1.out) (Ok8.below HOK.out HBs1.out)).mono ?_
   rintro e' s2 ⟨rfl, hb_⟩
   rw [HSZ.out]
   have HSAs2 := Lib.hid (show BoxL s2 w2.heap.size [.slice (some ⟨b3, o3, none⟩) L.length cT] ∧ s2.cell? ⟨b3, o3 + i * 10, none⟩ = some (.int .i64 x.idx) from ⟨(HSAs1.out.1).kept (grown_none hb_) (fun e => by cases e), cell_on hb_ (HSAs1.out.2)⟩)
   have HSs2 := Lib.hid (show s1.heap.size ≤ s2.heap.size from hb_.size)
   have HBs2 := Lib.hid (HBs1.out.trans (hb_.mono HBs1.out.size))
   have ts2 := Lib.hid (ts1.out.kept (grown_none hb_) (fun e => by cases e))
   have HSLs2 := Lib.hid ((HSLs1.out).next (Nat.le_refl _) hb_)
   clear hb_
   refine hK.out _ _ HSAs2.out (fun _ => ?_)
   clear hK K
   try simp only [Act.put, List.setIfInBounds_toArray, List.set_cons_zero, List.set_cons_succ]
   have hss : (sz != sz) = false := by cases sz <;> rfl
   refine wpAnyH_take (i := 16) (oi := ⟨some 36, _, _, _, _, _⟩) (v := .bool false) rfl (by kernel_rfl) (by kernel_rfl) (by kernel_rfl) (fun _ _ _ h => h) (Or.inl ⟨by rfl, fun w' hS => by go_simp⟩) HSAs2.out ?_
   try simp only [Act.put, List.setIfInBounds_toArray, List.set_cons_zero, List.set_cons_succ]
   refine wpAnyH_done (by kernel_rfl) ?_ _
   clear hss
   have HRN := Lib.hid (show RsS w w2.heap.size (some ⟨b3, o3, none⟩) cT L none 0 [] s2 from ⟨HBs2.out, ts2.out, HSLs2.out, Sl.nil_⟩)
   go_wp2
   go_roundw
   case rel => exact ⟨i + 1, by omega, by go_num, HRN⟩
   case measure => simp [intOf]; omega
  ·
   have i2 : ¬ (i : Int) < (L.length : Int) := by omega
   go_upto_region 8 with fail
   clear t0
   have HBR := Lib.hid HRS.out.1; have HTR := Lib.hid HRS.out.2.1; have HSR := Lib.hid HRS.out.2.2.1
   refine wp_region_held_drew (S := fun w' => BoxL w' w2.heap.size [.slice AT L.length cT]) (by kernel_rfl) HTR.out.drew (fun hS0 => ?_)
   obtain ⟨wd2, hwd2⟩ : ∃ z, World.drew wr = z := ⟨_, rfl⟩
   rw [hwd2] at hS0 ⊢
   have hb_ : Below wr.heap.size wr wd2 := by rw [← hwd2]; exact below_drewN_self _ _ 1
   clear hwd2
   have HSAwd2 := Lib.hid hS0; clear hS0
   have HSwd2 := Lib.hid (show wr.heap.size ≤ wd2.heap.size from hb_.size)
   have HBwd2 := Lib.hid (HBR.out.trans (hb_.mono HBR.out.size))
   have twd2 := Lib.hid (HTR.out.kept (grown_none hb_) (fun e => by cases e))
   have HSLwd2 := Lib.hid ((HSR.out).next (Nat.le_refl _) hb_)
   clear hb_
   refine wpAnyH_take (i := 0) (oi := ⟨some 37, _, _, _, _, _⟩) (v := .agg #[.slice AT L.length cT]) rfl (by kernel_rfl) (by kernel_rfl) (by kernel_rfl) (fun _ _ _ h => h) (Or.inl ⟨by rfl, fun w' hS => by (have u0_ := hS.1 0 _ rfl; go_simp)⟩) HSAwd2.out ?_
   try simp only [Act.put, List.setIfInBounds_toArray, List.set_cons_zero, List.set_cons_succ]
   refine wpAnyH_take (i := 1) (oi := ⟨some 38, _, _, _, _, _⟩) (v := .int .i64 n) rfl (by kernel_rfl) (by kernel_rfl) (by kernel_rfl) (fun _ _ _ h => h) (Or.inl ⟨by rfl, fun w' hS => by go_simp⟩) HSAwd2.out ?_
   try simp only [Act.put, List.setIfInBounds_toArray, List.set_cons_zero, List.set_cons_succ]
   refine wpAnyH_take (i := 3) (oi := ⟨some 40, _, _, _, _, _⟩) (v := .agg #[.slice AT L.length cT]) rfl (by kernel_rfl) (by kernel_rfl) (by kernel_rfl) (fun _ _ _ h => h) (Or.inl ⟨by rfl, fun w' hS => by (have u0_ := hS.1 0 _ rfl; go_simp)⟩) HSAwd2.out ?_
   try simp only [Act.put, List.setIfInBounds_toArray, List.set_cons_zero, List.set_cons_succ]
   refine wpAnyH_take (i := 4) (oi := ⟨some 41, _, _, _, _, _⟩) (v := .int .i64 n) rfl (by kernel_rfl) (by kernel_rfl) (by kernel_rfl) (fun _ _ _ h => h) (Or.inl ⟨by rfl, fun w' hS => by go_simp⟩) HSAwd2.out ?_
   try simp only [Act.put, List.setIfInBounds_toArray, List.set_cons_zero, List.set_cons_succ]
   refine wpAnyH_ready (rs := [2]) (by kernel_rfl) (by simp) ?_
   refine AllReadyH.cons (o := ⟨some 39, .call ⟨_, _, _⟩, _, _, _, _⟩) rfl (fun K hK => ?_) AllReadyH.nil
   go_simp
   go_at_call 27
   refine (PRight_any AT cT L n _ _ (Nat.le_refl _) HSLwd2.out HVT.out (H7.out.below HBwd2.out)).mono ?_
   rintro e' s1 ⟨rfl, hb_⟩
   obtain ⟨sz, hsz⟩ : ∃ z, rightB L n = z := ⟨_, rfl⟩
   rw [hsz]
   have HSZ := Lib.hid hsz; clear hsz
   have HSAs1 := Lib.hid (show BoxL s1 w2.heap.size [.slice AT L.length cT] from (HSAwd2.out).kept (grown_none hb_) (fun e => by cases e))
   have HSs1 := Lib.hid (show wd2.heap.size ≤ s1.heap.size from hb_.size)
   have HBs1 := Lib.hid (HBwd2.out.trans (hb_.mono HBwd2.out.size))
   have ts1 := Lib.hid (twd2.out.kept (grown_none hb_) (fun e => by cases e))
   have HSLs1 := Lib.hid ((HSLwd2.out).next (Nat.le_refl _) hb_)
   clear hb_
   refine hK.out _ _ HSAs1.out (fun _ => ?_)
   clear hK K
   try simp only [Act.put, List.setIfInBounds_toArray, List.set_cons_zero, List.set_cons_succ]
   refine wpAnyH_ready (rs := [5]) (by kernel_rfl) (by simp) ?_
   refine AllReadyH.cons (o := ⟨some 42, .call ⟨_, _, _⟩, _, _, _, _⟩) rfl (fun K hK => ?_) AllReadyH.nil
   go_simp
   go_at_call 28
   refine (RRight_any AT cT L n _ _ (Nat.le_refl _) HSLs1.out HVT.out (H7.out.below HBs1.out) (Ok8.below HOK.out HBs1.out)).mono ?_
   rintro e' s2 ⟨rfl, hb_⟩
   rw [HSZ.out]
   have HSAs2 := Lib.hid (show BoxL s2 w2.heap.size [.slice AT L.length cT] from (HSAs1.out).kept (grown_none hb_) (fun e => by cases e))
   have HSs2 := Lib.hid (show s1.heap.size ≤ s2.heap.size from hb_.size)
   have HBs2 := Lib.hid (HBs1.out.trans (hb_.mono HBs1.out.size))
   have ts2 := Lib.hid (ts1.out.kept (grown_none hb_) (fun e => by cases e))
   have HSLs2 := Lib.hid ((HSLs1.out).next (Nat.le_refl _) hb_)
   clear hb_
   refine hK.out _ _ HSAs2.out (fun _ => ?_)
   clear hK K
   try simp only [Act.put, List.setIfInBounds_toArray, List.set_cons_zero, List.set_cons_succ]
   have hss : (sz == sz) = true := by cases sz <;> rfl
   refine wpAnyH_take (i := 6) (oi := ⟨some 43, _, _, _, _, _⟩) (v := .bool true) rfl (by kernel_rfl) (by kernel_rfl) (by kernel_rfl) (fun _ _ _ h => h) (Or.inl ⟨by rfl, fun w' hS => by go_simp⟩) HSAs2.out ?_
   try simp only [Act.put, List.setIfInBounds_toArray, List.set_cons_zero, List.set_cons_succ]
   refine wpAnyH_take (i := 7) (oi := ⟨some 44, _, _, _, _, _⟩) (v := .bool true) rfl (by kernel_rfl) (by kernel_rfl) (by kernel_rfl) (fun _ _ _ h => h) (Or.inl ⟨by rfl, fun w' hS => by go_simp⟩) HSAs2.out ?_
   try simp only [Act.put, List.setIfInBounds_toArray, List.set_cons_zero, List.set_cons_succ]
   clear hss
   refine wpAnyH_ready (rs := [8]) (by kernel_rfl) (by simp) ?_
   refine AllReadyH.cons (o := ⟨some 45, .call ⟨_, _, _⟩, _, _, _, _⟩) rfl (fun K hK => ?_) AllReadyH.nil
   go_simp
   go_at_call 11
   refine (known31_any _ (H7.out.below HBs2.out)).mono ?_
   rintro e' s3 ⟨rfl, hb_⟩
   have HSAs3 := Lib.hid (show BoxL s3 w2.heap.size [.slice AT L.length cT] from (HSAs2.out).kept (grown_none hb_) (fun e => by cases e))
   have HSs3 := Lib.hid (show s2.heap.size ≤ s3.heap.size from hb_.size)
   have HBs3 := Lib.hid (HBs2.out.trans (hb_.mono HBs2.out.size))
   have ts3 := Lib.hid (ts2.out.kept (grown_none hb_) (fun e => by cases e))
   have HSLs3 := Lib.hid ((HSLs2.out).next (Nat.le_refl _) hb_)
   clear hb_
   refine hK.out _ _ HSAs3.out (fun _ => ?_)
   clear hK K
   try simp only [Act.put, List.setIfInBounds_toArray, List.set_cons_zero, List.set_cons_succ]
   refine wpAnyH_take (i := 9) (oi := ⟨some 46, _, _, _, _, _⟩) (v := .bool true) rfl (by kernel_rfl) (by kernel_rfl) (by kernel_rfl) (fun _ _ _ h => h) (Or.inl ⟨by rfl, fun w' hS => by go_simp⟩) HSAs3.out ?_
   try simp only [Act.put, List.setIfInBounds_toArray, List.set_cons_zero, List.set_cons_succ]
   refine wpAnyH_take (i := 10) (oi := ⟨some 4, _, _, _, _, _⟩) (v := .bool true) rfl (by kernel_rfl) (by kernel_rfl) (by kernel_rfl) (fun _ _ _ h => h) (Or.inl ⟨by rfl, fun w' hS => by go_simp⟩) HSAs3.out ?_
   try simp only [Act.put, List.setIfInBounds_toArray, List.set_cons_zero, List.set_cons_succ]
   refine wpAnyH_done (by kernel_rfl) ?_ _
   go_wp2
   go_ret
   exact ⟨by try rfl, HBs3.out⟩
end Go.Proofs.YtehmidmoiamcfaaGreatDoor
namespace Go.Proofs.YtehmidmoiamcfaaGreatDoor
open Go.RowKit Go.Cold
namespace cPartitionRights
open Go.ChangeShapes Go.WideShapes Go.ChangeAt
open Go.ChangeMaps (open_string)
set_option maxRecDepth 100000
theorem reads (os : Os) {H : Type} (enc : TypeId × Value → H) : ∃ places, DataW.whole enc Tryz.prog ((World.laidAll Tryz.prog os Rows.partitionRightsRow.laid).forCall (fun _ _ => 0) ⟨#[], #[.slice none 0 0, .int .i64 0], []⟩).memory Tryz.f8.params.toList Rows.partitionRightsSpec.vars false (#[.slice none 0 0, .int .i64 0] : Array Value).toList 8 = some ([.nil, .lit (.int .i64 0)], [], places) :=
 ⟨[], by kernel_rfl⟩
theorem lifted (os : Os) (started : os.Started) (H : Type) (enc : TypeId × Value → H) (F : Stop.Interp) :
  ReturnsInHanded {} Tryz.checked os 8 .any ((OpenSpec.ofChange Rows.partitionRightsSpec).preRow enc Tryz.prog Tryz.f8 Rows.partitionRightsRow.domain false Rows.partitionRightsRow.laid) (((OpenSpec.ofChange Rows.partitionRightsSpec).at F).post enc Tryz.prog Tryz.f8 false true false false) := by
 obtain ⟨places, hx⟩ := reads os enc
 refine law_lifted os started H enc F (by kernel_rfl) Tryz.func8 #[.slice none 0 0, .int .i64 0] (World.shaped_of_ZipB (by kernel_rfl) (by kernel_rfl)) (by kernel_rfl)
  (OpenSpec.preRow_of_cond 8 hx (by kernel_rfl) (fun k hk => by cases hk) (by kernel_rfl) (laidMet_laidAll _ (by kernel_rfl) (by kernel_rfl))) rfl rfl
  (fun ds hl => by
   rw [Tryz.params8] at hl
   match ds, hl with
   | [d0, d1], _ => rfl) (by kernel_rfl) ?_
 intro W base args ds ps hval hA hlt hz hsh hlaid
 rw [Tryz.params8] at hA hval
 obtain ⟨v0, vs0, d0, ds0, p0, q0, hargs, rfl, rfl, h0, r0⟩ := trodAll_cons hA
 obtain ⟨v1, vs1, d1, ds1, p1, q1, rfl, rfl, rfl, h1, r1⟩ := trodAll_cons r0
 obtain ⟨rfl, rfl, rfl⟩ := trodAll_nil r1
 obtain rfl : args = #[v0, v1] := by cases args; simp_all
 obtain ⟨A0, c0, xs0, rfl, s0⟩ := open_nums Tryz.underlying29 Tryz.underlying3 (by kernel_rfl) (hval 0 29 v0 rfl rfl) h0 (fun x hx => hlt x (List.mem_append_left _ hx))
 obtain ⟨a1, rfl, rfl, rfl, w1⟩ := open_int Tryz.underlying3 (hval 1 3 v1 rfl rfl) h1
 exact lawRights31_any A0 c0 xs0 a1 W (show Ok W from Tryz.laysM146.s1_3 W hsh) (ok7_of_laid hlaid) s0 (wf_i64.1 w1)
theorem said : Rows.PartitionRightsSaid :=
 OpenClaim.holds_of_cond 8 Tryz.f8 rfl rfl rfl rfl rfl rfl rfl ⟨rfl, rfl, rfl, rfl, rfl⟩ rfl rfl rfl rfl rfl (by kernel_rfl) Tryz.func8 (by kernel_rfl)
  (of_decide_eq_true (by kernel_rfl)) (by unfold Func.isWrapper; first | (rw [if_pos (by decide +kernel)]; kernel_rfl) | (rw [if_neg (by decide +kernel)]; exact ⟨rfl, rfl⟩))
  (fun os started H enc _ F => by rw [OpenClaim.pre_eq_preRow]; exact lifted os started H enc F)
theorem plain (f : FuncId) (fn : Func) (hf : Tryz.pinned.checked.prog.funcNamed Rows.partitionRightsRow.func = some f) (hfn : Tryz.pinned.checked.prog.funcs[f]? = some fn) :
  true = Tryz.pinned.checked.prog.looks [] ∧ ∀ (j : Nat) t, fn.params[j]? = some t → Tryz.pinned.checked.prog.wantsStandIn t = false := by
 obtain rfl : f = 8 := Option.some.inj ((show Tryz.prog.funcNamed Rows.partitionRightsRow.func = some 8 by kernel_rfl).symm.trans hf) |>.symm
 obtain rfl : fn = Tryz.f8 := (Option.some.inj (Tryz.func8.symm.trans hfn)).symm
 refine ⟨by kernel_rfl, fun j t ht => ?_⟩
 rw [Tryz.params8] at ht
 have hm : t ∈ [29, 3] := by simpa using Array.mem_of_getElem? ht
 have hall : ([29, 3].all fun u => !Tryz.prog.wantsStandIn u) = true := by kernel_rfl
 exact (show Tryz.prog.wantsStandIn t = false by simpa using List.all_eq_true.1 hall t hm)
/-- The card. -/
theorem card : Rows.PartitionRightsCardSaid :=
 Claim7.holds_tied_plain_at .later [] _ _ _ _ said (fun _ h => by cases h) (by kernel_rfl) (fun _ h => by cases h) partitionRights_row_tie rfl ⟨rfl, rfl⟩ (by kernel_rfl) rfl plain (by kernel_rfl)
end cPartitionRights
end Go.Proofs.YtehmidmoiamcfaaGreatDoor
