/-
  PartitionWants: row and card.
 Conditions: those of the given row and card (the listed variables of the library hold what the text lays), nothing else.
-/
import Derived.Test.YtehmidmoiamcfaaGreatDoorHTC
import Derived.Test.YtehmidmoiamcfaaGreatDoorHO
import Derived.Test.YtehmidmoiamcfaaGreatDoorHSH
import Derived.ShutString
set_option linter.unusedSimpArgs false
set_option linter.unusedVariables false
namespace Go.Cold
open Go Go.RowKit
/-- The law's device: a disk whose kind may have been changed. -/
def diskK (o t : ByteArray) (kk : Int) : Dev := { diskD o t with kind := kk }
def WaL (w : World) (gd : Nat) (o t : ByteArray) (A : Option Addr) (c : Nat) (kk : Int) (wx : World) : Prop :=
 Below w.heap.size w wx ∧ BoxL wx gd [.int .i64 1, .int .i64 0, .string o, .string o, .string ⟨#[98, 108, 111, 99, 107]⟩, .string ByteArray.empty, .string ByteArray.empty, .int .i64 kk, .int .i64 1, .slice A 1 c] ∧ SlS wx (fun x => x < gd) A c (diskD o t).attrs ∧ gd < wx.heap.size
def nms31 : List ByteArray := [⟨#[115, 100, 97]⟩, ⟨#[110, 118, 109, 101, 48]⟩, ⟨#[120, 33, 121]⟩, ⟨#[97, 98, 99, 100, 101, 102, 103, 104, 105, 106, 107, 108, 109, 110, 111, 112, 113, 114, 115, 116, 117, 118, 119, 120, 121, 122, 97, 98, 99]⟩, ⟨#[97, 98, 99, 100, 101, 102, 103, 104, 105, 106, 107, 108, 109, 110, 111, 112, 113, 114, 115, 116, 117, 118, 119, 120, 121, 122, 97, 98, 99, 100]⟩, ⟨#[]⟩]
end Go.Cold
namespace Go.Proofs.YtehmidmoiamcfaaGreatDoor
open Go.RowKit Go.Cold
set_option maxRecDepth 100000 in
set_option maxHeartbeats 4000000 in
theorem lawWants31_any (A : Option Addr) (c : Nat) (xs : List Int) (raw origin : ByteArray) (round : Int) (w : World) (hok : Ok w) (h7 : Ok7 w) (hx : Sl w w.heap.size A c xs) (ho : raw.size ≤ 281474976710656) (hp : origin.size ≤ 281474976710656) (hr : okI round) :
  Calls Tryz.prog 7 #[.slice A xs.length c, .string raw, .string origin, .int .i64 round] w fun e w' => e = .returned (.bool true) ∧ Below w.heap.size w w' := by
 have hw1 := sum_wrap ho hp; have hw2 := sum_wrap2 ho hp
 have H7 := Lib.hid h7; have HOK := Lib.hid hok; have HX := Lib.hid hx; have HR := Lib.hid hr
 clear hok h7 hx hr
 go_enter Tryz.func7, Tryz.ntmps7
 by_cases hc : 600 < raw.size + origin.size
 ·
  have i1 : (600 : Int) < ((raw.size + origin.size : Nat) : Int) := by omega
  have i2 : ((raw.size + origin.size : Nat) : Int) > 600 := by omega
  have i3 : (600 : Int) < (raw.size : Int) + (origin.size : Int) := by omega
  clear ho hp hc
  go_wp2_with fail
  refine (known31_any _ H7.out).mono ?_
  rintro e w1 ⟨rfl, hb1⟩
  go_wp2
  go_ret
  exact ⟨rfl, hb1⟩
 have i1 : ¬ (600 : Int) < ((raw.size + origin.size : Nat) : Int) := by omega
 have i2 : ¬ ((raw.size + origin.size : Nat) : Int) > 600 := by omega
 have i3 : ¬ (600 : Int) < (raw.size : Int) + (origin.size : Int) := by omega
 have HS := Lib.hid (show raw.size ≤ 600 ∧ origin.size ≤ 600 by omega)
 clear ho hp hc
 go_upto_region 4 with fail
 have htape := tape_new HX.out
 obtain ⟨w1, hw1_⟩ : ∃ z, w.alloc (.cells #[.slice A xs.length c, .int .i64 0] 32) = z := ⟨_, rfl⟩
 rw [hw1_] at htape
 have hb1 : Below w.heap.size w w1 := by rw [← hw1_]; exact (Below.refl _ _).alloc (Nat.le_refl _) _
 have HG1 := Lib.hid (show w1.heap.size = w.heap.size + 1 by rw [← hw1_]; simp)
 try rw [hw1_]
 have HT1 := Lib.hid htape; have HB1 := Lib.hid hb1
 clear hw1_ htape hb1
 clear hw1 hw2 i1 i2 i3
 go_wp2_with fail
 refine (One_lit nms31 xs 0 w.heap.size w.heap.size _ _ _ _ rfl rfl (by decide) HT1.out (by decide) (by decide)).mono ?_
 rintro e w2 ⟨nm, hm_, rfl, ht_, hg_⟩
 have HNM := Lib.hid ((show ∀ y ∈ nms31, y.size ≤ 40 by decide) nm hm_); clear hm_
 have HT2 := Lib.hid ht_; have HB2 := Lib.hid (below_of_grown HB1.out hg_ HB1.out.size (Nat.le_refl _)); have HS2 := Lib.hid hg_.size; clear ht_ hg_
 go_wp2_with fail
 refine (text31_any raw xs (0 + 1) w.heap.size w.heap.size _ (by decide) HT2.out (by have := HS.out.1; unfold maxLen; omega)).mono ?_
 rintro e w3 ⟨t, k3, rfl, hts, hk3, ht_, hg_⟩
 have HTS := Lib.hid (show t.size ≤ 2620 by have := HS.out.1; omega); have HK3 := Lib.hid (show k3 ≤ 10 by omega); clear hts hk3
 have HT3 := Lib.hid ht_; have HB3 := Lib.hid (below_of_grown HB2.out hg_ HB2.out.size (Nat.le_refl _)); have HS3 := Lib.hid hg_.size; clear ht_ hg_
 go_wp2_with fail
 refine (disk_any nm t _ (by have := HNM.out; unfold maxLen; omega) (by have := HTS.out; unfold maxLen; omega)).mono ?_
 rintro e w4 ⟨hb_, A4, c4, rfl, hsl⟩
 have HB4 := Lib.hid (HB3.out.trans (hb_.mono HB3.out.size)); have HT4 := Lib.hid (HT3.out.kept (grown_none hb_) (fun e => by cases e) (fun g e => by cases e)); have HSL4 := Lib.hid hsl; clear hb_ hsl
 go_upto_region 5 with fail
 obtain ⟨w5, hw5⟩ : ∃ z, w4.alloc (.cells #[.int .i64 1, .int .i64 0, .string nm, .string nm, .string ⟨#[98, 108, 111, 99, 107]⟩, .string ByteArray.empty, .string ByteArray.empty, .int .i64 2, .int .i64 1, .slice A4 1 c4] 43) = z := ⟨_, rfl⟩
 have hb_ : Below w4.heap.size w4 w5 := by rw [← hw5]; exact (Below.refl _ _).alloc (Nat.le_refl _) _
 have hx_ : BoxL w5 w4.heap.size [.int .i64 1, .int .i64 0, .string nm, .string nm, .string ⟨#[98, 108, 111, 99, 107]⟩, .string ByteArray.empty, .string ByteArray.empty, .int .i64 2, .int .i64 1, .slice A4 1 c4] := box_mk hw5
 have HG5 := Lib.hid (show w5.heap.size = w4.heap.size + 1 by rw [← hw5]; simp)
 try rw [hw5]
 have HB5 := Lib.hid (HB4.out.trans (hb_.mono HB4.out.size)); have HT5 := Lib.hid (HT4.out.kept (grown_none hb_) (fun e => by cases e) (fun g e => by cases e)); have HXD5 := Lib.hid hx_; have HSL5 := Lib.hid ((HSL4.out.below hb_ (fun x hx => hx.2)).mono (fun x hx => (hx.2 : x < w4.heap.size)) (fun _ _ _ _ hu => hu)); have HB45 := Lib.hid hb_; clear hw5 hb_ hx_
 have HGT := Lib.hid (show w.heap.size < w4.heap.size by have := HG1.out; have := HB4.out.size; have := HT4.out.choose_spec.choose_spec.2.2.2.2.2; omega)
 go_wp2_with fail
 refine (Next_lit 6 xs k3 w.heap.size w.heap.size _ (by have := HK3.out; omega) HT5.out (by omega) (by omega)).mono ?_
 rintro e w6 ⟨n, h0_, h1_, rfl, ht_, hg_⟩
 clear h0_ h1_
 have HXD6 := Lib.hid (HXD5.out.kept hg_ (fun e => by have := Option.some.inj e; have := HGT.out; omega)); have HSL5' := Lib.hid ((HSL4.out.mono (S' := fun x => x < w4.heap.size ∧ x ≠ w.heap.size) (fun x hx => ⟨hx.2, by have := HT3.out.choose_spec.choose_spec.2.2.2.2.2; have := hx.1; omega⟩) (fun _ _ _ _ hu => hu)))
 have HSL6 := Lib.hid (show SlS w6 (fun x => x < w4.heap.size ∧ x ≠ w.heap.size) A4 c4 (diskD nm t).attrs from (((HSL5'.out).mono (fun _ h => h) (fun b o u hb hu => (HB45.out.cell (p := ⟨b, o, none⟩) (by exact hb.1)).trans hu))).tape hg_ (fun x hx => hx.2))
 have HT6 := Lib.hid ht_; have HB6 := Lib.hid (below_of_grown HB5.out hg_ HB5.out.size (Nat.le_refl _)); have HS6 := Lib.hid hg_.size; clear ht_ hg_
 go_upto_if 30 with fail
 go_cut [] (fun wx => ∃ kk : Int, Hid (okI kk) ∧ Hid (WaL w w4.heap.size nm t A4 c4 kk wx))
 case first =>
  by_cases h0 : n = 0
  ·
   have p1 : (n == 0) = true := by simpa using h0
   clear h0
   go_wp2_with fail
   refine (Next_lit 4 xs (k3 + 1) w.heap.size w.heap.size _ (by have := HK3.out; omega) HT6.out (by omega) (by omega)).mono ?_
   rintro e w7 ⟨m, h0_, h1_, rfl, ht_, hg_⟩
   have HM := Lib.hid (show okI (1 + m) by unfold okI; omega)
   have hwr1 : wrap64 (1 + m) = 1 + m := by unfold wrap64; omega
   have hwr2 : IntKind.i64.wrap (1 + m) = 1 + m := by rw [IntKind.wrap_i64]; omega
   clear h0_ h1_
   have HXD7 := Lib.hid (HXD6.out.kept hg_ (fun e => by have := Option.some.inj e; have := HGT.out; omega)); have HSL7 := Lib.hid (HSL6.out.tape hg_ (fun x hx => hx.2))
   have HT7 := Lib.hid ht_; have HB7 := Lib.hid (below_of_grown HB6.out hg_ HB6.out.size (Nat.le_refl _)); have HS7 := Lib.hid hg_.size; clear ht_ hg_
   have x7 := HXD7.out.1 7 _ rfl
   have xf := HXD7.out.2.1
   have hset := HXD7.out.set_ (j := 7) (by simp) (.int .i64 (1 + m))
   have HSET := Lib.hid (show BoxL (w7.setCell ⟨w4.heap.size, 7, none⟩ (.int .i64 (1 + m))) w4.heap.size [.int .i64 1, .int .i64 0, .string nm, .string nm, .string ⟨#[98, 108, 111, 99, 107]⟩, .string ByteArray.empty, .string ByteArray.empty, .int .i64 (1 + m), .int .i64 1, .slice A4 1 c4] from hset); clear hset
   go_wp2_with fail
   go_meet
   exact ⟨1 + m, HM, HB7.out.setCell (by have := HGT.out; show w.heap.size ≤ w4.heap.size; omega) _, HSET.out, (HSL7.out.set_ (fun x hx => by omega) _).mono (fun x hx => hx.1) (fun _ _ _ _ hu => hu), by have := HXD7.out.2.2; simpa using this⟩
  ·
   have p1 : (n == 0) = false := by simpa using h0
   clear h0
   go_wp2_with fail
   go_meet
   exact ⟨2, Lib.hid (by unfold okI; omega), HB6.out, HXD6.out, HSL6.out.mono (fun x hx => hx.1) (fun _ _ _ _ hu => hu), HXD6.out.2.2⟩
 case rest =>
  obtain ⟨kk, HKK, HW⟩ := hcut
  clear HXD6 HSL6 HT6 HB6 HXD5 HSL5 HSL4 HT5 HT4
  go_upto_region 7 with fail
  have HBwc := Lib.hid HW.out.1; have HXDwc := Lib.hid HW.out.2.1; have HSAwc := Lib.hid (HW.out.2.2.1.sl (B := wc.heap.size) (fun x hx => by have := HW.out.2.2.2; omega)); clear HW
  refine wp_region_held_drew (S := fun w' => BoxL w' w4.heap.size [.int .i64 1, .int .i64 0, .string nm, .string nm, .string ⟨#[98, 108, 111, 99, 107]⟩, .string ByteArray.empty, .string ByteArray.empty, .int .i64 kk, .int .i64 1, .slice A4 1 c4]) (by kernel_rfl) HXDwc.out.drew (fun hS0 => ?_)
  obtain ⟨wd, hwd⟩ : ∃ z, World.drew wc = z := ⟨_, rfl⟩
  rw [hwd] at hS0 ⊢
  have hb_ : Below wc.heap.size wc wd := by rw [← hwd]; exact below_drewN_self _ _ 1
  clear hwd hS0
  have HBwd := Lib.hid (HBwc.out.trans (hb_.mono HBwc.out.size))
  have dwd := Lib.hid (HXDwc.out.kept (grown_none hb_) (fun e => by cases e))
  have HSAwd := Lib.hid ((HSAwc.out).next (Nat.le_refl _) hb_)
  clear hb_
  refine wpAnyH_take (i := 0) (oi := ⟨some 35, _, _, _, _, _⟩) (v := .agg #[.int .i64 1, .int .i64 0, .string nm, .string nm, .string ⟨#[98, 108, 111, 99, 107]⟩, .string ByteArray.empty, .string ByteArray.empty, .int .i64 kk, .int .i64 1, .slice A4 1 c4]) rfl (by kernel_rfl) (by kernel_rfl) (by kernel_rfl) (fun _ _ _ h => h) (Or.inl ⟨by rfl, fun w' hS => by (have u0_ := hS.1 0 _ rfl; have u1_ := hS.1 1 _ rfl; have u2_ := hS.1 2 _ rfl; have u3_ := hS.1 3 _ rfl; have u4_ := hS.1 4 _ rfl; have u5_ := hS.1 5 _ rfl; have u6_ := hS.1 6 _ rfl; have u7_ := hS.1 7 _ rfl; have u8_ := hS.1 8 _ rfl; have u9_ := hS.1 9 _ rfl; go_simp)⟩) dwd.out ?_
  try simp only [Act.put, List.setIfInBounds_toArray, List.set_cons_zero, List.set_cons_succ]
  refine wpAnyH_take (i := 1) (oi := ⟨some 36, _, _, _, _, _⟩) (v := .string origin) rfl (by kernel_rfl) (by kernel_rfl) (by kernel_rfl) (fun _ _ _ h => h) (Or.inl ⟨by rfl, fun w' hS => by go_simp⟩) dwd.out ?_
  try simp only [Act.put, List.setIfInBounds_toArray, List.set_cons_zero, List.set_cons_succ]
  refine wpAnyH_take (i := 2) (oi := ⟨some 37, _, _, _, _, _⟩) (v := .int .i64 round) rfl (by kernel_rfl) (by kernel_rfl) (by kernel_rfl) (fun _ _ _ h => h) (Or.inl ⟨by rfl, fun w' hS => by go_simp⟩) dwd.out ?_
  try simp only [Act.put, List.setIfInBounds_toArray, List.set_cons_zero, List.set_cons_succ]
  refine wpAnyH_take (i := 4) (oi := ⟨some 39, _, _, _, _, _⟩) (v := .agg #[.int .i64 1, .int .i64 0, .string nm, .string nm, .string ⟨#[98, 108, 111, 99, 107]⟩, .string ByteArray.empty, .string ByteArray.empty, .int .i64 kk, .int .i64 1, .slice A4 1 c4]) rfl (by kernel_rfl) (by kernel_rfl) (by kernel_rfl) (fun _ _ _ h => h) (Or.inl ⟨by rfl, fun w' hS => by (have u0_ := hS.1 0 _ rfl; have u1_ := hS.1 1 _ rfl; have u2_ := hS.1 2 _ rfl; have u3_ := hS.1 3 _ rfl; have u4_ := hS.1 4 _ rfl; have u5_ := hS.1 5 _ rfl; have u6_ := hS.1 6 _ rfl; have u7_ := hS.1 7 _ rfl; have u8_ := hS.1 8 _ rfl; have u9_ := hS.1 9 _ rfl; go_simp)⟩) dwd.out ?_
  try simp only [Act.put, List.setIfInBounds_toArray, List.set_cons_zero, List.set_cons_succ]
  refine wpAnyH_take (i := 5) (oi := ⟨some 40, _, _, _, _, _⟩) (v := .string origin) rfl (by kernel_rfl) (by kernel_rfl) (by kernel_rfl) (fun _ _ _ h => h) (Or.inl ⟨by rfl, fun w' hS => by go_simp⟩) dwd.out ?_
  try simp only [Act.put, List.setIfInBounds_toArray, List.set_cons_zero, List.set_cons_succ]
  refine wpAnyH_take (i := 6) (oi := ⟨some 41, _, _, _, _, _⟩) (v := .int .i64 round) rfl (by kernel_rfl) (by kernel_rfl) (by kernel_rfl) (fun _ _ _ h => h) (Or.inl ⟨by rfl, fun w' hS => by go_simp⟩) dwd.out ?_
  try simp only [Act.put, List.setIfInBounds_toArray, List.set_cons_zero, List.set_cons_succ]
  obtain ⟨L, hL⟩ : ∃ z, wantsD (diskK nm t kk) origin round = z := ⟨_, rfl⟩
  have HL := Lib.hid hL; clear hL
  refine wpAnyH_ready (rs := [3]) (by kernel_rfl) (by simp) ?_
  refine AllReadyH.cons (o := ⟨some 38, .call ⟨_, _, _⟩, _, _, _, _⟩) rfl (fun K hK => ?_) AllReadyH.nil
  go_simp
  go_at_call 18
  refine (Wants_any A4 c4 (diskK nm t kk) origin round _ wd.heap.size (Nat.le_refl _) HSAwd.out (H7.out.below HBwd.out) (by show nm.size ≤ _; have := HNM.out; unfold maxLen; omega) (by have := HS.out.2; unfold maxLen; omega) HR.out).mono ?_
  rintro e' q1 ⟨hb_, v_, rfl, hown_⟩
  rw [HL.out] at hown_
  obtain ⟨A8, c8, rfl, hs_⟩ := hown_.sl
  have HBq1 := Lib.hid (HBwd.out.trans (hb_.mono HBwd.out.size))
  have dq1 := Lib.hid (dwd.out.kept (grown_none hb_) (fun e => by cases e))
  have HSAq1 := Lib.hid ((HSAwd.out).next (Nat.le_refl _) hb_)
  have HV8 := Lib.hid hs_; clear hs_ hown_ hb_
  refine hK.out _ _ dq1.out (fun _ => ?_)
  clear hK K
  try simp only [Act.put, List.setIfInBounds_toArray, List.set_cons_zero, List.set_cons_succ]
  refine wpAnyH_ready (rs := [7]) (by kernel_rfl) (by simp) ?_
  refine AllReadyH.cons (o := ⟨some 42, .call ⟨_, _, _⟩, _, _, _, _⟩) rfl (fun K hK => ?_) AllReadyH.nil
  go_simp
  go_at_call 25
  refine (RWants_any A4 c4 (diskK nm t kk) origin round _ q1.heap.size (Nat.le_refl _) HSAq1.out (H7.out.below HBq1.out) (Ok8.below HOK.out (HBq1.out)) (by show nm.size ≤ _; have := HNM.out; unfold maxLen; omega) (by have := HS.out.2; unfold maxLen; omega) HR.out).mono ?_
  rintro e' q2 ⟨hb_, v_, rfl, hown_⟩
  rw [HL.out] at hown_
  obtain ⟨A9, c9, rfl, hs_⟩ := hown_.sl
  have HBq2 := Lib.hid (HBq1.out.trans (hb_.mono HBq1.out.size))
  have dq2 := Lib.hid (dq1.out.kept (grown_none hb_) (fun e => by cases e))
  have HSAq2 := Lib.hid ((HSAq1.out).next (Nat.le_refl _) hb_)
  have HV8q2 := Lib.hid ((HV8.out).next (Nat.le_refl _) hb_)
  have HV9 := Lib.hid hs_; clear hs_ hown_ hb_
  refine hK.out _ _ dq2.out (fun _ => ?_)
  clear hK K
  try simp only [Act.put, List.setIfInBounds_toArray, List.set_cons_zero, List.set_cons_succ]
  refine wpAnyH_ready (rs := [8]) (by kernel_rfl) (by simp) ?_
  refine AllReadyH.cons (o := ⟨some 43, .call ⟨_, _, _⟩, _, _, _, _⟩) rfl (fun K hK => ?_) AllReadyH.nil
  go_simp
  go_at_call 24
  refine (SameVirtuals_same A8 A9 c8 c9 L _ _ _ HV8q2.out HV9.out).mono ?_
  rintro e' w9 ⟨rfl, n9, h9_⟩
  have hb_ : Below q2.heap.size q2 w9 := by rw [h9_]; exact below_drewN_self _ _ _
  clear h9_
  have HBw9 := Lib.hid (HBq2.out.trans (hb_.mono HBq2.out.size))
  have dw9 := Lib.hid (dq2.out.kept (grown_none hb_) (fun e => by cases e))
  have HSAw9 := Lib.hid ((HSAq2.out).next (Nat.le_refl _) hb_)
  have HV8w9 := Lib.hid ((HV8q2.out).next (Nat.le_refl _) hb_)
  have HV9w9 := Lib.hid ((HV9.out).next (Nat.le_refl _) hb_)
  clear hb_
  refine hK.out _ _ dw9.out (fun _ => ?_)
  clear hK K
  try simp only [Act.put, List.setIfInBounds_toArray, List.set_cons_zero, List.set_cons_succ]
  refine wpAnyH_take (i := 9) (oi := ⟨some 44, _, _, _, _, _⟩) (v := .bool true) rfl (by kernel_rfl) (by kernel_rfl) (by kernel_rfl) (fun _ _ _ h => h) (Or.inl ⟨by rfl, fun w' hS => by go_simp⟩) dw9.out ?_
  try simp only [Act.put, List.setIfInBounds_toArray, List.set_cons_zero, List.set_cons_succ]
  refine wpAnyH_ready (rs := [10]) (by kernel_rfl) (by simp) ?_
  refine AllReadyH.cons (o := ⟨some 45, .call ⟨_, _, _⟩, _, _, _, _⟩) rfl (fun K hK => ?_) AllReadyH.nil
  go_simp
  go_at_call 11
  refine (known31_any _ (H7.out.below HBw9.out)).mono ?_
  rintro e' w10 ⟨rfl, hb_⟩
  have HBw10 := Lib.hid (HBw9.out.trans (hb_.mono HBw9.out.size))
  have dw10 := Lib.hid (dw9.out.kept (grown_none hb_) (fun e => by cases e))
  have HSAw10 := Lib.hid ((HSAw9.out).next (Nat.le_refl _) hb_)
  have HV8w10 := Lib.hid ((HV8w9.out).next (Nat.le_refl _) hb_)
  have HV9w10 := Lib.hid ((HV9w9.out).next (Nat.le_refl _) hb_)
  clear hb_
  refine hK.out _ _ dw10.out (fun _ => ?_)
  clear hK K
  try simp only [Act.put, List.setIfInBounds_toArray, List.set_cons_zero, List.set_cons_succ]
  refine wpAnyH_take (i := 11) (oi := ⟨some 46, _, _, _, _, _⟩) (v := .bool true) rfl (by kernel_rfl) (by kernel_rfl) (by kernel_rfl) (fun _ _ _ h => h) (Or.inl ⟨by rfl, fun w' hS => by go_simp⟩) dw10.out ?_
  try simp only [Act.put, List.setIfInBounds_toArray, List.set_cons_zero, List.set_cons_succ]
  refine wpAnyH_take (i := 12) (oi := ⟨some 8, _, _, _, _, _⟩) (v := .bool true) rfl (by kernel_rfl) (by kernel_rfl) (by kernel_rfl) (fun _ _ _ h => h) (Or.inl ⟨by rfl, fun w' hS => by go_simp⟩) dw10.out ?_
  try simp only [Act.put, List.setIfInBounds_toArray, List.set_cons_zero, List.set_cons_succ]
  refine wpAnyH_done (by kernel_rfl) ?_ _
  go_wp2
  go_ret
  exact ⟨rfl, HBw10.out⟩
end Go.Proofs.YtehmidmoiamcfaaGreatDoor
namespace Go.Proofs.YtehmidmoiamcfaaGreatDoor
open Go.RowKit Go.Cold
namespace cPartitionWants
open Go.ChangeShapes Go.WideShapes Go.ChangeAt
open Go.ChangeMaps (open_string)
set_option maxRecDepth 100000
theorem reads (os : Os) {H : Type} (enc : TypeId × Value → H) : ∃ places, DataW.whole enc Tryz.prog ((World.laidAll Tryz.prog os Rows.partitionWantsRow.laid).forCall (fun _ _ => 0) ⟨#[], #[.slice none 0 0, .string ⟨#[]⟩, .string ⟨#[]⟩, .int .i64 0], []⟩).memory Tryz.f7.params.toList Rows.partitionWantsSpec.vars false (#[.slice none 0 0, .string ⟨#[]⟩, .string ⟨#[]⟩, .int .i64 0] : Array Value).toList 8 = some ([.nil, .lit (.string []), .lit (.string []), .lit (.int .i64 0)], [], places) :=
 ⟨[], by kernel_rfl⟩
theorem lifted (os : Os) (started : os.Started) (H : Type) (enc : TypeId × Value → H) (F : Stop.Interp) :
  ReturnsInHanded {} Tryz.checked os 7 .any ((OpenSpec.ofChange Rows.partitionWantsSpec).preRow enc Tryz.prog Tryz.f7 Rows.partitionWantsRow.domain false Rows.partitionWantsRow.laid) (((OpenSpec.ofChange Rows.partitionWantsSpec).at F).post enc Tryz.prog Tryz.f7 false true false false) := by
 obtain ⟨places, hx⟩ := reads os enc
 refine law_lifted os started H enc F (by kernel_rfl) Tryz.func7 #[.slice none 0 0, .string ⟨#[]⟩, .string ⟨#[]⟩, .int .i64 0] (World.shaped_of_ZipB (by kernel_rfl) (by kernel_rfl)) (by kernel_rfl)
  (OpenSpec.preRow_of_cond 8 hx (by kernel_rfl) (fun k hk => by cases hk) (by kernel_rfl) (laidMet_laidAll _ (by kernel_rfl) (by kernel_rfl))) rfl rfl
  (fun ds hl => by
   rw [Tryz.params7] at hl
   match ds, hl with
   | [d0, d1, d2, d3], _ => rfl) (by kernel_rfl) ?_
 intro W base args ds ps hval hA hlt hz hsh hlaid
 rw [Tryz.params7] at hA hval
 obtain ⟨v0, vs0, d0, ds0, p0, q0, hargs, rfl, rfl, h0, r0⟩ := trodAll_cons hA
 obtain ⟨v1, vs1, d1, ds1, p1, q1, rfl, rfl, rfl, h1, r1⟩ := trodAll_cons r0
 obtain ⟨v2, vs2, d2, ds2, p2, q2, rfl, rfl, rfl, h2, r2⟩ := trodAll_cons r1
 obtain ⟨v3, vs3, d3, ds3, p3, q3, rfl, rfl, rfl, h3, r3⟩ := trodAll_cons r2
 obtain ⟨rfl, rfl, rfl⟩ := trodAll_nil r3
 obtain rfl : args = #[v0, v1, v2, v3] := by cases args; simp_all
 obtain ⟨A0, c0, xs0, rfl, s0⟩ := open_nums Tryz.underlying29 Tryz.underlying3 (by kernel_rfl) (hval 0 29 v0 rfl rfl) h0 (fun x hx => hlt x (List.mem_append_left _ hx))
 obtain ⟨a1, rfl, rfl, rfl, w1⟩ := open_string Tryz.underlying9 (hval 1 9 v1 rfl rfl) h1
 obtain ⟨a2, rfl, rfl, rfl, w2⟩ := open_string Tryz.underlying9 (hval 2 9 v2 rfl rfl) h2
 obtain ⟨a3, rfl, rfl, rfl, w3⟩ := open_int Tryz.underlying3 (hval 3 3 v3 rfl rfl) h3
 have hzz := hz
 rw [Tryz.params7] at hzz
 simp [DataW.weightsEach, DataW.weights, reachBytes] at hzz
 exact lawWants31_any A0 c0 xs0 a1 a2 a3 W (show Ok W from Tryz.laysM146.s1_3 W hsh) (ok7_of_laid hlaid) s0 (Nat.le_trans (of_decide_eq_true hzz.2.1) (by decide)) (Nat.le_trans (of_decide_eq_true hzz.2.2) (by decide)) (wf_i64.1 w3)
theorem said : Rows.PartitionWantsSaid :=
 OpenClaim.holds_of_cond 7 Tryz.f7 rfl rfl rfl rfl rfl rfl rfl ⟨rfl, rfl, rfl, rfl, rfl⟩ rfl rfl rfl rfl rfl (by kernel_rfl) Tryz.func7 (by kernel_rfl)
  (of_decide_eq_true (by kernel_rfl)) (by unfold Func.isWrapper; first | (rw [if_pos (by decide +kernel)]; kernel_rfl) | (rw [if_neg (by decide +kernel)]; exact ⟨rfl, rfl⟩))
  (fun os started H enc _ F => by rw [OpenClaim.pre_eq_preRow]; exact lifted os started H enc F)
theorem plain (f : FuncId) (fn : Func) (hf : Tryz.pinned.checked.prog.funcNamed Rows.partitionWantsRow.func = some f) (hfn : Tryz.pinned.checked.prog.funcs[f]? = some fn) :
  true = Tryz.pinned.checked.prog.looks [] ∧ ∀ (j : Nat) t, fn.params[j]? = some t → Tryz.pinned.checked.prog.wantsStandIn t = false := by
 obtain rfl : f = 7 := Option.some.inj ((show Tryz.prog.funcNamed Rows.partitionWantsRow.func = some 7 by kernel_rfl).symm.trans hf) |>.symm
 obtain rfl : fn = Tryz.f7 := (Option.some.inj (Tryz.func7.symm.trans hfn)).symm
 refine ⟨by kernel_rfl, fun j t ht => ?_⟩
 rw [Tryz.params7] at ht
 have hm : t ∈ [29, 9, 9, 3] := by simpa using Array.mem_of_getElem? ht
 have hall : ([29, 9, 9, 3].all fun u => !Tryz.prog.wantsStandIn u) = true := by kernel_rfl
 exact (show Tryz.prog.wantsStandIn t = false by simpa using List.all_eq_true.1 hall t hm)
/-- The card. -/
theorem card : Rows.PartitionWantsCardSaid :=
 Claim7.holds_tied_plain_at .later [] _ _ _ _ said (fun _ h => by cases h) (by kernel_rfl) (fun _ h => by cases h) partitionWants_row_tie rfl ⟨rfl, rfl⟩ (by kernel_rfl) rfl plain (by kernel_rfl)
end cPartitionWants
end Go.Proofs.YtehmidmoiamcfaaGreatDoor
