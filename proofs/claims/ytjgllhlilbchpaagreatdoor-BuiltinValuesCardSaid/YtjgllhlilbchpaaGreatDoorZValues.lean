/-
  BuiltinValues: row and card.
 Conditions: those of the given row and card (the listed variables of the library hold what the text lays), nothing else.
-/
import Derived.Test.YtjgllhlilbchpaaGreatDoorIUF
import Derived.Test.YtjgllhlilbchpaaGreatDoorIUI
import Derived.Test.YtjgllhlilbchpaaGreatDoorIW
import Derived.ShutString
set_option linter.unusedSimpArgs false
set_option linter.unusedVariables false
namespace Go.Cold
open Go Go.RowKit Go.Proofs.YtjgllhlilbchpaaGreatDoor
/-- What the law asks of a list. -/
def GoodL (l : List Attr) : Prop := sortedA l = true ∧ ∀ a ∈ l, goodA a
theorem goodL_base {L : List Dev} (h : VT L) (n : Int) : GoodL (baseL L n) := ⟨base_sorted L n, fun _ ha => base_good h ha⟩
theorem goodL_path {L : List Dev} (h : VT L) (n : Int) : GoodL (pathL L n) := ⟨path_sorted L n, fun _ ha => path_good h ha⟩
theorem goodL_cont (L : List Dev) (n : Int) : GoodL (Go.Cold.contL L n) := ⟨cont_sorted _, fun _ ha => cont_good ha⟩
theorem goodL_net (L : List Dev) (n : Int) : GoodL (netL L n) := ⟨net_sorted _, fun _ ha => net_good ha⟩
/-- Four lists in a row. -/
theorem four_at {w : World} {b : Nat} {A1 A2 A3 A4 : Option Addr} {c1 c2 c3 c4 : Nat} {l1 l2 l3 l4 : List Attr} (hb : BoxL w b [.slice A1 l1.length c1, .slice A2 l2.length c2, .slice A3 l3.length c3, .slice A4 l4.length c4])
  (h1 : Sl w w.heap.size A1 c1 l1) (h2 : Sl w w.heap.size A2 c2 l2) (h3 : Sl w w.heap.size A3 c3 l3) (h4 : Sl w w.heap.size A4 c4 l4) (g1 : GoodL l1) (g2 : GoodL l2) (g3 : GoodL l3) (g4 : GoodL l4) {k : Nat} (hk : k < 4) :
  ∃ A c l, w.cell? ⟨b, k, none⟩ = some (.slice A (List.length l) c) ∧ Sl w w.heap.size A c l ∧ GoodL l := by
 have : k = 0 ∨ k = 1 ∨ k = 2 ∨ k = 3 := by omega
 rcases this with rfl | rfl | rfl | rfl
 · exact ⟨_, _, l1, hb.1 0 _ rfl, h1, g1⟩
 · exact ⟨_, _, l2, hb.1 1 _ rfl, h2, g2⟩
 · exact ⟨_, _, l3, hb.1 2 _ rfl, h3, g3⟩
 · exact ⟨_, _, l4, hb.1 3 _ rfl, h4, g4⟩
end Go.Cold
namespace Go.Proofs.YtjgllhlilbchpaaGreatDoor
open Go.RowKit Go.Cold
set_option maxRecDepth 100000 in
set_option maxHeartbeats 8000000 in
theorem lawValues11_any (A : Option Addr) (c : Nat) (xs : List Int) (w : World) (hok : Ok w) (h7 : Ok7 w) (hu : OkU w) (hx : Sl w w.heap.size A c xs) :
  Calls Tryz.prog 6 #[.slice A xs.length c] w fun e w' => e = .returned (.bool true) ∧ Below w.heap.size w w' := by
 have HOK := Lib.hid hok; have HX := Lib.hid hx; have H7 := Lib.hid h7; have HK8 := Lib.hid (show Ok8 w from hok); have HU := Lib.hid hu; clear hok hx h7 hu
 go_enter Tryz.func6, Tryz.ntmps6
 go_upto_region 2 with fail
 have htape := tape_new HX.out
 have HNG := Lib.hid (notG_of HOK.out)
 obtain ⟨w1, hw1⟩ : ∃ z, w.alloc (.cells #[.slice A xs.length c, .int .i64 0] 25) = z := ⟨_, rfl⟩
 rw [hw1] at htape
 have hb1 : Below w.heap.size w w1 := by rw [← hw1]; exact (Below.refl _ _).alloc (Nat.le_refl _) _
 have HGw1 := Lib.hid (show w1.heap.size = w.heap.size + 1 by rw [← hw1]; simp)
 try simp only [hw1]
 have HTAPE := Lib.hid htape
 clear hw1 htape
 have HSw1 := Lib.hid (show w.heap.size ≤ w1.heap.size from hb1.size)
 have HBw1 := Lib.hid hb1
 clear hb1
 go_wp2_with fail
 refine (Tree_any xs 0 w.heap.size w.heap.size 9 w1 (by decide) HTAPE.out ⟨by decide, by decide⟩ (HOK.out.next HBw1.out) HNG.out).mono ?_
 rintro e w2 ⟨AT, cT, L, k1, rfl, hvt, hln, hsl, hk1, htp, hg2⟩
 have hb2 : Below w.heap.size w w2 := below_of_grown HBw1.out hg2 HBw1.out.size (Nat.le_refl _)
 have HSB2 := Lib.hid (show w1.heap.size ≤ w2.heap.size from hg2.size)
 have hx1 := hsl.1; have hx2 := hsl.2.1
 unfold maxLen at hx2
 have hin : TreeIn w2 w.heap.size (fun x => w1.heap.size ≤ x ∧ x < w2.heap.size) AT cT L := ⟨hsl, fun x hx => by have := HGw1.out; omega, fun x hx => hx.2⟩
 have HVT := Lib.hid hvt; have HLN := Lib.hid (show L.length ≤ 9 by omega); have HIN := Lib.hid hin; have HK1 := Lib.hid hk1; have HTP := Lib.hid htp
 clear HTAPE hvt hln hsl hk1 htp hg2 hin
 have HBw2 := Lib.hid hb2
 clear hb2
 go_upto_region 3 with fail
 obtain ⟨w3, hw3⟩ : ∃ w3, w2.alloc (.cells #[.slice AT L.length cT] 28) = w3 := ⟨_, rfl⟩
 have hbw3 : Below w2.heap.size w2 w3 := by rw [← hw3]; exact (Below.refl _ _).alloc (Nat.le_refl _) _
 have HGw3 := Lib.hid (show w3.heap.size = w2.heap.size + 1 by rw [← hw3]; simp)
 have HXtw3 := Lib.hid (show BoxL w3 w2.heap.size [.slice AT L.length cT] from box_mk hw3)
 try simp only [hw3]
 have HSTEPw3 := Lib.hid hbw3
 have HSw3 := Lib.hid (show w2.heap.size ≤ w3.heap.size from hbw3.size)
 have HBw3 := Lib.hid (HBw2.out.trans (hbw3.mono HBw2.out.size))
 clear hw3 hbw3
 try rw [show w2.heap.size + 1 = w3.heap.size from HGw3.out.symm]
 have HIN3 := Lib.hid (show TreeIn w3 w.heap.size (fun x => w1.heap.size ≤ x ∧ x < w2.heap.size) AT cT L from ⟨HIN.out.sl.below (HSTEPw3.out) (fun x hx => hx.2), HIN.out.ne, fun x hx => by have := HGw3.out; have := hx.2; omega⟩)
 have HTP3 := Lib.hid (HTP.out.kept (grown_none HSTEPw3.out) (fun e => by cases e) (fun g e => by cases e))
 clear HIN HTP
 have ct0 := HXtw3.out.1 0 _ rfl
 go_wp2_with fail
 refine (Some_any xs k1 w.heap.size w.heap.size AT cT L _ w3 (by have := HK1.out; omega) HTP3.out HIN3.out (fun d hd => (HVT.out.small d hd).2) (by have := HLN.out; omega)).mono ?_
 rintro e w4 ⟨n, k2, rfl, hn, hk2, htp, hg4⟩
 clear ct0
 have hb4 : Below w.heap.size w w4 := HBw3.out.grown hg4 HBw3.out.size (fun q hq => by have := Option.some.inj hq; omega)
 have HSw4 := Lib.hid hg4.size
 have HIN4 := Lib.hid (HIN3.out.tape hg4)
 have HTP4 := Lib.hid htp
 have HBw4 := Lib.hid hb4
 have HXtw4 := Lib.hid (HXtw3.out.kept hg4 (fun e => by have := Option.some.inj e; have := HGw1.out; have := HSB2.out; omega))
 have HN := Lib.hid (show okI n by unfold okI; omega)
 have HNR := Lib.hid hn
 have HK2 := Lib.hid hk2
 clear hb4 htp hg4 hn hk2 HIN3 HTP3
 have HSL := Lib.hid HIN4.out.out
 have ct0 := HXtw4.out.1 0 _ rfl
 clear ct0
 obtain ⟨lb, hlb⟩ : ∃ z, baseL L n = z := ⟨_, rfl⟩
 have HLB := Lib.hid hlb; clear hlb
 obtain ⟨lp, hlp⟩ : ∃ z, pathL L n = z := ⟨_, rfl⟩
 have HLP := Lib.hid hlp; clear hlp
 obtain ⟨lc, hlc⟩ : ∃ z, Go.Cold.contL L n = z := ⟨_, rfl⟩
 have HLC := Lib.hid hlc; clear hlc
 obtain ⟨lt, hlt⟩ : ∃ z, netL L n = z := ⟨_, rfl⟩
 have HLT := Lib.hid hlt; clear hlt
 have HG1 := Lib.hid (show GoodL lb from HLB.out ▸ goodL_base HVT.out n); have HG2 := Lib.hid (show GoodL lp from HLP.out ▸ goodL_path HVT.out n); have HG3 := Lib.hid (show GoodL lc from HLC.out ▸ goodL_cont L n); have HG4 := Lib.hid (show GoodL lt from HLT.out ▸ goodL_net L n)
 go_upto_region 4 with fail
 refine wp_region_held_drew (S := fun w' => BoxL w' w2.heap.size [.slice AT L.length cT]) (by kernel_rfl) HXtw4.out.drew (fun hS0 => ?_)
 obtain ⟨wd, hwd⟩ : ∃ z, World.drew w4 = z := ⟨_, rfl⟩
 rw [hwd] at hS0 ⊢
 have hb_ : Below w4.heap.size w4 wd := by rw [← hwd]; exact below_drewN_self _ _ 1
 clear hwd
 have HSAwd := Lib.hid hS0; clear hS0
 have HSwd := Lib.hid (show w4.heap.size ≤ wd.heap.size from hb_.size)
 have HBwd := Lib.hid (HBw4.out.trans (hb_.mono HBw4.out.size))
 have twd := Lib.hid (HXtw4.out.kept (grown_none hb_) (fun e => by cases e))
 have HSLwd := Lib.hid (HSL.out.next (Nat.le_refl _) hb_)
 clear hb_
 refine wpAnyH_take (i := 0) (oi := ⟨some 18, _, _, _, _, _⟩) (v := .agg #[.slice AT L.length cT]) rfl (by kernel_rfl) (by kernel_rfl) (by kernel_rfl) (fun _ _ _ h => h) (Or.inl ⟨by rfl, fun w' hS => by (have u0_ := hS.1 0 _ rfl; go_simp)⟩) HSAwd.out ?_
 try simp only [Act.put, List.setIfInBounds_toArray, List.set_cons_zero, List.set_cons_succ]
 refine wpAnyH_take (i := 1) (oi := ⟨some 19, _, _, _, _, _⟩) (v := .int .i64 n) rfl (by kernel_rfl) (by kernel_rfl) (by kernel_rfl) (fun _ _ _ h => h) (Or.inl ⟨by rfl, fun w' hS => by go_simp⟩) HSAwd.out ?_
 try simp only [Act.put, List.setIfInBounds_toArray, List.set_cons_zero, List.set_cons_succ]
 refine wpAnyH_take (i := 3) (oi := ⟨some 21, _, _, _, _, _⟩) (v := .agg #[.slice AT L.length cT]) rfl (by kernel_rfl) (by kernel_rfl) (by kernel_rfl) (fun _ _ _ h => h) (Or.inl ⟨by rfl, fun w' hS => by (have u0_ := hS.1 0 _ rfl; go_simp)⟩) HSAwd.out ?_
 try simp only [Act.put, List.setIfInBounds_toArray, List.set_cons_zero, List.set_cons_succ]
 refine wpAnyH_take (i := 4) (oi := ⟨some 22, _, _, _, _, _⟩) (v := .int .i64 n) rfl (by kernel_rfl) (by kernel_rfl) (by kernel_rfl) (fun _ _ _ h => h) (Or.inl ⟨by rfl, fun w' hS => by go_simp⟩) HSAwd.out ?_
 try simp only [Act.put, List.setIfInBounds_toArray, List.set_cons_zero, List.set_cons_succ]
 refine wpAnyH_take (i := 6) (oi := ⟨some 24, _, _, _, _, _⟩) (v := .agg #[.slice AT L.length cT]) rfl (by kernel_rfl) (by kernel_rfl) (by kernel_rfl) (fun _ _ _ h => h) (Or.inl ⟨by rfl, fun w' hS => by (have u0_ := hS.1 0 _ rfl; go_simp)⟩) HSAwd.out ?_
 try simp only [Act.put, List.setIfInBounds_toArray, List.set_cons_zero, List.set_cons_succ]
 refine wpAnyH_take (i := 7) (oi := ⟨some 25, _, _, _, _, _⟩) (v := .int .i64 n) rfl (by kernel_rfl) (by kernel_rfl) (by kernel_rfl) (fun _ _ _ h => h) (Or.inl ⟨by rfl, fun w' hS => by go_simp⟩) HSAwd.out ?_
 try simp only [Act.put, List.setIfInBounds_toArray, List.set_cons_zero, List.set_cons_succ]
 refine wpAnyH_take (i := 9) (oi := ⟨some 27, _, _, _, _, _⟩) (v := .agg #[.slice AT L.length cT]) rfl (by kernel_rfl) (by kernel_rfl) (by kernel_rfl) (fun _ _ _ h => h) (Or.inl ⟨by rfl, fun w' hS => by (have u0_ := hS.1 0 _ rfl; go_simp)⟩) HSAwd.out ?_
 try simp only [Act.put, List.setIfInBounds_toArray, List.set_cons_zero, List.set_cons_succ]
 refine wpAnyH_take (i := 10) (oi := ⟨some 28, _, _, _, _, _⟩) (v := .int .i64 n) rfl (by kernel_rfl) (by kernel_rfl) (by kernel_rfl) (fun _ _ _ h => h) (Or.inl ⟨by rfl, fun w' hS => by go_simp⟩) HSAwd.out ?_
 try simp only [Act.put, List.setIfInBounds_toArray, List.set_cons_zero, List.set_cons_succ]
 refine wpAnyH_ready (rs := [2]) (by kernel_rfl) (by simp) ?_
 refine AllReadyH.cons (o := ⟨some 20, .call ⟨_, _, _⟩, _, _, _, _⟩) rfl (fun K hK => ?_) AllReadyH.nil
 go_simp
 go_at_call 14
 refine (Base_any AT cT L n _ _ (Nat.le_refl _) HSLwd.out HVT.out (H7.out.below HBwd.out) (HOK.out.next HBwd.out) HN.out).mono ?_
 rintro e' q1 ⟨hb_, A1, c1, rfl, hs_⟩
 rw [HLB.out] at hs_ ⊢
 have HS1 := Lib.hid hs_; clear hs_
 have HSAq1 := Lib.hid (show BoxL q1 w2.heap.size [.slice AT L.length cT] from (HSAwd.out).kept (grown_none hb_) (fun e => by cases e))
 have HSq1 := Lib.hid (show wd.heap.size ≤ q1.heap.size from hb_.size)
 have HBq1 := Lib.hid (HBwd.out.trans (hb_.mono HBwd.out.size))
 have tq1 := Lib.hid (twd.out.kept (grown_none hb_) (fun e => by cases e))
 have HSLq1 := Lib.hid (HSLwd.out.next (Nat.le_refl _) hb_)
 clear hb_
 refine hK.out _ _ HSAq1.out (fun _ => ?_)
 clear hK K
 try simp only [Act.put, List.setIfInBounds_toArray, List.set_cons_zero, List.set_cons_succ]
 refine wpAnyH_ready (rs := [5]) (by kernel_rfl) (by simp) ?_
 refine AllReadyH.cons (o := ⟨some 23, .call ⟨_, _, _⟩, _, _, _, _⟩) rfl (fun K hK => ?_) AllReadyH.nil
 go_simp
 go_at_call 12
 refine (BPath_any AT cT L n _ _ (Nat.le_refl _) HSLq1.out HVT.out (H7.out.below HBq1.out) HN.out (HU.out.below HBq1.out)).mono ?_
 rintro e' q2 ⟨hb_, A2, c2, rfl, hs_⟩
 rw [HLP.out] at hs_ ⊢
 have HS2 := Lib.hid hs_; clear hs_
 have HSAq2 := Lib.hid (show BoxL q2 w2.heap.size [.slice AT L.length cT] from (HSAq1.out).kept (grown_none hb_) (fun e => by cases e))
 have HSq2 := Lib.hid (show q1.heap.size ≤ q2.heap.size from hb_.size)
 have HBq2 := Lib.hid (HBq1.out.trans (hb_.mono HBq1.out.size))
 have tq2 := Lib.hid (tq1.out.kept (grown_none hb_) (fun e => by cases e))
 have HSLq2 := Lib.hid (HSLq1.out.next (Nat.le_refl _) hb_)
 have HS1q2 := Lib.hid ((HS1.out).next (Nat.le_refl _) hb_)
 clear hb_
 refine hK.out _ _ HSAq2.out (fun _ => ?_)
 clear hK K
 try simp only [Act.put, List.setIfInBounds_toArray, List.set_cons_zero, List.set_cons_succ]
 refine wpAnyH_ready (rs := [8]) (by kernel_rfl) (by simp) ?_
 refine AllReadyH.cons (o := ⟨some 26, .call ⟨_, _, _⟩, _, _, _, _⟩) rfl (fun K hK => ?_) AllReadyH.nil
 go_simp
 go_at_call 21
 refine (Content_any AT cT L n _ _ (Nat.le_refl _) HSLq2.out HVT.out (H7.out.below HBq2.out) (HOK.out.next HBq2.out) HN.out).mono ?_
 rintro e' q3 ⟨hb_, A3, c3, rfl, hs_⟩
 rw [HLC.out] at hs_ ⊢
 have HS3 := Lib.hid hs_; clear hs_
 have HSAq3 := Lib.hid (show BoxL q3 w2.heap.size [.slice AT L.length cT] from (HSAq2.out).kept (grown_none hb_) (fun e => by cases e))
 have HSq3 := Lib.hid (show q2.heap.size ≤ q3.heap.size from hb_.size)
 have HBq3 := Lib.hid (HBq2.out.trans (hb_.mono HBq2.out.size))
 have tq3 := Lib.hid (tq2.out.kept (grown_none hb_) (fun e => by cases e))
 have HSLq3 := Lib.hid (HSLq2.out.next (Nat.le_refl _) hb_)
 have HS1q3 := Lib.hid ((HS1q2.out).next (Nat.le_refl _) hb_)
 have HS2q3 := Lib.hid ((HS2.out).next (Nat.le_refl _) hb_)
 clear hb_
 refine hK.out _ _ HSAq3.out (fun _ => ?_)
 clear hK K
 try simp only [Act.put, List.setIfInBounds_toArray, List.set_cons_zero, List.set_cons_succ]
 refine wpAnyH_ready (rs := [11]) (by kernel_rfl) (by simp) ?_
 refine AllReadyH.cons (o := ⟨some 29, .call ⟨_, _, _⟩, _, _, _, _⟩) rfl (fun K hK => ?_) AllReadyH.nil
 go_simp
 go_at_call 22
 refine (Net_any AT cT L n _ _ (Nat.le_refl _) HSLq3.out HVT.out (H7.out.below HBq3.out) (HOK.out.next HBq3.out)).mono ?_
 rintro e' q4 ⟨hb_, A4, c4, rfl, hs_⟩
 rw [HLT.out] at hs_ ⊢
 have HS4 := Lib.hid hs_; clear hs_
 have HSAq4 := Lib.hid (show BoxL q4 w2.heap.size [.slice AT L.length cT] from (HSAq3.out).kept (grown_none hb_) (fun e => by cases e))
 have HSq4 := Lib.hid (show q3.heap.size ≤ q4.heap.size from hb_.size)
 have HBq4 := Lib.hid (HBq3.out.trans (hb_.mono HBq3.out.size))
 have tq4 := Lib.hid (tq3.out.kept (grown_none hb_) (fun e => by cases e))
 have HSLq4 := Lib.hid (HSLq3.out.next (Nat.le_refl _) hb_)
 have HS1q4 := Lib.hid ((HS1q3.out).next (Nat.le_refl _) hb_)
 have HS2q4 := Lib.hid ((HS2q3.out).next (Nat.le_refl _) hb_)
 have HS3q4 := Lib.hid ((HS3.out).next (Nat.le_refl _) hb_)
 clear hb_
 refine hK.out _ _ HSAq4.out (fun _ => ?_)
 clear hK K
 try simp only [Act.put, List.setIfInBounds_toArray, List.set_cons_zero, List.set_cons_succ]
 refine wpAnyH_ready (rs := [12]) (by kernel_rfl) (by simp) ?_
 refine AllReadyH.cons (o := ⟨some 30, .buildSlice _ _ _, _, _, _, _⟩) rfl (fun K hK => ?_) AllReadyH.nil
 go_simp
 obtain ⟨q5, hq5⟩ : ∃ z, q4.alloc (.cells #[.slice A1 lb.length c1, .slice A2 lp.length c2, .slice A3 lc.length c3, .slice A4 lt.length c4] 30) = z := ⟨_, rfl⟩
 have hb_ : Below q4.heap.size q4 q5 := by rw [← hq5]; exact (Below.refl _ _).alloc (Nat.le_refl _) _
 have HXuq5 := Lib.hid (show BoxL q5 q4.heap.size [.slice A1 lb.length c1, .slice A2 lp.length c2, .slice A3 lc.length c3, .slice A4 lt.length c4] from box_mk hq5)
 try rw [hq5]
 clear hq5
 have HSAq5 := Lib.hid (show BoxL q5 w2.heap.size [.slice AT L.length cT] from (HSAq4.out).kept (grown_none hb_) (fun e => by cases e))
 have HSq5 := Lib.hid (show q4.heap.size ≤ q5.heap.size from hb_.size)
 have HBq5 := Lib.hid (HBq4.out.trans (hb_.mono HBq4.out.size))
 have tq5 := Lib.hid (tq4.out.kept (grown_none hb_) (fun e => by cases e))
 have HSLq5 := Lib.hid (HSLq4.out.next (Nat.le_refl _) hb_)
 have HS1q5 := Lib.hid ((HS1q4.out).next (Nat.le_refl _) hb_)
 have HS2q5 := Lib.hid ((HS2q4.out).next (Nat.le_refl _) hb_)
 have HS3q5 := Lib.hid ((HS3q4.out).next (Nat.le_refl _) hb_)
 have HS4q5 := Lib.hid ((HS4.out).next (Nat.le_refl _) hb_)
 clear hb_
 refine hK.out _ _ HSAq5.out (fun _ => ?_)
 clear hK K
 try simp only [Act.put, List.setIfInBounds_toArray, List.set_cons_zero, List.set_cons_succ]
 refine wpAnyH_take (i := 13) (oi := ⟨some 6, _, _, _, _, _⟩) (v := .slice (some ⟨q4.heap.size, 0, none⟩) 4 4) rfl (by kernel_rfl) (by kernel_rfl) (by kernel_rfl) (fun _ _ _ h => h) (Or.inl ⟨by rfl, fun w' hS => by go_simp⟩) HSAq5.out ?_
 try simp only [Act.put, List.setIfInBounds_toArray, List.set_cons_zero, List.set_cons_succ]
 refine wpAnyH_done (by kernel_rfl) ?_ _
 go_wp2_with fail
 go_loopw [7] (fun i wr => ∃ k : Nat, k ≤ 4 ∧ i = .int .i64 (k : Int) ∧ Hid (Below q5.heap.size q5 wr)) (fun i _ => 4 - (intOf i).toNat)
 case atStart => exact ⟨0, by omega, rfl, Below.refl _ _⟩
 case round =>
  generalize hgg : wr = wo at *
  clear hgg
  obtain ⟨k, hk, rfl, HBR⟩ := hrel
  have HBwo := Lib.hid (HBq5.out.trans (HBR.out.mono HBq5.out.size))
  by_cases hlt : k < 4
  ·
   have i1 : (k : Int) < 4 := by omega
   obtain ⟨Ak, ck, l, hcell, hsl, hgl⟩ := four_at (HXuq5.out.kept (grown_none HBR.out) (fun e => by cases e)) (HS1q5.out.next (Nat.le_refl _) HBR.out) (HS2q5.out.next (Nat.le_refl _) HBR.out) (HS3q5.out.next (Nat.le_refl _) HBR.out) (HS4q5.out.next (Nat.le_refl _) HBR.out) HG1.out HG2.out HG3.out HG4.out hlt
   have hl1 := hsl.1; have hl2 := hsl.2.1
   unfold maxLen at hl2
   have HC := Lib.hid hcell; have HSL_ := Lib.hid hsl; have HGL := Lib.hid hgl; have HLT_ := Lib.hid hlt; clear hsl hgl hlt
   go_wp2_with fail
   refine (Sorted_any Ak ck l _ wo.heap.size HSL_.out).mono ?_
   rintro e w5 ⟨rfl, hbw5⟩
   have HSw5 := Lib.hid (show wo.heap.size ≤ w5.heap.size from hbw5.size)
   have HBw5 := Lib.hid (HBwo.out.trans (hbw5.mono HBwo.out.size))
   have HBRw5 := Lib.hid (below_onto HBR.out hbw5)
   have HCw5 := Lib.hid (cell_nx HC.out hbw5)
   have HSL_w5 := Lib.hid ((HSL_.out).next (Nat.le_refl _) hbw5)
   clear hbw5
   rw [HGL.out.1]
   clear hcell
   have hcell := HCw5.out
   go_wp2_with fail
   go_loopw [8] (fun i wr => ∃ m : Nat, m ≤ l.length ∧ i = .int .i64 (m : Int) ∧ Hid (Below w5.heap.size w5 wr)) (fun i _ => l.length - (intOf i).toNat)
   case atStart => exact ⟨0, Nat.zero_le _, rfl, Below.refl _ _⟩
   case round =>
    clear hcell
    obtain ⟨m, hm, rfl, HBI⟩ := hrel
    have HBwr := Lib.hid (HBw5.out.trans (HBI.out.mono HBw5.out.size))
    have HBRr := Lib.hid (below_onto HBRw5.out HBI.out)
    have hcell := cell_nx HCw5.out HBI.out
    by_cases hlt : m < l.length
    ·
     have i2 : (m : Int) < (l.length : Int) := by omega
     have hgood := HGL.out.2 _ (List.getElem_mem hlt)
     obtain ⟨b5, o5, rfl, -, hsz, a0, a1⟩ := Sl.attr (HSL_w5.out.next (Nat.le_refl _) HBI.out) hlt
     obtain ⟨y, hy⟩ : ∃ z, l[m]'hlt = z := ⟨_, rfl⟩
     rw [hy] at hgood hsz a0 a1
     obtain ⟨y1, y2⟩ := y
     have HGO := Lib.hid hgood; have HLM := Lib.hid hlt; have HSZ := Lib.hid hsz
     clear hy hgood hsz
     go_upto_region 14 with fail
     obtain ⟨w6, hw6⟩ : ∃ w6, wr.alloc (.cells #[.string y1, .string y2] 42) = w6 := ⟨_, rfl⟩
     have hbw6 : Below wr.heap.size wr w6 := by rw [← hw6]; exact (Below.refl _ _).alloc (Nat.le_refl _) _
     have HGw6 := Lib.hid (show w6.heap.size = wr.heap.size + 1 by rw [← hw6]; simp)
     have HXpw6 := Lib.hid (show BoxL w6 wr.heap.size [.string y1, .string y2] from box_mk hw6)
     try simp only [hw6]
     have HSTEPw6 := Lib.hid hbw6
     have HSw6 := Lib.hid (show wr.heap.size ≤ w6.heap.size from hbw6.size)
     have HBw6 := Lib.hid (HBwr.out.trans (hbw6.mono HBwr.out.size))
     have HBIw6 := Lib.hid (below_onto HBI.out hbw6)
     have HBRrw6 := Lib.hid (below_onto HBRr.out hbw6)
     clear hw6 hbw6
     try rw [show wr.heap.size + 1 = w6.heap.size from HGw6.out.symm]
     clear a0 a1 hcell
     have cp0 := HXpw6.out.1 0 _ rfl
     have cp1 := HXpw6.out.1 1 _ rfl
     go_wp2_with fail
     refine (Key_any y1 _ HSZ.out.1).mono ?_
     rintro e w7 ⟨rfl, hbw7⟩
     clear cp0 cp1
     have HSw7 := Lib.hid (show w6.heap.size ≤ w7.heap.size from hbw7.size)
     have HBw7 := Lib.hid (HBw6.out.trans (hbw7.mono HBw6.out.size))
     have pw7 := Lib.hid (HXpw6.out.kept (grown_none hbw7) (fun e => by cases e))
     have HBIw7 := Lib.hid (below_onto HBIw6.out hbw7)
     have HBRrw7 := Lib.hid (below_onto HBRrw6.out hbw7)
     clear hbw7
     rw [show keyB y1 = true from HGO.out.1]
     have cp0 := pw7.out.1 0 _ rfl
     have cp1 := pw7.out.1 1 _ rfl
     go_wp2_with fail
     refine (Text_any y2 _ HSZ.out.2).mono ?_
     rintro e w9 ⟨rfl, hw_⟩
     rw [← hw_, show textB y2 = true from HGO.out.2.1]; clear hw_ w9
     have hv1 : y2.toList.isEmpty = false := HGO.out.2.2
     have hv2 : (y2.toList == (⟨#[]⟩ : ByteArray).toList) = false := by rw [show (⟨#[]⟩ : ByteArray).toList = [] by decide +kernel]; cases hq : y2.toList with | nil => rw [hq] at hv1; cases hv1 | cons a r => rfl
     have hv3 : (y2.toList == []) = false := by cases hq : y2.toList with | nil => rw [hq] at hv1; cases hv1 | cons a r => rfl
     go_wp2
     go_roundw
     case rel => exact ⟨m + 1, by have := HLM.out; omega, by go_num, HBIw7⟩
     case measure => have := HLM.out; simp [intOf]; omega
    ·
     have i2 : ¬ (m : Int) < (l.length : Int) := by omega
     go_wp2
     go_roundw
     case rel => exact ⟨k + 1, by have := HLT_.out; omega, by go_num, HBRr⟩
     case measure => have := HLT_.out; simp [intOf]; omega
  ·
   have i1 : ¬ (k : Int) < 4 := by omega
   go_wp2_with fail
   refine (known_any _ (HOK.out.next HBwo.out) (H7.out.below HBwo.out) (Ok8.below HK8.out HBwo.out) (HU.out.below HBwo.out)).mono ?_
   rintro e w8 ⟨rfl, hbw8⟩
   have HSw8 := Lib.hid (show wo.heap.size ≤ w8.heap.size from hbw8.size)
   have HBw8 := Lib.hid (HBwo.out.trans (hbw8.mono HBwo.out.size))
   have HBRw8 := Lib.hid (below_onto HBR.out hbw8)
   clear hbw8
   go_wp2
   go_ret
   exact ⟨by try rfl, HBw8.out⟩
end Go.Proofs.YtjgllhlilbchpaaGreatDoor
namespace Go.Proofs.YtjgllhlilbchpaaGreatDoor
open Go.RowKit Go.Cold
namespace cBuiltinValues
open Go.ChangeShapes Go.WideShapes Go.ChangeAt
open Go.ChangeMaps (open_string)
set_option maxRecDepth 100000
theorem reads (os : Os) {H : Type} (enc : TypeId × Value → H) : ∃ places, DataW.whole enc Tryz.prog ((World.laidAll Tryz.prog os Rows.builtinValuesRow.laid).forCall (fun _ _ => 0) ⟨#[], #[.slice none 0 0], []⟩).memory Tryz.f6.params.toList Rows.builtinValuesSpec.vars false (#[.slice none 0 0] : Array Value).toList 8 = some ([.nil], [], places) :=
 ⟨[], by kernel_rfl⟩
theorem lifted (os : Os) (started : os.Started) (H : Type) (enc : TypeId × Value → H) (F : Stop.Interp) :
  ReturnsInHanded {} Tryz.checked os 6 .any ((OpenSpec.ofChange Rows.builtinValuesSpec).preRow enc Tryz.prog Tryz.f6 Rows.builtinValuesRow.domain false Rows.builtinValuesRow.laid) (((OpenSpec.ofChange Rows.builtinValuesSpec).at F).post enc Tryz.prog Tryz.f6 false true false false) := by
 obtain ⟨places, hx⟩ := reads os enc
 refine law_lifted os started H enc F (by kernel_rfl) Tryz.func6 #[.slice none 0 0] (World.shaped_of_ZipB (by kernel_rfl) (by kernel_rfl)) (by kernel_rfl)
  (OpenSpec.preRow_of_cond 8 hx (by kernel_rfl) (fun k hk => by cases hk) (by kernel_rfl) (laidMet_laidAll _ (by kernel_rfl) (by kernel_rfl))) rfl rfl
  (fun ds hl => by
   rw [Tryz.params6] at hl
   match ds, hl with
   | [d0], _ => rfl) (by kernel_rfl) ?_
 intro W base args ds ps hval hA hlt hz hsh hlaid
 rw [Tryz.params6] at hA hval
 obtain ⟨v0, vs0, d0, ds0, p0, q0, hargs, rfl, rfl, h0, r0⟩ := trodAll_cons hA
 obtain ⟨rfl, rfl, rfl⟩ := trodAll_nil r0
 obtain rfl : args = #[v0] := by cases args; simp_all
 obtain ⟨A0, c0, xs0, rfl, s0⟩ := open_nums Tryz.underlying22 Tryz.underlying3 (by kernel_rfl) (hval 0 22 v0 rfl rfl) h0 (fun x hx => hlt x (List.mem_append_left _ hx))
 exact lawValues11_any A0 c0 xs0 W (show Ok W from Tryz.laysM146.s1_3 W hsh) (okb8 hlaid).1 (okb8 hlaid).2 s0
theorem said : Rows.BuiltinValuesSaid :=
 OpenClaim.holds_of_cond 6 Tryz.f6 rfl rfl rfl rfl rfl rfl rfl ⟨rfl, rfl, rfl, rfl, rfl⟩ rfl rfl rfl rfl rfl (by kernel_rfl) Tryz.func6 (by kernel_rfl)
  (of_decide_eq_true (by kernel_rfl)) (by unfold Func.isWrapper; first | (rw [if_pos (by decide +kernel)]; kernel_rfl) | (rw [if_neg (by decide +kernel)]; exact ⟨rfl, rfl⟩))
  (fun os started H enc _ F => by rw [OpenClaim.pre_eq_preRow]; exact lifted os started H enc F)
theorem plain (f : FuncId) (fn : Func) (hf : Tryz.pinned.checked.prog.funcNamed Rows.builtinValuesRow.func = some f) (hfn : Tryz.pinned.checked.prog.funcs[f]? = some fn) :
  true = Tryz.pinned.checked.prog.looks [] ∧ ∀ (j : Nat) t, fn.params[j]? = some t → Tryz.pinned.checked.prog.wantsStandIn t = false := by
 obtain rfl : f = 6 := Option.some.inj ((show Tryz.prog.funcNamed Rows.builtinValuesRow.func = some 6 by kernel_rfl).symm.trans hf) |>.symm
 obtain rfl : fn = Tryz.f6 := (Option.some.inj (Tryz.func6.symm.trans hfn)).symm
 refine ⟨by kernel_rfl, fun j t ht => ?_⟩
 rw [Tryz.params6] at ht
 have hm : t ∈ [22] := by simpa using Array.mem_of_getElem? ht
 have hall : ([22].all fun u => !Tryz.prog.wantsStandIn u) = true := by kernel_rfl
 exact (show Tryz.prog.wantsStandIn t = false by simpa using List.all_eq_true.1 hall t hm)
/-- The card. -/
theorem card : Rows.BuiltinValuesCardSaid :=
 Claim7.holds_tied_plain_at .later [] _ _ _ _ said (fun _ h => by cases h) (by kernel_rfl) (fun _ h => by cases h) builtinValues_row_tie rfl ⟨rfl, rfl⟩ (by kernel_rfl) rfl plain (by kernel_rfl)
end cBuiltinValues
end Go.Proofs.YtjgllhlilbchpaaGreatDoor
