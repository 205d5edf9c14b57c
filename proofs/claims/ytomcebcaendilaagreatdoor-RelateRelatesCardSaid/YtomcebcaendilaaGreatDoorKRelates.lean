/-
  RelateRelates: row and card.
 Conditions: those of the given row and card (the listed variables of the library hold what the text lays), nothing else.
-/
import Derived.Test.YtomcebcaendilaaGreatDoorHRH
import Derived.Test.YtomcebcaendilaaGreatDoorHRG
import Derived.Test.YtomcebcaendilaaGreatDoorHL
import Derived.Test.YtomcebcaendilaaGreatDoorHM
import Derived.ShutString
set_option linter.unusedSimpArgs false
set_option linter.unusedVariables false
namespace Go.Cold
open Go Go.RowKit
/-- Where a law of the chapter stands: the tree's box, the tree, a list of numbers. -/
def RsS (w : World) (gt : Nat) (A : Option Addr) (c : Nat) (L : List Dev) (A2 : Option Addr) (c2 : Nat) (ll : List Int) (wr : World) : Prop :=
 Below w.heap.size w wr ∧ BoxL wr gt [.slice A L.length c] ∧ Sl wr wr.heap.size A c L ∧ Sl wr wr.heap.size A2 c2 ll
theorem RsS.below {w wr wx : World} {gt : Nat} {A A2 : Option Addr} {c c2 : Nat} {L : List Dev} {ll : List Int} (h : RsS w gt A c L A2 c2 ll wr) (hb : Below wr.heap.size wr wx) : RsS w gt A c L A2 c2 ll wx :=
 ⟨h.1.trans (hb.mono h.1.size), h.2.1.kept (grown_none hb) (fun e => by cases e), h.2.2.1.next (Nat.le_refl _) hb, h.2.2.2.next (Nat.le_refl _) hb⟩
theorem okI_all {w : World} {B c : Nat} {A : Option Addr} {xs : List Int} (h : Sl w B A c xs) : ∀ n ∈ xs, okI n := by
 intro n hn
 obtain ⟨i, hi, rfl⟩ := List.getElem_of_mem hn
 obtain ⟨b, o, e, hb, h4⟩ := h.2.2 (by omega)
 obtain ⟨cs, h5, h6⟩ := h4 i _ (List.getElem?_eq_getElem hi)
 exact h5.2
theorem flat_one : ∀ l : List Int, (l.map fun x => [Value.int .i64 x]).flatten = l.map fun x => .int .i64 x
 | [] => rfl
 | x :: r => by rw [List.map_cons, List.flatten_cons, flat_one r]; rfl
theorem own_ints {F : Nat → Prop} {w w' : World} {T : TypeId} {xs : List Int} {cs : Array Value} (h : w.alloc (.cells cs T) = w') (hc : cs.toList = xs.map fun x => .int .i64 x) (hok : ∀ x ∈ xs, okI x) (hn : xs.length ≤ maxLen) : OwnsS F w' w.heap.size T (.slice (some ⟨w.heap.size, 0, none⟩) xs.length xs.length) xs := by
 have hs : cs.size = xs.length * 1 := by rw [← Array.length_toList, hc]; simp
 have h1 := World.ownsRow_lit (base := w.heap.size) (e := T) (size := 1) w cs xs.length (Nat.le_refl _) hn hs
 rw [h] at h1
 refine ⟨xs.map fun x => [.int .i64 x], ?_, by simp, fun i x cs' hx hcs => ?_⟩
 ·
  have e : (xs.map fun x => [Value.int .i64 x]).flatten = cs.toList := by rw [hc]; exact flat_one xs
  rw [e]; exact h1
 ·
  rw [List.getElem?_map, hx] at hcs
  cases hcs
  exact ⟨rfl, hok x (List.mem_of_getElem? hx)⟩
end Go.Cold
namespace Go.Proofs.YtomcebcaendilaaGreatDoor
open Go.RowKit Go.Cold
set_option maxRecDepth 100000 in
set_option maxHeartbeats 8000000 in
theorem lawRelates_any (A : Option Addr) (c : Nat) (xs : List Int) (i j : Int) (w : World) (hok : Ok w) (hoa : OkA w) (hx : Sl w w.heap.size A c xs) (hi : okI i) (hj : okI j) :
  Calls Tryz.prog 4 #[.slice A xs.length c, .int .i64 i, .int .i64 j] w fun e w' => e = .returned (.bool true) ∧ Below w.heap.size w w' := by
 have HIJ := Lib.hid (show okI i ∧ okI j from ⟨hi, hj⟩); clear hi hj
 have HOK := Lib.hid hok; have HOA := Lib.hid hoa; have HX := Lib.hid hx
 clear hok hoa hx 
 go_enter Tryz.func4, Tryz.ntmps4
 go_upto_region 2 with fail
 have htape := tape_new HX.out
 have HNG := Lib.hid (notG_of HOK.out)
 obtain ⟨w1, hw1⟩ : ∃ z, w.alloc (.cells #[.slice A xs.length c, .int .i64 0] 31) = z := ⟨_, rfl⟩
 rw [hw1] at htape
 have hb1 : Below w.heap.size w w1 := by rw [← hw1]; exact (Below.refl _ _).alloc (Nat.le_refl _) _
 have HGw1 := Lib.hid (show w1.heap.size = w.heap.size + 1 by rw [← hw1]; simp)
 try simp only [hw1]
 have HTAPE := Lib.hid htape
 clear hw1 htape
 have HSw1 := Lib.hid (show w.heap.size ≤ w1.heap.size from hb1.size)
 have HBw1 := Lib.hid hb1
 clear hb1
 go_wp2_with fail
 refine (TreeM_any xs 0 w.heap.size w.heap.size 12 w1 (by decide) HTAPE.out ⟨by decide, by decide⟩ (HOK.out.next HBw1.out) HNG.out).mono ?_
 rintro e w2 ⟨AT, cT, L, k1, rfl, ⟨hvt, hmd⟩, hln, hsl, hk1, htp, hg2⟩
 have hb2 : Below w.heap.size w w2 := below_of_grown HBw1.out hg2 HBw1.out.size (Nat.le_refl _)
 have HSB2 := Lib.hid (show w1.heap.size ≤ w2.heap.size from hg2.size)
 have hx1 := hsl.1; have hx2 := hsl.2.1
 unfold maxLen at hx2
 have HVT := Lib.hid hvt; have HMD := Lib.hid hmd; have HLN := Lib.hid (show L.length ≤ 12 by omega); have HSL := Lib.hid (hsl.sl (B := w2.heap.size) (fun x hx => hx.2))
 have HBw2 := Lib.hid hb2
 clear HTAPE hvt hmd hln hsl hk1 htp hg2 hb2
 go_upto_region 2 with fail
 obtain ⟨w3, hw3⟩ : ∃ w3, w2.alloc (.cells #[.slice AT L.length cT] 27) = w3 := ⟨_, rfl⟩
 have hbw3 : Below w2.heap.size w2 w3 := by rw [← hw3]; exact (Below.refl _ _).alloc (Nat.le_refl _) _
 have HGw3 := Lib.hid (show w3.heap.size = w2.heap.size + 1 by rw [← hw3]; simp)
 have HXtw3 := Lib.hid (show BoxL w3 w2.heap.size [.slice AT L.length cT] from box_mk hw3)
 try simp only [hw3]
 have HSTEPw3 := Lib.hid hbw3
 have HSw3 := Lib.hid (show w2.heap.size ≤ w3.heap.size from hbw3.size)
 have HBw3 := Lib.hid (HBw2.out.trans (hbw3.mono HBw2.out.size))
 have HSLw3 := Lib.hid ((HSL.out).next (Nat.le_refl _) hbw3)
 clear hw3 hbw3
 try rw [show w2.heap.size + 1 = w3.heap.size from HGw3.out.symm]
 have HLA := Lib.hid (show ∀ d ∈ L, d.attrs.length ≤ 1000000 from fun d hd => attrs_le (HVT.out.chk d hd))
 have ct0 := HXtw3.out.1 0 _ rfl
 clear ct0
 obtain ⟨w4, hw4⟩ : ∃ z, w3.alloc (.cells #[.int .i64 i, .int .i64 j] 3) = z := ⟨_, rfl⟩
 have hb4 : Below w3.heap.size w3 w4 := by rw [← hw4]; exact (Below.refl _ _).alloc (Nat.le_refl _) _
 have HO4 := Lib.hid (show OwnsS (fun _ => True) w4 w3.heap.size 3 (.slice (some ⟨w3.heap.size, 0, none⟩) 2 2) ([i, j] ++ idxs (L.take 0)) from own_ints (xs := [i, j]) hw4 rfl (by intro x hx; simp at hx; rcases hx with rfl | rfl; exact HIJ.out.1; exact HIJ.out.2) (by show (2 : Nat) ≤ maxLen; unfold maxLen; omega))
 have HSTEP4 := Lib.hid hb4
 have HSw4 := Lib.hid (show w3.heap.size ≤ w4.heap.size from hb4.size)
 have HBw4 := Lib.hid (HBw3.out.trans (hb4.mono HBw3.out.size))
 have tw4 := Lib.hid (HXtw3.out.kept (grown_none hb4) (fun e => by cases e))
 have HSLw4 := Lib.hid ((HSLw3.out).next (Nat.le_refl _) hb4)
 clear hb4
 have HWT := Lib.hid (show w2.heap.size < w3.heap.size by have := HGw3.out; omega)
 have HWZ := Lib.hid (show w.heap.size ≤ w3.heap.size from HBw3.out.size)
 go_wp2_with fail
 have HB24 := Lib.hid (show Below w2.heap.size w2 w4 from HSTEPw3.out.trans (HSTEP4.out.mono HSTEPw3.out.size))
 go_loopw [8, 9] (fun v kk wr => ∃ k : Nat, k ≤ L.length ∧ kk = .int .i64 k ∧ Hid (Below w2.heap.size w2 wr) ∧ Hid (w3.heap.size ≤ wr.heap.size) ∧ Hid (BoxL wr w2.heap.size [.slice AT L.length cT]) ∧ Hid (OwnsS (fun _ => True) wr w3.heap.size 3 v ([i, j] ++ idxs (L.take (k))))) (fun _ kk _ => L.length - (intOf kk).toNat)
 case atStart => exact ⟨0, Nat.zero_le _, rfl, HB24, Lib.hid HSw4.out, tw4, HO4⟩
 case round =>
  clear HO4
  obtain ⟨k, hk, rfl, HBR, HWR, HTR, HOR⟩ := hrel
  by_cases hlt : k < L.length
  ·
   have i1 : (k : Int) < (L.length : Int) := by omega
   obtain ⟨b3, o3, rfl, hb3, A3, c3, hok3, -, hcs3⟩ := (HSL.out.keep HBR.out).dev hlt
   have hxk : L[k]? = some L[k] := List.getElem?_eq_getElem hlt
   obtain ⟨y, hy⟩ : ∃ y, L[k]'hlt = y := ⟨_, rfl⟩
   rw [hy] at hok3 hcs3 hxk
   have HST := Lib.hid (show [i, j] ++ idxs (L.take (k + 1)) = ([i, j] ++ idxs (L.take k)) ++ [y.idx] by rw [List.take_add_one, hxk]; unfold idxs; simp)
   have y0 := hcs3.1; have HOK3 := Lib.hid hok3.1
   clear hcs3 hok3 hxk hy
   have hacl : ([i, j] ++ idxs (L.take k)).length ≤ 2 + k := by unfold idxs; simp; omega
   obtain ⟨acc, hacc⟩ : ∃ z, [i, j] ++ idxs (L.take k) = z := ⟨_, rfl⟩
   rw [hacc] at hacl HST HOR
   have HAM := Lib.hid (show acc.length + 1 ≤ maxLen ∧ (acc.length + 1) * 8 ≤ 140737488355328 by have := HLN.out; constructor <;> first | (unfold maxLen; omega) | omega)
   clear hacl hacc
   have t0 := HTR.out.1 0 _ rfl
   obtain ⟨wa, hwa⟩ : ∃ z, wr.alloc (.cells #[.int .i64 y.idx] 3) = z := ⟨_, rfl⟩
   have hba : Below wr.heap.size wr wa := by rw [← hwa]; exact (Below.refl _ _).alloc (Nat.le_refl _) _
   have HNEW := Lib.hid (lit_cells hwa (l := [.int .i64 y.idx]) rfl)
   have HBA := Lib.hid hba; clear hba
   have HRD := Lib.hid (show RepS.rdS wa (fun b => True ∧ b < wa.heap.size ∧ u8.ownBlock ≠ some b) y.idx [.int .i64 y.idx] from ⟨rfl, HOK3.out⟩)
   go_wp2_with (at_builtin; go_must (refine wpList_app1 E_int rfl _ _ rfl u8 _ rfl (HOR.out.below HBA.out) wr.heap.size rfl y.idx [.int .i64 y.idx] HNEW.out HRD.out HAM.out.1 HAM.out.2 (Nat.le_trans HWR.out HBA.out.size) ?_); intro v2 w9 hown_ hgrow_ hnew_; have HOWN9 := Lib.hid hown_; have HG9 := Lib.hid hgrow_; clear hown_ hgrow_ hnew_ y0 t0)
   have HLB := Lib.hid (show ∀ q, u8.ownBlock = some q → w3.heap.size ≤ q from fun q hq => (HOR.out.lt q hq).1)
   have HBA2 := Lib.hid (HBR.out.trans (HBA.out.mono HBR.out.size))
   have HB9 := Lib.hid (HBA2.out.grown HG9.out HBA2.out.size (fun q hq => by have := HLB.out q hq; have := HWT.out; omega))
   have HT9 := Lib.hid ((HTR.out.kept (grown_none HBA.out) (fun e => by cases e)).kept HG9.out (fun e => by have := HLB.out _ e.symm; have := HWT.out; omega))
   go_roundw
   case rel => exact ⟨k + 1, by omega, by go_num, HB9, Lib.hid (Nat.le_trans HWR.out (Nat.le_trans HBA.out.size HG9.out.size)), HT9, by rw [HST.out]; exact HOWN9⟩
   case measure => simp [intOf]; omega
  ·
   have i1 : ¬ (k : Int) < (L.length : Int) := by omega
   obtain rfl : k = L.length := by omega
   obtain ⟨ll, hll⟩ : ∃ z, [i, j] ++ idxs (L.take L.length) = z := ⟨_, rfl⟩
   rw [hll] at HOR
   have HLL := Lib.hid (show ll.length ≤ 20 by rw [← hll]; unfold idxs; simp; have := HLN.out; omega)
   obtain ⟨A5, c5, hv5, hs5⟩ := HOR.out.ints
   have ho5 := okI_all hs5
   have h51 := hs5.1; have h52 := hs5.2.1
   unfold maxLen at h52
   subst hv5
   have HOKL := Lib.hid ho5
   have HRS := Lib.hid (show RsS w w2.heap.size AT cT L A5 c5 ll wr from ⟨HBw2.out.trans (HBR.out.mono HBw2.out.size), HTR.out, (HSL.out.keep HBR.out).more HBR.out.size, hs5⟩)
   clear hs5 ho5 hll HOR HTR HBR
   have t0 := HRS.out.2.1.1 0 _ rfl
   go_wp2_with fail
   clear t0
   go_loopw [10] (fun kk wr => ∃ k : Nat, k ≤ ll.length ∧ kk = .int .i64 k ∧ Hid (RsS w w2.heap.size AT cT L A5 c5 ll wr)) (fun kk _ => ll.length - (intOf kk).toNat)
   case atStart => exact ⟨0, Nat.zero_le _, rfl, HRS⟩
   case round =>
    clear HRS
    obtain ⟨k, hk, rfl, HRS⟩ := hrel
    by_cases hkt : k < ll.length
    ·
     have i2 : (k : Int) < (ll.length : Int) := by omega
     obtain ⟨b5, o5, rfl, hb5, hc5, -, -⟩ := HRS.out.2.2.2.int hkt
     obtain ⟨x, hx⟩ : ∃ x, ll[k]'hkt = x := ⟨_, rfl⟩
     rw [hx] at hc5
     have HOX := Lib.hid (show okI x from HOKL.out x (by rw [← hx]; exact List.getElem_mem hkt))
     have HC5 := Lib.hid hc5; have HXX := Lib.hid hx; clear hx hc5 hb5
     have HBR := Lib.hid HRS.out.1; have HTR := Lib.hid HRS.out.2.1; have HSR := Lib.hid HRS.out.2.2.1; have HIR := Lib.hid HRS.out.2.2.2
     go_upto_region 10 with fail
     refine wp_region_held_drew (S := fun w' => BoxL w' w2.heap.size [.slice AT L.length cT] ∧ w'.cell? ⟨b5, o5 + k, none⟩ = some (.int .i64 x)) (by kernel_rfl) ⟨HTR.out.drew, by show (World.drew wr).cell? _ = _; exact HC5.out⟩ (fun hS0 => ?_)
     obtain ⟨wd1, hwd1⟩ : ∃ z, World.drew wr = z := ⟨_, rfl⟩
     rw [hwd1] at hS0 ⊢
     have hb_ : Below wr.heap.size wr wd1 := by rw [← hwd1]; exact below_drewN_self _ _ 1
     clear hwd1
     have HSAwd1 := Lib.hid hS0; clear hS0
     have HSwd1 := Lib.hid (show wr.heap.size ≤ wd1.heap.size from hb_.size)
     have HBwd1 := Lib.hid (HBR.out.trans (hb_.mono HBR.out.size))
     have twd1 := Lib.hid (HTR.out.kept (grown_none hb_) (fun e => by cases e))
     have HSLwd1 := Lib.hid ((HSR.out).next (Nat.le_refl _) hb_)
     have HILwd1 := Lib.hid ((HIR.out).next (Nat.le_refl _) hb_)
     clear hb_
     refine wpAnyH_take (i := 0) (oi := ⟨some 46, _, _, _, _, _⟩) (v := .agg #[.slice AT L.length cT]) rfl (by kernel_rfl) (by kernel_rfl) (by kernel_rfl) (fun _ _ _ h => h) (Or.inl ⟨by rfl, fun w' hS => by (have u0_ := hS.1.1 0 _ rfl; go_simp)⟩) HSAwd1.out ?_
     try simp only [Act.put, List.setIfInBounds_toArray, List.set_cons_zero, List.set_cons_succ]
     refine wpAnyH_take (i := 1) (oi := ⟨some 47, _, _, _, _, _⟩) (v := .slice (some ⟨b5, o5, none⟩) ll.length c5) rfl (by kernel_rfl) (by kernel_rfl) (by kernel_rfl) (fun _ _ _ h => h) (Or.inl ⟨by rfl, fun w' hS => by go_simp⟩) HSAwd1.out ?_
     try simp only [Act.put, List.setIfInBounds_toArray, List.set_cons_zero, List.set_cons_succ]
     refine wpAnyH_take (i := 2) (oi := ⟨some 48, _, _, _, _, _⟩) (v := .int .i64 k) rfl (by kernel_rfl) (by kernel_rfl) (by kernel_rfl) (fun _ _ _ h => h) (Or.inl ⟨by rfl, fun w' hS => by go_simp⟩) HSAwd1.out ?_
     try simp only [Act.put, List.setIfInBounds_toArray, List.set_cons_zero, List.set_cons_succ]
     refine wpAnyH_take (i := 3) (oi := ⟨some 49, _, _, _, _, _⟩) (v := .pointer (some ⟨b5, o5 + k, none⟩)) rfl (by kernel_rfl) (by kernel_rfl) (by kernel_rfl) (fun _ _ _ h => h) (Or.inl ⟨by rfl, fun w' hS => by go_simp⟩) HSAwd1.out ?_
     try simp only [Act.put, List.setIfInBounds_toArray, List.set_cons_zero, List.set_cons_succ]
     refine wpAnyH_take (i := 4) (oi := ⟨some 50, _, _, _, _, _⟩) (v := .int .i64 x) rfl (by kernel_rfl) (by kernel_rfl) (by kernel_rfl) (fun _ _ _ h => h) (Or.inl ⟨by rfl, fun w' hS => by (have u0_ := hS.2; go_simp)⟩) HSAwd1.out ?_
     try simp only [Act.put, List.setIfInBounds_toArray, List.set_cons_zero, List.set_cons_succ]
     refine wpAnyH_ready (rs := [5]) (by kernel_rfl) (by simp) ?_
     refine AllReadyH.cons (o := ⟨some 51, .call ⟨_, _, _⟩, _, _, _, _⟩) rfl (fun K hK => ?_) AllReadyH.nil
     go_simp
     go_at_call 16
     refine (Partition_any AT cT L x _ _ (Nat.le_refl _) HSLwd1.out HVT.out (HOA.out.next HBwd1.out)).mono ?_
     rintro e' q1 ⟨rfl, hb_⟩
     obtain ⟨pk, hpk⟩ : ∃ z : Int, (partO L x : Int) = z := ⟨_, rfl⟩
     obtain ⟨pz, hpz⟩ : ∃ z, decide (partO L x ≠ 0) = z := ⟨_, rfl⟩
     rw [hpk, hpz]
     have HPK := Lib.hid hpk; have HPZ := Lib.hid hpz; clear hpk hpz
     have HSAq1 := Lib.hid (show BoxL q1 w2.heap.size [.slice AT L.length cT] ∧ q1.cell? ⟨b5, o5 + k, none⟩ = some (.int .i64 x) from ⟨(HSAwd1.out.1).kept (grown_none hb_) (fun e => by cases e), cell_on hb_ (HSAwd1.out.2)⟩)
     have HSq1 := Lib.hid (show wd1.heap.size ≤ q1.heap.size from hb_.size)
     have HBq1 := Lib.hid (HBwd1.out.trans (hb_.mono HBwd1.out.size))
     have tq1 := Lib.hid (twd1.out.kept (grown_none hb_) (fun e => by cases e))
     have HSLq1 := Lib.hid ((HSLwd1.out).next (Nat.le_refl _) hb_)
     have HILq1 := Lib.hid ((HILwd1.out).next (Nat.le_refl _) hb_)
     clear hb_
     refine hK.out _ _ HSAq1.out (fun _ => ?_)
     clear hK K
     try simp only [Act.put, List.setIfInBounds_toArray, List.set_cons_zero, List.set_cons_succ]
     refine wpAnyH_take (i := 6) (oi := ⟨some 45, _, _, _, _, _⟩) (v := .tuple #[.int .i64 pk, .bool pz]) rfl (by kernel_rfl) (by kernel_rfl) (by kernel_rfl) (fun _ _ _ h => h) (Or.inl ⟨by rfl, fun w' hS => by go_simp⟩) HSAq1.out ?_
     try simp only [Act.put, List.setIfInBounds_toArray, List.set_cons_zero, List.set_cons_succ]
     refine wpAnyH_take (i := 7) (oi := ⟨some 52, _, _, _, _, _⟩) (v := .int .i64 pk) rfl (by kernel_rfl) (by kernel_rfl) (by kernel_rfl) (fun _ _ _ h => h) (Or.inl ⟨by rfl, fun w' hS => by go_simp⟩) HSAq1.out ?_
     try simp only [Act.put, List.setIfInBounds_toArray, List.set_cons_zero, List.set_cons_succ]
     refine wpAnyH_take (i := 8) (oi := ⟨some 53, _, _, _, _, _⟩) (v := .bool pz) rfl (by kernel_rfl) (by kernel_rfl) (by kernel_rfl) (fun _ _ _ h => h) (Or.inl ⟨by rfl, fun w' hS => by go_simp⟩) HSAq1.out ?_
     try simp only [Act.put, List.setIfInBounds_toArray, List.set_cons_zero, List.set_cons_succ]
     refine wpAnyH_take (i := 9) (oi := ⟨some 11, _, _, _, _, _⟩) (v := .int .i64 pk) rfl (by kernel_rfl) (by kernel_rfl) (by kernel_rfl) (fun _ _ _ h => h) (Or.inl ⟨by rfl, fun w' hS => by go_simp⟩) HSAq1.out ?_
     try simp only [Act.put, List.setIfInBounds_toArray, List.set_cons_zero, List.set_cons_succ]
     refine wpAnyH_take (i := 10) (oi := ⟨some 12, _, _, _, _, _⟩) (v := .bool pz) rfl (by kernel_rfl) (by kernel_rfl) (by kernel_rfl) (fun _ _ _ h => h) (Or.inl ⟨by rfl, fun w' hS => by go_simp⟩) HSAq1.out ?_
     try simp only [Act.put, List.setIfInBounds_toArray, List.set_cons_zero, List.set_cons_succ]
     refine wpAnyH_done (by kernel_rfl) ?_ _
     have HCa := Lib.hid HSAq1.out.2
     go_upto_region 11 with fail
     refine wp_region_held_drew (S := fun w' => BoxL w' w2.heap.size [.slice AT L.length cT] ∧ w'.cell? ⟨b5, o5 + k, none⟩ = some (.int .i64 x)) (by kernel_rfl) ⟨tq1.out.drew, by show (World.drew q1).cell? _ = _; exact HCa.out⟩ (fun hS0 => ?_)
     obtain ⟨wd2, hwd2⟩ : ∃ z, World.drew q1 = z := ⟨_, rfl⟩
     rw [hwd2] at hS0 ⊢
     have hb_ : Below q1.heap.size q1 wd2 := by rw [← hwd2]; exact below_drewN_self _ _ 1
     clear hwd2
     have HSAwd2 := Lib.hid hS0; clear hS0
     have HSwd2 := Lib.hid (show q1.heap.size ≤ wd2.heap.size from hb_.size)
     have HBwd2 := Lib.hid (HBq1.out.trans (hb_.mono HBq1.out.size))
     have twd2 := Lib.hid (tq1.out.kept (grown_none hb_) (fun e => by cases e))
     have HSLwd2 := Lib.hid ((HSLq1.out).next (Nat.le_refl _) hb_)
     have HILwd2 := Lib.hid ((HILq1.out).next (Nat.le_refl _) hb_)
     clear hb_
     refine wpAnyH_take (i := 0) (oi := ⟨some 55, _, _, _, _, _⟩) (v := .agg #[.slice AT L.length cT]) rfl (by kernel_rfl) (by kernel_rfl) (by kernel_rfl) (fun _ _ _ h => h) (Or.inl ⟨by rfl, fun w' hS => by (have u0_ := hS.1.1 0 _ rfl; go_simp)⟩) HSAwd2.out ?_
     try simp only [Act.put, List.setIfInBounds_toArray, List.set_cons_zero, List.set_cons_succ]
     refine wpAnyH_take (i := 1) (oi := ⟨some 56, _, _, _, _, _⟩) (v := .slice (some ⟨b5, o5, none⟩) ll.length c5) rfl (by kernel_rfl) (by kernel_rfl) (by kernel_rfl) (fun _ _ _ h => h) (Or.inl ⟨by rfl, fun w' hS => by go_simp⟩) HSAwd2.out ?_
     try simp only [Act.put, List.setIfInBounds_toArray, List.set_cons_zero, List.set_cons_succ]
     refine wpAnyH_take (i := 2) (oi := ⟨some 57, _, _, _, _, _⟩) (v := .int .i64 k) rfl (by kernel_rfl) (by kernel_rfl) (by kernel_rfl) (fun _ _ _ h => h) (Or.inl ⟨by rfl, fun w' hS => by go_simp⟩) HSAwd2.out ?_
     try simp only [Act.put, List.setIfInBounds_toArray, List.set_cons_zero, List.set_cons_succ]
     refine wpAnyH_take (i := 3) (oi := ⟨some 58, _, _, _, _, _⟩) (v := .pointer (some ⟨b5, o5 + k, none⟩)) rfl (by kernel_rfl) (by kernel_rfl) (by kernel_rfl) (fun _ _ _ h => h) (Or.inl ⟨by rfl, fun w' hS => by go_simp⟩) HSAwd2.out ?_
     try simp only [Act.put, List.setIfInBounds_toArray, List.set_cons_zero, List.set_cons_succ]
     refine wpAnyH_take (i := 4) (oi := ⟨some 59, _, _, _, _, _⟩) (v := .int .i64 x) rfl (by kernel_rfl) (by kernel_rfl) (by kernel_rfl) (fun _ _ _ h => h) (Or.inl ⟨by rfl, fun w' hS => by (have u0_ := hS.2; go_simp)⟩) HSAwd2.out ?_
     try simp only [Act.put, List.setIfInBounds_toArray, List.set_cons_zero, List.set_cons_succ]
     refine wpAnyH_ready (rs := [5]) (by kernel_rfl) (by simp) ?_
     refine AllReadyH.cons (o := ⟨some 60, .call ⟨_, _, _⟩, _, _, _, _⟩) rfl (fun K hK => ?_) AllReadyH.nil
     go_simp
     go_at_call 17
     refine (RPartition_any AT cT L x _ _ (Nat.le_refl _) HSLwd2.out HVT.out).mono ?_
     rintro e' q2 ⟨rfl, hb_⟩
     rw [HPK.out, HPZ.out]
     have HSAq2 := Lib.hid (show BoxL q2 w2.heap.size [.slice AT L.length cT] ∧ q2.cell? ⟨b5, o5 + k, none⟩ = some (.int .i64 x) from ⟨(HSAwd2.out.1).kept (grown_none hb_) (fun e => by cases e), cell_on hb_ (HSAwd2.out.2)⟩)
     have HSq2 := Lib.hid (show wd2.heap.size ≤ q2.heap.size from hb_.size)
     have HBq2 := Lib.hid (HBwd2.out.trans (hb_.mono HBwd2.out.size))
     have tq2 := Lib.hid (twd2.out.kept (grown_none hb_) (fun e => by cases e))
     have HSLq2 := Lib.hid ((HSLwd2.out).next (Nat.le_refl _) hb_)
     have HILq2 := Lib.hid ((HILwd2.out).next (Nat.le_refl _) hb_)
     clear hb_
     refine hK.out _ _ HSAq2.out (fun _ => ?_)
     clear hK K
     try simp only [Act.put, List.setIfInBounds_toArray, List.set_cons_zero, List.set_cons_succ]
     refine wpAnyH_take (i := 6) (oi := ⟨some 54, _, _, _, _, _⟩) (v := .tuple #[.int .i64 pk, .bool pz]) rfl (by kernel_rfl) (by kernel_rfl) (by kernel_rfl) (fun _ _ _ h => h) (Or.inl ⟨by rfl, fun w' hS => by go_simp⟩) HSAq2.out ?_
     try simp only [Act.put, List.setIfInBounds_toArray, List.set_cons_zero, List.set_cons_succ]
     refine wpAnyH_take (i := 7) (oi := ⟨some 61, _, _, _, _, _⟩) (v := .int .i64 pk) rfl (by kernel_rfl) (by kernel_rfl) (by kernel_rfl) (fun _ _ _ h => h) (Or.inl ⟨by rfl, fun w' hS => by go_simp⟩) HSAq2.out ?_
     try simp only [Act.put, List.setIfInBounds_toArray, List.set_cons_zero, List.set_cons_succ]
     refine wpAnyH_take (i := 8) (oi := ⟨some 62, _, _, _, _, _⟩) (v := .bool pz) rfl (by kernel_rfl) (by kernel_rfl) (by kernel_rfl) (fun _ _ _ h => h) (Or.inl ⟨by rfl, fun w' hS => by go_simp⟩) HSAq2.out ?_
     try simp only [Act.put, List.setIfInBounds_toArray, List.set_cons_zero, List.set_cons_succ]
     refine wpAnyH_take (i := 9) (oi := ⟨some 13, _, _, _, _, _⟩) (v := .int .i64 pk) rfl (by kernel_rfl) (by kernel_rfl) (by kernel_rfl) (fun _ _ _ h => h) (Or.inl ⟨by rfl, fun w' hS => by go_simp⟩) HSAq2.out ?_
     try simp only [Act.put, List.setIfInBounds_toArray, List.set_cons_zero, List.set_cons_succ]
     refine wpAnyH_take (i := 10) (oi := ⟨some 14, _, _, _, _, _⟩) (v := .bool pz) rfl (by kernel_rfl) (by kernel_rfl) (by kernel_rfl) (fun _ _ _ h => h) (Or.inl ⟨by rfl, fun w' hS => by go_simp⟩) HSAq2.out ?_
     try simp only [Act.put, List.setIfInBounds_toArray, List.set_cons_zero, List.set_cons_succ]
     refine wpAnyH_done (by kernel_rfl) ?_ _
     have HCb := Lib.hid HSAq2.out.2
     have hzz : (pz != pz) = false := by cases pz <;> rfl
     go_wp2_with fail
     clear hzz
     have HRQ := Lib.hid (show RsS w w2.heap.size AT cT L (some ⟨b5, o5, none⟩) c5 ll q2 from ⟨HBq2.out, tq2.out, HSLq2.out, HILq2.out⟩)
     go_loopw [15] (fun qq wx => ∃ q : Nat, q ≤ ll.length ∧ qq = .int .i64 q ∧ Hid (RsS w w2.heap.size AT cT L (some ⟨b5, o5, none⟩) c5 ll wx)) (fun qq _ => ll.length - (intOf qq).toNat)
     case atStart => exact ⟨0, Nat.zero_le _, rfl, HRQ⟩
     case round =>
      clear HRQ
      obtain ⟨q, hq, rfl, HRQ⟩ := hrel
      by_cases hqt : q < ll.length
      ·
       have i3 : (q : Int) < (ll.length : Int) := by omega
       obtain ⟨b6, o6, e6, hb6, hc6, -, -⟩ := HRQ.out.2.2.2.int hqt
       cases e6
       obtain ⟨b7, o7, e7, -, hc7, -, -⟩ := HRQ.out.2.2.2.int hkt
       cases e7
       obtain ⟨y, hy⟩ : ∃ y, ll[q]'hqt = y := ⟨_, rfl⟩
       rw [hy] at hc6
       have HOY := Lib.hid (show okI y from HOKL.out y (by rw [← hy]; exact List.getElem_mem hqt))
       have hc7 : _ = some (Value.int .i64 x) := HXX.out ▸ hc7
       have HC6 := Lib.hid hc6; have HC7 := Lib.hid hc7; clear hy hc6 hc7 hb6
       have HBQ := Lib.hid HRQ.out.1; have HTQ := Lib.hid HRQ.out.2.1; have HSQ := Lib.hid HRQ.out.2.2.1; have HIQ := Lib.hid HRQ.out.2.2.2
       go_upto_region 17 with fail
       refine wp_region_held_drew (S := fun w' => BoxL w' w2.heap.size [.slice AT L.length cT] ∧ w'.cell? ⟨b5, o5 + k, none⟩ = some (.int .i64 x) ∧ w'.cell? ⟨b5, o5 + q, none⟩ = some (.int .i64 y)) (by kernel_rfl) ⟨HTQ.out.drew, by show (World.drew wr).cell? _ = _; exact HC7.out, by show (World.drew wr).cell? _ = _; exact HC6.out⟩ (fun hS0 => ?_)
       obtain ⟨wd3, hwd3⟩ : ∃ z, World.drew wr = z := ⟨_, rfl⟩
       rw [hwd3] at hS0 ⊢
       have hb_ : Below wr.heap.size wr wd3 := by rw [← hwd3]; exact below_drewN_self _ _ 1
       clear hwd3
       have HSAwd3 := Lib.hid hS0; clear hS0
       have HSwd3 := Lib.hid (show wr.heap.size ≤ wd3.heap.size from hb_.size)
       have HBwd3 := Lib.hid (HBQ.out.trans (hb_.mono HBQ.out.size))
       have twd3 := Lib.hid (HTQ.out.kept (grown_none hb_) (fun e => by cases e))
       have HSLwd3 := Lib.hid ((HSQ.out).next (Nat.le_refl _) hb_)
       have HILwd3 := Lib.hid ((HIQ.out).next (Nat.le_refl _) hb_)
       clear hb_
       refine wpAnyH_take (i := 0) (oi := ⟨some 77, _, _, _, _, _⟩) (v := .agg #[.slice AT L.length cT]) rfl (by kernel_rfl) (by kernel_rfl) (by kernel_rfl) (fun _ _ _ h => h) (Or.inl ⟨by rfl, fun w' hS => by (have u0_ := hS.1.1 0 _ rfl; go_simp)⟩) HSAwd3.out ?_
       try simp only [Act.put, List.setIfInBounds_toArray, List.set_cons_zero, List.set_cons_succ]
       refine wpAnyH_take (i := 1) (oi := ⟨some 78, _, _, _, _, _⟩) (v := .slice (some ⟨b5, o5, none⟩) ll.length c5) rfl (by kernel_rfl) (by kernel_rfl) (by kernel_rfl) (fun _ _ _ h => h) (Or.inl ⟨by rfl, fun w' hS => by go_simp⟩) HSAwd3.out ?_
       try simp only [Act.put, List.setIfInBounds_toArray, List.set_cons_zero, List.set_cons_succ]
       refine wpAnyH_take (i := 2) (oi := ⟨some 79, _, _, _, _, _⟩) (v := .int .i64 k) rfl (by kernel_rfl) (by kernel_rfl) (by kernel_rfl) (fun _ _ _ h => h) (Or.inl ⟨by rfl, fun w' hS => by go_simp⟩) HSAwd3.out ?_
       try simp only [Act.put, List.setIfInBounds_toArray, List.set_cons_zero, List.set_cons_succ]
       refine wpAnyH_take (i := 3) (oi := ⟨some 80, _, _, _, _, _⟩) (v := .pointer (some ⟨b5, o5 + k, none⟩)) rfl (by kernel_rfl) (by kernel_rfl) (by kernel_rfl) (fun _ _ _ h => h) (Or.inl ⟨by rfl, fun w' hS => by go_simp⟩) HSAwd3.out ?_
       try simp only [Act.put, List.setIfInBounds_toArray, List.set_cons_zero, List.set_cons_succ]
       refine wpAnyH_take (i := 4) (oi := ⟨some 81, _, _, _, _, _⟩) (v := .int .i64 x) rfl (by kernel_rfl) (by kernel_rfl) (by kernel_rfl) (fun _ _ _ h => h) (Or.inl ⟨by rfl, fun w' hS => by (have u0_ := hS.2.1; go_simp)⟩) HSAwd3.out ?_
       try simp only [Act.put, List.setIfInBounds_toArray, List.set_cons_zero, List.set_cons_succ]
       refine wpAnyH_take (i := 5) (oi := ⟨some 82, _, _, _, _, _⟩) (v := .slice (some ⟨b5, o5, none⟩) ll.length c5) rfl (by kernel_rfl) (by kernel_rfl) (by kernel_rfl) (fun _ _ _ h => h) (Or.inl ⟨by rfl, fun w' hS => by go_simp⟩) HSAwd3.out ?_
       try simp only [Act.put, List.setIfInBounds_toArray, List.set_cons_zero, List.set_cons_succ]
       refine wpAnyH_take (i := 6) (oi := ⟨some 83, _, _, _, _, _⟩) (v := .int .i64 q) rfl (by kernel_rfl) (by kernel_rfl) (by kernel_rfl) (fun _ _ _ h => h) (Or.inl ⟨by rfl, fun w' hS => by go_simp⟩) HSAwd3.out ?_
       try simp only [Act.put, List.setIfInBounds_toArray, List.set_cons_zero, List.set_cons_succ]
       refine wpAnyH_take (i := 7) (oi := ⟨some 84, _, _, _, _, _⟩) (v := .pointer (some ⟨b5, o5 + q, none⟩)) rfl (by kernel_rfl) (by kernel_rfl) (by kernel_rfl) (fun _ _ _ h => h) (Or.inl ⟨by rfl, fun w' hS => by go_simp⟩) HSAwd3.out ?_
       try simp only [Act.put, List.setIfInBounds_toArray, List.set_cons_zero, List.set_cons_succ]
       refine wpAnyH_take (i := 8) (oi := ⟨some 85, _, _, _, _, _⟩) (v := .int .i64 y) rfl (by kernel_rfl) (by kernel_rfl) (by kernel_rfl) (fun _ _ _ h => h) (Or.inl ⟨by rfl, fun w' hS => by (have u0_ := hS.2.2; go_simp)⟩) HSAwd3.out ?_
       try simp only [Act.put, List.setIfInBounds_toArray, List.set_cons_zero, List.set_cons_succ]
       refine wpAnyH_take (i := 10) (oi := ⟨some 87, _, _, _, _, _⟩) (v := .agg #[.slice AT L.length cT]) rfl (by kernel_rfl) (by kernel_rfl) (by kernel_rfl) (fun _ _ _ h => h) (Or.inl ⟨by rfl, fun w' hS => by (have u0_ := hS.1.1 0 _ rfl; go_simp)⟩) HSAwd3.out ?_
       try simp only [Act.put, List.setIfInBounds_toArray, List.set_cons_zero, List.set_cons_succ]
       refine wpAnyH_take (i := 11) (oi := ⟨some 88, _, _, _, _, _⟩) (v := .slice (some ⟨b5, o5, none⟩) ll.length c5) rfl (by kernel_rfl) (by kernel_rfl) (by kernel_rfl) (fun _ _ _ h => h) (Or.inl ⟨by rfl, fun w' hS => by go_simp⟩) HSAwd3.out ?_
       try simp only [Act.put, List.setIfInBounds_toArray, List.set_cons_zero, List.set_cons_succ]
       refine wpAnyH_take (i := 12) (oi := ⟨some 89, _, _, _, _, _⟩) (v := .int .i64 k) rfl (by kernel_rfl) (by kernel_rfl) (by kernel_rfl) (fun _ _ _ h => h) (Or.inl ⟨by rfl, fun w' hS => by go_simp⟩) HSAwd3.out ?_
       try simp only [Act.put, List.setIfInBounds_toArray, List.set_cons_zero, List.set_cons_succ]
       refine wpAnyH_take (i := 13) (oi := ⟨some 90, _, _, _, _, _⟩) (v := .pointer (some ⟨b5, o5 + k, none⟩)) rfl (by kernel_rfl) (by kernel_rfl) (by kernel_rfl) (fun _ _ _ h => h) (Or.inl ⟨by rfl, fun w' hS => by go_simp⟩) HSAwd3.out ?_
       try simp only [Act.put, List.setIfInBounds_toArray, List.set_cons_zero, List.set_cons_succ]
       refine wpAnyH_take (i := 14) (oi := ⟨some 91, _, _, _, _, _⟩) (v := .int .i64 x) rfl (by kernel_rfl) (by kernel_rfl) (by kernel_rfl) (fun _ _ _ h => h) (Or.inl ⟨by rfl, fun w' hS => by (have u0_ := hS.2.1; go_simp)⟩) HSAwd3.out ?_
       try simp only [Act.put, List.setIfInBounds_toArray, List.set_cons_zero, List.set_cons_succ]
       refine wpAnyH_take (i := 15) (oi := ⟨some 92, _, _, _, _, _⟩) (v := .slice (some ⟨b5, o5, none⟩) ll.length c5) rfl (by kernel_rfl) (by kernel_rfl) (by kernel_rfl) (fun _ _ _ h => h) (Or.inl ⟨by rfl, fun w' hS => by go_simp⟩) HSAwd3.out ?_
       try simp only [Act.put, List.setIfInBounds_toArray, List.set_cons_zero, List.set_cons_succ]
       refine wpAnyH_take (i := 16) (oi := ⟨some 93, _, _, _, _, _⟩) (v := .int .i64 q) rfl (by kernel_rfl) (by kernel_rfl) (by kernel_rfl) (fun _ _ _ h => h) (Or.inl ⟨by rfl, fun w' hS => by go_simp⟩) HSAwd3.out ?_
       try simp only [Act.put, List.setIfInBounds_toArray, List.set_cons_zero, List.set_cons_succ]
       refine wpAnyH_take (i := 17) (oi := ⟨some 94, _, _, _, _, _⟩) (v := .pointer (some ⟨b5, o5 + q, none⟩)) rfl (by kernel_rfl) (by kernel_rfl) (by kernel_rfl) (fun _ _ _ h => h) (Or.inl ⟨by rfl, fun w' hS => by go_simp⟩) HSAwd3.out ?_
       try simp only [Act.put, List.setIfInBounds_toArray, List.set_cons_zero, List.set_cons_succ]
       refine wpAnyH_take (i := 18) (oi := ⟨some 95, _, _, _, _, _⟩) (v := .int .i64 y) rfl (by kernel_rfl) (by kernel_rfl) (by kernel_rfl) (fun _ _ _ h => h) (Or.inl ⟨by rfl, fun w' hS => by (have u0_ := hS.2.2; go_simp)⟩) HSAwd3.out ?_
       try simp only [Act.put, List.setIfInBounds_toArray, List.set_cons_zero, List.set_cons_succ]
       refine wpAnyH_ready (rs := [9]) (by kernel_rfl) (by simp) ?_
       refine AllReadyH.cons (o := ⟨some 86, .call ⟨_, _, _⟩, _, _, _, _⟩) rfl (fun K hK => ?_) AllReadyH.nil
       go_simp
       go_at_call 18
       refine (Sisters_any AT cT L x y _ _ (Nat.le_refl _) HSLwd3.out HVT.out (HOA.out.next HBwd3.out)).mono ?_
       rintro e' s1 ⟨rfl, hb_⟩
       obtain ⟨sz, hsz⟩ : ∃ z, sisB L x y = z := ⟨_, rfl⟩
       rw [hsz]
       have HSZ := Lib.hid hsz; clear hsz
       have HSAs1 := Lib.hid (show BoxL s1 w2.heap.size [.slice AT L.length cT] ∧ s1.cell? ⟨b5, o5 + k, none⟩ = some (.int .i64 x) ∧ s1.cell? ⟨b5, o5 + q, none⟩ = some (.int .i64 y) from ⟨(HSAwd3.out.1).kept (grown_none hb_) (fun e => by cases e), cell_on hb_ (HSAwd3.out.2.1), cell_on hb_ (HSAwd3.out.2.2)⟩)
       have HSs1 := Lib.hid (show wd3.heap.size ≤ s1.heap.size from hb_.size)
       have HBs1 := Lib.hid (HBwd3.out.trans (hb_.mono HBwd3.out.size))
       have ts1 := Lib.hid (twd3.out.kept (grown_none hb_) (fun e => by cases e))
       have HSLs1 := Lib.hid ((HSLwd3.out).next (Nat.le_refl _) hb_)
       have HILs1 := Lib.hid ((HILwd3.out).next (Nat.le_refl _) hb_)
       clear hb_
       refine hK.out _ _ HSAs1.out (fun _ => ?_)
       clear hK K
       try simp only [Act.put, List.setIfInBounds_toArray, List.set_cons_zero, List.set_cons_succ]
       refine wpAnyH_ready (rs := [19]) (by kernel_rfl) (by simp) ?_
       refine AllReadyH.cons (o := ⟨some 96, .call ⟨_, _, _⟩, _, _, _, _⟩) rfl (fun K hK => ?_) AllReadyH.nil
       go_simp
       go_at_call 19
       refine (RSisters_any AT cT L x y _ _ (Nat.le_refl _) HSLs1.out HVT.out).mono ?_
       rintro e' s2 ⟨rfl, hb_⟩
       rw [HSZ.out]
       have HSAs2 := Lib.hid (show BoxL s2 w2.heap.size [.slice AT L.length cT] ∧ s2.cell? ⟨b5, o5 + k, none⟩ = some (.int .i64 x) ∧ s2.cell? ⟨b5, o5 + q, none⟩ = some (.int .i64 y) from ⟨(HSAs1.out.1).kept (grown_none hb_) (fun e => by cases e), cell_on hb_ (HSAs1.out.2.1), cell_on hb_ (HSAs1.out.2.2)⟩)
       have HSs2 := Lib.hid (show s1.heap.size ≤ s2.heap.size from hb_.size)
       have HBs2 := Lib.hid (HBs1.out.trans (hb_.mono HBs1.out.size))
       have ts2 := Lib.hid (ts1.out.kept (grown_none hb_) (fun e => by cases e))
       have HSLs2 := Lib.hid ((HSLs1.out).next (Nat.le_refl _) hb_)
       have HILs2 := Lib.hid ((HILs1.out).next (Nat.le_refl _) hb_)
       clear hb_
       refine hK.out _ _ HSAs2.out (fun _ => ?_)
       clear hK K
       try simp only [Act.put, List.setIfInBounds_toArray, List.set_cons_zero, List.set_cons_succ]
       have hss : (sz != sz) = false := by cases sz <;> rfl
       refine wpAnyH_take (i := 20) (oi := ⟨some 97, _, _, _, _, _⟩) (v := .bool false) rfl (by kernel_rfl) (by kernel_rfl) (by kernel_rfl) (fun _ _ _ h => h) (Or.inl ⟨by rfl, fun w' hS => by go_simp⟩) HSAs2.out ?_
       try simp only [Act.put, List.setIfInBounds_toArray, List.set_cons_zero, List.set_cons_succ]
       refine wpAnyH_take (i := 21) (oi := ⟨some 98, _, _, _, _, _⟩) (v := .bool false) rfl (by kernel_rfl) (by kernel_rfl) (by kernel_rfl) (fun _ _ _ h => h) (Or.inl ⟨by rfl, fun w' hS => by go_simp⟩) HSAs2.out ?_
       try simp only [Act.put, List.setIfInBounds_toArray, List.set_cons_zero, List.set_cons_succ]
       clear hss
       refine wpAnyH_take (i := 22) (oi := ⟨some 99, _, _, _, _, _⟩) (v := .agg #[.slice AT L.length cT]) rfl (by kernel_rfl) (by kernel_rfl) (by kernel_rfl) (fun _ _ _ h => h) (Or.inl ⟨by rfl, fun w' hS => by (have u0_ := hS.1.1 0 _ rfl; go_simp)⟩) HSAs2.out ?_
       try simp only [Act.put, List.setIfInBounds_toArray, List.set_cons_zero, List.set_cons_succ]
       refine wpAnyH_take (i := 23) (oi := ⟨some 100, _, _, _, _, _⟩) (v := .slice (some ⟨b5, o5, none⟩) ll.length c5) rfl (by kernel_rfl) (by kernel_rfl) (by kernel_rfl) (fun _ _ _ h => h) (Or.inl ⟨by rfl, fun w' hS => by go_simp⟩) HSAs2.out ?_
       try simp only [Act.put, List.setIfInBounds_toArray, List.set_cons_zero, List.set_cons_succ]
       refine wpAnyH_take (i := 24) (oi := ⟨some 101, _, _, _, _, _⟩) (v := .int .i64 k) rfl (by kernel_rfl) (by kernel_rfl) (by kernel_rfl) (fun _ _ _ h => h) (Or.inl ⟨by rfl, fun w' hS => by go_simp⟩) HSAs2.out ?_
       try simp only [Act.put, List.setIfInBounds_toArray, List.set_cons_zero, List.set_cons_succ]
       refine wpAnyH_take (i := 25) (oi := ⟨some 102, _, _, _, _, _⟩) (v := .pointer (some ⟨b5, o5 + k, none⟩)) rfl (by kernel_rfl) (by kernel_rfl) (by kernel_rfl) (fun _ _ _ h => h) (Or.inl ⟨by rfl, fun w' hS => by go_simp⟩) HSAs2.out ?_
       try simp only [Act.put, List.setIfInBounds_toArray, List.set_cons_zero, List.set_cons_succ]
       refine wpAnyH_take (i := 26) (oi := ⟨some 103, _, _, _, _, _⟩) (v := .int .i64 x) rfl (by kernel_rfl) (by kernel_rfl) (by kernel_rfl) (fun _ _ _ h => h) (Or.inl ⟨by rfl, fun w' hS => by (have u0_ := hS.2.1; go_simp)⟩) HSAs2.out ?_
       try simp only [Act.put, List.setIfInBounds_toArray, List.set_cons_zero, List.set_cons_succ]
       refine wpAnyH_take (i := 27) (oi := ⟨some 104, _, _, _, _, _⟩) (v := .slice (some ⟨b5, o5, none⟩) ll.length c5) rfl (by kernel_rfl) (by kernel_rfl) (by kernel_rfl) (fun _ _ _ h => h) (Or.inl ⟨by rfl, fun w' hS => by go_simp⟩) HSAs2.out ?_
       try simp only [Act.put, List.setIfInBounds_toArray, List.set_cons_zero, List.set_cons_succ]
       refine wpAnyH_take (i := 28) (oi := ⟨some 105, _, _, _, _, _⟩) (v := .int .i64 q) rfl (by kernel_rfl) (by kernel_rfl) (by kernel_rfl) (fun _ _ _ h => h) (Or.inl ⟨by rfl, fun w' hS => by go_simp⟩) HSAs2.out ?_
       try simp only [Act.put, List.setIfInBounds_toArray, List.set_cons_zero, List.set_cons_succ]
       refine wpAnyH_take (i := 29) (oi := ⟨some 106, _, _, _, _, _⟩) (v := .pointer (some ⟨b5, o5 + q, none⟩)) rfl (by kernel_rfl) (by kernel_rfl) (by kernel_rfl) (fun _ _ _ h => h) (Or.inl ⟨by rfl, fun w' hS => by go_simp⟩) HSAs2.out ?_
       try simp only [Act.put, List.setIfInBounds_toArray, List.set_cons_zero, List.set_cons_succ]
       refine wpAnyH_take (i := 30) (oi := ⟨some 107, _, _, _, _, _⟩) (v := .int .i64 y) rfl (by kernel_rfl) (by kernel_rfl) (by kernel_rfl) (fun _ _ _ h => h) (Or.inl ⟨by rfl, fun w' hS => by (have u0_ := hS.2.2; go_simp)⟩) HSAs2.out ?_
       try simp only [Act.put, List.setIfInBounds_toArray, List.set_cons_zero, List.set_cons_succ]
       refine wpAnyH_take (i := 32) (oi := ⟨some 109, _, _, _, _, _⟩) (v := .agg #[.slice AT L.length cT]) rfl (by kernel_rfl) (by kernel_rfl) (by kernel_rfl) (fun _ _ _ h => h) (Or.inl ⟨by rfl, fun w' hS => by (have u0_ := hS.1.1 0 _ rfl; go_simp)⟩) HSAs2.out ?_
       try simp only [Act.put, List.setIfInBounds_toArray, List.set_cons_zero, List.set_cons_succ]
       refine wpAnyH_take (i := 33) (oi := ⟨some 110, _, _, _, _, _⟩) (v := .slice (some ⟨b5, o5, none⟩) ll.length c5) rfl (by kernel_rfl) (by kernel_rfl) (by kernel_rfl) (fun _ _ _ h => h) (Or.inl ⟨by rfl, fun w' hS => by go_simp⟩) HSAs2.out ?_
       try simp only [Act.put, List.setIfInBounds_toArray, List.set_cons_zero, List.set_cons_succ]
       refine wpAnyH_take (i := 34) (oi := ⟨some 111, _, _, _, _, _⟩) (v := .int .i64 k) rfl (by kernel_rfl) (by kernel_rfl) (by kernel_rfl) (fun _ _ _ h => h) (Or.inl ⟨by rfl, fun w' hS => by go_simp⟩) HSAs2.out ?_
       try simp only [Act.put, List.setIfInBounds_toArray, List.set_cons_zero, List.set_cons_succ]
       refine wpAnyH_take (i := 35) (oi := ⟨some 112, _, _, _, _, _⟩) (v := .pointer (some ⟨b5, o5 + k, none⟩)) rfl (by kernel_rfl) (by kernel_rfl) (by kernel_rfl) (fun _ _ _ h => h) (Or.inl ⟨by rfl, fun w' hS => by go_simp⟩) HSAs2.out ?_
       try simp only [Act.put, List.setIfInBounds_toArray, List.set_cons_zero, List.set_cons_succ]
       refine wpAnyH_take (i := 36) (oi := ⟨some 113, _, _, _, _, _⟩) (v := .int .i64 x) rfl (by kernel_rfl) (by kernel_rfl) (by kernel_rfl) (fun _ _ _ h => h) (Or.inl ⟨by rfl, fun w' hS => by (have u0_ := hS.2.1; go_simp)⟩) HSAs2.out ?_
       try simp only [Act.put, List.setIfInBounds_toArray, List.set_cons_zero, List.set_cons_succ]
       refine wpAnyH_take (i := 37) (oi := ⟨some 114, _, _, _, _, _⟩) (v := .slice (some ⟨b5, o5, none⟩) ll.length c5) rfl (by kernel_rfl) (by kernel_rfl) (by kernel_rfl) (fun _ _ _ h => h) (Or.inl ⟨by rfl, fun w' hS => by go_simp⟩) HSAs2.out ?_
       try simp only [Act.put, List.setIfInBounds_toArray, List.set_cons_zero, List.set_cons_succ]
       refine wpAnyH_take (i := 38) (oi := ⟨some 115, _, _, _, _, _⟩) (v := .int .i64 q) rfl (by kernel_rfl) (by kernel_rfl) (by kernel_rfl) (fun _ _ _ h => h) (Or.inl ⟨by rfl, fun w' hS => by go_simp⟩) HSAs2.out ?_
       try simp only [Act.put, List.setIfInBounds_toArray, List.set_cons_zero, List.set_cons_succ]
       refine wpAnyH_take (i := 39) (oi := ⟨some 116, _, _, _, _, _⟩) (v := .pointer (some ⟨b5, o5 + q, none⟩)) rfl (by kernel_rfl) (by kernel_rfl) (by kernel_rfl) (fun _ _ _ h => h) (Or.inl ⟨by rfl, fun w' hS => by go_simp⟩) HSAs2.out ?_
       try simp only [Act.put, List.setIfInBounds_toArray, List.set_cons_zero, List.set_cons_succ]
       refine wpAnyH_take (i := 40) (oi := ⟨some 117, _, _, _, _, _⟩) (v := .int .i64 y) rfl (by kernel_rfl) (by kernel_rfl) (by kernel_rfl) (fun _ _ _ h => h) (Or.inl ⟨by rfl, fun w' hS => by (have u0_ := hS.2.2; go_simp)⟩) HSAs2.out ?_
       try simp only [Act.put, List.setIfInBounds_toArray, List.set_cons_zero, List.set_cons_succ]
       refine wpAnyH_ready (rs := [31]) (by kernel_rfl) (by simp) ?_
       refine AllReadyH.cons (o := ⟨some 108, .call ⟨_, _, _⟩, _, _, _, _⟩) rfl (fun K hK => ?_) AllReadyH.nil
       go_simp
       go_at_call 20
       refine (Related_any AT cT L x y _ _ (Nat.le_refl _) HSLs2.out HVT.out HOX.out HOY.out (HOK.out.next HBs2.out) (HOA.out.next HBs2.out)).mono ?_
       rintro e' s3 ⟨rfl, hb_⟩
       obtain ⟨rz, hrz⟩ : ∃ z, relB L x y = z := ⟨_, rfl⟩
       rw [hrz]
       have HRZ := Lib.hid hrz; clear hrz
       have HSAs3 := Lib.hid (show BoxL s3 w2.heap.size [.slice AT L.length cT] ∧ s3.cell? ⟨b5, o5 + k, none⟩ = some (.int .i64 x) ∧ s3.cell? ⟨b5, o5 + q, none⟩ = some (.int .i64 y) from ⟨(HSAs2.out.1).kept (grown_none hb_) (fun e => by cases e), cell_on hb_ (HSAs2.out.2.1), cell_on hb_ (HSAs2.out.2.2)⟩)
       have HSs3 := Lib.hid (show s2.heap.size ≤ s3.heap.size from hb_.size)
       have HBs3 := Lib.hid (HBs2.out.trans (hb_.mono HBs2.out.size))
       have ts3 := Lib.hid (ts2.out.kept (grown_none hb_) (fun e => by cases e))
       have HSLs3 := Lib.hid ((HSLs2.out).next (Nat.le_refl _) hb_)
       have HILs3 := Lib.hid ((HILs2.out).next (Nat.le_refl _) hb_)
       clear hb_
       refine hK.out _ _ HSAs3.out (fun _ => ?_)
       clear hK K
       try simp only [Act.put, List.setIfInBounds_toArray, List.set_cons_zero, List.set_cons_succ]
       refine wpAnyH_ready (rs := [41]) (by kernel_rfl) (by simp) ?_
       refine AllReadyH.cons (o := ⟨some 118, .call ⟨_, _, _⟩, _, _, _, _⟩) rfl (fun K hK => ?_) AllReadyH.nil
       go_simp
       go_at_call 21
       refine (RRelated_any AT cT L x y _ _ (Nat.le_refl _) HSLs3.out HVT.out HOX.out HOY.out).mono ?_
       rintro e' s4 ⟨rfl, hb_⟩
       rw [HRZ.out]
       have HSAs4 := Lib.hid (show BoxL s4 w2.heap.size [.slice AT L.length cT] ∧ s4.cell? ⟨b5, o5 + k, none⟩ = some (.int .i64 x) ∧ s4.cell? ⟨b5, o5 + q, none⟩ = some (.int .i64 y) from ⟨(HSAs3.out.1).kept (grown_none hb_) (fun e => by cases e), cell_on hb_ (HSAs3.out.2.1), cell_on hb_ (HSAs3.out.2.2)⟩)
       have HSs4 := Lib.hid (show s3.heap.size ≤ s4.heap.size from hb_.size)
       have HBs4 := Lib.hid (HBs3.out.trans (hb_.mono HBs3.out.size))
       have ts4 := Lib.hid (ts3.out.kept (grown_none hb_) (fun e => by cases e))
       have HSLs4 := Lib.hid ((HSLs3.out).next (Nat.le_refl _) hb_)
       have HILs4 := Lib.hid ((HILs3.out).next (Nat.le_refl _) hb_)
       clear hb_
       refine hK.out _ _ HSAs4.out (fun _ => ?_)
       clear hK K
       try simp only [Act.put, List.setIfInBounds_toArray, List.set_cons_zero, List.set_cons_succ]
       have hrr : (rz != rz) = false := by cases rz <;> rfl
       refine wpAnyH_take (i := 42) (oi := ⟨some 119, _, _, _, _, _⟩) (v := .bool false) rfl (by kernel_rfl) (by kernel_rfl) (by kernel_rfl) (fun _ _ _ h => h) (Or.inl ⟨by rfl, fun w' hS => by go_simp⟩) HSAs4.out ?_
       try simp only [Act.put, List.setIfInBounds_toArray, List.set_cons_zero, List.set_cons_succ]
       refine wpAnyH_take (i := 43) (oi := ⟨some 120, _, _, _, _, _⟩) (v := .bool false) rfl (by kernel_rfl) (by kernel_rfl) (by kernel_rfl) (fun _ _ _ h => h) (Or.inl ⟨by rfl, fun w' hS => by go_simp⟩) HSAs4.out ?_
       try simp only [Act.put, List.setIfInBounds_toArray, List.set_cons_zero, List.set_cons_succ]
       clear hrr
       refine wpAnyH_done (by kernel_rfl) ?_ _
       have HRN := Lib.hid (show RsS w w2.heap.size AT cT L (some ⟨b5, o5, none⟩) c5 ll s4 from ⟨HBs4.out, ts4.out, HSLs4.out, HILs4.out⟩)
       go_wp2
       go_roundw
       case rel => exact ⟨q + 1, by omega, by go_num, HRN⟩
       case measure => simp [intOf]; omega
      ·
       have i3 : ¬ (q : Int) < (ll.length : Int) := by omega
       go_wp2
       go_roundw
       case rel => exact ⟨k + 1, by omega, by go_num, HRQ⟩
       case measure => simp [intOf]; omega
    ·
     have i2 : ¬ (k : Int) < (ll.length : Int) := by omega
     go_wp2_with fail
     refine (known_any _ (HOK.out.next HRS.out.1) (HOA.out.next HRS.out.1)).mono ?_
     rintro e w' ⟨rfl, hb⟩
     go_wp2
     go_ret
     exact ⟨by try rfl, HRS.out.1.trans (hb.mono HRS.out.1.size)⟩
end Go.Proofs.YtomcebcaendilaaGreatDoor
namespace Go.Proofs.YtomcebcaendilaaGreatDoor
open Go.RowKit Go.Cold
namespace cRelateRelates
open Go.ChangeShapes Go.WideShapes Go.ChangeAt
open Go.ChangeMaps (open_string)
set_option maxRecDepth 100000
theorem reads (os : Os) {H : Type} (enc : TypeId × Value → H) : ∃ places, DataW.whole enc Tryz.prog ((World.laidAll Tryz.prog os Rows.relateRelatesRow.laid).forCall (fun _ _ => 0) ⟨#[], #[.slice none 0 0, .int .i64 0, .int .i64 0], []⟩).memory Tryz.f4.params.toList Rows.relateRelatesSpec.vars false (#[.slice none 0 0, .int .i64 0, .int .i64 0] : Array Value).toList 8 = some ([.nil, .lit (.int .i64 0), .lit (.int .i64 0)], [], places) :=
 ⟨[], by kernel_rfl⟩
theorem lifted (os : Os) (started : os.Started) (H : Type) (enc : TypeId × Value → H) (F : Stop.Interp) :
  ReturnsInHanded {} Tryz.checked os 4 .any ((OpenSpec.ofChange Rows.relateRelatesSpec).preRow enc Tryz.prog Tryz.f4 Rows.relateRelatesRow.domain false Rows.relateRelatesRow.laid) (((OpenSpec.ofChange Rows.relateRelatesSpec).at F).post enc Tryz.prog Tryz.f4 false true false false) := by
 obtain ⟨places, hx⟩ := reads os enc
 refine law_lifted os started H enc F (by kernel_rfl) Tryz.func4 #[.slice none 0 0, .int .i64 0, .int .i64 0] (World.shaped_of_ZipB (by kernel_rfl) (by kernel_rfl)) (by kernel_rfl)
  (OpenSpec.preRow_of_cond 8 hx (by kernel_rfl) (fun k hk => by cases hk) (by kernel_rfl) (laidMet_laidAll _ (by kernel_rfl) (by kernel_rfl))) rfl rfl
  (fun ds hl => by
   rw [Tryz.params4] at hl
   match ds, hl with
   | [d0, d1, d2], _ => rfl) (by kernel_rfl) ?_
 intro W base args ds ps hval hA hlt hz hsh hlaid
 rw [Tryz.params4] at hA hval
 obtain ⟨v0, vs0, d0, ds0, p0, q0, hargs, rfl, rfl, h0, r0⟩ := trodAll_cons hA
 obtain ⟨v1, vs1, d1, ds1, p1, q1, rfl, rfl, rfl, h1, r1⟩ := trodAll_cons r0
 obtain ⟨v2, vs2, d2, ds2, p2, q2, rfl, rfl, rfl, h2, r2⟩ := trodAll_cons r1
 obtain ⟨rfl, rfl, rfl⟩ := trodAll_nil r2
 obtain rfl : args = #[v0, v1, v2] := by cases args; simp_all
 obtain ⟨A0, c0, xs0, rfl, s0⟩ := open_nums Tryz.underlying24 Tryz.underlying3 (by kernel_rfl) (hval 0 24 v0 rfl rfl) h0 (fun x hx => hlt x (List.mem_append_left _ hx))
 obtain ⟨a1, rfl, rfl, rfl, w1⟩ := open_int Tryz.underlying3 (hval 1 3 v1 rfl rfl) h1
 obtain ⟨a2, rfl, rfl, rfl, w2⟩ := open_int Tryz.underlying3 (hval 2 3 v2 rfl rfl) h2
 exact lawRelates_any A0 c0 xs0 a1 a2 W (show Ok W from Tryz.laysM146.s1_3 W hsh) (oka_of_laid hlaid) s0 (wf_i64.1 w1) (wf_i64.1 w2)
theorem said : Rows.RelateRelatesSaid :=
 OpenClaim.holds_of_cond 4 Tryz.f4 rfl rfl rfl rfl rfl rfl rfl ⟨rfl, rfl, rfl, rfl, rfl⟩ rfl rfl rfl rfl rfl (by kernel_rfl) Tryz.func4 (by kernel_rfl)
  (of_decide_eq_true (by kernel_rfl)) (by unfold Func.isWrapper; first | (rw [if_pos (by decide +kernel)]; kernel_rfl) | (rw [if_neg (by decide +kernel)]; exact ⟨rfl, rfl⟩))
  (fun os started H enc _ F => by rw [OpenClaim.pre_eq_preRow]; exact lifted os started H enc F)
theorem plain (f : FuncId) (fn : Func) (hf : Tryz.pinned.checked.prog.funcNamed Rows.relateRelatesRow.func = some f) (hfn : Tryz.pinned.checked.prog.funcs[f]? = some fn) :
  true = Tryz.pinned.checked.prog.looks [] ∧ ∀ (j : Nat) t, fn.params[j]? = some t → Tryz.pinned.checked.prog.wantsStandIn t = false := by
 obtain rfl : f = 4 := Option.some.inj ((show Tryz.prog.funcNamed Rows.relateRelatesRow.func = some 4 by kernel_rfl).symm.trans hf) |>.symm
 obtain rfl : fn = Tryz.f4 := (Option.some.inj (Tryz.func4.symm.trans hfn)).symm
 refine ⟨by kernel_rfl, fun j t ht => ?_⟩
 rw [Tryz.params4] at ht
 have hm : t ∈ [24, 3, 3] := by simpa using Array.mem_of_getElem? ht
 have hall : ([24, 3, 3].all fun u => !Tryz.prog.wantsStandIn u) = true := by kernel_rfl
 exact (show Tryz.prog.wantsStandIn t = false by simpa using List.all_eq_true.1 hall t hm)
/-- The card. -/
theorem card : Rows.RelateRelatesCardSaid :=
 Claim7.holds_tied_plain_at .later [] _ _ _ _ said (fun _ h => by cases h) (by kernel_rfl) (fun _ h => by cases h) relateRelates_row_tie rfl ⟨rfl, rfl⟩ (by kernel_rfl) rfl plain (by kernel_rfl)
end cRelateRelates
end Go.Proofs.YtomcebcaendilaaGreatDoor
