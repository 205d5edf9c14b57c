/-
  RelateSymmetric: row and card.
 Conditions: those of the given row and card (the listed variables of the library hold what the text lays), nothing else.
-/
import Derived.Test.YtomcebcaendilaaGreatDoorHRH
import Derived.Test.YtomcebcaendilaaGreatDoorHRG
import Derived.Test.YtomcebcaendilaaGreatDoorHL
import Derived.Test.YtomcebcaendilaaGreatDoorHRA
import Derived.Test.YtomcebcaendilaaGreatDoorHM
import Derived.ShutString
set_option linter.unusedSimpArgs false
set_option linter.unusedVariables false
namespace Go.Cold
open Go Go.RowKit
/-- Where a law of the chapter stands: the tree's box, the tree, a list of numbers. -/
def RsS (w : World) (gt : Nat) (A : Option Addr) (c : Nat) (L : List Dev) (A2 : Option Addr) (c2 : Nat) (ll : List Int) (wr : World) : Prop :=
 Below w.heap.size w wr ∧ BoxL wr gt [.slice A L.length c] ∧ Sl wr wr.heap.size A c L ∧ Sl wr wr.heap.size A2 c2 ll
theorem RsS.below {w wr wx : World} {gt : Nat} {A A2 : Option Addr} {c c2 : Nat} {L : List Dev} {ll : List Int} (h : RsS w gt A c L A2 c2 ll wr) (hb : Below wr.heap.size wr wx) : RsS w gt A c L A2 c2 ll wx :=
 ⟨h.1.trans (hb.mono h.1.size), h.2.1.kept (grown_none hb) (fun e => by cases e), h.2.2.1.next (Nat.le_refl _) hb, h.2.2.2.next (Nat.le_refl _) hb⟩
theorem flat_one : ∀ l : List Int, (l.map fun x => [Value.int .i64 x]).flatten = l.map fun x => .int .i64 x
 | [] => rfl
 | x :: r => by rw [List.map_cons, List.flatten_cons, flat_one r]; rfl
theorem own_ints {F : Nat → Prop} {w w' : World} {T : TypeId} {xs : List Int} {cs : Array Value} (h : w.alloc (.cells cs T) = w') (hc : cs.toList = xs.map fun x => .int .i64 x) (hok : ∀ x ∈ xs, okI x) (hn : xs.length ≤ maxLen) : OwnsS F w' w.heap.size T (.slice (some ⟨w.heap.size, 0, none⟩) xs.length xs.length) xs := by
 have hs : cs.size = xs.length * 1 := by rw [← Array.length_toList, hc]; simp
 have h1 := World.ownsRow_lit (base := w.heap.size) (e := T) (size := 1) w cs xs.length (Nat.le_refl _) hn hs
 rw [h] at h1
 refine ⟨xs.map fun x => [.int .i64 x], ?_, by simp, fun i x cs' hx hcs => ?_⟩
 ·
  have e : (xs.map fun x => [Value.int .i64 x]).flatten = cs.toList := by rw [hc]; exact flat_one xs
  rw [e]; exact h1
 ·
  rw [List.getElem?_map, hx] at hcs
  cases hcs
  exact ⟨rfl, hok x (List.mem_of_getElem? hx)⟩
end Go.Cold
namespace Go.Proofs.YtomcebcaendilaaGreatDoor
open Go.RowKit Go.Cold
set_option maxRecDepth 100000 in
set_option maxHeartbeats 8000000 in
theorem lawSymmetric_any (A : Option Addr) (c : Nat) (xs : List Int) (w : World) (hok : Ok w) (hoa : OkA w) (hx : Sl w w.heap.size A c xs) :
  Calls Tryz.prog 7 #[.slice A xs.length c] w fun e w' => e = .returned (.bool true) ∧ Below w.heap.size w w' := by
 have HOK := Lib.hid hok; have HOA := Lib.hid hoa; have HX := Lib.hid hx
 clear hok hoa hx 
 go_enter Tryz.func7, Tryz.ntmps7
 go_upto_region 2 with fail
 have htape := tape_new HX.out
 have HNG := Lib.hid (notG_of HOK.out)
 obtain ⟨w1, hw1⟩ : ∃ z, w.alloc (.cells #[.slice A xs.length c, .int .i64 0] 31) = z := ⟨_, rfl⟩
 rw [hw1] at htape
 have hb1 : Below w.heap.size w w1 := by rw [← hw1]; exact (Below.refl _ _).alloc (Nat.le_refl _) _
 have HGw1 := Lib.hid (show w1.heap.size = w.heap.size + 1 by rw [← hw1]; simp)
 try simp only [hw1]
 have HTAPE := Lib.hid htape
 clear hw1 htape
 have HSw1 := Lib.hid (show w.heap.size ≤ w1.heap.size from hb1.size)
 have HBw1 := Lib.hid hb1
 clear hb1
 go_wp2_with fail
 refine (TreeM_any xs 0 w.heap.size w.heap.size 12 w1 (by decide) HTAPE.out ⟨by decide, by decide⟩ (HOK.out.next HBw1.out) HNG.out).mono ?_
 rintro e w2 ⟨AT, cT, L, k1, rfl, ⟨hvt, hmd⟩, hln, hsl, hk1, htp, hg2⟩
 have hb2 : Below w.heap.size w w2 := below_of_grown HBw1.out hg2 HBw1.out.size (Nat.le_refl _)
 have HSB2 := Lib.hid (show w1.heap.size ≤ w2.heap.size from hg2.size)
 have hx1 := hsl.1; have hx2 := hsl.2.1
 unfold maxLen at hx2
 have HVT := Lib.hid hvt; have HMD := Lib.hid hmd; have HLN := Lib.hid (show L.length ≤ 12 by omega); have HSL := Lib.hid (hsl.sl (B := w2.heap.size) (fun x hx => hx.2))
 have HBw2 := Lib.hid hb2
 clear HTAPE hvt hmd hln hsl hk1 htp hg2 hb2
 go_upto_region 2 with fail
 obtain ⟨w3, hw3⟩ : ∃ w3, w2.alloc (.cells #[.slice AT L.length cT] 27) = w3 := ⟨_, rfl⟩
 have hbw3 : Below w2.heap.size w2 w3 := by rw [← hw3]; exact (Below.refl _ _).alloc (Nat.le_refl _) _
 have HGw3 := Lib.hid (show w3.heap.size = w2.heap.size + 1 by rw [← hw3]; simp)
 have HXtw3 := Lib.hid (show BoxL w3 w2.heap.size [.slice AT L.length cT] from box_mk hw3)
 try simp only [hw3]
 have HSTEPw3 := Lib.hid hbw3
 have HSw3 := Lib.hid (show w2.heap.size ≤ w3.heap.size from hbw3.size)
 have HBw3 := Lib.hid (HBw2.out.trans (hbw3.mono HBw2.out.size))
 have HSLw3 := Lib.hid ((HSL.out).next (Nat.le_refl _) hbw3)
 clear hw3 hbw3
 try rw [show w2.heap.size + 1 = w3.heap.size from HGw3.out.symm]
 have HLA := Lib.hid (show ∀ d ∈ L, d.attrs.length ≤ 1000000 from fun d hd => attrs_le (HVT.out.chk d hd))
 have ct0 := HXtw3.out.1 0 _ rfl
 go_wp2_with fail
 have HRS := Lib.hid (show RsS w w2.heap.size AT cT L none 0 [] w3 from ⟨HBw3.out, HXtw3.out, HSLw3.out, Sl.nil_⟩)
 clear ct0
 go_loopw [4] (fun kk wr => ∃ i : Nat, i ≤ L.length ∧ kk = .int .i64 i ∧ Hid (RsS w w2.heap.size AT cT L none 0 [] wr)) (fun kk _ => L.length - (intOf kk).toNat)
 case atStart => exact ⟨0, Nat.zero_le _, rfl, HRS⟩
 case round =>
  clear HRS
  obtain ⟨i, hi, rfl, HRS⟩ := hrel
  have t0 := HRS.out.2.1.1 0 _ rfl
  by_cases hit : i < L.length
  ·
   have i2 : (i : Int) < (L.length : Int) := by omega
   go_wp2_with fail
   clear t0
   go_loopw [5] (fun kk wr => ∃ k : Nat, k ≤ L.length ∧ kk = .int .i64 k ∧ Hid (RsS w w2.heap.size AT cT L none 0 [] wr)) (fun kk _ => L.length - (intOf kk).toNat)
   case atStart => exact ⟨0, Nat.zero_le _, rfl, HRS⟩
   case round =>
    clear HRS
    obtain ⟨k, hk, rfl, HRS⟩ := hrel
    have t0 := HRS.out.2.1.1 0 _ rfl
    by_cases hkt : k < L.length
    ·
     have i3 : (k : Int) < (L.length : Int) := by omega
     obtain ⟨b3, o3, rfl, hb3, A3, c3, hok3, -, hcs3⟩ := HRS.out.2.2.1.dev hit
     obtain ⟨b4, o4, e4, -, A4, c4, hok4, -, hcs4⟩ := HRS.out.2.2.1.dev hkt
     cases e4
     have hmx : L[i]'hit ∈ L := List.getElem_mem hit
     have hmy : L[k]'hkt ∈ L := List.getElem_mem hkt
     obtain ⟨x, hx⟩ : ∃ x, L[i]'hit = x := ⟨_, rfl⟩
     obtain ⟨y, hy⟩ : ∃ y, L[k]'hkt = y := ⟨_, rfl⟩
     rw [hx] at hok3 hcs3 hmx
     rw [hy] at hok4 hcs4 hmy
     have HCX := Lib.hid hcs3.1; have HCY := Lib.hid hcs4.1; have HOX := Lib.hid hok3.1; have HOY := Lib.hid hok4.1; have HMX := Lib.hid hmx; have HMY := Lib.hid hmy
     clear hcs3 hcs4 hok3 hok4 hmx hmy hx hy hb3
     have HBR := Lib.hid HRS.out.1; have HTR := Lib.hid HRS.out.2.1; have HSR := Lib.hid HRS.out.2.2.1
     go_upto_region 8 with fail
     clear t0
     refine wp_region_held_drew (S := fun w' => BoxL w' w2.heap.size [.slice (some ⟨b3, o3, none⟩) L.length cT] ∧ w'.cell? ⟨b3, o3 + i * 10, none⟩ = some (.int .i64 x.idx) ∧ w'.cell? ⟨b3, o3 + k * 10, none⟩ = some (.int .i64 y.idx)) (by kernel_rfl) ⟨HTR.out.drew, by show (World.drew wr).cell? _ = _; exact HCX.out, by show (World.drew wr).cell? _ = _; exact HCY.out⟩ (fun hS0 => ?_)
     obtain ⟨wd1, hwd1⟩ : ∃ z, World.drew wr = z := ⟨_, rfl⟩
     rw [hwd1] at hS0 ⊢
     have hb_ : Below wr.heap.size wr wd1 := by rw [← hwd1]; exact below_drewN_self _ _ 1
     clear hwd1
     have HSAwd1 := Lib.hid hS0; clear hS0
     have HSwd1 := Lib.hid (show wr.heap.size ≤ wd1.heap.size from hb_.size)
     have HBwd1 := Lib.hid (HBR.out.trans (hb_.mono HBR.out.size))
     have twd1 := Lib.hid (HTR.out.kept (grown_none hb_) (fun e => by cases e))
     have HSLwd1 := Lib.hid ((HSR.out).next (Nat.le_refl _) hb_)
     clear hb_
     refine wpAnyH_take (i := 0) (oi := ⟨some 31, _, _, _, _, _⟩) (v := .pointer (some ⟨w2.heap.size, 0, none⟩)) rfl (by kernel_rfl) (by kernel_rfl) (by kernel_rfl) (fun _ _ _ h => h) (Or.inl ⟨by rfl, fun w' hS => by go_simp⟩) HSAwd1.out ?_
     try simp only [Act.put, List.setIfInBounds_toArray, List.set_cons_zero, List.set_cons_succ]
     refine wpAnyH_take (i := 1) (oi := ⟨some 32, _, _, _, _, _⟩) (v := .slice (some ⟨b3, o3, none⟩) L.length cT) rfl (by kernel_rfl) (by kernel_rfl) (by kernel_rfl) (fun _ _ _ h => h) (Or.inl ⟨by rfl, fun w' hS => by (have u0_ := hS.1.1 0 _ rfl; go_simp)⟩) HSAwd1.out ?_
     try simp only [Act.put, List.setIfInBounds_toArray, List.set_cons_zero, List.set_cons_succ]
     refine wpAnyH_take (i := 2) (oi := ⟨some 33, _, _, _, _, _⟩) (v := .int .i64 i) rfl (by kernel_rfl) (by kernel_rfl) (by kernel_rfl) (fun _ _ _ h => h) (Or.inl ⟨by rfl, fun w' hS => by go_simp⟩) HSAwd1.out ?_
     try simp only [Act.put, List.setIfInBounds_toArray, List.set_cons_zero, List.set_cons_succ]
     refine wpAnyH_take (i := 3) (oi := ⟨some 34, _, _, _, _, _⟩) (v := .pointer (some ⟨b3, o3 + i * 10, none⟩)) rfl (by kernel_rfl) (by kernel_rfl) (by kernel_rfl) (fun _ _ _ h => h) (Or.inl ⟨by rfl, fun w' hS => by go_simp⟩) HSAwd1.out ?_
     try simp only [Act.put, List.setIfInBounds_toArray, List.set_cons_zero, List.set_cons_succ]
     refine wpAnyH_take (i := 4) (oi := ⟨some 35, _, _, _, _, _⟩) (v := .pointer (some ⟨b3, o3 + i * 10, none⟩)) rfl (by kernel_rfl) (by kernel_rfl) (by kernel_rfl) (fun _ _ _ h => h) (Or.inl ⟨by rfl, fun w' hS => by go_simp⟩) HSAwd1.out ?_
     try simp only [Act.put, List.setIfInBounds_toArray, List.set_cons_zero, List.set_cons_succ]
     refine wpAnyH_take (i := 5) (oi := ⟨some 36, _, _, _, _, _⟩) (v := .int .i64 x.idx) rfl (by kernel_rfl) (by kernel_rfl) (by kernel_rfl) (fun _ _ _ h => h) (Or.inl ⟨by rfl, fun w' hS => by (have u0_ := hS.2.1; go_simp)⟩) HSAwd1.out ?_
     try simp only [Act.put, List.setIfInBounds_toArray, List.set_cons_zero, List.set_cons_succ]
     refine wpAnyH_take (i := 6) (oi := ⟨some 37, _, _, _, _, _⟩) (v := .pointer (some ⟨w2.heap.size, 0, none⟩)) rfl (by kernel_rfl) (by kernel_rfl) (by kernel_rfl) (fun _ _ _ h => h) (Or.inl ⟨by rfl, fun w' hS => by go_simp⟩) HSAwd1.out ?_
     try simp only [Act.put, List.setIfInBounds_toArray, List.set_cons_zero, List.set_cons_succ]
     refine wpAnyH_take (i := 7) (oi := ⟨some 38, _, _, _, _, _⟩) (v := .slice (some ⟨b3, o3, none⟩) L.length cT) rfl (by kernel_rfl) (by kernel_rfl) (by kernel_rfl) (fun _ _ _ h => h) (Or.inl ⟨by rfl, fun w' hS => by (have u0_ := hS.1.1 0 _ rfl; go_simp)⟩) HSAwd1.out ?_
     try simp only [Act.put, List.setIfInBounds_toArray, List.set_cons_zero, List.set_cons_succ]
     refine wpAnyH_take (i := 8) (oi := ⟨some 39, _, _, _, _, _⟩) (v := .int .i64 k) rfl (by kernel_rfl) (by kernel_rfl) (by kernel_rfl) (fun _ _ _ h => h) (Or.inl ⟨by rfl, fun w' hS => by go_simp⟩) HSAwd1.out ?_
     try simp only [Act.put, List.setIfInBounds_toArray, List.set_cons_zero, List.set_cons_succ]
     refine wpAnyH_take (i := 9) (oi := ⟨some 40, _, _, _, _, _⟩) (v := .pointer (some ⟨b3, o3 + k * 10, none⟩)) rfl (by kernel_rfl) (by kernel_rfl) (by kernel_rfl) (fun _ _ _ h => h) (Or.inl ⟨by rfl, fun w' hS => by go_simp⟩) HSAwd1.out ?_
     try simp only [Act.put, List.setIfInBounds_toArray, List.set_cons_zero, List.set_cons_succ]
     refine wpAnyH_take (i := 10) (oi := ⟨some 41, _, _, _, _, _⟩) (v := .pointer (some ⟨b3, o3 + k * 10, none⟩)) rfl (by kernel_rfl) (by kernel_rfl) (by kernel_rfl) (fun _ _ _ h => h) (Or.inl ⟨by rfl, fun w' hS => by go_simp⟩) HSAwd1.out ?_
     try simp only [Act.put, List.setIfInBounds_toArray, List.set_cons_zero, List.set_cons_succ]
     refine wpAnyH_take (i := 11) (oi := ⟨some 42, _, _, _, _, _⟩) (v := .int .i64 y.idx) rfl (by kernel_rfl) (by kernel_rfl) (by kernel_rfl) (fun _ _ _ h => h) (Or.inl ⟨by rfl, fun w' hS => by (have u0_ := hS.2.2; go_simp)⟩) HSAwd1.out ?_
     try simp only [Act.put, List.setIfInBounds_toArray, List.set_cons_zero, List.set_cons_succ]
     refine wpAnyH_take (i := 12) (oi := ⟨some 6, _, _, _, _, _⟩) (v := .int .i64 x.idx) rfl (by kernel_rfl) (by kernel_rfl) (by kernel_rfl) (fun _ _ _ h => h) (Or.inl ⟨by rfl, fun w' hS => by go_simp⟩) HSAwd1.out ?_
     try simp only [Act.put, List.setIfInBounds_toArray, List.set_cons_zero, List.set_cons_succ]
     refine wpAnyH_take (i := 13) (oi := ⟨some 7, _, _, _, _, _⟩) (v := .int .i64 y.idx) rfl (by kernel_rfl) (by kernel_rfl) (by kernel_rfl) (fun _ _ _ h => h) (Or.inl ⟨by rfl, fun w' hS => by go_simp⟩) HSAwd1.out ?_
     try simp only [Act.put, List.setIfInBounds_toArray, List.set_cons_zero, List.set_cons_succ]
     refine wpAnyH_done (by kernel_rfl) ?_ _
     have HSML := Lib.hid (show ∀ d ∈ L, d.orig.size ≤ 32 from fun d hd => (HVT.out.small d hd).1)
     have ct0 := twd1.out.1 0 _ rfl
     go_wp2_with fail
     refine (Origin_any _ cT L x.idx _ _ (Nat.le_refl _) HSLwd1.out HSML.out (by have := HLN.out; omega) HOX.out).mono ?_
     rintro e v1 ⟨rfl, hbv1⟩
     clear ct0
     have HSv1 := Lib.hid (show wd1.heap.size ≤ v1.heap.size from hbv1.size)
     have HBv1 := Lib.hid (HBwd1.out.trans (hbv1.mono HBwd1.out.size))
     have tv1 := Lib.hid (twd1.out.kept (grown_none hbv1) (fun e => by cases e))
     have HSLv1 := Lib.hid ((HSLwd1.out).next (Nat.le_refl _) hbv1)
     clear hbv1
     rw [show (idxs L).contains x.idx = true from List.contains_iff_mem.2 (mem_idxs HMX.out)]
     obtain ⟨sa, hsa⟩ : ∃ z, strF L x.idx = z := ⟨_, rfl⟩
     rw [hsa]
     have HEsa := Lib.hid hsa; have HZsa := Lib.hid (show sa.size ≤ 8448 by rw [← hsa]; exact str_size HSML.out (by have := HLN.out; omega) _); clear hsa
     have ct0 := tv1.out.1 0 _ rfl
     go_wp2_with fail
     refine (Origin_any _ cT L y.idx _ _ (Nat.le_refl _) HSLv1.out HSML.out (by have := HLN.out; omega) HOY.out).mono ?_
     rintro e v2 ⟨rfl, hbv2⟩
     clear ct0
     have HSv2 := Lib.hid (show v1.heap.size ≤ v2.heap.size from hbv2.size)
     have HBv2 := Lib.hid (HBv1.out.trans (hbv2.mono HBv1.out.size))
     have tv2 := Lib.hid (tv1.out.kept (grown_none hbv2) (fun e => by cases e))
     have HSLv2 := Lib.hid ((HSLv1.out).next (Nat.le_refl _) hbv2)
     clear hbv2
     rw [show (idxs L).contains y.idx = true from List.contains_iff_mem.2 (mem_idxs HMY.out)]
     obtain ⟨sb, hsb⟩ : ∃ z, strF L y.idx = z := ⟨_, rfl⟩
     rw [hsb]
     have HEsb := Lib.hid hsb; have HZsb := Lib.hid (show sb.size ≤ 8448 by rw [← hsb]; exact str_size HSML.out (by have := HLN.out; omega) _); clear hsb
     have ct0 := tv2.out.1 0 _ rfl
     have HREL := Lib.hid (show relB L x.idx y.idx = ((x.idx == y.idx) || underP sa sb || underP sb sa || sisB L x.idx y.idx) by rw [rel_str HVT.out (List.contains_iff_mem.2 (mem_idxs HMX.out)) (List.contains_iff_mem.2 (mem_idxs HMY.out)), HEsa.out, HEsb.out])
     obtain ⟨rz, hrz⟩ : ∃ z, relB L x.idx y.idx = z := ⟨_, rfl⟩
     rw [hrz] at HREL
     have HRZ := Lib.hid hrz; clear hrz
     go_upto_region 11 with fail
     go_cut [12] (fun s12 wx => s12 = .bool rz ∧ Hid (RsS w w2.heap.size (some ⟨b3, o3, none⟩) cT L none 0 [] wx))
     case first =>
      cases he : (x.idx == y.idx) with
      | true =>
       have hv : rz = true := by rw [HREL.out, he, Bool.true_or, Bool.true_or, Bool.true_or]
       have HRN := Lib.hid (show RsS w w2.heap.size (some ⟨b3, o3, none⟩) cT L none 0 [] v2 from ⟨HBv2.out, tv2.out, HSLv2.out, Sl.nil_⟩)
       have HV := Lib.hid hv; clear hv
       go_wp2_with fail
       go_meet
       exact ⟨by rw [HV.out], HRN⟩
      | false =>
       have HE := Lib.hid he
       go_wp2_with fail
       refine (Ancestor_any sa sb _ (by have := HZsa.out; omega) (by have := HZsb.out; omega) (HOK.out.next HBv2.out)).mono ?_
       rintro e w4 ⟨rfl, hbw4⟩
       clear ct0
       have HSw4 := Lib.hid (show v2.heap.size ≤ w4.heap.size from hbw4.size)
       have HBw4 := Lib.hid (HBv2.out.trans (hbw4.mono HBv2.out.size))
       have tw4 := Lib.hid (tv2.out.kept (grown_none hbw4) (fun e => by cases e))
       have HSLw4 := Lib.hid ((HSLv2.out).next (Nat.le_refl _) hbw4)
       clear hbw4
       obtain ⟨u, hu⟩ : ∃ z, underP sa sb = z := ⟨_, rfl⟩
       rw [hu]
       have HU1 := Lib.hid hu; clear hu
       cases u
       ·
        have ct0 := tw4.out.1 0 _ rfl
        go_wp2_with fail
        refine (Ancestor_any sb sa _ (by have := HZsb.out; omega) (by have := HZsa.out; omega) (HOK.out.next HBw4.out)).mono ?_
        rintro e w5 ⟨rfl, hbw5⟩
        clear ct0
        have HSw5 := Lib.hid (show w4.heap.size ≤ w5.heap.size from hbw5.size)
        have HBw5 := Lib.hid (HBw4.out.trans (hbw5.mono HBw4.out.size))
        have tw5 := Lib.hid (tw4.out.kept (grown_none hbw5) (fun e => by cases e))
        have HSLw5 := Lib.hid ((HSLw4.out).next (Nat.le_refl _) hbw5)
        clear hbw5
        obtain ⟨u, hu⟩ : ∃ z, underP sb sa = z := ⟨_, rfl⟩
        rw [hu]
        have HU2 := Lib.hid hu; clear hu
        cases u
        ·
         have ct0 := tw5.out.1 0 _ rfl
         go_wp2_with fail
         refine (Sisters_any _ cT L x.idx y.idx _ _ (Nat.le_refl _) HSLw5.out HVT.out (HOA.out.next HBw5.out)).mono ?_
         rintro e w6 ⟨rfl, hbw6⟩
         clear ct0
         have HSw6 := Lib.hid (show w5.heap.size ≤ w6.heap.size from hbw6.size)
         have HBw6 := Lib.hid (HBw5.out.trans (hbw6.mono HBw5.out.size))
         have tw6 := Lib.hid (tw5.out.kept (grown_none hbw6) (fun e => by cases e))
         have HSLw6 := Lib.hid ((HSLw5.out).next (Nat.le_refl _) hbw6)
         clear hbw6
         obtain ⟨u, hu⟩ : ∃ z, sisB L x.idx y.idx = z := ⟨_, rfl⟩
         rw [hu]
         have HU3 := Lib.hid hu; clear hu
         have hv : rz = u := by rw [HREL.out, HE.out, HU1.out, HU2.out, HU3.out, Bool.false_or, Bool.false_or, Bool.false_or]
         have HRN := Lib.hid (show RsS w w2.heap.size (some ⟨b3, o3, none⟩) cT L none 0 [] w6 from ⟨HBw6.out, tw6.out, HSLw6.out, Sl.nil_⟩)
         have HV := Lib.hid hv; clear hv
         go_wp2_with fail
         go_meet
         exact ⟨by rw [HV.out], HRN⟩
        ·
         have ct0 := tw5.out.1 0 _ rfl
         have hv : rz = true := by rw [HREL.out, HE.out, HU1.out, HU2.out, Bool.false_or, Bool.or_true, Bool.true_or]
         have HRN := Lib.hid (show RsS w w2.heap.size (some ⟨b3, o3, none⟩) cT L none 0 [] w5 from ⟨HBw5.out, tw5.out, HSLw5.out, Sl.nil_⟩)
         have HV := Lib.hid hv; clear hv
         go_wp2_with fail
         go_meet
         exact ⟨by rw [HV.out], HRN⟩
       ·
        have ct0 := tw4.out.1 0 _ rfl
        have hv : rz = true := by rw [HREL.out, HE.out, HU1.out, Bool.or_true, Bool.true_or, Bool.true_or]
        have HRN := Lib.hid (show RsS w w2.heap.size (some ⟨b3, o3, none⟩) cT L none 0 [] w4 from ⟨HBw4.out, tw4.out, HSLw4.out, Sl.nil_⟩)
        have HV := Lib.hid hv; clear hv
        go_wp2_with fail
        go_meet
        exact ⟨by rw [HV.out], HRN⟩
     case rest =>
     obtain ⟨rfl, HRC⟩ := hcut
     clear HREL HRS
     have HBC := Lib.hid HRC.out.1; have HTC := Lib.hid HRC.out.2.1; have HSC := Lib.hid HRC.out.2.2.1
     go_upto_region 12 with fail
     refine wp_region_held_drew (S := fun w' => BoxL w' w2.heap.size [.slice (some ⟨b3, o3, none⟩) L.length cT]) (by kernel_rfl) HTC.out.drew (fun hS0 => ?_)
     obtain ⟨wd2, hwd2⟩ : ∃ z, World.drew wc = z := ⟨_, rfl⟩
     rw [hwd2] at hS0 ⊢
     have hb_ : Below wc.heap.size wc wd2 := by rw [← hwd2]; exact below_drewN_self _ _ 1
     clear hwd2
     have HSAwd2 := Lib.hid hS0; clear hS0
     have HSwd2 := Lib.hid (show wc.heap.size ≤ wd2.heap.size from hb_.size)
     have HBwd2 := Lib.hid (HBC.out.trans (hb_.mono HBC.out.size))
     have twd2 := Lib.hid (HTC.out.kept (grown_none hb_) (fun e => by cases e))
     have HSLwd2 := Lib.hid ((HSC.out).next (Nat.le_refl _) hb_)
     clear hb_
     refine wpAnyH_take (i := 0) (oi := ⟨some 74, _, _, _, _, _⟩) (v := .agg #[.slice (some ⟨b3, o3, none⟩) L.length cT]) rfl (by kernel_rfl) (by kernel_rfl) (by kernel_rfl) (fun _ _ _ h => h) (Or.inl ⟨by rfl, fun w' hS => by (have u0_ := hS.1 0 _ rfl; go_simp)⟩) HSAwd2.out ?_
     try simp only [Act.put, List.setIfInBounds_toArray, List.set_cons_zero, List.set_cons_succ]
     refine wpAnyH_take (i := 1) (oi := ⟨some 75, _, _, _, _, _⟩) (v := .int .i64 x.idx) rfl (by kernel_rfl) (by kernel_rfl) (by kernel_rfl) (fun _ _ _ h => h) (Or.inl ⟨by rfl, fun w' hS => by go_simp⟩) HSAwd2.out ?_
     try simp only [Act.put, List.setIfInBounds_toArray, List.set_cons_zero, List.set_cons_succ]
     refine wpAnyH_take (i := 2) (oi := ⟨some 76, _, _, _, _, _⟩) (v := .int .i64 y.idx) rfl (by kernel_rfl) (by kernel_rfl) (by kernel_rfl) (fun _ _ _ h => h) (Or.inl ⟨by rfl, fun w' hS => by go_simp⟩) HSAwd2.out ?_
     try simp only [Act.put, List.setIfInBounds_toArray, List.set_cons_zero, List.set_cons_succ]
     refine wpAnyH_take (i := 4) (oi := ⟨some 78, _, _, _, _, _⟩) (v := .bool rz) rfl (by kernel_rfl) (by kernel_rfl) (by kernel_rfl) (fun _ _ _ h => h) (Or.inl ⟨by rfl, fun w' hS => by go_simp⟩) HSAwd2.out ?_
     try simp only [Act.put, List.setIfInBounds_toArray, List.set_cons_zero, List.set_cons_succ]
     refine wpAnyH_ready (rs := [3]) (by kernel_rfl) (by simp) ?_
     refine AllReadyH.cons (o := ⟨some 77, .call ⟨_, _, _⟩, _, _, _, _⟩) rfl (fun K hK => ?_) AllReadyH.nil
     go_simp
     go_at_call 20
     refine (Related_any _ cT L x.idx y.idx _ _ (Nat.le_refl _) HSLwd2.out HVT.out HOX.out HOY.out (HOK.out.next HBwd2.out) (HOA.out.next HBwd2.out)).mono ?_
     rintro e' q1 ⟨rfl, hb_⟩
     rw [HRZ.out]
     have HSAq1 := Lib.hid (show BoxL q1 w2.heap.size [.slice (some ⟨b3, o3, none⟩) L.length cT] from (HSAwd2.out).kept (grown_none hb_) (fun e => by cases e))
     have HSq1 := Lib.hid (show wd2.heap.size ≤ q1.heap.size from hb_.size)
     have HBq1 := Lib.hid (HBwd2.out.trans (hb_.mono HBwd2.out.size))
     have tq1 := Lib.hid (twd2.out.kept (grown_none hb_) (fun e => by cases e))
     have HSLq1 := Lib.hid ((HSLwd2.out).next (Nat.le_refl _) hb_)
     clear hb_
     refine hK.out _ _ HSAq1.out (fun _ => ?_)
     clear hK K
     try simp only [Act.put, List.setIfInBounds_toArray, List.set_cons_zero, List.set_cons_succ]
     have hrr : (rz != rz) = false := by cases rz <;> rfl
     refine wpAnyH_take (i := 5) (oi := ⟨some 79, _, _, _, _, _⟩) (v := .bool false) rfl (by kernel_rfl) (by kernel_rfl) (by kernel_rfl) (fun _ _ _ h => h) (Or.inl ⟨by rfl, fun w' hS => by go_simp⟩) HSAq1.out ?_
     try simp only [Act.put, List.setIfInBounds_toArray, List.set_cons_zero, List.set_cons_succ]
     refine wpAnyH_take (i := 6) (oi := ⟨some 80, _, _, _, _, _⟩) (v := .bool false) rfl (by kernel_rfl) (by kernel_rfl) (by kernel_rfl) (fun _ _ _ h => h) (Or.inl ⟨by rfl, fun w' hS => by go_simp⟩) HSAq1.out ?_
     try simp only [Act.put, List.setIfInBounds_toArray, List.set_cons_zero, List.set_cons_succ]
     refine wpAnyH_take (i := 7) (oi := ⟨some 81, _, _, _, _, _⟩) (v := .agg #[.slice (some ⟨b3, o3, none⟩) L.length cT]) rfl (by kernel_rfl) (by kernel_rfl) (by kernel_rfl) (fun _ _ _ h => h) (Or.inl ⟨by rfl, fun w' hS => by (have u0_ := hS.1 0 _ rfl; go_simp)⟩) HSAq1.out ?_
     try simp only [Act.put, List.setIfInBounds_toArray, List.set_cons_zero, List.set_cons_succ]
     refine wpAnyH_take (i := 8) (oi := ⟨some 82, _, _, _, _, _⟩) (v := .int .i64 y.idx) rfl (by kernel_rfl) (by kernel_rfl) (by kernel_rfl) (fun _ _ _ h => h) (Or.inl ⟨by rfl, fun w' hS => by go_simp⟩) HSAq1.out ?_
     try simp only [Act.put, List.setIfInBounds_toArray, List.set_cons_zero, List.set_cons_succ]
     refine wpAnyH_take (i := 9) (oi := ⟨some 83, _, _, _, _, _⟩) (v := .int .i64 x.idx) rfl (by kernel_rfl) (by kernel_rfl) (by kernel_rfl) (fun _ _ _ h => h) (Or.inl ⟨by rfl, fun w' hS => by go_simp⟩) HSAq1.out ?_
     try simp only [Act.put, List.setIfInBounds_toArray, List.set_cons_zero, List.set_cons_succ]
     refine wpAnyH_take (i := 11) (oi := ⟨some 85, _, _, _, _, _⟩) (v := .bool rz) rfl (by kernel_rfl) (by kernel_rfl) (by kernel_rfl) (fun _ _ _ h => h) (Or.inl ⟨by rfl, fun w' hS => by go_simp⟩) HSAq1.out ?_
     try simp only [Act.put, List.setIfInBounds_toArray, List.set_cons_zero, List.set_cons_succ]
     clear hrr
     refine wpAnyH_ready (rs := [10]) (by kernel_rfl) (by simp) ?_
     refine AllReadyH.cons (o := ⟨some 84, .call ⟨_, _, _⟩, _, _, _, _⟩) rfl (fun K hK => ?_) AllReadyH.nil
     go_simp
     go_at_call 20
     refine (Related_any _ cT L y.idx x.idx _ _ (Nat.le_refl _) HSLq1.out HVT.out HOY.out HOX.out (HOK.out.next HBq1.out) (HOA.out.next HBq1.out)).mono ?_
     rintro e' q2 ⟨rfl, hb_⟩
     rw [rel_comm, HRZ.out]
     have HSAq2 := Lib.hid (show BoxL q2 w2.heap.size [.slice (some ⟨b3, o3, none⟩) L.length cT] from (HSAq1.out).kept (grown_none hb_) (fun e => by cases e))
     have HSq2 := Lib.hid (show q1.heap.size ≤ q2.heap.size from hb_.size)
     have HBq2 := Lib.hid (HBq1.out.trans (hb_.mono HBq1.out.size))
     have tq2 := Lib.hid (tq1.out.kept (grown_none hb_) (fun e => by cases e))
     have HSLq2 := Lib.hid ((HSLq1.out).next (Nat.le_refl _) hb_)
     clear hb_
     refine hK.out _ _ HSAq2.out (fun _ => ?_)
     clear hK K
     try simp only [Act.put, List.setIfInBounds_toArray, List.set_cons_zero, List.set_cons_succ]
     have hrr : (rz != rz) = false := by cases rz <;> rfl
     refine wpAnyH_take (i := 12) (oi := ⟨some 86, _, _, _, _, _⟩) (v := .bool false) rfl (by kernel_rfl) (by kernel_rfl) (by kernel_rfl) (fun _ _ _ h => h) (Or.inl ⟨by rfl, fun w' hS => by go_simp⟩) HSAq2.out ?_
     try simp only [Act.put, List.setIfInBounds_toArray, List.set_cons_zero, List.set_cons_succ]
     refine wpAnyH_take (i := 13) (oi := ⟨some 87, _, _, _, _, _⟩) (v := .bool false) rfl (by kernel_rfl) (by kernel_rfl) (by kernel_rfl) (fun _ _ _ h => h) (Or.inl ⟨by rfl, fun w' hS => by go_simp⟩) HSAq2.out ?_
     try simp only [Act.put, List.setIfInBounds_toArray, List.set_cons_zero, List.set_cons_succ]
     refine wpAnyH_take (i := 14) (oi := ⟨some 88, _, _, _, _, _⟩) (v := .bool false) rfl (by kernel_rfl) (by kernel_rfl) (by kernel_rfl) (fun _ _ _ h => h) (Or.inl ⟨by rfl, fun w' hS => by go_simp⟩) HSAq2.out ?_
     try simp only [Act.put, List.setIfInBounds_toArray, List.set_cons_zero, List.set_cons_succ]
     clear hrr
     refine wpAnyH_take (i := 15) (oi := ⟨some 89, _, _, _, _, _⟩) (v := .agg #[.slice (some ⟨b3, o3, none⟩) L.length cT]) rfl (by kernel_rfl) (by kernel_rfl) (by kernel_rfl) (fun _ _ _ h => h) (Or.inl ⟨by rfl, fun w' hS => by (have u0_ := hS.1 0 _ rfl; go_simp)⟩) HSAq2.out ?_
     try simp only [Act.put, List.setIfInBounds_toArray, List.set_cons_zero, List.set_cons_succ]
     refine wpAnyH_take (i := 16) (oi := ⟨some 90, _, _, _, _, _⟩) (v := .int .i64 x.idx) rfl (by kernel_rfl) (by kernel_rfl) (by kernel_rfl) (fun _ _ _ h => h) (Or.inl ⟨by rfl, fun w' hS => by go_simp⟩) HSAq2.out ?_
     try simp only [Act.put, List.setIfInBounds_toArray, List.set_cons_zero, List.set_cons_succ]
     refine wpAnyH_take (i := 17) (oi := ⟨some 91, _, _, _, _, _⟩) (v := .int .i64 y.idx) rfl (by kernel_rfl) (by kernel_rfl) (by kernel_rfl) (fun _ _ _ h => h) (Or.inl ⟨by rfl, fun w' hS => by go_simp⟩) HSAq2.out ?_
     try simp only [Act.put, List.setIfInBounds_toArray, List.set_cons_zero, List.set_cons_succ]
     refine wpAnyH_take (i := 19) (oi := ⟨some 93, _, _, _, _, _⟩) (v := .agg #[.slice (some ⟨b3, o3, none⟩) L.length cT]) rfl (by kernel_rfl) (by kernel_rfl) (by kernel_rfl) (fun _ _ _ h => h) (Or.inl ⟨by rfl, fun w' hS => by (have u0_ := hS.1 0 _ rfl; go_simp)⟩) HSAq2.out ?_
     try simp only [Act.put, List.setIfInBounds_toArray, List.set_cons_zero, List.set_cons_succ]
     refine wpAnyH_take (i := 20) (oi := ⟨some 94, _, _, _, _, _⟩) (v := .int .i64 y.idx) rfl (by kernel_rfl) (by kernel_rfl) (by kernel_rfl) (fun _ _ _ h => h) (Or.inl ⟨by rfl, fun w' hS => by go_simp⟩) HSAq2.out ?_
     try simp only [Act.put, List.setIfInBounds_toArray, List.set_cons_zero, List.set_cons_succ]
     refine wpAnyH_take (i := 21) (oi := ⟨some 95, _, _, _, _, _⟩) (v := .int .i64 x.idx) rfl (by kernel_rfl) (by kernel_rfl) (by kernel_rfl) (fun _ _ _ h => h) (Or.inl ⟨by rfl, fun w' hS => by go_simp⟩) HSAq2.out ?_
     try simp only [Act.put, List.setIfInBounds_toArray, List.set_cons_zero, List.set_cons_succ]
     refine wpAnyH_ready (rs := [18]) (by kernel_rfl) (by simp) ?_
     refine AllReadyH.cons (o := ⟨some 92, .call ⟨_, _, _⟩, _, _, _, _⟩) rfl (fun K hK => ?_) AllReadyH.nil
     go_simp
     go_at_call 18
     refine (Sisters_any _ cT L x.idx y.idx _ _ (Nat.le_refl _) HSLq2.out HVT.out (HOA.out.next HBq2.out)).mono ?_
     rintro e' q3 ⟨rfl, hb_⟩
     obtain ⟨sz, hsz⟩ : ∃ z, sisB L x.idx y.idx = z := ⟨_, rfl⟩
     rw [hsz]
     have HSZ := Lib.hid hsz; clear hsz
     have HSAq3 := Lib.hid (show BoxL q3 w2.heap.size [.slice (some ⟨b3, o3, none⟩) L.length cT] from (HSAq2.out).kept (grown_none hb_) (fun e => by cases e))
     have HSq3 := Lib.hid (show q2.heap.size ≤ q3.heap.size from hb_.size)
     have HBq3 := Lib.hid (HBq2.out.trans (hb_.mono HBq2.out.size))
     have tq3 := Lib.hid (tq2.out.kept (grown_none hb_) (fun e => by cases e))
     have HSLq3 := Lib.hid ((HSLq2.out).next (Nat.le_refl _) hb_)
     clear hb_
     refine hK.out _ _ HSAq3.out (fun _ => ?_)
     clear hK K
     try simp only [Act.put, List.setIfInBounds_toArray, List.set_cons_zero, List.set_cons_succ]
     refine wpAnyH_ready (rs := [22]) (by kernel_rfl) (by simp) ?_
     refine AllReadyH.cons (o := ⟨some 96, .call ⟨_, _, _⟩, _, _, _, _⟩) rfl (fun K hK => ?_) AllReadyH.nil
     go_simp
     go_at_call 18
     refine (Sisters_any _ cT L y.idx x.idx _ _ (Nat.le_refl _) HSLq3.out HVT.out (HOA.out.next HBq3.out)).mono ?_
     rintro e' q4 ⟨rfl, hb_⟩
     rw [sis_comm, HSZ.out]
     have HSAq4 := Lib.hid (show BoxL q4 w2.heap.size [.slice (some ⟨b3, o3, none⟩) L.length cT] from (HSAq3.out).kept (grown_none hb_) (fun e => by cases e))
     have HSq4 := Lib.hid (show q3.heap.size ≤ q4.heap.size from hb_.size)
     have HBq4 := Lib.hid (HBq3.out.trans (hb_.mono HBq3.out.size))
     have tq4 := Lib.hid (tq3.out.kept (grown_none hb_) (fun e => by cases e))
     have HSLq4 := Lib.hid ((HSLq3.out).next (Nat.le_refl _) hb_)
     clear hb_
     refine hK.out _ _ HSAq4.out (fun _ => ?_)
     clear hK K
     try simp only [Act.put, List.setIfInBounds_toArray, List.set_cons_zero, List.set_cons_succ]
     have hss : (sz != sz) = false := by cases sz <;> rfl
     refine wpAnyH_take (i := 23) (oi := ⟨some 97, _, _, _, _, _⟩) (v := .bool false) rfl (by kernel_rfl) (by kernel_rfl) (by kernel_rfl) (fun _ _ _ h => h) (Or.inl ⟨by rfl, fun w' hS => by go_simp⟩) HSAq4.out ?_
     try simp only [Act.put, List.setIfInBounds_toArray, List.set_cons_zero, List.set_cons_succ]
     refine wpAnyH_take (i := 24) (oi := ⟨some 98, _, _, _, _, _⟩) (v := .bool false) rfl (by kernel_rfl) (by kernel_rfl) (by kernel_rfl) (fun _ _ _ h => h) (Or.inl ⟨by rfl, fun w' hS => by go_simp⟩) HSAq4.out ?_
     try simp only [Act.put, List.setIfInBounds_toArray, List.set_cons_zero, List.set_cons_succ]
     refine wpAnyH_take (i := 25) (oi := ⟨some 99, _, _, _, _, _⟩) (v := .bool false) rfl (by kernel_rfl) (by kernel_rfl) (by kernel_rfl) (fun _ _ _ h => h) (Or.inl ⟨by rfl, fun w' hS => by go_simp⟩) HSAq4.out ?_
     try simp only [Act.put, List.setIfInBounds_toArray, List.set_cons_zero, List.set_cons_succ]
     clear hss
     refine wpAnyH_take (i := 26) (oi := ⟨some 100, _, _, _, _, _⟩) (v := .agg #[.slice (some ⟨b3, o3, none⟩) L.length cT]) rfl (by kernel_rfl) (by kernel_rfl) (by kernel_rfl) (fun _ _ _ h => h) (Or.inl ⟨by rfl, fun w' hS => by (have u0_ := hS.1 0 _ rfl; go_simp)⟩) HSAq4.out ?_
     try simp only [Act.put, List.setIfInBounds_toArray, List.set_cons_zero, List.set_cons_succ]
     refine wpAnyH_take (i := 27) (oi := ⟨some 101, _, _, _, _, _⟩) (v := .int .i64 x.idx) rfl (by kernel_rfl) (by kernel_rfl) (by kernel_rfl) (fun _ _ _ h => h) (Or.inl ⟨by rfl, fun w' hS => by go_simp⟩) HSAq4.out ?_
     try simp only [Act.put, List.setIfInBounds_toArray, List.set_cons_zero, List.set_cons_succ]
     refine wpAnyH_take (i := 28) (oi := ⟨some 102, _, _, _, _, _⟩) (v := .int .i64 x.idx) rfl (by kernel_rfl) (by kernel_rfl) (by kernel_rfl) (fun _ _ _ h => h) (Or.inl ⟨by rfl, fun w' hS => by go_simp⟩) HSAq4.out ?_
     try simp only [Act.put, List.setIfInBounds_toArray, List.set_cons_zero, List.set_cons_succ]
     refine wpAnyH_ready (rs := [29]) (by kernel_rfl) (by simp) ?_
     refine AllReadyH.cons (o := ⟨some 103, .call ⟨_, _, _⟩, _, _, _, _⟩) rfl (fun K hK => ?_) AllReadyH.nil
     go_simp
     go_at_call 18
     refine (Sisters_any _ cT L x.idx x.idx _ _ (Nat.le_refl _) HSLq4.out HVT.out (HOA.out.next HBq4.out)).mono ?_
     rintro e' q5 ⟨rfl, hb_⟩
     rw [sis_self]
     have HSAq5 := Lib.hid (show BoxL q5 w2.heap.size [.slice (some ⟨b3, o3, none⟩) L.length cT] from (HSAq4.out).kept (grown_none hb_) (fun e => by cases e))
     have HSq5 := Lib.hid (show q4.heap.size ≤ q5.heap.size from hb_.size)
     have HBq5 := Lib.hid (HBq4.out.trans (hb_.mono HBq4.out.size))
     have tq5 := Lib.hid (tq4.out.kept (grown_none hb_) (fun e => by cases e))
     have HSLq5 := Lib.hid ((HSLq4.out).next (Nat.le_refl _) hb_)
     clear hb_
     refine hK.out _ _ HSAq5.out (fun _ => ?_)
     clear hK K
     try simp only [Act.put, List.setIfInBounds_toArray, List.set_cons_zero, List.set_cons_succ]
     refine wpAnyH_take (i := 30) (oi := ⟨some 104, _, _, _, _, _⟩) (v := .bool false) rfl (by kernel_rfl) (by kernel_rfl) (by kernel_rfl) (fun _ _ _ h => h) (Or.inl ⟨by rfl, fun w' hS => by go_simp⟩) HSAq5.out ?_
     try simp only [Act.put, List.setIfInBounds_toArray, List.set_cons_zero, List.set_cons_succ]
     refine wpAnyH_done (by kernel_rfl) ?_ _
     have HRN := Lib.hid (show RsS w w2.heap.size (some ⟨b3, o3, none⟩) cT L none 0 [] q5 from ⟨HBq5.out, tq5.out, HSLq5.out, Sl.nil_⟩)
     go_wp2
     go_roundw
     case rel => exact ⟨k + 1, by omega, by go_num, HRN⟩
     case measure => simp [intOf]; omega
    ·
     have i3 : ¬ (k : Int) < (L.length : Int) := by omega
     go_wp2
     go_roundw
     case rel => exact ⟨i + 1, by omega, by go_num, HRS⟩
     case measure => simp [intOf]; omega
  ·
   have i2 : ¬ (i : Int) < (L.length : Int) := by omega
   go_wp2_with fail
   refine (known_any _ (HOK.out.next HRS.out.1) (HOA.out.next HRS.out.1)).mono ?_
   rintro e w' ⟨rfl, hb⟩
   go_wp2
   go_ret
   exact ⟨by try rfl, HRS.out.1.trans (hb.mono HRS.out.1.size)⟩
end Go.Proofs.YtomcebcaendilaaGreatDoor
namespace Go.Proofs.YtomcebcaendilaaGreatDoor
open Go.RowKit Go.Cold
namespace cRelateSymmetric
open Go.ChangeShapes Go.WideShapes Go.ChangeAt
open Go.ChangeMaps (open_string)
set_option maxRecDepth 100000
theorem reads (os : Os) {H : Type} (enc : TypeId × Value → H) : ∃ places, DataW.whole enc Tryz.prog ((World.laidAll Tryz.prog os Rows.relateSymmetricRow.laid).forCall (fun _ _ => 0) ⟨#[], #[.slice none 0 0], []⟩).memory Tryz.f7.params.toList Rows.relateSymmetricSpec.vars false (#[.slice none 0 0] : Array Value).toList 8 = some ([.nil], [], places) :=
 ⟨[], by kernel_rfl⟩
theorem lifted (os : Os) (started : os.Started) (H : Type) (enc : TypeId × Value → H) (F : Stop.Interp) :
  ReturnsInHanded {} Tryz.checked os 7 .any ((OpenSpec.ofChange Rows.relateSymmetricSpec).preRow enc Tryz.prog Tryz.f7 Rows.relateSymmetricRow.domain false Rows.relateSymmetricRow.laid) (((OpenSpec.ofChange Rows.relateSymmetricSpec).at F).post enc Tryz.prog Tryz.f7 false true false false) := by
 obtain ⟨places, hx⟩ := reads os enc
 refine law_lifted os started H enc F (by kernel_rfl) Tryz.func7 #[.slice none 0 0] (World.shaped_of_ZipB (by kernel_rfl) (by kernel_rfl)) (by kernel_rfl)
  (OpenSpec.preRow_of_cond 8 hx (by kernel_rfl) (fun k hk => by cases hk) (by kernel_rfl) (laidMet_laidAll _ (by kernel_rfl) (by kernel_rfl))) rfl rfl
  (fun ds hl => by
   rw [Tryz.params7] at hl
   match ds, hl with
   | [d0], _ => rfl) (by kernel_rfl) ?_
 intro W base args ds ps hval hA hlt hz hsh hlaid
 rw [Tryz.params7] at hA hval
 obtain ⟨v0, vs0, d0, ds0, p0, q0, hargs, rfl, rfl, h0, r0⟩ := trodAll_cons hA
 obtain ⟨rfl, rfl, rfl⟩ := trodAll_nil r0
 obtain rfl : args = #[v0] := by cases args; simp_all
 obtain ⟨A0, c0, xs0, rfl, s0⟩ := open_nums Tryz.underlying24 Tryz.underlying3 (by kernel_rfl) (hval 0 24 v0 rfl rfl) h0 (fun x hx => hlt x (List.mem_append_left _ hx))
 exact lawSymmetric_any A0 c0 xs0 W (show Ok W from Tryz.laysM146.s1_3 W hsh) (oka_of_laid hlaid) s0
theorem said : Rows.RelateSymmetricSaid :=
 OpenClaim.holds_of_cond 7 Tryz.f7 rfl rfl rfl rfl rfl rfl rfl ⟨rfl, rfl, rfl, rfl, rfl⟩ rfl rfl rfl rfl rfl (by kernel_rfl) Tryz.func7 (by kernel_rfl)
  (of_decide_eq_true (by kernel_rfl)) (by unfold Func.isWrapper; first | (rw [if_pos (by decide +kernel)]; kernel_rfl) | (rw [if_neg (by decide +kernel)]; exact ⟨rfl, rfl⟩))
  (fun os started H enc _ F => by rw [OpenClaim.pre_eq_preRow]; exact lifted os started H enc F)
theorem plain (f : FuncId) (fn : Func) (hf : Tryz.pinned.checked.prog.funcNamed Rows.relateSymmetricRow.func = some f) (hfn : Tryz.pinned.checked.prog.funcs[f]? = some fn) :
  true = Tryz.pinned.checked.prog.looks [] ∧ ∀ (j : Nat) t, fn.params[j]? = some t → Tryz.pinned.checked.prog.wantsStandIn t = false := by
 obtain rfl : f = 7 := Option.some.inj ((show Tryz.prog.funcNamed Rows.relateSymmetricRow.func = some 7 by kernel_rfl).symm.trans hf) |>.symm
 obtain rfl : fn = Tryz.f7 := (Option.some.inj (Tryz.func7.symm.trans hfn)).symm
 refine ⟨by kernel_rfl, fun j t ht => ?_⟩
 rw [Tryz.params7] at ht
 have hm : t ∈ [24] := by simpa using Array.mem_of_getElem? ht
 have hall : ([24].all fun u => !Tryz.prog.wantsStandIn u) = true := by kernel_rfl
 exact (show Tryz.prog.wantsStandIn t = false by simpa using List.all_eq_true.1 hall t hm)
/-- The card. -/
theorem card : Rows.RelateSymmetricCardSaid :=
 Claim7.holds_tied_plain_at .later [] _ _ _ _ said (fun _ h => by cases h) (by kernel_rfl) (fun _ h => by cases h) relateSymmetric_row_tie rfl ⟨rfl, rfl⟩ (by kernel_rfl) rfl plain (by kernel_rfl)
end cRelateSymmetric
end Go.Proofs.YtomcebcaendilaaGreatDoor
