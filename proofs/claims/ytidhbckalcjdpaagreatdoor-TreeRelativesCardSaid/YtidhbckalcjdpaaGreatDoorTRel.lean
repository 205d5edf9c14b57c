/-
  TreeRelatives: row and card.
  Conditions: those of the given row and card (the listed variables of the library hold what the text lays), nothing else.
-/
import Derived.Test.YtidhbckalcjdpaaGreatDoorGP
import Derived.Test.YtidhbckalcjdpaaGreatDoorGM
import Derived.ShutString
set_option linter.unusedSimpArgs false
set_option linter.unusedVariables false
namespace Go.Proofs.YtidhbckalcjdpaaGreatDoor
open Go.RowKit Go.Cold
set_option maxHeartbeats 4000000 in
set_option maxRecDepth 100000 in
theorem lawRelatives_any (A : Option Addr) (c : Nat) (xs : List Int) (w : World) (hok : Ok w) (hx : Sl w w.heap.size A c xs) : Calls Tryz.prog 7 #[.slice A xs.length c] w fun e w' => e = .returned (.bool true) ∧ Below w.heap.size w w' := by
  have HOK := Lib.hid hok; have HX := Lib.hid hx; clear hok hx
  go_enter Tryz.func7, Tryz.ntmps7
  go_upto_region 2 with fail
  have htape := tape_new HX.out
  have HNG := Lib.hid (notG_of HOK.out)
  obtain ⟨w1, hw1⟩ : ∃ z, w.alloc (.cells #[.slice A xs.length c, .int .i64 0] 27) = z := ⟨_, rfl⟩
  rw [hw1] at htape
  have hb1 : Below w.heap.size w w1 := by rw [← hw1]; exact (Below.refl _ _).alloc (Nat.le_refl _) _
  have HGw1 := Lib.hid (show w1.heap.size = w.heap.size + 1 by rw [← hw1]; simp)
  try simp only [hw1]
  have HTAPE := Lib.hid htape
  clear hw1 htape
  have HSw1 := Lib.hid (show w.heap.size ≤ w1.heap.size from hb1.size)
  have HBw1 := Lib.hid hb1
  clear hb1
  go_wp2_with fail
  refine (Tree_any xs 0 w.heap.size w.heap.size 10 w1 (by decide) HTAPE.out ⟨by decide, by decide⟩ (HOK.out.next HBw1.out) HNG.out).mono ?_
  rintro e w2 ⟨AT, cT, L, k1, rfl, hvt, hln, hsl, hk1, htp, hg2⟩
  have hb2 : Below w.heap.size w w2 := below_of_grown HBw1.out hg2 HBw1.out.size (Nat.le_refl _)
  have HSB2 := Lib.hid (show w1.heap.size ≤ w2.heap.size from hg2.size)
  have hx1 := hsl.1; have hx2 := hsl.2.1
  unfold maxLen at hx2
  have hin : TreeIn w2 w.heap.size (fun x => w1.heap.size ≤ x ∧ x < w2.heap.size) AT cT L := ⟨hsl, fun x hx => by have := HGw1.out; omega, fun x hx => hx.2⟩
  have HVT := Lib.hid hvt; have HLN := Lib.hid (show L.length ≤ 10 by omega); have HIN := Lib.hid hin; have HK1 := Lib.hid hk1; have HTP := Lib.hid htp
  clear HTAPE hvt hln hsl hk1 htp hg2 hin
  have HBw2 := Lib.hid hb2
  clear hb2
  go_upto_region 3 with fail
  obtain ⟨w3, hw3⟩ : ∃ w3, w2.alloc (.cells #[.slice AT L.length cT] 29) = w3 := ⟨_, rfl⟩
  have hbw3 : Below w2.heap.size w2 w3 := by rw [← hw3]; exact (Below.refl _ _).alloc (Nat.le_refl _) _
  have HGw3 := Lib.hid (show w3.heap.size = w2.heap.size + 1 by rw [← hw3]; simp)
  have HXtw3 := Lib.hid (show BoxL w3 w2.heap.size [.slice AT L.length cT] from box_mk hw3)
  try simp only [hw3]
  have HSTEPw3 := Lib.hid hbw3
  have HSw3 := Lib.hid (show w2.heap.size ≤ w3.heap.size from hbw3.size)
  have HBw3 := Lib.hid (HBw2.out.trans (hbw3.mono HBw2.out.size))
  clear hw3 hbw3
  try rw [show w2.heap.size + 1 = w3.heap.size from HGw3.out.symm]
  have HIN3 := Lib.hid (show TreeIn w3 w.heap.size (fun x => w1.heap.size ≤ x ∧ x < w2.heap.size) AT cT L from ⟨HIN.out.sl.below (HSTEPw3.out) (fun x hx => hx.2), HIN.out.ne, fun x hx => by have := HGw3.out; have := hx.2; omega⟩)
  have HTP3 := Lib.hid (HTP.out.kept (grown_none HSTEPw3.out) (fun e => by cases e) (fun g e => by cases e))
  clear HIN HTP
  have ct0 := HXtw3.out.1 0 _ rfl
  go_wp2_with fail
  refine (Some_any xs k1 w.heap.size w.heap.size AT cT L _ w3 (by have := HK1.out; omega) HTP3.out HIN3.out (fun d hd => (HVT.out.small d hd).2) (by have := HLN.out; omega)).mono ?_
  rintro e w4 ⟨n, k2, rfl, hn, hk2, htp, hg4⟩
  clear ct0
  have hb4 : Below w.heap.size w w4 := HBw3.out.grown hg4 HBw3.out.size (fun q hq => by have := Option.some.inj hq; omega)
  have HSw4 := Lib.hid hg4.size
  have HIN4 := Lib.hid (HIN3.out.tape hg4)
  have HTP4 := Lib.hid htp
  have HBw4 := Lib.hid hb4
  have HXtw4 := Lib.hid (HXtw3.out.kept hg4 (fun e => by have := Option.some.inj e; have := HGw1.out; have := HSB2.out; omega))
  have HN := Lib.hid (show okI n by unfold okI; omega)
  have HNR := Lib.hid hn
  have HK2 := Lib.hid hk2
  clear hb4 htp hg4 hn hk2 HIN3 HTP3
  have HSL := Lib.hid HIN4.out.out
  have ct0 := HXtw4.out.1 0 _ rfl
  have HLA := Lib.hid (show ∀ d ∈ L, d.attrs.length ≤ 1000000 from fun d hd => attrs_le (HVT.out.chk d hd))
  have HL4 := Lib.hid (show L.length ≤ 1000 ∧ L.length ≤ 1000000 by have := HLN.out; omega)
  obtain ⟨l1, hl1⟩ : ∃ z, (chainO L n).drop 1 = z := ⟨_, rfl⟩
  have Hl1 := Lib.hid hl1; clear hl1
  obtain ⟨l2, hl2⟩ : ∃ z, L.filter (byPar n) = z := ⟨_, rfl⟩
  have Hl2 := Lib.hid hl2; clear hl2
  obtain ⟨l3, hl3⟩ : ∃ z, L.filter (byPar 0) = z := ⟨_, rfl⟩
  have Hl3 := Lib.hid hl3; clear hl3
  obtain ⟨l4, hl4⟩ : ∃ z, subR L n = z := ⟨_, rfl⟩
  have Hl4 := Lib.hid hl4; clear hl4
  have HN0 := Lib.hid (show okI 0 from ⟨by decide, by decide⟩)
  go_upto_region 4 with fail
  refine wp_region_held_drew (S := fun w' => BoxL w' w2.heap.size [.slice AT L.length cT]) (by kernel_rfl) HXtw4.out.drew (fun hS0 => ?_)
  obtain ⟨wd, hwd⟩ : ∃ z, World.drew w4 = z := ⟨_, rfl⟩
  rw [hwd] at hS0 ⊢
  have hbwd : Below w4.heap.size w4 wd := by rw [← hwd]; exact below_drewN_self _ _ 1
  clear hwd
  clear ct0
  have HSwd := Lib.hid (show w4.heap.size ≤ wd.heap.size from hbwd.size)
  have HBwd := Lib.hid (HBw4.out.trans (hbwd.mono HBw4.out.size))
  have twd := Lib.hid (HXtw4.out.kept (grown_none hbwd) (fun e => by cases e))
  have HSLwd := Lib.hid (HSL.out.next (Nat.le_refl _) hbwd)
  clear hbwd hS0
  refine wpAnyH_take (i := 0) (oi := ⟨some 14, _, _, _, _, _⟩) (v := .agg #[.slice AT L.length cT]) rfl (by kernel_rfl) (by kernel_rfl) (by kernel_rfl) (fun _ _ _ h => h) (Or.inl ⟨by rfl, fun w' hS => by (have u0_ := hS.1 0 _ rfl; go_simp)⟩) twd.out ?_
  try simp only [Act.put, List.setIfInBounds_toArray, List.set_cons_zero, List.set_cons_succ]
  refine wpAnyH_take (i := 1) (oi := ⟨some 15, _, _, _, _, _⟩) (v := .int .i64 n) rfl (by kernel_rfl) (by kernel_rfl) (by kernel_rfl) (fun _ _ _ h => h) (Or.inl ⟨by rfl, fun w' hS => by go_simp⟩) twd.out ?_
  try simp only [Act.put, List.setIfInBounds_toArray, List.set_cons_zero, List.set_cons_succ]
  refine wpAnyH_take (i := 3) (oi := ⟨some 17, _, _, _, _, _⟩) (v := .agg #[.slice AT L.length cT]) rfl (by kernel_rfl) (by kernel_rfl) (by kernel_rfl) (fun _ _ _ h => h) (Or.inl ⟨by rfl, fun w' hS => by (have u0_ := hS.1 0 _ rfl; go_simp)⟩) twd.out ?_
  try simp only [Act.put, List.setIfInBounds_toArray, List.set_cons_zero, List.set_cons_succ]
  refine wpAnyH_take (i := 4) (oi := ⟨some 18, _, _, _, _, _⟩) (v := .int .i64 n) rfl (by kernel_rfl) (by kernel_rfl) (by kernel_rfl) (fun _ _ _ h => h) (Or.inl ⟨by rfl, fun w' hS => by go_simp⟩) twd.out ?_
  try simp only [Act.put, List.setIfInBounds_toArray, List.set_cons_zero, List.set_cons_succ]
  refine wpAnyH_ready (rs := [2]) (by kernel_rfl) (by simp) ?_
  refine AllReadyH.cons (o := ⟨some 16, .call ⟨_, _, _⟩, _, _, _, _⟩) rfl (fun K hK => ?_) AllReadyH.nil
  go_simp
  go_at_call 29
  have hc_ := Ancestors_any AT cT L n wd _ (Nat.le_refl _) HSLwd.out HVT.out HN.out
  rw [Hl1.out] at hc_
  refine hc_.mono ?_
  clear hc_
  rintro e' q5 ⟨hbq5, v, rfl, hown⟩
  have HSq5 := Lib.hid (show wd.heap.size ≤ q5.heap.size from hbq5.size)
  have HBq5 := Lib.hid (HBwd.out.trans (hbq5.mono HBwd.out.size))
  have tq5 := Lib.hid (twd.out.kept (grown_none hbq5) (fun e => by cases e))
  have HSLq5 := Lib.hid (HSLwd.out.next (Nat.le_refl _) hbq5)
  clear hbq5
  obtain ⟨A1, c1, rfl, hsl_⟩ := hown.sl
  have HR1 := Lib.hid hsl_; clear hown hsl_
  refine hK.out _ _ tq5.out (fun _ => ?_)
  clear hK K
  try simp only [Act.put, List.setIfInBounds_toArray, List.set_cons_zero, List.set_cons_succ]
  refine wpAnyH_ready (rs := [5]) (by kernel_rfl) (by simp) ?_
  refine AllReadyH.cons (o := ⟨some 19, .call ⟨_, _, _⟩, _, _, _, _⟩) rfl (fun K hK => ?_) AllReadyH.nil
  go_simp
  go_at_call 30
  have hc_ := RAncestors_any AT cT L n q5 _ (Nat.le_refl _) HSLq5.out HL4.out.1 HN.out
  rw [Hl1.out] at hc_
  refine hc_.mono ?_
  clear hc_
  rintro e' q6 ⟨hbq6, A2, c2, rfl, hsl_⟩
  have HSq6 := Lib.hid (show q5.heap.size ≤ q6.heap.size from hbq6.size)
  have HBq6 := Lib.hid (HBq5.out.trans (hbq6.mono HBq5.out.size))
  have tq6 := Lib.hid (tq5.out.kept (grown_none hbq6) (fun e => by cases e))
  have HSLq6 := Lib.hid (HSLq5.out.next (Nat.le_refl _) hbq6)
  have HR1q6 := Lib.hid (HR1.out.next (Nat.le_refl _) hbq6)
  clear hbq6
  have HR2 := Lib.hid hsl_; clear hsl_
  refine hK.out _ _ tq6.out (fun _ => ?_)
  clear hK K
  try simp only [Act.put, List.setIfInBounds_toArray, List.set_cons_zero, List.set_cons_succ]
  refine wpAnyH_ready (rs := [6]) (by kernel_rfl) (by simp) ?_
  refine AllReadyH.cons (o := ⟨some 20, .call ⟨_, _, _⟩, _, _, _, _⟩) rfl (fun K hK => ?_) AllReadyH.nil
  go_simp
  go_at_call 28
  have hc_ := same_same A1 A2 c1 c2 l1 q6 _ _ (Nat.le_refl _) (Nat.le_refl _) HR1q6.out HR2.out
  refine hc_.mono ?_
  clear hc_
  rintro e' q7 ⟨rfl, hbq7⟩
  have HSq7 := Lib.hid (show q6.heap.size ≤ q7.heap.size from hbq7.size)
  have HBq7 := Lib.hid (HBq6.out.trans (hbq7.mono HBq6.out.size))
  have tq7 := Lib.hid (tq6.out.kept (grown_none hbq7) (fun e => by cases e))
  have HSLq7 := Lib.hid (HSLq6.out.next (Nat.le_refl _) hbq7)
  have HR1q7 := Lib.hid (HR1q6.out.next (Nat.le_refl _) hbq7)
  have HR2q7 := Lib.hid (HR2.out.next (Nat.le_refl _) hbq7)
  clear hbq7
  refine hK.out _ _ tq7.out (fun _ => ?_)
  clear hK K
  try simp only [Act.put, List.setIfInBounds_toArray, List.set_cons_zero, List.set_cons_succ]
  clear HR1q7 HR2q7
  refine wpAnyH_take (i := 7) (oi := ⟨some 21, _, _, _, _, _⟩) (v := .bool true) rfl (by kernel_rfl) (by kernel_rfl) (by kernel_rfl) (fun _ _ _ h => h) (Or.inl ⟨by rfl, fun w' hS => by go_simp⟩) tq7.out ?_
  try simp only [Act.put, List.setIfInBounds_toArray, List.set_cons_zero, List.set_cons_succ]
  refine wpAnyH_take (i := 8) (oi := ⟨some 22, _, _, _, _, _⟩) (v := .agg #[.slice AT L.length cT]) rfl (by kernel_rfl) (by kernel_rfl) (by kernel_rfl) (fun _ _ _ h => h) (Or.inl ⟨by rfl, fun w' hS => by (have u0_ := hS.1 0 _ rfl; go_simp)⟩) tq7.out ?_
  try simp only [Act.put, List.setIfInBounds_toArray, List.set_cons_zero, List.set_cons_succ]
  refine wpAnyH_take (i := 9) (oi := ⟨some 23, _, _, _, _, _⟩) (v := .int .i64 n) rfl (by kernel_rfl) (by kernel_rfl) (by kernel_rfl) (fun _ _ _ h => h) (Or.inl ⟨by rfl, fun w' hS => by go_simp⟩) tq7.out ?_
  try simp only [Act.put, List.setIfInBounds_toArray, List.set_cons_zero, List.set_cons_succ]
  refine wpAnyH_take (i := 11) (oi := ⟨some 25, _, _, _, _, _⟩) (v := .agg #[.slice AT L.length cT]) rfl (by kernel_rfl) (by kernel_rfl) (by kernel_rfl) (fun _ _ _ h => h) (Or.inl ⟨by rfl, fun w' hS => by (have u0_ := hS.1 0 _ rfl; go_simp)⟩) tq7.out ?_
  try simp only [Act.put, List.setIfInBounds_toArray, List.set_cons_zero, List.set_cons_succ]
  refine wpAnyH_take (i := 12) (oi := ⟨some 26, _, _, _, _, _⟩) (v := .int .i64 n) rfl (by kernel_rfl) (by kernel_rfl) (by kernel_rfl) (fun _ _ _ h => h) (Or.inl ⟨by rfl, fun w' hS => by go_simp⟩) tq7.out ?_
  try simp only [Act.put, List.setIfInBounds_toArray, List.set_cons_zero, List.set_cons_succ]
  refine wpAnyH_ready (rs := [10]) (by kernel_rfl) (by simp) ?_
  refine AllReadyH.cons (o := ⟨some 24, .call ⟨_, _, _⟩, _, _, _, _⟩) rfl (fun K hK => ?_) AllReadyH.nil
  go_simp
  go_at_call 31
  have hc_ := TChildren_any AT cT L n q7 _ (Nat.le_refl _) HSLq7.out HL4.out.2 HLA.out
  rw [Hl2.out] at hc_
  refine hc_.mono ?_
  clear hc_
  rintro e' q8 ⟨hbq8, v, rfl, hown⟩
  have HSq8 := Lib.hid (show q7.heap.size ≤ q8.heap.size from hbq8.size)
  have HBq8 := Lib.hid (HBq7.out.trans (hbq8.mono HBq7.out.size))
  have tq8 := Lib.hid (tq7.out.kept (grown_none hbq8) (fun e => by cases e))
  have HSLq8 := Lib.hid (HSLq7.out.next (Nat.le_refl _) hbq8)
  clear hbq8
  obtain ⟨A3, c3, rfl, hsl_⟩ := hown.sl
  have HR3 := Lib.hid hsl_; clear hown hsl_
  refine hK.out _ _ tq8.out (fun _ => ?_)
  clear hK K
  try simp only [Act.put, List.setIfInBounds_toArray, List.set_cons_zero, List.set_cons_succ]
  refine wpAnyH_ready (rs := [13]) (by kernel_rfl) (by simp) ?_
  refine AllReadyH.cons (o := ⟨some 27, .call ⟨_, _, _⟩, _, _, _, _⟩) rfl (fun K hK => ?_) AllReadyH.nil
  go_simp
  go_at_call 32
  have hc_ := RChildren_any AT cT L n q8 _ (Nat.le_refl _) HSLq8.out HL4.out.2
  rw [Hl2.out] at hc_
  refine hc_.mono ?_
  clear hc_
  rintro e' q9 ⟨hbq9, v, rfl, hown⟩
  have HSq9 := Lib.hid (show q8.heap.size ≤ q9.heap.size from hbq9.size)
  have HBq9 := Lib.hid (HBq8.out.trans (hbq9.mono HBq8.out.size))
  have tq9 := Lib.hid (tq8.out.kept (grown_none hbq9) (fun e => by cases e))
  have HSLq9 := Lib.hid (HSLq8.out.next (Nat.le_refl _) hbq9)
  have HR3q9 := Lib.hid (HR3.out.next (Nat.le_refl _) hbq9)
  clear hbq9
  obtain ⟨A4, c4, rfl, hsl_⟩ := hown.sl
  have HR4 := Lib.hid hsl_; clear hown hsl_
  refine hK.out _ _ tq9.out (fun _ => ?_)
  clear hK K
  try simp only [Act.put, List.setIfInBounds_toArray, List.set_cons_zero, List.set_cons_succ]
  refine wpAnyH_ready (rs := [14]) (by kernel_rfl) (by simp) ?_
  refine AllReadyH.cons (o := ⟨some 28, .call ⟨_, _, _⟩, _, _, _, _⟩) rfl (fun K hK => ?_) AllReadyH.nil
  go_simp
  go_at_call 28
  have hc_ := same_same A3 A4 c3 c4 l2 q9 _ _ (Nat.le_refl _) (Nat.le_refl _) HR3q9.out HR4.out
  refine hc_.mono ?_
  clear hc_
  rintro e' q10 ⟨rfl, hbq10⟩
  have HSq10 := Lib.hid (show q9.heap.size ≤ q10.heap.size from hbq10.size)
  have HBq10 := Lib.hid (HBq9.out.trans (hbq10.mono HBq9.out.size))
  have tq10 := Lib.hid (tq9.out.kept (grown_none hbq10) (fun e => by cases e))
  have HSLq10 := Lib.hid (HSLq9.out.next (Nat.le_refl _) hbq10)
  have HR3q10 := Lib.hid (HR3q9.out.next (Nat.le_refl _) hbq10)
  have HR4q10 := Lib.hid (HR4.out.next (Nat.le_refl _) hbq10)
  clear hbq10
  refine hK.out _ _ tq10.out (fun _ => ?_)
  clear hK K
  try simp only [Act.put, List.setIfInBounds_toArray, List.set_cons_zero, List.set_cons_succ]
  clear HR3q10 HR4q10
  refine wpAnyH_take (i := 15) (oi := ⟨some 29, _, _, _, _, _⟩) (v := .bool true) rfl (by kernel_rfl) (by kernel_rfl) (by kernel_rfl) (fun _ _ _ h => h) (Or.inl ⟨by rfl, fun w' hS => by go_simp⟩) tq10.out ?_
  try simp only [Act.put, List.setIfInBounds_toArray, List.set_cons_zero, List.set_cons_succ]
  refine wpAnyH_take (i := 16) (oi := ⟨some 30, _, _, _, _, _⟩) (v := .bool true) rfl (by kernel_rfl) (by kernel_rfl) (by kernel_rfl) (fun _ _ _ h => h) (Or.inl ⟨by rfl, fun w' hS => by go_simp⟩) tq10.out ?_
  try simp only [Act.put, List.setIfInBounds_toArray, List.set_cons_zero, List.set_cons_succ]
  refine wpAnyH_take (i := 17) (oi := ⟨some 31, _, _, _, _, _⟩) (v := .agg #[.slice AT L.length cT]) rfl (by kernel_rfl) (by kernel_rfl) (by kernel_rfl) (fun _ _ _ h => h) (Or.inl ⟨by rfl, fun w' hS => by (have u0_ := hS.1 0 _ rfl; go_simp)⟩) tq10.out ?_
  try simp only [Act.put, List.setIfInBounds_toArray, List.set_cons_zero, List.set_cons_succ]
  refine wpAnyH_take (i := 19) (oi := ⟨some 33, _, _, _, _, _⟩) (v := .agg #[.slice AT L.length cT]) rfl (by kernel_rfl) (by kernel_rfl) (by kernel_rfl) (fun _ _ _ h => h) (Or.inl ⟨by rfl, fun w' hS => by (have u0_ := hS.1 0 _ rfl; go_simp)⟩) tq10.out ?_
  try simp only [Act.put, List.setIfInBounds_toArray, List.set_cons_zero, List.set_cons_succ]
  refine wpAnyH_ready (rs := [18]) (by kernel_rfl) (by simp) ?_
  refine AllReadyH.cons (o := ⟨some 32, .call ⟨_, _, _⟩, _, _, _, _⟩) rfl (fun K hK => ?_) AllReadyH.nil
  go_simp
  go_at_call 31
  have hc_ := TChildren_any AT cT L 0 q10 _ (Nat.le_refl _) HSLq10.out HL4.out.2 HLA.out
  rw [Hl3.out] at hc_
  refine hc_.mono ?_
  clear hc_
  rintro e' q11 ⟨hbq11, v, rfl, hown⟩
  have HSq11 := Lib.hid (show q10.heap.size ≤ q11.heap.size from hbq11.size)
  have HBq11 := Lib.hid (HBq10.out.trans (hbq11.mono HBq10.out.size))
  have tq11 := Lib.hid (tq10.out.kept (grown_none hbq11) (fun e => by cases e))
  have HSLq11 := Lib.hid (HSLq10.out.next (Nat.le_refl _) hbq11)
  clear hbq11
  obtain ⟨A5, c5, rfl, hsl_⟩ := hown.sl
  have HR5 := Lib.hid hsl_; clear hown hsl_
  refine hK.out _ _ tq11.out (fun _ => ?_)
  clear hK K
  try simp only [Act.put, List.setIfInBounds_toArray, List.set_cons_zero, List.set_cons_succ]
  refine wpAnyH_ready (rs := [20]) (by kernel_rfl) (by simp) ?_
  refine AllReadyH.cons (o := ⟨some 34, .call ⟨_, _, _⟩, _, _, _, _⟩) rfl (fun K hK => ?_) AllReadyH.nil
  go_simp
  go_at_call 32
  have hc_ := RChildren_any AT cT L 0 q11 _ (Nat.le_refl _) HSLq11.out HL4.out.2
  rw [Hl3.out] at hc_
  refine hc_.mono ?_
  clear hc_
  rintro e' q12 ⟨hbq12, v, rfl, hown⟩
  have HSq12 := Lib.hid (show q11.heap.size ≤ q12.heap.size from hbq12.size)
  have HBq12 := Lib.hid (HBq11.out.trans (hbq12.mono HBq11.out.size))
  have tq12 := Lib.hid (tq11.out.kept (grown_none hbq12) (fun e => by cases e))
  have HSLq12 := Lib.hid (HSLq11.out.next (Nat.le_refl _) hbq12)
  have HR5q12 := Lib.hid (HR5.out.next (Nat.le_refl _) hbq12)
  clear hbq12
  obtain ⟨A6, c6, rfl, hsl_⟩ := hown.sl
  have HR6 := Lib.hid hsl_; clear hown hsl_
  refine hK.out _ _ tq12.out (fun _ => ?_)
  clear hK K
  try simp only [Act.put, List.setIfInBounds_toArray, List.set_cons_zero, List.set_cons_succ]
  refine wpAnyH_ready (rs := [21]) (by kernel_rfl) (by simp) ?_
  refine AllReadyH.cons (o := ⟨some 35, .call ⟨_, _, _⟩, _, _, _, _⟩) rfl (fun K hK => ?_) AllReadyH.nil
  go_simp
  go_at_call 28
  have hc_ := same_same A5 A6 c5 c6 l3 q12 _ _ (Nat.le_refl _) (Nat.le_refl _) HR5q12.out HR6.out
  refine hc_.mono ?_
  clear hc_
  rintro e' q13 ⟨rfl, hbq13⟩
  have HSq13 := Lib.hid (show q12.heap.size ≤ q13.heap.size from hbq13.size)
  have HBq13 := Lib.hid (HBq12.out.trans (hbq13.mono HBq12.out.size))
  have tq13 := Lib.hid (tq12.out.kept (grown_none hbq13) (fun e => by cases e))
  have HSLq13 := Lib.hid (HSLq12.out.next (Nat.le_refl _) hbq13)
  have HR5q13 := Lib.hid (HR5q12.out.next (Nat.le_refl _) hbq13)
  have HR6q13 := Lib.hid (HR6.out.next (Nat.le_refl _) hbq13)
  clear hbq13
  refine hK.out _ _ tq13.out (fun _ => ?_)
  clear hK K
  try simp only [Act.put, List.setIfInBounds_toArray, List.set_cons_zero, List.set_cons_succ]
  clear HR5q13 HR6q13
  refine wpAnyH_take (i := 22) (oi := ⟨some 36, _, _, _, _, _⟩) (v := .bool true) rfl (by kernel_rfl) (by kernel_rfl) (by kernel_rfl) (fun _ _ _ h => h) (Or.inl ⟨by rfl, fun w' hS => by go_simp⟩) tq13.out ?_
  try simp only [Act.put, List.setIfInBounds_toArray, List.set_cons_zero, List.set_cons_succ]
  refine wpAnyH_take (i := 23) (oi := ⟨some 37, _, _, _, _, _⟩) (v := .bool true) rfl (by kernel_rfl) (by kernel_rfl) (by kernel_rfl) (fun _ _ _ h => h) (Or.inl ⟨by rfl, fun w' hS => by go_simp⟩) tq13.out ?_
  try simp only [Act.put, List.setIfInBounds_toArray, List.set_cons_zero, List.set_cons_succ]
  refine wpAnyH_take (i := 24) (oi := ⟨some 38, _, _, _, _, _⟩) (v := .agg #[.slice AT L.length cT]) rfl (by kernel_rfl) (by kernel_rfl) (by kernel_rfl) (fun _ _ _ h => h) (Or.inl ⟨by rfl, fun w' hS => by (have u0_ := hS.1 0 _ rfl; go_simp)⟩) tq13.out ?_
  try simp only [Act.put, List.setIfInBounds_toArray, List.set_cons_zero, List.set_cons_succ]
  refine wpAnyH_take (i := 25) (oi := ⟨some 39, _, _, _, _, _⟩) (v := .int .i64 n) rfl (by kernel_rfl) (by kernel_rfl) (by kernel_rfl) (fun _ _ _ h => h) (Or.inl ⟨by rfl, fun w' hS => by go_simp⟩) tq13.out ?_
  try simp only [Act.put, List.setIfInBounds_toArray, List.set_cons_zero, List.set_cons_succ]
  refine wpAnyH_take (i := 27) (oi := ⟨some 41, _, _, _, _, _⟩) (v := .agg #[.slice AT L.length cT]) rfl (by kernel_rfl) (by kernel_rfl) (by kernel_rfl) (fun _ _ _ h => h) (Or.inl ⟨by rfl, fun w' hS => by (have u0_ := hS.1 0 _ rfl; go_simp)⟩) tq13.out ?_
  try simp only [Act.put, List.setIfInBounds_toArray, List.set_cons_zero, List.set_cons_succ]
  refine wpAnyH_take (i := 28) (oi := ⟨some 42, _, _, _, _, _⟩) (v := .int .i64 n) rfl (by kernel_rfl) (by kernel_rfl) (by kernel_rfl) (fun _ _ _ h => h) (Or.inl ⟨by rfl, fun w' hS => by go_simp⟩) tq13.out ?_
  try simp only [Act.put, List.setIfInBounds_toArray, List.set_cons_zero, List.set_cons_succ]
  refine wpAnyH_ready (rs := [26]) (by kernel_rfl) (by simp) ?_
  refine AllReadyH.cons (o := ⟨some 40, .call ⟨_, _, _⟩, _, _, _, _⟩) rfl (fun K hK => ?_) AllReadyH.nil
  go_simp
  go_at_call 33
  have hc_ := Subtree_any AT cT L n q13 _ (Nat.le_refl _) HSLq13.out HVT.out HN.out
  rw [Hl4.out] at hc_
  refine hc_.mono ?_
  clear hc_
  rintro e' q14 ⟨hbq14, v, rfl, hown⟩
  have HSq14 := Lib.hid (show q13.heap.size ≤ q14.heap.size from hbq14.size)
  have HBq14 := Lib.hid (HBq13.out.trans (hbq14.mono HBq13.out.size))
  have tq14 := Lib.hid (tq13.out.kept (grown_none hbq14) (fun e => by cases e))
  have HSLq14 := Lib.hid (HSLq13.out.next (Nat.le_refl _) hbq14)
  clear hbq14
  obtain ⟨A7, c7, rfl, hsl_⟩ := hown.sl
  have HR7 := Lib.hid hsl_; clear hown hsl_
  refine hK.out _ _ tq14.out (fun _ => ?_)
  clear hK K
  try simp only [Act.put, List.setIfInBounds_toArray, List.set_cons_zero, List.set_cons_succ]
  refine wpAnyH_ready (rs := [29]) (by kernel_rfl) (by simp) ?_
  refine AllReadyH.cons (o := ⟨some 43, .call ⟨_, _, _⟩, _, _, _, _⟩) rfl (fun K hK => ?_) AllReadyH.nil
  go_simp
  go_at_call 34
  have hc_ := (show Calls _ _ _ _ (GotP _ (subR L n) q14) from RSubtree_any AT cT L n q14 _ (Nat.le_refl _) HSLq14.out HL4.out.1)
  rw [Hl4.out] at hc_
  refine hc_.mono ?_
  clear hc_
  rintro e' q15 ⟨hbq15, v, rfl, hown⟩
  have HSq15 := Lib.hid (show q14.heap.size ≤ q15.heap.size from hbq15.size)
  have HBq15 := Lib.hid (HBq14.out.trans (hbq15.mono HBq14.out.size))
  have tq15 := Lib.hid (tq14.out.kept (grown_none hbq15) (fun e => by cases e))
  have HSLq15 := Lib.hid (HSLq14.out.next (Nat.le_refl _) hbq15)
  have HR7q15 := Lib.hid (HR7.out.next (Nat.le_refl _) hbq15)
  clear hbq15
  obtain ⟨A8, c8, rfl, hsl_⟩ := hown.sl
  have HR8 := Lib.hid hsl_; clear hown hsl_
  refine hK.out _ _ tq15.out (fun _ => ?_)
  clear hK K
  try simp only [Act.put, List.setIfInBounds_toArray, List.set_cons_zero, List.set_cons_succ]
  refine wpAnyH_ready (rs := [30]) (by kernel_rfl) (by simp) ?_
  refine AllReadyH.cons (o := ⟨some 44, .call ⟨_, _, _⟩, _, _, _, _⟩) rfl (fun K hK => ?_) AllReadyH.nil
  go_simp
  go_at_call 28
  have hc_ := same_same A7 A8 c7 c8 l4 q15 _ _ (Nat.le_refl _) (Nat.le_refl _) HR7q15.out HR8.out
  refine hc_.mono ?_
  clear hc_
  rintro e' q16 ⟨rfl, hbq16⟩
  have HSq16 := Lib.hid (show q15.heap.size ≤ q16.heap.size from hbq16.size)
  have HBq16 := Lib.hid (HBq15.out.trans (hbq16.mono HBq15.out.size))
  have tq16 := Lib.hid (tq15.out.kept (grown_none hbq16) (fun e => by cases e))
  have HSLq16 := Lib.hid (HSLq15.out.next (Nat.le_refl _) hbq16)
  have HR7q16 := Lib.hid (HR7q15.out.next (Nat.le_refl _) hbq16)
  have HR8q16 := Lib.hid (HR8.out.next (Nat.le_refl _) hbq16)
  clear hbq16
  refine hK.out _ _ tq16.out (fun _ => ?_)
  clear hK K
  try simp only [Act.put, List.setIfInBounds_toArray, List.set_cons_zero, List.set_cons_succ]
  clear HR7q16 HR8q16
  refine wpAnyH_take (i := 31) (oi := ⟨some 45, _, _, _, _, _⟩) (v := .bool true) rfl (by kernel_rfl) (by kernel_rfl) (by kernel_rfl) (fun _ _ _ h => h) (Or.inl ⟨by rfl, fun w' hS => by go_simp⟩) tq16.out ?_
  try simp only [Act.put, List.setIfInBounds_toArray, List.set_cons_zero, List.set_cons_succ]
  refine wpAnyH_take (i := 32) (oi := ⟨some 46, _, _, _, _, _⟩) (v := .bool true) rfl (by kernel_rfl) (by kernel_rfl) (by kernel_rfl) (fun _ _ _ h => h) (Or.inl ⟨by rfl, fun w' hS => by go_simp⟩) tq16.out ?_
  try simp only [Act.put, List.setIfInBounds_toArray, List.set_cons_zero, List.set_cons_succ]
  refine wpAnyH_ready (rs := [33]) (by kernel_rfl) (by simp) ?_
  refine AllReadyH.cons (o := ⟨some 47, .call ⟨_, _, _⟩, _, _, _, _⟩) rfl (fun K hK => ?_) AllReadyH.nil
  go_simp
  go_at_call 12
  have hc_ := known_any q16 (HOK.out.next HBq16.out)
  refine hc_.mono ?_
  clear hc_
  rintro e' q17 ⟨rfl, hbq17⟩
  have HSq17 := Lib.hid (show q16.heap.size ≤ q17.heap.size from hbq17.size)
  have HBq17 := Lib.hid (HBq16.out.trans (hbq17.mono HBq16.out.size))
  have tq17 := Lib.hid (tq16.out.kept (grown_none hbq17) (fun e => by cases e))
  have HSLq17 := Lib.hid (HSLq16.out.next (Nat.le_refl _) hbq17)
  clear hbq17
  refine hK.out _ _ tq17.out (fun _ => ?_)
  clear hK K
  try simp only [Act.put, List.setIfInBounds_toArray, List.set_cons_zero, List.set_cons_succ]
  refine wpAnyH_take (i := 34) (oi := ⟨some 48, _, _, _, _, _⟩) (v := .bool true) rfl (by kernel_rfl) (by kernel_rfl) (by kernel_rfl) (fun _ _ _ h => h) (Or.inl ⟨by rfl, fun w' hS => by go_simp⟩) tq17.out ?_
  try simp only [Act.put, List.setIfInBounds_toArray, List.set_cons_zero, List.set_cons_succ]
  refine wpAnyH_take (i := 35) (oi := ⟨some 2, _, _, _, _, _⟩) (v := .bool true) rfl (by kernel_rfl) (by kernel_rfl) (by kernel_rfl) (fun _ _ _ h => h) (Or.inl ⟨by rfl, fun w' hS => by go_simp⟩) tq17.out ?_
  try simp only [Act.put, List.setIfInBounds_toArray, List.set_cons_zero, List.set_cons_succ]
  refine wpAnyH_done (by kernel_rfl) ?_ _
  go_wp2
  go_ret
  exact ⟨by try rfl, HBq17.out⟩
end Go.Proofs.YtidhbckalcjdpaaGreatDoor
namespace Go.Proofs.YtidhbckalcjdpaaGreatDoor
open Go.RowKit Go.Cold
namespace cTreeRelatives
open Go.ChangeShapes Go.WideShapes Go.ChangeAt
open Go.ChangeMaps (open_string)
set_option maxRecDepth 100000
theorem reads (os : Os) {H : Type} (enc : TypeId × Value → H) : ∃ places, DataW.whole enc Tryz.prog ((World.laidAll Tryz.prog os Rows.treeRelativesRow.laid).forCall (fun _ _ => 0) ⟨#[], #[.slice none 0 0], []⟩).memory Tryz.f7.params.toList Rows.treeRelativesSpec.vars false (#[.slice none 0 0] : Array Value).toList 8 = some ([.nil], [], places) :=
  ⟨[], by kernel_rfl⟩
theorem lifted (os : Os) (started : os.Started) (H : Type) (enc : TypeId × Value → H) (F : Stop.Interp) :
    ReturnsInHanded {} Tryz.checked os 7 .any ((OpenSpec.ofChange Rows.treeRelativesSpec).preRow enc Tryz.prog Tryz.f7 Rows.treeRelativesRow.domain false Rows.treeRelativesRow.laid) (((OpenSpec.ofChange Rows.treeRelativesSpec).at F).post enc Tryz.prog Tryz.f7 false true false false) := by
  obtain ⟨places, hx⟩ := reads os enc
  refine law_lifted os started H enc F (by kernel_rfl) Tryz.func7 #[.slice none 0 0] (World.shaped_of_ZipB (by kernel_rfl) (by kernel_rfl)) (by kernel_rfl)
    (OpenSpec.preRow_of_cond 8 hx (by kernel_rfl) (fun k hk => by cases hk) (by kernel_rfl) (laidMet_laidAll _ (by kernel_rfl) (by kernel_rfl))) rfl rfl
    (fun ds hl => by
      rw [Tryz.params7] at hl
      match ds, hl with
      | [d0], _ => rfl) (by kernel_rfl) ?_
  intro W base args ds ps hval hA hlt hz hsh
  rw [Tryz.params7] at hA hval
  obtain ⟨v0, vs0, d0, ds0, p0, q0, hargs, rfl, rfl, h0, r0⟩ := trodAll_cons hA
  obtain ⟨rfl, rfl, rfl⟩ := trodAll_nil r0
  obtain rfl : args = #[v0] := by cases args; simp_all
  obtain ⟨A0, c0, xs0, rfl, s0⟩ := open_nums Tryz.underlying23 Tryz.underlying3 (by kernel_rfl) (hval 0 23 v0 rfl rfl) h0 (fun x hx => hlt x (List.mem_append_left _ hx))
  exact lawRelatives_any A0 c0 xs0 W (ok_of_shape W hsh) s0
theorem said : Rows.TreeRelativesSaid :=
  OpenClaim.holds_of_cond 7 Tryz.f7 rfl rfl rfl rfl rfl rfl rfl ⟨rfl, rfl, rfl, rfl, rfl⟩ rfl rfl rfl rfl rfl (by kernel_rfl) Tryz.func7 (by kernel_rfl)
    (of_decide_eq_true (by kernel_rfl)) (by unfold Func.isWrapper; first | (rw [if_pos (by decide +kernel)]; kernel_rfl) | (rw [if_neg (by decide +kernel)]; exact ⟨rfl, rfl⟩))
    (fun os started H enc _ F => by rw [OpenClaim.pre_eq_preRow]; exact lifted os started H enc F)
theorem plain (f : FuncId) (fn : Func) (hf : Tryz.pinned.checked.prog.funcNamed Rows.treeRelativesRow.func = some f) (hfn : Tryz.pinned.checked.prog.funcs[f]? = some fn) :
    false = Tryz.pinned.checked.prog.looks [] ∧ ∀ (j : Nat) t, fn.params[j]? = some t → Tryz.pinned.checked.prog.wantsStandIn t = false := by
  obtain rfl : f = 7 := Option.some.inj ((show Tryz.prog.funcNamed Rows.treeRelativesRow.func = some 7 by kernel_rfl).symm.trans hf) |>.symm
  obtain rfl : fn = Tryz.f7 := (Option.some.inj (Tryz.func7.symm.trans hfn)).symm
  refine ⟨by kernel_rfl, fun j t ht => ?_⟩
  rw [Tryz.params7] at ht
  have hm : t ∈ [23] := by simpa using Array.mem_of_getElem? ht
  have hall : ([23].all fun u => !Tryz.prog.wantsStandIn u) = true := by kernel_rfl
  exact (show Tryz.prog.wantsStandIn t = false by simpa using List.all_eq_true.1 hall t hm)
/-- The card. -/
theorem card : Rows.TreeRelativesCardSaid :=
  Claim7.holds_tied_plain_at .later [] _ _ _ _ said (fun _ h => by cases h) (by kernel_rfl) (fun _ h => by cases h) treeRelatives_row_tie rfl ⟨rfl, rfl⟩ (by kernel_rfl) rfl plain (by kernel_rfl)
end cTreeRelatives
end Go.Proofs.YtidhbckalcjdpaaGreatDoor
