/-
  Plain, for chapter 31: the text of an inner content stands within the text of its content; what PartitionRights, PartitionMakes and PartitionChanged ask. No program is named here.
-/
import Derived.Test.YtehmidmoiamcfaaGreatDoorITB
import Derived.Test.YtehmidmoiamcfaaGreatDoorIRG
import Derived.Test.YtehmidmoiamcfaaGreatDoorID
import Derived.Test.YtehmidmoiamcfaaGreatDoorIH
import Derived.Test.YtehmidmoiamcfaaGreatDoorIRB
import Derived.Test.YtehmidmoiamcfaaGreatDoorITA
import Derived.Deep.RegionHeld3
set_option linter.unusedSimpArgs false
set_option linter.unusedVariables false
namespace Go.Cold
open Go Go.RowKit Go.Proofs.YtehmidmoiamcfaaGreatDoor
/-- A device is a partition that its parent wants. -/
noncomputable def rightB (L : List Dev) (n : Int) : Bool := decide (partO L n ≠ 0) && rightR (wantsD ((findD L ((findD L n).getD zeroD).par).getD zeroD) ByteArray.empty 0) ((findD L n).getD zeroD).orig (contD ((findD L n).getD zeroD))
theorem wantsD_nodup (d : Dev) (o : ByteArray) (r : Int) : ((wantsD d o r).map (·.orig)).Nodup := by
 unfold wantsD
 split
 · exact wants_nodup _ _ _ _ _
 · simp
end Go.Cold
namespace Go.Cold
open Go Go.RowKit Go.Proofs.YtehmidmoiamcfaaGreatDoor
end Go.Cold
namespace Go.Cold
open Go Go.RowKit Go.Proofs.YtehmidmoiamcfaaGreatDoor
end Go.Cold
namespace Go.Cold
open Go Go.RowKit Go.Proofs.YtehmidmoiamcfaaGreatDoor
end Go.Cold
namespace Go.Cold
open Go Go.RowKit Go.Proofs.YtehmidmoiamcfaaGreatDoor
theorem cell_on {w w' : World} {b i : Nat} {v : Value} (hb : Below w.heap.size w w') (h : w.cell? ⟨b, i, none⟩ = some v) : w'.cell? ⟨b, i, none⟩ = some v := (hb.cell (p := ⟨b, i, none⟩) (block_lt_of_cell h)).trans h
theorem ok7_a {w : World} (h : Ok7 w) : OkA w := ⟨h.1, h.2.1⟩
theorem rightP_yes {xs : List Virt} {k : Nat} {y : Virt} {o t : ByteArray} (hlt : k < xs.length) (hy : xs[k] = y) (h : y.orig = o) : rightP (xs.drop k) o t = decide (y.cont = t) := by
 rw [List.drop_eq_getElem_cons hlt, hy]
 unfold rightP
 rw [List.find?_cons_of_pos (by simpa using h)]
theorem rightP_no {xs : List Virt} {k : Nat} {y : Virt} {o t : ByteArray} (hlt : k < xs.length) (hy : xs[k] = y) (h : y.orig ≠ o) : rightP (xs.drop k) o t = rightP (xs.drop (k + 1)) o t := by
 rw [List.drop_eq_getElem_cons hlt, hy]
 unfold rightP
 rw [List.find?_cons_of_neg (by simpa using h)]
theorem rightR_yes {xs : List Virt} {k : Nat} {y : Virt} {o t : ByteArray} (hlt : k < xs.length) (hy : xs[k] = y) (h : y.orig = o) (h2 : y.cont = t) : rightR (xs.drop k) o t = true := by
 rw [List.drop_eq_getElem_cons hlt, hy]
 unfold rightR
 rw [List.any_cons, h, h2]
 simp
theorem rightR_no {xs : List Virt} {k : Nat} {y : Virt} {o t : ByteArray} (hlt : k < xs.length) (hy : xs[k] = y) (h : ¬ (y.orig = o ∧ y.cont = t)) : rightR (xs.drop k) o t = rightR (xs.drop (k + 1)) o t := by
 rw [List.drop_eq_getElem_cons hlt, hy]
 unfold rightR
 rw [List.any_cons]
 have : (decide (y.orig = o) && decide (y.cont = t)) = false := by
  rw [Bool.and_eq_false_iff]
  by_cases h1 : y.orig = o
  · exact .inr (decide_eq_false (fun h2 => h ⟨h1, h2⟩))
  · exact .inl (decide_eq_false h1)
 rw [this, Bool.false_or]
theorem right_zero {L : List Dev} {n : Int} (h : partO L n = 0) : rightB L n = false := by unfold rightB; rw [h]; rfl
theorem right_of {L : List Dev} {n : Int} {d p : Dev} {V : List Virt} (h : partO L n ≠ 0) (hd : d = (findD L n).getD zeroD) (hp : p = (findD L d.par).getD zeroD) (hV : wantsD p ByteArray.empty 0 = V) : rightB L n = rightR V d.orig (contD d) := by
 unfold rightB
 rw [decide_eq_true h, ← hd, ← hp, hV, Bool.true_and]
theorem right_ofP {L : List Dev} {n : Int} {d p : Dev} {V : List Virt} (h : partO L n ≠ 0) (hd : d = (findD L n).getD zeroD) (hp : p = (findD L d.par).getD zeroD) (hV : wantsD p ByteArray.empty 0 = V) : rightB L n = rightP V d.orig (contD d) := by
 rw [right_of h hd hp hV, right_same]
 rw [← hV]
 exact wantsD_nodup _ _ _
end Go.Cold
namespace Go.Proofs.YtehmidmoiamcfaaGreatDoor
open Go.RowKit Go.Cold
set_option maxRecDepth 100000 in
set_option maxHeartbeats 4000000 in
/-- partition.Right. -/
theorem PRight_any (A : Option Addr) (c : Nat) (L : List Dev) (n : Int) (w : World) (B : Nat) (hB : B ≤ w.heap.size) (hx : Sl w B A c L) (hv : VT L) (hok : Ok7 w) :
  Calls Tryz.prog 27 #[.agg #[.slice A L.length c], .int .i64 n] w fun e w' => e = .returned (.bool (rightB L n)) ∧ Below w.heap.size w w' := by
 have hx1 := hx.1; have hx2 := hx.2.1
 unfold maxLen at hx2
 have HX := Lib.hid hx; have HB := Lib.hid hB; have HV := Lib.hid hv; have HOK := Lib.hid hok; clear hx hB hv hok
 have HLA := Lib.hid (show ∀ d ∈ L, d.attrs.length ≤ 1000000 from fun d hd => attrs_le (HV.out.chk d hd))
 go_enter Tryz.func27, Tryz.ntmps27
 go_upto_region 1 with fail
 obtain ⟨w1, hw1⟩ : ∃ w1, w.alloc (.cells #[.slice A L.length c] 57) = w1 := ⟨_, rfl⟩
 have hbw1 : Below w.heap.size w w1 := by rw [← hw1]; exact (Below.refl _ _).alloc (Nat.le_refl _) _
 have HGw1 := Lib.hid (show w1.heap.size = w.heap.size + 1 by rw [← hw1]; simp)
 have HXtw1 := Lib.hid (show BoxL w1 w.heap.size [.slice A L.length c] from box_mk hw1)
 try simp only [hw1]
 have HBw1 := Lib.hid hbw1
 clear hw1 hbw1
 try rw [show w.heap.size + 1 = w1.heap.size from HGw1.out.symm]
 have ct0 := HXtw1.out.1 0 _ rfl
 go_wp2_with fail
 refine (TFind_any A c L (n) _ B (Nat.le_trans HB.out HBw1.out.size) (HX.out.keep (HBw1.out.mono HB.out)) HLA.out).mono ?_
 rintro e w2 ⟨hbw2, d, A3, c3, hd, rfl, hod, hsd⟩
 clear ct0
 have HBw2 := Lib.hid (HBw1.out.trans (hbw2.mono HBw1.out.size))
 have tw2 := Lib.hid (HXtw1.out.kept (grown_none hbw2) (fun e => by cases e))
 clear hbw2
 have ct0 := tw2.out.1 0 _ rfl
 have Hd := Lib.hid (show d = (findD L (n)).getD zeroD from hd); have HOd := Lib.hid hod
 have HSd := Lib.hid (show Sl w2 w2.heap.size A3 c3 d.attrs from hsd.sl (fun x hx => hx.2))
 clear hd hod hsd
 obtain ⟨qd, hqd⟩ : ∃ q, (L.find? (byIdx (n))).isSome = q := ⟨_, rfl⟩
 rw [hqd]
 clear hqd
 go_upto_region 2 with fail
 obtain ⟨w3, hw3⟩ : ∃ w3, w2.alloc (.cells #[.int .i64 d.idx, .int .i64 d.par, .string d.nm, .string d.orig, .string d.sub, .string d.drv, .string d.ali, .int .i64 d.kind, .int .i64 d.num, .slice A3 d.attrs.length c3] 43) = w3 := ⟨_, rfl⟩
 have hbw3 : Below w2.heap.size w2 w3 := by rw [← hw3]; exact (Below.refl _ _).alloc (Nat.le_refl _) _
 have HGw3 := Lib.hid (show w3.heap.size = w2.heap.size + 1 by rw [← hw3]; simp)
 have HXaw3 := Lib.hid (show BoxL w3 w2.heap.size [.int .i64 d.idx, .int .i64 d.par, .string d.nm, .string d.orig, .string d.sub, .string d.drv, .string d.ali, .int .i64 d.kind, .int .i64 d.num, .slice A3 d.attrs.length c3] from box_mk hw3)
 try simp only [hw3]
 have HBw3 := Lib.hid (HBw2.out.trans (hbw3.mono HBw2.out.size))
 have tw3 := Lib.hid (tw2.out.kept (grown_none hbw3) (fun e => by cases e))
 have HSdw3 := Lib.hid ((HSd.out).next (Nat.le_refl _) hbw3)
 clear hw3 hbw3
 try rw [show w2.heap.size + 1 = w3.heap.size from HGw3.out.symm]
 clear ct0
 have ct0 := tw3.out.1 0 _ rfl
 have ca0 := HXaw3.out.1 0 _ rfl
 have ca1 := HXaw3.out.1 1 _ rfl
 have ca2 := HXaw3.out.1 2 _ rfl
 have ca3 := HXaw3.out.1 3 _ rfl
 have ca4 := HXaw3.out.1 4 _ rfl
 have ca5 := HXaw3.out.1 5 _ rfl
 have ca6 := HXaw3.out.1 6 _ rfl
 have ca7 := HXaw3.out.1 7 _ rfl
 have ca8 := HXaw3.out.1 8 _ rfl
 have ca9 := HXaw3.out.1 9 _ rfl
 go_wp2_with fail
 refine (TFind_any A c L (d.par) _ B (Nat.le_trans HB.out HBw3.out.size) (HX.out.keep (HBw3.out.mono HB.out)) HLA.out).mono ?_
 rintro e w4 ⟨hbw4, p, A4, c4, hp, rfl, hop, hsp⟩
 clear ct0 ca0 ca1 ca2 ca3 ca4 ca5 ca6 ca7 ca8 ca9
 have HBw4 := Lib.hid (HBw3.out.trans (hbw4.mono HBw3.out.size))
 have tw4 := Lib.hid (tw3.out.kept (grown_none hbw4) (fun e => by cases e))
 have aw4 := Lib.hid (HXaw3.out.kept (grown_none hbw4) (fun e => by cases e))
 have HSdw4 := Lib.hid ((HSdw3.out).next (Nat.le_refl _) hbw4)
 clear hbw4
 have ct0 := tw4.out.1 0 _ rfl
 have ca0 := aw4.out.1 0 _ rfl
 have ca1 := aw4.out.1 1 _ rfl
 have ca2 := aw4.out.1 2 _ rfl
 have ca3 := aw4.out.1 3 _ rfl
 have ca4 := aw4.out.1 4 _ rfl
 have ca5 := aw4.out.1 5 _ rfl
 have ca6 := aw4.out.1 6 _ rfl
 have ca7 := aw4.out.1 7 _ rfl
 have ca8 := aw4.out.1 8 _ rfl
 have ca9 := aw4.out.1 9 _ rfl
 have Hp := Lib.hid (show p = (findD L (d.par)).getD zeroD from hp); have HOp := Lib.hid hop
 have HSp := Lib.hid (show Sl w4 w4.heap.size A4 c4 p.attrs from hsp.sl (fun x hx => hx.2))
 clear hp hop hsp
 obtain ⟨qp, hqp⟩ : ∃ q, (L.find? (byIdx (d.par))).isSome = q := ⟨_, rfl⟩
 rw [hqp]
 clear hqp
 go_upto_region 3 with fail
 obtain ⟨w5, hw5⟩ : ∃ w5, w4.alloc (.cells #[.int .i64 p.idx, .int .i64 p.par, .string p.nm, .string p.orig, .string p.sub, .string p.drv, .string p.ali, .int .i64 p.kind, .int .i64 p.num, .slice A4 p.attrs.length c4] 43) = w5 := ⟨_, rfl⟩
 have hbw5 : Below w4.heap.size w4 w5 := by rw [← hw5]; exact (Below.refl _ _).alloc (Nat.le_refl _) _
 have HGw5 := Lib.hid (show w5.heap.size = w4.heap.size + 1 by rw [← hw5]; simp)
 have HXbw5 := Lib.hid (show BoxL w5 w4.heap.size [.int .i64 p.idx, .int .i64 p.par, .string p.nm, .string p.orig, .string p.sub, .string p.drv, .string p.ali, .int .i64 p.kind, .int .i64 p.num, .slice A4 p.attrs.length c4] from box_mk hw5)
 try simp only [hw5]
 have HBw5 := Lib.hid (HBw4.out.trans (hbw5.mono HBw4.out.size))
 have tw5 := Lib.hid (tw4.out.kept (grown_none hbw5) (fun e => by cases e))
 have aw5 := Lib.hid (aw4.out.kept (grown_none hbw5) (fun e => by cases e))
 have HSdw5 := Lib.hid ((HSdw4.out).next (Nat.le_refl _) hbw5)
 have HSpw5 := Lib.hid ((HSp.out).next (Nat.le_refl _) hbw5)
 clear hw5 hbw5
 try rw [show w4.heap.size + 1 = w5.heap.size from HGw5.out.symm]
 clear ct0 ca0 ca1 ca2 ca3 ca4 ca5 ca6 ca7 ca8 ca9
 have ct0 := tw5.out.1 0 _ rfl
 have ca0 := aw5.out.1 0 _ rfl
 have ca1 := aw5.out.1 1 _ rfl
 have ca2 := aw5.out.1 2 _ rfl
 have ca3 := aw5.out.1 3 _ rfl
 have ca4 := aw5.out.1 4 _ rfl
 have ca5 := aw5.out.1 5 _ rfl
 have ca6 := aw5.out.1 6 _ rfl
 have ca7 := aw5.out.1 7 _ rfl
 have ca8 := aw5.out.1 8 _ rfl
 have ca9 := aw5.out.1 9 _ rfl
 have cb0 := HXbw5.out.1 0 _ rfl
 have cb1 := HXbw5.out.1 1 _ rfl
 have cb2 := HXbw5.out.1 2 _ rfl
 have cb3 := HXbw5.out.1 3 _ rfl
 have cb4 := HXbw5.out.1 4 _ rfl
 have cb5 := HXbw5.out.1 5 _ rfl
 have cb6 := HXbw5.out.1 6 _ rfl
 have cb7 := HXbw5.out.1 7 _ rfl
 have cb8 := HXbw5.out.1 8 _ rfl
 have cb9 := HXbw5.out.1 9 _ rfl
 go_wp2_with fail
 refine (Partition_any A c L n _ B (Nat.le_trans HB.out HBw5.out.size) (HX.out.keep (HBw5.out.mono HB.out)) HV.out (ok7_a (HOK.out.below HBw5.out))).mono ?_
 rintro e w9 ⟨rfl, hb_⟩
 clear ct0 ca0 ca1 ca2 ca3 ca4 ca5 ca6 ca7 ca8 ca9 cb0 cb1 cb2 cb3 cb4 cb5 cb6 cb7 cb8 cb9
 have HBw9 := Lib.hid (HBw5.out.trans (hb_.mono HBw5.out.size))
 have tw9 := Lib.hid (tw5.out.kept (grown_none hb_) (fun e => by cases e))
 have aw9 := Lib.hid (aw5.out.kept (grown_none hb_) (fun e => by cases e))
 have bw9 := Lib.hid (HXbw5.out.kept (grown_none hb_) (fun e => by cases e))
 have HSdw9 := Lib.hid ((HSdw5.out).next (Nat.le_refl _) hb_)
 have HSpw9 := Lib.hid ((HSpw5.out).next (Nat.le_refl _) hb_)
 clear hb_
 by_cases h0 : partO L n = 0
 ·
  have HR := Lib.hid (right_zero h0)
  rw [h0]
  clear h0
  go_wp2
  go_ret
  exact ⟨by rw [HR.out]; rfl, HBw9.out⟩
 ·
  have hd0 : decide (partO L n ≠ 0) = true := decide_eq_true h0
  rw [hd0]
  obtain ⟨z0, hz0⟩ : ∃ z, (partO L n : Int) = z := ⟨_, rfl⟩
  rw [hz0]
  have HP0 := Lib.hid h0; clear h0 hd0 hz0
  have HSP := Lib.hid (show p.orig.size ≤ maxLen - 30 by have := findD_small HV.out d.par; rw [← Hp.out] at this; unfold maxLen; omega)
  have ct0 := tw9.out.1 0 _ rfl
  have ca0 := aw9.out.1 0 _ rfl
  have ca1 := aw9.out.1 1 _ rfl
  have ca2 := aw9.out.1 2 _ rfl
  have ca3 := aw9.out.1 3 _ rfl
  have ca4 := aw9.out.1 4 _ rfl
  have ca5 := aw9.out.1 5 _ rfl
  have ca6 := aw9.out.1 6 _ rfl
  have ca7 := aw9.out.1 7 _ rfl
  have ca8 := aw9.out.1 8 _ rfl
  have ca9 := aw9.out.1 9 _ rfl
  have cb0 := bw9.out.1 0 _ rfl
  have cb1 := bw9.out.1 1 _ rfl
  have cb2 := bw9.out.1 2 _ rfl
  have cb3 := bw9.out.1 3 _ rfl
  have cb4 := bw9.out.1 4 _ rfl
  have cb5 := bw9.out.1 5 _ rfl
  have cb6 := bw9.out.1 6 _ rfl
  have cb7 := bw9.out.1 7 _ rfl
  have cb8 := bw9.out.1 8 _ rfl
  have cb9 := bw9.out.1 9 _ rfl
  go_wp2_with fail
  refine (Get_any A3 c3 d.attrs ⟨#[99, 111, 110, 116, 101, 110, 116]⟩ _ w9.heap.size (Nat.le_refl _) HSdw9.out).mono ?_
  rintro e wt ⟨rfl, hbwt⟩
  clear ct0 ca0 ca1 ca2 ca3 ca4 ca5 ca6 ca7 ca8 ca9 cb0 cb1 cb2 cb3 cb4 cb5 cb6 cb7 cb8 cb9
  have HBwt := Lib.hid (HBw9.out.trans (hbwt.mono HBw9.out.size))
  have twt := Lib.hid (tw9.out.kept (grown_none hbwt) (fun e => by cases e))
  have awt := Lib.hid (aw9.out.kept (grown_none hbwt) (fun e => by cases e))
  have bwt := Lib.hid (bw9.out.kept (grown_none hbwt) (fun e => by cases e))
  have HSdwt := Lib.hid ((HSdw9.out).next (Nat.le_refl _) hbwt)
  have HSpwt := Lib.hid ((HSpw9.out).next (Nat.le_refl _) hbwt)
  clear hbwt
  have ct0 := twt.out.1 0 _ rfl
  have ca0 := awt.out.1 0 _ rfl
  have ca1 := awt.out.1 1 _ rfl
  have ca2 := awt.out.1 2 _ rfl
  have ca3 := awt.out.1 3 _ rfl
  have ca4 := awt.out.1 4 _ rfl
  have ca5 := awt.out.1 5 _ rfl
  have ca6 := awt.out.1 6 _ rfl
  have ca7 := awt.out.1 7 _ rfl
  have ca8 := awt.out.1 8 _ rfl
  have ca9 := awt.out.1 9 _ rfl
  have cb0 := bwt.out.1 0 _ rfl
  have cb1 := bwt.out.1 1 _ rfl
  have cb2 := bwt.out.1 2 _ rfl
  have cb3 := bwt.out.1 3 _ rfl
  have cb4 := bwt.out.1 4 _ rfl
  have cb5 := bwt.out.1 5 _ rfl
  have cb6 := bwt.out.1 6 _ rfl
  have cb7 := bwt.out.1 7 _ rfl
  have cb8 := bwt.out.1 8 _ rfl
  have cb9 := bwt.out.1 9 _ rfl
  obtain ⟨t, ht⟩ : ∃ z, contD d = z := ⟨_, rfl⟩
  rw [show (getA d.attrs ⟨#[99, 111, 110, 116, 101, 110, 116]⟩).getD ByteArray.empty = t from ht]
  have HT := Lib.hid ht; clear ht
  go_wp2_with fail
  refine (Wants_any A4 c4 p ⟨#[]⟩ 0 _ wt.heap.size (Nat.le_refl _) HSpwt.out (HOK.out.below HBwt.out) HSP.out (by show (0 : Nat) ≤ maxLen; omega) (by unfold okI; omega)).mono ?_
  rintro e wv ⟨hb_, v_, rfl, hown_⟩
  obtain ⟨V, hV⟩ : ∃ z, wantsD p ByteArray.empty 0 = z := ⟨_, rfl⟩
  rw [show wantsD p ⟨#[]⟩ 0 = V from hV] at hown_
  obtain ⟨A8, c8, rfl, hs_⟩ := hown_.sl
  clear ct0 ca0 ca1 ca2 ca3 ca4 ca5 ca6 ca7 ca8 ca9 cb0 cb1 cb2 cb3 cb4 cb5 cb6 cb7 cb8 cb9
  have HBwv := Lib.hid (HBwt.out.trans (hb_.mono HBwt.out.size))
  have twv := Lib.hid (twt.out.kept (grown_none hb_) (fun e => by cases e))
  have awv := Lib.hid (awt.out.kept (grown_none hb_) (fun e => by cases e))
  have bwv := Lib.hid (bwt.out.kept (grown_none hb_) (fun e => by cases e))
  have HSdwv := Lib.hid ((HSdwt.out).next (Nat.le_refl _) hb_)
  have HSpwv := Lib.hid ((HSpwt.out).next (Nat.le_refl _) hb_)
  have HVV := Lib.hid hs_; have HVE := Lib.hid hV; clear hs_ hV hown_ hb_
  have hl0 := HVV.out.1; have hl1 := HVV.out.2.1
  unfold maxLen at hl1
  have HRT := Lib.hid (show rightB L n = rightP V d.orig t by rw [← HT.out]; exact right_ofP HP0.out Hd.out Hp.out HVE.out)
  go_wp2_with fail
  go_loopw [45] (fun i wr => ∃ k : Nat, k ≤ V.length ∧ i = .int .i64 (k : Int) ∧ Hid (Below wv.heap.size wv wr) ∧ Hid (rightP V d.orig t = rightP (V.drop k) d.orig t)) (fun i _ => V.length - (intOf i).toNat)
  case atStart => exact ⟨0, Nat.zero_le _, rfl, Below.refl _ _, rfl⟩
  case round =>
   obtain ⟨k, hk, rfl, HBR, HA⟩ := hrel
   have HBwr := Lib.hid (HBwv.out.trans (HBR.out.mono HBwv.out.size)); have awr := Lib.hid (awv.out.kept (grown_none HBR.out) (fun e => by cases e))
   by_cases hlt : k < V.length
   ·
    have i1 : (k : Int) < (V.length : Int) := by omega
    obtain ⟨b, o, rfl, -, -, a0, a1, a2, a3⟩ := (HVV.out.next (Nat.le_refl _) HBR.out).virt hlt
    obtain ⟨y, hy⟩ : ∃ y, V[k]'hlt = y := ⟨_, rfl⟩
    rw [hy] at a0 a1 a2 a3
    have HY := Lib.hid hy; have HLT := Lib.hid hlt; clear hy
    go_upto_region 10 with fail
    obtain ⟨w6, hw6⟩ : ∃ w6, wr.alloc (.cells #[.string y.par, .string y.orig, .string y.cont, .int .i64 y.round] 46) = w6 := ⟨_, rfl⟩
    have hbw6 : Below wr.heap.size wr w6 := by rw [← hw6]; exact (Below.refl _ _).alloc (Nat.le_refl _) _
    have HGw6 := Lib.hid (show w6.heap.size = wr.heap.size + 1 by rw [← hw6]; simp)
    have HXvw6 := Lib.hid (show BoxL w6 wr.heap.size [.string y.par, .string y.orig, .string y.cont, .int .i64 y.round] from box_mk hw6)
    try simp only [hw6]
    have HBw6 := Lib.hid (HBwr.out.trans (hbw6.mono HBwr.out.size))
    have aw6 := Lib.hid (awr.out.kept (grown_none hbw6) (fun e => by cases e))
    have HBRw6 := Lib.hid (below_more HBR.out hbw6)
    clear hw6 hbw6
    try rw [show wr.heap.size + 1 = w6.heap.size from HGw6.out.symm]
    clear a0 a1 a2 a3
    have ca3 := aw6.out.1 3 _ rfl
    have cv1 := HXvw6.out.1 1 _ rfl
    have cv2 := HXvw6.out.1 2 _ rfl
    by_cases hn : y.orig = d.orig
    ·
     have p1 : (y.orig.toList == d.orig.toList) = true := by rw [ba_beq]; exact decide_eq_true hn
     have p2 : (y.cont.toList == t.toList) = decide (y.cont = t) := ba_beq _ _
     obtain ⟨z, hz⟩ : ∃ z, decide (y.cont = t) = z := ⟨_, rfl⟩
     rw [hz] at p2
     have HG := Lib.hid (show rightB L n = z by rw [HRT.out, HA.out, rightP_yes HLT.out HY.out hn, hz]); clear hn hz
     go_wp2
     go_ret
     exact ⟨by rw [HG.out]; rfl, HBw6.out⟩
    ·
     have p1 : (y.orig.toList == d.orig.toList) = false := by rw [ba_beq]; exact decide_eq_false hn
     have HG := Lib.hid (show rightP V d.orig t = rightP (V.drop (k + 1)) d.orig t by rw [HA.out]; exact rightP_no HLT.out HY.out hn); clear hn
     go_wp2
     go_roundw
     case rel => exact ⟨k + 1, by have := HLT.out; omega, by go_num, HBRw6, HG⟩
     case measure => have := HLT.out; simp [intOf]; omega
   ·
    have i1 : ¬ (k : Int) < (V.length : Int) := by omega
    have HG := Lib.hid (show rightB L n = false by rw [HRT.out, HA.out, show k = V.length by omega, List.drop_length]; rfl)
    go_wp2
    go_ret
    exact ⟨by rw [HG.out]; rfl, HBwr.out⟩
set_option maxRecDepth 100000 in
set_option maxHeartbeats 4000000 in
/-- The reference's Right. -/
theorem RRight_any (A : Option Addr) (c : Nat) (L : List Dev) (n : Int) (w : World) (B : Nat) (hB : B ≤ w.heap.size) (hx : Sl w B A c L) (hv : VT L) (hok : Ok7 w) (hok8 : Ok8 w) :
  Calls Tryz.prog 28 #[.agg #[.slice A L.length c], .int .i64 n] w fun e w' => e = .returned (.bool (rightB L n)) ∧ Below w.heap.size w w' := by
 have hx1 := hx.1; have hx2 := hx.2.1
 unfold maxLen at hx2
 have HX := Lib.hid hx; have HB := Lib.hid hB; have HV := Lib.hid hv; have HOK := Lib.hid hok; clear hx hB hv hok
 have H8 := Lib.hid hok8; clear hok8
 have HLA := Lib.hid (show ∀ d ∈ L, d.attrs.length ≤ 1000000 from fun d hd => attrs_le (HV.out.chk d hd))
 go_enter Tryz.func28, Tryz.ntmps28
 go_upto_region 1 with fail
 obtain ⟨w1, hw1⟩ : ∃ w1, w.alloc (.cells #[.slice A L.length c] 57) = w1 := ⟨_, rfl⟩
 have hbw1 : Below w.heap.size w w1 := by rw [← hw1]; exact (Below.refl _ _).alloc (Nat.le_refl _) _
 have HGw1 := Lib.hid (show w1.heap.size = w.heap.size + 1 by rw [← hw1]; simp)
 have HXtw1 := Lib.hid (show BoxL w1 w.heap.size [.slice A L.length c] from box_mk hw1)
 try simp only [hw1]
 have HBw1 := Lib.hid hbw1
 clear hw1 hbw1
 try rw [show w.heap.size + 1 = w1.heap.size from HGw1.out.symm]
 have ct0 := HXtw1.out.1 0 _ rfl
 go_wp2_with fail
 refine (RPartition_any A c L n _ B (Nat.le_trans HB.out HBw1.out.size) (HX.out.keep (HBw1.out.mono HB.out)) HV.out).mono ?_
 rintro e w9 ⟨rfl, hb_⟩
 clear ct0
 have HBw9 := Lib.hid (HBw1.out.trans (hb_.mono HBw1.out.size))
 have tw9 := Lib.hid (HXtw1.out.kept (grown_none hb_) (fun e => by cases e))
 clear hb_
 by_cases h0 : partO L n = 0
 ·
  have HR := Lib.hid (right_zero h0)
  rw [h0]
  clear h0
  go_wp2
  go_ret
  exact ⟨by rw [HR.out]; rfl, HBw9.out⟩
 ·
  have hd0 : decide (partO L n ≠ 0) = true := decide_eq_true h0
  rw [hd0]
  obtain ⟨z0, hz0⟩ : ∃ z, (partO L n : Int) = z := ⟨_, rfl⟩
  rw [hz0]
  have HP0 := Lib.hid h0; clear h0 hd0 hz0
  have ct0 := tw9.out.1 0 _ rfl
  go_wp2_with fail
  refine (RFind_any A c L (n) _ B (Nat.le_trans HB.out HBw9.out.size) (HX.out.keep (HBw9.out.mono HB.out))).mono ?_
  rintro e w2 ⟨hbw2, d, A3, c3, hd, rfl, hod, hsd⟩
  clear ct0
  have HBw2 := Lib.hid (HBw9.out.trans (hbw2.mono HBw9.out.size))
  have tw2 := Lib.hid (tw9.out.kept (grown_none hbw2) (fun e => by cases e))
  clear hbw2
  have ct0 := tw2.out.1 0 _ rfl
  have Hd := Lib.hid (show d = (findD L (n)).getD zeroD from hd); have HOd := Lib.hid hod
  have HSd := Lib.hid ((show Sl w2 B A3 c3 d.attrs from hsd).more (Nat.le_trans HB.out HBw2.out.size))
  clear hd hod hsd
  obtain ⟨qd, hqd⟩ : ∃ q, (findD L (n)).isSome = q := ⟨_, rfl⟩
  rw [hqd]
  clear hqd
  go_upto_region 5 with fail
  obtain ⟨w3, hw3⟩ : ∃ w3, w2.alloc (.cells #[.int .i64 d.idx, .int .i64 d.par, .string d.nm, .string d.orig, .string d.sub, .string d.drv, .string d.ali, .int .i64 d.kind, .int .i64 d.num, .slice A3 d.attrs.length c3] 43) = w3 := ⟨_, rfl⟩
  have hbw3 : Below w2.heap.size w2 w3 := by rw [← hw3]; exact (Below.refl _ _).alloc (Nat.le_refl _) _
  have HGw3 := Lib.hid (show w3.heap.size = w2.heap.size + 1 by rw [← hw3]; simp)
  have HXaw3 := Lib.hid (show BoxL w3 w2.heap.size [.int .i64 d.idx, .int .i64 d.par, .string d.nm, .string d.orig, .string d.sub, .string d.drv, .string d.ali, .int .i64 d.kind, .int .i64 d.num, .slice A3 d.attrs.length c3] from box_mk hw3)
  try simp only [hw3]
  have HBw3 := Lib.hid (HBw2.out.trans (hbw3.mono HBw2.out.size))
  have tw3 := Lib.hid (tw2.out.kept (grown_none hbw3) (fun e => by cases e))
  have HSdw3 := Lib.hid ((HSd.out).next (Nat.le_refl _) hbw3)
  clear hw3 hbw3
  try rw [show w2.heap.size + 1 = w3.heap.size from HGw3.out.symm]
  clear ct0
  have ct0 := tw3.out.1 0 _ rfl
  have ca0 := HXaw3.out.1 0 _ rfl
  have ca1 := HXaw3.out.1 1 _ rfl
  have ca2 := HXaw3.out.1 2 _ rfl
  have ca3 := HXaw3.out.1 3 _ rfl
  have ca4 := HXaw3.out.1 4 _ rfl
  have ca5 := HXaw3.out.1 5 _ rfl
  have ca6 := HXaw3.out.1 6 _ rfl
  have ca7 := HXaw3.out.1 7 _ rfl
  have ca8 := HXaw3.out.1 8 _ rfl
  have ca9 := HXaw3.out.1 9 _ rfl
  go_wp2_with fail
  refine (RFind_any A c L (d.par) _ B (Nat.le_trans HB.out HBw3.out.size) (HX.out.keep (HBw3.out.mono HB.out))).mono ?_
  rintro e w4 ⟨hbw4, p, A4, c4, hp, rfl, hop, hsp⟩
  clear ct0 ca0 ca1 ca2 ca3 ca4 ca5 ca6 ca7 ca8 ca9
  have HBw4 := Lib.hid (HBw3.out.trans (hbw4.mono HBw3.out.size))
  have tw4 := Lib.hid (tw3.out.kept (grown_none hbw4) (fun e => by cases e))
  have aw4 := Lib.hid (HXaw3.out.kept (grown_none hbw4) (fun e => by cases e))
  have HSdw4 := Lib.hid ((HSdw3.out).next (Nat.le_refl _) hbw4)
  clear hbw4
  have ct0 := tw4.out.1 0 _ rfl
  have ca0 := aw4.out.1 0 _ rfl
  have ca1 := aw4.out.1 1 _ rfl
  have ca2 := aw4.out.1 2 _ rfl
  have ca3 := aw4.out.1 3 _ rfl
  have ca4 := aw4.out.1 4 _ rfl
  have ca5 := aw4.out.1 5 _ rfl
  have ca6 := aw4.out.1 6 _ rfl
  have ca7 := aw4.out.1 7 _ rfl
  have ca8 := aw4.out.1 8 _ rfl
  have ca9 := aw4.out.1 9 _ rfl
  have Hp := Lib.hid (show p = (findD L (d.par)).getD zeroD from hp); have HOp := Lib.hid hop
  have HSp := Lib.hid ((show Sl w4 B A4 c4 p.attrs from hsp).more (Nat.le_trans HB.out HBw4.out.size))
  clear hp hop hsp
  obtain ⟨qp, hqp⟩ : ∃ q, (findD L (d.par)).isSome = q := ⟨_, rfl⟩
  rw [hqp]
  clear hqp
  go_upto_region 6 with fail
  obtain ⟨w5, hw5⟩ : ∃ w5, w4.alloc (.cells #[.int .i64 p.idx, .int .i64 p.par, .string p.nm, .string p.orig, .string p.sub, .string p.drv, .string p.ali, .int .i64 p.kind, .int .i64 p.num, .slice A4 p.attrs.length c4] 43) = w5 := ⟨_, rfl⟩
  have hbw5 : Below w4.heap.size w4 w5 := by rw [← hw5]; exact (Below.refl _ _).alloc (Nat.le_refl _) _
  have HGw5 := Lib.hid (show w5.heap.size = w4.heap.size + 1 by rw [← hw5]; simp)
  have HXbw5 := Lib.hid (show BoxL w5 w4.heap.size [.int .i64 p.idx, .int .i64 p.par, .string p.nm, .string p.orig, .string p.sub, .string p.drv, .string p.ali, .int .i64 p.kind, .int .i64 p.num, .slice A4 p.attrs.length c4] from box_mk hw5)
  try simp only [hw5]
  have HBw5 := Lib.hid (HBw4.out.trans (hbw5.mono HBw4.out.size))
  have tw5 := Lib.hid (tw4.out.kept (grown_none hbw5) (fun e => by cases e))
  have aw5 := Lib.hid (aw4.out.kept (grown_none hbw5) (fun e => by cases e))
  have HSdw5 := Lib.hid ((HSdw4.out).next (Nat.le_refl _) hbw5)
  have HSpw5 := Lib.hid ((HSp.out).next (Nat.le_refl _) hbw5)
  clear hw5 hbw5
  try rw [show w4.heap.size + 1 = w5.heap.size from HGw5.out.symm]
  clear ct0 ca0 ca1 ca2 ca3 ca4 ca5 ca6 ca7 ca8 ca9
  have ct0 := tw5.out.1 0 _ rfl
  have ca0 := aw5.out.1 0 _ rfl
  have ca1 := aw5.out.1 1 _ rfl
  have ca2 := aw5.out.1 2 _ rfl
  have ca3 := aw5.out.1 3 _ rfl
  have ca4 := aw5.out.1 4 _ rfl
  have ca5 := aw5.out.1 5 _ rfl
  have ca6 := aw5.out.1 6 _ rfl
  have ca7 := aw5.out.1 7 _ rfl
  have ca8 := aw5.out.1 8 _ rfl
  have ca9 := aw5.out.1 9 _ rfl
  have cb0 := HXbw5.out.1 0 _ rfl
  have cb1 := HXbw5.out.1 1 _ rfl
  have cb2 := HXbw5.out.1 2 _ rfl
  have cb3 := HXbw5.out.1 3 _ rfl
  have cb4 := HXbw5.out.1 4 _ rfl
  have cb5 := HXbw5.out.1 5 _ rfl
  have cb6 := HXbw5.out.1 6 _ rfl
  have cb7 := HXbw5.out.1 7 _ rfl
  have cb8 := HXbw5.out.1 8 _ rfl
  have cb9 := HXbw5.out.1 9 _ rfl
  have HSP := Lib.hid (show p.orig.size ≤ maxLen - 30 by have := findD_small HV.out d.par; rw [← Hp.out] at this; unfold maxLen; omega)
  go_wp2_with fail
  refine (RWants_any A4 c4 p ⟨#[]⟩ 0 _ w5.heap.size (Nat.le_refl _) HSpw5.out (HOK.out.below HBw5.out) (Ok8.below H8.out HBw5.out) HSP.out (by show (0 : Nat) ≤ maxLen; omega) (by unfold okI; omega)).mono ?_
  rintro e wv ⟨hb_, v_, rfl, hown_⟩
  obtain ⟨V, hV⟩ : ∃ z, wantsD p ByteArray.empty 0 = z := ⟨_, rfl⟩
  rw [show wantsD p ⟨#[]⟩ 0 = V from hV] at hown_
  obtain ⟨A8, c8, rfl, hs_⟩ := hown_.sl
  clear ct0 ca0 ca1 ca2 ca3 ca4 ca5 ca6 ca7 ca8 ca9 cb0 cb1 cb2 cb3 cb4 cb5 cb6 cb7 cb8 cb9
  have HBwv := Lib.hid (HBw5.out.trans (hb_.mono HBw5.out.size))
  have twv := Lib.hid (tw5.out.kept (grown_none hb_) (fun e => by cases e))
  have awv := Lib.hid (aw5.out.kept (grown_none hb_) (fun e => by cases e))
  have bwv := Lib.hid (HXbw5.out.kept (grown_none hb_) (fun e => by cases e))
  have HSdwv := Lib.hid ((HSdw5.out).next (Nat.le_refl _) hb_)
  have HSpwv := Lib.hid ((HSpw5.out).next (Nat.le_refl _) hb_)
  have HVV := Lib.hid hs_; have HVE := Lib.hid hV; clear hs_ hV hown_ hb_
  have hl0 := HVV.out.1; have hl1 := HVV.out.2.1
  unfold maxLen at hl1
  obtain ⟨t, ht⟩ : ∃ z, contD d = z := ⟨_, rfl⟩
  have HT := Lib.hid ht
  have HRT := Lib.hid (show rightB L n = rightR V d.orig t by rw [← HT.out]; exact right_of HP0.out Hd.out Hp.out HVE.out)
  clear ht
  go_wp2_with fail
  go_loopw [12] (fun i wr => ∃ k : Nat, k ≤ V.length ∧ i = .int .i64 (k : Int) ∧ Hid (Below wv.heap.size wv wr) ∧ Hid (rightR V d.orig t = rightR (V.drop k) d.orig t)) (fun i _ => V.length - (intOf i).toNat)
  case atStart => exact ⟨0, Nat.zero_le _, rfl, Below.refl _ _, rfl⟩
  case round =>
   obtain ⟨k, hk, rfl, HBR, HA⟩ := hrel
   have HBwr := Lib.hid (HBwv.out.trans (HBR.out.mono HBwv.out.size)); have awr := Lib.hid (awv.out.kept (grown_none HBR.out) (fun e => by cases e)); have HSwr := Lib.hid (HSdwv.out.next (Nat.le_refl _) HBR.out)
   by_cases hlt : k < V.length
   ·
    have i1 : (k : Int) < (V.length : Int) := by omega
    obtain ⟨b, o, rfl, -, -, a0, a1, a2, a3⟩ := (HVV.out.next (Nat.le_refl _) HBR.out).virt hlt
    obtain ⟨y, hy⟩ : ∃ y, V[k]'hlt = y := ⟨_, rfl⟩
    rw [hy] at a0 a1 a2 a3
    have HY := Lib.hid hy; have HLT := Lib.hid hlt; clear hy a0 a3
    have HC1 := Lib.hid a1; have HC2 := Lib.hid a2; clear a1 a2
    go_upto_region 10 with fail
    refine wp_region_held_drew (S := fun w' => BoxL w' (w2.heap.size) [.int .i64 d.idx, .int .i64 d.par, .string d.nm, .string d.orig, .string d.sub, .string d.drv, .string d.ali, .int .i64 d.kind, .int .i64 d.num, .slice A3 d.attrs.length c3] ∧ w'.cell? ⟨b, o + k * 4 + 1, none⟩ = some (.string y.orig) ∧ w'.cell? ⟨b, o + k * 4 + 2, none⟩ = some (.string y.cont)) (by kernel_rfl) ⟨awr.out.drew, cell_next HC1.out (below_drewN_self _ _ 1), cell_next HC2.out (below_drewN_self _ _ 1)⟩ (fun hS0 => ?_)
    obtain ⟨wd, hwd⟩ : ∃ z, World.drew wr = z := ⟨_, rfl⟩
    rw [hwd] at hS0 ⊢
    have hb_ : Below wr.heap.size wr wd := by rw [← hwd]; exact below_drewN_self _ _ 1
    clear hwd hS0
    have HBwd := Lib.hid (HBwr.out.trans (hb_.mono HBwr.out.size))
    have awd := Lib.hid (awr.out.kept (grown_none hb_) (fun e => by cases e))
    have HBRwd := Lib.hid (below_more HBR.out hb_)
    have HSdwd := Lib.hid ((HSwr.out).next (Nat.le_refl _) hb_)
    have HC1wd := Lib.hid (cell_next HC1.out hb_)
    have HC2wd := Lib.hid (cell_next HC2.out hb_)
    clear hb_
    refine wpAnyH_take (i := 0) (oi := ⟨some 42, _, _, _, _, _⟩) (v := .slice (some ⟨b, o, none⟩) V.length c8) rfl (by kernel_rfl) (by kernel_rfl) (by kernel_rfl) (fun _ _ _ h => h) (Or.inl ⟨by rfl, fun w' hS => by go_simp⟩) ⟨awd.out, HC1wd.out, HC2wd.out⟩ ?_
    try simp only [Act.put, List.setIfInBounds_toArray, List.set_cons_zero, List.set_cons_succ]
    refine wpAnyH_take (i := 1) (oi := ⟨some 43, _, _, _, _, _⟩) (v := .int .i64 k) rfl (by kernel_rfl) (by kernel_rfl) (by kernel_rfl) (fun _ _ _ h => h) (Or.inl ⟨by rfl, fun w' hS => by go_simp⟩) ⟨awd.out, HC1wd.out, HC2wd.out⟩ ?_
    try simp only [Act.put, List.setIfInBounds_toArray, List.set_cons_zero, List.set_cons_succ]
    refine wpAnyH_take (i := 2) (oi := ⟨some 44, _, _, _, _, _⟩) (v := .pointer (some ⟨b, o + k * 4, none⟩)) rfl (by kernel_rfl) (by kernel_rfl) (by kernel_rfl) (fun _ _ _ h => h) (Or.inl ⟨by rfl, fun w' hS => by go_simp⟩) ⟨awd.out, HC1wd.out, HC2wd.out⟩ ?_
    try simp only [Act.put, List.setIfInBounds_toArray, List.set_cons_zero, List.set_cons_succ]
    refine wpAnyH_take (i := 3) (oi := ⟨some 45, _, _, _, _, _⟩) (v := .pointer (some ⟨b, o + k * 4 + 1, none⟩)) rfl (by kernel_rfl) (by kernel_rfl) (by kernel_rfl) (fun _ _ _ h => h) (Or.inl ⟨by rfl, fun w' hS => by go_simp⟩) ⟨awd.out, HC1wd.out, HC2wd.out⟩ ?_
    try simp only [Act.put, List.setIfInBounds_toArray, List.set_cons_zero, List.set_cons_succ]
    refine wpAnyH_take (i := 4) (oi := ⟨some 46, _, _, _, _, _⟩) (v := .string y.orig) rfl (by kernel_rfl) (by kernel_rfl) (by kernel_rfl) (fun _ _ _ h => h) (Or.inl ⟨by rfl, fun w' hS => by (have u0_ := hS.2.1; go_simp)⟩) ⟨awd.out, HC1wd.out, HC2wd.out⟩ ?_
    try simp only [Act.put, List.setIfInBounds_toArray, List.set_cons_zero, List.set_cons_succ]
    refine wpAnyH_take (i := 5) (oi := ⟨some 47, _, _, _, _, _⟩) (v := .pointer (some ⟨w2.heap.size, 3, none⟩)) rfl (by kernel_rfl) (by kernel_rfl) (by kernel_rfl) (fun _ _ _ h => h) (Or.inl ⟨by rfl, fun w' hS => by go_simp⟩) ⟨awd.out, HC1wd.out, HC2wd.out⟩ ?_
    try simp only [Act.put, List.setIfInBounds_toArray, List.set_cons_zero, List.set_cons_succ]
    refine wpAnyH_take (i := 6) (oi := ⟨some 48, _, _, _, _, _⟩) (v := .string d.orig) rfl (by kernel_rfl) (by kernel_rfl) (by kernel_rfl) (fun _ _ _ h => h) (Or.inl ⟨by rfl, fun w' hS => by (have u0_ := hS.1.1 3 _ rfl; go_simp)⟩) ⟨awd.out, HC1wd.out, HC2wd.out⟩ ?_
    try simp only [Act.put, List.setIfInBounds_toArray, List.set_cons_zero, List.set_cons_succ]
    by_cases hn : y.orig = d.orig
    ·
     have p1 : (y.orig.toList == d.orig.toList) = true := by rw [ba_beq]; exact decide_eq_true hn
     have HN := Lib.hid hn; clear hn
     refine wpAnyH_take (i := 7) (oi := ⟨some 49, _, _, _, _, _⟩) (v := .bool true) rfl (by kernel_rfl) (by kernel_rfl) (by kernel_rfl) (fun _ _ _ h => h) (Or.inl ⟨by rfl, fun w' hS => by go_simp⟩) ⟨awd.out, HC1wd.out, HC2wd.out⟩ ?_
     try simp only [Act.put, List.setIfInBounds_toArray, List.set_cons_zero, List.set_cons_succ]
     refine wpAnyH_take (i := 8) (oi := ⟨some 50, _, _, _, _, _⟩) (v := .bool true) rfl (by kernel_rfl) (by kernel_rfl) (by kernel_rfl) (fun _ _ _ h => h) (Or.inl ⟨by rfl, fun w' hS => by go_simp⟩) ⟨awd.out, HC1wd.out, HC2wd.out⟩ ?_
     try simp only [Act.put, List.setIfInBounds_toArray, List.set_cons_zero, List.set_cons_succ]
     refine wpAnyH_take (i := 9) (oi := ⟨some 51, _, _, _, _, _⟩) (v := .slice (some ⟨b, o, none⟩) V.length c8) rfl (by kernel_rfl) (by kernel_rfl) (by kernel_rfl) (fun _ _ _ h => h) (Or.inl ⟨by rfl, fun w' hS => by go_simp⟩) ⟨awd.out, HC1wd.out, HC2wd.out⟩ ?_
     try simp only [Act.put, List.setIfInBounds_toArray, List.set_cons_zero, List.set_cons_succ]
     refine wpAnyH_take (i := 10) (oi := ⟨some 52, _, _, _, _, _⟩) (v := .int .i64 k) rfl (by kernel_rfl) (by kernel_rfl) (by kernel_rfl) (fun _ _ _ h => h) (Or.inl ⟨by rfl, fun w' hS => by go_simp⟩) ⟨awd.out, HC1wd.out, HC2wd.out⟩ ?_
     try simp only [Act.put, List.setIfInBounds_toArray, List.set_cons_zero, List.set_cons_succ]
     refine wpAnyH_take (i := 11) (oi := ⟨some 53, _, _, _, _, _⟩) (v := .pointer (some ⟨b, o + k * 4, none⟩)) rfl (by kernel_rfl) (by kernel_rfl) (by kernel_rfl) (fun _ _ _ h => h) (Or.inl ⟨by rfl, fun w' hS => by go_simp⟩) ⟨awd.out, HC1wd.out, HC2wd.out⟩ ?_
     try simp only [Act.put, List.setIfInBounds_toArray, List.set_cons_zero, List.set_cons_succ]
     refine wpAnyH_take (i := 12) (oi := ⟨some 54, _, _, _, _, _⟩) (v := .pointer (some ⟨b, o + k * 4 + 2, none⟩)) rfl (by kernel_rfl) (by kernel_rfl) (by kernel_rfl) (fun _ _ _ h => h) (Or.inl ⟨by rfl, fun w' hS => by go_simp⟩) ⟨awd.out, HC1wd.out, HC2wd.out⟩ ?_
     try simp only [Act.put, List.setIfInBounds_toArray, List.set_cons_zero, List.set_cons_succ]
     refine wpAnyH_take (i := 13) (oi := ⟨some 55, _, _, _, _, _⟩) (v := .string y.cont) rfl (by kernel_rfl) (by kernel_rfl) (by kernel_rfl) (fun _ _ _ h => h) (Or.inl ⟨by rfl, fun w' hS => by (have u0_ := hS.2.2; go_simp)⟩) ⟨awd.out, HC1wd.out, HC2wd.out⟩ ?_
     try simp only [Act.put, List.setIfInBounds_toArray, List.set_cons_zero, List.set_cons_succ]
     refine wpAnyH_take (i := 14) (oi := ⟨some 56, _, _, _, _, _⟩) (v := .agg #[.int .i64 d.idx, .int .i64 d.par, .string d.nm, .string d.orig, .string d.sub, .string d.drv, .string d.ali, .int .i64 d.kind, .int .i64 d.num, .slice A3 d.attrs.length c3]) rfl (by kernel_rfl) (by kernel_rfl) (by kernel_rfl) (fun _ _ _ h => h) (Or.inl ⟨by rfl, fun w' hS => by (have u0_ := hS.1.1 0 _ rfl; have u1_ := hS.1.1 1 _ rfl; have u2_ := hS.1.1 2 _ rfl; have u3_ := hS.1.1 3 _ rfl; have u4_ := hS.1.1 4 _ rfl; have u5_ := hS.1.1 5 _ rfl; have u6_ := hS.1.1 6 _ rfl; have u7_ := hS.1.1 7 _ rfl; have u8_ := hS.1.1 8 _ rfl; have u9_ := hS.1.1 9 _ rfl; go_simp)⟩) ⟨awd.out, HC1wd.out, HC2wd.out⟩ ?_
     try simp only [Act.put, List.setIfInBounds_toArray, List.set_cons_zero, List.set_cons_succ]
     refine wpAnyH_ready (rs := [15]) (by kernel_rfl) (by simp) ?_
     refine AllReadyH.cons (o := ⟨some 57, .call ⟨_, _, _⟩, _, _, _, _⟩) rfl (fun K hK => ?_) AllReadyH.nil
     go_simp
     go_at_call 46
     refine (RContent_any A3 c3 d wd wd.heap.size (Nat.le_refl _) HSdwd.out).mono ?_
     rintro e' wq ⟨rfl, hb_⟩
     have HBwq := Lib.hid (HBwd.out.trans (hb_.mono HBwd.out.size))
     have awq := Lib.hid (awd.out.kept (grown_none hb_) (fun e => by cases e))
     have HBRwq := Lib.hid (below_more HBRwd.out hb_)
     have HSdwq := Lib.hid ((HSdwd.out).next (Nat.le_refl _) hb_)
     have HC1wq := Lib.hid (cell_next HC1wd.out hb_)
     have HC2wq := Lib.hid (cell_next HC2wd.out hb_)
     rw [HT.out]
     clear hb_
     refine hK.out _ _ ⟨awq.out, HC1wq.out, HC2wq.out⟩ (fun _ => ?_)
     clear hK K
     try simp only [Act.put, List.setIfInBounds_toArray, List.set_cons_zero, List.set_cons_succ]
     by_cases hm : y.cont = t
     ·
      have p2 : (y.cont.toList == t.toList) = true := by rw [ba_beq]; exact decide_eq_true hm
      have HG := Lib.hid (show rightB L n = true by rw [HRT.out, HA.out]; exact rightR_yes HLT.out HY.out HN.out hm); clear hm
      refine wpAnyH_take (i := 16) (oi := ⟨some 58, _, _, _, _, _⟩) (v := .bool true) rfl (by kernel_rfl) (by kernel_rfl) (by kernel_rfl) (fun _ _ _ h => h) (Or.inl ⟨by rfl, fun w' hS => by go_simp⟩) ⟨awq.out, HC1wq.out, HC2wq.out⟩ ?_
      try simp only [Act.put, List.setIfInBounds_toArray, List.set_cons_zero, List.set_cons_succ]
      refine wpAnyH_take (i := 17) (oi := ⟨some 59, _, _, _, _, _⟩) (v := .bool true) rfl (by kernel_rfl) (by kernel_rfl) (by kernel_rfl) (fun _ _ _ h => h) (Or.inl ⟨by rfl, fun w' hS => by go_simp⟩) ⟨awq.out, HC1wq.out, HC2wq.out⟩ ?_
      try simp only [Act.put, List.setIfInBounds_toArray, List.set_cons_zero, List.set_cons_succ]
      refine wpAnyH_done (by kernel_rfl) ?_ _
      go_wp2
      go_ret
      exact ⟨by rw [HG.out]; rfl, HBwq.out⟩
     ·
      have p2 : (y.cont.toList == t.toList) = false := by rw [ba_beq]; exact decide_eq_false hm
      have HG := Lib.hid (show rightR V d.orig t = rightR (V.drop (k + 1)) d.orig t by rw [HA.out]; exact rightR_no HLT.out HY.out (fun h => hm h.2)); clear hm
      refine wpAnyH_take (i := 16) (oi := ⟨some 58, _, _, _, _, _⟩) (v := .bool false) rfl (by kernel_rfl) (by kernel_rfl) (by kernel_rfl) (fun _ _ _ h => h) (Or.inl ⟨by rfl, fun w' hS => by go_simp⟩) ⟨awq.out, HC1wq.out, HC2wq.out⟩ ?_
      try simp only [Act.put, List.setIfInBounds_toArray, List.set_cons_zero, List.set_cons_succ]
      refine wpAnyH_take (i := 17) (oi := ⟨some 59, _, _, _, _, _⟩) (v := .bool false) rfl (by kernel_rfl) (by kernel_rfl) (by kernel_rfl) (fun _ _ _ h => h) (Or.inl ⟨by rfl, fun w' hS => by go_simp⟩) ⟨awq.out, HC1wq.out, HC2wq.out⟩ ?_
      try simp only [Act.put, List.setIfInBounds_toArray, List.set_cons_zero, List.set_cons_succ]
      refine wpAnyH_done (by kernel_rfl) ?_ _
      go_wp2
      go_roundw
      case rel => exact ⟨k + 1, by have := HLT.out; omega, by go_num, HBRwq, HG⟩
      case measure => have := HLT.out; simp [intOf]; omega
    ·
     have p1 : (y.orig.toList == d.orig.toList) = false := by rw [ba_beq]; exact decide_eq_false hn
     have HG := Lib.hid (show rightR V d.orig t = rightR (V.drop (k + 1)) d.orig t by rw [HA.out]; exact rightR_no HLT.out HY.out (fun h => hn h.1)); clear hn
     refine wpAnyH_take (i := 7) (oi := ⟨some 49, _, _, _, _, _⟩) (v := .bool false) rfl (by kernel_rfl) (by kernel_rfl) (by kernel_rfl) (fun _ _ _ h => h) (Or.inl ⟨by rfl, fun w' hS => by go_simp⟩) ⟨awd.out, HC1wd.out, HC2wd.out⟩ ?_
     try simp only [Act.put, List.setIfInBounds_toArray, List.set_cons_zero, List.set_cons_succ]
     refine wpAnyH_take (i := 8) (oi := ⟨some 50, _, _, _, _, _⟩) (v := .bool false) rfl (by kernel_rfl) (by kernel_rfl) (by kernel_rfl) (fun _ _ _ h => h) (Or.inl ⟨by rfl, fun w' hS => by go_simp⟩) ⟨awd.out, HC1wd.out, HC2wd.out⟩ ?_
     try simp only [Act.put, List.setIfInBounds_toArray, List.set_cons_zero, List.set_cons_succ]
     refine wpAnyH_take (i := 9) (oi := ⟨some 51, _, _, _, _, _⟩) (v := undef) rfl (by kernel_rfl) (by kernel_rfl) (by kernel_rfl) (fun _ _ _ h => h) (Or.inr ⟨by rfl, rfl⟩) ⟨awd.out, HC1wd.out, HC2wd.out⟩ ?_
     try simp only [Act.put, List.setIfInBounds_toArray, List.set_cons_zero, List.set_cons_succ]
     refine wpAnyH_take (i := 10) (oi := ⟨some 52, _, _, _, _, _⟩) (v := undef) rfl (by kernel_rfl) (by kernel_rfl) (by kernel_rfl) (fun _ _ _ h => h) (Or.inr ⟨by rfl, rfl⟩) ⟨awd.out, HC1wd.out, HC2wd.out⟩ ?_
     try simp only [Act.put, List.setIfInBounds_toArray, List.set_cons_zero, List.set_cons_succ]
     refine wpAnyH_take (i := 11) (oi := ⟨some 53, _, _, _, _, _⟩) (v := undef) rfl (by kernel_rfl) (by kernel_rfl) (by kernel_rfl) (fun _ _ _ h => h) (Or.inr ⟨by rfl, rfl⟩) ⟨awd.out, HC1wd.out, HC2wd.out⟩ ?_
     try simp only [Act.put, List.setIfInBounds_toArray, List.set_cons_zero, List.set_cons_succ]
     refine wpAnyH_take (i := 12) (oi := ⟨some 54, _, _, _, _, _⟩) (v := undef) rfl (by kernel_rfl) (by kernel_rfl) (by kernel_rfl) (fun _ _ _ h => h) (Or.inr ⟨by rfl, rfl⟩) ⟨awd.out, HC1wd.out, HC2wd.out⟩ ?_
     try simp only [Act.put, List.setIfInBounds_toArray, List.set_cons_zero, List.set_cons_succ]
     refine wpAnyH_take (i := 13) (oi := ⟨some 55, _, _, _, _, _⟩) (v := undef) rfl (by kernel_rfl) (by kernel_rfl) (by kernel_rfl) (fun _ _ _ h => h) (Or.inr ⟨by rfl, rfl⟩) ⟨awd.out, HC1wd.out, HC2wd.out⟩ ?_
     try simp only [Act.put, List.setIfInBounds_toArray, List.set_cons_zero, List.set_cons_succ]
     refine wpAnyH_take (i := 14) (oi := ⟨some 56, _, _, _, _, _⟩) (v := undef) rfl (by kernel_rfl) (by kernel_rfl) (by kernel_rfl) (fun _ _ _ h => h) (Or.inr ⟨by rfl, rfl⟩) ⟨awd.out, HC1wd.out, HC2wd.out⟩ ?_
     try simp only [Act.put, List.setIfInBounds_toArray, List.set_cons_zero, List.set_cons_succ]
     refine wpAnyH_take (i := 15) (oi := ⟨some 57, _, _, _, _, _⟩) (v := undef) rfl (by kernel_rfl) (by kernel_rfl) (by kernel_rfl) (fun _ _ _ h => h) (Or.inr ⟨by rfl, rfl⟩) ⟨awd.out, HC1wd.out, HC2wd.out⟩ ?_
     try simp only [Act.put, List.setIfInBounds_toArray, List.set_cons_zero, List.set_cons_succ]
     refine wpAnyH_take (i := 16) (oi := ⟨some 58, _, _, _, _, _⟩) (v := undef) rfl (by kernel_rfl) (by kernel_rfl) (by kernel_rfl) (fun _ _ _ h => h) (Or.inr ⟨by rfl, rfl⟩) ⟨awd.out, HC1wd.out, HC2wd.out⟩ ?_
     try simp only [Act.put, List.setIfInBounds_toArray, List.set_cons_zero, List.set_cons_succ]
     refine wpAnyH_take (i := 17) (oi := ⟨some 59, _, _, _, _, _⟩) (v := .bool false) rfl (by kernel_rfl) (by kernel_rfl) (by kernel_rfl) (fun _ _ _ h => h) (Or.inl ⟨by rfl, fun w' hS => by go_simp⟩) ⟨awd.out, HC1wd.out, HC2wd.out⟩ ?_
     try simp only [Act.put, List.setIfInBounds_toArray, List.set_cons_zero, List.set_cons_succ]
     refine wpAnyH_done (by kernel_rfl) ?_ _
     go_wp2
     go_roundw
     case rel => exact ⟨k + 1, by have := HLT.out; omega, by go_num, HBRwd, HG⟩
     case measure => have := HLT.out; simp [intOf]; omega
   ·
    have i1 : ¬ (k : Int) < (V.length : Int) := by omega
    have HG := Lib.hid (show rightB L n = false by rw [HRT.out, HA.out, show k = V.length by omega, List.drop_length]; rfl)
    go_wp2
    go_ret
    exact ⟨by rw [HG.out]; rfl, HBwr.out⟩
end Go.Proofs.YtehmidmoiamcfaaGreatDoor
