/-
  The walks of package relate: partition, Partition, Sisters; of the reference: Partition, Sisters.
-/
import Derived.Test.YtehmidmoiamcfaaGreatDoorIH
import Derived.Test.YtehmidmoiamcfaaGreatDoorITB
import Derived.Test.YtehmidmoiamcfaaGreatDoorIA
import Derived.Test.YtehmidmoiamcfaaGreatDoorIG
set_option linter.unusedSimpArgs false
set_option linter.unusedVariables false
namespace Go.Cold
open Go Go.RowKit
theorem part_of {L : List Dev} {n : Int} {d p : Dev} (h1 : findD L n = some d) (h2 : findD L d.par = some p) : partO L n = partD p d := by unfold partO partD; rw [h1]; simp only [h2]
theorem part_no1 {L : List Dev} {n : Int} (h1 : findD L n = none) : partO L n = 0 := by unfold partO; rw [h1]
theorem part_no2 {L : List Dev} {n : Int} {d : Dev} (h1 : findD L n = some d) (h2 : findD L d.par = none) : partO L n = 0 := by unfold partO; rw [h1]; simp only [h2]
theorem findD_small {L : List Dev} (hv : VT L) (n : Int) : ((findD L n).getD zeroD).orig.size ≤ 32 := by
 cases h : findD L n with
 | none => show (0 : Nat) ≤ 32; omega
 | some d => exact (hv.small d (find_some h).1).1
end Go.Cold
namespace Go.Proofs.YtehmidmoiamcfaaGreatDoor
open Go.RowKit Go.Cold
theorem trim_len (s p : List UInt8) : (Lib.trimPrefix s p).length ≤ s.length := by
 unfold Lib.trimPrefix
 split
 · rw [List.length_drop]; omega
 · exact Nat.le_refl _
set_option maxRecDepth 100000 in
set_option maxHeartbeats 1000000 in
/-- relate.partition. -/
theorem partition_any (p d : Dev) (A1 A2 : Option Addr) (c1 c2 : Nat) (w : World) (hp : p.orig.size ≤ 32) (hd : d.orig.size ≤ 32) (hok : OkA w) :
  Calls Tryz.prog 90 #[.agg #[.int .i64 p.idx, .int .i64 p.par, .string p.nm, .string p.orig, .string p.sub, .string p.drv, .string p.ali, .int .i64 p.kind, .int .i64 p.num, .slice A1 p.attrs.length c1], .agg #[.int .i64 d.idx, .int .i64 d.par, .string d.nm, .string d.orig, .string d.sub, .string d.drv, .string d.ali, .int .i64 d.kind, .int .i64 d.num, .slice A2 d.attrs.length c2]] w fun e w' => e = .returned (.tuple #[.int .i64 (partD p d : Int), .bool (decide (partD p d ≠ 0))]) ∧ Below w.heap.size w w' := by
 have HP := Lib.hid hp; have HD := Lib.hid hd; have HOK := Lib.hid hok; clear hp hd hok
 go_enter Tryz.func90, Tryz.ntmps90
 go_upto_region 1 with fail
 obtain ⟨w1, hw1⟩ : ∃ w1, w.alloc (.cells #[.int .i64 p.idx, .int .i64 p.par, .string p.nm, .string p.orig, .string p.sub, .string p.drv, .string p.ali, .int .i64 p.kind, .int .i64 p.num, .slice A1 p.attrs.length c1] 43) = w1 := ⟨_, rfl⟩
 have hbw1 : Below w.heap.size w w1 := by rw [← hw1]; exact (Below.refl _ _).alloc (Nat.le_refl _) _
 have HGw1 := Lib.hid (show w1.heap.size = w.heap.size + 1 by rw [← hw1]; simp)
 have HXpw1 := Lib.hid (show BoxL w1 w.heap.size [.int .i64 p.idx, .int .i64 p.par, .string p.nm, .string p.orig, .string p.sub, .string p.drv, .string p.ali, .int .i64 p.kind, .int .i64 p.num, .slice A1 p.attrs.length c1] from box_mk hw1)
 try simp only [hw1]
 have HBw1 := Lib.hid hbw1
 clear hw1 hbw1
 try rw [show w.heap.size + 1 = w1.heap.size from HGw1.out.symm]
 obtain ⟨w2, hw2⟩ : ∃ w2, w1.alloc (.cells #[.int .i64 d.idx, .int .i64 d.par, .string d.nm, .string d.orig, .string d.sub, .string d.drv, .string d.ali, .int .i64 d.kind, .int .i64 d.num, .slice A2 d.attrs.length c2] 43) = w2 := ⟨_, rfl⟩
 have hbw2 : Below w1.heap.size w1 w2 := by rw [← hw2]; exact (Below.refl _ _).alloc (Nat.le_refl _) _
 have HGw2 := Lib.hid (show w2.heap.size = w1.heap.size + 1 by rw [← hw2]; simp)
 have HXdw2 := Lib.hid (show BoxL w2 w1.heap.size [.int .i64 d.idx, .int .i64 d.par, .string d.nm, .string d.orig, .string d.sub, .string d.drv, .string d.ali, .int .i64 d.kind, .int .i64 d.num, .slice A2 d.attrs.length c2] from box_mk hw2)
 try simp only [hw2]
 have HBw2 := Lib.hid (HBw1.out.trans (hbw2.mono HBw1.out.size))
 have pw2 := Lib.hid (HXpw1.out.kept (grown_none hbw2) (fun e => by cases e))
 clear hw2 hbw2
 try rw [show w1.heap.size + 1 = w2.heap.size from HGw2.out.symm]
 have cp3 := pw2.out.1 3 _ rfl
 have cp7 := pw2.out.1 7 _ rfl
 have cd3 := HXdw2.out.1 3 _ rfl
 have cd7 := HXdw2.out.1 7 _ rfl
 have hadd : ¬ 9223372036854775807 < p.orig.size + 1 := by have := HP.out; omega
 go_wp2_with fail
 refine (Tryz.strings_CutPrefix _ _ _).mono ?_
 rintro e w' ⟨rfl, hw_⟩
 rw [hw_]; clear hw_ w'
 obtain ⟨q, hq⟩ : ∃ q, Lib.hasPrefix d.orig.data.toList (p.orig ++ ⟨#[112]⟩).data.toList = q := ⟨_, rfl⟩
 obtain ⟨s, hs⟩ : ∃ s : ByteArray, ⟨(Lib.trimPrefix d.orig.data.toList (p.orig ++ ⟨#[112]⟩).data.toList).toArray⟩ = s := ⟨_, rfl⟩
 have HS := Lib.hid (show Lib.trimPrefix d.orig.data.toList (p.orig ++ ⟨#[112]⟩).data.toList = s.data.toList by rw [← hs])
 have HSZ := Lib.hid (show s.size ≤ 281474976710656 by rw [← hs]; have h1 := HD.out; have h2 := trim_len d.orig.data.toList (p.orig ++ ⟨#[112]⟩).data.toList; rw [ba_size] at h2; show (List.toArray _).size ≤ _; rw [List.size_toArray]; omega)
 rw [hq, hs]
 have HQ := Lib.hid hq; clear hq hs hadd
 go_wp2_with fail
 refine (AtoiW_any s _ (HOK.out.next HBw2.out) HSZ.out).mono ?_
 rintro e w3 ⟨hbw3, n, ev, rfl, hokn, hor⟩
 clear cp3 cp7 cd3 cd7
 have HBw3 := Lib.hid (HBw2.out.trans (hbw3.mono HBw2.out.size))
 have pw3 := Lib.hid (pw2.out.kept (grown_none hbw3) (fun e => by cases e))
 have dw3 := Lib.hid (HXdw2.out.kept (grown_none hbw3) (fun e => by cases e))
 clear hbw3
 have cp3 := pw3.out.1 3 _ rfl
 have cp7 := pw3.out.1 7 _ rfl
 have cd3 := dw3.out.1 3 _ rfl
 have cd7 := dw3.out.1 7 _ rfl
 have HOKN := Lib.hid hokn; clear hokn
 cases q
 ·
  have HR := Lib.hid (show partD p d = 0 by unfold partD; split; exact numR_no HQ.out; rfl)
  rcases hor with ⟨hv, rfl⟩ | ⟨hv, te, pe, rfl⟩
  ·
   clear hv
   go_wp2
   go_ret2
   exact ⟨by rw [HR.out]; rfl, HBw3.out⟩
  ·
   clear hv
   go_wp2
   go_ret2
   exact ⟨by rw [HR.out]; rfl, HBw3.out⟩
 ·
  rcases hor with ⟨hv, rfl⟩ | ⟨hv, te, pe, rfl⟩
  ·
   have HV := Lib.hid (show Lib.atoiAll (Lib.trimPrefix d.orig.data.toList (p.orig ++ ⟨#[112]⟩).data.toList) = .ok n by rw [HS.out]; exact hv); clear hv
   by_cases h1 : n < 1
   ·
    have HR := Lib.hid (show partD p d = 0 by unfold partD; split; exact numR_range HV.out (.inl h1); rfl)
    go_wp2
    go_ret2
    exact ⟨by rw [HR.out]; rfl, HBw3.out⟩
   ·
    by_cases h2 : n > 16
    ·
     have HR := Lib.hid (show partD p d = 0 by unfold partD; split; exact numR_range HV.out (.inr h2); rfl)
     go_wp2
     go_ret2
     exact ⟨by rw [HR.out]; rfl, HBw3.out⟩
    ·
     obtain ⟨k, rfl⟩ : ∃ k : Nat, n = (k : Int) := ⟨n.toNat, by omega⟩
     have hk : k ≤ 16 := by omega
     have HK := Lib.hid (show 1 ≤ k ∧ k ≤ 16 by omega)
     have h1' : ¬ (k : Int) < 1 := h1
     have h2' : ¬ (16 : Int) < (k : Int) := by omega
     go_wp2_with fail
     refine (ItoaS_any k _ hk).mono ?_
     rintro e w' ⟨rfl, hw_⟩
     rw [hw_]; clear hw_ w'
     have hit : Lib.itoa (k : Int) = (itB k).data.toList := by unfold itB; simp
     obtain ⟨z, hz⟩ : ∃ z, itB k = z := ⟨_, rfl⟩
     rw [hz] at hit ⊢
     have HIT := Lib.hid hit; clear hit hz
     by_cases hq : z = s
     ·
      have p1 : (z.toList == s.toList) = true := by rw [ba_beq]; exact decide_eq_true hq
      have p2 : (!z.toList == s.toList) = false := by rw [p1]; rfl
      have p3 : (z.toList != s.toList) = false := p2
      have HNUM := Lib.hid (show numR p.orig d.orig = k from numR_yes HQ.out (by rw [HIT.out, HS.out, hq]) HK.out.1 HK.out.2); clear hq
      by_cases k1 : d.kind = 2
      ·
       have e1 : (d.kind != 2) = false := by simp [k1]
       by_cases k2 : p.kind = 2
       ·
        have e2 : (p.kind != 2) = false := by simp [k2]
        have HR := Lib.hid (show partD p d = k by unfold partD; rw [if_pos ⟨k1, k2⟩]; exact HNUM.out); clear k1 k2
        go_wp2
        go_ret2
        exact ⟨by rw [HR.out, decide_eq_true (show k ≠ 0 by have := HK.out; omega)]; rfl, HBw3.out⟩
       ·
        have e2 : (p.kind != 2) = true := by simp [k2]
        have HR := Lib.hid (show partD p d = 0 by unfold partD; rw [if_neg (fun h => k2 h.2)]); clear k1 k2
        go_wp2
        go_ret2
        exact ⟨by rw [HR.out]; rfl, HBw3.out⟩
      ·
       have e1 : (d.kind != 2) = true := by simp [k1]
       have HR := Lib.hid (show partD p d = 0 by unfold partD; rw [if_neg (fun h => k1 h.1)]); clear k1
       go_wp2
       go_ret2
       exact ⟨by rw [HR.out]; rfl, HBw3.out⟩
     ·
      have p1 : (z.toList == s.toList) = false := by rw [ba_beq]; exact decide_eq_false hq
      have p2 : (!z.toList == s.toList) = true := by rw [p1]; rfl
      have p3 : (z.toList != s.toList) = true := p2
      have HR := Lib.hid (show partD p d = 0 by unfold partD; split; exact numR_digs HV.out (by rw [HIT.out, HS.out]; intro h; exact hq (ba_ext h)); rfl); clear hq
      go_wp2
      go_ret2
      exact ⟨by rw [HR.out]; rfl, HBw3.out⟩
  ·
   have HR := Lib.hid (show partD p d = 0 by unfold partD; split; exact numR_atoi (fun m => by rw [HS.out]; exact hv m); rfl); clear hv
   go_wp2
   go_ret2
   exact ⟨by rw [HR.out]; rfl, HBw3.out⟩
set_option maxRecDepth 100000 in
set_option maxHeartbeats 1000000 in
/-- relate.Partition. -/
theorem Partition_any (A : Option Addr) (c : Nat) (L : List Dev) (n : Int) (w : World) (B : Nat) (hB : B ≤ w.heap.size) (hx : Sl w B A c L) (hv : VT L) (hok : OkA w) :
  Calls Tryz.prog 51 #[.agg #[.slice A L.length c], .int .i64 n] w fun e w' => e = .returned (.tuple #[.int .i64 (partO L n : Int), .bool (decide (partO L n ≠ 0))]) ∧ Below w.heap.size w w' := by
 have hx1 := hx.1; have hx2 := hx.2.1
 unfold maxLen at hx2
 have HX := Lib.hid hx; have HB := Lib.hid hB; have HV := Lib.hid hv; have HOK := Lib.hid hok; clear hx hB hv hok
 have HLA := Lib.hid (show ∀ d ∈ L, d.attrs.length ≤ 1000000 from fun d hd => attrs_le (HV.out.chk d hd))
 go_enter Tryz.func51, Tryz.ntmps51
 go_upto_region 1 with fail
 obtain ⟨w1, hw1⟩ : ∃ w1, w.alloc (.cells #[.slice A L.length c] 57) = w1 := ⟨_, rfl⟩
 have hbw1 : Below w.heap.size w w1 := by rw [← hw1]; exact (Below.refl _ _).alloc (Nat.le_refl _) _
 have HGw1 := Lib.hid (show w1.heap.size = w.heap.size + 1 by rw [← hw1]; simp)
 have HXtw1 := Lib.hid (show BoxL w1 w.heap.size [.slice A L.length c] from box_mk hw1)
 try simp only [hw1]
 have HBw1 := Lib.hid hbw1
 clear hw1 hbw1
 try rw [show w.heap.size + 1 = w1.heap.size from HGw1.out.symm]
 have ct0 := HXtw1.out.1 0 _ rfl
 go_wp2_with fail
 refine (TFind_any A c L (n) _ B (Nat.le_trans HB.out HBw1.out.size) (HX.out.keep (HBw1.out.mono HB.out)) HLA.out).mono ?_
 rintro e w2 ⟨hbw2, d, A3, c3, hd, rfl, hod, -⟩
 clear ct0
 have HBw2 := Lib.hid (HBw1.out.trans (hbw2.mono HBw1.out.size))
 have tw2 := Lib.hid (HXtw1.out.kept (grown_none hbw2) (fun e => by cases e))
 clear hbw2
 have ct0 := tw2.out.1 0 _ rfl
 have Hd := Lib.hid (show d = (findD L (n)).getD zeroD from hd); have HOd := Lib.hid hod; clear hd hod
 obtain ⟨q, hq⟩ : ∃ q, (L.find? (byIdx (n))).isSome = q := ⟨_, rfl⟩
 rw [hq]
 have Hq := Lib.hid (show (findD L (n)).isSome = q from hq); clear hq
 go_upto_region 2 with fail
 obtain ⟨w3, hw3⟩ : ∃ w3, w2.alloc (.cells #[.int .i64 d.idx, .int .i64 d.par, .string d.nm, .string d.orig, .string d.sub, .string d.drv, .string d.ali, .int .i64 d.kind, .int .i64 d.num, .slice A3 d.attrs.length c3] 43) = w3 := ⟨_, rfl⟩
 have hbw3 : Below w2.heap.size w2 w3 := by rw [← hw3]; exact (Below.refl _ _).alloc (Nat.le_refl _) _
 have HGw3 := Lib.hid (show w3.heap.size = w2.heap.size + 1 by rw [← hw3]; simp)
 have HXaw3 := Lib.hid (show BoxL w3 w2.heap.size [.int .i64 d.idx, .int .i64 d.par, .string d.nm, .string d.orig, .string d.sub, .string d.drv, .string d.ali, .int .i64 d.kind, .int .i64 d.num, .slice A3 d.attrs.length c3] from box_mk hw3)
 try simp only [hw3]
 have HBw3 := Lib.hid (HBw2.out.trans (hbw3.mono HBw2.out.size))
 have tw3 := Lib.hid (tw2.out.kept (grown_none hbw3) (fun e => by cases e))
 clear hw3 hbw3
 try rw [show w2.heap.size + 1 = w3.heap.size from HGw3.out.symm]
 clear ct0
 have ct0 := tw3.out.1 0 _ rfl
 have ca0 := HXaw3.out.1 0 _ rfl
 have ca1 := HXaw3.out.1 1 _ rfl
 have ca2 := HXaw3.out.1 2 _ rfl
 have ca3 := HXaw3.out.1 3 _ rfl
 have ca4 := HXaw3.out.1 4 _ rfl
 have ca5 := HXaw3.out.1 5 _ rfl
 have ca6 := HXaw3.out.1 6 _ rfl
 have ca7 := HXaw3.out.1 7 _ rfl
 have ca8 := HXaw3.out.1 8 _ rfl
 have ca9 := HXaw3.out.1 9 _ rfl
 go_wp2_with fail
 refine (TFind_any A c L (d.par) _ B (Nat.le_trans HB.out HBw3.out.size) (HX.out.keep (HBw3.out.mono HB.out)) HLA.out).mono ?_
 rintro e w4 ⟨hbw4, p, A4, c4, hp, rfl, hop, -⟩
 clear ct0 ca0 ca1 ca2 ca3 ca4 ca5 ca6 ca7 ca8 ca9
 have HBw4 := Lib.hid (HBw3.out.trans (hbw4.mono HBw3.out.size))
 have tw4 := Lib.hid (tw3.out.kept (grown_none hbw4) (fun e => by cases e))
 have aw4 := Lib.hid (HXaw3.out.kept (grown_none hbw4) (fun e => by cases e))
 clear hbw4
 have ct0 := tw4.out.1 0 _ rfl
 have ca0 := aw4.out.1 0 _ rfl
 have ca1 := aw4.out.1 1 _ rfl
 have ca2 := aw4.out.1 2 _ rfl
 have ca3 := aw4.out.1 3 _ rfl
 have ca4 := aw4.out.1 4 _ rfl
 have ca5 := aw4.out.1 5 _ rfl
 have ca6 := aw4.out.1 6 _ rfl
 have ca7 := aw4.out.1 7 _ rfl
 have ca8 := aw4.out.1 8 _ rfl
 have ca9 := aw4.out.1 9 _ rfl
 have Hp := Lib.hid (show p = (findD L (d.par)).getD zeroD from hp); have HOp := Lib.hid hop; clear hp hop
 obtain ⟨r, hr⟩ : ∃ q, (L.find? (byIdx (d.par))).isSome = q := ⟨_, rfl⟩
 rw [hr]
 have Hr := Lib.hid (show (findD L (d.par)).isSome = r from hr); clear hr
 go_upto_region 3 with fail
 obtain ⟨w5, hw5⟩ : ∃ w5, w4.alloc (.cells #[.int .i64 p.idx, .int .i64 p.par, .string p.nm, .string p.orig, .string p.sub, .string p.drv, .string p.ali, .int .i64 p.kind, .int .i64 p.num, .slice A4 p.attrs.length c4] 43) = w5 := ⟨_, rfl⟩
 have hbw5 : Below w4.heap.size w4 w5 := by rw [← hw5]; exact (Below.refl _ _).alloc (Nat.le_refl _) _
 have HGw5 := Lib.hid (show w5.heap.size = w4.heap.size + 1 by rw [← hw5]; simp)
 have HXbw5 := Lib.hid (show BoxL w5 w4.heap.size [.int .i64 p.idx, .int .i64 p.par, .string p.nm, .string p.orig, .string p.sub, .string p.drv, .string p.ali, .int .i64 p.kind, .int .i64 p.num, .slice A4 p.attrs.length c4] from box_mk hw5)
 try simp only [hw5]
 have HBw5 := Lib.hid (HBw4.out.trans (hbw5.mono HBw4.out.size))
 have tw5 := Lib.hid (tw4.out.kept (grown_none hbw5) (fun e => by cases e))
 have aw5 := Lib.hid (aw4.out.kept (grown_none hbw5) (fun e => by cases e))
 clear hw5 hbw5
 try rw [show w4.heap.size + 1 = w5.heap.size from HGw5.out.symm]
 clear ct0 ca0 ca1 ca2 ca3 ca4 ca5 ca6 ca7 ca8 ca9
 have ct0 := tw5.out.1 0 _ rfl
 have ca0 := aw5.out.1 0 _ rfl
 have ca1 := aw5.out.1 1 _ rfl
 have ca2 := aw5.out.1 2 _ rfl
 have ca3 := aw5.out.1 3 _ rfl
 have ca4 := aw5.out.1 4 _ rfl
 have ca5 := aw5.out.1 5 _ rfl
 have ca6 := aw5.out.1 6 _ rfl
 have ca7 := aw5.out.1 7 _ rfl
 have ca8 := aw5.out.1 8 _ rfl
 have ca9 := aw5.out.1 9 _ rfl
 have cb0 := HXbw5.out.1 0 _ rfl
 have cb1 := HXbw5.out.1 1 _ rfl
 have cb2 := HXbw5.out.1 2 _ rfl
 have cb3 := HXbw5.out.1 3 _ rfl
 have cb4 := HXbw5.out.1 4 _ rfl
 have cb5 := HXbw5.out.1 5 _ rfl
 have cb6 := HXbw5.out.1 6 _ rfl
 have cb7 := HXbw5.out.1 7 _ rfl
 have cb8 := HXbw5.out.1 8 _ rfl
 have cb9 := HXbw5.out.1 9 _ rfl
 cases q
 ·
  have HR := Lib.hid (show partO L n = 0 by refine part_no1 ?_; have h1 := Hq.out; cases h : findD L n with | none => rfl | some _ => rw [h] at h1; cases h1)
  go_wp2
  go_ret2
  exact ⟨by rw [HR.out]; rfl, HBw5.out⟩
 ·
  have HF := Lib.hid (show findD L n = some d by have h1 := Hq.out; have h2 := Hd.out; cases h : findD L n with | none => rw [h] at h1; cases h1 | some x => rw [h] at h2; rw [h2]; rfl)
  cases r
  ·
   have HR := Lib.hid (show partO L n = 0 by refine part_no2 HF.out ?_; have h1 := Hr.out; cases h : findD L d.par with | none => rfl | some _ => rw [h] at h1; cases h1)
   go_wp2
   go_ret2
   exact ⟨by rw [HR.out]; rfl, HBw5.out⟩
  ·
   have HF2 := Lib.hid (show findD L d.par = some p by have h1 := Hr.out; have h2 := Hp.out; cases h : findD L d.par with | none => rw [h] at h1; cases h1 | some x => rw [h] at h2; rw [h2]; rfl)
   have HSD := Lib.hid (show d.orig.size ≤ 32 by have := findD_small HV.out n; rw [← Hd.out] at this; exact this); have HSP := Lib.hid (show p.orig.size ≤ 32 by have := findD_small HV.out d.par; rw [← Hp.out] at this; exact this)
   go_wp2_with fail
   refine (partition_any p d A4 A3 c4 c3 _ HSP.out HSD.out (HOK.out.next HBw5.out)).mono ?_
   rintro e w6 ⟨rfl, hbw6⟩
   clear ct0 ca0 ca1 ca2 ca3 ca4 ca5 ca6 ca7 ca8 ca9 cb0 cb1 cb2 cb3 cb4 cb5 cb6 cb7 cb8 cb9
   have HBw6 := Lib.hid (HBw5.out.trans (hbw6.mono HBw5.out.size))
   have tw6 := Lib.hid (tw5.out.kept (grown_none hbw6) (fun e => by cases e))
   have aw6 := Lib.hid (aw5.out.kept (grown_none hbw6) (fun e => by cases e))
   have bw6 := Lib.hid (HXbw5.out.kept (grown_none hbw6) (fun e => by cases e))
   clear hbw6
   rw [← part_of HF.out HF2.out]
   obtain ⟨z, hz⟩ : ∃ z, (partO L n : Int) = z := ⟨_, rfl⟩
   obtain ⟨z2, hz2⟩ : ∃ z, decide (partO L n ≠ 0) = z := ⟨_, rfl⟩
   rw [hz, hz2]
   have HZ := Lib.hid hz; have HZ2 := Lib.hid hz2; clear hz hz2
   go_wp2
   go_ret2
   exact ⟨by rw [HZ.out, HZ2.out]; rfl, HBw6.out⟩
set_option maxRecDepth 100000 in
set_option maxHeartbeats 1000000 in
/-- The reference's Partition. -/
theorem RPartition_any (A : Option Addr) (c : Nat) (L : List Dev) (n : Int) (w : World) (B : Nat) (hB : B ≤ w.heap.size) (hx : Sl w B A c L) (hv : VT L) :
  Calls Tryz.prog 52 #[.agg #[.slice A L.length c], .int .i64 n] w fun e w' => e = .returned (.tuple #[.int .i64 (partO L n : Int), .bool (decide (partO L n ≠ 0))]) ∧ Below w.heap.size w w' := by
 have hx1 := hx.1; have hx2 := hx.2.1
 unfold maxLen at hx2
 have HX := Lib.hid hx; have HB := Lib.hid hB; have HV := Lib.hid hv; clear hx hB hv
 have HLA := Lib.hid (show ∀ d ∈ L, d.attrs.length ≤ 1000000 from fun d hd => attrs_le (HV.out.chk d hd))
 go_enter Tryz.func52, Tryz.ntmps52
 go_upto_region 1 with fail
 obtain ⟨w1, hw1⟩ : ∃ w1, w.alloc (.cells #[.slice A L.length c] 57) = w1 := ⟨_, rfl⟩
 have hbw1 : Below w.heap.size w w1 := by rw [← hw1]; exact (Below.refl _ _).alloc (Nat.le_refl _) _
 have HGw1 := Lib.hid (show w1.heap.size = w.heap.size + 1 by rw [← hw1]; simp)
 have HXtw1 := Lib.hid (show BoxL w1 w.heap.size [.slice A L.length c] from box_mk hw1)
 try simp only [hw1]
 have HBw1 := Lib.hid hbw1
 clear hw1 hbw1
 try rw [show w.heap.size + 1 = w1.heap.size from HGw1.out.symm]
 have ct0 := HXtw1.out.1 0 _ rfl
 go_wp2_with fail
 refine (RFind_any A c L (n) _ B (Nat.le_trans HB.out HBw1.out.size) (HX.out.keep (HBw1.out.mono HB.out))).mono ?_
 rintro e w2 ⟨hbw2, d, A3, c3, hd, rfl, hod, -⟩
 clear ct0
 have HBw2 := Lib.hid (HBw1.out.trans (hbw2.mono HBw1.out.size))
 have tw2 := Lib.hid (HXtw1.out.kept (grown_none hbw2) (fun e => by cases e))
 clear hbw2
 have ct0 := tw2.out.1 0 _ rfl
 have Hd := Lib.hid (show d = (findD L (n)).getD zeroD from hd); have HOd := Lib.hid hod; clear hd hod
 obtain ⟨q, hq⟩ : ∃ q, (findD L (n)).isSome = q := ⟨_, rfl⟩
 rw [hq]
 have Hq := Lib.hid (show (findD L (n)).isSome = q from hq); clear hq
 go_upto_region 2 with fail
 obtain ⟨w3, hw3⟩ : ∃ w3, w2.alloc (.cells #[.int .i64 d.idx, .int .i64 d.par, .string d.nm, .string d.orig, .string d.sub, .string d.drv, .string d.ali, .int .i64 d.kind, .int .i64 d.num, .slice A3 d.attrs.length c3] 43) = w3 := ⟨_, rfl⟩
 have hbw3 : Below w2.heap.size w2 w3 := by rw [← hw3]; exact (Below.refl _ _).alloc (Nat.le_refl _) _
 have HGw3 := Lib.hid (show w3.heap.size = w2.heap.size + 1 by rw [← hw3]; simp)
 have HXaw3 := Lib.hid (show BoxL w3 w2.heap.size [.int .i64 d.idx, .int .i64 d.par, .string d.nm, .string d.orig, .string d.sub, .string d.drv, .string d.ali, .int .i64 d.kind, .int .i64 d.num, .slice A3 d.attrs.length c3] from box_mk hw3)
 try simp only [hw3]
 have HBw3 := Lib.hid (HBw2.out.trans (hbw3.mono HBw2.out.size))
 have tw3 := Lib.hid (tw2.out.kept (grown_none hbw3) (fun e => by cases e))
 clear hw3 hbw3
 try rw [show w2.heap.size + 1 = w3.heap.size from HGw3.out.symm]
 clear ct0
 have ct0 := tw3.out.1 0 _ rfl
 have ca0 := HXaw3.out.1 0 _ rfl
 have ca1 := HXaw3.out.1 1 _ rfl
 have ca2 := HXaw3.out.1 2 _ rfl
 have ca3 := HXaw3.out.1 3 _ rfl
 have ca4 := HXaw3.out.1 4 _ rfl
 have ca5 := HXaw3.out.1 5 _ rfl
 have ca6 := HXaw3.out.1 6 _ rfl
 have ca7 := HXaw3.out.1 7 _ rfl
 have ca8 := HXaw3.out.1 8 _ rfl
 have ca9 := HXaw3.out.1 9 _ rfl
 go_wp2_with fail
 refine (RFind_any A c L (d.par) _ B (Nat.le_trans HB.out HBw3.out.size) (HX.out.keep (HBw3.out.mono HB.out))).mono ?_
 rintro e w4 ⟨hbw4, p, A4, c4, hp, rfl, hop, -⟩
 clear ct0 ca0 ca1 ca2 ca3 ca4 ca5 ca6 ca7 ca8 ca9
 have HBw4 := Lib.hid (HBw3.out.trans (hbw4.mono HBw3.out.size))
 have tw4 := Lib.hid (tw3.out.kept (grown_none hbw4) (fun e => by cases e))
 have aw4 := Lib.hid (HXaw3.out.kept (grown_none hbw4) (fun e => by cases e))
 clear hbw4
 have ct0 := tw4.out.1 0 _ rfl
 have ca0 := aw4.out.1 0 _ rfl
 have ca1 := aw4.out.1 1 _ rfl
 have ca2 := aw4.out.1 2 _ rfl
 have ca3 := aw4.out.1 3 _ rfl
 have ca4 := aw4.out.1 4 _ rfl
 have ca5 := aw4.out.1 5 _ rfl
 have ca6 := aw4.out.1 6 _ rfl
 have ca7 := aw4.out.1 7 _ rfl
 have ca8 := aw4.out.1 8 _ rfl
 have ca9 := aw4.out.1 9 _ rfl
 have Hp := Lib.hid (show p = (findD L (d.par)).getD zeroD from hp); have HOp := Lib.hid hop; clear hp hop
 obtain ⟨r, hr⟩ : ∃ q, (findD L (d.par)).isSome = q := ⟨_, rfl⟩
 rw [hr]
 have Hr := Lib.hid (show (findD L (d.par)).isSome = r from hr); clear hr
 go_upto_region 3 with fail
 obtain ⟨w5, hw5⟩ : ∃ w5, w4.alloc (.cells #[.int .i64 p.idx, .int .i64 p.par, .string p.nm, .string p.orig, .string p.sub, .string p.drv, .string p.ali, .int .i64 p.kind, .int .i64 p.num, .slice A4 p.attrs.length c4] 43) = w5 := ⟨_, rfl⟩
 have hbw5 : Below w4.heap.size w4 w5 := by rw [← hw5]; exact (Below.refl _ _).alloc (Nat.le_refl _) _
 have HGw5 := Lib.hid (show w5.heap.size = w4.heap.size + 1 by rw [← hw5]; simp)
 have HXbw5 := Lib.hid (show BoxL w5 w4.heap.size [.int .i64 p.idx, .int .i64 p.par, .string p.nm, .string p.orig, .string p.sub, .string p.drv, .string p.ali, .int .i64 p.kind, .int .i64 p.num, .slice A4 p.attrs.length c4] from box_mk hw5)
 try simp only [hw5]
 have HBw5 := Lib.hid (HBw4.out.trans (hbw5.mono HBw4.out.size))
 have tw5 := Lib.hid (tw4.out.kept (grown_none hbw5) (fun e => by cases e))
 have aw5 := Lib.hid (aw4.out.kept (grown_none hbw5) (fun e => by cases e))
 clear hw5 hbw5
 try rw [show w4.heap.size + 1 = w5.heap.size from HGw5.out.symm]
 clear ct0 ca0 ca1 ca2 ca3 ca4 ca5 ca6 ca7 ca8 ca9
 have ct0 := tw5.out.1 0 _ rfl
 have ca0 := aw5.out.1 0 _ rfl
 have ca1 := aw5.out.1 1 _ rfl
 have ca2 := aw5.out.1 2 _ rfl
 have ca3 := aw5.out.1 3 _ rfl
 have ca4 := aw5.out.1 4 _ rfl
 have ca5 := aw5.out.1 5 _ rfl
 have ca6 := aw5.out.1 6 _ rfl
 have ca7 := aw5.out.1 7 _ rfl
 have ca8 := aw5.out.1 8 _ rfl
 have ca9 := aw5.out.1 9 _ rfl
 have cb0 := HXbw5.out.1 0 _ rfl
 have cb1 := HXbw5.out.1 1 _ rfl
 have cb2 := HXbw5.out.1 2 _ rfl
 have cb3 := HXbw5.out.1 3 _ rfl
 have cb4 := HXbw5.out.1 4 _ rfl
 have cb5 := HXbw5.out.1 5 _ rfl
 have cb6 := HXbw5.out.1 6 _ rfl
 have cb7 := HXbw5.out.1 7 _ rfl
 have cb8 := HXbw5.out.1 8 _ rfl
 have cb9 := HXbw5.out.1 9 _ rfl
 cases q
 ·
  have HR := Lib.hid (show partO L n = 0 by refine part_no1 ?_; have h1 := Hq.out; cases h : findD L n with | none => rfl | some _ => rw [h] at h1; cases h1)
  go_wp2
  go_ret2
  exact ⟨by rw [HR.out]; rfl, HBw5.out⟩
 ·
  have HF := Lib.hid (show findD L n = some d by have h1 := Hq.out; have h2 := Hd.out; cases h : findD L n with | none => rw [h] at h1; cases h1 | some x => rw [h] at h2; rw [h2]; rfl)
  cases r
  ·
   have HR := Lib.hid (show partO L n = 0 by refine part_no2 HF.out ?_; have h1 := Hr.out; cases h : findD L d.par with | none => rfl | some _ => rw [h] at h1; cases h1)
   go_wp2
   go_ret2
   exact ⟨by rw [HR.out]; rfl, HBw5.out⟩
  ·
   have HF2 := Lib.hid (show findD L d.par = some p by have h1 := Hr.out; have h2 := Hp.out; cases h : findD L d.par with | none => rw [h] at h1; cases h1 | some x => rw [h] at h2; rw [h2]; rfl)
   have HSP := Lib.hid (show p.orig.size ≤ 32 by have := findD_small HV.out d.par; rw [← Hp.out] at this; exact this)
   have HPO := Lib.hid (part_of HF.out HF2.out)
   by_cases k1 : d.kind = 2
   ·
    have e1 : (d.kind != 2) = false := by simp [k1]
    by_cases k2 : p.kind = 2
    ·
     have e2 : (p.kind != 2) = false := by simp [k2]
     have HR := Lib.hid (show partO L n = numR p.orig d.orig by rw [HPO.out]; unfold partD; rw [if_pos ⟨k1, k2⟩]); clear k1 k2
     go_wp2_with fail
     refine (RNumber27_any p.orig d.orig _ (by have := HSP.out; unfold maxLen; omega)).mono ?_
     rintro e w' ⟨rfl, hw_⟩
     rw [hw_]; clear hw_ w'
     rw [← HR.out]
     by_cases h0 : partO L n = 0
     ·
      rw [h0]
      have H0 := Lib.hid h0; clear h0
      go_wp2
      go_ret2
      exact ⟨by rw [H0.out]; rfl, HBw5.out⟩
     ·
      obtain ⟨m, hm⟩ : ∃ m, partO L n = m + 1 := ⟨partO L n - 1, by omega⟩
      rw [hm]
      have HM := Lib.hid hm; clear hm h0
      have i1 : (0 : Int) < ((m + 1 : Nat) : Int) := by omega
      obtain ⟨z, hz⟩ : ∃ z, ((m + 1 : Nat) : Int) = z := ⟨_, rfl⟩
      rw [hz] at i1 ⊢
      have HZ := Lib.hid hz; clear hz
      go_wp2
      go_ret2
      exact ⟨by rw [HM.out, HZ.out]; rfl, HBw5.out⟩
    ·
     have e2 : (p.kind != 2) = true := by simp [k2]
     have HR := Lib.hid (show partO L n = 0 by rw [HPO.out]; unfold partD; rw [if_neg (fun h => k2 h.2)]); clear k1 k2
     go_wp2
     go_ret2
     exact ⟨by rw [HR.out]; rfl, HBw5.out⟩
   ·
    have e1 : (d.kind != 2) = true := by simp [k1]
    have HR := Lib.hid (show partO L n = 0 by rw [HPO.out]; unfold partD; rw [if_neg (fun h => k1 h.1)]); clear k1
    go_wp2
    go_ret2
    exact ⟨by rw [HR.out]; rfl, HBw5.out⟩
end Go.Proofs.YtehmidmoiamcfaaGreatDoor
namespace Go.Cold
open Go Go.RowKit
end Go.Cold
namespace Go.Cold
open Go Go.RowKit
end Go.Cold
namespace Go.Cold
open Go Go.RowKit
section
variable {α : Type} [RepS α] {N N' F : Nat → Prop} {w w' : World} {A : Option Addr} {c q base : Nat} {T : TypeId} {v : Value} {l : List α}
end
end Go.Cold
