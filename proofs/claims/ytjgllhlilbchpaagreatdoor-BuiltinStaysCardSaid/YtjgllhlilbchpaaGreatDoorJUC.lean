/-
  The walks of builtin.set, builtin.Key and the reference's Key.
-/
import Derived.Test.YtjgllhlilbchpaaGreatDoorJUB
import Derived.Test.YtjgllhlilbchpaaGreatDoorJUA
import Derived.Lib.SlicesS
import Derived.Test.YtjgllhlilbchpaaGreatDoorJL
import Derived.Lib.ItoaLen
import Derived.Deep.RegionHeld3
import Derived.Test.YtjgllhlilbchpaaGreatDoorJD
import Derived.Test.YtjgllhlilbchpaaGreatDoorJP
import Derived.Shelf.Strings.MapAny
import Derived.Test.YtjgllhlilbchpaaGreatDoorJC
import Derived.Test.YtjgllhlilbchpaaGreatDoorJSB
set_option linter.unusedSimpArgs false
set_option linter.unusedVariables false
namespace Go.Cold
open Go Go.RowKit Go.Proofs.YtjgllhlilbchpaaGreatDoor
def SlPost (l : List Attr) (w : World) (e : Ending) (w' : World) : Prop := Below w.heap.size w w' ∧ ∃ A c, e = .returned (.slice A l.length c) ∧ Sl w' w'.heap.size A c l
theorem SlPost.of_own {l : List Attr} {w w' : World} {e : Ending} {v : Value} {T : TypeId} (hb : Below w.heap.size w w') (he : e = .returned v) (h : OwnsS (fun _ => False) w' w.heap.size T v l) : SlPost l w e w' := by
 obtain ⟨A, c, hv, hs⟩ := h.sl
 exact ⟨hb, A, c, by rw [he, hv], hs⟩
theorem str_eq {x : ByteArray} {l : List UInt8} {a : Array UInt8} (ha : (⟨a⟩ : ByteArray).toList = l) : (x.toList == l) = decide (x = ⟨a⟩) := by
 rw [← ha]; exact ba_beq x ⟨a⟩
end Go.Cold
namespace Go.Proofs.YtjgllhlilbchpaaGreatDoor
open Go.RowKit Go.Cold
set_option maxRecDepth 100000 in
theorem Put_any (A : Option Addr) (c : Nat) (xs : List Attr) (n x : ByteArray) (w : World) (B : Nat) (hB : B ≤ w.heap.size) (hx : Sl w B A c xs) (hs : sortedA xs = true) (hl : xs.length ≤ 1000) (h1 : n.size ≤ maxLen) (h2 : x.size ≤ maxLen) :
  Calls Tryz.prog 46 #[.slice A xs.length c, .string n, .string x] w (SlPost (putA xs n x) w) := by
 have hx1 := hx.1; have hx2 := hx.2.1
 unfold maxLen at hx2
 have HX := Lib.hid hx; have HB := Lib.hid hB; have HS := Lib.hid hs; have HL := Lib.hid hl; have H1 := Lib.hid h1; have H2 := Lib.hid h2
 clear hx hB hs hl h1 h2
 go_enter Tryz.func46, Tryz.ntmps46
 by_cases hv : x.toList.isEmpty = true
 ·
  have hv2 : (x.toList == (⟨#[]⟩ : ByteArray).toList) = true := by rw [show (⟨#[]⟩ : ByteArray).toList = [] by decide +kernel]; cases hq : x.toList with | nil => rfl | cons a r => rw [hq] at hv; cases hv
  have hv3 : (x.toList == []) = true := by cases hq : x.toList with | nil => rfl | cons a r => rw [hq] at hv; cases hv
  have HV := Lib.hid hv; clear hv
  go_wp2
  go_ret
  have he : putA xs n x = xs := by unfold putA; rw [if_pos HV.out]
  rw [he]
  exact ⟨Below.refl _ _, A, c, rfl, HX.out.more HB.out⟩
 ·
  have hv1 : x.toList.isEmpty = false := by simpa using hv
  have hv2 : (x.toList == (⟨#[]⟩ : ByteArray).toList) = false := by rw [show (⟨#[]⟩ : ByteArray).toList = [] by decide +kernel]; cases hq : x.toList with | nil => rw [hq] at hv1; cases hv1 | cons a r => rfl
  have hv3 : (x.toList == []) = false := by cases hq : x.toList with | nil => rw [hq] at hv1; cases hv1 | cons a r => rfl
  have HV := Lib.hid hv; clear hv hv1
  go_wp2_with fail
  refine (DSet_any A c xs n x _ B HB.out HX.out HS.out HL.out H1.out H2.out).mono ?_
  rintro e w1 ⟨hb1, v, rfl, hown⟩
  have HP := Lib.hid (show SlPost (putA xs n x) w (.returned v) w1 from by rw [show putA xs n x = setA xs n x by unfold putA; rw [if_neg HV.out]]; exact SlPost.of_own hb1 rfl hown); clear hb1 hown
  go_wp2
  go_ret
  exact HP.out
end Go.Proofs.YtjgllhlilbchpaaGreatDoor
namespace Go.Cold
open Go Go.RowKit Go.Proofs.YtjgllhlilbchpaaGreatDoor
theorem base_none {L : List Dev} {n : Int} (h : (findD L n).isSome = false) : baseL L n = [] := by
 unfold baseL
 cases hf : findD L n with
 | none => rfl
 | some d => rw [hf] at h; cases h
theorem strF_small {L : List Dev} (h : VT L) (n : Int) : (strF L n).size ≤ maxLen := by
 have := str_size (fun d hd => (h.small d hd).1) h.size n
 unfold maxLen; omega
theorem itoaT_small {n : Int} (h : okI n) : (itoaT n).size ≤ maxLen := by
 have h1 := Go.Lib.itoa_length_le n h.1 h.2
 show (Lib.itoa n).toArray.size ≤ maxLen
 rw [List.size_toArray]
 unfold maxLen; omega
theorem base_some {L : List Dev} {n : Int} {d : Dev} (hq : (findD L n).isSome = true) (hd : d = (findD L n).getD zeroD) : baseL L n = putAll (baseP (strF L n) d) := by
 unfold baseL
 cases hf : findD L n with
 | none => rw [hf] at hq; cases hq
 | some e => rw [hf] at hd; rw [show d = e from hd]
end Go.Cold
namespace Go.Proofs.YtjgllhlilbchpaaGreatDoor
open Go.RowKit Go.Cold
end Go.Proofs.YtjgllhlilbchpaaGreatDoor
namespace Go.Cold
open Go Go.RowKit Go.Proofs.YtjgllhlilbchpaaGreatDoor
theorem put_next {ps : List (ByteArray × ByteArray)} {l : List Attr} {k v : ByteArray} (h : putAll ps = l) (hk : k ∉ ps.map (·.1)) : putAll (ps ++ [(k, v)]) = putA l k v := by rw [← h]; exact (putA_set hk).symm
theorem put_srt {ps : List (ByteArray × ByteArray)} {l : List Attr} (h : putAll ps = l) : sortedA l = true := by rw [← h]; exact putAll_sorted _
theorem put_len {ps : List (ByteArray × ByteArray)} {l : List Attr} (h : putAll ps = l) (hn : ps.length ≤ 1000) : l.length ≤ 1000 := by rw [← h]; exact Nat.le_trans (putAll_len ps) hn
theorem putAll_nil : putAll [] = [] := rfl
end Go.Cold
namespace Go.Proofs.YtjgllhlilbchpaaGreatDoor
open Go.RowKit Go.Cold
theorem part_any (d : Dev) (A : Option Addr) (c : Nat) (w : World) (hs : d.sub.size ≤ 1000) (ho : d.orig.size ≤ 1000) : Calls Tryz.prog 40 #[.agg #[.int .i64 d.idx, .int .i64 d.par, .string d.nm, .string d.orig, .string d.sub, .string d.drv, .string d.ali, .int .i64 d.kind, .int .i64 d.num, .slice A d.attrs.length c]] w fun e w' => e = .returned (.string (partT d)) ∧ Below w.heap.size w w' := by
 have f1 : ¬ 9223372036854775807 < d.sub.size + 1 := by omega
 have f2 : ¬ 9223372036854775807 < d.sub.size + 1 + d.orig.size := by omega
 clear hs ho
 go_enter Tryz.func40, Tryz.ntmps40
 go_upto_region 1 with fail
 obtain ⟨w1, hw1⟩ : ∃ w1, w.alloc (.cells #[.int .i64 d.idx, .int .i64 d.par, .string d.nm, .string d.orig, .string d.sub, .string d.drv, .string d.ali, .int .i64 d.kind, .int .i64 d.num, .slice A d.attrs.length c] 32) = w1 := ⟨_, rfl⟩
 have hbw1 : Below w.heap.size w w1 := by rw [← hw1]; exact (Below.refl _ _).alloc (Nat.le_refl _) _
 have HGw1 := Lib.hid (show w1.heap.size = w.heap.size + 1 by rw [← hw1]; simp)
 have HXpw1 := Lib.hid (show BoxL w1 w.heap.size [.int .i64 d.idx, .int .i64 d.par, .string d.nm, .string d.orig, .string d.sub, .string d.drv, .string d.ali, .int .i64 d.kind, .int .i64 d.num, .slice A d.attrs.length c] from box_mk hw1)
 try simp only [hw1]
 have HBw1 := Lib.hid hbw1
 clear hw1 hbw1
 try rw [show w.heap.size + 1 = w1.heap.size from HGw1.out.symm]
 have cp0 := HXpw1.out.1 0 _ rfl
 have cp1 := HXpw1.out.1 1 _ rfl
 have cp2 := HXpw1.out.1 2 _ rfl
 have cp3 := HXpw1.out.1 3 _ rfl
 have cp4 := HXpw1.out.1 4 _ rfl
 have cp5 := HXpw1.out.1 5 _ rfl
 have cp6 := HXpw1.out.1 6 _ rfl
 have cp7 := HXpw1.out.1 7 _ rfl
 have cp8 := HXpw1.out.1 8 _ rfl
 have cp9 := HXpw1.out.1 9 _ rfl
 go_wp2
 go_ret
 exact ⟨by try rfl, HBw1.out⟩
set_option maxRecDepth 100000 in
set_option maxHeartbeats 4000000 in
theorem Base_any (A : Option Addr) (c : Nat) (L : List Dev) (n : Int) (w : World) (B : Nat) (hB : B ≤ w.heap.size) (hx : Sl w B A c L) (hv : VT L) (hok : Ok7 w) (hko : Ok w) (hn : okI n) :
  Calls Tryz.prog 14 #[.agg #[.slice A L.length c], .int .i64 n] w (SlPost (baseL L n) w) := by
 have hx1 := hx.1; have hx2 := hx.2.1
 unfold maxLen at hx2
 have HX := Lib.hid hx; have HB := Lib.hid hB; have HV := Lib.hid hv; have HOK := Lib.hid hok; clear hx hB hv hok
 have HKO := Lib.hid hko; have HN := Lib.hid hn; clear hko hn
 have HLA := Lib.hid (show ∀ d ∈ L, d.attrs.length ≤ 1000000 from fun d hd => attrs_le (HV.out.chk d hd))
 go_enter Tryz.func14, Tryz.ntmps14
 go_upto_region 1 with fail
 obtain ⟨w1, hw1⟩ : ∃ w1, w.alloc (.cells #[.slice A L.length c] 28) = w1 := ⟨_, rfl⟩
 have hbw1 : Below w.heap.size w w1 := by rw [← hw1]; exact (Below.refl _ _).alloc (Nat.le_refl _) _
 have HGw1 := Lib.hid (show w1.heap.size = w.heap.size + 1 by rw [← hw1]; simp)
 have HXtw1 := Lib.hid (show BoxL w1 w.heap.size [.slice A L.length c] from box_mk hw1)
 try simp only [hw1]
 have HBw1 := Lib.hid hbw1
 clear hw1 hbw1
 try rw [show w.heap.size + 1 = w1.heap.size from HGw1.out.symm]
 have ct0 := HXtw1.out.1 0 _ rfl
 obtain ⟨q, hq⟩ : ∃ z, (findD L n).isSome = z := ⟨_, rfl⟩
 have HQ := Lib.hid hq; clear hq
 go_wp2_with fail
 refine (TFind_any A c L n _ B (Nat.le_trans HB.out HBw1.out.size) (HX.out.keep (HBw1.out.mono HB.out)) HLA.out).mono ?_
 rintro e w2 ⟨hbw2, d, A3, c3, hd, rfl, hod, hsd⟩
 clear ct0
 have HBw2 := Lib.hid (HBw1.out.trans (hbw2.mono HBw1.out.size))
 have tw2 := Lib.hid (HXtw1.out.kept (grown_none hbw2) (fun e => by cases e))
 clear hbw2
 have ct0 := tw2.out.1 0 _ rfl
 rw [show (L.find? (byIdx n)).isSome = q from HQ.out]
 have Hd := Lib.hid (show d = (findD L n).getD zeroD from hd); have HOd := Lib.hid hod
 clear hd hod hsd
 go_upto_region 2 with fail
 obtain ⟨w3, hw3⟩ : ∃ w3, w2.alloc (.cells #[.int .i64 d.idx, .int .i64 d.par, .string d.nm, .string d.orig, .string d.sub, .string d.drv, .string d.ali, .int .i64 d.kind, .int .i64 d.num, .slice A3 d.attrs.length c3] 32) = w3 := ⟨_, rfl⟩
 have hbw3 : Below w2.heap.size w2 w3 := by rw [← hw3]; exact (Below.refl _ _).alloc (Nat.le_refl _) _
 have HGw3 := Lib.hid (show w3.heap.size = w2.heap.size + 1 by rw [← hw3]; simp)
 have HXaw3 := Lib.hid (show BoxL w3 w2.heap.size [.int .i64 d.idx, .int .i64 d.par, .string d.nm, .string d.orig, .string d.sub, .string d.drv, .string d.ali, .int .i64 d.kind, .int .i64 d.num, .slice A3 d.attrs.length c3] from box_mk hw3)
 try simp only [hw3]
 have HBw3 := Lib.hid (HBw2.out.trans (hbw3.mono HBw2.out.size))
 have tw3 := Lib.hid (tw2.out.kept (grown_none hbw3) (fun e => by cases e))
 clear hw3 hbw3
 try rw [show w2.heap.size + 1 = w3.heap.size from HGw3.out.symm]
 clear ct0
 have ct0 := tw3.out.1 0 _ rfl
 have ca0 := HXaw3.out.1 0 _ rfl
 have ca1 := HXaw3.out.1 1 _ rfl
 have ca2 := HXaw3.out.1 2 _ rfl
 have ca3 := HXaw3.out.1 3 _ rfl
 have ca4 := HXaw3.out.1 4 _ rfl
 have ca5 := HXaw3.out.1 5 _ rfl
 have ca6 := HXaw3.out.1 6 _ rfl
 have ca7 := HXaw3.out.1 7 _ rfl
 have ca8 := HXaw3.out.1 8 _ rfl
 have ca9 := HXaw3.out.1 9 _ rfl
 cases q
 ·
  have HE := Lib.hid (base_none HQ.out)
  go_wp2
  go_ret
  exact ⟨HBw3.out, none, 0, by rw [HE.out]; rfl, by rw [HE.out]; exact Sl.nil_⟩
 ·
  obtain ⟨so, hso⟩ : ∃ z, strF L n = z := ⟨_, rfl⟩
  obtain ⟨bc, hbc⟩ : ∃ z, (idxs L).contains n = z := ⟨_, rfl⟩
  have HSO := Lib.hid hso; have HSZ := Lib.hid (show so.size ≤ maxLen from hso ▸ strF_small HV.out n); have HBC := Lib.hid hbc; clear hso hbc
  have HBE := Lib.hid (show baseL L n = putAll (baseP so d) by rw [← HSO.out]; exact base_some HQ.out Hd.out)
  have HSR := Lib.hid (show d.orig.size ≤ 32 by have := findD_small HV.out n; rw [← Hd.out] at this; exact this)
  obtain ⟨nd, hnd⟩ : ∃ z, (nodeD d).isSome = z := ⟨_, rfl⟩
  have HND := Lib.hid hnd; clear hnd
  go_wp2_with fail
  refine (Origin_any A c L n _ B (Nat.le_trans HB.out HBw3.out.size) (HX.out.keep (HBw3.out.mono HB.out)) (fun d hd => (HV.out.small d hd).1) HV.out.size HN.out).mono ?_
  rintro e w4 ⟨rfl, hbw4⟩
  clear ct0 ca0 ca1 ca2 ca3 ca4 ca5 ca6 ca7 ca8 ca9
  have HBw4 := Lib.hid (HBw3.out.trans (hbw4.mono HBw3.out.size))
  have tw4 := Lib.hid (tw3.out.kept (grown_none hbw4) (fun e => by cases e))
  have aw4 := Lib.hid (HXaw3.out.kept (grown_none hbw4) (fun e => by cases e))
  clear hbw4
  rw [HSO.out, HBC.out]
  clear HBC
  go_upto_region 5 with fail
  refine wp_region_held_drew (S := fun w' => BoxL w' (w2.heap.size) [.int .i64 d.idx, .int .i64 d.par, .string d.nm, .string d.orig, .string d.sub, .string d.drv, .string d.ali, .int .i64 d.kind, .int .i64 d.num, .slice A3 d.attrs.length c3]) (by kernel_rfl) aw4.out.drew (fun hS0 => ?_)
  obtain ⟨wd, hwd⟩ : ∃ z, World.drew w4 = z := ⟨_, rfl⟩
  rw [hwd] at hS0 ⊢
  have hb_ : Below w4.heap.size w4 wd := by rw [← hwd]; exact below_drewN_self _ _ 1
  clear hwd hS0
  have HBwd := Lib.hid (HBw4.out.trans (hb_.mono HBw4.out.size))
  have twd := Lib.hid (tw4.out.kept (grown_none hb_) (fun e => by cases e))
  have awd := Lib.hid (aw4.out.kept (grown_none hb_) (fun e => by cases e))
  clear hb_
  refine wpAnyH_take (i := 0) (oi := ⟨some 26, _, _, _, _, _⟩) (v := .string so) rfl (by kernel_rfl) (by kernel_rfl) (by kernel_rfl) (fun _ _ _ h => h) (Or.inl ⟨by rfl, fun w' hS => by go_simp⟩) awd.out ?_
  try simp only [Act.put, List.setIfInBounds_toArray, List.set_cons_zero, List.set_cons_succ]
  refine wpAnyH_take (i := 2) (oi := ⟨some 28, _, _, _, _, _⟩) (v := .pointer (some ⟨w2.heap.size, 4, none⟩)) rfl (by kernel_rfl) (by kernel_rfl) (by kernel_rfl) (fun _ _ _ h => h) (Or.inl ⟨by rfl, fun w' hS => by go_simp⟩) awd.out ?_
  try simp only [Act.put, List.setIfInBounds_toArray, List.set_cons_zero, List.set_cons_succ]
  refine wpAnyH_take (i := 3) (oi := ⟨some 29, _, _, _, _, _⟩) (v := .string d.sub) rfl (by kernel_rfl) (by kernel_rfl) (by kernel_rfl) (fun _ _ _ h => h) (Or.inl ⟨by rfl, fun w' hS => by (have u0_ := hS.1 4 _ rfl; go_simp)⟩) awd.out ?_
  try simp only [Act.put, List.setIfInBounds_toArray, List.set_cons_zero, List.set_cons_succ]
  refine wpAnyH_take (i := 5) (oi := ⟨some 31, _, _, _, _, _⟩) (v := .pointer (some ⟨w2.heap.size, 5, none⟩)) rfl (by kernel_rfl) (by kernel_rfl) (by kernel_rfl) (fun _ _ _ h => h) (Or.inl ⟨by rfl, fun w' hS => by go_simp⟩) awd.out ?_
  try simp only [Act.put, List.setIfInBounds_toArray, List.set_cons_zero, List.set_cons_succ]
  refine wpAnyH_take (i := 6) (oi := ⟨some 32, _, _, _, _, _⟩) (v := .string d.drv) rfl (by kernel_rfl) (by kernel_rfl) (by kernel_rfl) (fun _ _ _ h => h) (Or.inl ⟨by rfl, fun w' hS => by (have u0_ := hS.1 5 _ rfl; go_simp)⟩) awd.out ?_
  try simp only [Act.put, List.setIfInBounds_toArray, List.set_cons_zero, List.set_cons_succ]
  refine wpAnyH_take (i := 8) (oi := ⟨some 34, _, _, _, _, _⟩) (v := .pointer (some ⟨w2.heap.size, 6, none⟩)) rfl (by kernel_rfl) (by kernel_rfl) (by kernel_rfl) (fun _ _ _ h => h) (Or.inl ⟨by rfl, fun w' hS => by go_simp⟩) awd.out ?_
  try simp only [Act.put, List.setIfInBounds_toArray, List.set_cons_zero, List.set_cons_succ]
  refine wpAnyH_take (i := 9) (oi := ⟨some 35, _, _, _, _, _⟩) (v := .string d.ali) rfl (by kernel_rfl) (by kernel_rfl) (by kernel_rfl) (fun _ _ _ h => h) (Or.inl ⟨by rfl, fun w' hS => by (have u0_ := hS.1 6 _ rfl; go_simp)⟩) awd.out ?_
  try simp only [Act.put, List.setIfInBounds_toArray, List.set_cons_zero, List.set_cons_succ]
  refine wpAnyH_ready (rs := [1]) (by kernel_rfl) (by simp) ?_
  refine AllReadyH.cons (o := ⟨some 27, .call ⟨_, _, _⟩, _, _, _, _⟩) rfl (fun K hK => ?_) AllReadyH.nil
  go_simp
  go_at_call 46
  refine (Put_any none 0 [] kDevpath so _ wd.heap.size (Nat.le_refl _) Sl.nil_ (put_srt putAll_nil) (put_len putAll_nil (by simp)) (by decide) HSZ.out).mono ?_
  rintro e' q1 ⟨hb_, A1_, c1_, rfl, hs_⟩
  have HBq1 := Lib.hid (HBwd.out.trans (hb_.mono HBwd.out.size))
  have tq1 := Lib.hid (twd.out.kept (grown_none hb_) (fun e => by cases e))
  have aq1 := Lib.hid (awd.out.kept (grown_none hb_) (fun e => by cases e))
  obtain ⟨l1, hl_⟩ : ∃ z, putA [] kDevpath so = z := ⟨_, rfl⟩
  rw [hl_] at hs_ ⊢
  have HL1 := Lib.hid (show putAll [(kDevpath, so)] = l1 from (put_next (ps := []) putAll_nil (by simp)).trans hl_); have HS1 := Lib.hid hs_; clear hs_ hl_
  clear hb_
  refine hK.out _ _ aq1.out (fun _ => ?_)
  clear hK K
  try simp only [Act.put, List.setIfInBounds_toArray, List.set_cons_zero, List.set_cons_succ]
  refine wpAnyH_ready (rs := [4]) (by kernel_rfl) (by simp) ?_
  refine AllReadyH.cons (o := ⟨some 30, .call ⟨_, _, _⟩, _, _, _, _⟩) rfl (fun K hK => ?_) AllReadyH.nil
  go_simp
  go_at_call 46
  refine (Put_any A1_ c1_ l1 kSubsystem d.sub _ q1.heap.size (Nat.le_refl _) HS1.out (put_srt HL1.out) (put_len HL1.out (by simp)) (by decide) HOd.out.2.2.2.2.1).mono ?_
  rintro e' q2 ⟨hb_, A2_, c2_, rfl, hs_⟩
  have HBq2 := Lib.hid (HBq1.out.trans (hb_.mono HBq1.out.size))
  have tq2 := Lib.hid (tq1.out.kept (grown_none hb_) (fun e => by cases e))
  have aq2 := Lib.hid (aq1.out.kept (grown_none hb_) (fun e => by cases e))
  have HS1q2 := Lib.hid ((HS1.out).next (Nat.le_refl _) hb_)
  obtain ⟨l2, hl_⟩ : ∃ z, putA l1 kSubsystem d.sub = z := ⟨_, rfl⟩
  rw [hl_] at hs_ ⊢
  have HL2 := Lib.hid (show putAll [(kDevpath, so), (kSubsystem, d.sub)] = l2 from (put_next (ps := [(kDevpath, so)]) HL1.out (by simp; decide +kernel)).trans hl_); have HS2 := Lib.hid hs_; clear hs_ hl_
  clear hb_
  refine hK.out _ _ aq2.out (fun _ => ?_)
  clear hK K
  try simp only [Act.put, List.setIfInBounds_toArray, List.set_cons_zero, List.set_cons_succ]
  refine wpAnyH_ready (rs := [7]) (by kernel_rfl) (by simp) ?_
  refine AllReadyH.cons (o := ⟨some 33, .call ⟨_, _, _⟩, _, _, _, _⟩) rfl (fun K hK => ?_) AllReadyH.nil
  go_simp
  go_at_call 46
  refine (Put_any A2_ c2_ l2 kDriver d.drv _ q2.heap.size (Nat.le_refl _) HS2.out (put_srt HL2.out) (put_len HL2.out (by simp)) (by decide) HOd.out.2.2.2.2.2.1).mono ?_
  rintro e' q3 ⟨hb_, A3_, c3_, rfl, hs_⟩
  have HBq3 := Lib.hid (HBq2.out.trans (hb_.mono HBq2.out.size))
  have tq3 := Lib.hid (tq2.out.kept (grown_none hb_) (fun e => by cases e))
  have aq3 := Lib.hid (aq2.out.kept (grown_none hb_) (fun e => by cases e))
  have HS1q3 := Lib.hid ((HS1q2.out).next (Nat.le_refl _) hb_)
  have HS2q3 := Lib.hid ((HS2.out).next (Nat.le_refl _) hb_)
  obtain ⟨l3, hl_⟩ : ∃ z, putA l2 kDriver d.drv = z := ⟨_, rfl⟩
  rw [hl_] at hs_ ⊢
  have HL3 := Lib.hid (show putAll [(kDevpath, so), (kSubsystem, d.sub), (kDriver, d.drv)] = l3 from (put_next (ps := [(kDevpath, so), (kSubsystem, d.sub)]) HL2.out (by simp; decide +kernel)).trans hl_); have HS3 := Lib.hid hs_; clear hs_ hl_
  clear hb_
  refine hK.out _ _ aq3.out (fun _ => ?_)
  clear hK K
  try simp only [Act.put, List.setIfInBounds_toArray, List.set_cons_zero, List.set_cons_succ]
  refine wpAnyH_ready (rs := [10]) (by kernel_rfl) (by simp) ?_
  refine AllReadyH.cons (o := ⟨some 36, .call ⟨_, _, _⟩, _, _, _, _⟩) rfl (fun K hK => ?_) AllReadyH.nil
  go_simp
  go_at_call 46
  refine (Put_any A3_ c3_ l3 kModalias d.ali _ q3.heap.size (Nat.le_refl _) HS3.out (put_srt HL3.out) (put_len HL3.out (by simp)) (by decide) HOd.out.2.2.2.2.2.2.1).mono ?_
  rintro e' q4 ⟨hb_, A4_, c4_, rfl, hs_⟩
  have HBq4 := Lib.hid (HBq3.out.trans (hb_.mono HBq3.out.size))
  have tq4 := Lib.hid (tq3.out.kept (grown_none hb_) (fun e => by cases e))
  have aq4 := Lib.hid (aq3.out.kept (grown_none hb_) (fun e => by cases e))
  have HS1q4 := Lib.hid ((HS1q3.out).next (Nat.le_refl _) hb_)
  have HS2q4 := Lib.hid ((HS2q3.out).next (Nat.le_refl _) hb_)
  have HS3q4 := Lib.hid ((HS3.out).next (Nat.le_refl _) hb_)
  obtain ⟨l4, hl_⟩ : ∃ z, putA l3 kModalias d.ali = z := ⟨_, rfl⟩
  rw [hl_] at hs_ ⊢
  have HL4 := Lib.hid (show putAll [(kDevpath, so), (kSubsystem, d.sub), (kDriver, d.drv), (kModalias, d.ali)] = l4 from (put_next (ps := [(kDevpath, so), (kSubsystem, d.sub), (kDriver, d.drv)]) HL3.out (by simp; decide +kernel)).trans hl_); have HS4 := Lib.hid hs_; clear hs_ hl_
  clear hb_
  refine hK.out _ _ aq4.out (fun _ => ?_)
  clear hK K
  try simp only [Act.put, List.setIfInBounds_toArray, List.set_cons_zero, List.set_cons_succ]
  refine wpAnyH_take (i := 11) (oi := ⟨some 9, _, _, _, _, _⟩) (v := .slice A4_ l4.length c4_) rfl (by kernel_rfl) (by kernel_rfl) (by kernel_rfl) (fun _ _ _ h => h) (Or.inl ⟨by rfl, fun w' hS => by go_simp⟩) aq4.out ?_
  try simp only [Act.put, List.setIfInBounds_toArray, List.set_cons_zero, List.set_cons_succ]
  refine wpAnyH_done (by kernel_rfl) ?_ _
  have ct0 := tq4.out.1 0 _ rfl
  have ca0 := aq4.out.1 0 _ rfl
  have ca1 := aq4.out.1 1 _ rfl
  have ca2 := aq4.out.1 2 _ rfl
  have ca3 := aq4.out.1 3 _ rfl
  have ca4 := aq4.out.1 4 _ rfl
  have ca5 := aq4.out.1 5 _ rfl
  have ca6 := aq4.out.1 6 _ rfl
  have ca7 := aq4.out.1 7 _ rfl
  have ca8 := aq4.out.1 8 _ rfl
  have ca9 := aq4.out.1 9 _ rfl
  go_wp2_with fail
  refine (Node_any d A3 c3 _ (by have := HSR.out; omega) (HKO.out.next HBq4.out)).mono ?_
  rintro e w5 ⟨rfl, hbw5⟩
  clear ct0 ca0 ca1 ca2 ca3 ca4 ca5 ca6 ca7 ca8 ca9
  have HBw5 := Lib.hid (HBq4.out.trans (hbw5.mono HBq4.out.size))
  have tw5 := Lib.hid (tq4.out.kept (grown_none hbw5) (fun e => by cases e))
  have aw5 := Lib.hid (aq4.out.kept (grown_none hbw5) (fun e => by cases e))
  have HS1w5 := Lib.hid ((HS1q4.out).next (Nat.le_refl _) hbw5)
  have HS2w5 := Lib.hid ((HS2q4.out).next (Nat.le_refl _) hbw5)
  have HS3w5 := Lib.hid ((HS3q4.out).next (Nat.le_refl _) hbw5)
  have HS4w5 := Lib.hid ((HS4.out).next (Nat.le_refl _) hbw5)
  clear hbw5
  have ct0 := tw5.out.1 0 _ rfl
  have ca0 := aw5.out.1 0 _ rfl
  have ca1 := aw5.out.1 1 _ rfl
  have ca2 := aw5.out.1 2 _ rfl
  have ca3 := aw5.out.1 3 _ rfl
  have ca4 := aw5.out.1 4 _ rfl
  have ca5 := aw5.out.1 5 _ rfl
  have ca6 := aw5.out.1 6 _ rfl
  have ca7 := aw5.out.1 7 _ rfl
  have ca8 := aw5.out.1 8 _ rfl
  have ca9 := aw5.out.1 9 _ rfl
  rw [HND.out]
  cases nd
  ·
   clear ct0 ca0 ca1 ca2 ca3 ca4 ca5 ca6 ca7 ca8 ca9
   have ct0 := tw5.out.1 0 _ rfl
   have ca0 := aw5.out.1 0 _ rfl
   have ca1 := aw5.out.1 1 _ rfl
   have ca2 := aw5.out.1 2 _ rfl
   have ca3 := aw5.out.1 3 _ rfl
   have ca4 := aw5.out.1 4 _ rfl
   have ca5 := aw5.out.1 5 _ rfl
   have ca6 := aw5.out.1 6 _ rfl
   have ca7 := aw5.out.1 7 _ rfl
   have ca8 := aw5.out.1 8 _ rfl
   have ca9 := aw5.out.1 9 _ rfl
   by_cases hk : d.kind = 4
   ·
    have HK := Lib.hid hk
    have hkb : (d.kind == 4) = true := by rw [hk]; rfl
    go_wp2_with fail
    refine (Put_any A4_ c4_ l4 kInterface d.orig _ w5.heap.size (Nat.le_refl _) HS4w5.out (put_srt HL4.out) (put_len HL4.out (by simp)) (by decide) HOd.out.2.2.2.1).mono ?_
    rintro e w6 ⟨hbw6, A5_, c5_, rfl, hs_⟩
    clear ct0 ca0 ca1 ca2 ca3 ca4 ca5 ca6 ca7 ca8 ca9
    have HBw6 := Lib.hid (HBw5.out.trans (hbw6.mono HBw5.out.size))
    have tw6 := Lib.hid (tw5.out.kept (grown_none hbw6) (fun e => by cases e))
    have aw6 := Lib.hid (aw5.out.kept (grown_none hbw6) (fun e => by cases e))
    have HS1w6 := Lib.hid ((HS1w5.out).next (Nat.le_refl _) hbw6)
    have HS2w6 := Lib.hid ((HS2w5.out).next (Nat.le_refl _) hbw6)
    have HS3w6 := Lib.hid ((HS3w5.out).next (Nat.le_refl _) hbw6)
    have HS4w6 := Lib.hid ((HS4w5.out).next (Nat.le_refl _) hbw6)
    clear hbw6
    have ct0 := tw6.out.1 0 _ rfl
    have ca0 := aw6.out.1 0 _ rfl
    have ca1 := aw6.out.1 1 _ rfl
    have ca2 := aw6.out.1 2 _ rfl
    have ca3 := aw6.out.1 3 _ rfl
    have ca4 := aw6.out.1 4 _ rfl
    have ca5 := aw6.out.1 5 _ rfl
    have ca6 := aw6.out.1 6 _ rfl
    have ca7 := aw6.out.1 7 _ rfl
    have ca8 := aw6.out.1 8 _ rfl
    have ca9 := aw6.out.1 9 _ rfl
    obtain ⟨l5, hl_⟩ : ∃ z, putA l4 kInterface d.orig = z := ⟨_, rfl⟩
    rw [hl_] at hs_ ⊢
    have HL5 := Lib.hid (show putAll [(kDevpath, so), (kSubsystem, d.sub), (kDriver, d.drv), (kModalias, d.ali), (kInterface, d.orig)] = l5 from (put_next (ps := [(kDevpath, so), (kSubsystem, d.sub), (kDriver, d.drv), (kModalias, d.ali)]) HL4.out (by simp; decide +kernel)).trans hl_); have HS5 := Lib.hid hs_; clear hs_ hl_
    have HE := Lib.hid (show baseL L n = l5 from by rw [HBE.out, ← HL5.out]; unfold baseP; rw [if_neg (by rw [HND.out]; decide), if_pos HK.out]; rfl)
    go_wp2
    go_ret
    exact ⟨HBw6.out, A5_, c5_, by rw [HE.out]; rfl, by rw [HE.out]; exact HS5.out⟩
   ·
    have HK := Lib.hid hk
    have hkb : (d.kind == 4) = false := by simpa using hk
    have HE := Lib.hid (show baseL L n = l4 from by rw [HBE.out, ← HL4.out]; unfold baseP; rw [if_neg (by rw [HND.out]; decide), if_neg HK.out]; rfl)
    go_wp2
    go_ret
    exact ⟨HBw5.out, A4_, c4_, by rw [HE.out]; rfl, by rw [HE.out]; exact HS4w5.out⟩
  ·
   go_upto_region 8 with fail
   refine wp_region_held_drew (S := fun w' => BoxL w' (w2.heap.size) [.int .i64 d.idx, .int .i64 d.par, .string d.nm, .string d.orig, .string d.sub, .string d.drv, .string d.ali, .int .i64 d.kind, .int .i64 d.num, .slice A3 d.attrs.length c3]) (by kernel_rfl) aw5.out.drew (fun hS0 => ?_)
   obtain ⟨we, hwe⟩ : ∃ z, World.drew w5 = z := ⟨_, rfl⟩
   rw [hwe] at hS0 ⊢
   have hb_ : Below w5.heap.size w5 we := by rw [← hwe]; exact below_drewN_self _ _ 1
   clear hwe hS0
   clear ct0 ca0 ca1 ca2 ca3 ca4 ca5 ca6 ca7 ca8 ca9
   have HBwe := Lib.hid (HBw5.out.trans (hb_.mono HBw5.out.size))
   have twe := Lib.hid (tw5.out.kept (grown_none hb_) (fun e => by cases e))
   have awe := Lib.hid (aw5.out.kept (grown_none hb_) (fun e => by cases e))
   have HS1we := Lib.hid ((HS1w5.out).next (Nat.le_refl _) hb_)
   have HS2we := Lib.hid ((HS2w5.out).next (Nat.le_refl _) hb_)
   have HS3we := Lib.hid ((HS3w5.out).next (Nat.le_refl _) hb_)
   have HS4we := Lib.hid ((HS4w5.out).next (Nat.le_refl _) hb_)
   clear hb_
   refine wpAnyH_take (i := 0) (oi := ⟨some 43, _, _, _, _, _⟩) (v := .slice A4_ l4.length c4_) rfl (by kernel_rfl) (by kernel_rfl) (by kernel_rfl) (fun _ _ _ h => h) (Or.inl ⟨by rfl, fun w' hS => by go_simp⟩) awe.out ?_
   try simp only [Act.put, List.setIfInBounds_toArray, List.set_cons_zero, List.set_cons_succ]
   refine wpAnyH_take (i := 1) (oi := ⟨some 44, _, _, _, _, _⟩) (v := .string (nodeV d)) rfl (by kernel_rfl) (by kernel_rfl) (by kernel_rfl) (fun _ _ _ h => h) (Or.inl ⟨by rfl, fun w' hS => by go_simp⟩) awe.out ?_
   try simp only [Act.put, List.setIfInBounds_toArray, List.set_cons_zero, List.set_cons_succ]
   refine wpAnyH_take (i := 3) (oi := ⟨some 46, _, _, _, _, _⟩) (v := .pointer (some ⟨w2.heap.size, 8, none⟩)) rfl (by kernel_rfl) (by kernel_rfl) (by kernel_rfl) (fun _ _ _ h => h) (Or.inl ⟨by rfl, fun w' hS => by go_simp⟩) awe.out ?_
   try simp only [Act.put, List.setIfInBounds_toArray, List.set_cons_zero, List.set_cons_succ]
   refine wpAnyH_take (i := 4) (oi := ⟨some 47, _, _, _, _, _⟩) (v := .int .i64 d.num) rfl (by kernel_rfl) (by kernel_rfl) (by kernel_rfl) (fun _ _ _ h => h) (Or.inl ⟨by rfl, fun w' hS => by (have u0_ := hS.1 8 _ rfl; go_simp)⟩) awe.out ?_
   try simp only [Act.put, List.setIfInBounds_toArray, List.set_cons_zero, List.set_cons_succ]
   refine wpAnyH_ready (rs := [2]) (by kernel_rfl) (by simp) ?_
   refine AllReadyH.cons (o := ⟨some 45, .call ⟨_, _, _⟩, _, _, _, _⟩) rfl (fun K hK => ?_) (AllReadyH.nil)
   go_simp
   go_at_call 46
   refine (Put_any A4_ c4_ l4 kDevname (nodeV d) _ we.heap.size (Nat.le_refl _) HS4we.out (put_srt HL4.out) (put_len HL4.out (by simp)) (by decide) (by have := node_small HSR.out; unfold maxLen; omega)).mono ?_
   rintro e' q7 ⟨hb_, A5_, c5_, rfl, hs_⟩
   have HBq7 := Lib.hid (HBwe.out.trans (hb_.mono HBwe.out.size))
   have tq7 := Lib.hid (twe.out.kept (grown_none hb_) (fun e => by cases e))
   have aq7 := Lib.hid (awe.out.kept (grown_none hb_) (fun e => by cases e))
   have HS1q7 := Lib.hid ((HS1we.out).next (Nat.le_refl _) hb_)
   have HS2q7 := Lib.hid ((HS2we.out).next (Nat.le_refl _) hb_)
   have HS3q7 := Lib.hid ((HS3we.out).next (Nat.le_refl _) hb_)
   have HS4q7 := Lib.hid ((HS4we.out).next (Nat.le_refl _) hb_)
   obtain ⟨l5, hl_⟩ : ∃ z, putA l4 kDevname (nodeV d) = z := ⟨_, rfl⟩
   rw [hl_] at hs_ ⊢
   have HL5 := Lib.hid (show putAll [(kDevpath, so), (kSubsystem, d.sub), (kDriver, d.drv), (kModalias, d.ali), (kDevname, (nodeV d))] = l5 from (put_next (ps := [(kDevpath, so), (kSubsystem, d.sub), (kDriver, d.drv), (kModalias, d.ali)]) HL4.out (by simp; decide +kernel)).trans hl_); have HS5 := Lib.hid hs_; clear hs_ hl_
   clear hb_
   refine hK.out _ _ aq7.out (fun _ => ?_)
   clear hK K
   try simp only [Act.put, List.setIfInBounds_toArray, List.set_cons_zero, List.set_cons_succ]
   refine wpAnyH_ready (rs := [5]) (by kernel_rfl) (by simp) ?_
   refine AllReadyH.cons (o := ⟨some 48, .call ⟨_, _, _⟩, _, _, _, _⟩) rfl (fun K hK => ?_) (AllReadyH.nil)
   go_simp
   go_at_call 48
   refine (Itoa_any d.num _ (HOK.out.below HBq7.out) HOd.out.2.2.2.2.2.2.2.2).mono ?_
   rintro e' q8 ⟨rfl, hb_⟩
   have HBq8 := Lib.hid (HBq7.out.trans (hb_.mono HBq7.out.size))
   have tq8 := Lib.hid (tq7.out.kept (grown_none hb_) (fun e => by cases e))
   have aq8 := Lib.hid (aq7.out.kept (grown_none hb_) (fun e => by cases e))
   have HS1q8 := Lib.hid ((HS1q7.out).next (Nat.le_refl _) hb_)
   have HS2q8 := Lib.hid ((HS2q7.out).next (Nat.le_refl _) hb_)
   have HS3q8 := Lib.hid ((HS3q7.out).next (Nat.le_refl _) hb_)
   have HS4q8 := Lib.hid ((HS4q7.out).next (Nat.le_refl _) hb_)
   have HS5q8 := Lib.hid ((HS5.out).next (Nat.le_refl _) hb_)
   clear hb_
   refine hK.out _ _ aq8.out (fun _ => ?_)
   clear hK K
   try simp only [Act.put, List.setIfInBounds_toArray, List.set_cons_zero, List.set_cons_succ]
   refine wpAnyH_ready (rs := [6]) (by kernel_rfl) (by simp) ?_
   refine AllReadyH.cons (o := ⟨some 49, .call ⟨_, _, _⟩, _, _, _, _⟩) rfl (fun K hK => ?_) (AllReadyH.nil)
   go_simp
   go_at_call 46
   refine (Put_any A5_ c5_ l5 kNumber (itoaT d.num) _ q8.heap.size (Nat.le_refl _) HS5q8.out (put_srt HL5.out) (put_len HL5.out (by simp)) (by decide) (itoaT_small HOd.out.2.2.2.2.2.2.2.2)).mono ?_
   rintro e' q9 ⟨hb_, A6_, c6_, rfl, hs_⟩
   have HBq9 := Lib.hid (HBq8.out.trans (hb_.mono HBq8.out.size))
   have tq9 := Lib.hid (tq8.out.kept (grown_none hb_) (fun e => by cases e))
   have aq9 := Lib.hid (aq8.out.kept (grown_none hb_) (fun e => by cases e))
   have HS1q9 := Lib.hid ((HS1q8.out).next (Nat.le_refl _) hb_)
   have HS2q9 := Lib.hid ((HS2q8.out).next (Nat.le_refl _) hb_)
   have HS3q9 := Lib.hid ((HS3q8.out).next (Nat.le_refl _) hb_)
   have HS4q9 := Lib.hid ((HS4q8.out).next (Nat.le_refl _) hb_)
   have HS5q9 := Lib.hid ((HS5q8.out).next (Nat.le_refl _) hb_)
   obtain ⟨l6, hl_⟩ : ∃ z, putA l5 kNumber (itoaT d.num) = z := ⟨_, rfl⟩
   rw [hl_] at hs_ ⊢
   have HL6 := Lib.hid (show putAll [(kDevpath, so), (kSubsystem, d.sub), (kDriver, d.drv), (kModalias, d.ali), (kDevname, (nodeV d)), (kNumber, (itoaT d.num))] = l6 from (put_next (ps := [(kDevpath, so), (kSubsystem, d.sub), (kDriver, d.drv), (kModalias, d.ali), (kDevname, (nodeV d))]) HL5.out (by simp; decide +kernel)).trans hl_); have HS6 := Lib.hid hs_; clear hs_ hl_
   clear hb_
   refine hK.out _ _ aq9.out (fun _ => ?_)
   clear hK K
   try simp only [Act.put, List.setIfInBounds_toArray, List.set_cons_zero, List.set_cons_succ]
   refine wpAnyH_take (i := 7) (oi := ⟨some 9, _, _, _, _, _⟩) (v := .slice A6_ l6.length c6_) rfl (by kernel_rfl) (by kernel_rfl) (by kernel_rfl) (fun _ _ _ h => h) (Or.inl ⟨by rfl, fun w' hS => by go_simp⟩) aq9.out ?_
   try simp only [Act.put, List.setIfInBounds_toArray, List.set_cons_zero, List.set_cons_succ]
   refine wpAnyH_done (by kernel_rfl) ?_ _
   have ct0 := tq9.out.1 0 _ rfl
   have ca0 := aq9.out.1 0 _ rfl
   have ca1 := aq9.out.1 1 _ rfl
   have ca2 := aq9.out.1 2 _ rfl
   have ca3 := aq9.out.1 3 _ rfl
   have ca4 := aq9.out.1 4 _ rfl
   have ca5 := aq9.out.1 5 _ rfl
   have ca6 := aq9.out.1 6 _ rfl
   have ca7 := aq9.out.1 7 _ rfl
   have ca8 := aq9.out.1 8 _ rfl
   have ca9 := aq9.out.1 9 _ rfl
   by_cases hk : d.kind = 4
   ·
    have HK := Lib.hid hk
    have hkb : (d.kind == 4) = true := by rw [hk]; rfl
    go_wp2_with fail
    refine (Put_any A6_ c6_ l6 kInterface d.orig _ q9.heap.size (Nat.le_refl _) HS6.out (put_srt HL6.out) (put_len HL6.out (by simp)) (by decide) HOd.out.2.2.2.1).mono ?_
    rintro e w10 ⟨hbw10, A7_, c7_, rfl, hs_⟩
    clear ct0 ca0 ca1 ca2 ca3 ca4 ca5 ca6 ca7 ca8 ca9
    have HBw10 := Lib.hid (HBq9.out.trans (hbw10.mono HBq9.out.size))
    have tw10 := Lib.hid (tq9.out.kept (grown_none hbw10) (fun e => by cases e))
    have aw10 := Lib.hid (aq9.out.kept (grown_none hbw10) (fun e => by cases e))
    have HS1w10 := Lib.hid ((HS1q9.out).next (Nat.le_refl _) hbw10)
    have HS2w10 := Lib.hid ((HS2q9.out).next (Nat.le_refl _) hbw10)
    have HS3w10 := Lib.hid ((HS3q9.out).next (Nat.le_refl _) hbw10)
    have HS4w10 := Lib.hid ((HS4q9.out).next (Nat.le_refl _) hbw10)
    have HS5w10 := Lib.hid ((HS5q9.out).next (Nat.le_refl _) hbw10)
    have HS6w10 := Lib.hid ((HS6.out).next (Nat.le_refl _) hbw10)
    clear hbw10
    have ct0 := tw10.out.1 0 _ rfl
    have ca0 := aw10.out.1 0 _ rfl
    have ca1 := aw10.out.1 1 _ rfl
    have ca2 := aw10.out.1 2 _ rfl
    have ca3 := aw10.out.1 3 _ rfl
    have ca4 := aw10.out.1 4 _ rfl
    have ca5 := aw10.out.1 5 _ rfl
    have ca6 := aw10.out.1 6 _ rfl
    have ca7 := aw10.out.1 7 _ rfl
    have ca8 := aw10.out.1 8 _ rfl
    have ca9 := aw10.out.1 9 _ rfl
    obtain ⟨l7, hl_⟩ : ∃ z, putA l6 kInterface d.orig = z := ⟨_, rfl⟩
    rw [hl_] at hs_ ⊢
    have HL7 := Lib.hid (show putAll [(kDevpath, so), (kSubsystem, d.sub), (kDriver, d.drv), (kModalias, d.ali), (kDevname, (nodeV d)), (kNumber, (itoaT d.num)), (kInterface, d.orig)] = l7 from (put_next (ps := [(kDevpath, so), (kSubsystem, d.sub), (kDriver, d.drv), (kModalias, d.ali), (kDevname, (nodeV d)), (kNumber, (itoaT d.num))]) HL6.out (by simp; decide +kernel)).trans hl_); have HS7 := Lib.hid hs_; clear hs_ hl_
    have HE := Lib.hid (show baseL L n = l7 from by rw [HBE.out, ← HL7.out]; unfold baseP; rw [if_pos HND.out, if_pos HK.out]; rfl)
    go_wp2
    go_ret
    exact ⟨HBw10.out, A7_, c7_, by rw [HE.out]; rfl, by rw [HE.out]; exact HS7.out⟩
   ·
    have HK := Lib.hid hk
    have hkb : (d.kind == 4) = false := by simpa using hk
    have HE := Lib.hid (show baseL L n = l6 from by rw [HBE.out, ← HL6.out]; unfold baseP; rw [if_pos HND.out, if_neg HK.out]; rfl)
    go_wp2
    go_ret
    exact ⟨HBq9.out, A6_, c6_, by rw [HE.out]; rfl, by rw [HE.out]; exact HS6.out⟩
end Go.Proofs.YtjgllhlilbchpaaGreatDoor
namespace Go.Cold
open Go Go.RowKit Go.Proofs.YtjgllhlilbchpaaGreatDoor
theorem below_onto {a w w' : World} (h : Below a.heap.size a w) (hb : Below w.heap.size w w') : Below a.heap.size a w' := h.trans (hb.mono h.size)
theorem path_none {L : List Dev} {n : Int} (h : (findD L n).isSome = false) : pathL L n = [] := by
  unfold pathL
  cases hf : findD L n with
  | none => rfl
  | some d => rw [hf] at h; cases h
theorem path_some {L : List Dev} {n : Int} (h : (findD L n).isSome = true) : pathL L n = pathA (cutT (rpT (chainO L n))) := by
  unfold pathL
  cases hf : findD L n with
  | none => rw [hf] at h; cases h
  | some d => rfl
theorem find_is {L : List Dev} {n : Int} {d : Dev} (hq : (findD L n).isSome = true) (hd : d = (findD L n).getD zeroD) : findD L n = some d := by
  cases hf : findD L n with
  | none => rw [hf] at hq; cases hq
  | some e => rw [hf] at hd; rw [show d = e from hd]
theorem chain_head {L : List Dev} {n : Int} {d : Dev} (h : findD L n = some d) : ∃ r, chainO L n = d :: r := by
  unfold chainO
  have : 0 < L.length := List.length_pos_of_mem (find_some h).1
  obtain ⟨k, hk⟩ : ∃ k, L.length = k + 1 := ⟨L.length - 1, by omega⟩
  rw [hk, chainL, h]
  exact ⟨_, rfl⟩
theorem chain_rp {L : List Dev} {n : Int} {d : Dev} (h : findD L n = some d) : rpT (chainO L n) = preT ((chainO L n).drop 1) ++ partT d := by
  obtain ⟨r, hr⟩ := chain_head h
  rw [hr]; rfl
theorem part_size {d : Dev} : (partT d).size = d.sub.size + 1 + d.orig.size := by
  unfold partT
  rw [ByteArray.size_append, ByteArray.size_append]; rfl
theorem own_lit {w w' : World} {T : TypeId} {l : List Attr} {cs : Array Value} (h : w.alloc (.cells cs T) = w') (hc : cs.toList = rowA l) (hn : l.length ≤ maxLen) (hs : ∀ a ∈ l, a.name.size ≤ maxLen ∧ a.value.size ≤ maxLen) : OwnsS (fun _ => False) w' w.heap.size T (.slice (some ⟨w.heap.size, 0, none⟩) l.length l.length) l := by
  have hz : cs.size = l.length * 2 := by rw [← Array.length_toList, hc, rowA_len]
  have h1 := World.ownsRow_lit (base := w.heap.size) (e := T) (size := 2) w cs l.length (Nat.le_refl _) hn hz
  rw [h] at h1
  exact own_attrs (by rw [← hc]; exact h1) hs
theorem pathA_small {s : ByteArray} (h : s.size ≤ 256) : ∀ a ∈ pathA s, a.name.size ≤ maxLen ∧ a.value.size ≤ maxLen := by
  intro a ha
  unfold pathA at ha
  simp only [List.mem_cons, List.not_mem_nil, or_false] at ha
  have ht : (tagT s).size = s.size := by
    unfold tagT
    show (List.map _ _).toArray.size = _
    rw [List.size_toArray, List.length_map, ba_size]
  rcases ha with rfl | rfl
  · exact ⟨by show kIdPath.size ≤ maxLen; decide, by show s.size ≤ maxLen; unfold maxLen; omega⟩
  · exact ⟨by show kIdTag.size ≤ maxLen; decide, by show (tagT s).size ≤ maxLen; rw [ht]; unfold maxLen; omega⟩
theorem pre_pos {r : List Dev} {j : Nat} {y : Dev} (h : r[j]? = some y) (x : ByteArray) : preT (r.drop j) ++ x = preT (r.drop (j + 1)) ++ ((partT y ++ ⟨#[45]⟩) ++ x) := by
  obtain ⟨h1, h2⟩ := List.getElem?_eq_some_iff.1 h
  rw [pre_step h1, h2]
end Go.Cold
namespace Go.Proofs.YtjgllhlilbchpaaGreatDoor
open Go.RowKit Go.Cold
theorem tag1_any (r : Int) (w : World) : Calls Tryz.prog 43 #[.int .i32 r] w fun e w' => e = .returned (.int .i32 (tagR r)) ∧ w' = w := by
  obtain ⟨z, hz⟩ : ∃ z, tagR r = z := ⟨_, rfl⟩
  rw [hz]
  have HZ := Lib.hid hz; clear hz
  go_enter Tryz.func43, Tryz.ntmps43
  by_cases a0 : (65 : Int) ≤ r
  ·
    by_cases b0 : r ≤ 90
    ·
      obtain rfl : z = r := by rw [← HZ.out]; unfold tagR; exact if_pos (by omega)
      clear HZ
      go_wp2
      go_ret
      exact ⟨by try rfl, by try rfl⟩
    ·
      by_cases a1 : (97 : Int) ≤ r
      ·
        by_cases b1 : r ≤ 122
        ·
          obtain rfl : z = r := by rw [← HZ.out]; unfold tagR; exact if_pos (by omega)
          clear HZ
          go_wp2
          go_ret
          exact ⟨by try rfl, by try rfl⟩
        ·
          by_cases a2 : (48 : Int) ≤ r
          ·
            by_cases b2 : r ≤ 57
            ·
              obtain rfl : z = r := by rw [← HZ.out]; unfold tagR; exact if_pos (by omega)
              clear HZ
              go_wp2
              go_ret
              exact ⟨by try rfl, by try rfl⟩
            ·
              obtain rfl : z = 95 := by rw [← HZ.out]; unfold tagR; exact if_neg (by omega)
              clear HZ
              go_wp2
              go_ret
              exact ⟨by try rfl, by try rfl⟩
          ·
            obtain rfl : z = 95 := by rw [← HZ.out]; unfold tagR; exact if_neg (by omega)
            clear HZ
            go_wp2
            go_ret
            exact ⟨by try rfl, by try rfl⟩
      ·
        by_cases a2 : (48 : Int) ≤ r
        ·
          by_cases b2 : r ≤ 57
          ·
            obtain rfl : z = r := by rw [← HZ.out]; unfold tagR; exact if_pos (by omega)
            clear HZ
            go_wp2
            go_ret
            exact ⟨by try rfl, by try rfl⟩
          ·
            obtain rfl : z = 95 := by rw [← HZ.out]; unfold tagR; exact if_neg (by omega)
            clear HZ
            go_wp2
            go_ret
            exact ⟨by try rfl, by try rfl⟩
        ·
          obtain rfl : z = 95 := by rw [← HZ.out]; unfold tagR; exact if_neg (by omega)
          clear HZ
          go_wp2
          go_ret
          exact ⟨by try rfl, by try rfl⟩
  ·
    by_cases a1 : (97 : Int) ≤ r
    ·
      by_cases b1 : r ≤ 122
      ·
        obtain rfl : z = r := by rw [← HZ.out]; unfold tagR; exact if_pos (by omega)
        clear HZ
        go_wp2
        go_ret
        exact ⟨by try rfl, by try rfl⟩
      ·
        by_cases a2 : (48 : Int) ≤ r
        ·
          by_cases b2 : r ≤ 57
          ·
            obtain rfl : z = r := by rw [← HZ.out]; unfold tagR; exact if_pos (by omega)
            clear HZ
            go_wp2
            go_ret
            exact ⟨by try rfl, by try rfl⟩
          ·
            obtain rfl : z = 95 := by rw [← HZ.out]; unfold tagR; exact if_neg (by omega)
            clear HZ
            go_wp2
            go_ret
            exact ⟨by try rfl, by try rfl⟩
        ·
          obtain rfl : z = 95 := by rw [← HZ.out]; unfold tagR; exact if_neg (by omega)
          clear HZ
          go_wp2
          go_ret
          exact ⟨by try rfl, by try rfl⟩
    ·
      by_cases a2 : (48 : Int) ≤ r
      ·
        by_cases b2 : r ≤ 57
        ·
          obtain rfl : z = r := by rw [← HZ.out]; unfold tagR; exact if_pos (by omega)
          clear HZ
          go_wp2
          go_ret
          exact ⟨by try rfl, by try rfl⟩
        ·
          obtain rfl : z = 95 := by rw [← HZ.out]; unfold tagR; exact if_neg (by omega)
          clear HZ
          go_wp2
          go_ret
          exact ⟨by try rfl, by try rfl⟩
      ·
        obtain rfl : z = 95 := by rw [← HZ.out]; unfold tagR; exact if_neg (by omega)
        clear HZ
        go_wp2
        go_ret
        exact ⟨by try rfl, by try rfl⟩
theorem tag1_runes (w : World) : MapAtRunes Tryz.prog 43 #[] tagR w := fun W x _ _ => (tag1_any (x : Int) W).mono (by rintro e w' ⟨rfl, rfl⟩; exact ⟨rfl, 0, rfl⟩)
def OkU (w : World) : Prop := Lib.Utf8Tabs 1 2 w
theorem OkU.below {w w' : World} (h : OkU w) (hb : Below w.heap.size w w') : OkU w' :=
  ⟨fun c hc => (hb.cell (p := ⟨1, c, none⟩) (block_lt_of_cell (h.1 c hc))).trans (h.1 c hc),
   fun i hi => ⟨(hb.cell (p := ⟨2, 2 * i, none⟩) (block_lt_of_cell (h.2 i hi).1)).trans (h.2 i hi).1, (hb.cell (p := ⟨2, 2 * i + 1, none⟩) (block_lt_of_cell (h.2 i hi).2)).trans (h.2 i hi).2⟩⟩
set_option maxRecDepth 100000 in
set_option maxHeartbeats 4000000 in
theorem BPath_any (A : Option Addr) (c : Nat) (L : List Dev) (n : Int) (w : World) (B : Nat) (hB : B ≤ w.heap.size) (hx : Sl w B A c L) (hv : VT L) (hok : Ok7 w) (hn : okI n) (hu : OkU w) :
    Calls Tryz.prog 12 #[.agg #[.slice A L.length c], .int .i64 n] w (SlPost (pathL L n) w) := by
  have hx1 := hx.1; have hx2 := hx.2.1
  unfold maxLen at hx2
  have HX := Lib.hid hx; have HB := Lib.hid hB; have HV := Lib.hid hv; have HOK := Lib.hid hok; clear hx hB hv hok
  have HN := Lib.hid hn; have HU := Lib.hid hu; clear hn hu
  have HLA := Lib.hid (show ∀ d ∈ L, d.attrs.length ≤ 1000000 from fun d hd => attrs_le (HV.out.chk d hd))
  go_enter Tryz.func12, Tryz.ntmps12
  go_upto_region 1 with fail
  obtain ⟨w1, hw1⟩ : ∃ w1, w.alloc (.cells #[.slice A L.length c] 28) = w1 := ⟨_, rfl⟩
  have hbw1 : Below w.heap.size w w1 := by rw [← hw1]; exact (Below.refl _ _).alloc (Nat.le_refl _) _
  have HGw1 := Lib.hid (show w1.heap.size = w.heap.size + 1 by rw [← hw1]; simp)
  have HXtw1 := Lib.hid (show BoxL w1 w.heap.size [.slice A L.length c] from box_mk hw1)
  try simp only [hw1]
  have HBw1 := Lib.hid hbw1
  clear hw1 hbw1
  try rw [show w.heap.size + 1 = w1.heap.size from HGw1.out.symm]
  have ct0 := HXtw1.out.1 0 _ rfl
  obtain ⟨q, hq⟩ : ∃ z, (findD L n).isSome = z := ⟨_, rfl⟩
  have HQ := Lib.hid hq; clear hq
  go_wp2_with fail
  refine (TFind_any A c L n _ B (Nat.le_trans HB.out HBw1.out.size) (HX.out.keep (HBw1.out.mono HB.out)) HLA.out).mono ?_
  rintro e w2 ⟨hbw2, d, A3, c3, hd, rfl, hod, hsd⟩
  clear ct0
  have HBw2 := Lib.hid (HBw1.out.trans (hbw2.mono HBw1.out.size))
  have tw2 := Lib.hid (HXtw1.out.kept (grown_none hbw2) (fun e => by cases e))
  clear hbw2
  have ct0 := tw2.out.1 0 _ rfl
  rw [show (L.find? (byIdx n)).isSome = q from HQ.out]
  have Hd := Lib.hid (show d = (findD L n).getD zeroD from hd); have HOd := Lib.hid hod
  clear hd hod hsd
  go_upto_region 2 with fail
  obtain ⟨w3, hw3⟩ : ∃ w3, w2.alloc (.cells #[.int .i64 d.idx, .int .i64 d.par, .string d.nm, .string d.orig, .string d.sub, .string d.drv, .string d.ali, .int .i64 d.kind, .int .i64 d.num, .slice A3 d.attrs.length c3] 32) = w3 := ⟨_, rfl⟩
  have hbw3 : Below w2.heap.size w2 w3 := by rw [← hw3]; exact (Below.refl _ _).alloc (Nat.le_refl _) _
  have HGw3 := Lib.hid (show w3.heap.size = w2.heap.size + 1 by rw [← hw3]; simp)
  have HXaw3 := Lib.hid (show BoxL w3 w2.heap.size [.int .i64 d.idx, .int .i64 d.par, .string d.nm, .string d.orig, .string d.sub, .string d.drv, .string d.ali, .int .i64 d.kind, .int .i64 d.num, .slice A3 d.attrs.length c3] from box_mk hw3)
  try simp only [hw3]
  have HBw3 := Lib.hid (HBw2.out.trans (hbw3.mono HBw2.out.size))
  have tw3 := Lib.hid (tw2.out.kept (grown_none hbw3) (fun e => by cases e))
  clear hw3 hbw3
  try rw [show w2.heap.size + 1 = w3.heap.size from HGw3.out.symm]
  clear ct0
  have ct0 := tw3.out.1 0 _ rfl
  have ca0 := HXaw3.out.1 0 _ rfl
  have ca1 := HXaw3.out.1 1 _ rfl
  have ca2 := HXaw3.out.1 2 _ rfl
  have ca3 := HXaw3.out.1 3 _ rfl
  have ca4 := HXaw3.out.1 4 _ rfl
  have ca5 := HXaw3.out.1 5 _ rfl
  have ca6 := HXaw3.out.1 6 _ rfl
  have ca7 := HXaw3.out.1 7 _ rfl
  have ca8 := HXaw3.out.1 8 _ rfl
  have ca9 := HXaw3.out.1 9 _ rfl
  cases q
  ·
    have HE := Lib.hid (path_none HQ.out)
    go_wp2
    go_ret
    exact ⟨HBw3.out, none, 0, by rw [HE.out]; rfl, by rw [HE.out]; exact Sl.nil_⟩
  ·
    have HF := Lib.hid (find_is HQ.out Hd.out)
    have HE := Lib.hid (path_some HQ.out)
    have HRP := Lib.hid (chain_rp HF.out)
    have HGD := Lib.hid (rp_print (chain_chk HV.out n) (chain_full HV.out HF.out))
    have HCL := Lib.hid (show (chainO L n).length ≤ 256 from Nat.le_trans (chain_len L _ n) HV.out.size)
    have HPC := Lib.hid (show ∀ y ∈ (chainO L n).drop 1, (partT y).size ≤ 65 from fun y hy => (part_print (chain_chk HV.out n y (List.mem_of_mem_drop hy))).2.2)
    have HPD := Lib.hid (show (partT d).size ≤ 65 from (part_print (HV.out.chk d (find_some HF.out).1)).2.2)
    go_wp2_with fail
    refine (part_any d A3 c3 _ (by have := HPD.out; rw [part_size] at this; omega) (by have := HPD.out; rw [part_size] at this; omega)).mono ?_
    rintro e w4 ⟨rfl, hbw4⟩
    clear ct0 ca0 ca1 ca2 ca3 ca4 ca5 ca6 ca7 ca8 ca9
    have HBw4 := Lib.hid (HBw3.out.trans (hbw4.mono HBw3.out.size))
    have tw4 := Lib.hid (tw3.out.kept (grown_none hbw4) (fun e => by cases e))
    have aw4 := Lib.hid (HXaw3.out.kept (grown_none hbw4) (fun e => by cases e))
    clear hbw4
    have ct0 := tw4.out.1 0 _ rfl
    have ca0 := aw4.out.1 0 _ rfl
    have ca1 := aw4.out.1 1 _ rfl
    have ca2 := aw4.out.1 2 _ rfl
    have ca3 := aw4.out.1 3 _ rfl
    have ca4 := aw4.out.1 4 _ rfl
    have ca5 := aw4.out.1 5 _ rfl
    have ca6 := aw4.out.1 6 _ rfl
    have ca7 := aw4.out.1 7 _ rfl
    have ca8 := aw4.out.1 8 _ rfl
    have ca9 := aw4.out.1 9 _ rfl
    obtain ⟨s0, hs0⟩ : ∃ z, partT d = z := ⟨_, rfl⟩
    rw [hs0]
    have HRP2 := Lib.hid (show rpT (chainO L n) = preT ((chainO L n).drop 1) ++ s0 by rw [← hs0]; exact HRP.out); clear hs0 HRP
    obtain ⟨ch, hch⟩ : ∃ z, (chainO L n).drop 1 = z := ⟨_, rfl⟩
    obtain ⟨full, hfull⟩ : ∃ z, rpT (chainO L n) = z := ⟨_, rfl⟩
    have HRP3 := Lib.hid (show full = preT ch ++ s0 by rw [← hfull, ← hch]; exact HRP2.out)
    have HPC2 := Lib.hid (show ∀ y ∈ ch, (partT y).size ≤ 65 by rw [← hch]; exact HPC.out)
    have HE2 := Lib.hid (show pathL L n = pathA (cutT full) by rw [← hfull]; exact HE.out)
    have HGD2 := Lib.hid (show printB full = true ∧ full.toList.isEmpty = false ∧ full.size ≤ 256 * 66 by have := HGD.out; rw [hfull] at this; exact ⟨this.1, this.2.1, Nat.le_trans this.2.2 (Nat.mul_le_mul_right _ HCL.out)⟩)
    have HCH := Lib.hid hch
    clear hch hfull HRP2 HPC HE HGD HPD HF Hd HOd
    go_wp2_with fail
    refine (Ancestors_any A c L n _ B (Nat.le_trans HB.out HBw4.out.size) (HX.out.keep (HBw4.out.mono HB.out)) HV.out HN.out).mono ?_
    rintro e w20 ⟨hb_, v, rfl, hown_⟩
    rw [HCH.out] at hown_
    obtain ⟨A5, c5, rfl, hs_⟩ := hown_.sl
    have hs1 := hs_.1; have hs2 := hs_.2.1
    unfold maxLen at hs2
    clear ct0 ca0 ca1 ca2 ca3 ca4 ca5 ca6 ca7 ca8 ca9
    have HBw20 := Lib.hid (HBw4.out.trans (hb_.mono HBw4.out.size))
    have tw20 := Lib.hid (tw4.out.kept (grown_none hb_) (fun e => by cases e))
    have aw20 := Lib.hid (aw4.out.kept (grown_none hb_) (fun e => by cases e))
    have HSL := Lib.hid hs_; clear hs_ hown_ hb_
    go_wp2_with fail
    have HI0 := Lib.hid (show full = preT (ch.drop 0) ++ s0 by rw [List.drop_zero]; exact HRP3.out)
    go_loopw [7, 25] (fun v i wr => ∃ (s : ByteArray) (k : Nat), k ≤ ch.length ∧ v = .string s ∧ i = .int .i64 (k : Int) ∧ Hid (Below w20.heap.size w20 wr) ∧ Hid (full = preT (ch.drop k) ++ s)) (fun _ i _ => ch.length - (intOf i).toNat)
    case atStart => exact ⟨_, 0, Nat.zero_le _, rfl, rfl, Below.refl _ _, HI0⟩
    case round =>
      clear HI0
      obtain ⟨s, k, hk, rfl, rfl, HBR, HA⟩ := hrel
      have HBwr := Lib.hid (HBw20.out.trans (HBR.out.mono HBw20.out.size))
      have HSS := Lib.hid (show s.size ≤ 16896 by have h := HGD2.out.2.2; rw [HA.out, ByteArray.size_append] at h; omega)
      by_cases hlt : k < ch.length
      ·
        have i1 : (k : Int) < (ch.length : Int) := by omega
        obtain ⟨b, o, rfl, -, A6, c6, -, -, hcs⟩ := (HSL.out.next (Nat.le_refl _) HBR.out).dev hlt
        have hky : ch[k]? = some ch[k] := List.getElem?_eq_getElem hlt
        have hpy := HPC2.out _ (List.getElem_mem hlt)
        obtain ⟨y, hy⟩ : ∃ y, ch[k]'hlt = y := ⟨_, rfl⟩
        rw [hy] at hcs hky hpy
        obtain ⟨a0, a1, a2, a3, a4, a5, a6, a7, a8, a9⟩ := hcs
        have HLT := Lib.hid hlt; have HKY := Lib.hid hky; have HPY := Lib.hid hpy; clear hy hky hpy
        go_upto_region 8 with fail
        obtain ⟨w5, hw5⟩ : ∃ w5, wr.alloc (.cells #[.int .i64 y.idx, .int .i64 y.par, .string y.nm, .string y.orig, .string y.sub, .string y.drv, .string y.ali, .int .i64 y.kind, .int .i64 y.num, .slice A6 y.attrs.length c6] 32) = w5 := ⟨_, rfl⟩
        have hbw5 : Below wr.heap.size wr w5 := by rw [← hw5]; exact (Below.refl _ _).alloc (Nat.le_refl _) _
        have HGw5 := Lib.hid (show w5.heap.size = wr.heap.size + 1 by rw [← hw5]; simp)
        have HXvw5 := Lib.hid (show BoxL w5 wr.heap.size [.int .i64 y.idx, .int .i64 y.par, .string y.nm, .string y.orig, .string y.sub, .string y.drv, .string y.ali, .int .i64 y.kind, .int .i64 y.num, .slice A6 y.attrs.length c6] from box_mk hw5)
        try simp only [hw5]
        have HBw5 := Lib.hid (HBwr.out.trans (hbw5.mono HBwr.out.size))
        have HBRw5 := Lib.hid (below_onto HBR.out hbw5)
        clear hw5 hbw5
        try rw [show wr.heap.size + 1 = w5.heap.size from HGw5.out.symm]
        clear a0 a1 a2 a3 a4 a5 a6 a7 a8 a9
        have cv0 := HXvw5.out.1 0 _ rfl
        have cv1 := HXvw5.out.1 1 _ rfl
        have cv2 := HXvw5.out.1 2 _ rfl
        have cv3 := HXvw5.out.1 3 _ rfl
        have cv4 := HXvw5.out.1 4 _ rfl
        have cv5 := HXvw5.out.1 5 _ rfl
        have cv6 := HXvw5.out.1 6 _ rfl
        have cv7 := HXvw5.out.1 7 _ rfl
        have cv8 := HXvw5.out.1 8 _ rfl
        have cv9 := HXvw5.out.1 9 _ rfl
        go_wp2_with fail
        refine (part_any y A6 c6 _ (by have := HPY.out; rw [part_size] at this; omega) (by have := HPY.out; rw [part_size] at this; omega)).mono ?_
        rintro e w6 ⟨rfl, hbw6⟩
        clear cv0 cv1 cv2 cv3 cv4 cv5 cv6 cv7 cv8 cv9
        have HBw6 := Lib.hid (HBw5.out.trans (hbw6.mono HBw5.out.size))
        have vw6 := Lib.hid (HXvw5.out.kept (grown_none hbw6) (fun e => by cases e))
        have HBRw6 := Lib.hid (below_onto HBRw5.out hbw6)
        clear hbw6
        have HSTEP := Lib.hid (pre_pos HKY.out s)
        obtain ⟨p, hp⟩ : ∃ z, partT y = z := ⟨_, rfl⟩
        have HPZ := Lib.hid hp
        rw [hp]
        have f0 : p.size ≤ 65 := by rw [← hp]; exact HPY.out
        have f9 := HSS.out
        have f1 : ¬ 9223372036854775807 < p.size + 1 := by omega
        have f2 : ¬ 9223372036854775807 < p.size + 1 + s.size := by omega
        have HNX := Lib.hid (show full = preT (ch.drop (k + 1)) ++ ((p ++ ⟨#[45]⟩) ++ s) by rw [HA.out, HSTEP.out, HPZ.out])
        clear hp f0 f9
        go_wp2
        go_roundw
        case rel => exact ⟨_, k + 1, by have := HLT.out; omega, rfl, by go_num, HBRw6, HNX⟩
        case measure => have := HLT.out; simp [intOf]; omega
      ·
        have i1 : ¬ (k : Int) < (ch.length : Int) := by omega
        have hfs : full = s := by rw [HA.out, show k = ch.length by omega, List.drop_length, preT, app_empty]
        have HFS := Lib.hid hfs; clear hfs
        have hmin : min (s.size : Int) 256 = ((min s.size 256 : Nat) : Int) := by omega
        go_upto_region 11 with fail
        obtain ⟨t, ht⟩ : ∃ z, s.extract 0 (min s.size 256) = z := ⟨_, rfl⟩
        try rw [ht]
        have HT := Lib.hid (show cutT full = t by rw [HFS.out]; exact ht)
        have HTX := Lib.hid (show textB t = true by rw [← HT.out]; exact (cut_text HGD2.out.1 HGD2.out.2.1).1)
        have HTS := Lib.hid (show t.size ≤ 256 by rw [← HT.out, cut_size]; omega)
        clear ht hmin
        go_wp2_with fail
        refine (Tryz.strings_Map_runes 43 #[] (enters_of Tryz.func43 (by kernel_rfl) rfl) tagR t _ (by have := HTS.out; omega) (tag1_runes _) tagR_range (HU.out.below HBwr.out)).mono ?_
        rintro e w7 ⟨rfl, hbw7⟩
        have HBw7 := Lib.hid (HBwr.out.trans (hbw7.mono HBwr.out.size))
        have HBRw7 := Lib.hid (below_onto HBR.out hbw7)
        clear hbw7
        rw [map_tag HTX.out]
        obtain ⟨wz, hwz⟩ : ∃ z, w7.alloc (.cells #[.string kIdPath, .string t, .string kIdTag, .string (tagT t)] 42) = z := ⟨_, rfl⟩
        have HOWN := Lib.hid (own_lit (l := pathA t) hwz rfl (by show 2 ≤ maxLen; decide) (pathA_small HTS.out))
        have HBZ := Lib.hid (show Below w7.heap.size w7 wz by rw [← hwz]; exact (Below.refl _ _).alloc (Nat.le_refl _) _)
        have HE3 := Lib.hid (show pathL L n = pathA t by rw [HE2.out, HT.out])
        go_wp2
        simp only [show (⟨#[73, 68, 95, 80, 65, 84, 72]⟩ : ByteArray) = kIdPath from rfl, show (⟨#[73, 68, 95, 80, 65, 84, 72, 95, 84, 65, 71]⟩ : ByteArray) = kIdTag from rfl, hwz]
        go_ret
        rw [HE3.out]
        exact SlPost.of_own (HBw7.out.trans (HBZ.out.mono HBw7.out.size)) rfl (HOWN.out.low HBw7.out.size)
end Go.Proofs.YtjgllhlilbchpaaGreatDoor
namespace Go.Cold
open Go Go.RowKit Go.Proofs.YtjgllhlilbchpaaGreatDoor
end Go.Cold
namespace Go.Proofs.YtjgllhlilbchpaaGreatDoor
open Go.RowKit Go.Cold
end Go.Proofs.YtjgllhlilbchpaaGreatDoor
