/-
  The walk of the reference's Set.
-/
import Derived.Test.YtjpoljlgkgmdkaaGreatDoorYE
import Derived.Test.YtjpoljlgkgmdkaaGreatDoorYC
import Derived.Deep.RegionHeld3
import Derived.Deep.DeepCutAuto
import Derived.StillTailTactics
set_option linter.unusedSimpArgs false
set_option linter.unusedVariables false
namespace Go.Proofs.YtjpoljlgkgmdkaaGreatDoor
open Go.RowKit Go.Cold
theorem info_attr : (Tryz.prog.info? 53).map (fun i => (i.zero, i.size, i.bytes)) = some (some (.agg #[.string ByteArray.empty, .string ByteArray.empty]), 2, 32) := by kernel_rfl
theorem E_attr : ElemT Tryz.prog (Rep.size Attr) 53 26 32 := ⟨Tryz.underlying26, by obtain ⟨i, hi, hz, h1, h2⟩ := info_parts info_attr; exact ⟨i, _, hi, hz, h1, h2, rfl⟩⟩
theorem E_dev : ElemT Tryz.prog (Rep.size Dev) 84 45 136 := ⟨Tryz.underlying45, by obtain ⟨i, hi, hz, h1, h2⟩ := info_parts info_dev; exact ⟨i, _, hi, hz, h1, h2, rfl⟩⟩
def SetRel (w0 : World) (T : TypeId) (xs : List Attr) (n x : ByteArray) (v : Value) (done : Bool) (k : Nat) (wr : World) : Prop :=
 ∃ acc : List Attr, OwnsS (fun _ => False) wr w0.heap.size T v acc ∧ Below w0.heap.size w0 wr ∧ acc ++ setGo n x done (xs.drop k) = setA xs n x ∧ k ≤ xs.length
theorem setgo_step {xs : List Attr} {n x : ByteArray} {done : Bool} {k : Nat} {acc : List Attr} {y : Attr} (hlt : k < xs.length) (hy : xs[k] = y) (h : acc ++ setGo n x done (xs.drop k) = setA xs n x) :
  (acc ++ ((if !done && geA y.name n then [⟨n, x⟩] else []) ++ if y.name = n then [] else [y])) ++ setGo n x (done || geA y.name n) (xs.drop (k + 1)) = setA xs n x := by
 rw [List.drop_eq_getElem_cons hlt, hy, setGo] at h
 rw [← h]; simp only [List.append_assoc]
theorem setgo_len {xs : List Attr} {n x : ByteArray} {acc l : List Attr} (h : acc ++ l = setA xs n x) : acc.length ≤ xs.length + 1 := by
 have h1 := setA_len xs n x
 rw [← h, List.length_append] at h1; omega
set_option maxRecDepth 100000 in
set_option maxHeartbeats 2000000 in
theorem Set_any (A : Option Addr) (c : Nat) (xs : List Attr) (n x : ByteArray) (w : World) (B : Nat) (hB : B ≤ w.heap.size) (hx : Sl w B A c xs) (hl : xs.length ≤ 1000) (h1 : n.size ≤ maxLen) (h2 : x.size ≤ maxLen) :
  Calls Tryz.prog 49 #[.slice A xs.length c, .string n, .string x] w fun e w' => Below w.heap.size w w' ∧ ∃ v, e = .returned v ∧ OwnsS (fun _ => False) w' w.heap.size 53 v (setA xs n x) := by
 have hc := hx.1; have hc2 := hx.2.1
 unfold maxLen at hc2
 have HX := Lib.hid hx; have HB := Lib.hid hB; have HL := Lib.hid hl; have HN := Lib.hid h1; have HXS := Lib.hid h2; clear hx hB hl h1 h2
 go_enter Tryz.func49, Tryz.ntmps49
 cases he : x.toList.isEmpty with
 | true =>
  have heb : x.toList = [] := List.isEmpty_iff.1 he
  have HE := Lib.hid he
  go_wp2_with fail
  clear heb he
  go_loopw [7, 8, 9] (fun v u i wr => ∃ (done : Bool) (k : Nat), u = .bool done ∧ i = .int .i64 k ∧ Hid (SetRel w 53 xs n x v done k wr)) (fun _ _ i _ => xs.length - (intOf i).toNat)
  case atStart => exact ⟨true, 0, rfl, rfl, ⟨[], OwnsS.nil_ _ _ _ _, Below.refl _ _, by rw [setA, HE.out]; rfl, Nat.zero_le _⟩⟩
  case round =>
   obtain ⟨done, k, rfl, rfl, hq⟩ := hrel
   obtain ⟨acc, hown, hbr, hsp, hk⟩ := hq.out
   clear hq
   by_cases hlt : k < xs.length
   ·
    have i1 : (k : Int) < (xs.length : Int) := by omega
    have HXR := Lib.hid (HX.out.keep (hbr.mono HB.out))
    obtain ⟨b3, o3, rfl, hbk, hsz, cx0, cx1⟩ := HXR.out.attr hlt
    obtain ⟨y, hy⟩ : ∃ y, xs[k]'hlt = y := ⟨_, rfl⟩
    rw [hy] at hsz cx0 cx1
    have HY := Lib.hid hy; have HSZ := Lib.hid hsz; have HLT := Lib.hid hlt; have HBK := Lib.hid hbk; have HCX0 := Lib.hid cx0; have HCX1 := Lib.hid cx1; clear hy hsz hbk
    have HOWN := Lib.hid hown; have HBR := Lib.hid hbr; have HSP := Lib.hid hsp
    clear hown hbr hsp
    cases done with
    | true =>
     by_cases hne : y.name = n
     ·
      have ene : (y.name.toList == n.toList) = true := by rw [ba_beq]; exact decide_eq_true hne
      have HNE := Lib.hid hne; clear hne
      go_wp2
      go_roundw
      case rel => exact ⟨true, k + 1, rfl, by go_num, ⟨_, HOWN.out, HBR.out, by have h := setgo_step HLT.out HY.out HSP.out; simpa [HNE.out] using h, HLT.out⟩⟩
      case measure => simp [intOf]; have := HLT.out; omega
     ·
      have ene : (y.name.toList == n.toList) = false := by rw [ba_beq]; exact decide_eq_false hne
      have HNE := Lib.hid hne; clear hne
      obtain ⟨w1, hw1⟩ : ∃ w1, wr.alloc (.cells #[.string y.name, .string y.value] 53) = w1 := ⟨_, rfl⟩
      have hbw1 : Below wr.heap.size wr w1 := by rw [← hw1]; exact (Below.refl _ _).alloc (Nat.le_refl _) _
      have HOw1 := Lib.hid (HOWN.out.below hbw1); have HCw1 := Lib.hid (lit_cells hw1 (l := [.string y.name, .string y.value]) rfl); have HBw1 := Lib.hid (HBR.out.trans (hbw1.mono HBR.out.size)); clear hbw1
      go_wp2_with (at_builtin; go_must (refine wpList_app1 E_attr rfl _ _ rfl (u7) _ rfl HOw1.out wr.heap.size rfl y [.string y.name, .string y.value] HCw1.out ⟨rfl, HSZ.out⟩ (by have := setgo_len HSP.out; have := HL.out; unfold maxLen; omega) (by have := setgo_len HSP.out; have := HL.out; omega) HBw1.out.size ?_); intro v3 w2 hown_ hgrow_ hnew_; have HOWNw2 := Lib.hid hown_; have HGROWw2 := Lib.hid hgrow_; have HNEWw2 := Lib.hid hnew_; clear hown_ hgrow_ hnew_)
      have HBw2 := Lib.hid (below_own HBw1.out HGROWw2.out HBw1.out.size (fun k hk => (HOw1.out.lt k hk).1))
      go_roundw
      case rel => exact ⟨true, k + 1, rfl, by go_num, ⟨_, HOWNw2.out, HBw2.out, by have h := setgo_step HLT.out HY.out HSP.out; simpa [HNE.out] using h, HLT.out⟩⟩
      case measure => simp [intOf]; have := HLT.out; omega
    | false =>
     cases hge : Op.bytesLess y.name.toList n.toList with
     | true =>
      have HGE := Lib.hid (show geA y.name n = false by unfold geA strLt; rw [hge]; rfl)
      by_cases hne : y.name = n
      ·
       have ene : (y.name.toList == n.toList) = true := by rw [ba_beq]; exact decide_eq_true hne
       have HNE := Lib.hid hne; clear hne
       go_wp2
       go_roundw
       case rel => exact ⟨false, k + 1, rfl, by go_num, ⟨_, HOWN.out, HBR.out, by have h := setgo_step HLT.out HY.out HSP.out; rw [HGE.out] at h; simpa [HNE.out] using h, HLT.out⟩⟩
       case measure => simp [intOf]; have := HLT.out; omega
      ·
       have ene : (y.name.toList == n.toList) = false := by rw [ba_beq]; exact decide_eq_false hne
       have HNE := Lib.hid hne; clear hne
       obtain ⟨w4, hw4⟩ : ∃ w4, wr.alloc (.cells #[.string y.name, .string y.value] 53) = w4 := ⟨_, rfl⟩
       have hbw4 : Below wr.heap.size wr w4 := by rw [← hw4]; exact (Below.refl _ _).alloc (Nat.le_refl _) _
       have HOw4 := Lib.hid (HOWN.out.below hbw4); have HCw4 := Lib.hid (lit_cells hw4 (l := [.string y.name, .string y.value]) rfl); have HBw4 := Lib.hid (HBR.out.trans (hbw4.mono HBR.out.size)); clear hbw4
       go_wp2_with (at_builtin; go_must (refine wpList_app1 E_attr rfl _ _ rfl (u7) _ rfl HOw4.out wr.heap.size rfl y [.string y.name, .string y.value] HCw4.out ⟨rfl, HSZ.out⟩ (by have := setgo_len HSP.out; have := HL.out; unfold maxLen; omega) (by have := setgo_len HSP.out; have := HL.out; omega) HBw4.out.size ?_); intro v6 w5 hown_ hgrow_ hnew_; have HOWNw5 := Lib.hid hown_; have HGROWw5 := Lib.hid hgrow_; have HNEWw5 := Lib.hid hnew_; clear hown_ hgrow_ hnew_)
       have HBw5 := Lib.hid (below_own HBw4.out HGROWw5.out HBw4.out.size (fun k hk => (HOw4.out.lt k hk).1))
       go_roundw
       case rel => exact ⟨false, k + 1, rfl, by go_num, ⟨_, HOWNw5.out, HBw5.out, by have h := setgo_step HLT.out HY.out HSP.out; rw [HGE.out] at h; simpa [HNE.out] using h, HLT.out⟩⟩
       case measure => simp [intOf]; have := HLT.out; omega
     | false =>
      have HGE := Lib.hid (show geA y.name n = true by unfold geA strLt; rw [hge]; rfl)
      obtain ⟨w7, hw7⟩ : ∃ w7, wr.alloc (.cells #[.string n, .string x] 53) = w7 := ⟨_, rfl⟩
      have hbw7 : Below wr.heap.size wr w7 := by rw [← hw7]; exact (Below.refl _ _).alloc (Nat.le_refl _) _
      have HOw7 := Lib.hid (HOWN.out.below hbw7); have HCw7 := Lib.hid (lit_cells hw7 (l := [.string n, .string x]) rfl); have HBw7 := Lib.hid (HBR.out.trans (hbw7.mono HBR.out.size)); clear hbw7
      go_upto_region 9 with (at_builtin; go_must (refine wpList_app1 E_attr rfl _ _ rfl (u7) _ rfl HOw7.out wr.heap.size rfl ⟨n, x⟩ [.string n, .string x] HCw7.out ⟨rfl, HN.out, HXS.out⟩ (by have := setgo_len HSP.out; have := HL.out; unfold maxLen; omega) (by have := setgo_len HSP.out; have := HL.out; omega) HBw7.out.size ?_); intro v9 w8 hown_ hgrow_ hnew_; have HOWNw8 := Lib.hid hown_; have HGROWw8 := Lib.hid hgrow_; have HNEWw8 := Lib.hid hnew_; clear hown_ hgrow_ hnew_)
      have HBw8 := Lib.hid (below_own HBw7.out HGROWw8.out HBw7.out.size (fun k hk => (HOw7.out.lt k hk).1))
      clear hge cx0 cx1 hw7
      have HBW := Lib.hid (HX.out.keep (HBw8.out.mono HB.out))
      obtain ⟨b4, o4, hbo, _, _, cx0, cx1⟩ := HBW.out.attr HLT.out
      obtain ⟨rfl, rfl⟩ : b3 = b4 ∧ o3 = o4 := by injection hbo with hbo; injection hbo with h1 h2; exact ⟨h1, h2⟩
      clear hbo
      rw [HY.out] at cx0 cx1
      by_cases hne : y.name = n
      ·
       have ene : (y.name.toList == n.toList) = true := by rw [ba_beq]; exact decide_eq_true hne
       have HNE := Lib.hid hne; clear hne
       go_wp2
       go_roundw
       case rel => exact ⟨true, k + 1, rfl, by go_num, ⟨_, HOWNw8.out, HBw8.out, by have h := setgo_step HLT.out HY.out HSP.out; rw [HGE.out] at h; simpa [HNE.out] using h, HLT.out⟩⟩
       case measure => simp [intOf]; have := HLT.out; omega
      ·
       have ene : (y.name.toList == n.toList) = false := by rw [ba_beq]; exact decide_eq_false hne
       have HNE := Lib.hid hne; clear hne
       obtain ⟨w10, hw10⟩ : ∃ w10, w8.alloc (.cells #[.string y.name, .string y.value] 53) = w10 := ⟨_, rfl⟩
       have hbw10 : Below w8.heap.size w8 w10 := by rw [← hw10]; exact (Below.refl _ _).alloc (Nat.le_refl _) _
       have HOw10 := Lib.hid (HOWNw8.out.below hbw10); have HCw10 := Lib.hid (lit_cells hw10 (l := [.string y.name, .string y.value]) rfl); have HBw10 := Lib.hid (HBw8.out.trans (hbw10.mono HBw8.out.size)); clear hbw10
       go_wp2_with (at_builtin; go_must (refine wpList_app1 E_attr rfl _ _ rfl (v9) _ rfl HOw10.out w8.heap.size rfl y [.string y.name, .string y.value] HCw10.out ⟨rfl, HSZ.out⟩ (by have := setgo_len HSP.out; have := HL.out; unfold maxLen; simp only [List.length_append, List.length_singleton]; omega) (by have := setgo_len HSP.out; have := HL.out; simp only [List.length_append, List.length_singleton]; omega) HBw10.out.size ?_); intro v12 w11 hown_ hgrow_ hnew_; have HOWNw11 := Lib.hid hown_; have HGROWw11 := Lib.hid hgrow_; have HNEWw11 := Lib.hid hnew_; clear hown_ hgrow_ hnew_)
       have HBw11 := Lib.hid (below_own HBw10.out HGROWw11.out HBw10.out.size (fun k hk => (HOw10.out.lt k hk).1))
       go_roundw
       case rel => exact ⟨true, k + 1, rfl, by go_num, ⟨_, HOWNw11.out, HBw11.out, by have h := setgo_step HLT.out HY.out HSP.out; rw [HGE.out] at h; simpa [HNE.out] using h, HLT.out⟩⟩
       case measure => simp [intOf]; have := HLT.out; omega
   ·
    have i1 : ¬ (k : Int) < (xs.length : Int) := by omega
    have hdr : xs.drop k = [] := List.drop_eq_nil_of_le (by omega)
    rw [hdr] at hsp
    cases done with
    | true =>
     have HFIN := Lib.hid (show acc = setA xs n x by rw [← hsp]; simp [setGo])
     have HOWN := Lib.hid hown; have HBR := Lib.hid hbr
     clear hsp hdr hown hbr
     go_wp2
     go_ret
     exact ⟨HBR.out, _, rfl, by rw [← HFIN.out]; exact HOWN.out⟩
    | false =>
     have HFIN := Lib.hid (show acc ++ [⟨n, x⟩] = setA xs n x by rw [← hsp]; simp [setGo])
     have HOWN := Lib.hid hown; have HBR := Lib.hid hbr; have HSP := Lib.hid hsp
     clear hsp hdr hown hbr
     obtain ⟨w13, hw13⟩ : ∃ w13, wr.alloc (.cells #[.string n, .string x] 53) = w13 := ⟨_, rfl⟩
     have hbw13 : Below wr.heap.size wr w13 := by rw [← hw13]; exact (Below.refl _ _).alloc (Nat.le_refl _) _
     have HOw13 := Lib.hid (HOWN.out.below hbw13); have HCw13 := Lib.hid (lit_cells hw13 (l := [.string n, .string x]) rfl); have HBw13 := Lib.hid (HBR.out.trans (hbw13.mono HBR.out.size)); clear hbw13
     go_wp2_with (at_builtin; go_must (refine wpList_app1 E_attr rfl _ _ rfl (u7) _ rfl HOw13.out wr.heap.size rfl ⟨n, x⟩ [.string n, .string x] HCw13.out ⟨rfl, HN.out, HXS.out⟩ (by have := setgo_len HSP.out; have := HL.out; unfold maxLen; omega) (by have := setgo_len HSP.out; have := HL.out; omega) HBw13.out.size ?_); intro v15 w14 hown_ hgrow_ hnew_; have HOWNw14 := Lib.hid hown_; have HGROWw14 := Lib.hid hgrow_; have HNEWw14 := Lib.hid hnew_; clear hown_ hgrow_ hnew_)
     have HBw14 := Lib.hid (below_own HBw13.out HGROWw14.out HBw13.out.size (fun k hk => (HOw13.out.lt k hk).1))
     go_ret
     exact ⟨HBw14.out, _, rfl, by rw [← HFIN.out]; exact HOWNw14.out⟩
 | false =>
  have heb : ¬ x.toList = [] := fun h => by rw [h] at he; cases he
  have HE := Lib.hid he
  go_wp2_with fail
  clear heb he
  go_loopw [7, 8, 9] (fun v u i wr => ∃ (done : Bool) (k : Nat), u = .bool done ∧ i = .int .i64 k ∧ Hid (SetRel w 53 xs n x v done k wr)) (fun _ _ i _ => xs.length - (intOf i).toNat)
  case atStart => exact ⟨false, 0, rfl, rfl, ⟨[], OwnsS.nil_ _ _ _ _, Below.refl _ _, by rw [setA, HE.out]; rfl, Nat.zero_le _⟩⟩
  case round =>
   obtain ⟨done, k, rfl, rfl, hq⟩ := hrel
   obtain ⟨acc, hown, hbr, hsp, hk⟩ := hq.out
   clear hq
   by_cases hlt : k < xs.length
   ·
    have i1 : (k : Int) < (xs.length : Int) := by omega
    have HXR := Lib.hid (HX.out.keep (hbr.mono HB.out))
    obtain ⟨b3, o3, rfl, hbk, hsz, cx0, cx1⟩ := HXR.out.attr hlt
    obtain ⟨y, hy⟩ : ∃ y, xs[k]'hlt = y := ⟨_, rfl⟩
    rw [hy] at hsz cx0 cx1
    have HY := Lib.hid hy; have HSZ := Lib.hid hsz; have HLT := Lib.hid hlt; have HBK := Lib.hid hbk; have HCX0 := Lib.hid cx0; have HCX1 := Lib.hid cx1; clear hy hsz hbk
    have HOWN := Lib.hid hown; have HBR := Lib.hid hbr; have HSP := Lib.hid hsp
    clear hown hbr hsp
    cases done with
    | true =>
     by_cases hne : y.name = n
     ·
      have ene : (y.name.toList == n.toList) = true := by rw [ba_beq]; exact decide_eq_true hne
      have HNE := Lib.hid hne; clear hne
      go_wp2
      go_roundw
      case rel => exact ⟨true, k + 1, rfl, by go_num, ⟨_, HOWN.out, HBR.out, by have h := setgo_step HLT.out HY.out HSP.out; simpa [HNE.out] using h, HLT.out⟩⟩
      case measure => simp [intOf]; have := HLT.out; omega
     ·
      have ene : (y.name.toList == n.toList) = false := by rw [ba_beq]; exact decide_eq_false hne
      have HNE := Lib.hid hne; clear hne
      obtain ⟨w16, hw16⟩ : ∃ w16, wr.alloc (.cells #[.string y.name, .string y.value] 53) = w16 := ⟨_, rfl⟩
      have hbw16 : Below wr.heap.size wr w16 := by rw [← hw16]; exact (Below.refl _ _).alloc (Nat.le_refl _) _
      have HOw16 := Lib.hid (HOWN.out.below hbw16); have HCw16 := Lib.hid (lit_cells hw16 (l := [.string y.name, .string y.value]) rfl); have HBw16 := Lib.hid (HBR.out.trans (hbw16.mono HBR.out.size)); clear hbw16
      go_wp2_with (at_builtin; go_must (refine wpList_app1 E_attr rfl _ _ rfl (u7) _ rfl HOw16.out wr.heap.size rfl y [.string y.name, .string y.value] HCw16.out ⟨rfl, HSZ.out⟩ (by have := setgo_len HSP.out; have := HL.out; unfold maxLen; omega) (by have := setgo_len HSP.out; have := HL.out; omega) HBw16.out.size ?_); intro v18 w17 hown_ hgrow_ hnew_; have HOWNw17 := Lib.hid hown_; have HGROWw17 := Lib.hid hgrow_; have HNEWw17 := Lib.hid hnew_; clear hown_ hgrow_ hnew_)
      have HBw17 := Lib.hid (below_own HBw16.out HGROWw17.out HBw16.out.size (fun k hk => (HOw16.out.lt k hk).1))
      go_roundw
      case rel => exact ⟨true, k + 1, rfl, by go_num, ⟨_, HOWNw17.out, HBw17.out, by have h := setgo_step HLT.out HY.out HSP.out; simpa [HNE.out] using h, HLT.out⟩⟩
      case measure => simp [intOf]; have := HLT.out; omega
    | false =>
     cases hge : Op.bytesLess y.name.toList n.toList with
     | true =>
      have HGE := Lib.hid (show geA y.name n = false by unfold geA strLt; rw [hge]; rfl)
      by_cases hne : y.name = n
      ·
       have ene : (y.name.toList == n.toList) = true := by rw [ba_beq]; exact decide_eq_true hne
       have HNE := Lib.hid hne; clear hne
       go_wp2
       go_roundw
       case rel => exact ⟨false, k + 1, rfl, by go_num, ⟨_, HOWN.out, HBR.out, by have h := setgo_step HLT.out HY.out HSP.out; rw [HGE.out] at h; simpa [HNE.out] using h, HLT.out⟩⟩
       case measure => simp [intOf]; have := HLT.out; omega
      ·
       have ene : (y.name.toList == n.toList) = false := by rw [ba_beq]; exact decide_eq_false hne
       have HNE := Lib.hid hne; clear hne
       obtain ⟨w19, hw19⟩ : ∃ w19, wr.alloc (.cells #[.string y.name, .string y.value] 53) = w19 := ⟨_, rfl⟩
       have hbw19 : Below wr.heap.size wr w19 := by rw [← hw19]; exact (Below.refl _ _).alloc (Nat.le_refl _) _
       have HOw19 := Lib.hid (HOWN.out.below hbw19); have HCw19 := Lib.hid (lit_cells hw19 (l := [.string y.name, .string y.value]) rfl); have HBw19 := Lib.hid (HBR.out.trans (hbw19.mono HBR.out.size)); clear hbw19
       go_wp2_with (at_builtin; go_must (refine wpList_app1 E_attr rfl _ _ rfl (u7) _ rfl HOw19.out wr.heap.size rfl y [.string y.name, .string y.value] HCw19.out ⟨rfl, HSZ.out⟩ (by have := setgo_len HSP.out; have := HL.out; unfold maxLen; omega) (by have := setgo_len HSP.out; have := HL.out; omega) HBw19.out.size ?_); intro v21 w20 hown_ hgrow_ hnew_; have HOWNw20 := Lib.hid hown_; have HGROWw20 := Lib.hid hgrow_; have HNEWw20 := Lib.hid hnew_; clear hown_ hgrow_ hnew_)
       have HBw20 := Lib.hid (below_own HBw19.out HGROWw20.out HBw19.out.size (fun k hk => (HOw19.out.lt k hk).1))
       go_roundw
       case rel => exact ⟨false, k + 1, rfl, by go_num, ⟨_, HOWNw20.out, HBw20.out, by have h := setgo_step HLT.out HY.out HSP.out; rw [HGE.out] at h; simpa [HNE.out] using h, HLT.out⟩⟩
       case measure => simp [intOf]; have := HLT.out; omega
     | false =>
      have HGE := Lib.hid (show geA y.name n = true by unfold geA strLt; rw [hge]; rfl)
      obtain ⟨w22, hw22⟩ : ∃ w22, wr.alloc (.cells #[.string n, .string x] 53) = w22 := ⟨_, rfl⟩
      have hbw22 : Below wr.heap.size wr w22 := by rw [← hw22]; exact (Below.refl _ _).alloc (Nat.le_refl _) _
      have HOw22 := Lib.hid (HOWN.out.below hbw22); have HCw22 := Lib.hid (lit_cells hw22 (l := [.string n, .string x]) rfl); have HBw22 := Lib.hid (HBR.out.trans (hbw22.mono HBR.out.size)); clear hbw22
      go_upto_region 9 with (at_builtin; go_must (refine wpList_app1 E_attr rfl _ _ rfl (u7) _ rfl HOw22.out wr.heap.size rfl ⟨n, x⟩ [.string n, .string x] HCw22.out ⟨rfl, HN.out, HXS.out⟩ (by have := setgo_len HSP.out; have := HL.out; unfold maxLen; omega) (by have := setgo_len HSP.out; have := HL.out; omega) HBw22.out.size ?_); intro v24 w23 hown_ hgrow_ hnew_; have HOWNw23 := Lib.hid hown_; have HGROWw23 := Lib.hid hgrow_; have HNEWw23 := Lib.hid hnew_; clear hown_ hgrow_ hnew_)
      have HBw23 := Lib.hid (below_own HBw22.out HGROWw23.out HBw22.out.size (fun k hk => (HOw22.out.lt k hk).1))
      clear hge cx0 cx1 hw22
      have HBW := Lib.hid (HX.out.keep (HBw23.out.mono HB.out))
      obtain ⟨b4, o4, hbo, _, _, cx0, cx1⟩ := HBW.out.attr HLT.out
      obtain ⟨rfl, rfl⟩ : b3 = b4 ∧ o3 = o4 := by injection hbo with hbo; injection hbo with h1 h2; exact ⟨h1, h2⟩
      clear hbo
      rw [HY.out] at cx0 cx1
      by_cases hne : y.name = n
      ·
       have ene : (y.name.toList == n.toList) = true := by rw [ba_beq]; exact decide_eq_true hne
       have HNE := Lib.hid hne; clear hne
       go_wp2
       go_roundw
       case rel => exact ⟨true, k + 1, rfl, by go_num, ⟨_, HOWNw23.out, HBw23.out, by have h := setgo_step HLT.out HY.out HSP.out; rw [HGE.out] at h; simpa [HNE.out] using h, HLT.out⟩⟩
       case measure => simp [intOf]; have := HLT.out; omega
      ·
       have ene : (y.name.toList == n.toList) = false := by rw [ba_beq]; exact decide_eq_false hne
       have HNE := Lib.hid hne; clear hne
       obtain ⟨w25, hw25⟩ : ∃ w25, w23.alloc (.cells #[.string y.name, .string y.value] 53) = w25 := ⟨_, rfl⟩
       have hbw25 : Below w23.heap.size w23 w25 := by rw [← hw25]; exact (Below.refl _ _).alloc (Nat.le_refl _) _
       have HOw25 := Lib.hid (HOWNw23.out.below hbw25); have HCw25 := Lib.hid (lit_cells hw25 (l := [.string y.name, .string y.value]) rfl); have HBw25 := Lib.hid (HBw23.out.trans (hbw25.mono HBw23.out.size)); clear hbw25
       go_wp2_with (at_builtin; go_must (refine wpList_app1 E_attr rfl _ _ rfl (v24) _ rfl HOw25.out w23.heap.size rfl y [.string y.name, .string y.value] HCw25.out ⟨rfl, HSZ.out⟩ (by have := setgo_len HSP.out; have := HL.out; unfold maxLen; simp only [List.length_append, List.length_singleton]; omega) (by have := setgo_len HSP.out; have := HL.out; simp only [List.length_append, List.length_singleton]; omega) HBw25.out.size ?_); intro v27 w26 hown_ hgrow_ hnew_; have HOWNw26 := Lib.hid hown_; have HGROWw26 := Lib.hid hgrow_; have HNEWw26 := Lib.hid hnew_; clear hown_ hgrow_ hnew_)
       have HBw26 := Lib.hid (below_own HBw25.out HGROWw26.out HBw25.out.size (fun k hk => (HOw25.out.lt k hk).1))
       go_roundw
       case rel => exact ⟨true, k + 1, rfl, by go_num, ⟨_, HOWNw26.out, HBw26.out, by have h := setgo_step HLT.out HY.out HSP.out; rw [HGE.out] at h; simpa [HNE.out] using h, HLT.out⟩⟩
       case measure => simp [intOf]; have := HLT.out; omega
   ·
    have i1 : ¬ (k : Int) < (xs.length : Int) := by omega
    have hdr : xs.drop k = [] := List.drop_eq_nil_of_le (by omega)
    rw [hdr] at hsp
    cases done with
    | true =>
     have HFIN := Lib.hid (show acc = setA xs n x by rw [← hsp]; simp [setGo])
     have HOWN := Lib.hid hown; have HBR := Lib.hid hbr
     clear hsp hdr hown hbr
     go_wp2
     go_ret
     exact ⟨HBR.out, _, rfl, by rw [← HFIN.out]; exact HOWN.out⟩
    | false =>
     have HFIN := Lib.hid (show acc ++ [⟨n, x⟩] = setA xs n x by rw [← hsp]; simp [setGo])
     have HOWN := Lib.hid hown; have HBR := Lib.hid hbr; have HSP := Lib.hid hsp
     clear hsp hdr hown hbr
     obtain ⟨w28, hw28⟩ : ∃ w28, wr.alloc (.cells #[.string n, .string x] 53) = w28 := ⟨_, rfl⟩
     have hbw28 : Below wr.heap.size wr w28 := by rw [← hw28]; exact (Below.refl _ _).alloc (Nat.le_refl _) _
     have HOw28 := Lib.hid (HOWN.out.below hbw28); have HCw28 := Lib.hid (lit_cells hw28 (l := [.string n, .string x]) rfl); have HBw28 := Lib.hid (HBR.out.trans (hbw28.mono HBR.out.size)); clear hbw28
     go_wp2_with (at_builtin; go_must (refine wpList_app1 E_attr rfl _ _ rfl (u7) _ rfl HOw28.out wr.heap.size rfl ⟨n, x⟩ [.string n, .string x] HCw28.out ⟨rfl, HN.out, HXS.out⟩ (by have := setgo_len HSP.out; have := HL.out; unfold maxLen; omega) (by have := setgo_len HSP.out; have := HL.out; omega) HBw28.out.size ?_); intro v30 w29 hown_ hgrow_ hnew_; have HOWNw29 := Lib.hid hown_; have HGROWw29 := Lib.hid hgrow_; have HNEWw29 := Lib.hid hnew_; clear hown_ hgrow_ hnew_)
     have HBw29 := Lib.hid (below_own HBw28.out HGROWw29.out HBw28.out.size (fun k hk => (HOw28.out.lt k hk).1))
     go_ret
     exact ⟨HBw29.out, _, rfl, by rw [← HFIN.out]; exact HOWNw29.out⟩
end Go.Proofs.YtjpoljlgkgmdkaaGreatDoor
namespace Go.Cold
open Go Go.RowKit
theorem getD_mem {ys : List ByteArray} {m : Nat} (h : m < ys.length) : ys.getD m ⟨#[]⟩ ∈ ys := by
 rw [List.getD_eq_getElem?_getD, List.getElem?_eq_getElem h]
 exact List.getElem_mem h
theorem SlS.tape {α : Type} [RepS α] {w w' : World} {A : Option Addr} {c b : Nat} {xs : List α} {S : Nat → Prop} (h : SlS w S A c xs) (hg : w.grownBy w' (some b)) (hS : ∀ x, S x → x ≠ b) : SlS w' S A c xs :=
 h.mono (fun _ hb => hb) (fun x o u hx hu => hg.cell hu (fun e => hS x hx (Option.some.inj e)))
end Go.Cold
namespace Go.Proofs.YtjpoljlgkgmdkaaGreatDoor
open Go.RowKit Go.Cold
def OneL (xs : List Int) (k B b : Nat) (ys : List ByteArray) (w : World) (e : Ending) (w' : World) : Prop := ∃ y, y ∈ ys ∧ e = .returned (.string y) ∧ TapeAt w' B b xs (k + 1) ∧ w.grownBy w' (some b)
theorem One_lit (ys : List ByteArray) (xs : List Int) (k B b : Nat) (cs : Array Value) (T : TypeId) (w : World) (n : Nat) (hcs : cs.toList = ys.map Value.string) (hn : n = ys.length) (hk : k ≤ 2 ^ 40) (ht : TapeAt w B b xs k) (h0 : 1 < ys.length) (hy : ys.length ≤ 100) :
  Calls Tryz.prog 13 #[.pointer (some ⟨b, 0, none⟩), .slice (some ⟨w.heap.size, 0, none⟩) n n] (w.alloc (.cells cs T)) (OneL xs k B b ys w) := by
 subst hn
 have hlt : b < w.heap.size := by obtain ⟨_, _, _, _, _, _, _, h⟩ := ht; exact h
 have hB : B ≤ w.heap.size := by obtain ⟨_, _, _, _, _, _, h1, h2⟩ := ht; omega
 have hb : Below w.heap.size w (w.alloc (.cells cs T)) := (Below.refl _ _).alloc (Nat.le_refl _) _
 refine (One_any xs k B b ys w.heap.size 0 ys.length (w.alloc (.cells cs T)) hk (ht.kept (grown_none hb) (fun e => by cases e) (fun g e => by cases e)) h0 hy (Nat.le_refl _) (by unfold maxLen; omega) (by omega) (fun i y hi => ?_)).mono ?_
 ·
  rw [Nat.zero_add, World.cell?_alloc_at _ _ _ _ rfl]
  have h1 : cs.toList[i]? = some (.string y) := by rw [hcs, List.getElem?_map, hi]; rfl
  rw [Array.getElem?_toList] at h1; exact h1
 ·
  rintro e w' ⟨rfl, h1, h2⟩
  have hf := @foldI_range (tapeI xs k) ys.length (by omega)
  exact ⟨_, getD_mem (by omega), rfl, h1, grown_trans (grown_none hb |> fun h => ⟨h.os, h.tape, h.output, h.size, fun k hk _ => h.block k hk (by simp)⟩) h2⟩
def NextL (lo hi : Int) (xs : List Int) (k B b : Nat) (w : World) (e : Ending) (w' : World) : Prop := ∃ n : Int, lo ≤ n ∧ n < hi ∧ e = .returned (.int .i64 n) ∧ TapeAt w' B b xs (k + 1) ∧ w.grownBy w' (some b)
theorem Next_lit (n : Int) (xs : List Int) (k B b : Nat) (w : World) (hk : k ≤ 2 ^ 40) (ht : TapeAt w B b xs k) (h1 : 1 ≤ n) (h2 : n ≤ 1000000) : Calls Tryz.prog 12 #[.pointer (some ⟨b, 0, none⟩), .int .i64 n] w (NextL 0 n xs k B b w) :=
 (Next_any xs k B b n w (by unfold okI; omega) hk ht).mono fun e w' ⟨h3, h4, h5⟩ => ⟨_, (foldI_pos h1).1, (foldI_pos h1).2, h3, h4, h5⟩
def nmsA : List ByteArray := [⟨#[115, 105, 122, 101]⟩, ⟨#[118, 101, 110, 100, 111, 114]⟩, ⟨#[97, 100, 100, 114, 101, 115, 115]⟩, ⟨#[105, 110, 100, 101, 120]⟩, ⟨#[115, 108, 111, 116]⟩]
def valsA : List ByteArray := [⟨#[49]⟩, ⟨#[50]⟩, ⟨#[97, 99, 109, 101]⟩, ⟨#[97, 97, 58, 98, 98]⟩]
def AttrsPost (xs : List Int) (k B b : Nat) (w : World) (e : Ending) (w' : World) : Prop := ∃ (v : Value) (l : List Attr) (j : Nat), e = .returned v ∧ OwnsS (fun _ => False) w' w.heap.size 53 v l ∧ fewA 3 l ∧ j ≤ 7 ∧ TapeAt w' B b xs (k + j) ∧ w.grownBy w' (some b)
def AtRel (w0 : World) (T : TypeId) (B b : Nat) (xs : List Int) (k : Nat) (v : Value) (n : Int) (wr : World) : Prop :=
 ∃ (acc : List Attr) (j : Nat), OwnsS (fun _ => False) wr w0.heap.size T v acc ∧ fewA j acc ∧ TapeAt wr B b xs (k + 1 + 2 * j) ∧ w0.grownBy wr (some b) ∧ 0 ≤ n ∧ n + j ≤ 3
set_option maxRecDepth 100000 in
set_option maxHeartbeats 1000000 in
theorem Attrs_any (xs : List Int) (k B b : Nat) (w : World) (hk : k ≤ 2 ^ 39) (ht : TapeAt w B b xs k) : Calls Tryz.prog 99 #[.pointer (some ⟨b, 0, none⟩)] w (AttrsPost xs k B b w) := by
 have HT := Lib.hid ht; have HK := Lib.hid hk; clear ht hk
 have HBW := Lib.hid (show b < w.heap.size ∧ B ≤ b by obtain ⟨_, _, _, _, _, _, h1, h2⟩ := HT.out; exact ⟨h2, h1⟩)
 go_enter Tryz.func99, Tryz.ntmps99
 go_wp2_with fail
 refine (Next_lit 4 xs k B b _ (by have := HK.out; omega) HT.out (by omega) (by omega)).mono ?_
 rintro e w1 ⟨n, h0, h4, rfl, ht1, hg1⟩
 have hrel : AtRel w 53 B b xs k (.slice none 0 0) n w1 := ⟨[], 0, OwnsS.nil_ _ _ _ _, ⟨Nat.le_refl _, by simp⟩, ht1, hg1, h0, by omega⟩
 have HREL := Lib.hid hrel; clear hrel ht1 hg1
 have i0 : okI n := by unfold okI; omega
 have I0 := Lib.hid i0; clear i0
 go_wp2_with fail
 go_loopw [3, 4] (fun v i wr => ∃ m : Int, i = .int .i64 m ∧ Hid (AtRel w 53 B b xs k v m wr)) (fun _ i _ => (intOf i).toNat)
 case atStart => exact ⟨n, rfl, HREL⟩
 case round =>
  obtain ⟨m, rfl, hq⟩ := hrel
  obtain ⟨acc, j, hown, hfew, ht, hg, hm0, hmj⟩ := hq.out
  clear hq
  have HOWN := Lib.hid hown; have HFEW := Lib.hid hfew; have HT := Lib.hid ht; have HG := Lib.hid hg; clear hown hfew ht hg HREL
  by_cases hlt : 0 < m
  ·
   go_wp2_with fail
   refine (One_lit nmsA xs _ B b _ _ _ _ rfl rfl (by have := HK.out; omega) HT.out (by decide) (by decide)).mono ?_
   rintro e w2 ⟨y, hy, rfl, ht2, hg2⟩
   have HY := Lib.hid hy; have HT2 := Lib.hid ht2; have HG2 := Lib.hid (grown_trans HG.out hg2); have HO2 := Lib.hid (HOWN.out.grownb hg2 (fun _ h => h.elim) HBW.out.1); clear hy ht2 hg2
   go_wp2_with fail
   refine (One_lit valsA xs _ B b _ _ _ _ rfl rfl (by have := HK.out; omega) HT2.out (by decide) (by decide)).mono ?_
   rintro e w3 ⟨z, hz, rfl, ht3, hg3⟩
   have HZ := Lib.hid hz; have HT3 := Lib.hid ht3; have HG3 := Lib.hid (grown_trans HG2.out hg3); have HO3 := Lib.hid (HO2.out.grownb hg3 (fun _ h => h.elim) HBW.out.1); clear hz ht3 hg3
   obtain ⟨A3, c3, hv, hsl⟩ := HO3.out.sl
   subst hv
   have HSL := Lib.hid hsl; clear hsl
   have hys : y.size ≤ 1000 := (show ∀ y ∈ nmsA, y.size ≤ 1000 by decide) y HY.out
   have hzs : z.size ≤ 1000 := (show ∀ y ∈ valsA, y.size ≤ 1000 by decide) z HZ.out
   have HYS := Lib.hid hys; have HZS := Lib.hid hzs; clear hys hzs
   go_wp2_with fail
   refine (Set_any A3 c3 acc y z _ w3.heap.size (Nat.le_refl _) HSL.out (by have := HFEW.out.1; omega) (by have := HYS.out; unfold maxLen; omega) (by have := HZS.out; unfold maxLen; omega)).mono ?_
   rintro e w4 ⟨hb4, v4, rfl, hown4⟩
   have HG4 := Lib.hid (grown_below HG3.out hb4); have HT4 := Lib.hid (HT3.out.kept (grown_none hb4) (fun e => by cases e) (fun g e => by cases e))
   have HO4 := Lib.hid (show OwnsS (fun _ => False) w4 w.heap.size 53 v4 (setA acc y z) from hown4.low HG3.out.size); clear hown4 hb4
   go_wp2
   go_roundw
   case rel => exact ⟨m - 1, by first | rfl | go_num, ⟨_, j + 1, HO4.out, HFEW.out.set_ HYS.out HZS.out, by have h := HT4.out; rw [show k + 1 + 2 * j + 1 + 1 = k + 1 + 2 * (j + 1) by omega] at h; exact h, HG4.out, by omega, by omega⟩⟩
   case measure => simp [intOf]; omega
  ·
   go_wp2
   go_ret
   exact ⟨_, acc, 1 + 2 * j, rfl, HOWN.out, ⟨by have := HFEW.out.1; omega, HFEW.out.2⟩, by omega, by have h := HT.out; rw [show k + 1 + 2 * j = k + (1 + 2 * j) by omega] at h; exact h, HG.out⟩
end Go.Proofs.YtjpoljlgkgmdkaaGreatDoor
namespace Go.Cold
open Go Go.RowKit
theorem set10_ind (P : World → Prop) {w : World} {g : Nat} (hs : ∀ w j v, P w → P (w.setCell ⟨g, j, none⟩ v)) (h : P w) (v0 v1 v2 v3 v4 v5 v6 v7 v8 v9 : Value) : P ((((((((((w.setCell ⟨g, 0, none⟩ (v0)).setCell ⟨g, 1, none⟩ (v1)).setCell ⟨g, 2, none⟩ (v2)).setCell ⟨g, 3, none⟩ (v3)).setCell ⟨g, 4, none⟩ (v4)).setCell ⟨g, 5, none⟩ (v5)).setCell ⟨g, 6, none⟩ (v6)).setCell ⟨g, 7, none⟩ (v7)).setCell ⟨g, 8, none⟩ (v8)).setCell ⟨g, 9, none⟩ (v9)) :=
 hs _ 9 _ (hs _ 8 _ (hs _ 7 _ (hs _ 6 _ (hs _ 5 _ (hs _ 4 _ (hs _ 3 _ (hs _ 2 _ (hs _ 1 _ (hs _ 0 _ (h))))))))))
theorem grown_any {w w' : World} {row : Option Nat} (hb : Below w.heap.size w w') : w.grownBy w' row := ⟨hb.os, hb.tape, hb.output, hb.size, fun k hk _ => hb.block k hk⟩
theorem SlS.set_ {α : Type} [RepS α] {w : World} {A : Option Addr} {c g j : Nat} {xs : List α} {S : Nat → Prop} (h : SlS w S A c xs) (hS : ∀ x, S x → x ≠ g) (v : Value) : SlS (w.setCell ⟨g, j, none⟩ v) S A c xs :=
 h.mono (fun _ hb => hb) (fun x o u hx hu => (cell_set_far w ⟨g, j, none⟩ v x o (fun e => hS x hx e.symm)).trans hu)
theorem SlS.below {α : Type} [RepS α] {w w' : World} {A : Option Addr} {c : Nat} {xs : List α} {S : Nat → Prop} (h : SlS w S A c xs) (hb : Below w.heap.size w w') (hS : ∀ x, S x → x < w.heap.size) : SlS w' S A c xs :=
 h.mono (fun _ hb => hb) (fun x o u hx hu => (hb.cell (p := ⟨x, o, none⟩) (hS x hx)).trans hu)
theorem SlS.sl {α : Type} [RepS α] {w : World} {A : Option Addr} {c B : Nat} {xs : List α} {S : Nat → Prop} (h : SlS w S A c xs) (hS : ∀ x, S x → x < B) : Sl w B A c xs := SlS_iff.2 (h.mono hS (fun _ _ _ _ hu => hu))
def FlOk (fl : Bool) (n : Nat) : Prop := fl = true → 0 < n
structure DvK (w0 : World) (B b g3 g4 g5 : Nat) (S : Nat → Prop) : Prop where
 lt : b < w0.heap.size
 le : B ≤ b
 i3 : w0.heap.size ≤ g3
 i4 : g3 < g4
 i5 : g4 < g5
 s : ∀ x, S x → g4 < x ∧ x ≠ g5
def StD (w0 : World) (B b : Nat) (xs : List Int) (k g3 g4 g5 : Nat) (t3 : Value) (cs : List Value) (S : Nat → Prop) (A : Option Addr) (c : Nat) (l : List Attr) (w : World) : Prop :=
 TapeAt w B b xs k ∧ w0.grownBy w (some b) ∧ BoxL w g3 [t3] ∧ BoxL w g4 zero10 ∧ BoxL w g5 cs ∧ SlS w S A c l ∧ ∀ x, S x → x < w.heap.size
section
variable {w0 w w' : World} {B b k k' g3 g4 g5 c : Nat} {xs : List Int} {t3 : Value} {cs : List Value} {S : Nat → Prop} {A : Option Addr} {l : List Attr}
theorem StD.tape (h : StD w0 B b xs k g3 g4 g5 t3 cs S A c l w) (K : DvK w0 B b g3 g4 g5 S) (ht : TapeAt w' B b xs k') (hg : w.grownBy w' (some b)) : StD w0 B b xs k' g3 g4 g5 t3 cs S A c l w' := by
 obtain ⟨h1, h2, h3, h4, h5, h6, h7⟩ := h
 obtain ⟨a1, a2, a3, a4, a5, a6⟩ := K
 exact ⟨ht, grown_trans h2 hg, h3.kept hg (fun e => by have := Option.some.inj e; omega), h4.kept hg (fun e => by have := Option.some.inj e; omega), h5.kept hg (fun e => by have := Option.some.inj e; omega),
  h6.tape hg (fun x hx => by have := a6 x hx; omega), fun x hx => by have := h7 x hx; have := hg.size; omega⟩
theorem StD.below (h : StD w0 B b xs k g3 g4 g5 t3 cs S A c l w) (hb : Below w.heap.size w w') : StD w0 B b xs k g3 g4 g5 t3 cs S A c l w' := by
 obtain ⟨h1, h2, h3, h4, h5, h6, h7⟩ := h
 exact ⟨h1.kept (grown_none hb) (fun e => by cases e) (fun g e => by cases e), grown_below h2 hb, h3.kept (grown_none hb) (fun e => by cases e), h4.kept (grown_none hb) (fun e => by cases e), h5.kept (grown_none hb) (fun e => by cases e), h6.below hb h7, fun x hx => by have := h7 x hx; have := hb.size; omega⟩
theorem StD.set_ (h : StD w0 B b xs k g3 g4 g5 t3 cs S A c l w) (K : DvK w0 B b g3 g4 g5 S) {j : Nat} (hj : j < cs.length) (v : Value) : StD w0 B b xs k g3 g4 g5 t3 (cs.set j v) S A c l (w.setCell ⟨g5, j, none⟩ v) := by
 obtain ⟨h1, h2, h3, h4, h5, h6, h7⟩ := h
 obtain ⟨a1, a2, a3, a4, a5, a6⟩ := K
 exact ⟨h1.set_ (by omega) (by omega) v, grown_set h2 (by omega) v, h3.far (by omega) v, h4.far (by omega) v, h5.set_ hj v, h6.set_ (fun x hx => (a6 x hx).2) v, fun x hx => by simpa using h7 x hx⟩
theorem StD.drew (h : StD w0 B b xs k g3 g4 g5 t3 cs S A c l w) : StD w0 B b xs k g3 g4 g5 t3 cs S A c l w.drew := h.below (below_drewN_self w _ 1)
theorem StD.other {S' : Nat → Prop} {A' : Option Addr} {c' : Nat} {l' : List Attr} (h : StD w0 B b xs k g3 g4 g5 t3 cs S A c l w) (h6 : SlS w S' A' c' l') (h7 : ∀ x, S' x → x < w.heap.size) : StD w0 B b xs k g3 g4 g5 t3 cs S' A' c' l' w := by
 obtain ⟨h1, h2, h3, h4, h5, -, -⟩ := h
 exact ⟨h1, h2, h3, h4, h5, h6, h7⟩
end
structure TreeIn (w : World) (b : Nat) (S : Nat → Prop) (A : Option Addr) (c : Nat) (L : List Dev) : Prop where
 sl : SlS w S A c L
 ne : ∀ x, S x → x ≠ b
 lt : ∀ x, S x → x < w.heap.size
theorem TreeIn.tape {w w' : World} {b : Nat} {S : Nat → Prop} {A : Option Addr} {c : Nat} {L : List Dev} (h : TreeIn w b S A c L) (hg : w.grownBy w' (some b)) : TreeIn w' b S A c L :=
 ⟨h.sl.tape hg h.ne, h.ne, fun x hx => by have := h.lt x hx; have := hg.size; omega⟩
theorem TreeIn.out {w : World} {b : Nat} {S : Nat → Prop} {A : Option Addr} {c : Nat} {L : List Dev} (h : TreeIn w b S A c L) : Sl w w.heap.size A c L := h.sl.sl h.lt
end Go.Cold
namespace Go.Proofs.YtjpoljlgkgmdkaaGreatDoor
open Go.RowKit Go.Cold
def contL : List ByteArray := [⟨#[]⟩, ⟨#[102, 115, 58, 117, 49, 58, 114, 111, 111, 116]⟩, ⟨#[102, 115, 58, 117, 50, 58]⟩, ⟨#[114, 97, 105, 100, 58, 114, 49, 58, 49, 47, 50, 47, 49, 40, 102, 115, 58, 117, 51, 58, 100, 97, 116, 97, 41]⟩, ⟨#[114, 97, 105, 100, 58, 114, 49, 58, 50, 47, 50, 47, 49, 40, 102, 115, 58, 117, 51, 58, 100, 97, 116, 97, 41]⟩, ⟨#[99, 114, 121, 112, 116, 58, 99, 49, 40, 102, 115, 58, 117, 52, 58, 41]⟩, ⟨#[112, 118, 58, 103, 49, 58, 49, 47, 49, 40, 102, 115, 58, 117, 53, 58, 44, 41]⟩, ⟨#[116, 97, 98, 108, 101, 58, 116, 49, 40, 102, 115, 58, 117, 54, 58, 98, 111, 111, 116, 44, 114, 97, 105, 100, 58, 114, 49, 58, 50, 47, 50, 47, 49, 40, 102, 115, 58, 117, 51, 58, 100, 97, 116, 97, 41, 41]⟩, ⟨#[98, 97, 100, 40]⟩]
theorem Contents_any (w : World) : Calls Tryz.prog 100 #[] w fun e w' => e = .returned (.slice (some ⟨w.heap.size, 0, none⟩) 9 9) ∧ w' = w.alloc (.cells #[.string ⟨#[]⟩, .string ⟨#[102, 115, 58, 117, 49, 58, 114, 111, 111, 116]⟩, .string ⟨#[102, 115, 58, 117, 50, 58]⟩, .string ⟨#[114, 97, 105, 100, 58, 114, 49, 58, 49, 47, 50, 47, 49, 40, 102, 115, 58, 117, 51, 58, 100, 97, 116, 97, 41]⟩, .string ⟨#[114, 97, 105, 100, 58, 114, 49, 58, 50, 47, 50, 47, 49, 40, 102, 115, 58, 117, 51, 58, 100, 97, 116, 97, 41]⟩, .string ⟨#[99, 114, 121, 112, 116, 58, 99, 49, 40, 102, 115, 58, 117, 52, 58, 41]⟩, .string ⟨#[112, 118, 58, 103, 49, 58, 49, 47, 49, 40, 102, 115, 58, 117, 53, 58, 44, 41]⟩, .string ⟨#[116, 97, 98, 108, 101, 58, 116, 49, 40, 102, 115, 58, 117, 54, 58, 98, 111, 111, 116, 44, 114, 97, 105, 100, 58, 114, 49, 58, 50, 47, 50, 47, 49, 40, 102, 115, 58, 117, 51, 58, 100, 97, 116, 97, 41, 41]⟩, .string ⟨#[98, 97, 100, 40]⟩] 9) := by
 go_enter Tryz.func100, Tryz.ntmps100
 go_wp2
 go_ret
 exact ⟨rfl, rfl⟩
def DevPost (xs : List Int) (k B b : Nat) (w : World) (e : Ending) (w' : World) : Prop := ∃ (d : Dev) (A : Option Addr) (c k' : Nat), e = .returned (.agg #[.int .i64 d.idx, .int .i64 d.par, .string d.nm, .string d.orig, .string d.sub, .string d.drv, .string d.ali, .int .i64 d.kind, .int .i64 d.num, .slice A d.attrs.length c]) ∧ devFew d ∧ SlS w' (fun x => w.heap.size ≤ x ∧ x < w'.heap.size) A c d.attrs ∧ k' ≤ k + 30 ∧ TapeAt w' B b xs k' ∧ w.grownBy w' (some b)
set_option maxRecDepth 100000 in
set_option maxHeartbeats 8000000 in
theorem Device_any (xs : List Int) (k B b : Nat) (A : Option Addr) (c : Nat) (L : List Dev) (S : Nat → Prop) (w : World) (hk : k ≤ 2 ^ 38) (ht : TapeAt w B b xs k) (htr : TreeIn w b S A c L) (hL : ∀ d ∈ L, 0 ≤ d.idx ∧ d.idx ≤ 1073741824) (hll : L.length ≤ 1000) : Calls Tryz.prog 54 #[.pointer (some ⟨b, 0, none⟩), .agg #[.slice A L.length c]] w (DevPost xs k B b w) := by
 obtain ⟨i0, hi0, hz0, hz1, hz2⟩ := info_parts info_dev
 have hzv := (zero_of_info (P := Tryz.prog) (t := 84) info_dev2).1
 have hx1 := htr.sl.1; have hx2 := htr.sl.2.1
 unfold maxLen at hx2
 have HT := Lib.hid ht; have HK := Lib.hid hk; have HTR := Lib.hid htr; have HL := Lib.hid hL; have HLL := Lib.hid hll
 clear ht hk htr hL hll hi0 hz0 hz1 hz2
 have HBW := Lib.hid (show b < w.heap.size ∧ B ≤ b by obtain ⟨_, _, _, _, _, _, h1, h2⟩ := HT.out; exact ⟨h2, h1⟩)
 go_enter Tryz.func54, Tryz.ntmps54
 go_upto_region 1 with fail
 obtain ⟨w1, hw1⟩ : ∃ w1, w.alloc (.cells #[.slice A L.length c] 47) = w1 := ⟨_, rfl⟩
 have hbw1 : Below w.heap.size w w1 := by rw [← hw1]; exact (Below.refl _ _).alloc (Nat.le_refl _) _
 have HGw1 := Lib.hid (show w1.heap.size = w.heap.size + 1 by rw [← hw1]; simp)
 have HXtw1 := Lib.hid (show BoxL w1 w.heap.size [.slice A L.length c] from box_mk hw1)
 try simp only [hw1]
 have HBw1 := Lib.hid hbw1
 clear hw1 hbw1
 try rw [show w.heap.size + 1 = w1.heap.size from HGw1.out.symm]
 obtain ⟨w2, hw2⟩ : ∃ w2, w1.alloc (.cells #[.int .i64 0, .int .i64 0, .string ByteArray.empty, .string ByteArray.empty, .string ByteArray.empty, .string ByteArray.empty, .string ByteArray.empty, .int .i64 0, .int .i64 0, .slice none 0 0] 84) = w2 := ⟨_, rfl⟩
 have hbw2 : Below w1.heap.size w1 w2 := by rw [← hw2]; exact (Below.refl _ _).alloc (Nat.le_refl _) _
 have HGw2 := Lib.hid (show w2.heap.size = w1.heap.size + 1 by rw [← hw2]; simp)
 have HXrw2 := Lib.hid (show BoxL w2 w1.heap.size [.int .i64 0, .int .i64 0, .string ByteArray.empty, .string ByteArray.empty, .string ByteArray.empty, .string ByteArray.empty, .string ByteArray.empty, .int .i64 0, .int .i64 0, .slice none 0 0] from box_mk hw2)
 try simp only [hw2]
 have HBw2 := Lib.hid (HBw1.out.trans (hbw2.mono HBw1.out.size))
 have tw2 := Lib.hid (HXtw1.out.kept (grown_none hbw2) (fun e => by cases e))
 clear hw2 hbw2
 try rw [show w1.heap.size + 1 = w2.heap.size from HGw2.out.symm]
 have HT2 := Lib.hid (HT.out.kept (grown_none HBw2.out) (fun e => by cases e) (fun g e => by cases e)); have HG2 := Lib.hid (grown_any (row := some b) HBw2.out)
 have HK0 := Lib.hid (show k ≤ 2 ^ 40 by have := HK.out; omega)
 go_wp2_with fail
 refine (One_lit [⟨#[98, 108, 111, 99, 107]⟩, ⟨#[117, 115, 98]⟩, ⟨#[110, 101, 116]⟩, ⟨#[112, 99, 105]⟩] xs (k) B b _ _ _ _ rfl rfl HK0.out HT2.out (by decide) (by decide)).mono ?_
 rintro e a0 ⟨su, hm_, rfl, ht_, hg_⟩
 have HTa0 := Lib.hid ht_; have HGa0 := Lib.hid (grown_trans HG2.out hg_)
 have HXta0 := Lib.hid (tw2.out.kept hg_ (fun e => by have := Option.some.inj e; have := HBW.out.1; omega)); have HXra0 := Lib.hid (HXrw2.out.kept hg_ (fun e => by have := Option.some.inj e; have := HBW.out.1; have := HGw1.out; omega)); clear ht_ hg_
 have HMsu := Lib.hid ((show ∀ y ∈ ([⟨#[98, 108, 111, 99, 107]⟩, ⟨#[117, 115, 98]⟩, ⟨#[110, 101, 116]⟩, ⟨#[112, 99, 105]⟩] : List ByteArray), y.size ≤ 1000 by decide) su hm_); clear hm_
 have HK1 := Lib.hid (show k + 1 ≤ 2 ^ 40 by have := HK.out; omega)
 go_wp2_with fail
 refine (Next_lit 4 xs (k + 1) B b _ HK1.out HTa0.out (by omega) (by omega)).mono ?_
 rintro e a1 ⟨kn, hkn0, hkn1, rfl, ht_, hg_⟩
 have HTa1 := Lib.hid ht_; have HGa1 := Lib.hid (grown_trans HGa0.out hg_)
 have HXta1 := Lib.hid (HXta0.out.kept hg_ (fun e => by have := Option.some.inj e; have := HBW.out.1; omega)); have HXra1 := Lib.hid (HXra0.out.kept hg_ (fun e => by have := Option.some.inj e; have := HBW.out.1; have := HGw1.out; omega)); clear ht_ hg_
 have HK2 := Lib.hid (show k + 1 + 1 ≤ 2 ^ 40 by have := HK.out; omega)
 go_wp2_with fail
 refine (One_lit [⟨#[]⟩, ⟨#[]⟩, ⟨#[104, 105, 100]⟩, ⟨#[110, 105, 99]⟩] xs (k + 1 + 1) B b _ _ _ _ rfl rfl HK2.out HTa1.out (by decide) (by decide)).mono ?_
 rintro e a2 ⟨dr, hm_, rfl, ht_, hg_⟩
 have HTa2 := Lib.hid ht_; have HGa2 := Lib.hid (grown_trans HGa1.out hg_)
 have HXta2 := Lib.hid (HXta1.out.kept hg_ (fun e => by have := Option.some.inj e; have := HBW.out.1; omega)); have HXra2 := Lib.hid (HXra1.out.kept hg_ (fun e => by have := Option.some.inj e; have := HBW.out.1; have := HGw1.out; omega)); clear ht_ hg_
 have HMdr := Lib.hid ((show ∀ y ∈ ([⟨#[]⟩, ⟨#[]⟩, ⟨#[104, 105, 100]⟩, ⟨#[110, 105, 99]⟩] : List ByteArray), y.size ≤ 1000 by decide) dr hm_); clear hm_
 have HK3 := Lib.hid (show k + 1 + 1 + 1 ≤ 2 ^ 40 by have := HK.out; omega)
 go_wp2_with fail
 refine (One_lit [⟨#[]⟩, ⟨#[117, 115, 98, 58, 118, 49]⟩, ⟨#[112, 99, 105, 58, 100, 50]⟩, ⟨#[117, 115, 98, 58, 118, 50]⟩] xs (k + 1 + 1 + 1) B b _ _ _ _ rfl rfl HK3.out HTa2.out (by decide) (by decide)).mono ?_
 rintro e a3 ⟨al, hm_, rfl, ht_, hg_⟩
 have HTa3 := Lib.hid ht_; have HGa3 := Lib.hid (grown_trans HGa2.out hg_)
 have HXta3 := Lib.hid (HXta2.out.kept hg_ (fun e => by have := Option.some.inj e; have := HBW.out.1; omega)); have HXra3 := Lib.hid (HXra2.out.kept hg_ (fun e => by have := Option.some.inj e; have := HBW.out.1; have := HGw1.out; omega)); clear ht_ hg_
 have HMal := Lib.hid ((show ∀ y ∈ ([⟨#[]⟩, ⟨#[117, 115, 98, 58, 118, 49]⟩, ⟨#[112, 99, 105, 58, 100, 50]⟩, ⟨#[117, 115, 98, 58, 118, 50]⟩] : List ByteArray), y.size ≤ 1000 by decide) al hm_); clear hm_
 have HK4 := Lib.hid (show k + 1 + 1 + 1 + 1 ≤ 2 ^ 39 by have := HK.out; omega)
 go_wp2_with fail
 refine (Attrs_any xs (k + 1 + 1 + 1 + 1) B b _ HK4.out HTa3.out).mono ?_
 rintro e a4 ⟨va, l, j, rfl, hown_, hfew_, hj_, ht_, hg_⟩
 have HTa4 := Lib.hid ht_; have HGa4 := Lib.hid (grown_trans HGa3.out hg_)
 have HXta4 := Lib.hid (HXta3.out.kept hg_ (fun e => by have := Option.some.inj e; have := HBW.out.1; omega)); have HXra4 := Lib.hid (HXra3.out.kept hg_ (fun e => by have := Option.some.inj e; have := HBW.out.1; have := HGw1.out; omega)); clear ht_ hg_
 have HFEW := Lib.hid hfew_; have HJ := Lib.hid hj_; have HOWN := Lib.hid hown_; clear hfew_ hj_ hown_
 obtain ⟨A5, c5, hv, hsl⟩ := HOWN.out.cs
 subst hv
 have HSL := Lib.hid (hsl.mono (S' := fun x => a3.heap.size ≤ x ∧ x < a4.heap.size) (fun x hx => ⟨by rcases hx with ⟨h | h, _⟩; exact h.elim; exact h, hx.2⟩) (fun _ _ _ _ hu => hu)); clear hsl
 go_upto_region 2 with fail
 obtain ⟨a6, ha6⟩ : ∃ a6, a4.alloc (.cells #[.int .i64 1, .int .i64 0, .string ByteArray.empty, .string ByteArray.empty, .string su, .string dr, .string al, .int .i64 (1 + kn), .int .i64 0, .slice A5 l.length c5] 84) = a6 := ⟨_, rfl⟩
 have hb5 : Below a4.heap.size a4 a6 := by rw [← ha6]; exact (Below.refl _ _).alloc (Nat.le_refl _) _
 have hx6 : BoxL a6 a4.heap.size [.int .i64 1, .int .i64 0, .string ByteArray.empty, .string ByteArray.empty, .string su, .string dr, .string al, .int .i64 (1 + kn), .int .i64 0, .slice A5 l.length c5] := box_mk ha6
 try simp only [ha6]
 have HST := Lib.hid (show StD w B b xs (k + 1 + 1 + 1 + 1 + j) w.heap.size w1.heap.size a4.heap.size (.slice A L.length c) [.int .i64 1, .int .i64 0, .string ByteArray.empty, .string ByteArray.empty, .string su, .string dr, .string al, .int .i64 (1 + kn), .int .i64 0, .slice A5 l.length c5] (fun x => a3.heap.size ≤ x ∧ x < a4.heap.size) A5 c5 l a6 from ⟨HTa4.out.kept (grown_none hb5) (fun e => by cases e) (fun g e => by cases e), grown_below HGa4.out hb5, HXta4.out.kept (grown_none hb5) (fun e => by cases e), HXra4.out.kept (grown_none hb5) (fun e => by cases e), hx6, HSL.out.below hb5 (fun x hx => hx.2), fun x hx => by have := hb5.size; omega⟩); clear ha6 hx6 hb5
 have HDK := Lib.hid (show DvK w B b w.heap.size w1.heap.size a4.heap.size (fun x => a3.heap.size ≤ x ∧ x < a4.heap.size) from ⟨HBW.out.1, HBW.out.2, Nat.le_refl _, by have := HGw1.out; omega, by have h := HXra4.out.2.2; have := HGa4.out.size; have := HXra3.out.2.2; omega, fun x hx => by have := HXra3.out.2.2; omega⟩)
 obtain ⟨kd, hkd⟩ : ∃ z, 1 + kn = z := ⟨_, rfl⟩
 have hkd1 : 1 ≤ kd ∧ kd ≤ 4 := by omega
 rw [hkd] at HST
 try simp only [hkd]
 have HKD := Lib.hid hkd1; clear hkd hkd1 hkn0 hkn1
 go_wp2_with fail
 go_loopw [6] (fun i wr => ∃ (q : Nat) (ix : Int), q ≤ L.length ∧ i = .int .i64 q ∧ (1 ≤ ix ∧ ix ≤ 1073741825) ∧ Hid (StD w B b xs (k + 1 + 1 + 1 + 1 + j) w.heap.size w1.heap.size a4.heap.size (.slice A L.length c) [.int .i64 ix, .int .i64 0, .string ByteArray.empty, .string ByteArray.empty, .string su, .string dr, .string al, .int .i64 kd, .int .i64 0, .slice A5 l.length c5] (fun x => a3.heap.size ≤ x ∧ x < a4.heap.size) A5 c5 l wr)) (fun i _ => L.length - (intOf i).toNat)
 case atStart => exact ⟨0, 1, Nat.zero_le _, rfl, ⟨by omega, by omega⟩, HST⟩
 case round =>
  obtain ⟨q, ix, hq, rfl, hix, HST⟩ := hrel
  have t0 := HST.out.2.2.1.1 0 _ rfl; have x0 := HST.out.2.2.2.2.1.1 0 _ rfl; have xf := HST.out.2.2.2.2.1.2.1
  by_cases hlt : q < L.length
  ·
   have i1 : (q : Int) < (L.length : Int) := by omega
   obtain ⟨b3, o3, rfl, hb3, A2, c2, -, -, hdc⟩ := (HTR.out.tape HST.out.2.1).out.dev hlt
   obtain ⟨y, hy⟩ : ∃ y, L[q]'hlt = y := ⟨_, rfl⟩
   have hyb := HL.out _ (List.getElem_mem hlt)
   rw [hy] at hyb hdc
   have y0 := hdc.1
   clear hdc hy
   go_wp2_with fail
   have hwr : IntKind.i64.wrap (y.idx + 1) = y.idx + 1 := IntWalk.i64_in _ (by omega)
   go_still_tail 10, (by kernel_rfl)
   clear t0 x0 y0 xf
   change wpList _ _ _ _ _ wr.drew
   obtain ⟨wd, hwd⟩ : ∃ z, wr.drew = z := ⟨_, rfl⟩
   have HSTd := Lib.hid (hwd ▸ HST.out.drew)
   rw [hwd]; clear hwd
   have x0 := HSTd.out.2.2.2.2.1.1 0 _ rfl; have xf := HSTd.out.2.2.2.2.1.2.1
   have HSTn := Lib.hid (show StD w B b xs (k + 1 + 1 + 1 + 1 + j) w.heap.size w1.heap.size a4.heap.size (.slice (some ⟨b3, o3, none⟩) L.length c) [.int .i64 (max ix (y.idx + 1)), .int .i64 0, .string ByteArray.empty, .string ByteArray.empty, .string su, .string dr, .string al, .int .i64 kd, .int .i64 0, .slice A5 l.length c5] (fun x => a3.heap.size ≤ x ∧ x < a4.heap.size) A5 c5 l (wd.setCell ⟨a4.heap.size, 0, none⟩ (.int .i64 (max ix (y.idx + 1)))) from HSTd.out.set_ HDK.out (j := 0) (by simp) _)
   go_wp2
   go_roundw
   case rel => exact ⟨q + 1, max ix (y.idx + 1), by omega, by go_num, ⟨by omega, by omega⟩, HSTn⟩
   case measure => simp [intOf]; omega
  ·
   have i1 : ¬ (q : Int) < (L.length : Int) := by omega
   have HIX := Lib.hid hix; clear hix
   go_upto_region 7 with fail
   go_cut [50] (fun s50 wx => ∃ (fl : Bool) (kx : Nat), s50 = .bool fl ∧ Hid (FlOk fl L.length) ∧ kx ≤ k + 1 + 1 + 1 + 1 + j + 1 ∧ Hid (StD w B b xs (kx) w.heap.size w1.heap.size a4.heap.size (.slice A L.length c) [.int .i64 ix, .int .i64 0, .string ByteArray.empty, .string ByteArray.empty, .string su, .string dr, .string al, .int .i64 kd, .int .i64 0, .slice A5 l.length c5] (fun x => a3.heap.size ≤ x ∧ x < a4.heap.size) A5 c5 l wx))
   case first =>
    clear i1 t0 x0 xf
    by_cases hn : 0 < L.length
    ·
     have i2 : (0 : Int) < (L.length : Int) := by omega
     have HK5 := Lib.hid (show k + 1 + 1 + 1 + 1 + j ≤ 2 ^ 40 by have := HK.out; have := HJ.out; omega)
     go_wp2_with fail
     refine (Next_lit 4 xs (k + 1 + 1 + 1 + 1 + j) B b _ HK5.out HST.out.1 (by omega) (by omega)).mono ?_
     rintro e b1 ⟨fz, hf0, hf1, rfl, ht_, hg_⟩
     have HST1 := Lib.hid (HST.out.tape HDK.out ht_ hg_); clear ht_ hg_
     have HN := Lib.hid (show FlOk (decide (0 < fz)) L.length from fun _ => hn)
     go_wp2_with fail
     go_meet
     exact ⟨decide (0 < fz), k + 1 + 1 + 1 + 1 + j + 1, rfl, HN, Nat.le_refl _, HST1⟩
    ·
     have i2 : ¬ (0 : Int) < (L.length : Int) := by omega
     have HN := Lib.hid (show FlOk false L.length from fun h => by cases h)
     go_wp2_with fail
     go_meet
     exact ⟨false, k + 1 + 1 + 1 + 1 + j, rfl, HN, by omega, HST⟩
   case rest =>
   obtain ⟨fl, kx, rfl, HFL, hkx, HSTz⟩ := hcut
   have HKX := Lib.hid hkx; clear hkx HST i1 t0 x0 xf
   go_upto_if 50 with fail
   go_cut [] (fun wx => ∃ (pr : Int) (kx : Nat), (0 ≤ pr ∧ pr ≤ 1073741824) ∧ kx ≤ k + 1 + 1 + 1 + 1 + j + 2 ∧ Hid (StD w B b xs (kx) w.heap.size w1.heap.size a4.heap.size (.slice A L.length c) [.int .i64 ix, .int .i64 pr, .string ByteArray.empty, .string ByteArray.empty, .string su, .string dr, .string al, .int .i64 kd, .int .i64 0, .slice A5 l.length c5] (fun x => a3.heap.size ≤ x ∧ x < a4.heap.size) A5 c5 l wx))
   case first =>
    cases fl with
    | false =>
     go_wp2_with fail
     go_meet
     exact ⟨0, kx, ⟨by omega, by omega⟩, by have := HKX.out; omega, HSTz⟩
    | true =>
     have hn := HFL.out rfl
     have HKX2 := Lib.hid (show kx ≤ 2 ^ 40 by have := HK.out; have := HJ.out; have := HKX.out; omega)
     go_wp2_with fail
     have HSTd := Lib.hid HSTz.out.drew; have HL1 := Lib.hid (show (L.length : Int) ≤ 1000000 by have := HLL.out; omega); have HL2 := Lib.hid (show (1 : Int) ≤ (L.length : Int) by omega)
     refine wp_region_held_drew (S := fun w' => BoxL w' w.heap.size [.slice A L.length c]) (by kernel_rfl) HSTd.out.2.2.1 (fun hS0 => ?_)
     refine wpAnyH_take (i := 0) (oi := ⟨some 51, _, _, _, _, _⟩) (v := .pointer (some ⟨w.heap.size, 0, none⟩)) rfl (by kernel_rfl) (by kernel_rfl) (by kernel_rfl) (fun _ _ _ h => h) (Or.inl ⟨by rfl, fun w' hS => by go_simp⟩) (by assumption) ?_
     try simp only [Act.put, List.setIfInBounds_toArray, List.set_cons_zero, List.set_cons_succ]
     refine wpAnyH_take (i := 1) (oi := ⟨some 52, _, _, _, _, _⟩) (v := .slice A L.length c) rfl (by kernel_rfl) (by kernel_rfl) (by kernel_rfl) (fun _ _ _ h => h) (Or.inl ⟨by rfl, fun w' hS => by (have u := hS.1 0 _ rfl; go_simp)⟩) (by assumption) ?_
     try simp only [Act.put, List.setIfInBounds_toArray, List.set_cons_zero, List.set_cons_succ]
     refine wpAnyH_take (i := 2) (oi := ⟨some 53, _, _, _, _, _⟩) (v := .pointer (some ⟨b, 0, none⟩)) rfl (by kernel_rfl) (by kernel_rfl) (by kernel_rfl) (fun _ _ _ h => h) (Or.inl ⟨by rfl, fun w' hS => by go_simp⟩) (by assumption) ?_
     try simp only [Act.put, List.setIfInBounds_toArray, List.set_cons_zero, List.set_cons_succ]
     refine wpAnyH_take (i := 3) (oi := ⟨some 54, _, _, _, _, _⟩) (v := .int .i64 L.length) rfl (by kernel_rfl) (by kernel_rfl) (by kernel_rfl) (fun _ _ _ h => h) (Or.inl ⟨by rfl, fun w' hS => by go_simp⟩) (by assumption) ?_
     try simp only [Act.put, List.setIfInBounds_toArray, List.set_cons_zero, List.set_cons_succ]
     refine wpAnyH_ready (rs := [4]) (by kernel_rfl) (by simp) ?_
     refine AllReadyH.cons (o := ⟨some 55, .call ⟨_, _, _⟩, _, _, _, _⟩) rfl (fun K hK => ?_) AllReadyH.nil
     go_simp
     go_at_call 12
     refine (Next_lit (L.length : Int) xs kx B b _ HKX2.out HSTd.out.1 HL2.out HL1.out).mono ?_
     rintro e' b2 ⟨m, hm0, hm1, rfl, ht_, hg_⟩
     have HST2 := Lib.hid (HSTd.out.tape HDK.out ht_ hg_); clear ht_ hg_
     refine hK.out _ _ HST2.out.2.2.1 (fun _ => ?_)
     clear hK K
     try simp only [Act.put, List.setIfInBounds_toArray, List.set_cons_zero, List.set_cons_succ]
     obtain ⟨m, rfl⟩ := Int.eq_ofNat_of_zero_le hm0
     have hml : m < L.length := by omega
     obtain ⟨b3, o3, rfl, hb3, A2, c2, -, -, hdc⟩ := (HTR.out.tape HST2.out.2.1).out.dev hml
     obtain ⟨y, hy⟩ : ∃ y, L[m]'hml = y := ⟨_, rfl⟩
     have hyb := HL.out _ (List.getElem_mem hml)
     rw [hy] at hyb hdc
     have y0 := hdc.1
     have HYB := Lib.hid hyb; clear hdc hy hyb hm1
     have i3 : (m : Int) < (L.length : Int) := by omega
     refine wpAnyH_take (i := 5) (oi := ⟨some 56, _, _, _, _, _⟩) (v := .pointer (some ⟨b3, o3 + m * 10, none⟩)) rfl (by kernel_rfl) (by kernel_rfl) (by kernel_rfl) (fun _ _ _ h => h) (Or.inl ⟨by rfl, fun w' hS => by go_simp⟩) HST2.out.2.2.1 ?_
     try simp only [Act.put, List.setIfInBounds_toArray, List.set_cons_zero, List.set_cons_succ]
     refine wpAnyH_take (i := 6) (oi := ⟨some 57, _, _, _, _, _⟩) (v := .pointer (some ⟨b3, o3 + m * 10, none⟩)) rfl (by kernel_rfl) (by kernel_rfl) (by kernel_rfl) (fun _ _ _ h => h) (Or.inl ⟨by rfl, fun w' hS => by go_simp⟩) HST2.out.2.2.1 ?_
     try simp only [Act.put, List.setIfInBounds_toArray, List.set_cons_zero, List.set_cons_succ]
     refine wpAnyH_ready (rs := [7]) (by kernel_rfl) (by simp) ?_
     refine AllReadyH.cons (o := ⟨some 58, .load _ _, _, _, _, _⟩) rfl (fun K hK => ?_) AllReadyH.nil
     go_simp
     refine hK.out _ _ HST2.out.2.2.1 (fun _ => ?_)
     clear hK K
     try simp only [Act.put, List.setIfInBounds_toArray, List.set_cons_zero, List.set_cons_succ]
     refine wpAnyH_take (i := 8) (oi := ⟨some 59, _, _, _, _, _⟩) (v := .pointer (some ⟨a4.heap.size, 1, none⟩)) rfl (by kernel_rfl) (by kernel_rfl) (by kernel_rfl) (fun _ _ _ h => h) (Or.inl ⟨by rfl, fun w' hS => by go_simp⟩) HST2.out.2.2.1 ?_
     try simp only [Act.put, List.setIfInBounds_toArray, List.set_cons_zero, List.set_cons_succ]
     have x1 := HST2.out.2.2.2.2.1.1 1 _ rfl; have xf := HST2.out.2.2.2.2.1.2.1
     have HST3 := Lib.hid (show StD w B b xs (kx + 1) w.heap.size w1.heap.size a4.heap.size (.slice (some ⟨b3, o3, none⟩) L.length c) [.int .i64 ix, .int .i64 y.idx, .string ByteArray.empty, .string ByteArray.empty, .string su, .string dr, .string al, .int .i64 kd, .int .i64 0, .slice A5 l.length c5] (fun x => a3.heap.size ≤ x ∧ x < a4.heap.size) A5 c5 l (b2.setCell ⟨a4.heap.size, 1, none⟩ (.int .i64 y.idx)) from HST2.out.set_ HDK.out (j := 1) (by simp) _)
     refine wpAnyH_ready (rs := [9]) (by kernel_rfl) (by simp) ?_
     refine AllReadyH.cons (o := ⟨none, .store _ _ _, _, _, _, _⟩) rfl (fun K hK => ?_) AllReadyH.nil
     go_simp
     refine hK.out _ _ HST3.out.2.2.1 (fun _ => ?_)
     clear hK K
     try simp only [Act.put, List.setIfInBounds_toArray, List.set_cons_zero, List.set_cons_succ]
     refine wpAnyH_done (by kernel_rfl) ?_ _
     go_wp2_with fail
     go_meet
     exact ⟨y.idx, kx + 1, HYB.out, by have := HKX.out; omega, HST3⟩
   case rest =>
   obtain ⟨pr, kx, hpr, hkx, HSTq⟩ := hcut
   have HPR := Lib.hid hpr; have HKX3 := Lib.hid hkx; clear hpr hkx HSTz HFL HKX
   have hkd := HKD.out
   have x7 := HSTq.out.2.2.2.2.1.1 7 _ rfl
   have hc4 : kd = 1 ∨ kd = 2 ∨ kd = 3 ∨ kd = 4 := by omega
   clear hkd HKD
   rcases hc4 with rfl | rfl | rfl | rfl
   ·
    go_upto_region 10 with fail
    clear x7
    go_wp2_with fail
    refine (One_lit [⟨#[112, 99, 105, 48]⟩, ⟨#[117, 115, 98, 49]⟩, ⟨#[49, 45, 49]⟩, ⟨#[112, 111, 114, 116]⟩] xs (kx) B b _ _ _ _ rfl rfl (by have := HK.out; have := HJ.out; have := HKX3.out; omega) HSTq.out.1 (by simp) (by simp)).mono ?_
    rintro e y1 ⟨o1, hm_, rfl, ht_, hg_⟩
    have HSTy1 := Lib.hid (HSTq.out.tape HDK.out ht_ hg_); have HMo1 := Lib.hid ((show ∀ y ∈ ([⟨#[112, 99, 105, 48]⟩, ⟨#[117, 115, 98, 49]⟩, ⟨#[49, 45, 49]⟩, ⟨#[112, 111, 114, 116]⟩] : List ByteArray), y.size ≤ 1000 by decide) _ hm_); clear ht_ hg_ hm_
    have x3 := HSTy1.out.2.2.2.2.1.1 3 _ rfl
    have xf := HSTy1.out.2.2.2.2.1.2.1
    go_upto_region 24 with fail
    clear x3 xf
    obtain ⟨y2, hy2⟩ : ∃ z, y1.setCell ⟨a4.heap.size, 3, none⟩ (.string o1) = z := ⟨_, rfl⟩
    have HSTy2 := Lib.hid (show StD w B b xs (kx + 1) w.heap.size w1.heap.size a4.heap.size (.slice A L.length c) [.int .i64 ix, .int .i64 pr, .string ByteArray.empty, .string o1, .string su, .string dr, .string al, .int .i64 1, .int .i64 0, .slice A5 l.length c5] (fun x => a3.heap.size ≤ x ∧ x < a4.heap.size) A5 c5 l y2 from hy2 ▸ HSTy1.out.set_ HDK.out (j := 3) (by simp) (.string o1))
    try simp only [hy2]
    clear hy2
    have x3 := HSTy2.out.2.2.2.2.1.1 3 _ rfl
    have x2 := HSTy2.out.2.2.2.2.1.1 2 _ rfl
    have xf := HSTy2.out.2.2.2.2.1.2.1
    go_upto_region 25 with fail
    clear x3 x2 xf
    obtain ⟨y3, hy3⟩ : ∃ z, y2.setCell ⟨a4.heap.size, 2, none⟩ (.string o1) = z := ⟨_, rfl⟩
    have HSTy3 := Lib.hid (show StD w B b xs (kx + 1) w.heap.size w1.heap.size a4.heap.size (.slice A L.length c) [.int .i64 ix, .int .i64 pr, .string o1, .string o1, .string su, .string dr, .string al, .int .i64 1, .int .i64 0, .slice A5 l.length c5] (fun x => a3.heap.size ≤ x ∧ x < a4.heap.size) A5 c5 l y3 from hy3 ▸ HSTy2.out.set_ HDK.out (j := 2) (by simp) (.string o1))
    try simp only [hy3]
    clear hy3
    have x0 := HSTy3.out.2.2.2.2.1.1 0 _ rfl
    have x1 := HSTy3.out.2.2.2.2.1.1 1 _ rfl
    have x2 := HSTy3.out.2.2.2.2.1.1 2 _ rfl
    have x3 := HSTy3.out.2.2.2.2.1.1 3 _ rfl
    have x4 := HSTy3.out.2.2.2.2.1.1 4 _ rfl
    have x5 := HSTy3.out.2.2.2.2.1.1 5 _ rfl
    have x6 := HSTy3.out.2.2.2.2.1.1 6 _ rfl
    have x7 := HSTy3.out.2.2.2.2.1.1 7 _ rfl
    have x8 := HSTy3.out.2.2.2.2.1.1 8 _ rfl
    have x9 := HSTy3.out.2.2.2.2.1.1 9 _ rfl
    have z_ := HSTy3.out.2.2.2.1
    have z0 := z_.1 0 _ rfl
    have z1 := z_.1 1 _ rfl
    have z2 := z_.1 2 _ rfl
    have z3 := z_.1 3 _ rfl
    have z4 := z_.1 4 _ rfl
    have z5 := z_.1 5 _ rfl
    have z6 := z_.1 6 _ rfl
    have z7 := z_.1 7 _ rfl
    have z8 := z_.1 8 _ rfl
    have z9 := z_.1 9 _ rfl
    have zf := z_.2.1
    clear z_
    go_wp2
    obtain ⟨f1, f2, f3⟩ := set10_ind (fun w' => TapeAt w' B b xs (kx + 1) ∧ w.grownBy w' (some b) ∧ SlS w' (fun x => a3.heap.size ≤ x ∧ x < a4.heap.size) A5 c5 l ∧ y3.heap.size ≤ w'.heap.size) (w := y3) (g := w1.heap.size)
     (fun w' j v ⟨h1, h2, h3, h4⟩ => ⟨h1.set_ (by have := HBW.out; have := HGw1.out; omega) (by have := HBW.out; have := HGw1.out; omega) v, grown_set h2 (by have := HGw1.out; omega) v, h3.set_ (fun x hx => by have := (HDK.out.s x hx).1; omega) v, by simpa using h4⟩) ⟨HSTy3.out.1, HSTy3.out.2.1, HSTy3.out.2.2.2.2.2.1, Nat.le_refl _⟩ (.int .i64 ix) (.int .i64 pr) (.string o1) (.string o1) (.string su) (.string dr) (.string al) (.int .i64 1) (.int .i64 0) (.slice A5 l.length c5)
    refine bodyPost_ret (v := .agg #[.int .i64 ix, .int .i64 pr, .string o1, .string o1, .string su, .string dr, .string al, .int .i64 1, .int .i64 0, .slice A5 l.length c5]) (by simp [results, Tryz.results54, go_sem, z0, z1, z2, z3, z4, z5, z6, z7, z8, z9, zf]) rfl ⟨⟨ix, pr, o1, o1, su, dr, al, 1, 0, l⟩, A5, c5, _, rfl, ?_, f3.1.mono (fun x hx => ⟨by have := (HDK.out.s x hx).1; have := HGw1.out; omega, by have := HSTy3.out.2.2.2.2.2.2 x hx; have := f3.2; omega⟩) (fun _ _ _ _ hu => hu), by have := HKX3.out; have := HJ.out; omega, f1, f2⟩
    have a1 := HIX.out; have a2 := HPR.out; have a3 := HMsu.out; have a4 := HMdr.out; have a5 := HMal.out; have a6 := HFEW.out
    refine ⟨⟨?_, ?_⟩, ⟨?_, ?_⟩, ?_, ?_, ?_, ?_, ?_, ⟨?_, ?_⟩, ⟨?_, ?_⟩, ⟨?_, a6.2⟩⟩
    all_goals simp only
    all_goals first | omega | (have := a6.1; omega) | exact HMo1.out | exact a3 | exact a4 | exact a5 | decide
   ·
    go_upto_region 17 with fail
    clear x7
    have x4 := HSTq.out.2.2.2.2.1.1 4 _ rfl
    have xf := HSTq.out.2.2.2.2.1.2.1
    go_upto_region 18 with fail
    clear x4 xf
    obtain ⟨y1, hy1⟩ : ∃ z, wc.setCell ⟨a4.heap.size, 4, none⟩ (.string ⟨#[98, 108, 111, 99, 107]⟩) = z := ⟨_, rfl⟩
    have HSTy1 := Lib.hid (show StD w B b xs (kx) w.heap.size w1.heap.size a4.heap.size (.slice A L.length c) [.int .i64 ix, .int .i64 pr, .string ByteArray.empty, .string ByteArray.empty, .string ⟨#[98, 108, 111, 99, 107]⟩, .string dr, .string al, .int .i64 2, .int .i64 0, .slice A5 l.length c5] (fun x => a3.heap.size ≤ x ∧ x < a4.heap.size) A5 c5 l y1 from hy1 ▸ HSTq.out.set_ HDK.out (j := 4) (by simp) (.string ⟨#[98, 108, 111, 99, 107]⟩))
    try simp only [hy1]
    clear hy1
    go_wp2_with fail
    refine (One_lit [⟨#[115, 100, 97]⟩, ⟨#[115, 100, 98]⟩, ⟨#[115, 100, 97, 49]⟩, ⟨#[115, 100, 97, 50]⟩, ⟨#[99, 33, 100, 48]⟩] xs (kx) B b _ _ _ _ rfl rfl (by have := HK.out; have := HJ.out; have := HKX3.out; omega) HSTy1.out.1 (by simp) (by simp)).mono ?_
    rintro e y2 ⟨o1, hm_, rfl, ht_, hg_⟩
    have HSTy2 := Lib.hid (HSTy1.out.tape HDK.out ht_ hg_); have HMo1 := Lib.hid ((show ∀ y ∈ ([⟨#[115, 100, 97]⟩, ⟨#[115, 100, 98]⟩, ⟨#[115, 100, 97, 49]⟩, ⟨#[115, 100, 97, 50]⟩, ⟨#[99, 33, 100, 48]⟩] : List ByteArray), y.size ≤ 1000 by decide) _ hm_); clear ht_ hg_ hm_
    have x3 := HSTy2.out.2.2.2.2.1.1 3 _ rfl
    have xf := HSTy2.out.2.2.2.2.1.2.1
    go_upto_region 19 with fail
    clear x3 xf
    obtain ⟨y3, hy3⟩ : ∃ z, y2.setCell ⟨a4.heap.size, 3, none⟩ (.string o1) = z := ⟨_, rfl⟩
    have HSTy3 := Lib.hid (show StD w B b xs (kx + 1) w.heap.size w1.heap.size a4.heap.size (.slice A L.length c) [.int .i64 ix, .int .i64 pr, .string ByteArray.empty, .string o1, .string ⟨#[98, 108, 111, 99, 107]⟩, .string dr, .string al, .int .i64 2, .int .i64 0, .slice A5 l.length c5] (fun x => a3.heap.size ≤ x ∧ x < a4.heap.size) A5 c5 l y3 from hy3 ▸ HSTy2.out.set_ HDK.out (j := 3) (by simp) (.string o1))
    try simp only [hy3]
    clear hy3
    go_wp2_with fail
    refine (Next_lit 9 xs (kx + 1) B b _ (by have := HK.out; have := HJ.out; have := HKX3.out; omega) HSTy3.out.1 (by omega) (by omega)).mono ?_
    rintro e y4 ⟨nn, hnn0, hnn1, rfl, ht_, hg_⟩
    have HSTy4 := Lib.hid (HSTy3.out.tape HDK.out ht_ hg_); clear ht_ hg_
    have x8 := HSTy4.out.2.2.2.2.1.1 8 _ rfl
    have xf := HSTy4.out.2.2.2.2.1.2.1
    go_upto_region 20 with fail
    clear x8 xf
    obtain ⟨y5, hy5⟩ : ∃ z, y4.setCell ⟨a4.heap.size, 8, none⟩ (.int .i64 (1 + nn)) = z := ⟨_, rfl⟩
    have HSTy5 := Lib.hid (show StD w B b xs (kx + 1 + 1) w.heap.size w1.heap.size a4.heap.size (.slice A L.length c) [.int .i64 ix, .int .i64 pr, .string ByteArray.empty, .string o1, .string ⟨#[98, 108, 111, 99, 107]⟩, .string dr, .string al, .int .i64 2, .int .i64 (1 + nn), .slice A5 l.length c5] (fun x => a3.heap.size ≤ x ∧ x < a4.heap.size) A5 c5 l y5 from hy5 ▸ HSTy4.out.set_ HDK.out (j := 8) (by simp) (.int .i64 (1 + nn)))
    try simp only [hy5]
    clear hy5
    go_wp2_with fail
    have HSTd := Lib.hid HSTy5.out.drew
    refine wp_region_held_drew (S := fun w' => True) (by kernel_rfl) trivial (fun hS0 => ?_)
    obtain ⟨wd, hwd⟩ : ∃ z, y5.drew = z := ⟨_, rfl⟩
    rw [hwd] at HSTd ⊢
    clear hwd
    refine wpAnyH_take (i := 0) (oi := ⟨some 93, _, _, _, _, _⟩) (v := .pointer (some ⟨a4.heap.size, 9, none⟩)) rfl (by kernel_rfl) (by kernel_rfl) (by kernel_rfl) (fun _ _ _ h => h) (Or.inl ⟨by rfl, fun w' hS => by go_simp⟩) trivial ?_
    try simp only [Act.put, List.setIfInBounds_toArray, List.set_cons_zero, List.set_cons_succ]
    refine wpAnyH_take (i := 2) (oi := ⟨some 95, _, _, _, _, _⟩) (v := .pointer (some ⟨b, 0, none⟩)) rfl (by kernel_rfl) (by kernel_rfl) (by kernel_rfl) (fun _ _ _ h => h) (Or.inl ⟨by rfl, fun w' hS => by go_simp⟩) trivial ?_
    try simp only [Act.put, List.setIfInBounds_toArray, List.set_cons_zero, List.set_cons_succ]
    refine wpAnyH_ready (rs := [1, 3]) (by kernel_rfl) (by simp) ?_
    refine AllReadyH.cons (o := ⟨some 94, .load _ _, _, _, _, _⟩) rfl (fun K hK => ?_) (AllReadyH.cons (o := ⟨some 96, .call ⟨_, _, _⟩, _, _, _, _⟩) rfl (fun K hK => ?_) AllReadyH.nil)
    ·
     have x9 := HSTd.out.2.2.2.2.1.1 9 _ rfl
     go_simp
     refine hK.out _ _ trivial (fun _ => ?_)
     clear hK K
     try simp only [Act.put, List.setIfInBounds_toArray, List.set_cons_zero, List.set_cons_succ]
     clear x9
     refine wpAnyH_ready (rs := [3]) (by kernel_rfl) (by simp) ?_
     refine AllReadyH.cons (o := ⟨some 96, .call ⟨_, _, _⟩, _, _, _, _⟩) rfl (fun K hK => ?_) AllReadyH.nil
     go_simp
     go_at_call 100
     refine (Contents_any _).mono ?_
     rintro e' w' ⟨rfl, rfl⟩
     refine hK.out _ _ trivial (fun _ => ?_)
     clear hK K
     try simp only [Act.put, List.setIfInBounds_toArray, List.set_cons_zero, List.set_cons_succ]
     have HSTc := Lib.hid (HSTd.out.below ((Below.refl _ _).alloc (Nat.le_refl _) (.cells #[.string ⟨#[]⟩, .string ⟨#[102, 115, 58, 117, 49, 58, 114, 111, 111, 116]⟩, .string ⟨#[102, 115, 58, 117, 50, 58]⟩, .string ⟨#[114, 97, 105, 100, 58, 114, 49, 58, 49, 47, 50, 47, 49, 40, 102, 115, 58, 117, 51, 58, 100, 97, 116, 97, 41]⟩, .string ⟨#[114, 97, 105, 100, 58, 114, 49, 58, 50, 47, 50, 47, 49, 40, 102, 115, 58, 117, 51, 58, 100, 97, 116, 97, 41]⟩, .string ⟨#[99, 114, 121, 112, 116, 58, 99, 49, 40, 102, 115, 58, 117, 52, 58, 41]⟩, .string ⟨#[112, 118, 58, 103, 49, 58, 49, 47, 49, 40, 102, 115, 58, 117, 53, 58, 44, 41]⟩, .string ⟨#[116, 97, 98, 108, 101, 58, 116, 49, 40, 102, 115, 58, 117, 54, 58, 98, 111, 111, 116, 44, 114, 97, 105, 100, 58, 114, 49, 58, 50, 47, 50, 47, 49, 40, 102, 115, 58, 117, 51, 58, 100, 97, 116, 97, 41, 41]⟩, .string ⟨#[98, 97, 100, 40]⟩] 9)))
     refine wpAnyH_ready (rs := [4]) (by kernel_rfl) (by simp) ?_
     refine AllReadyH.cons (o := ⟨some 97, .call ⟨_, _, _⟩, _, _, _, _⟩) rfl (fun K hK => ?_) AllReadyH.nil
     go_simp
     go_at_call 13
     refine (One_lit contL xs (kx + 1 + 1) B b _ _ _ _ rfl rfl (by have := HK.out; have := HJ.out; have := HKX3.out; omega) HSTd.out.1 (by decide) (by decide)).mono ?_
     rintro e' y7 ⟨cv, hm_, rfl, ht_, hg_⟩
     have HSTy7 := Lib.hid (HSTd.out.tape HDK.out ht_ hg_); have HMcv := Lib.hid ((show ∀ y ∈ contL, y.size ≤ 1000 by decide) _ hm_); clear ht_ hg_ hm_
     refine hK.out _ _ trivial (fun _ => ?_)
     clear hK K
     try simp only [Act.put, List.setIfInBounds_toArray, List.set_cons_zero, List.set_cons_succ]
     refine wpAnyH_ready (rs := [5]) (by kernel_rfl) (by simp) ?_
     refine AllReadyH.cons (o := ⟨some 98, .call ⟨_, _, _⟩, _, _, _, _⟩) rfl (fun K hK => ?_) AllReadyH.nil
     go_simp
     go_at_call 49
     refine (Set_any A5 c5 l ⟨#[99, 111, 110, 116, 101, 110, 116]⟩ cv _ y7.heap.size (Nat.le_refl _) (HSTy7.out.2.2.2.2.2.1.sl HSTy7.out.2.2.2.2.2.2) (by have := HFEW.out.1; omega) (by decide) (by have := HMcv.out; unfold maxLen; omega)).mono ?_
     rintro e' y8 ⟨hb_, v6, rfl, hown_⟩
     obtain ⟨A6, c6, hv_, hsl_⟩ := hown_.cs
     subst hv_
     have HSTy8 := Lib.hid ((HSTy7.out.below hb_).other (S' := (fun x => y7.heap.size ≤ x ∧ x < y8.heap.size)) (hsl_.mono (fun x hx => ⟨by rcases hx with ⟨h | h, _⟩; exact h.elim; exact h, hx.2⟩) (fun _ _ _ _ hu => hu)) (fun x hx => hx.2))
     have HDK6 := Lib.hid (show DvK w B b w.heap.size w1.heap.size a4.heap.size (fun x => y7.heap.size ≤ x ∧ x < y8.heap.size) from ⟨HDK.out.lt, HDK.out.le, HDK.out.i3, HDK.out.i4, HDK.out.i5, fun x hx => by have := HSTy7.out.2.2.2.2.1.2.2; have := HDK.out.i5; omega⟩)
     have HFEW6 := Lib.hid (show fewA 4 (setA l ⟨#[99, 111, 110, 116, 101, 110, 116]⟩ cv) from HFEW.out.set_ (by decide) HMcv.out)
     clear hb_ hown_ hsl_
     refine hK.out _ _ trivial (fun _ => ?_)
     clear hK K
     try simp only [Act.put, List.setIfInBounds_toArray, List.set_cons_zero, List.set_cons_succ]
     refine wpAnyH_take (i := 6) (oi := ⟨some 99, _, _, _, _, _⟩) (v := .pointer (some ⟨a4.heap.size, 9, none⟩)) rfl (by kernel_rfl) (by kernel_rfl) (by kernel_rfl) (fun _ _ _ h => h) (Or.inl ⟨by rfl, fun w' hS => by go_simp⟩) trivial ?_
     try simp only [Act.put, List.setIfInBounds_toArray, List.set_cons_zero, List.set_cons_succ]
     have x9 := HSTy8.out.2.2.2.2.1.1 9 _ rfl
     have xf := HSTy8.out.2.2.2.2.1.2.1
     refine wpAnyH_ready (rs := [7]) (by kernel_rfl) (by simp) ?_
     refine AllReadyH.cons (o := ⟨none, .store _ _ _, _, _, _, _⟩) rfl (fun K hK => ?_) AllReadyH.nil
     go_simp
     refine hK.out _ _ trivial (fun _ => ?_)
     clear hK K
     try simp only [Act.put, List.setIfInBounds_toArray, List.set_cons_zero, List.set_cons_succ]
     refine wpAnyH_done (by kernel_rfl) ?_ _
     go_upto_region 24 with fail
     clear x9 xf
     obtain ⟨y9, hy9⟩ : ∃ z, y8.setCell ⟨a4.heap.size, 9, none⟩ (.slice A6 (setA l ⟨#[99, 111, 110, 116, 101, 110, 116]⟩ cv).length c6) = z := ⟨_, rfl⟩
     have HSTy9 := Lib.hid (show StD w B b xs (kx + 1 + 1 + 1) w.heap.size w1.heap.size a4.heap.size (.slice A L.length c) [.int .i64 ix, .int .i64 pr, .string ByteArray.empty, .string o1, .string ⟨#[98, 108, 111, 99, 107]⟩, .string dr, .string al, .int .i64 2, .int .i64 (1 + nn), .slice A6 (setA l ⟨#[99, 111, 110, 116, 101, 110, 116]⟩ cv).length c6] (fun x => y7.heap.size ≤ x ∧ x < y8.heap.size) A6 c6 (setA l ⟨#[99, 111, 110, 116, 101, 110, 116]⟩ cv) y9 from hy9 ▸ HSTy8.out.set_ HDK6.out (j := 9) (by simp) (.slice A6 (setA l ⟨#[99, 111, 110, 116, 101, 110, 116]⟩ cv).length c6))
     try simp only [hy9]
     clear hy9
     have x3 := HSTy9.out.2.2.2.2.1.1 3 _ rfl
     have x2 := HSTy9.out.2.2.2.2.1.1 2 _ rfl
     have xf := HSTy9.out.2.2.2.2.1.2.1
     go_upto_region 25 with fail
     clear x3 x2 xf
     obtain ⟨y10, hy10⟩ : ∃ z, y9.setCell ⟨a4.heap.size, 2, none⟩ (.string o1) = z := ⟨_, rfl⟩
     have HSTy10 := Lib.hid (show StD w B b xs (kx + 1 + 1 + 1) w.heap.size w1.heap.size a4.heap.size (.slice A L.length c) [.int .i64 ix, .int .i64 pr, .string o1, .string o1, .string ⟨#[98, 108, 111, 99, 107]⟩, .string dr, .string al, .int .i64 2, .int .i64 (1 + nn), .slice A6 (setA l ⟨#[99, 111, 110, 116, 101, 110, 116]⟩ cv).length c6] (fun x => y7.heap.size ≤ x ∧ x < y8.heap.size) A6 c6 (setA l ⟨#[99, 111, 110, 116, 101, 110, 116]⟩ cv) y10 from hy10 ▸ HSTy9.out.set_ HDK6.out (j := 2) (by simp) (.string o1))
     try simp only [hy10]
     clear hy10
     have x0 := HSTy10.out.2.2.2.2.1.1 0 _ rfl
     have x1 := HSTy10.out.2.2.2.2.1.1 1 _ rfl
     have x2 := HSTy10.out.2.2.2.2.1.1 2 _ rfl
     have x3 := HSTy10.out.2.2.2.2.1.1 3 _ rfl
     have x4 := HSTy10.out.2.2.2.2.1.1 4 _ rfl
     have x5 := HSTy10.out.2.2.2.2.1.1 5 _ rfl
     have x6 := HSTy10.out.2.2.2.2.1.1 6 _ rfl
     have x7 := HSTy10.out.2.2.2.2.1.1 7 _ rfl
     have x8 := HSTy10.out.2.2.2.2.1.1 8 _ rfl
     have x9 := HSTy10.out.2.2.2.2.1.1 9 _ rfl
     have z_ := HSTy10.out.2.2.2.1
     have z0 := z_.1 0 _ rfl
     have z1 := z_.1 1 _ rfl
     have z2 := z_.1 2 _ rfl
     have z3 := z_.1 3 _ rfl
     have z4 := z_.1 4 _ rfl
     have z5 := z_.1 5 _ rfl
     have z6 := z_.1 6 _ rfl
     have z7 := z_.1 7 _ rfl
     have z8 := z_.1 8 _ rfl
     have z9 := z_.1 9 _ rfl
     have zf := z_.2.1
     clear z_
     go_wp2
     obtain ⟨f1, f2, f3⟩ := set10_ind (fun w' => TapeAt w' B b xs (kx + 1 + 1 + 1) ∧ w.grownBy w' (some b) ∧ SlS w' (fun x => y7.heap.size ≤ x ∧ x < y8.heap.size) A6 c6 (setA l ⟨#[99, 111, 110, 116, 101, 110, 116]⟩ cv) ∧ y10.heap.size ≤ w'.heap.size) (w := y10) (g := w1.heap.size)
      (fun w' j v ⟨h1, h2, h3, h4⟩ => ⟨h1.set_ (by have := HBW.out; have := HGw1.out; omega) (by have := HBW.out; have := HGw1.out; omega) v, grown_set h2 (by have := HGw1.out; omega) v, h3.set_ (fun x hx => by have := (HDK6.out.s x hx).1; omega) v, by simpa using h4⟩) ⟨HSTy10.out.1, HSTy10.out.2.1, HSTy10.out.2.2.2.2.2.1, Nat.le_refl _⟩ (.int .i64 ix) (.int .i64 pr) (.string o1) (.string o1) (.string ⟨#[98, 108, 111, 99, 107]⟩) (.string dr) (.string al) (.int .i64 2) (.int .i64 (1 + nn)) (.slice A6 (setA l ⟨#[99, 111, 110, 116, 101, 110, 116]⟩ cv).length c6)
     refine bodyPost_ret (v := .agg #[.int .i64 ix, .int .i64 pr, .string o1, .string o1, .string ⟨#[98, 108, 111, 99, 107]⟩, .string dr, .string al, .int .i64 2, .int .i64 (1 + nn), .slice A6 (setA l ⟨#[99, 111, 110, 116, 101, 110, 116]⟩ cv).length c6]) (by simp [results, Tryz.results54, go_sem, z0, z1, z2, z3, z4, z5, z6, z7, z8, z9, zf]) rfl ⟨⟨ix, pr, o1, o1, ⟨#[98, 108, 111, 99, 107]⟩, dr, al, 2, (1 + nn), (setA l ⟨#[99, 111, 110, 116, 101, 110, 116]⟩ cv)⟩, A6, c6, _, rfl, ?_, f3.1.mono (fun x hx => ⟨by have := (HDK6.out.s x hx).1; have := HGw1.out; omega, by have := HSTy10.out.2.2.2.2.2.2 x hx; have := f3.2; omega⟩) (fun _ _ _ _ hu => hu), by have := HKX3.out; have := HJ.out; omega, f1, f2⟩
     have a1 := HIX.out; have a2 := HPR.out; have a3 := HMsu.out; have a4 := HMdr.out; have a5 := HMal.out; have a6 := HFEW6.out
     refine ⟨⟨?_, ?_⟩, ⟨?_, ?_⟩, ?_, ?_, ?_, ?_, ?_, ⟨?_, ?_⟩, ⟨?_, ?_⟩, ⟨?_, a6.2⟩⟩
     all_goals simp only
     all_goals first | omega | (have := a6.1; omega) | exact HMo1.out | exact a3 | exact a4 | exact a5 | decide
    ·
     go_simp
     go_at_call 100
     refine (Contents_any _).mono ?_
     rintro e' w' ⟨rfl, rfl⟩
     refine hK.out _ _ trivial (fun _ => ?_)
     clear hK K
     try simp only [Act.put, List.setIfInBounds_toArray, List.set_cons_zero, List.set_cons_succ]
     have HSTc := Lib.hid (HSTd.out.below ((Below.refl _ _).alloc (Nat.le_refl _) (.cells #[.string ⟨#[]⟩, .string ⟨#[102, 115, 58, 117, 49, 58, 114, 111, 111, 116]⟩, .string ⟨#[102, 115, 58, 117, 50, 58]⟩, .string ⟨#[114, 97, 105, 100, 58, 114, 49, 58, 49, 47, 50, 47, 49, 40, 102, 115, 58, 117, 51, 58, 100, 97, 116, 97, 41]⟩, .string ⟨#[114, 97, 105, 100, 58, 114, 49, 58, 50, 47, 50, 47, 49, 40, 102, 115, 58, 117, 51, 58, 100, 97, 116, 97, 41]⟩, .string ⟨#[99, 114, 121, 112, 116, 58, 99, 49, 40, 102, 115, 58, 117, 52, 58, 41]⟩, .string ⟨#[112, 118, 58, 103, 49, 58, 49, 47, 49, 40, 102, 115, 58, 117, 53, 58, 44, 41]⟩, .string ⟨#[116, 97, 98, 108, 101, 58, 116, 49, 40, 102, 115, 58, 117, 54, 58, 98, 111, 111, 116, 44, 114, 97, 105, 100, 58, 114, 49, 58, 50, 47, 50, 47, 49, 40, 102, 115, 58, 117, 51, 58, 100, 97, 116, 97, 41, 41]⟩, .string ⟨#[98, 97, 100, 40]⟩] 9)))
     refine wpAnyH_ready (rs := [1, 4]) (by kernel_rfl) (by simp) ?_
     refine AllReadyH.cons (o := ⟨some 94, .load _ _, _, _, _, _⟩) rfl (fun K hK => ?_) (AllReadyH.cons (o := ⟨some 97, .call ⟨_, _, _⟩, _, _, _, _⟩) rfl (fun K hK => ?_) AllReadyH.nil)
     ·
      have x9 := HSTc.out.2.2.2.2.1.1 9 _ rfl
      go_simp
      refine hK.out _ _ trivial (fun _ => ?_)
      clear hK K
      try simp only [Act.put, List.setIfInBounds_toArray, List.set_cons_zero, List.set_cons_succ]
      clear x9
      refine wpAnyH_ready (rs := [4]) (by kernel_rfl) (by simp) ?_
      refine AllReadyH.cons (o := ⟨some 97, .call ⟨_, _, _⟩, _, _, _, _⟩) rfl (fun K hK => ?_) AllReadyH.nil
      go_simp
      go_at_call 13
      refine (One_lit contL xs (kx + 1 + 1) B b _ _ _ _ rfl rfl (by have := HK.out; have := HJ.out; have := HKX3.out; omega) HSTd.out.1 (by decide) (by decide)).mono ?_
      rintro e' y7 ⟨cv, hm_, rfl, ht_, hg_⟩
      have HSTy7 := Lib.hid (HSTd.out.tape HDK.out ht_ hg_); have HMcv := Lib.hid ((show ∀ y ∈ contL, y.size ≤ 1000 by decide) _ hm_); clear ht_ hg_ hm_
      refine hK.out _ _ trivial (fun _ => ?_)
      clear hK K
      try simp only [Act.put, List.setIfInBounds_toArray, List.set_cons_zero, List.set_cons_succ]
      refine wpAnyH_ready (rs := [5]) (by kernel_rfl) (by simp) ?_
      refine AllReadyH.cons (o := ⟨some 98, .call ⟨_, _, _⟩, _, _, _, _⟩) rfl (fun K hK => ?_) AllReadyH.nil
      go_simp
      go_at_call 49
      refine (Set_any A5 c5 l ⟨#[99, 111, 110, 116, 101, 110, 116]⟩ cv _ y7.heap.size (Nat.le_refl _) (HSTy7.out.2.2.2.2.2.1.sl HSTy7.out.2.2.2.2.2.2) (by have := HFEW.out.1; omega) (by decide) (by have := HMcv.out; unfold maxLen; omega)).mono ?_
      rintro e' y8 ⟨hb_, v6, rfl, hown_⟩
      obtain ⟨A6, c6, hv_, hsl_⟩ := hown_.cs
      subst hv_
      have HSTy8 := Lib.hid ((HSTy7.out.below hb_).other (S' := (fun x => y7.heap.size ≤ x ∧ x < y8.heap.size)) (hsl_.mono (fun x hx => ⟨by rcases hx with ⟨h | h, _⟩; exact h.elim; exact h, hx.2⟩) (fun _ _ _ _ hu => hu)) (fun x hx => hx.2))
      have HDK6 := Lib.hid (show DvK w B b w.heap.size w1.heap.size a4.heap.size (fun x => y7.heap.size ≤ x ∧ x < y8.heap.size) from ⟨HDK.out.lt, HDK.out.le, HDK.out.i3, HDK.out.i4, HDK.out.i5, fun x hx => by have := HSTy7.out.2.2.2.2.1.2.2; have := HDK.out.i5; omega⟩)
      have HFEW6 := Lib.hid (show fewA 4 (setA l ⟨#[99, 111, 110, 116, 101, 110, 116]⟩ cv) from HFEW.out.set_ (by decide) HMcv.out)
      clear hb_ hown_ hsl_
      refine hK.out _ _ trivial (fun _ => ?_)
      clear hK K
      try simp only [Act.put, List.setIfInBounds_toArray, List.set_cons_zero, List.set_cons_succ]
      refine wpAnyH_take (i := 6) (oi := ⟨some 99, _, _, _, _, _⟩) (v := .pointer (some ⟨a4.heap.size, 9, none⟩)) rfl (by kernel_rfl) (by kernel_rfl) (by kernel_rfl) (fun _ _ _ h => h) (Or.inl ⟨by rfl, fun w' hS => by go_simp⟩) trivial ?_
      try simp only [Act.put, List.setIfInBounds_toArray, List.set_cons_zero, List.set_cons_succ]
      have x9 := HSTy8.out.2.2.2.2.1.1 9 _ rfl
      have xf := HSTy8.out.2.2.2.2.1.2.1
      refine wpAnyH_ready (rs := [7]) (by kernel_rfl) (by simp) ?_
      refine AllReadyH.cons (o := ⟨none, .store _ _ _, _, _, _, _⟩) rfl (fun K hK => ?_) AllReadyH.nil
      go_simp
      refine hK.out _ _ trivial (fun _ => ?_)
      clear hK K
      try simp only [Act.put, List.setIfInBounds_toArray, List.set_cons_zero, List.set_cons_succ]
      refine wpAnyH_done (by kernel_rfl) ?_ _
      go_upto_region 24 with fail
      clear x9 xf
      obtain ⟨y9, hy9⟩ : ∃ z, y8.setCell ⟨a4.heap.size, 9, none⟩ (.slice A6 (setA l ⟨#[99, 111, 110, 116, 101, 110, 116]⟩ cv).length c6) = z := ⟨_, rfl⟩
      have HSTy9 := Lib.hid (show StD w B b xs (kx + 1 + 1 + 1) w.heap.size w1.heap.size a4.heap.size (.slice A L.length c) [.int .i64 ix, .int .i64 pr, .string ByteArray.empty, .string o1, .string ⟨#[98, 108, 111, 99, 107]⟩, .string dr, .string al, .int .i64 2, .int .i64 (1 + nn), .slice A6 (setA l ⟨#[99, 111, 110, 116, 101, 110, 116]⟩ cv).length c6] (fun x => y7.heap.size ≤ x ∧ x < y8.heap.size) A6 c6 (setA l ⟨#[99, 111, 110, 116, 101, 110, 116]⟩ cv) y9 from hy9 ▸ HSTy8.out.set_ HDK6.out (j := 9) (by simp) (.slice A6 (setA l ⟨#[99, 111, 110, 116, 101, 110, 116]⟩ cv).length c6))
      try simp only [hy9]
      clear hy9
      have x3 := HSTy9.out.2.2.2.2.1.1 3 _ rfl
      have x2 := HSTy9.out.2.2.2.2.1.1 2 _ rfl
      have xf := HSTy9.out.2.2.2.2.1.2.1
      go_upto_region 25 with fail
      clear x3 x2 xf
      obtain ⟨y10, hy10⟩ : ∃ z, y9.setCell ⟨a4.heap.size, 2, none⟩ (.string o1) = z := ⟨_, rfl⟩
      have HSTy10 := Lib.hid (show StD w B b xs (kx + 1 + 1 + 1) w.heap.size w1.heap.size a4.heap.size (.slice A L.length c) [.int .i64 ix, .int .i64 pr, .string o1, .string o1, .string ⟨#[98, 108, 111, 99, 107]⟩, .string dr, .string al, .int .i64 2, .int .i64 (1 + nn), .slice A6 (setA l ⟨#[99, 111, 110, 116, 101, 110, 116]⟩ cv).length c6] (fun x => y7.heap.size ≤ x ∧ x < y8.heap.size) A6 c6 (setA l ⟨#[99, 111, 110, 116, 101, 110, 116]⟩ cv) y10 from hy10 ▸ HSTy9.out.set_ HDK6.out (j := 2) (by simp) (.string o1))
      try simp only [hy10]
      clear hy10
      have x0 := HSTy10.out.2.2.2.2.1.1 0 _ rfl
      have x1 := HSTy10.out.2.2.2.2.1.1 1 _ rfl
      have x2 := HSTy10.out.2.2.2.2.1.1 2 _ rfl
      have x3 := HSTy10.out.2.2.2.2.1.1 3 _ rfl
      have x4 := HSTy10.out.2.2.2.2.1.1 4 _ rfl
      have x5 := HSTy10.out.2.2.2.2.1.1 5 _ rfl
      have x6 := HSTy10.out.2.2.2.2.1.1 6 _ rfl
      have x7 := HSTy10.out.2.2.2.2.1.1 7 _ rfl
      have x8 := HSTy10.out.2.2.2.2.1.1 8 _ rfl
      have x9 := HSTy10.out.2.2.2.2.1.1 9 _ rfl
      have z_ := HSTy10.out.2.2.2.1
      have z0 := z_.1 0 _ rfl
      have z1 := z_.1 1 _ rfl
      have z2 := z_.1 2 _ rfl
      have z3 := z_.1 3 _ rfl
      have z4 := z_.1 4 _ rfl
      have z5 := z_.1 5 _ rfl
      have z6 := z_.1 6 _ rfl
      have z7 := z_.1 7 _ rfl
      have z8 := z_.1 8 _ rfl
      have z9 := z_.1 9 _ rfl
      have zf := z_.2.1
      clear z_
      go_wp2
      obtain ⟨f1, f2, f3⟩ := set10_ind (fun w' => TapeAt w' B b xs (kx + 1 + 1 + 1) ∧ w.grownBy w' (some b) ∧ SlS w' (fun x => y7.heap.size ≤ x ∧ x < y8.heap.size) A6 c6 (setA l ⟨#[99, 111, 110, 116, 101, 110, 116]⟩ cv) ∧ y10.heap.size ≤ w'.heap.size) (w := y10) (g := w1.heap.size)
       (fun w' j v ⟨h1, h2, h3, h4⟩ => ⟨h1.set_ (by have := HBW.out; have := HGw1.out; omega) (by have := HBW.out; have := HGw1.out; omega) v, grown_set h2 (by have := HGw1.out; omega) v, h3.set_ (fun x hx => by have := (HDK6.out.s x hx).1; omega) v, by simpa using h4⟩) ⟨HSTy10.out.1, HSTy10.out.2.1, HSTy10.out.2.2.2.2.2.1, Nat.le_refl _⟩ (.int .i64 ix) (.int .i64 pr) (.string o1) (.string o1) (.string ⟨#[98, 108, 111, 99, 107]⟩) (.string dr) (.string al) (.int .i64 2) (.int .i64 (1 + nn)) (.slice A6 (setA l ⟨#[99, 111, 110, 116, 101, 110, 116]⟩ cv).length c6)
      refine bodyPost_ret (v := .agg #[.int .i64 ix, .int .i64 pr, .string o1, .string o1, .string ⟨#[98, 108, 111, 99, 107]⟩, .string dr, .string al, .int .i64 2, .int .i64 (1 + nn), .slice A6 (setA l ⟨#[99, 111, 110, 116, 101, 110, 116]⟩ cv).length c6]) (by simp [results, Tryz.results54, go_sem, z0, z1, z2, z3, z4, z5, z6, z7, z8, z9, zf]) rfl ⟨⟨ix, pr, o1, o1, ⟨#[98, 108, 111, 99, 107]⟩, dr, al, 2, (1 + nn), (setA l ⟨#[99, 111, 110, 116, 101, 110, 116]⟩ cv)⟩, A6, c6, _, rfl, ?_, f3.1.mono (fun x hx => ⟨by have := (HDK6.out.s x hx).1; have := HGw1.out; omega, by have := HSTy10.out.2.2.2.2.2.2 x hx; have := f3.2; omega⟩) (fun _ _ _ _ hu => hu), by have := HKX3.out; have := HJ.out; omega, f1, f2⟩
      have a1 := HIX.out; have a2 := HPR.out; have a3 := HMsu.out; have a4 := HMdr.out; have a5 := HMal.out; have a6 := HFEW6.out
      refine ⟨⟨?_, ?_⟩, ⟨?_, ?_⟩, ?_, ?_, ?_, ?_, ?_, ⟨?_, ?_⟩, ⟨?_, ?_⟩, ⟨?_, a6.2⟩⟩
      all_goals simp only
      all_goals first | omega | (have := a6.1; omega) | exact HMo1.out | exact a3 | exact a4 | exact a5 | decide
     ·
      go_simp
      go_at_call 13
      refine (One_lit contL xs (kx + 1 + 1) B b _ _ _ _ rfl rfl (by have := HK.out; have := HJ.out; have := HKX3.out; omega) HSTd.out.1 (by decide) (by decide)).mono ?_
      rintro e' y7 ⟨cv, hm_, rfl, ht_, hg_⟩
      have HSTy7 := Lib.hid (HSTd.out.tape HDK.out ht_ hg_); have HMcv := Lib.hid ((show ∀ y ∈ contL, y.size ≤ 1000 by decide) _ hm_); clear ht_ hg_ hm_
      refine hK.out _ _ trivial (fun _ => ?_)
      clear hK K
      try simp only [Act.put, List.setIfInBounds_toArray, List.set_cons_zero, List.set_cons_succ]
      refine wpAnyH_ready (rs := [1]) (by kernel_rfl) (by simp) ?_
      refine AllReadyH.cons (o := ⟨some 94, .load _ _, _, _, _, _⟩) rfl (fun K hK => ?_) AllReadyH.nil
      have x9 := HSTy7.out.2.2.2.2.1.1 9 _ rfl
      go_simp
      refine hK.out _ _ trivial (fun _ => ?_)
      clear hK K
      try simp only [Act.put, List.setIfInBounds_toArray, List.set_cons_zero, List.set_cons_succ]
      clear x9
      refine wpAnyH_ready (rs := [5]) (by kernel_rfl) (by simp) ?_
      refine AllReadyH.cons (o := ⟨some 98, .call ⟨_, _, _⟩, _, _, _, _⟩) rfl (fun K hK => ?_) AllReadyH.nil
      go_simp
      go_at_call 49
      refine (Set_any A5 c5 l ⟨#[99, 111, 110, 116, 101, 110, 116]⟩ cv _ y7.heap.size (Nat.le_refl _) (HSTy7.out.2.2.2.2.2.1.sl HSTy7.out.2.2.2.2.2.2) (by have := HFEW.out.1; omega) (by decide) (by have := HMcv.out; unfold maxLen; omega)).mono ?_
      rintro e' y8 ⟨hb_, v6, rfl, hown_⟩
      obtain ⟨A6, c6, hv_, hsl_⟩ := hown_.cs
      subst hv_
      have HSTy8 := Lib.hid ((HSTy7.out.below hb_).other (S' := (fun x => y7.heap.size ≤ x ∧ x < y8.heap.size)) (hsl_.mono (fun x hx => ⟨by rcases hx with ⟨h | h, _⟩; exact h.elim; exact h, hx.2⟩) (fun _ _ _ _ hu => hu)) (fun x hx => hx.2))
      have HDK6 := Lib.hid (show DvK w B b w.heap.size w1.heap.size a4.heap.size (fun x => y7.heap.size ≤ x ∧ x < y8.heap.size) from ⟨HDK.out.lt, HDK.out.le, HDK.out.i3, HDK.out.i4, HDK.out.i5, fun x hx => by have := HSTy7.out.2.2.2.2.1.2.2; have := HDK.out.i5; omega⟩)
      have HFEW6 := Lib.hid (show fewA 4 (setA l ⟨#[99, 111, 110, 116, 101, 110, 116]⟩ cv) from HFEW.out.set_ (by decide) HMcv.out)
      clear hb_ hown_ hsl_
      refine hK.out _ _ trivial (fun _ => ?_)
      clear hK K
      try simp only [Act.put, List.setIfInBounds_toArray, List.set_cons_zero, List.set_cons_succ]
      refine wpAnyH_take (i := 6) (oi := ⟨some 99, _, _, _, _, _⟩) (v := .pointer (some ⟨a4.heap.size, 9, none⟩)) rfl (by kernel_rfl) (by kernel_rfl) (by kernel_rfl) (fun _ _ _ h => h) (Or.inl ⟨by rfl, fun w' hS => by go_simp⟩) trivial ?_
      try simp only [Act.put, List.setIfInBounds_toArray, List.set_cons_zero, List.set_cons_succ]
      have x9 := HSTy8.out.2.2.2.2.1.1 9 _ rfl
      have xf := HSTy8.out.2.2.2.2.1.2.1
      refine wpAnyH_ready (rs := [7]) (by kernel_rfl) (by simp) ?_
      refine AllReadyH.cons (o := ⟨none, .store _ _ _, _, _, _, _⟩) rfl (fun K hK => ?_) AllReadyH.nil
      go_simp
      refine hK.out _ _ trivial (fun _ => ?_)
      clear hK K
      try simp only [Act.put, List.setIfInBounds_toArray, List.set_cons_zero, List.set_cons_succ]
      refine wpAnyH_done (by kernel_rfl) ?_ _
      go_upto_region 24 with fail
      clear x9 xf
      obtain ⟨y9, hy9⟩ : ∃ z, y8.setCell ⟨a4.heap.size, 9, none⟩ (.slice A6 (setA l ⟨#[99, 111, 110, 116, 101, 110, 116]⟩ cv).length c6) = z := ⟨_, rfl⟩
      have HSTy9 := Lib.hid (show StD w B b xs (kx + 1 + 1 + 1) w.heap.size w1.heap.size a4.heap.size (.slice A L.length c) [.int .i64 ix, .int .i64 pr, .string ByteArray.empty, .string o1, .string ⟨#[98, 108, 111, 99, 107]⟩, .string dr, .string al, .int .i64 2, .int .i64 (1 + nn), .slice A6 (setA l ⟨#[99, 111, 110, 116, 101, 110, 116]⟩ cv).length c6] (fun x => y7.heap.size ≤ x ∧ x < y8.heap.size) A6 c6 (setA l ⟨#[99, 111, 110, 116, 101, 110, 116]⟩ cv) y9 from hy9 ▸ HSTy8.out.set_ HDK6.out (j := 9) (by simp) (.slice A6 (setA l ⟨#[99, 111, 110, 116, 101, 110, 116]⟩ cv).length c6))
      try simp only [hy9]
      clear hy9
      have x3 := HSTy9.out.2.2.2.2.1.1 3 _ rfl
      have x2 := HSTy9.out.2.2.2.2.1.1 2 _ rfl
      have xf := HSTy9.out.2.2.2.2.1.2.1
      go_upto_region 25 with fail
      clear x3 x2 xf
      obtain ⟨y10, hy10⟩ : ∃ z, y9.setCell ⟨a4.heap.size, 2, none⟩ (.string o1) = z := ⟨_, rfl⟩
      have HSTy10 := Lib.hid (show StD w B b xs (kx + 1 + 1 + 1) w.heap.size w1.heap.size a4.heap.size (.slice A L.length c) [.int .i64 ix, .int .i64 pr, .string o1, .string o1, .string ⟨#[98, 108, 111, 99, 107]⟩, .string dr, .string al, .int .i64 2, .int .i64 (1 + nn), .slice A6 (setA l ⟨#[99, 111, 110, 116, 101, 110, 116]⟩ cv).length c6] (fun x => y7.heap.size ≤ x ∧ x < y8.heap.size) A6 c6 (setA l ⟨#[99, 111, 110, 116, 101, 110, 116]⟩ cv) y10 from hy10 ▸ HSTy9.out.set_ HDK6.out (j := 2) (by simp) (.string o1))
      try simp only [hy10]
      clear hy10
      have x0 := HSTy10.out.2.2.2.2.1.1 0 _ rfl
      have x1 := HSTy10.out.2.2.2.2.1.1 1 _ rfl
      have x2 := HSTy10.out.2.2.2.2.1.1 2 _ rfl
      have x3 := HSTy10.out.2.2.2.2.1.1 3 _ rfl
      have x4 := HSTy10.out.2.2.2.2.1.1 4 _ rfl
      have x5 := HSTy10.out.2.2.2.2.1.1 5 _ rfl
      have x6 := HSTy10.out.2.2.2.2.1.1 6 _ rfl
      have x7 := HSTy10.out.2.2.2.2.1.1 7 _ rfl
      have x8 := HSTy10.out.2.2.2.2.1.1 8 _ rfl
      have x9 := HSTy10.out.2.2.2.2.1.1 9 _ rfl
      have z_ := HSTy10.out.2.2.2.1
      have z0 := z_.1 0 _ rfl
      have z1 := z_.1 1 _ rfl
      have z2 := z_.1 2 _ rfl
      have z3 := z_.1 3 _ rfl
      have z4 := z_.1 4 _ rfl
      have z5 := z_.1 5 _ rfl
      have z6 := z_.1 6 _ rfl
      have z7 := z_.1 7 _ rfl
      have z8 := z_.1 8 _ rfl
      have z9 := z_.1 9 _ rfl
      have zf := z_.2.1
      clear z_
      go_wp2
      obtain ⟨f1, f2, f3⟩ := set10_ind (fun w' => TapeAt w' B b xs (kx + 1 + 1 + 1) ∧ w.grownBy w' (some b) ∧ SlS w' (fun x => y7.heap.size ≤ x ∧ x < y8.heap.size) A6 c6 (setA l ⟨#[99, 111, 110, 116, 101, 110, 116]⟩ cv) ∧ y10.heap.size ≤ w'.heap.size) (w := y10) (g := w1.heap.size)
       (fun w' j v ⟨h1, h2, h3, h4⟩ => ⟨h1.set_ (by have := HBW.out; have := HGw1.out; omega) (by have := HBW.out; have := HGw1.out; omega) v, grown_set h2 (by have := HGw1.out; omega) v, h3.set_ (fun x hx => by have := (HDK6.out.s x hx).1; omega) v, by simpa using h4⟩) ⟨HSTy10.out.1, HSTy10.out.2.1, HSTy10.out.2.2.2.2.2.1, Nat.le_refl _⟩ (.int .i64 ix) (.int .i64 pr) (.string o1) (.string o1) (.string ⟨#[98, 108, 111, 99, 107]⟩) (.string dr) (.string al) (.int .i64 2) (.int .i64 (1 + nn)) (.slice A6 (setA l ⟨#[99, 111, 110, 116, 101, 110, 116]⟩ cv).length c6)
      refine bodyPost_ret (v := .agg #[.int .i64 ix, .int .i64 pr, .string o1, .string o1, .string ⟨#[98, 108, 111, 99, 107]⟩, .string dr, .string al, .int .i64 2, .int .i64 (1 + nn), .slice A6 (setA l ⟨#[99, 111, 110, 116, 101, 110, 116]⟩ cv).length c6]) (by simp [results, Tryz.results54, go_sem, z0, z1, z2, z3, z4, z5, z6, z7, z8, z9, zf]) rfl ⟨⟨ix, pr, o1, o1, ⟨#[98, 108, 111, 99, 107]⟩, dr, al, 2, (1 + nn), (setA l ⟨#[99, 111, 110, 116, 101, 110, 116]⟩ cv)⟩, A6, c6, _, rfl, ?_, f3.1.mono (fun x hx => ⟨by have := (HDK6.out.s x hx).1; have := HGw1.out; omega, by have := HSTy10.out.2.2.2.2.2.2 x hx; have := f3.2; omega⟩) (fun _ _ _ _ hu => hu), by have := HKX3.out; have := HJ.out; omega, f1, f2⟩
      have a1 := HIX.out; have a2 := HPR.out; have a3 := HMsu.out; have a4 := HMdr.out; have a5 := HMal.out; have a6 := HFEW6.out
      refine ⟨⟨?_, ?_⟩, ⟨?_, ?_⟩, ?_, ?_, ?_, ?_, ?_, ⟨?_, ?_⟩, ⟨?_, ?_⟩, ⟨?_, a6.2⟩⟩
      all_goals simp only
      all_goals first | omega | (have := a6.1; omega) | exact HMo1.out | exact a3 | exact a4 | exact a5 | decide
   ·
    go_upto_region 22 with fail
    clear x7
    go_wp2_with fail
    refine (One_lit [⟨#[116, 116, 121, 48]⟩, ⟨#[116, 116, 121, 49]⟩, ⟨#[105, 110, 112, 117, 116, 33, 101, 118, 48]⟩] xs (kx) B b _ _ _ _ rfl rfl (by have := HK.out; have := HJ.out; have := HKX3.out; omega) HSTq.out.1 (by simp) (by simp)).mono ?_
    rintro e y1 ⟨o1, hm_, rfl, ht_, hg_⟩
    have HSTy1 := Lib.hid (HSTq.out.tape HDK.out ht_ hg_); have HMo1 := Lib.hid ((show ∀ y ∈ ([⟨#[116, 116, 121, 48]⟩, ⟨#[116, 116, 121, 49]⟩, ⟨#[105, 110, 112, 117, 116, 33, 101, 118, 48]⟩] : List ByteArray), y.size ≤ 1000 by decide) _ hm_); clear ht_ hg_ hm_
    have x3 := HSTy1.out.2.2.2.2.1.1 3 _ rfl
    have xf := HSTy1.out.2.2.2.2.1.2.1
    go_upto_region 23 with fail
    clear x3 xf
    obtain ⟨y2, hy2⟩ : ∃ z, y1.setCell ⟨a4.heap.size, 3, none⟩ (.string o1) = z := ⟨_, rfl⟩
    have HSTy2 := Lib.hid (show StD w B b xs (kx + 1) w.heap.size w1.heap.size a4.heap.size (.slice A L.length c) [.int .i64 ix, .int .i64 pr, .string ByteArray.empty, .string o1, .string su, .string dr, .string al, .int .i64 3, .int .i64 0, .slice A5 l.length c5] (fun x => a3.heap.size ≤ x ∧ x < a4.heap.size) A5 c5 l y2 from hy2 ▸ HSTy1.out.set_ HDK.out (j := 3) (by simp) (.string o1))
    try simp only [hy2]
    clear hy2
    go_wp2_with fail
    refine (Next_lit 9 xs (kx + 1) B b _ (by have := HK.out; have := HJ.out; have := HKX3.out; omega) HSTy2.out.1 (by omega) (by omega)).mono ?_
    rintro e y3 ⟨nn, hnn0, hnn1, rfl, ht_, hg_⟩
    have HSTy3 := Lib.hid (HSTy2.out.tape HDK.out ht_ hg_); clear ht_ hg_
    have x8 := HSTy3.out.2.2.2.2.1.1 8 _ rfl
    have xf := HSTy3.out.2.2.2.2.1.2.1
    go_upto_region 24 with fail
    clear x8 xf
    obtain ⟨y4, hy4⟩ : ∃ z, y3.setCell ⟨a4.heap.size, 8, none⟩ (.int .i64 (1 + nn)) = z := ⟨_, rfl⟩
    have HSTy4 := Lib.hid (show StD w B b xs (kx + 1 + 1) w.heap.size w1.heap.size a4.heap.size (.slice A L.length c) [.int .i64 ix, .int .i64 pr, .string ByteArray.empty, .string o1, .string su, .string dr, .string al, .int .i64 3, .int .i64 (1 + nn), .slice A5 l.length c5] (fun x => a3.heap.size ≤ x ∧ x < a4.heap.size) A5 c5 l y4 from hy4 ▸ HSTy3.out.set_ HDK.out (j := 8) (by simp) (.int .i64 (1 + nn)))
    try simp only [hy4]
    clear hy4
    have x3 := HSTy4.out.2.2.2.2.1.1 3 _ rfl
    have x2 := HSTy4.out.2.2.2.2.1.1 2 _ rfl
    have xf := HSTy4.out.2.2.2.2.1.2.1
    go_upto_region 25 with fail
    clear x3 x2 xf
    obtain ⟨y5, hy5⟩ : ∃ z, y4.setCell ⟨a4.heap.size, 2, none⟩ (.string o1) = z := ⟨_, rfl⟩
    have HSTy5 := Lib.hid (show StD w B b xs (kx + 1 + 1) w.heap.size w1.heap.size a4.heap.size (.slice A L.length c) [.int .i64 ix, .int .i64 pr, .string o1, .string o1, .string su, .string dr, .string al, .int .i64 3, .int .i64 (1 + nn), .slice A5 l.length c5] (fun x => a3.heap.size ≤ x ∧ x < a4.heap.size) A5 c5 l y5 from hy5 ▸ HSTy4.out.set_ HDK.out (j := 2) (by simp) (.string o1))
    try simp only [hy5]
    clear hy5
    have x0 := HSTy5.out.2.2.2.2.1.1 0 _ rfl
    have x1 := HSTy5.out.2.2.2.2.1.1 1 _ rfl
    have x2 := HSTy5.out.2.2.2.2.1.1 2 _ rfl
    have x3 := HSTy5.out.2.2.2.2.1.1 3 _ rfl
    have x4 := HSTy5.out.2.2.2.2.1.1 4 _ rfl
    have x5 := HSTy5.out.2.2.2.2.1.1 5 _ rfl
    have x6 := HSTy5.out.2.2.2.2.1.1 6 _ rfl
    have x7 := HSTy5.out.2.2.2.2.1.1 7 _ rfl
    have x8 := HSTy5.out.2.2.2.2.1.1 8 _ rfl
    have x9 := HSTy5.out.2.2.2.2.1.1 9 _ rfl
    have z_ := HSTy5.out.2.2.2.1
    have z0 := z_.1 0 _ rfl
    have z1 := z_.1 1 _ rfl
    have z2 := z_.1 2 _ rfl
    have z3 := z_.1 3 _ rfl
    have z4 := z_.1 4 _ rfl
    have z5 := z_.1 5 _ rfl
    have z6 := z_.1 6 _ rfl
    have z7 := z_.1 7 _ rfl
    have z8 := z_.1 8 _ rfl
    have z9 := z_.1 9 _ rfl
    have zf := z_.2.1
    clear z_
    go_wp2
    obtain ⟨f1, f2, f3⟩ := set10_ind (fun w' => TapeAt w' B b xs (kx + 1 + 1) ∧ w.grownBy w' (some b) ∧ SlS w' (fun x => a3.heap.size ≤ x ∧ x < a4.heap.size) A5 c5 l ∧ y5.heap.size ≤ w'.heap.size) (w := y5) (g := w1.heap.size)
     (fun w' j v ⟨h1, h2, h3, h4⟩ => ⟨h1.set_ (by have := HBW.out; have := HGw1.out; omega) (by have := HBW.out; have := HGw1.out; omega) v, grown_set h2 (by have := HGw1.out; omega) v, h3.set_ (fun x hx => by have := (HDK.out.s x hx).1; omega) v, by simpa using h4⟩) ⟨HSTy5.out.1, HSTy5.out.2.1, HSTy5.out.2.2.2.2.2.1, Nat.le_refl _⟩ (.int .i64 ix) (.int .i64 pr) (.string o1) (.string o1) (.string su) (.string dr) (.string al) (.int .i64 3) (.int .i64 (1 + nn)) (.slice A5 l.length c5)
    refine bodyPost_ret (v := .agg #[.int .i64 ix, .int .i64 pr, .string o1, .string o1, .string su, .string dr, .string al, .int .i64 3, .int .i64 (1 + nn), .slice A5 l.length c5]) (by simp [results, Tryz.results54, go_sem, z0, z1, z2, z3, z4, z5, z6, z7, z8, z9, zf]) rfl ⟨⟨ix, pr, o1, o1, su, dr, al, 3, (1 + nn), l⟩, A5, c5, _, rfl, ?_, f3.1.mono (fun x hx => ⟨by have := (HDK.out.s x hx).1; have := HGw1.out; omega, by have := HSTy5.out.2.2.2.2.2.2 x hx; have := f3.2; omega⟩) (fun _ _ _ _ hu => hu), by have := HKX3.out; have := HJ.out; omega, f1, f2⟩
    have a1 := HIX.out; have a2 := HPR.out; have a3 := HMsu.out; have a4 := HMdr.out; have a5 := HMal.out; have a6 := HFEW.out
    refine ⟨⟨?_, ?_⟩, ⟨?_, ?_⟩, ?_, ?_, ?_, ?_, ?_, ⟨?_, ?_⟩, ⟨?_, ?_⟩, ⟨?_, a6.2⟩⟩
    all_goals simp only
    all_goals first | omega | (have := a6.1; omega) | exact HMo1.out | exact a3 | exact a4 | exact a5 | decide
   ·
    go_upto_region 12 with fail
    clear x7
    have x4 := HSTq.out.2.2.2.2.1.1 4 _ rfl
    have xf := HSTq.out.2.2.2.2.1.2.1
    go_upto_region 13 with fail
    clear x4 xf
    obtain ⟨y1, hy1⟩ : ∃ z, wc.setCell ⟨a4.heap.size, 4, none⟩ (.string ⟨#[110, 101, 116]⟩) = z := ⟨_, rfl⟩
    have HSTy1 := Lib.hid (show StD w B b xs (kx) w.heap.size w1.heap.size a4.heap.size (.slice A L.length c) [.int .i64 ix, .int .i64 pr, .string ByteArray.empty, .string ByteArray.empty, .string ⟨#[110, 101, 116]⟩, .string dr, .string al, .int .i64 4, .int .i64 0, .slice A5 l.length c5] (fun x => a3.heap.size ≤ x ∧ x < a4.heap.size) A5 c5 l y1 from hy1 ▸ HSTq.out.set_ HDK.out (j := 4) (by simp) (.string ⟨#[110, 101, 116]⟩))
    try simp only [hy1]
    clear hy1
    go_wp2_with fail
    refine (One_lit [⟨#[101, 116, 104, 48]⟩, ⟨#[101, 116, 104, 49]⟩, ⟨#[119, 108, 97, 110, 48]⟩] xs (kx) B b _ _ _ _ rfl rfl (by have := HK.out; have := HJ.out; have := HKX3.out; omega) HSTy1.out.1 (by simp) (by simp)).mono ?_
    rintro e y2 ⟨o1, hm_, rfl, ht_, hg_⟩
    have HSTy2 := Lib.hid (HSTy1.out.tape HDK.out ht_ hg_); have HMo1 := Lib.hid ((show ∀ y ∈ ([⟨#[101, 116, 104, 48]⟩, ⟨#[101, 116, 104, 49]⟩, ⟨#[119, 108, 97, 110, 48]⟩] : List ByteArray), y.size ≤ 1000 by decide) _ hm_); clear ht_ hg_ hm_
    have x3 := HSTy2.out.2.2.2.2.1.1 3 _ rfl
    have xf := HSTy2.out.2.2.2.2.1.2.1
    go_upto_region 14 with fail
    clear x3 xf
    obtain ⟨y3, hy3⟩ : ∃ z, y2.setCell ⟨a4.heap.size, 3, none⟩ (.string o1) = z := ⟨_, rfl⟩
    have HSTy3 := Lib.hid (show StD w B b xs (kx + 1) w.heap.size w1.heap.size a4.heap.size (.slice A L.length c) [.int .i64 ix, .int .i64 pr, .string ByteArray.empty, .string o1, .string ⟨#[110, 101, 116]⟩, .string dr, .string al, .int .i64 4, .int .i64 0, .slice A5 l.length c5] (fun x => a3.heap.size ≤ x ∧ x < a4.heap.size) A5 c5 l y3 from hy3 ▸ HSTy2.out.set_ HDK.out (j := 3) (by simp) (.string o1))
    try simp only [hy3]
    clear hy3
    have x3 := HSTy3.out.2.2.2.2.1.1 3 _ rfl
    have xf := HSTy3.out.2.2.2.2.1.2.1
    go_wp2_with fail
    refine (One_lit [o1, o1, ⟨#[108, 97, 110, 48]⟩, ⟨#[101, 116, 104, 49]⟩] xs (kx + 1) B b _ _ _ _ rfl rfl (by have := HK.out; have := HJ.out; have := HKX3.out; omega) HSTy3.out.1 (by simp) (by simp)).mono ?_
    rintro e y4 ⟨nm, hm_, rfl, ht_, hg_⟩
    have HSTy4 := Lib.hid (HSTy3.out.tape HDK.out ht_ hg_); have HMnm := Lib.hid (show nm.size ≤ 1000 by have := HMo1.out; simp only [List.mem_cons, List.not_mem_nil, or_false] at hm_; rcases hm_ with rfl | rfl | rfl | rfl <;> first | exact this | decide); clear ht_ hg_ hm_
    clear x3 xf
    have x2 := HSTy4.out.2.2.2.2.1.1 2 _ rfl
    have xf := HSTy4.out.2.2.2.2.1.2.1
    go_upto_region 15 with fail
    clear x2 xf
    obtain ⟨y5, hy5⟩ : ∃ z, y4.setCell ⟨a4.heap.size, 2, none⟩ (.string nm) = z := ⟨_, rfl⟩
    have HSTy5 := Lib.hid (show StD w B b xs (kx + 1 + 1) w.heap.size w1.heap.size a4.heap.size (.slice A L.length c) [.int .i64 ix, .int .i64 pr, .string nm, .string o1, .string ⟨#[110, 101, 116]⟩, .string dr, .string al, .int .i64 4, .int .i64 0, .slice A5 l.length c5] (fun x => a3.heap.size ≤ x ∧ x < a4.heap.size) A5 c5 l y5 from hy5 ▸ HSTy4.out.set_ HDK.out (j := 2) (by simp) (.string nm))
    try simp only [hy5]
    clear hy5
    have x0 := HSTy5.out.2.2.2.2.1.1 0 _ rfl
    have x1 := HSTy5.out.2.2.2.2.1.1 1 _ rfl
    have x2 := HSTy5.out.2.2.2.2.1.1 2 _ rfl
    have x3 := HSTy5.out.2.2.2.2.1.1 3 _ rfl
    have x4 := HSTy5.out.2.2.2.2.1.1 4 _ rfl
    have x5 := HSTy5.out.2.2.2.2.1.1 5 _ rfl
    have x6 := HSTy5.out.2.2.2.2.1.1 6 _ rfl
    have x7 := HSTy5.out.2.2.2.2.1.1 7 _ rfl
    have x8 := HSTy5.out.2.2.2.2.1.1 8 _ rfl
    have x9 := HSTy5.out.2.2.2.2.1.1 9 _ rfl
    have z_ := HSTy5.out.2.2.2.1
    have z0 := z_.1 0 _ rfl
    have z1 := z_.1 1 _ rfl
    have z2 := z_.1 2 _ rfl
    have z3 := z_.1 3 _ rfl
    have z4 := z_.1 4 _ rfl
    have z5 := z_.1 5 _ rfl
    have z6 := z_.1 6 _ rfl
    have z7 := z_.1 7 _ rfl
    have z8 := z_.1 8 _ rfl
    have z9 := z_.1 9 _ rfl
    have zf := z_.2.1
    clear z_
    go_wp2
    obtain ⟨f1, f2, f3⟩ := set10_ind (fun w' => TapeAt w' B b xs (kx + 1 + 1) ∧ w.grownBy w' (some b) ∧ SlS w' (fun x => a3.heap.size ≤ x ∧ x < a4.heap.size) A5 c5 l ∧ y5.heap.size ≤ w'.heap.size) (w := y5) (g := w1.heap.size)
     (fun w' j v ⟨h1, h2, h3, h4⟩ => ⟨h1.set_ (by have := HBW.out; have := HGw1.out; omega) (by have := HBW.out; have := HGw1.out; omega) v, grown_set h2 (by have := HGw1.out; omega) v, h3.set_ (fun x hx => by have := (HDK.out.s x hx).1; omega) v, by simpa using h4⟩) ⟨HSTy5.out.1, HSTy5.out.2.1, HSTy5.out.2.2.2.2.2.1, Nat.le_refl _⟩ (.int .i64 ix) (.int .i64 pr) (.string nm) (.string o1) (.string ⟨#[110, 101, 116]⟩) (.string dr) (.string al) (.int .i64 4) (.int .i64 0) (.slice A5 l.length c5)
    refine bodyPost_ret (v := .agg #[.int .i64 ix, .int .i64 pr, .string nm, .string o1, .string ⟨#[110, 101, 116]⟩, .string dr, .string al, .int .i64 4, .int .i64 0, .slice A5 l.length c5]) (by simp [results, Tryz.results54, go_sem, z0, z1, z2, z3, z4, z5, z6, z7, z8, z9, zf]) rfl ⟨⟨ix, pr, nm, o1, ⟨#[110, 101, 116]⟩, dr, al, 4, 0, l⟩, A5, c5, _, rfl, ?_, f3.1.mono (fun x hx => ⟨by have := (HDK.out.s x hx).1; have := HGw1.out; omega, by have := HSTy5.out.2.2.2.2.2.2 x hx; have := f3.2; omega⟩) (fun _ _ _ _ hu => hu), by have := HKX3.out; have := HJ.out; omega, f1, f2⟩
    have a1 := HIX.out; have a2 := HPR.out; have a3 := HMsu.out; have a4 := HMdr.out; have a5 := HMal.out; have a6 := HFEW.out
    refine ⟨⟨?_, ?_⟩, ⟨?_, ?_⟩, ?_, ?_, ?_, ?_, ?_, ⟨?_, ?_⟩, ⟨?_, ?_⟩, ⟨?_, a6.2⟩⟩
    all_goals simp only
    all_goals first | omega | (have := a6.1; omega) | exact HMo1.out | exact HMnm.out | exact a3 | exact a4 | exact a5 | decide
end Go.Proofs.YtjpoljlgkgmdkaaGreatDoor
