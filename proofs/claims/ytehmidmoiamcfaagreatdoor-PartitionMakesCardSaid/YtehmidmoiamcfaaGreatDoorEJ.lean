/-
  The walk of package tree's Insert, where it answers an error.
-/
import Derived.Test.YtehmidmoiamcfaaGreatDoorEI
set_option linter.unusedSimpArgs false
set_option linter.unusedVariables false
namespace Go.Cold
open Go Go.RowKit
theorem idx_take {p : Dev → Bool} : ∀ L : List Dev, (idxInt p L = -1 ∧ (L.takeWhile fun t => !p t).length = L.length) ∨ idxInt p L = ((L.takeWhile fun t => !p t).length : Int)
 | [] => .inl ⟨rfl, rfl⟩
 | d :: r => by
  by_cases hd : p d = true
  ·
   right
   unfold idxInt
   rw [List.findIdx?_cons, if_pos hd, List.takeWhile_cons, if_neg (by simp [hd])]
   simp
  ·
   have hd2 : p d = false := by simpa using hd
   have hi : ∀ i, r.findIdx? p = i → idxInt p (d :: r) = match i with | some j => ((j + 1 : Nat) : Int) | none => -1 := by
    intro i hri
    unfold idxInt
    rw [List.findIdx?_cons, if_neg (by simp [hd2]), hri]
    cases i <;> rfl
   have ht : ((d :: r).takeWhile fun t => !p t).length = (r.takeWhile fun t => !p t).length + 1 := by
    rw [List.takeWhile_cons, if_pos (by simp [hd2])]; rfl
   rw [ht]
   rcases idx_take r with ⟨h1, h2⟩ | h1
   ·
    left
    refine ⟨?_, by rw [h2]; rfl⟩
    cases hri : r.findIdx? p with
    | none => rw [hi _ hri]
    | some j => unfold idxInt at h1; rw [hri] at h1; simp only at h1; omega
   ·
    right
    cases hri : r.findIdx? p with
    | none => unfold idxInt at h1; rw [hri] at h1; simp only at h1; omega
    | some j =>
     rw [hi _ hri]
     unfold idxInt at h1; rw [hri] at h1
     simp only at h1 ⊢
     omega
theorem atP_le (L : List Dev) (d : Dev) : atP L d ≤ L.length := by
 unfold atP
 exact (List.takeWhile_prefix (l := L) _).length_le
/-- Does the place hold a device with the new one's origin? -/
def sameAt (L : List Dev) (d : Dev) : Bool := match L[atP L d]? with | some t => decide (strF L t.idx = pathS (ownL L d)) | none => false
end Go.Cold
namespace Go.Proofs.YtehmidmoiamcfaaGreatDoor
open Go.RowKit Go.Cold
set_option maxRecDepth 100000 in
theorem insert1_pred (A : Option Addr) (c bp bo N g go B : Nat) (L : List Dev) (s : ByteArray) (w : World) (hv : BoxL w g [.slice A L.length c, .map (some bp), .map (some bo)]) (ho : BoxL w go [.string s]) (hm : MapV Tryz.prog 3 9 w bo N (orgM L)) (hs : s.size < 4294967281) (hl : ∀ n, (strF L n).size ≤ 8448) (hok : Ok w) :
  PredD 61 #[.pointer (some ⟨g, 0, none⟩), .pointer (some ⟨go, 0, none⟩)] w B (fun _ => True) (notLess L s) := by
 refine ⟨enters_of Tryz.func61 (by kernel_rfl) rfl, fun x A2 c2 W hxo hat hq hW => ?_⟩
 have HO := Lib.hid hxo; have HOK := Lib.hid (hok.next hW); have HV := Lib.hid (hv.kept (grown_none hW) (fun e => by cases e)); have HG := Lib.hid (ho.kept (grown_none hW) (fun e => by cases e)); have HM := Lib.hid (hm.next hW); have HS := Lib.hid hs; have HL := Lib.hid hl; clear hxo hat hq hW hok hv ho hm hs hl
 go_enter Tryz.func61, Tryz.ntmps61
 go_upto_region 1 with fail
 obtain ⟨w1, hw1⟩ : ∃ w1, W.alloc (.cells #[.int .i64 x.idx, .int .i64 x.par, .string x.nm, .string x.orig, .string x.sub, .string x.drv, .string x.ali, .int .i64 x.kind, .int .i64 x.num, .slice A2 x.attrs.length c2] 43) = w1 := ⟨_, rfl⟩
 have hbw1 : Below W.heap.size W w1 := by rw [← hw1]; exact (Below.refl _ _).alloc (Nat.le_refl _) _
 have HGw1 := Lib.hid (show w1.heap.size = W.heap.size + 1 by rw [← hw1]; simp)
 have HXxw1 := Lib.hid (show BoxL w1 W.heap.size [.int .i64 x.idx, .int .i64 x.par, .string x.nm, .string x.orig, .string x.sub, .string x.drv, .string x.ali, .int .i64 x.kind, .int .i64 x.num, .slice A2 x.attrs.length c2] from box_mk hw1)
 try simp only [hw1]
 have HBw1 := Lib.hid hbw1
 have vw1 := Lib.hid (HV.out.kept (grown_none hbw1) (fun e => by cases e))
 have ow1 := Lib.hid (HG.out.kept (grown_none hbw1) (fun e => by cases e))
 have HMw1 := Lib.hid (HM.out.next hbw1)
 clear hw1 hbw1
 try rw [show W.heap.size + 1 = w1.heap.size from HGw1.out.symm]
 have cv2 := vw1.out.1 2 _ rfl
 have co0 := ow1.out.1 0 _ rfl
 have cx0 := HXxw1.out.1 0 _ rfl
 have hlk := look_str HMw1.out HO.out.1
 rw [orgM_str] at hlk
 have hsz := HL.out x.idx
 obtain ⟨u, hu⟩ : ∃ u, strF L x.idx = u := ⟨_, rfl⟩
 rw [hu] at hlk hsz
 have HR := Lib.hid (show notLess L s x = decide (0 ≤ cmpV u s) by unfold notLess; rw [hu]); have HSZ := Lib.hid hsz; clear hu hsz
 go_wp2_with fail
 refine (order_any u s _ (by have := HSZ.out; omega) HS.out (HOK.out.next HBw1.out)).mono ?_
 rintro e w2 ⟨rfl, hbw2⟩
 clear cv2 co0 cx0
 have HBw2 := Lib.hid (HBw1.out.trans (hbw2.mono HBw1.out.size))
 have vw2 := Lib.hid (vw1.out.kept (grown_none hbw2) (fun e => by cases e))
 have ow2 := Lib.hid (ow1.out.kept (grown_none hbw2) (fun e => by cases e))
 have xw2 := Lib.hid (HXxw1.out.kept (grown_none hbw2) (fun e => by cases e))
 have HMw2 := Lib.hid (HMw1.out.next hbw2)
 clear hbw2
 clear hlk
 obtain ⟨z, hz⟩ : ∃ z, cmpV u s = z := ⟨_, rfl⟩
 rw [hz] at HR ⊢
 clear hz
 go_wp2
 go_ret
 exact ⟨ret_bool (by rw [HR.out]), HBw2.out⟩
set_option maxRecDepth 100000 in
set_option maxHeartbeats 8000000 in
/-- tree.Insert, where it answers an error. -/
theorem Insert_err (A : Option Addr) (c : Nat) (L : List Dev) (d : Dev) (A2 : Option Addr) (c2 : Nat) (w : World) (B : Nat) (hB : B ≤ w.heap.size) (hx : Sl w B A c L) (hd : devOk d) (ha : Sl w B A2 c2 d.attrs) (hsm : d.orig.size ≤ 2147483648) (hvt : VT L) (hok : Ok w) (hpe : progE L d ≠ 0) :
  Calls Tryz.prog 32 #[.agg #[.slice A L.length c], .agg #[.int .i64 d.idx, .int .i64 d.par, .string d.nm, .string d.orig, .string d.sub, .string d.drv, .string d.ali, .int .i64 d.kind, .int .i64 d.num, .slice A2 d.attrs.length c2]] w fun e w' => Below w.heap.size w w' ∧ e = .returned (.tuple #[.agg #[.slice none 0 0], .int .i64 (progE L d)]) := by
 have hvs := hvt.small
 have hvl := hvt.size
 have hx1 := hx.1; have hx2 := hx.2.1
 unfold maxLen at hx2
 have hstr : ∀ n, (strF L n).size ≤ 8448 := str_size (fun d hd => (hvs d hd).1) hvl
 have HX := Lib.hid hx; have HB := Lib.hid hB; have HD := Lib.hid hd; have HA := Lib.hid ha; have HVT := Lib.hid hvt; have HOK := Lib.hid hok; have HVS := Lib.hid hvs; have HVL := Lib.hid hvl; have HSM := Lib.hid hsm; have HSTR := Lib.hid hstr; have HPE := Lib.hid hpe
 clear hx hB hd ha hvt hok hvs hvl hsm hstr hpe
 go_enter Tryz.func32, Tryz.ntmps32
 go_upto_region 1 with fail
 obtain ⟨w1, hw1⟩ : ∃ w1, w.alloc (.cells #[.slice A L.length c] 57) = w1 := ⟨_, rfl⟩
 have hbw1 : Below w.heap.size w w1 := by rw [← hw1]; exact (Below.refl _ _).alloc (Nat.le_refl _) _
 have HGw1 := Lib.hid (show w1.heap.size = w.heap.size + 1 by rw [← hw1]; simp)
 have HXtw1 := Lib.hid (show BoxL w1 w.heap.size [.slice A L.length c] from box_mk hw1)
 try simp only [hw1]
 have HSw1 := Lib.hid (show w.heap.size ≤ w1.heap.size from hbw1.size)
 have HBw1 := Lib.hid hbw1
 clear hw1 hbw1
 try rw [show w.heap.size + 1 = w1.heap.size from HGw1.out.symm]
 obtain ⟨w2, hw2⟩ : ∃ w2, w1.alloc (.cells #[.int .i64 d.idx, .int .i64 d.par, .string d.nm, .string d.orig, .string d.sub, .string d.drv, .string d.ali, .int .i64 d.kind, .int .i64 d.num, .slice A2 d.attrs.length c2] 43) = w2 := ⟨_, rfl⟩
 have hbw2 : Below w1.heap.size w1 w2 := by rw [← hw2]; exact (Below.refl _ _).alloc (Nat.le_refl _) _
 have HGw2 := Lib.hid (show w2.heap.size = w1.heap.size + 1 by rw [← hw2]; simp)
 have HXpw2 := Lib.hid (show BoxL w2 w1.heap.size [.int .i64 d.idx, .int .i64 d.par, .string d.nm, .string d.orig, .string d.sub, .string d.drv, .string d.ali, .int .i64 d.kind, .int .i64 d.num, .slice A2 d.attrs.length c2] from box_mk hw2)
 try simp only [hw2]
 have HSw2 := Lib.hid (show w1.heap.size ≤ w2.heap.size from hbw2.size)
 have HBw2 := Lib.hid (HBw1.out.trans (hbw2.mono HBw1.out.size))
 have tw2 := Lib.hid (HXtw1.out.kept (grown_none hbw2) (fun e => by cases e))
 clear hw2 hbw2
 try rw [show w1.heap.size + 1 = w2.heap.size from HGw2.out.symm]
 obtain ⟨w3, hw3⟩ : ∃ w3, w2.alloc (.cells #[.slice none 0 0] 57) = w3 := ⟨_, rfl⟩
 have hbw3 : Below w2.heap.size w2 w3 := by rw [← hw3]; exact (Below.refl _ _).alloc (Nat.le_refl _) _
 have HGw3 := Lib.hid (show w3.heap.size = w2.heap.size + 1 by rw [← hw3]; simp)
 have HXrw3 := Lib.hid (show BoxL w3 w2.heap.size [.slice none 0 0] from box_mk hw3)
 try simp only [hw3]
 have HSw3 := Lib.hid (show w2.heap.size ≤ w3.heap.size from hbw3.size)
 have HBw3 := Lib.hid (HBw2.out.trans (hbw3.mono HBw2.out.size))
 have tw3 := Lib.hid (tw2.out.kept (grown_none hbw3) (fun e => by cases e))
 have pw3 := Lib.hid (HXpw2.out.kept (grown_none hbw3) (fun e => by cases e))
 clear hw3 hbw3
 try rw [show w2.heap.size + 1 = w3.heap.size from HGw3.out.symm]
 have ct0 := tw3.out.1 0 _ rfl
 have cp0 := pw3.out.1 0 _ rfl
 have cp1 := pw3.out.1 1 _ rfl
 have cp3 := pw3.out.1 3 _ rfl
 have cr0 := HXrw3.out.1 0 _ rfl
 have cfr := HXrw3.out.2.1
 go_wp2_with fail
 refine (look_any A c L _ B (Nat.le_trans HB.out HBw3.out.size) (HX.out.keep (HBw3.out.mono HB.out)) (fun d hd => (HVS.out d hd).1) HVL.out).mono ?_
 rintro e w4 ⟨hbw4, bp, bo, rfl, hmp_, hmo_, -, -⟩
 clear ct0 cp0 cp1 cp3 cr0 cfr
 have HSw4 := Lib.hid (show w3.heap.size ≤ w4.heap.size from hbw4.size)
 have HBw4 := Lib.hid (HBw3.out.trans (hbw4.mono HBw3.out.size))
 have tw4 := Lib.hid (tw3.out.kept (grown_none hbw4) (fun e => by cases e))
 have pw4 := Lib.hid (pw3.out.kept (grown_none hbw4) (fun e => by cases e))
 have rw4 := Lib.hid (HXrw3.out.kept (grown_none hbw4) (fun e => by cases e))
 clear hbw4
 have HMO := Lib.hid hmo_; clear hmp_ hmo_
 have ct0 := tw4.out.1 0 _ rfl
 have cp0 := pw4.out.1 0 _ rfl
 have cp1 := pw4.out.1 1 _ rfl
 have cp3 := pw4.out.1 3 _ rfl
 have cr0 := rw4.out.1 0 _ rfl
 have cfr := rw4.out.2.1
 go_upto_region 2 with fail
 obtain ⟨w5, hw5⟩ : ∃ w5, w4.alloc (.cells #[.slice A L.length c, .map (some bp), .map (some bo)] 100) = w5 := ⟨_, rfl⟩
 have hbw5 : Below w4.heap.size w4 w5 := by rw [← hw5]; exact (Below.refl _ _).alloc (Nat.le_refl _) _
 have HGw5 := Lib.hid (show w5.heap.size = w4.heap.size + 1 by rw [← hw5]; simp)
 have HXvw5 := Lib.hid (show BoxL w5 w4.heap.size [.slice A L.length c, .map (some bp), .map (some bo)] from box_mk hw5)
 try simp only [hw5]
 have HSw5 := Lib.hid (show w4.heap.size ≤ w5.heap.size from hbw5.size)
 have HBw5 := Lib.hid (HBw4.out.trans (hbw5.mono HBw4.out.size))
 have tw5 := Lib.hid (tw4.out.kept (grown_none hbw5) (fun e => by cases e))
 have pw5 := Lib.hid (pw4.out.kept (grown_none hbw5) (fun e => by cases e))
 have rw5 := Lib.hid (rw4.out.kept (grown_none hbw5) (fun e => by cases e))
 have HMOw5 := Lib.hid (HMO.out.next hbw5)
 clear hw5 hbw5
 try rw [show w4.heap.size + 1 = w5.heap.size from HGw5.out.symm]
 clear ct0 cp0 cp1 cp3 cr0 cfr
 have ct0 := tw5.out.1 0 _ rfl
 have cp0 := pw5.out.1 0 _ rfl
 have cp1 := pw5.out.1 1 _ rfl
 have cp3 := pw5.out.1 3 _ rfl
 have cr0 := rw5.out.1 0 _ rfl
 have cfr := rw5.out.2.1
 have cv2 := HXvw5.out.1 2 _ rfl
 have hl1 := look_str_ok HMOw5.out HD.out.2.1
 have hl2 := look_str_ok HMOw5.out HD.out.1
 rw [orgM_str, orgM_some] at hl1 hl2
 obtain ⟨a, ha⟩ : ∃ z, strF L d.par = z := ⟨_, rfl⟩
 obtain ⟨b2, hb2⟩ : ∃ z, strF L d.idx = z := ⟨_, rfl⟩
 obtain ⟨there, hth⟩ : ∃ z, (idxs L).contains d.par = z := ⟨_, rfl⟩
 obtain ⟨taken, htk⟩ : ∃ z, (idxs L).contains d.idx = z := ⟨_, rfl⟩
 rw [ha, hth] at hl1
 rw [hb2, htk] at hl2
 have hasz : a.size ≤ 8448 := by rw [← ha]; exact HSTR.out _
 have HAS := Lib.hid hasz; have HAE := Lib.hid ha; have HTH := Lib.hid hth; have HTK := Lib.hid htk; clear ha hb2 hth htk hasz
 have f1 : ¬ 9223372036854775807 < a.size + 1 := by have := HAS.out; omega
 have f2 : ¬ 9223372036854775807 < a.size + 1 + d.orig.size := by have := HAS.out; have := HSM.out; omega
 go_upto_region 5 with fail
 clear hl1 hl2 f1 f2
 have hos : a ++ ⟨#[47]⟩ ++ d.orig = pathS (ownL L d) := by rw [← HAE.out]; exact own_str L d
 obtain ⟨s, hs⟩ : ∃ s, a ++ ⟨#[47]⟩ ++ d.orig = s := ⟨_, rfl⟩
 have hssz : s.size < 4294967281 := by rw [← hs, ByteArray.size_append, ByteArray.size_append]; have h5 : (⟨#[47]⟩ : ByteArray).size = 1 := rfl; have := HAS.out; have := HSM.out; omega
 try simp only [hs]
 rw [hs] at hos
 have HSO := Lib.hid hos; have HSS := Lib.hid hssz; clear hos hssz hs
 obtain ⟨w6, hw6⟩ : ∃ w6, w5.alloc (.cells #[.string s] 9) = w6 := ⟨_, rfl⟩
 have hbw6 : Below w5.heap.size w5 w6 := by rw [← hw6]; exact (Below.refl _ _).alloc (Nat.le_refl _) _
 have HGw6 := Lib.hid (show w6.heap.size = w5.heap.size + 1 by rw [← hw6]; simp)
 have HXow6 := Lib.hid (show BoxL w6 w5.heap.size [.string s] from box_mk hw6)
 try simp only [hw6]
 have HSw6 := Lib.hid (show w5.heap.size ≤ w6.heap.size from hbw6.size)
 have HBw6 := Lib.hid (HBw5.out.trans (hbw6.mono HBw5.out.size))
 have tw6 := Lib.hid (tw5.out.kept (grown_none hbw6) (fun e => by cases e))
 have pw6 := Lib.hid (pw5.out.kept (grown_none hbw6) (fun e => by cases e))
 have rw6 := Lib.hid (rw5.out.kept (grown_none hbw6) (fun e => by cases e))
 have vw6 := Lib.hid (HXvw5.out.kept (grown_none hbw6) (fun e => by cases e))
 have HMOw6 := Lib.hid (HMOw5.out.next hbw6)
 clear hw6 hbw6
 try rw [show w5.heap.size + 1 = w6.heap.size from HGw6.out.symm]
 clear ct0 cp0 cp1 cp3 cr0 cfr cv2
 have ct0 := tw6.out.1 0 _ rfl
 have cp0 := pw6.out.1 0 _ rfl
 have cp1 := pw6.out.1 1 _ rfl
 have cp3 := pw6.out.1 3 _ rfl
 have cr0 := rw6.out.1 0 _ rfl
 have cfr := rw6.out.2.1
 have cv2 := vw6.out.1 2 _ rfl
 have co0 := HXow6.out.1 0 _ rfl
 skip
 go_wp2_with fail
 refine (IndexFuncD_any A c L _ _ _ _ _ B (Nat.le_trans HB.out HBw6.out.size) (HX.out.keep (HBw6.out.mono HB.out)) (insert1_pred A c bp bo L.length _ _ B L s _ vw6.out HXow6.out HMOw6.out HSS.out HSTR.out (HOK.out.next HBw6.out)) (fun _ _ => trivial)).mono ?_
 rintro e w7 ⟨rfl, hbw7⟩
 clear ct0 cp0 cp1 cp3 cr0 cfr cv2 co0
 have HSw7 := Lib.hid (show w6.heap.size ≤ w7.heap.size from hbw7.size)
 have HBw7 := Lib.hid (HBw6.out.trans (hbw7.mono HBw6.out.size))
 have tw7 := Lib.hid (tw6.out.kept (grown_none hbw7) (fun e => by cases e))
 have pw7 := Lib.hid (pw6.out.kept (grown_none hbw7) (fun e => by cases e))
 have rw7 := Lib.hid (rw6.out.kept (grown_none hbw7) (fun e => by cases e))
 have vw7 := Lib.hid (vw6.out.kept (grown_none hbw7) (fun e => by cases e))
 have ow7 := Lib.hid (HXow6.out.kept (grown_none hbw7) (fun e => by cases e))
 have HMOw7 := Lib.hid (HMOw6.out.next hbw7)
 clear hbw7
 have ct0 := tw7.out.1 0 _ rfl
 have cp0 := pw7.out.1 0 _ rfl
 have cp1 := pw7.out.1 1 _ rfl
 have cp3 := pw7.out.1 3 _ rfl
 have cr0 := rw7.out.1 0 _ rfl
 have cfr := rw7.out.2.1
 have cv2 := vw7.out.1 2 _ rfl
 have co0 := ow7.out.1 0 _ rfl
 have hat := idx_take (p := notLess L s) L
 have hatd : (L.takeWhile fun t => !notLess L s t).length = atP L d := by unfold atP; rw [HSO.out]
 rw [hatd] at hat
 obtain ⟨z, hz⟩ : ∃ z, idxInt (notLess L s) L = z := ⟨_, rfl⟩
 rw [hz] at hat ⊢
 have hatl := atP_le L d
 obtain ⟨m, hm⟩ : ∃ m, atP L d = m := ⟨_, rfl⟩
 rw [hm] at hat hatl
 have HAT := Lib.hid hat; have HATL := Lib.hid hatl; have HM := Lib.hid hm; clear hat hatl hm hz hatd
 go_upto_if 41 with fail
 go_cut [12] (fun s12 wx => s12 = .int .i64 m ∧ w7 = wx)
 case first =>
  rcases HAT.out with ⟨h1, h2⟩ | h1
  ·
   subst h1
   have HM2 := Lib.hid h2; clear h2
   go_wp2_with fail
   go_meet
   exact ⟨by rw [HM2.out], rfl⟩
  ·
   subst h1
   have i1 : ¬ (m : Int) < 0 := by omega
   go_wp2_with fail
   go_meet
   exact ⟨rfl, rfl⟩
 case rest =>
 obtain ⟨rfl, rfl⟩ := hcut
 clear ct0 cp0 cp1 cp3 cr0 cfr cv2 co0
 have cp0 := pw7.out.1 0 _ rfl
 have cp1 := pw7.out.1 1 _ rfl
 have cp2 := pw7.out.1 2 _ rfl
 have cp3 := pw7.out.1 3 _ rfl
 have cp4 := pw7.out.1 4 _ rfl
 have cp5 := pw7.out.1 5 _ rfl
 have cp6 := pw7.out.1 6 _ rfl
 have cp7 := pw7.out.1 7 _ rfl
 have cp8 := pw7.out.1 8 _ rfl
 have cp9 := pw7.out.1 9 _ rfl
 have cr0 := rw7.out.1 0 _ rfl
 have cfr := rw7.out.2.1
 go_wp2_with fail
 refine (Check_any d A2 c2 _ B (Nat.le_trans HB.out HBw7.out.size) HD.out (HA.out.keep (HBw7.out.mono HB.out)) (HOK.out.next HBw7.out)).mono ?_
 rintro e w8 ⟨rfl, hbw8⟩
 clear cp0 cp1 cp2 cp3 cp4 cp5 cp6 cp7 cp8 cp9 cr0 cfr
 have HSw8 := Lib.hid (show w7.heap.size ≤ w8.heap.size from hbw8.size)
 have HBw8 := Lib.hid (HBw7.out.trans (hbw8.mono HBw7.out.size))
 have tw8 := Lib.hid (tw7.out.kept (grown_none hbw8) (fun e => by cases e))
 have pw8 := Lib.hid (pw7.out.kept (grown_none hbw8) (fun e => by cases e))
 have rw8 := Lib.hid (rw7.out.kept (grown_none hbw8) (fun e => by cases e))
 have vw8 := Lib.hid (vw7.out.kept (grown_none hbw8) (fun e => by cases e))
 have ow8 := Lib.hid (ow7.out.kept (grown_none hbw8) (fun e => by cases e))
 have HMOw8 := Lib.hid (HMOw7.out.next hbw8)
 clear hbw8
 have ct0 := tw8.out.1 0 _ rfl
 have cp1 := pw8.out.1 1 _ rfl
 have cr0 := rw8.out.1 0 _ rfl
 have cfr := rw8.out.2.1
 have co0 := ow8.out.1 0 _ rfl
 by_cases hc : checkD d = 0
 ·
  have HDS := Lib.hid (show validB d.orig = true from (check_names hc).2.1)
  have ec : (checkD d != 0) = false := by rw [hc]; rfl
  have HC := Lib.hid hc; try rw [hc]
  clear hc
  cases taken with
  | true =>
   have HE := Lib.hid (show progE L d = 44 by unfold progE; rw [if_neg (by rw [HC.out]; decide), if_pos HTK.out])
   go_wp2
   refine bodyPost_ret (v := .tuple #[.agg #[.slice none 0 0], .int .i64 44]) (by simp [results, Tryz.results32, go_sem, cr0, cfr]) rfl ⟨HBw8.out.setCell (by have := HGw1.out; have := HGw2.out; show w.heap.size ≤ w2.heap.size; omega) _, by rw [HE.out]⟩
  | false =>
   by_cases hp : d.par = 0
   ·
    have ep : (d.par != 0) = false := by rw [hp]; rfl
    have HP := Lib.hid (show ¬ (d.par ≠ 0 ∧ (idxs L).contains d.par = false) from fun h => h.1 hp); clear hp
    by_cases hl : 256 ≤ L.length
    ·
     have i4 : (256 : Int) ≤ (L.length : Int) := by omega
     have HL := Lib.hid hl; clear hl
     have HE := Lib.hid (show progE L d = 40 by unfold progE; rw [if_neg (by rw [HC.out]; decide), if_neg (by rw [HTK.out]; decide), if_neg HP.out, if_pos HL.out])
     go_wp2
     refine bodyPost_ret (v := .tuple #[.agg #[.slice none 0 0], .int .i64 40]) (by simp [results, Tryz.results32, go_sem, cr0, cfr]) rfl ⟨HBw8.out.setCell (by have := HGw1.out; have := HGw2.out; show w.heap.size ≤ w2.heap.size; omega) _, by rw [HE.out]⟩
    ·
     have i4 : ¬ (256 : Int) ≤ (L.length : Int) := by omega
     have HL := Lib.hid hl; clear hl
     go_wp2_with fail
     refine (depth_any s _ HSS.out (HOK.out.next HBw8.out)).mono ?_
     rintro e w9 ⟨rfl, hbw9⟩
     clear ct0 cp1 cr0 cfr co0
     have HSw9 := Lib.hid (show w8.heap.size ≤ w9.heap.size from hbw9.size)
     have HBw9 := Lib.hid (HBw8.out.trans (hbw9.mono HBw8.out.size))
     have tw9 := Lib.hid (tw8.out.kept (grown_none hbw9) (fun e => by cases e))
     have pw9 := Lib.hid (pw8.out.kept (grown_none hbw9) (fun e => by cases e))
     have rw9 := Lib.hid (rw8.out.kept (grown_none hbw9) (fun e => by cases e))
     have vw9 := Lib.hid (vw8.out.kept (grown_none hbw9) (fun e => by cases e))
     have ow9 := Lib.hid (ow8.out.kept (grown_none hbw9) (fun e => by cases e))
     have HMOw9 := Lib.hid (HMOw8.out.next hbw9)
     clear hbw9
     have ct0 := tw9.out.1 0 _ rfl
     have cr0 := rw9.out.1 0 _ rfl
     have cfr := rw9.out.2.1
     have co0 := ow9.out.1 0 _ rfl
     obtain ⟨dp, hdp⟩ : ∃ z, depthS s = z := ⟨_, rfl⟩
     rw [hdp]
     have HDP := Lib.hid hdp; clear hdp
     by_cases h7 : 7 < dp
     ·
      have H7 := Lib.hid (show 7 < depthS (pathS (ownL L d)) by rw [← HSO.out, HDP.out]; exact h7)
      have HE := Lib.hid (show progE L d = 46 by unfold progE; rw [if_neg (by rw [HC.out]; decide), if_neg (by rw [HTK.out]; decide), if_neg HP.out, if_neg HL.out, if_pos H7.out])
      go_wp2
      refine bodyPost_ret (v := .tuple #[.agg #[.slice none 0 0], .int .i64 46]) (by simp [results, Tryz.results32, go_sem, cr0, cfr]) rfl ⟨HBw9.out.setCell (by have := HGw1.out; have := HGw2.out; show w.heap.size ≤ w2.heap.size; omega) _, by rw [HE.out]⟩
     ·
      have H7 := Lib.hid (show ¬ 7 < depthS (pathS (ownL L d)) by rw [← HSO.out, HDP.out]; exact h7)
      go_upto_region 18 with fail
      go_cut [73] (fun s73 wx => s73 = .bool (sameAt L d) ∧ Hid (Below w9.heap.size w9 wx))
      case first =>
       clear ct0 cr0 cfr co0
       by_cases hml : m < L.length
       ·
        have i5 : (m : Int) < (L.length : Int) := by omega
        obtain ⟨b3, o3, rfl, hb3, A3, c3, hok3, -, hcs3⟩ := (HX.out.keep (HBw9.out.mono HB.out)).dev hml
        obtain ⟨y, hy⟩ : ∃ y, L[m]'hml = y := ⟨_, rfl⟩
        rw [hy] at hok3 hcs3
        have HOK3 := Lib.hid hok3
        have HSA := Lib.hid (show sameAt L d = decide (strF L y.idx = s) by unfold sameAt; rw [HM.out, List.getElem?_eq_getElem hml, hy, HSO.out])
        have y0 := hcs3.1
        clear hok3 hcs3 hy hb3
        have hlk0 := orgM_str L y.idx
        obtain ⟨u, hu⟩ : ∃ u, strF L y.idx = u := ⟨_, rfl⟩
        rw [hu] at HSA hlk0
        have HLK := Lib.hid hlk0; clear hlk0 hu
        have hS_ : BoxL w9 w.heap.size [.slice (some ⟨b3, o3, none⟩) L.length c] ∧ BoxL w9 w4.heap.size [.slice (some ⟨b3, o3, none⟩) L.length c, .map (some bp), .map (some bo)] ∧ BoxL w9 w5.heap.size [.string s] ∧ w9.cell? ⟨b3, o3 + m * 10, none⟩ = some (.int .i64 y.idx) ∧ MapV Tryz.prog 3 9 w9 bo L.length (orgM L) := ⟨tw9.out, vw9.out, ow9.out, y0, HMOw9.out⟩
        have HS_ := Lib.hid hS_; clear hS_ y0
        refine wp_region_held_drew (S := fun w' => BoxL w' w.heap.size [.slice (some ⟨b3, o3, none⟩) L.length c] ∧ BoxL w' w4.heap.size [.slice (some ⟨b3, o3, none⟩) L.length c, .map (some bp), .map (some bo)] ∧ BoxL w' w5.heap.size [.string s] ∧ w'.cell? ⟨b3, o3 + m * 10, none⟩ = some (.int .i64 y.idx) ∧ MapV Tryz.prog 3 9 w' bo L.length (orgM L)) (by kernel_rfl) ⟨HS_.out.1.drew, HS_.out.2.1.drew, HS_.out.2.2.1.drew, HS_.out.2.2.2.1, HS_.out.2.2.2.2.next (below_drewN_self _ _ 1)⟩ (fun hS0 => ?_)
        have HS1 := Lib.hid hS0; clear hS0
        refine wpAnyH_take (i := 0) (oi := ⟨some 74, _, _, _, _, _⟩) (v := .int .i64 m) rfl (by kernel_rfl) (by kernel_rfl) (by kernel_rfl) (fun _ _ _ h => h) (Or.inl ⟨by rfl, fun w' hS => by go_simp⟩) HS1.out ?_
        try simp only [Act.put, List.setIfInBounds_toArray, List.set_cons_zero, List.set_cons_succ]
        refine wpAnyH_take (i := 1) (oi := ⟨some 75, _, _, _, _, _⟩) (v := .pointer (some ⟨w.heap.size, 0, none⟩)) rfl (by kernel_rfl) (by kernel_rfl) (by kernel_rfl) (fun _ _ _ h => h) (Or.inl ⟨by rfl, fun w' hS => by go_simp⟩) HS1.out ?_
        try simp only [Act.put, List.setIfInBounds_toArray, List.set_cons_zero, List.set_cons_succ]
        refine wpAnyH_take (i := 2) (oi := ⟨some 76, _, _, _, _, _⟩) (v := .slice (some ⟨b3, o3, none⟩) L.length c) rfl (by kernel_rfl) (by kernel_rfl) (by kernel_rfl) (fun _ _ _ h => h) (Or.inl ⟨by rfl, fun w' hS => by (have u0_ := hS.1.1 0 _ rfl; go_simp)⟩) HS1.out ?_
        try simp only [Act.put, List.setIfInBounds_toArray, List.set_cons_zero, List.set_cons_succ]
        refine wpAnyH_take (i := 3) (oi := ⟨some 77, _, _, _, _, _⟩) (v := .int .i64 L.length) rfl (by kernel_rfl) (by kernel_rfl) (by kernel_rfl) (fun _ _ _ h => h) (Or.inl ⟨by rfl, fun w' hS => by go_simp⟩) HS1.out ?_
        try simp only [Act.put, List.setIfInBounds_toArray, List.set_cons_zero, List.set_cons_succ]
        refine wpAnyH_take (i := 4) (oi := ⟨some 78, _, _, _, _, _⟩) (v := .bool true) rfl (by kernel_rfl) (by kernel_rfl) (by kernel_rfl) (fun _ _ _ h => h) (Or.inl ⟨by rfl, fun w' hS => by go_simp⟩) HS1.out ?_
        try simp only [Act.put, List.setIfInBounds_toArray, List.set_cons_zero, List.set_cons_succ]
        refine wpAnyH_take (i := 5) (oi := ⟨some 79, _, _, _, _, _⟩) (v := .bool true) rfl (by kernel_rfl) (by kernel_rfl) (by kernel_rfl) (fun _ _ _ h => h) (Or.inl ⟨by rfl, fun w' hS => by go_simp⟩) HS1.out ?_
        try simp only [Act.put, List.setIfInBounds_toArray, List.set_cons_zero, List.set_cons_succ]
        refine wpAnyH_take (i := 6) (oi := ⟨some 80, _, _, _, _, _⟩) (v := .pointer (some ⟨w4.heap.size, 2, none⟩)) rfl (by kernel_rfl) (by kernel_rfl) (by kernel_rfl) (fun _ _ _ h => h) (Or.inl ⟨by rfl, fun w' hS => by go_simp⟩) HS1.out ?_
        try simp only [Act.put, List.setIfInBounds_toArray, List.set_cons_zero, List.set_cons_succ]
        refine wpAnyH_take (i := 7) (oi := ⟨some 81, _, _, _, _, _⟩) (v := .map (some bo)) rfl (by kernel_rfl) (by kernel_rfl) (by kernel_rfl) (fun _ _ _ h => h) (Or.inl ⟨by rfl, fun w' hS => by (have u0_ := hS.2.1.1 2 _ rfl; go_simp)⟩) HS1.out ?_
        try simp only [Act.put, List.setIfInBounds_toArray, List.set_cons_zero, List.set_cons_succ]
        refine wpAnyH_take (i := 8) (oi := ⟨some 82, _, _, _, _, _⟩) (v := .pointer (some ⟨w.heap.size, 0, none⟩)) rfl (by kernel_rfl) (by kernel_rfl) (by kernel_rfl) (fun _ _ _ h => h) (Or.inl ⟨by rfl, fun w' hS => by go_simp⟩) HS1.out ?_
        try simp only [Act.put, List.setIfInBounds_toArray, List.set_cons_zero, List.set_cons_succ]
        refine wpAnyH_take (i := 9) (oi := ⟨some 83, _, _, _, _, _⟩) (v := .slice (some ⟨b3, o3, none⟩) L.length c) rfl (by kernel_rfl) (by kernel_rfl) (by kernel_rfl) (fun _ _ _ h => h) (Or.inl ⟨by rfl, fun w' hS => by (have u0_ := hS.1.1 0 _ rfl; go_simp)⟩) HS1.out ?_
        try simp only [Act.put, List.setIfInBounds_toArray, List.set_cons_zero, List.set_cons_succ]
        refine wpAnyH_take (i := 10) (oi := ⟨some 84, _, _, _, _, _⟩) (v := .int .i64 m) rfl (by kernel_rfl) (by kernel_rfl) (by kernel_rfl) (fun _ _ _ h => h) (Or.inl ⟨by rfl, fun w' hS => by go_simp⟩) HS1.out ?_
        try simp only [Act.put, List.setIfInBounds_toArray, List.set_cons_zero, List.set_cons_succ]
        refine wpAnyH_take (i := 11) (oi := ⟨some 85, _, _, _, _, _⟩) (v := .pointer (some ⟨b3, o3 + m * 10, none⟩)) rfl (by kernel_rfl) (by kernel_rfl) (by kernel_rfl) (fun _ _ _ h => h) (Or.inl ⟨by rfl, fun w' hS => by go_simp⟩) HS1.out ?_
        try simp only [Act.put, List.setIfInBounds_toArray, List.set_cons_zero, List.set_cons_succ]
        refine wpAnyH_take (i := 12) (oi := ⟨some 86, _, _, _, _, _⟩) (v := .pointer (some ⟨b3, o3 + m * 10, none⟩)) rfl (by kernel_rfl) (by kernel_rfl) (by kernel_rfl) (fun _ _ _ h => h) (Or.inl ⟨by rfl, fun w' hS => by go_simp⟩) HS1.out ?_
        try simp only [Act.put, List.setIfInBounds_toArray, List.set_cons_zero, List.set_cons_succ]
        refine wpAnyH_take (i := 13) (oi := ⟨some 87, _, _, _, _, _⟩) (v := .int .i64 y.idx) rfl (by kernel_rfl) (by kernel_rfl) (by kernel_rfl) (fun _ _ _ h => h) (Or.inl ⟨by rfl, fun w' hS => by (have u0_ := hS.2.2.2.1; go_simp)⟩) HS1.out ?_
        try simp only [Act.put, List.setIfInBounds_toArray, List.set_cons_zero, List.set_cons_succ]
        refine wpAnyH_take (i := 14) (oi := ⟨some 88, _, _, _, _, _⟩) (v := .string u) rfl (by kernel_rfl) (by kernel_rfl) (by kernel_rfl) (fun _ _ _ h => h) (Or.inl ⟨by rfl, fun w' hS => by (have hlk := look_str hS.2.2.2.2 HOK3.out.1; rw [HLK.out] at hlk; go_simp)⟩) HS1.out ?_
        try simp only [Act.put, List.setIfInBounds_toArray, List.set_cons_zero, List.set_cons_succ]
        refine wpAnyH_take (i := 15) (oi := ⟨some 89, _, _, _, _, _⟩) (v := .string s) rfl (by kernel_rfl) (by kernel_rfl) (by kernel_rfl) (fun _ _ _ h => h) (Or.inl ⟨by rfl, fun w' hS => by (have u0_ := hS.2.2.1.1 0 _ rfl; go_simp)⟩) HS1.out ?_
        try simp only [Act.put, List.setIfInBounds_toArray, List.set_cons_zero, List.set_cons_succ]
        refine wpAnyH_take (i := 16) (oi := ⟨some 90, _, _, _, _, _⟩) (v := .bool (u.toList == s.toList)) rfl (by kernel_rfl) (by kernel_rfl) (by kernel_rfl) (fun _ _ _ h => h) (Or.inl ⟨by rfl, fun w' hS => by go_simp⟩) HS1.out ?_
        try simp only [Act.put, List.setIfInBounds_toArray, List.set_cons_zero, List.set_cons_succ]
        refine wpAnyH_take (i := 17) (oi := ⟨some 91, _, _, _, _, _⟩) (v := .bool (u.toList == s.toList)) rfl (by kernel_rfl) (by kernel_rfl) (by kernel_rfl) (fun _ _ _ h => h) (Or.inl ⟨by rfl, fun w' hS => by go_simp⟩) HS1.out ?_
        try simp only [Act.put, List.setIfInBounds_toArray, List.set_cons_zero, List.set_cons_succ]
        refine wpAnyH_take (i := 18) (oi := ⟨some 73, _, _, _, _, _⟩) (v := .bool (u.toList == s.toList)) rfl (by kernel_rfl) (by kernel_rfl) (by kernel_rfl) (fun _ _ _ h => h) (Or.inl ⟨by rfl, fun w' hS => by go_simp⟩) HS1.out ?_
        try simp only [Act.put, List.setIfInBounds_toArray, List.set_cons_zero, List.set_cons_succ]
        refine wpAnyH_done (by kernel_rfl) ?_ _
        have HEQ := Lib.hid (show (u.toList == s.toList) = sameAt L d by rw [HSA.out, ba_beq])
        go_wp2_with fail
        go_meet
        exact ⟨by rw [HEQ.out], below_drewN_self _ _ 1⟩
       ·
        have i5 : ¬ (m : Int) < (L.length : Int) := by omega
        have HSA := Lib.hid (show false = sameAt L d by unfold sameAt; rw [HM.out, List.getElem?_eq_none (by omega)])
        refine wp_region_held_drew (S := fun w' => BoxL w' w.heap.size [.slice A L.length c]) (by kernel_rfl) tw9.out.drew (fun hS0 => ?_)
        have HS1 := Lib.hid hS0; clear hS0
        refine wpAnyH_take (i := 0) (oi := ⟨some 74, _, _, _, _, _⟩) (v := .int .i64 m) rfl (by kernel_rfl) (by kernel_rfl) (by kernel_rfl) (fun _ _ _ h => h) (Or.inl ⟨by rfl, fun w' hS => by go_simp⟩) HS1.out ?_
        try simp only [Act.put, List.setIfInBounds_toArray, List.set_cons_zero, List.set_cons_succ]
        refine wpAnyH_take (i := 1) (oi := ⟨some 75, _, _, _, _, _⟩) (v := .pointer (some ⟨w.heap.size, 0, none⟩)) rfl (by kernel_rfl) (by kernel_rfl) (by kernel_rfl) (fun _ _ _ h => h) (Or.inl ⟨by rfl, fun w' hS => by go_simp⟩) HS1.out ?_
        try simp only [Act.put, List.setIfInBounds_toArray, List.set_cons_zero, List.set_cons_succ]
        refine wpAnyH_take (i := 2) (oi := ⟨some 76, _, _, _, _, _⟩) (v := .slice A L.length c) rfl (by kernel_rfl) (by kernel_rfl) (by kernel_rfl) (fun _ _ _ h => h) (Or.inl ⟨by rfl, fun w' hS => by (have u0_ := hS.1 0 _ rfl; go_simp)⟩) HS1.out ?_
        try simp only [Act.put, List.setIfInBounds_toArray, List.set_cons_zero, List.set_cons_succ]
        refine wpAnyH_take (i := 3) (oi := ⟨some 77, _, _, _, _, _⟩) (v := .int .i64 L.length) rfl (by kernel_rfl) (by kernel_rfl) (by kernel_rfl) (fun _ _ _ h => h) (Or.inl ⟨by rfl, fun w' hS => by go_simp⟩) HS1.out ?_
        try simp only [Act.put, List.setIfInBounds_toArray, List.set_cons_zero, List.set_cons_succ]
        refine wpAnyH_take (i := 4) (oi := ⟨some 78, _, _, _, _, _⟩) (v := .bool false) rfl (by kernel_rfl) (by kernel_rfl) (by kernel_rfl) (fun _ _ _ h => h) (Or.inl ⟨by rfl, fun w' hS => by go_simp⟩) HS1.out ?_
        try simp only [Act.put, List.setIfInBounds_toArray, List.set_cons_zero, List.set_cons_succ]
        refine wpAnyH_take (i := 5) (oi := ⟨some 79, _, _, _, _, _⟩) (v := .bool false) rfl (by kernel_rfl) (by kernel_rfl) (by kernel_rfl) (fun _ _ _ h => h) (Or.inl ⟨by rfl, fun w' hS => by go_simp⟩) HS1.out ?_
        try simp only [Act.put, List.setIfInBounds_toArray, List.set_cons_zero, List.set_cons_succ]
        refine wpAnyH_take (i := 6) (oi := ⟨some 80, _, _, _, _, _⟩) (v := undef) rfl (by kernel_rfl) (by kernel_rfl) (by kernel_rfl) (fun _ _ _ h => h) (Or.inr ⟨by rfl, rfl⟩) HS1.out ?_
        try simp only [Act.put, List.setIfInBounds_toArray, List.set_cons_zero, List.set_cons_succ]
        refine wpAnyH_take (i := 7) (oi := ⟨some 81, _, _, _, _, _⟩) (v := undef) rfl (by kernel_rfl) (by kernel_rfl) (by kernel_rfl) (fun _ _ _ h => h) (Or.inr ⟨by rfl, rfl⟩) HS1.out ?_
        try simp only [Act.put, List.setIfInBounds_toArray, List.set_cons_zero, List.set_cons_succ]
        refine wpAnyH_take (i := 8) (oi := ⟨some 82, _, _, _, _, _⟩) (v := undef) rfl (by kernel_rfl) (by kernel_rfl) (by kernel_rfl) (fun _ _ _ h => h) (Or.inr ⟨by rfl, rfl⟩) HS1.out ?_
        try simp only [Act.put, List.setIfInBounds_toArray, List.set_cons_zero, List.set_cons_succ]
        refine wpAnyH_take (i := 9) (oi := ⟨some 83, _, _, _, _, _⟩) (v := undef) rfl (by kernel_rfl) (by kernel_rfl) (by kernel_rfl) (fun _ _ _ h => h) (Or.inr ⟨by rfl, rfl⟩) HS1.out ?_
        try simp only [Act.put, List.setIfInBounds_toArray, List.set_cons_zero, List.set_cons_succ]
        refine wpAnyH_take (i := 10) (oi := ⟨some 84, _, _, _, _, _⟩) (v := undef) rfl (by kernel_rfl) (by kernel_rfl) (by kernel_rfl) (fun _ _ _ h => h) (Or.inr ⟨by rfl, rfl⟩) HS1.out ?_
        try simp only [Act.put, List.setIfInBounds_toArray, List.set_cons_zero, List.set_cons_succ]
        refine wpAnyH_take (i := 11) (oi := ⟨some 85, _, _, _, _, _⟩) (v := undef) rfl (by kernel_rfl) (by kernel_rfl) (by kernel_rfl) (fun _ _ _ h => h) (Or.inr ⟨by rfl, rfl⟩) HS1.out ?_
        try simp only [Act.put, List.setIfInBounds_toArray, List.set_cons_zero, List.set_cons_succ]
        refine wpAnyH_take (i := 12) (oi := ⟨some 86, _, _, _, _, _⟩) (v := undef) rfl (by kernel_rfl) (by kernel_rfl) (by kernel_rfl) (fun _ _ _ h => h) (Or.inr ⟨by rfl, rfl⟩) HS1.out ?_
        try simp only [Act.put, List.setIfInBounds_toArray, List.set_cons_zero, List.set_cons_succ]
        refine wpAnyH_take (i := 13) (oi := ⟨some 87, _, _, _, _, _⟩) (v := undef) rfl (by kernel_rfl) (by kernel_rfl) (by kernel_rfl) (fun _ _ _ h => h) (Or.inr ⟨by rfl, rfl⟩) HS1.out ?_
        try simp only [Act.put, List.setIfInBounds_toArray, List.set_cons_zero, List.set_cons_succ]
        refine wpAnyH_take (i := 14) (oi := ⟨some 88, _, _, _, _, _⟩) (v := undef) rfl (by kernel_rfl) (by kernel_rfl) (by kernel_rfl) (fun _ _ _ h => h) (Or.inr ⟨by rfl, rfl⟩) HS1.out ?_
        try simp only [Act.put, List.setIfInBounds_toArray, List.set_cons_zero, List.set_cons_succ]
        refine wpAnyH_take (i := 15) (oi := ⟨some 89, _, _, _, _, _⟩) (v := undef) rfl (by kernel_rfl) (by kernel_rfl) (by kernel_rfl) (fun _ _ _ h => h) (Or.inr ⟨by rfl, rfl⟩) HS1.out ?_
        try simp only [Act.put, List.setIfInBounds_toArray, List.set_cons_zero, List.set_cons_succ]
        refine wpAnyH_take (i := 16) (oi := ⟨some 90, _, _, _, _, _⟩) (v := undef) rfl (by kernel_rfl) (by kernel_rfl) (by kernel_rfl) (fun _ _ _ h => h) (Or.inr ⟨by rfl, rfl⟩) HS1.out ?_
        try simp only [Act.put, List.setIfInBounds_toArray, List.set_cons_zero, List.set_cons_succ]
        refine wpAnyH_take (i := 17) (oi := ⟨some 91, _, _, _, _, _⟩) (v := .bool false) rfl (by kernel_rfl) (by kernel_rfl) (by kernel_rfl) (fun _ _ _ h => h) (Or.inl ⟨by rfl, fun w' hS => by go_simp⟩) HS1.out ?_
        try simp only [Act.put, List.setIfInBounds_toArray, List.set_cons_zero, List.set_cons_succ]
        refine wpAnyH_take (i := 18) (oi := ⟨some 73, _, _, _, _, _⟩) (v := .bool false) rfl (by kernel_rfl) (by kernel_rfl) (by kernel_rfl) (fun _ _ _ h => h) (Or.inl ⟨by rfl, fun w' hS => by go_simp⟩) HS1.out ?_
        try simp only [Act.put, List.setIfInBounds_toArray, List.set_cons_zero, List.set_cons_succ]
        refine wpAnyH_done (by kernel_rfl) ?_ _
        go_wp2_with fail
        go_meet
        exact ⟨by rw [HSA.out], below_drewN_self _ _ 1⟩
      case rest =>
      obtain ⟨rfl, hq⟩ := hcut
      have hbq := hq.out
      clear hq
      clear ct0 cr0 cfr co0
      have HSwc := Lib.hid (show w9.heap.size ≤ wc.heap.size from hbq.size)
      have HBwc := Lib.hid (HBw9.out.trans (hbq.mono HBw9.out.size))
      have twc := Lib.hid (tw9.out.kept (grown_none hbq) (fun e => by cases e))
      have pwc := Lib.hid (pw9.out.kept (grown_none hbq) (fun e => by cases e))
      have rwc := Lib.hid (rw9.out.kept (grown_none hbq) (fun e => by cases e))
      have vwc := Lib.hid (vw9.out.kept (grown_none hbq) (fun e => by cases e))
      have owc := Lib.hid (ow9.out.kept (grown_none hbq) (fun e => by cases e))
      have HMOwc := Lib.hid (HMOw9.out.next hbq)
      clear hbq
      have ct0 := twc.out.1 0 _ rfl
      have cp0 := pwc.out.1 0 _ rfl
      have cp1 := pwc.out.1 1 _ rfl
      have cp2 := pwc.out.1 2 _ rfl
      have cp3 := pwc.out.1 3 _ rfl
      have cp4 := pwc.out.1 4 _ rfl
      have cp5 := pwc.out.1 5 _ rfl
      have cp6 := pwc.out.1 6 _ rfl
      have cp7 := pwc.out.1 7 _ rfl
      have cp8 := pwc.out.1 8 _ rfl
      have cp9 := pwc.out.1 9 _ rfl
      have cr0 := rwc.out.1 0 _ rfl
      have cfr := rwc.out.2.1
      cases hsa : sameAt L d with
      | true =>
       have HSA := Lib.hid hsa; clear hsa
       have HE := Lib.hid (show progE L d = 44 by unfold progE; rw [if_neg (by rw [HC.out]; decide), if_neg (by rw [HTK.out]; decide), if_neg HP.out, if_neg HL.out, if_neg (by have := H7.out; omega), if_pos (by show (sameAt L d || clashesB L d) = true; rw [HSA.out]; rfl)])
       go_wp2
       refine bodyPost_ret (v := .tuple #[.agg #[.slice none 0 0], .int .i64 44]) (by simp [results, Tryz.results32, go_sem, cr0, cfr]) rfl ⟨HBwc.out.setCell (by have := HGw1.out; have := HGw2.out; show w.heap.size ≤ w2.heap.size; omega) _, by rw [HE.out]⟩
      | false =>
       have HSA := Lib.hid hsa; clear hsa
       go_wp2_with fail
       refine (clashes_any A c L d A2 c2 _ B (Nat.le_trans HB.out HBwc.out.size) (HX.out.keep (HBwc.out.mono HB.out)) (fun x hx => by have := (HVS.out x hx).1; omega) (by have := valid_size HDS.out; omega) (HOK.out.next HBwc.out)).mono ?_
       rintro e w10 ⟨rfl, hbw10⟩
       clear ct0 cp0 cp1 cp2 cp3 cp4 cp5 cp6 cp7 cp8 cp9 cr0 cfr
       have HSw10 := Lib.hid (show wc.heap.size ≤ w10.heap.size from hbw10.size)
       have HBw10 := Lib.hid (HBwc.out.trans (hbw10.mono HBwc.out.size))
       have tw10 := Lib.hid (twc.out.kept (grown_none hbw10) (fun e => by cases e))
       have pw10 := Lib.hid (pwc.out.kept (grown_none hbw10) (fun e => by cases e))
       have rw10 := Lib.hid (rwc.out.kept (grown_none hbw10) (fun e => by cases e))
       have vw10 := Lib.hid (vwc.out.kept (grown_none hbw10) (fun e => by cases e))
       have ow10 := Lib.hid (owc.out.kept (grown_none hbw10) (fun e => by cases e))
       have HMOw10 := Lib.hid (HMOwc.out.next hbw10)
       clear hbw10
       have ct0 := tw10.out.1 0 _ rfl
       have cr0 := rw10.out.1 0 _ rfl
       have cfr := rw10.out.2.1
       cases hcl : clashesB L d with
       | true =>
        have HCL := Lib.hid hcl; clear hcl
        have HE := Lib.hid (show progE L d = 44 by unfold progE; rw [if_neg (by rw [HC.out]; decide), if_neg (by rw [HTK.out]; decide), if_neg HP.out, if_neg HL.out, if_neg (by have := H7.out; omega), if_pos (by show (sameAt L d || clashesB L d) = true; rw [HSA.out, HCL.out]; rfl)])
        go_wp2
        refine bodyPost_ret (v := .tuple #[.agg #[.slice none 0 0], .int .i64 44]) (by simp [results, Tryz.results32, go_sem, cr0, cfr]) rfl ⟨HBw10.out.setCell (by have := HGw1.out; have := HGw2.out; show w.heap.size ≤ w2.heap.size; omega) _, by rw [HE.out]⟩
       | false =>
        exfalso
        exact HPE.out (by unfold progE; rw [if_neg (by rw [HC.out]; decide), if_neg (by rw [HTK.out]; decide), if_neg HP.out, if_neg HL.out, if_neg (by have := H7.out; omega), if_neg (by show ¬ (sameAt L d || clashesB L d) = true; rw [HSA.out, hcl]; decide)])
   ·
    have ep : (d.par != 0) = true := by simpa using hp
    cases there with
    | false =>
     have HP := Lib.hid (show d.par ≠ 0 ∧ (idxs L).contains d.par = false from ⟨hp, HTH.out⟩); clear hp
     have HE := Lib.hid (show progE L d = 42 by unfold progE; rw [if_neg (by rw [HC.out]; decide), if_neg (by rw [HTK.out]; decide), if_pos HP.out])
     go_wp2
     refine bodyPost_ret (v := .tuple #[.agg #[.slice none 0 0], .int .i64 42]) (by simp [results, Tryz.results32, go_sem, cr0, cfr]) rfl ⟨HBw8.out.setCell (by have := HGw1.out; have := HGw2.out; show w.heap.size ≤ w2.heap.size; omega) _, by rw [HE.out]⟩
    | true =>
     have HP := Lib.hid (show ¬ (d.par ≠ 0 ∧ (idxs L).contains d.par = false) from fun h => by rw [HTH.out] at h; exact absurd h.2 (by decide)); clear hp
     by_cases hl : 256 ≤ L.length
     ·
      have i4 : (256 : Int) ≤ (L.length : Int) := by omega
      have HL := Lib.hid hl; clear hl
      have HE := Lib.hid (show progE L d = 40 by unfold progE; rw [if_neg (by rw [HC.out]; decide), if_neg (by rw [HTK.out]; decide), if_neg HP.out, if_pos HL.out])
      go_wp2
      refine bodyPost_ret (v := .tuple #[.agg #[.slice none 0 0], .int .i64 40]) (by simp [results, Tryz.results32, go_sem, cr0, cfr]) rfl ⟨HBw8.out.setCell (by have := HGw1.out; have := HGw2.out; show w.heap.size ≤ w2.heap.size; omega) _, by rw [HE.out]⟩
     ·
      have i4 : ¬ (256 : Int) ≤ (L.length : Int) := by omega
      have HL := Lib.hid hl; clear hl
      go_wp2_with fail
      refine (depth_any s _ HSS.out (HOK.out.next HBw8.out)).mono ?_
      rintro e w11 ⟨rfl, hbw11⟩
      clear ct0 cp1 cr0 cfr co0
      have HSw11 := Lib.hid (show w8.heap.size ≤ w11.heap.size from hbw11.size)
      have HBw11 := Lib.hid (HBw8.out.trans (hbw11.mono HBw8.out.size))
      have tw11 := Lib.hid (tw8.out.kept (grown_none hbw11) (fun e => by cases e))
      have pw11 := Lib.hid (pw8.out.kept (grown_none hbw11) (fun e => by cases e))
      have rw11 := Lib.hid (rw8.out.kept (grown_none hbw11) (fun e => by cases e))
      have vw11 := Lib.hid (vw8.out.kept (grown_none hbw11) (fun e => by cases e))
      have ow11 := Lib.hid (ow8.out.kept (grown_none hbw11) (fun e => by cases e))
      have HMOw11 := Lib.hid (HMOw8.out.next hbw11)
      clear hbw11
      have ct0 := tw11.out.1 0 _ rfl
      have cr0 := rw11.out.1 0 _ rfl
      have cfr := rw11.out.2.1
      have co0 := ow11.out.1 0 _ rfl
      obtain ⟨dp, hdp⟩ : ∃ z, depthS s = z := ⟨_, rfl⟩
      rw [hdp]
      have HDP := Lib.hid hdp; clear hdp
      by_cases h7 : 7 < dp
      ·
       have H7 := Lib.hid (show 7 < depthS (pathS (ownL L d)) by rw [← HSO.out, HDP.out]; exact h7)
       have HE := Lib.hid (show progE L d = 46 by unfold progE; rw [if_neg (by rw [HC.out]; decide), if_neg (by rw [HTK.out]; decide), if_neg HP.out, if_neg HL.out, if_pos H7.out])
       go_wp2
       refine bodyPost_ret (v := .tuple #[.agg #[.slice none 0 0], .int .i64 46]) (by simp [results, Tryz.results32, go_sem, cr0, cfr]) rfl ⟨HBw11.out.setCell (by have := HGw1.out; have := HGw2.out; show w.heap.size ≤ w2.heap.size; omega) _, by rw [HE.out]⟩
      ·
       have H7 := Lib.hid (show ¬ 7 < depthS (pathS (ownL L d)) by rw [← HSO.out, HDP.out]; exact h7)
       go_upto_region 18 with fail
       go_cut [73] (fun s73 wx => s73 = .bool (sameAt L d) ∧ Hid (Below w11.heap.size w11 wx))
       case first =>
        clear ct0 cr0 cfr co0
        by_cases hml : m < L.length
        ·
         have i5 : (m : Int) < (L.length : Int) := by omega
         obtain ⟨b3, o3, rfl, hb3, A3, c3, hok3, -, hcs3⟩ := (HX.out.keep (HBw11.out.mono HB.out)).dev hml
         obtain ⟨y, hy⟩ : ∃ y, L[m]'hml = y := ⟨_, rfl⟩
         rw [hy] at hok3 hcs3
         have HOK3 := Lib.hid hok3
         have HSA := Lib.hid (show sameAt L d = decide (strF L y.idx = s) by unfold sameAt; rw [HM.out, List.getElem?_eq_getElem hml, hy, HSO.out])
         have y0 := hcs3.1
         clear hok3 hcs3 hy hb3
         have hlk0 := orgM_str L y.idx
         obtain ⟨u, hu⟩ : ∃ u, strF L y.idx = u := ⟨_, rfl⟩
         rw [hu] at HSA hlk0
         have HLK := Lib.hid hlk0; clear hlk0 hu
         have hS_ : BoxL w11 w.heap.size [.slice (some ⟨b3, o3, none⟩) L.length c] ∧ BoxL w11 w4.heap.size [.slice (some ⟨b3, o3, none⟩) L.length c, .map (some bp), .map (some bo)] ∧ BoxL w11 w5.heap.size [.string s] ∧ w11.cell? ⟨b3, o3 + m * 10, none⟩ = some (.int .i64 y.idx) ∧ MapV Tryz.prog 3 9 w11 bo L.length (orgM L) := ⟨tw11.out, vw11.out, ow11.out, y0, HMOw11.out⟩
         have HS_ := Lib.hid hS_; clear hS_ y0
         refine wp_region_held_drew (S := fun w' => BoxL w' w.heap.size [.slice (some ⟨b3, o3, none⟩) L.length c] ∧ BoxL w' w4.heap.size [.slice (some ⟨b3, o3, none⟩) L.length c, .map (some bp), .map (some bo)] ∧ BoxL w' w5.heap.size [.string s] ∧ w'.cell? ⟨b3, o3 + m * 10, none⟩ = some (.int .i64 y.idx) ∧ MapV Tryz.prog 3 9 w' bo L.length (orgM L)) (by kernel_rfl) ⟨HS_.out.1.drew, HS_.out.2.1.drew, HS_.out.2.2.1.drew, HS_.out.2.2.2.1, HS_.out.2.2.2.2.next (below_drewN_self _ _ 1)⟩ (fun hS0 => ?_)
         have HS1 := Lib.hid hS0; clear hS0
         refine wpAnyH_take (i := 0) (oi := ⟨some 74, _, _, _, _, _⟩) (v := .int .i64 m) rfl (by kernel_rfl) (by kernel_rfl) (by kernel_rfl) (fun _ _ _ h => h) (Or.inl ⟨by rfl, fun w' hS => by go_simp⟩) HS1.out ?_
         try simp only [Act.put, List.setIfInBounds_toArray, List.set_cons_zero, List.set_cons_succ]
         refine wpAnyH_take (i := 1) (oi := ⟨some 75, _, _, _, _, _⟩) (v := .pointer (some ⟨w.heap.size, 0, none⟩)) rfl (by kernel_rfl) (by kernel_rfl) (by kernel_rfl) (fun _ _ _ h => h) (Or.inl ⟨by rfl, fun w' hS => by go_simp⟩) HS1.out ?_
         try simp only [Act.put, List.setIfInBounds_toArray, List.set_cons_zero, List.set_cons_succ]
         refine wpAnyH_take (i := 2) (oi := ⟨some 76, _, _, _, _, _⟩) (v := .slice (some ⟨b3, o3, none⟩) L.length c) rfl (by kernel_rfl) (by kernel_rfl) (by kernel_rfl) (fun _ _ _ h => h) (Or.inl ⟨by rfl, fun w' hS => by (have u0_ := hS.1.1 0 _ rfl; go_simp)⟩) HS1.out ?_
         try simp only [Act.put, List.setIfInBounds_toArray, List.set_cons_zero, List.set_cons_succ]
         refine wpAnyH_take (i := 3) (oi := ⟨some 77, _, _, _, _, _⟩) (v := .int .i64 L.length) rfl (by kernel_rfl) (by kernel_rfl) (by kernel_rfl) (fun _ _ _ h => h) (Or.inl ⟨by rfl, fun w' hS => by go_simp⟩) HS1.out ?_
         try simp only [Act.put, List.setIfInBounds_toArray, List.set_cons_zero, List.set_cons_succ]
         refine wpAnyH_take (i := 4) (oi := ⟨some 78, _, _, _, _, _⟩) (v := .bool true) rfl (by kernel_rfl) (by kernel_rfl) (by kernel_rfl) (fun _ _ _ h => h) (Or.inl ⟨by rfl, fun w' hS => by go_simp⟩) HS1.out ?_
         try simp only [Act.put, List.setIfInBounds_toArray, List.set_cons_zero, List.set_cons_succ]
         refine wpAnyH_take (i := 5) (oi := ⟨some 79, _, _, _, _, _⟩) (v := .bool true) rfl (by kernel_rfl) (by kernel_rfl) (by kernel_rfl) (fun _ _ _ h => h) (Or.inl ⟨by rfl, fun w' hS => by go_simp⟩) HS1.out ?_
         try simp only [Act.put, List.setIfInBounds_toArray, List.set_cons_zero, List.set_cons_succ]
         refine wpAnyH_take (i := 6) (oi := ⟨some 80, _, _, _, _, _⟩) (v := .pointer (some ⟨w4.heap.size, 2, none⟩)) rfl (by kernel_rfl) (by kernel_rfl) (by kernel_rfl) (fun _ _ _ h => h) (Or.inl ⟨by rfl, fun w' hS => by go_simp⟩) HS1.out ?_
         try simp only [Act.put, List.setIfInBounds_toArray, List.set_cons_zero, List.set_cons_succ]
         refine wpAnyH_take (i := 7) (oi := ⟨some 81, _, _, _, _, _⟩) (v := .map (some bo)) rfl (by kernel_rfl) (by kernel_rfl) (by kernel_rfl) (fun _ _ _ h => h) (Or.inl ⟨by rfl, fun w' hS => by (have u0_ := hS.2.1.1 2 _ rfl; go_simp)⟩) HS1.out ?_
         try simp only [Act.put, List.setIfInBounds_toArray, List.set_cons_zero, List.set_cons_succ]
         refine wpAnyH_take (i := 8) (oi := ⟨some 82, _, _, _, _, _⟩) (v := .pointer (some ⟨w.heap.size, 0, none⟩)) rfl (by kernel_rfl) (by kernel_rfl) (by kernel_rfl) (fun _ _ _ h => h) (Or.inl ⟨by rfl, fun w' hS => by go_simp⟩) HS1.out ?_
         try simp only [Act.put, List.setIfInBounds_toArray, List.set_cons_zero, List.set_cons_succ]
         refine wpAnyH_take (i := 9) (oi := ⟨some 83, _, _, _, _, _⟩) (v := .slice (some ⟨b3, o3, none⟩) L.length c) rfl (by kernel_rfl) (by kernel_rfl) (by kernel_rfl) (fun _ _ _ h => h) (Or.inl ⟨by rfl, fun w' hS => by (have u0_ := hS.1.1 0 _ rfl; go_simp)⟩) HS1.out ?_
         try simp only [Act.put, List.setIfInBounds_toArray, List.set_cons_zero, List.set_cons_succ]
         refine wpAnyH_take (i := 10) (oi := ⟨some 84, _, _, _, _, _⟩) (v := .int .i64 m) rfl (by kernel_rfl) (by kernel_rfl) (by kernel_rfl) (fun _ _ _ h => h) (Or.inl ⟨by rfl, fun w' hS => by go_simp⟩) HS1.out ?_
         try simp only [Act.put, List.setIfInBounds_toArray, List.set_cons_zero, List.set_cons_succ]
         refine wpAnyH_take (i := 11) (oi := ⟨some 85, _, _, _, _, _⟩) (v := .pointer (some ⟨b3, o3 + m * 10, none⟩)) rfl (by kernel_rfl) (by kernel_rfl) (by kernel_rfl) (fun _ _ _ h => h) (Or.inl ⟨by rfl, fun w' hS => by go_simp⟩) HS1.out ?_
         try simp only [Act.put, List.setIfInBounds_toArray, List.set_cons_zero, List.set_cons_succ]
         refine wpAnyH_take (i := 12) (oi := ⟨some 86, _, _, _, _, _⟩) (v := .pointer (some ⟨b3, o3 + m * 10, none⟩)) rfl (by kernel_rfl) (by kernel_rfl) (by kernel_rfl) (fun _ _ _ h => h) (Or.inl ⟨by rfl, fun w' hS => by go_simp⟩) HS1.out ?_
         try simp only [Act.put, List.setIfInBounds_toArray, List.set_cons_zero, List.set_cons_succ]
         refine wpAnyH_take (i := 13) (oi := ⟨some 87, _, _, _, _, _⟩) (v := .int .i64 y.idx) rfl (by kernel_rfl) (by kernel_rfl) (by kernel_rfl) (fun _ _ _ h => h) (Or.inl ⟨by rfl, fun w' hS => by (have u0_ := hS.2.2.2.1; go_simp)⟩) HS1.out ?_
         try simp only [Act.put, List.setIfInBounds_toArray, List.set_cons_zero, List.set_cons_succ]
         refine wpAnyH_take (i := 14) (oi := ⟨some 88, _, _, _, _, _⟩) (v := .string u) rfl (by kernel_rfl) (by kernel_rfl) (by kernel_rfl) (fun _ _ _ h => h) (Or.inl ⟨by rfl, fun w' hS => by (have hlk := look_str hS.2.2.2.2 HOK3.out.1; rw [HLK.out] at hlk; go_simp)⟩) HS1.out ?_
         try simp only [Act.put, List.setIfInBounds_toArray, List.set_cons_zero, List.set_cons_succ]
         refine wpAnyH_take (i := 15) (oi := ⟨some 89, _, _, _, _, _⟩) (v := .string s) rfl (by kernel_rfl) (by kernel_rfl) (by kernel_rfl) (fun _ _ _ h => h) (Or.inl ⟨by rfl, fun w' hS => by (have u0_ := hS.2.2.1.1 0 _ rfl; go_simp)⟩) HS1.out ?_
         try simp only [Act.put, List.setIfInBounds_toArray, List.set_cons_zero, List.set_cons_succ]
         refine wpAnyH_take (i := 16) (oi := ⟨some 90, _, _, _, _, _⟩) (v := .bool (u.toList == s.toList)) rfl (by kernel_rfl) (by kernel_rfl) (by kernel_rfl) (fun _ _ _ h => h) (Or.inl ⟨by rfl, fun w' hS => by go_simp⟩) HS1.out ?_
         try simp only [Act.put, List.setIfInBounds_toArray, List.set_cons_zero, List.set_cons_succ]
         refine wpAnyH_take (i := 17) (oi := ⟨some 91, _, _, _, _, _⟩) (v := .bool (u.toList == s.toList)) rfl (by kernel_rfl) (by kernel_rfl) (by kernel_rfl) (fun _ _ _ h => h) (Or.inl ⟨by rfl, fun w' hS => by go_simp⟩) HS1.out ?_
         try simp only [Act.put, List.setIfInBounds_toArray, List.set_cons_zero, List.set_cons_succ]
         refine wpAnyH_take (i := 18) (oi := ⟨some 73, _, _, _, _, _⟩) (v := .bool (u.toList == s.toList)) rfl (by kernel_rfl) (by kernel_rfl) (by kernel_rfl) (fun _ _ _ h => h) (Or.inl ⟨by rfl, fun w' hS => by go_simp⟩) HS1.out ?_
         try simp only [Act.put, List.setIfInBounds_toArray, List.set_cons_zero, List.set_cons_succ]
         refine wpAnyH_done (by kernel_rfl) ?_ _
         have HEQ := Lib.hid (show (u.toList == s.toList) = sameAt L d by rw [HSA.out, ba_beq])
         go_wp2_with fail
         go_meet
         exact ⟨by rw [HEQ.out], below_drewN_self _ _ 1⟩
        ·
         have i5 : ¬ (m : Int) < (L.length : Int) := by omega
         have HSA := Lib.hid (show false = sameAt L d by unfold sameAt; rw [HM.out, List.getElem?_eq_none (by omega)])
         refine wp_region_held_drew (S := fun w' => BoxL w' w.heap.size [.slice A L.length c]) (by kernel_rfl) tw11.out.drew (fun hS0 => ?_)
         have HS1 := Lib.hid hS0; clear hS0
         refine wpAnyH_take (i := 0) (oi := ⟨some 74, _, _, _, _, _⟩) (v := .int .i64 m) rfl (by kernel_rfl) (by kernel_rfl) (by kernel_rfl) (fun _ _ _ h => h) (Or.inl ⟨by rfl, fun w' hS => by go_simp⟩) HS1.out ?_
         try simp only [Act.put, List.setIfInBounds_toArray, List.set_cons_zero, List.set_cons_succ]
         refine wpAnyH_take (i := 1) (oi := ⟨some 75, _, _, _, _, _⟩) (v := .pointer (some ⟨w.heap.size, 0, none⟩)) rfl (by kernel_rfl) (by kernel_rfl) (by kernel_rfl) (fun _ _ _ h => h) (Or.inl ⟨by rfl, fun w' hS => by go_simp⟩) HS1.out ?_
         try simp only [Act.put, List.setIfInBounds_toArray, List.set_cons_zero, List.set_cons_succ]
         refine wpAnyH_take (i := 2) (oi := ⟨some 76, _, _, _, _, _⟩) (v := .slice A L.length c) rfl (by kernel_rfl) (by kernel_rfl) (by kernel_rfl) (fun _ _ _ h => h) (Or.inl ⟨by rfl, fun w' hS => by (have u0_ := hS.1 0 _ rfl; go_simp)⟩) HS1.out ?_
         try simp only [Act.put, List.setIfInBounds_toArray, List.set_cons_zero, List.set_cons_succ]
         refine wpAnyH_take (i := 3) (oi := ⟨some 77, _, _, _, _, _⟩) (v := .int .i64 L.length) rfl (by kernel_rfl) (by kernel_rfl) (by kernel_rfl) (fun _ _ _ h => h) (Or.inl ⟨by rfl, fun w' hS => by go_simp⟩) HS1.out ?_
         try simp only [Act.put, List.setIfInBounds_toArray, List.set_cons_zero, List.set_cons_succ]
         refine wpAnyH_take (i := 4) (oi := ⟨some 78, _, _, _, _, _⟩) (v := .bool false) rfl (by kernel_rfl) (by kernel_rfl) (by kernel_rfl) (fun _ _ _ h => h) (Or.inl ⟨by rfl, fun w' hS => by go_simp⟩) HS1.out ?_
         try simp only [Act.put, List.setIfInBounds_toArray, List.set_cons_zero, List.set_cons_succ]
         refine wpAnyH_take (i := 5) (oi := ⟨some 79, _, _, _, _, _⟩) (v := .bool false) rfl (by kernel_rfl) (by kernel_rfl) (by kernel_rfl) (fun _ _ _ h => h) (Or.inl ⟨by rfl, fun w' hS => by go_simp⟩) HS1.out ?_
         try simp only [Act.put, List.setIfInBounds_toArray, List.set_cons_zero, List.set_cons_succ]
         refine wpAnyH_take (i := 6) (oi := ⟨some 80, _, _, _, _, _⟩) (v := undef) rfl (by kernel_rfl) (by kernel_rfl) (by kernel_rfl) (fun _ _ _ h => h) (Or.inr ⟨by rfl, rfl⟩) HS1.out ?_
         try simp only [Act.put, List.setIfInBounds_toArray, List.set_cons_zero, List.set_cons_succ]
         refine wpAnyH_take (i := 7) (oi := ⟨some 81, _, _, _, _, _⟩) (v := undef) rfl (by kernel_rfl) (by kernel_rfl) (by kernel_rfl) (fun _ _ _ h => h) (Or.inr ⟨by rfl, rfl⟩) HS1.out ?_
         try simp only [Act.put, List.setIfInBounds_toArray, List.set_cons_zero, List.set_cons_succ]
         refine wpAnyH_take (i := 8) (oi := ⟨some 82, _, _, _, _, _⟩) (v := undef) rfl (by kernel_rfl) (by kernel_rfl) (by kernel_rfl) (fun _ _ _ h => h) (Or.inr ⟨by rfl, rfl⟩) HS1.out ?_
         try simp only [Act.put, List.setIfInBounds_toArray, List.set_cons_zero, List.set_cons_succ]
         refine wpAnyH_take (i := 9) (oi := ⟨some 83, _, _, _, _, _⟩) (v := undef) rfl (by kernel_rfl) (by kernel_rfl) (by kernel_rfl) (fun _ _ _ h => h) (Or.inr ⟨by rfl, rfl⟩) HS1.out ?_
         try simp only [Act.put, List.setIfInBounds_toArray, List.set_cons_zero, List.set_cons_succ]
         refine wpAnyH_take (i := 10) (oi := ⟨some 84, _, _, _, _, _⟩) (v := undef) rfl (by kernel_rfl) (by kernel_rfl) (by kernel_rfl) (fun _ _ _ h => h) (Or.inr ⟨by rfl, rfl⟩) HS1.out ?_
         try simp only [Act.put, List.setIfInBounds_toArray, List.set_cons_zero, List.set_cons_succ]
         refine wpAnyH_take (i := 11) (oi := ⟨some 85, _, _, _, _, _⟩) (v := undef) rfl (by kernel_rfl) (by kernel_rfl) (by kernel_rfl) (fun _ _ _ h => h) (Or.inr ⟨by rfl, rfl⟩) HS1.out ?_
         try simp only [Act.put, List.setIfInBounds_toArray, List.set_cons_zero, List.set_cons_succ]
         refine wpAnyH_take (i := 12) (oi := ⟨some 86, _, _, _, _, _⟩) (v := undef) rfl (by kernel_rfl) (by kernel_rfl) (by kernel_rfl) (fun _ _ _ h => h) (Or.inr ⟨by rfl, rfl⟩) HS1.out ?_
         try simp only [Act.put, List.setIfInBounds_toArray, List.set_cons_zero, List.set_cons_succ]
         refine wpAnyH_take (i := 13) (oi := ⟨some 87, _, _, _, _, _⟩) (v := undef) rfl (by kernel_rfl) (by kernel_rfl) (by kernel_rfl) (fun _ _ _ h => h) (Or.inr ⟨by rfl, rfl⟩) HS1.out ?_
         try simp only [Act.put, List.setIfInBounds_toArray, List.set_cons_zero, List.set_cons_succ]
         refine wpAnyH_take (i := 14) (oi := ⟨some 88, _, _, _, _, _⟩) (v := undef) rfl (by kernel_rfl) (by kernel_rfl) (by kernel_rfl) (fun _ _ _ h => h) (Or.inr ⟨by rfl, rfl⟩) HS1.out ?_
         try simp only [Act.put, List.setIfInBounds_toArray, List.set_cons_zero, List.set_cons_succ]
         refine wpAnyH_take (i := 15) (oi := ⟨some 89, _, _, _, _, _⟩) (v := undef) rfl (by kernel_rfl) (by kernel_rfl) (by kernel_rfl) (fun _ _ _ h => h) (Or.inr ⟨by rfl, rfl⟩) HS1.out ?_
         try simp only [Act.put, List.setIfInBounds_toArray, List.set_cons_zero, List.set_cons_succ]
         refine wpAnyH_take (i := 16) (oi := ⟨some 90, _, _, _, _, _⟩) (v := undef) rfl (by kernel_rfl) (by kernel_rfl) (by kernel_rfl) (fun _ _ _ h => h) (Or.inr ⟨by rfl, rfl⟩) HS1.out ?_
         try simp only [Act.put, List.setIfInBounds_toArray, List.set_cons_zero, List.set_cons_succ]
         refine wpAnyH_take (i := 17) (oi := ⟨some 91, _, _, _, _, _⟩) (v := .bool false) rfl (by kernel_rfl) (by kernel_rfl) (by kernel_rfl) (fun _ _ _ h => h) (Or.inl ⟨by rfl, fun w' hS => by go_simp⟩) HS1.out ?_
         try simp only [Act.put, List.setIfInBounds_toArray, List.set_cons_zero, List.set_cons_succ]
         refine wpAnyH_take (i := 18) (oi := ⟨some 73, _, _, _, _, _⟩) (v := .bool false) rfl (by kernel_rfl) (by kernel_rfl) (by kernel_rfl) (fun _ _ _ h => h) (Or.inl ⟨by rfl, fun w' hS => by go_simp⟩) HS1.out ?_
         try simp only [Act.put, List.setIfInBounds_toArray, List.set_cons_zero, List.set_cons_succ]
         refine wpAnyH_done (by kernel_rfl) ?_ _
         go_wp2_with fail
         go_meet
         exact ⟨by rw [HSA.out], below_drewN_self _ _ 1⟩
       case rest =>
       obtain ⟨rfl, hq⟩ := hcut
       have hbq := hq.out
       clear hq
       clear ct0 cr0 cfr co0
       have HSwc := Lib.hid (show w11.heap.size ≤ wc.heap.size from hbq.size)
       have HBwc := Lib.hid (HBw11.out.trans (hbq.mono HBw11.out.size))
       have twc := Lib.hid (tw11.out.kept (grown_none hbq) (fun e => by cases e))
       have pwc := Lib.hid (pw11.out.kept (grown_none hbq) (fun e => by cases e))
       have rwc := Lib.hid (rw11.out.kept (grown_none hbq) (fun e => by cases e))
       have vwc := Lib.hid (vw11.out.kept (grown_none hbq) (fun e => by cases e))
       have owc := Lib.hid (ow11.out.kept (grown_none hbq) (fun e => by cases e))
       have HMOwc := Lib.hid (HMOw11.out.next hbq)
       clear hbq
       have ct0 := twc.out.1 0 _ rfl
       have cp0 := pwc.out.1 0 _ rfl
       have cp1 := pwc.out.1 1 _ rfl
       have cp2 := pwc.out.1 2 _ rfl
       have cp3 := pwc.out.1 3 _ rfl
       have cp4 := pwc.out.1 4 _ rfl
       have cp5 := pwc.out.1 5 _ rfl
       have cp6 := pwc.out.1 6 _ rfl
       have cp7 := pwc.out.1 7 _ rfl
       have cp8 := pwc.out.1 8 _ rfl
       have cp9 := pwc.out.1 9 _ rfl
       have cr0 := rwc.out.1 0 _ rfl
       have cfr := rwc.out.2.1
       cases hsa : sameAt L d with
       | true =>
        have HSA := Lib.hid hsa; clear hsa
        have HE := Lib.hid (show progE L d = 44 by unfold progE; rw [if_neg (by rw [HC.out]; decide), if_neg (by rw [HTK.out]; decide), if_neg HP.out, if_neg HL.out, if_neg (by have := H7.out; omega), if_pos (by show (sameAt L d || clashesB L d) = true; rw [HSA.out]; rfl)])
        go_wp2
        refine bodyPost_ret (v := .tuple #[.agg #[.slice none 0 0], .int .i64 44]) (by simp [results, Tryz.results32, go_sem, cr0, cfr]) rfl ⟨HBwc.out.setCell (by have := HGw1.out; have := HGw2.out; show w.heap.size ≤ w2.heap.size; omega) _, by rw [HE.out]⟩
       | false =>
        have HSA := Lib.hid hsa; clear hsa
        go_wp2_with fail
        refine (clashes_any A c L d A2 c2 _ B (Nat.le_trans HB.out HBwc.out.size) (HX.out.keep (HBwc.out.mono HB.out)) (fun x hx => by have := (HVS.out x hx).1; omega) (by have := valid_size HDS.out; omega) (HOK.out.next HBwc.out)).mono ?_
        rintro e w12 ⟨rfl, hbw12⟩
        clear ct0 cp0 cp1 cp2 cp3 cp4 cp5 cp6 cp7 cp8 cp9 cr0 cfr
        have HSw12 := Lib.hid (show wc.heap.size ≤ w12.heap.size from hbw12.size)
        have HBw12 := Lib.hid (HBwc.out.trans (hbw12.mono HBwc.out.size))
        have tw12 := Lib.hid (twc.out.kept (grown_none hbw12) (fun e => by cases e))
        have pw12 := Lib.hid (pwc.out.kept (grown_none hbw12) (fun e => by cases e))
        have rw12 := Lib.hid (rwc.out.kept (grown_none hbw12) (fun e => by cases e))
        have vw12 := Lib.hid (vwc.out.kept (grown_none hbw12) (fun e => by cases e))
        have ow12 := Lib.hid (owc.out.kept (grown_none hbw12) (fun e => by cases e))
        have HMOw12 := Lib.hid (HMOwc.out.next hbw12)
        clear hbw12
        have ct0 := tw12.out.1 0 _ rfl
        have cr0 := rw12.out.1 0 _ rfl
        have cfr := rw12.out.2.1
        cases hcl : clashesB L d with
        | true =>
         have HCL := Lib.hid hcl; clear hcl
         have HE := Lib.hid (show progE L d = 44 by unfold progE; rw [if_neg (by rw [HC.out]; decide), if_neg (by rw [HTK.out]; decide), if_neg HP.out, if_neg HL.out, if_neg (by have := H7.out; omega), if_pos (by show (sameAt L d || clashesB L d) = true; rw [HSA.out, HCL.out]; rfl)])
         go_wp2
         refine bodyPost_ret (v := .tuple #[.agg #[.slice none 0 0], .int .i64 44]) (by simp [results, Tryz.results32, go_sem, cr0, cfr]) rfl ⟨HBw12.out.setCell (by have := HGw1.out; have := HGw2.out; show w.heap.size ≤ w2.heap.size; omega) _, by rw [HE.out]⟩
        | false =>
         exfalso
         exact HPE.out (by unfold progE; rw [if_neg (by rw [HC.out]; decide), if_neg (by rw [HTK.out]; decide), if_neg HP.out, if_neg HL.out, if_neg (by have := H7.out; omega), if_neg (by show ¬ (sameAt L d || clashesB L d) = true; rw [HSA.out, hcl]; decide)])
 ·
  have ec : (checkD d != 0) = true := by simpa using hc
  have HC := Lib.hid hc; clear hc
  have HE := Lib.hid (show progE L d = 41 by unfold progE; rw [if_pos HC.out])
  go_wp2
  refine bodyPost_ret (v := .tuple #[.agg #[.slice none 0 0], .int .i64 41]) (by simp [results, Tryz.results32, go_sem, cr0, cfr]) rfl ⟨HBw8.out.setCell (by have := HGw1.out; have := HGw2.out; show w.heap.size ≤ w2.heap.size; omega) _, by rw [HE.out]⟩
end Go.Proofs.YtehmidmoiamcfaaGreatDoor
