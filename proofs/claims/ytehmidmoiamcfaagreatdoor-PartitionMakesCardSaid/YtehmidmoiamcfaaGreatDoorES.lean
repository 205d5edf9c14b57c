/-
  The walk of package tree's Insert: where it inserts, and both halves joined.
-/
import Derived.Test.YtehmidmoiamcfaaGreatDoorER
import Derived.Test.YtehmidmoiamcfaaGreatDoorETB
set_option linter.unusedSimpArgs false
set_option linter.unusedVariables false
namespace Go.Proofs.YtehmidmoiamcfaaGreatDoor
open Go.RowKit Go.Cold
/-- What Insert answers. -/
def InsG (l : List Dev) (w : World) (e : Ending) (w' : World) : Prop := Below w.heap.size w w' ∧ ∃ v, e = .returned (.tuple #[.agg #[v], .int .i64 0]) ∧ OwnsS (fun b => w.heap.size ≤ b) w' w.heap.size 43 v l
theorem InsG.mk {l : List Dev} {w w' : World} {e : Ending} {v : Value} (h1 : Below w.heap.size w w') (h2 : e = .returned (.tuple #[.agg #[v], .int .i64 0])) (h3 : OwnsS (fun b => w.heap.size ≤ b) w' w.heap.size 43 v l) : InsG l w e w' := ⟨h1, v, h2, h3⟩
set_option maxRecDepth 100000 in
set_option maxHeartbeats 8000000 in
/-- tree.Insert, where it inserts. -/
theorem Insert_new (A : Option Addr) (c : Nat) (L : List Dev) (d : Dev) (A2 : Option Addr) (c2 : Nat) (w : World) (B : Nat) (hB : B ≤ w.heap.size) (hx : Sl w B A c L) (hd : devOk d) (ha : Sl w B A2 c2 d.attrs) (hsm : d.orig.size ≤ 2147483648) (hvt : VT L) (hok : Ok w) (hpe : progE L d = 0) :
  Calls Tryz.prog 32 #[.agg #[.slice A L.length c], .agg #[.int .i64 d.idx, .int .i64 d.par, .string d.nm, .string d.orig, .string d.sub, .string d.drv, .string d.ali, .int .i64 d.kind, .int .i64 d.num, .slice A2 d.attrs.length c2]] w (InsG (insL L d) w) := by
 have hvs := hvt.small
 have hvl := hvt.size
 have hx1 := hx.1; have hx2 := hx.2.1
 unfold maxLen at hx2
 have hstr : ∀ n, (strF L n).size ≤ 8448 := str_size (fun d hd => (hvs d hd).1) hvl
 have HX := Lib.hid hx; have HB := Lib.hid hB; have HD := Lib.hid hd; have HA := Lib.hid ha; have HVT := Lib.hid hvt; have HOK := Lib.hid hok; have HVS := Lib.hid hvs; have HVL := Lib.hid hvl; have HSM := Lib.hid hsm; have HSTR := Lib.hid hstr; have HPE := Lib.hid hpe
 clear hx hB hd ha hvt hok hvs hvl hsm hstr hpe
 go_enter Tryz.func32, Tryz.ntmps32
 go_upto_region 1 with fail
 obtain ⟨w1, hw1⟩ : ∃ w1, w.alloc (.cells #[.slice A L.length c] 57) = w1 := ⟨_, rfl⟩
 have hbw1 : Below w.heap.size w w1 := by rw [← hw1]; exact (Below.refl _ _).alloc (Nat.le_refl _) _
 have HGw1 := Lib.hid (show w1.heap.size = w.heap.size + 1 by rw [← hw1]; simp)
 have HXtw1 := Lib.hid (show BoxL w1 w.heap.size [.slice A L.length c] from box_mk hw1)
 try simp only [hw1]
 have HSw1 := Lib.hid (show w.heap.size ≤ w1.heap.size from hbw1.size)
 have HBw1 := Lib.hid hbw1
 clear hw1 hbw1
 try rw [show w.heap.size + 1 = w1.heap.size from HGw1.out.symm]
 obtain ⟨w2, hw2⟩ : ∃ w2, w1.alloc (.cells #[.int .i64 d.idx, .int .i64 d.par, .string d.nm, .string d.orig, .string d.sub, .string d.drv, .string d.ali, .int .i64 d.kind, .int .i64 d.num, .slice A2 d.attrs.length c2] 43) = w2 := ⟨_, rfl⟩
 have hbw2 : Below w1.heap.size w1 w2 := by rw [← hw2]; exact (Below.refl _ _).alloc (Nat.le_refl _) _
 have HGw2 := Lib.hid (show w2.heap.size = w1.heap.size + 1 by rw [← hw2]; simp)
 have HXpw2 := Lib.hid (show BoxL w2 w1.heap.size [.int .i64 d.idx, .int .i64 d.par, .string d.nm, .string d.orig, .string d.sub, .string d.drv, .string d.ali, .int .i64 d.kind, .int .i64 d.num, .slice A2 d.attrs.length c2] from box_mk hw2)
 try simp only [hw2]
 have HSw2 := Lib.hid (show w1.heap.size ≤ w2.heap.size from hbw2.size)
 have HBw2 := Lib.hid (HBw1.out.trans (hbw2.mono HBw1.out.size))
 have tw2 := Lib.hid (HXtw1.out.kept (grown_none hbw2) (fun e => by cases e))
 clear hw2 hbw2
 try rw [show w1.heap.size + 1 = w2.heap.size from HGw2.out.symm]
 obtain ⟨w3, hw3⟩ : ∃ w3, w2.alloc (.cells #[.slice none 0 0] 57) = w3 := ⟨_, rfl⟩
 have hbw3 : Below w2.heap.size w2 w3 := by rw [← hw3]; exact (Below.refl _ _).alloc (Nat.le_refl _) _
 have HGw3 := Lib.hid (show w3.heap.size = w2.heap.size + 1 by rw [← hw3]; simp)
 have HXrw3 := Lib.hid (show BoxL w3 w2.heap.size [.slice none 0 0] from box_mk hw3)
 try simp only [hw3]
 have HSw3 := Lib.hid (show w2.heap.size ≤ w3.heap.size from hbw3.size)
 have HBw3 := Lib.hid (HBw2.out.trans (hbw3.mono HBw2.out.size))
 have tw3 := Lib.hid (tw2.out.kept (grown_none hbw3) (fun e => by cases e))
 have pw3 := Lib.hid (HXpw2.out.kept (grown_none hbw3) (fun e => by cases e))
 clear hw3 hbw3
 try rw [show w2.heap.size + 1 = w3.heap.size from HGw3.out.symm]
 have ct0 := tw3.out.1 0 _ rfl
 have cp0 := pw3.out.1 0 _ rfl
 have cp1 := pw3.out.1 1 _ rfl
 have cp3 := pw3.out.1 3 _ rfl
 have cr0 := HXrw3.out.1 0 _ rfl
 have cfr := HXrw3.out.2.1
 go_wp2_with fail
 refine (look_any A c L _ B (Nat.le_trans HB.out HBw3.out.size) (HX.out.keep (HBw3.out.mono HB.out)) (fun d hd => (HVS.out d hd).1) HVL.out).mono ?_
 rintro e w4 ⟨hbw4, bp, bo, rfl, hmp_, hmo_, -, -⟩
 clear ct0 cp0 cp1 cp3 cr0 cfr
 have HSw4 := Lib.hid (show w3.heap.size ≤ w4.heap.size from hbw4.size)
 have HBw4 := Lib.hid (HBw3.out.trans (hbw4.mono HBw3.out.size))
 have tw4 := Lib.hid (tw3.out.kept (grown_none hbw4) (fun e => by cases e))
 have pw4 := Lib.hid (pw3.out.kept (grown_none hbw4) (fun e => by cases e))
 have rw4 := Lib.hid (HXrw3.out.kept (grown_none hbw4) (fun e => by cases e))
 clear hbw4
 have HMO := Lib.hid hmo_; clear hmp_ hmo_
 have ct0 := tw4.out.1 0 _ rfl
 have cp0 := pw4.out.1 0 _ rfl
 have cp1 := pw4.out.1 1 _ rfl
 have cp3 := pw4.out.1 3 _ rfl
 have cr0 := rw4.out.1 0 _ rfl
 have cfr := rw4.out.2.1
 go_upto_region 2 with fail
 obtain ⟨w5, hw5⟩ : ∃ w5, w4.alloc (.cells #[.slice A L.length c, .map (some bp), .map (some bo)] 100) = w5 := ⟨_, rfl⟩
 have hbw5 : Below w4.heap.size w4 w5 := by rw [← hw5]; exact (Below.refl _ _).alloc (Nat.le_refl _) _
 have HGw5 := Lib.hid (show w5.heap.size = w4.heap.size + 1 by rw [← hw5]; simp)
 have HXvw5 := Lib.hid (show BoxL w5 w4.heap.size [.slice A L.length c, .map (some bp), .map (some bo)] from box_mk hw5)
 try simp only [hw5]
 have HSw5 := Lib.hid (show w4.heap.size ≤ w5.heap.size from hbw5.size)
 have HBw5 := Lib.hid (HBw4.out.trans (hbw5.mono HBw4.out.size))
 have tw5 := Lib.hid (tw4.out.kept (grown_none hbw5) (fun e => by cases e))
 have pw5 := Lib.hid (pw4.out.kept (grown_none hbw5) (fun e => by cases e))
 have rw5 := Lib.hid (rw4.out.kept (grown_none hbw5) (fun e => by cases e))
 have HMOw5 := Lib.hid (HMO.out.next hbw5)
 clear hw5 hbw5
 try rw [show w4.heap.size + 1 = w5.heap.size from HGw5.out.symm]
 clear ct0 cp0 cp1 cp3 cr0 cfr
 have ct0 := tw5.out.1 0 _ rfl
 have cp0 := pw5.out.1 0 _ rfl
 have cp1 := pw5.out.1 1 _ rfl
 have cp3 := pw5.out.1 3 _ rfl
 have cr0 := rw5.out.1 0 _ rfl
 have cfr := rw5.out.2.1
 have cv2 := HXvw5.out.1 2 _ rfl
 have hl1 := look_str_ok HMOw5.out HD.out.2.1
 have hl2 := look_str_ok HMOw5.out HD.out.1
 rw [orgM_str, orgM_some] at hl1 hl2
 obtain ⟨a, ha⟩ : ∃ z, strF L d.par = z := ⟨_, rfl⟩
 obtain ⟨b2, hb2⟩ : ∃ z, strF L d.idx = z := ⟨_, rfl⟩
 obtain ⟨there, hth⟩ : ∃ z, (idxs L).contains d.par = z := ⟨_, rfl⟩
 obtain ⟨taken, htk⟩ : ∃ z, (idxs L).contains d.idx = z := ⟨_, rfl⟩
 rw [ha, hth] at hl1
 rw [hb2, htk] at hl2
 have hasz : a.size ≤ 8448 := by rw [← ha]; exact HSTR.out _
 have HAS := Lib.hid hasz; have HAE := Lib.hid ha; have HTH := Lib.hid hth; have HTK := Lib.hid htk; clear ha hb2 hth htk hasz
 have f1 : ¬ 9223372036854775807 < a.size + 1 := by have := HAS.out; omega
 have f2 : ¬ 9223372036854775807 < a.size + 1 + d.orig.size := by have := HAS.out; have := HSM.out; omega
 go_upto_region 5 with fail
 clear hl1 hl2 f1 f2
 have hos : a ++ ⟨#[47]⟩ ++ d.orig = pathS (ownL L d) := by rw [← HAE.out]; exact own_str L d
 obtain ⟨s, hs⟩ : ∃ s, a ++ ⟨#[47]⟩ ++ d.orig = s := ⟨_, rfl⟩
 have hssz : s.size < 4294967281 := by rw [← hs, ByteArray.size_append, ByteArray.size_append]; have h5 : (⟨#[47]⟩ : ByteArray).size = 1 := rfl; have := HAS.out; have := HSM.out; omega
 try simp only [hs]
 rw [hs] at hos
 have HSO := Lib.hid hos; have HSS := Lib.hid hssz; clear hos hssz hs
 obtain ⟨w6, hw6⟩ : ∃ w6, w5.alloc (.cells #[.string s] 9) = w6 := ⟨_, rfl⟩
 have hbw6 : Below w5.heap.size w5 w6 := by rw [← hw6]; exact (Below.refl _ _).alloc (Nat.le_refl _) _
 have HGw6 := Lib.hid (show w6.heap.size = w5.heap.size + 1 by rw [← hw6]; simp)
 have HXow6 := Lib.hid (show BoxL w6 w5.heap.size [.string s] from box_mk hw6)
 try simp only [hw6]
 have HSw6 := Lib.hid (show w5.heap.size ≤ w6.heap.size from hbw6.size)
 have HBw6 := Lib.hid (HBw5.out.trans (hbw6.mono HBw5.out.size))
 have tw6 := Lib.hid (tw5.out.kept (grown_none hbw6) (fun e => by cases e))
 have pw6 := Lib.hid (pw5.out.kept (grown_none hbw6) (fun e => by cases e))
 have rw6 := Lib.hid (rw5.out.kept (grown_none hbw6) (fun e => by cases e))
 have vw6 := Lib.hid (HXvw5.out.kept (grown_none hbw6) (fun e => by cases e))
 have HMOw6 := Lib.hid (HMOw5.out.next hbw6)
 clear hw6 hbw6
 try rw [show w5.heap.size + 1 = w6.heap.size from HGw6.out.symm]
 clear ct0 cp0 cp1 cp3 cr0 cfr cv2
 have ct0 := tw6.out.1 0 _ rfl
 have cp0 := pw6.out.1 0 _ rfl
 have cp1 := pw6.out.1 1 _ rfl
 have cp3 := pw6.out.1 3 _ rfl
 have cr0 := rw6.out.1 0 _ rfl
 have cfr := rw6.out.2.1
 have cv2 := vw6.out.1 2 _ rfl
 have co0 := HXow6.out.1 0 _ rfl
 skip
 go_wp2_with fail
 refine (IndexFuncD_any A c L _ _ _ _ _ B (Nat.le_trans HB.out HBw6.out.size) (HX.out.keep (HBw6.out.mono HB.out)) (insert1_pred A c bp bo L.length _ _ B L s _ vw6.out HXow6.out HMOw6.out HSS.out HSTR.out (HOK.out.next HBw6.out)) (fun _ _ => trivial)).mono ?_
 rintro e w7 ⟨rfl, hbw7⟩
 clear ct0 cp0 cp1 cp3 cr0 cfr cv2 co0
 have HSw7 := Lib.hid (show w6.heap.size ≤ w7.heap.size from hbw7.size)
 have HBw7 := Lib.hid (HBw6.out.trans (hbw7.mono HBw6.out.size))
 have tw7 := Lib.hid (tw6.out.kept (grown_none hbw7) (fun e => by cases e))
 have pw7 := Lib.hid (pw6.out.kept (grown_none hbw7) (fun e => by cases e))
 have rw7 := Lib.hid (rw6.out.kept (grown_none hbw7) (fun e => by cases e))
 have vw7 := Lib.hid (vw6.out.kept (grown_none hbw7) (fun e => by cases e))
 have ow7 := Lib.hid (HXow6.out.kept (grown_none hbw7) (fun e => by cases e))
 have HMOw7 := Lib.hid (HMOw6.out.next hbw7)
 clear hbw7
 have ct0 := tw7.out.1 0 _ rfl
 have cp0 := pw7.out.1 0 _ rfl
 have cp1 := pw7.out.1 1 _ rfl
 have cp3 := pw7.out.1 3 _ rfl
 have cr0 := rw7.out.1 0 _ rfl
 have cfr := rw7.out.2.1
 have cv2 := vw7.out.1 2 _ rfl
 have co0 := ow7.out.1 0 _ rfl
 have hat := idx_take (p := notLess L s) L
 have hatd : (L.takeWhile fun t => !notLess L s t).length = atP L d := by unfold atP; rw [HSO.out]
 rw [hatd] at hat
 obtain ⟨z, hz⟩ : ∃ z, idxInt (notLess L s) L = z := ⟨_, rfl⟩
 rw [hz] at hat ⊢
 have hatl := atP_le L d
 obtain ⟨m, hm⟩ : ∃ m, atP L d = m := ⟨_, rfl⟩
 rw [hm] at hat hatl
 have HAT := Lib.hid hat; have HATL := Lib.hid hatl; have HM := Lib.hid hm; clear hat hatl hm hz hatd
 go_upto_if 41 with fail
 go_cut [12] (fun s12 wx => s12 = .int .i64 m ∧ w7 = wx)
 case first =>
  rcases HAT.out with ⟨h1, h2⟩ | h1
  ·
   subst h1
   have HM2 := Lib.hid h2; clear h2
   go_wp2_with fail
   go_meet
   exact ⟨by rw [HM2.out], rfl⟩
  ·
   subst h1
   have i1 : ¬ (m : Int) < 0 := by omega
   go_wp2_with fail
   go_meet
   exact ⟨rfl, rfl⟩
 case rest =>
 obtain ⟨rfl, rfl⟩ := hcut
 clear ct0 cp0 cp1 cp3 cr0 cfr cv2 co0
 have cp0 := pw7.out.1 0 _ rfl
 have cp1 := pw7.out.1 1 _ rfl
 have cp2 := pw7.out.1 2 _ rfl
 have cp3 := pw7.out.1 3 _ rfl
 have cp4 := pw7.out.1 4 _ rfl
 have cp5 := pw7.out.1 5 _ rfl
 have cp6 := pw7.out.1 6 _ rfl
 have cp7 := pw7.out.1 7 _ rfl
 have cp8 := pw7.out.1 8 _ rfl
 have cp9 := pw7.out.1 9 _ rfl
 have cr0 := rw7.out.1 0 _ rfl
 have cfr := rw7.out.2.1
 go_wp2_with fail
 refine (Check_any d A2 c2 _ B (Nat.le_trans HB.out HBw7.out.size) HD.out (HA.out.keep (HBw7.out.mono HB.out)) (HOK.out.next HBw7.out)).mono ?_
 rintro e w8 ⟨rfl, hbw8⟩
 clear cp0 cp1 cp2 cp3 cp4 cp5 cp6 cp7 cp8 cp9 cr0 cfr
 have HSw8 := Lib.hid (show w7.heap.size ≤ w8.heap.size from hbw8.size)
 have HBw8 := Lib.hid (HBw7.out.trans (hbw8.mono HBw7.out.size))
 have tw8 := Lib.hid (tw7.out.kept (grown_none hbw8) (fun e => by cases e))
 have pw8 := Lib.hid (pw7.out.kept (grown_none hbw8) (fun e => by cases e))
 have rw8 := Lib.hid (rw7.out.kept (grown_none hbw8) (fun e => by cases e))
 have vw8 := Lib.hid (vw7.out.kept (grown_none hbw8) (fun e => by cases e))
 have ow8 := Lib.hid (ow7.out.kept (grown_none hbw8) (fun e => by cases e))
 have HMOw8 := Lib.hid (HMOw7.out.next hbw8)
 clear hbw8
 have ct0 := tw8.out.1 0 _ rfl
 have cp1 := pw8.out.1 1 _ rfl
 have cr0 := rw8.out.1 0 _ rfl
 have cfr := rw8.out.2.1
 have co0 := ow8.out.1 0 _ rfl
 by_cases hc : checkD d = 0
 ·
  have HDS := Lib.hid (show validB d.orig = true from (check_names hc).2.1)
  have ec : (checkD d != 0) = false := by rw [hc]; rfl
  have HC := Lib.hid hc; try rw [hc]
  clear hc
  cases taken with
  | true =>
   have HE := Lib.hid (show progE L d = 44 by unfold progE; rw [if_neg (by rw [HC.out]; decide), if_pos HTK.out])
   exact absurd (HE.out.symm.trans HPE.out) (by decide)
  | false =>
   by_cases hp : d.par = 0
   ·
    have ep : (d.par != 0) = false := by rw [hp]; rfl
    have HP := Lib.hid (show ¬ (d.par ≠ 0 ∧ (idxs L).contains d.par = false) from fun h => h.1 hp); clear hp
    by_cases hl : 256 ≤ L.length
    ·
     have i4 : (256 : Int) ≤ (L.length : Int) := by omega
     have HL := Lib.hid hl; clear hl
     have HE := Lib.hid (show progE L d = 40 by unfold progE; rw [if_neg (by rw [HC.out]; decide), if_neg (by rw [HTK.out]; decide), if_neg HP.out, if_pos HL.out])
     exact absurd (HE.out.symm.trans HPE.out) (by decide)
    ·
     have i4 : ¬ (256 : Int) ≤ (L.length : Int) := by omega
     have HL := Lib.hid hl; clear hl
     go_wp2_with fail
     refine (depth_any s _ HSS.out (HOK.out.next HBw8.out)).mono ?_
     rintro e w9 ⟨rfl, hbw9⟩
     clear ct0 cp1 cr0 cfr co0
     have HSw9 := Lib.hid (show w8.heap.size ≤ w9.heap.size from hbw9.size)
     have HBw9 := Lib.hid (HBw8.out.trans (hbw9.mono HBw8.out.size))
     have tw9 := Lib.hid (tw8.out.kept (grown_none hbw9) (fun e => by cases e))
     have pw9 := Lib.hid (pw8.out.kept (grown_none hbw9) (fun e => by cases e))
     have rw9 := Lib.hid (rw8.out.kept (grown_none hbw9) (fun e => by cases e))
     have vw9 := Lib.hid (vw8.out.kept (grown_none hbw9) (fun e => by cases e))
     have ow9 := Lib.hid (ow8.out.kept (grown_none hbw9) (fun e => by cases e))
     have HMOw9 := Lib.hid (HMOw8.out.next hbw9)
     clear hbw9
     have ct0 := tw9.out.1 0 _ rfl
     have cr0 := rw9.out.1 0 _ rfl
     have cfr := rw9.out.2.1
     have co0 := ow9.out.1 0 _ rfl
     obtain ⟨dp, hdp⟩ : ∃ z, depthS s = z := ⟨_, rfl⟩
     rw [hdp]
     have HDP := Lib.hid hdp; clear hdp
     by_cases h7 : 7 < dp
     ·
      have H7 := Lib.hid (show 7 < depthS (pathS (ownL L d)) by rw [← HSO.out, HDP.out]; exact h7)
      have HE := Lib.hid (show progE L d = 46 by unfold progE; rw [if_neg (by rw [HC.out]; decide), if_neg (by rw [HTK.out]; decide), if_neg HP.out, if_neg HL.out, if_pos H7.out])
      exact absurd (HE.out.symm.trans HPE.out) (by decide)
     ·
      have H7 := Lib.hid (show ¬ 7 < depthS (pathS (ownL L d)) by rw [← HSO.out, HDP.out]; exact h7)
      go_upto_region 18 with fail
      go_cut [73] (fun s73 wx => s73 = .bool (sameAt L d) ∧ Hid (Below w9.heap.size w9 wx))
      case first =>
       clear ct0 cr0 cfr co0
       by_cases hml : m < L.length
       ·
        have i5 : (m : Int) < (L.length : Int) := by omega
        obtain ⟨b3, o3, rfl, hb3, A3, c3, hok3, -, hcs3⟩ := (HX.out.keep (HBw9.out.mono HB.out)).dev hml
        obtain ⟨y, hy⟩ : ∃ y, L[m]'hml = y := ⟨_, rfl⟩
        rw [hy] at hok3 hcs3
        have HOK3 := Lib.hid hok3
        have HSA := Lib.hid (show sameAt L d = decide (strF L y.idx = s) by unfold sameAt; rw [HM.out, List.getElem?_eq_getElem hml, hy, HSO.out])
        have y0 := hcs3.1
        clear hok3 hcs3 hy hb3
        have hlk0 := orgM_str L y.idx
        obtain ⟨u, hu⟩ : ∃ u, strF L y.idx = u := ⟨_, rfl⟩
        rw [hu] at HSA hlk0
        have HLK := Lib.hid hlk0; clear hlk0 hu
        have hS_ : BoxL w9 w.heap.size [.slice (some ⟨b3, o3, none⟩) L.length c] ∧ BoxL w9 w4.heap.size [.slice (some ⟨b3, o3, none⟩) L.length c, .map (some bp), .map (some bo)] ∧ BoxL w9 w5.heap.size [.string s] ∧ w9.cell? ⟨b3, o3 + m * 10, none⟩ = some (.int .i64 y.idx) ∧ MapV Tryz.prog 3 9 w9 bo L.length (orgM L) := ⟨tw9.out, vw9.out, ow9.out, y0, HMOw9.out⟩
        have HS_ := Lib.hid hS_; clear hS_ y0
        refine wp_region_held_drew (S := fun w' => BoxL w' w.heap.size [.slice (some ⟨b3, o3, none⟩) L.length c] ∧ BoxL w' w4.heap.size [.slice (some ⟨b3, o3, none⟩) L.length c, .map (some bp), .map (some bo)] ∧ BoxL w' w5.heap.size [.string s] ∧ w'.cell? ⟨b3, o3 + m * 10, none⟩ = some (.int .i64 y.idx) ∧ MapV Tryz.prog 3 9 w' bo L.length (orgM L)) (by kernel_rfl) ⟨HS_.out.1.drew, HS_.out.2.1.drew, HS_.out.2.2.1.drew, HS_.out.2.2.2.1, HS_.out.2.2.2.2.next (below_drewN_self _ _ 1)⟩ (fun hS0 => ?_)
        have HS1 := Lib.hid hS0; clear hS0
        refine wpAnyH_take (i := 0) (oi := ⟨some 74, _, _, _, _, _⟩) (v := .int .i64 m) rfl (by kernel_rfl) (by kernel_rfl) (by kernel_rfl) (fun _ _ _ h => h) (Or.inl ⟨by rfl, fun w' hS => by go_simp⟩) HS1.out ?_
        try simp only [Act.put, List.setIfInBounds_toArray, List.set_cons_zero, List.set_cons_succ]
        refine wpAnyH_take (i := 1) (oi := ⟨some 75, _, _, _, _, _⟩) (v := .pointer (some ⟨w.heap.size, 0, none⟩)) rfl (by kernel_rfl) (by kernel_rfl) (by kernel_rfl) (fun _ _ _ h => h) (Or.inl ⟨by rfl, fun w' hS => by go_simp⟩) HS1.out ?_
        try simp only [Act.put, List.setIfInBounds_toArray, List.set_cons_zero, List.set_cons_succ]
        refine wpAnyH_take (i := 2) (oi := ⟨some 76, _, _, _, _, _⟩) (v := .slice (some ⟨b3, o3, none⟩) L.length c) rfl (by kernel_rfl) (by kernel_rfl) (by kernel_rfl) (fun _ _ _ h => h) (Or.inl ⟨by rfl, fun w' hS => by (have u0_ := hS.1.1 0 _ rfl; go_simp)⟩) HS1.out ?_
        try simp only [Act.put, List.setIfInBounds_toArray, List.set_cons_zero, List.set_cons_succ]
        refine wpAnyH_take (i := 3) (oi := ⟨some 77, _, _, _, _, _⟩) (v := .int .i64 L.length) rfl (by kernel_rfl) (by kernel_rfl) (by kernel_rfl) (fun _ _ _ h => h) (Or.inl ⟨by rfl, fun w' hS => by go_simp⟩) HS1.out ?_
        try simp only [Act.put, List.setIfInBounds_toArray, List.set_cons_zero, List.set_cons_succ]
        refine wpAnyH_take (i := 4) (oi := ⟨some 78, _, _, _, _, _⟩) (v := .bool true) rfl (by kernel_rfl) (by kernel_rfl) (by kernel_rfl) (fun _ _ _ h => h) (Or.inl ⟨by rfl, fun w' hS => by go_simp⟩) HS1.out ?_
        try simp only [Act.put, List.setIfInBounds_toArray, List.set_cons_zero, List.set_cons_succ]
        refine wpAnyH_take (i := 5) (oi := ⟨some 79, _, _, _, _, _⟩) (v := .bool true) rfl (by kernel_rfl) (by kernel_rfl) (by kernel_rfl) (fun _ _ _ h => h) (Or.inl ⟨by rfl, fun w' hS => by go_simp⟩) HS1.out ?_
        try simp only [Act.put, List.setIfInBounds_toArray, List.set_cons_zero, List.set_cons_succ]
        refine wpAnyH_take (i := 6) (oi := ⟨some 80, _, _, _, _, _⟩) (v := .pointer (some ⟨w4.heap.size, 2, none⟩)) rfl (by kernel_rfl) (by kernel_rfl) (by kernel_rfl) (fun _ _ _ h => h) (Or.inl ⟨by rfl, fun w' hS => by go_simp⟩) HS1.out ?_
        try simp only [Act.put, List.setIfInBounds_toArray, List.set_cons_zero, List.set_cons_succ]
        refine wpAnyH_take (i := 7) (oi := ⟨some 81, _, _, _, _, _⟩) (v := .map (some bo)) rfl (by kernel_rfl) (by kernel_rfl) (by kernel_rfl) (fun _ _ _ h => h) (Or.inl ⟨by rfl, fun w' hS => by (have u0_ := hS.2.1.1 2 _ rfl; go_simp)⟩) HS1.out ?_
        try simp only [Act.put, List.setIfInBounds_toArray, List.set_cons_zero, List.set_cons_succ]
        refine wpAnyH_take (i := 8) (oi := ⟨some 82, _, _, _, _, _⟩) (v := .pointer (some ⟨w.heap.size, 0, none⟩)) rfl (by kernel_rfl) (by kernel_rfl) (by kernel_rfl) (fun _ _ _ h => h) (Or.inl ⟨by rfl, fun w' hS => by go_simp⟩) HS1.out ?_
        try simp only [Act.put, List.setIfInBounds_toArray, List.set_cons_zero, List.set_cons_succ]
        refine wpAnyH_take (i := 9) (oi := ⟨some 83, _, _, _, _, _⟩) (v := .slice (some ⟨b3, o3, none⟩) L.length c) rfl (by kernel_rfl) (by kernel_rfl) (by kernel_rfl) (fun _ _ _ h => h) (Or.inl ⟨by rfl, fun w' hS => by (have u0_ := hS.1.1 0 _ rfl; go_simp)⟩) HS1.out ?_
        try simp only [Act.put, List.setIfInBounds_toArray, List.set_cons_zero, List.set_cons_succ]
        refine wpAnyH_take (i := 10) (oi := ⟨some 84, _, _, _, _, _⟩) (v := .int .i64 m) rfl (by kernel_rfl) (by kernel_rfl) (by kernel_rfl) (fun _ _ _ h => h) (Or.inl ⟨by rfl, fun w' hS => by go_simp⟩) HS1.out ?_
        try simp only [Act.put, List.setIfInBounds_toArray, List.set_cons_zero, List.set_cons_succ]
        refine wpAnyH_take (i := 11) (oi := ⟨some 85, _, _, _, _, _⟩) (v := .pointer (some ⟨b3, o3 + m * 10, none⟩)) rfl (by kernel_rfl) (by kernel_rfl) (by kernel_rfl) (fun _ _ _ h => h) (Or.inl ⟨by rfl, fun w' hS => by go_simp⟩) HS1.out ?_
        try simp only [Act.put, List.setIfInBounds_toArray, List.set_cons_zero, List.set_cons_succ]
        refine wpAnyH_take (i := 12) (oi := ⟨some 86, _, _, _, _, _⟩) (v := .pointer (some ⟨b3, o3 + m * 10, none⟩)) rfl (by kernel_rfl) (by kernel_rfl) (by kernel_rfl) (fun _ _ _ h => h) (Or.inl ⟨by rfl, fun w' hS => by go_simp⟩) HS1.out ?_
        try simp only [Act.put, List.setIfInBounds_toArray, List.set_cons_zero, List.set_cons_succ]
        refine wpAnyH_take (i := 13) (oi := ⟨some 87, _, _, _, _, _⟩) (v := .int .i64 y.idx) rfl (by kernel_rfl) (by kernel_rfl) (by kernel_rfl) (fun _ _ _ h => h) (Or.inl ⟨by rfl, fun w' hS => by (have u0_ := hS.2.2.2.1; go_simp)⟩) HS1.out ?_
        try simp only [Act.put, List.setIfInBounds_toArray, List.set_cons_zero, List.set_cons_succ]
        refine wpAnyH_take (i := 14) (oi := ⟨some 88, _, _, _, _, _⟩) (v := .string u) rfl (by kernel_rfl) (by kernel_rfl) (by kernel_rfl) (fun _ _ _ h => h) (Or.inl ⟨by rfl, fun w' hS => by (have hlk := look_str hS.2.2.2.2 HOK3.out.1; rw [HLK.out] at hlk; go_simp)⟩) HS1.out ?_
        try simp only [Act.put, List.setIfInBounds_toArray, List.set_cons_zero, List.set_cons_succ]
        refine wpAnyH_take (i := 15) (oi := ⟨some 89, _, _, _, _, _⟩) (v := .string s) rfl (by kernel_rfl) (by kernel_rfl) (by kernel_rfl) (fun _ _ _ h => h) (Or.inl ⟨by rfl, fun w' hS => by (have u0_ := hS.2.2.1.1 0 _ rfl; go_simp)⟩) HS1.out ?_
        try simp only [Act.put, List.setIfInBounds_toArray, List.set_cons_zero, List.set_cons_succ]
        refine wpAnyH_take (i := 16) (oi := ⟨some 90, _, _, _, _, _⟩) (v := .bool (u.toList == s.toList)) rfl (by kernel_rfl) (by kernel_rfl) (by kernel_rfl) (fun _ _ _ h => h) (Or.inl ⟨by rfl, fun w' hS => by go_simp⟩) HS1.out ?_
        try simp only [Act.put, List.setIfInBounds_toArray, List.set_cons_zero, List.set_cons_succ]
        refine wpAnyH_take (i := 17) (oi := ⟨some 91, _, _, _, _, _⟩) (v := .bool (u.toList == s.toList)) rfl (by kernel_rfl) (by kernel_rfl) (by kernel_rfl) (fun _ _ _ h => h) (Or.inl ⟨by rfl, fun w' hS => by go_simp⟩) HS1.out ?_
        try simp only [Act.put, List.setIfInBounds_toArray, List.set_cons_zero, List.set_cons_succ]
        refine wpAnyH_take (i := 18) (oi := ⟨some 73, _, _, _, _, _⟩) (v := .bool (u.toList == s.toList)) rfl (by kernel_rfl) (by kernel_rfl) (by kernel_rfl) (fun _ _ _ h => h) (Or.inl ⟨by rfl, fun w' hS => by go_simp⟩) HS1.out ?_
        try simp only [Act.put, List.setIfInBounds_toArray, List.set_cons_zero, List.set_cons_succ]
        refine wpAnyH_done (by kernel_rfl) ?_ _
        have HEQ := Lib.hid (show (u.toList == s.toList) = sameAt L d by rw [HSA.out, ba_beq])
        go_wp2_with fail
        go_meet
        exact ⟨by rw [HEQ.out], below_drewN_self _ _ 1⟩
       ·
        have i5 : ¬ (m : Int) < (L.length : Int) := by omega
        have HSA := Lib.hid (show false = sameAt L d by unfold sameAt; rw [HM.out, List.getElem?_eq_none (by omega)])
        refine wp_region_held_drew (S := fun w' => BoxL w' w.heap.size [.slice A L.length c]) (by kernel_rfl) tw9.out.drew (fun hS0 => ?_)
        have HS1 := Lib.hid hS0; clear hS0
        refine wpAnyH_take (i := 0) (oi := ⟨some 74, _, _, _, _, _⟩) (v := .int .i64 m) rfl (by kernel_rfl) (by kernel_rfl) (by kernel_rfl) (fun _ _ _ h => h) (Or.inl ⟨by rfl, fun w' hS => by go_simp⟩) HS1.out ?_
        try simp only [Act.put, List.setIfInBounds_toArray, List.set_cons_zero, List.set_cons_succ]
        refine wpAnyH_take (i := 1) (oi := ⟨some 75, _, _, _, _, _⟩) (v := .pointer (some ⟨w.heap.size, 0, none⟩)) rfl (by kernel_rfl) (by kernel_rfl) (by kernel_rfl) (fun _ _ _ h => h) (Or.inl ⟨by rfl, fun w' hS => by go_simp⟩) HS1.out ?_
        try simp only [Act.put, List.setIfInBounds_toArray, List.set_cons_zero, List.set_cons_succ]
        refine wpAnyH_take (i := 2) (oi := ⟨some 76, _, _, _, _, _⟩) (v := .slice A L.length c) rfl (by kernel_rfl) (by kernel_rfl) (by kernel_rfl) (fun _ _ _ h => h) (Or.inl ⟨by rfl, fun w' hS => by (have u0_ := hS.1 0 _ rfl; go_simp)⟩) HS1.out ?_
        try simp only [Act.put, List.setIfInBounds_toArray, List.set_cons_zero, List.set_cons_succ]
        refine wpAnyH_take (i := 3) (oi := ⟨some 77, _, _, _, _, _⟩) (v := .int .i64 L.length) rfl (by kernel_rfl) (by kernel_rfl) (by kernel_rfl) (fun _ _ _ h => h) (Or.inl ⟨by rfl, fun w' hS => by go_simp⟩) HS1.out ?_
        try simp only [Act.put, List.setIfInBounds_toArray, List.set_cons_zero, List.set_cons_succ]
        refine wpAnyH_take (i := 4) (oi := ⟨some 78, _, _, _, _, _⟩) (v := .bool false) rfl (by kernel_rfl) (by kernel_rfl) (by kernel_rfl) (fun _ _ _ h => h) (Or.inl ⟨by rfl, fun w' hS => by go_simp⟩) HS1.out ?_
        try simp only [Act.put, List.setIfInBounds_toArray, List.set_cons_zero, List.set_cons_succ]
        refine wpAnyH_take (i := 5) (oi := ⟨some 79, _, _, _, _, _⟩) (v := .bool false) rfl (by kernel_rfl) (by kernel_rfl) (by kernel_rfl) (fun _ _ _ h => h) (Or.inl ⟨by rfl, fun w' hS => by go_simp⟩) HS1.out ?_
        try simp only [Act.put, List.setIfInBounds_toArray, List.set_cons_zero, List.set_cons_succ]
        refine wpAnyH_take (i := 6) (oi := ⟨some 80, _, _, _, _, _⟩) (v := undef) rfl (by kernel_rfl) (by kernel_rfl) (by kernel_rfl) (fun _ _ _ h => h) (Or.inr ⟨by rfl, rfl⟩) HS1.out ?_
        try simp only [Act.put, List.setIfInBounds_toArray, List.set_cons_zero, List.set_cons_succ]
        refine wpAnyH_take (i := 7) (oi := ⟨some 81, _, _, _, _, _⟩) (v := undef) rfl (by kernel_rfl) (by kernel_rfl) (by kernel_rfl) (fun _ _ _ h => h) (Or.inr ⟨by rfl, rfl⟩) HS1.out ?_
        try simp only [Act.put, List.setIfInBounds_toArray, List.set_cons_zero, List.set_cons_succ]
        refine wpAnyH_take (i := 8) (oi := ⟨some 82, _, _, _, _, _⟩) (v := undef) rfl (by kernel_rfl) (by kernel_rfl) (by kernel_rfl) (fun _ _ _ h => h) (Or.inr ⟨by rfl, rfl⟩) HS1.out ?_
        try simp only [Act.put, List.setIfInBounds_toArray, List.set_cons_zero, List.set_cons_succ]
        refine wpAnyH_take (i := 9) (oi := ⟨some 83, _, _, _, _, _⟩) (v := undef) rfl (by kernel_rfl) (by kernel_rfl) (by kernel_rfl) (fun _ _ _ h => h) (Or.inr ⟨by rfl, rfl⟩) HS1.out ?_
        try simp only [Act.put, List.setIfInBounds_toArray, List.set_cons_zero, List.set_cons_succ]
        refine wpAnyH_take (i := 10) (oi := ⟨some 84, _, _, _, _, _⟩) (v := undef) rfl (by kernel_rfl) (by kernel_rfl) (by kernel_rfl) (fun _ _ _ h => h) (Or.inr ⟨by rfl, rfl⟩) HS1.out ?_
        try simp only [Act.put, List.setIfInBounds_toArray, List.set_cons_zero, List.set_cons_succ]
        refine wpAnyH_take (i := 11) (oi := ⟨some 85, _, _, _, _, _⟩) (v := undef) rfl (by kernel_rfl) (by kernel_rfl) (by kernel_rfl) (fun _ _ _ h => h) (Or.inr ⟨by rfl, rfl⟩) HS1.out ?_
        try simp only [Act.put, List.setIfInBounds_toArray, List.set_cons_zero, List.set_cons_succ]
        refine wpAnyH_take (i := 12) (oi := ⟨some 86, _, _, _, _, _⟩) (v := undef) rfl (by kernel_rfl) (by kernel_rfl) (by kernel_rfl) (fun _ _ _ h => h) (Or.inr ⟨by rfl, rfl⟩) HS1.out ?_
        try simp only [Act.put, List.setIfInBounds_toArray, List.set_cons_zero, List.set_cons_succ]
        refine wpAnyH_take (i := 13) (oi := ⟨some 87, _, _, _, _, _⟩) (v := undef) rfl (by kernel_rfl) (by kernel_rfl) (by kernel_rfl) (fun _ _ _ h => h) (Or.inr ⟨by rfl, rfl⟩) HS1.out ?_
        try simp only [Act.put, List.setIfInBounds_toArray, List.set_cons_zero, List.set_cons_succ]
        refine wpAnyH_take (i := 14) (oi := ⟨some 88, _, _, _, _, _⟩) (v := undef) rfl (by kernel_rfl) (by kernel_rfl) (by kernel_rfl) (fun _ _ _ h => h) (Or.inr ⟨by rfl, rfl⟩) HS1.out ?_
        try simp only [Act.put, List.setIfInBounds_toArray, List.set_cons_zero, List.set_cons_succ]
        refine wpAnyH_take (i := 15) (oi := ⟨some 89, _, _, _, _, _⟩) (v := undef) rfl (by kernel_rfl) (by kernel_rfl) (by kernel_rfl) (fun _ _ _ h => h) (Or.inr ⟨by rfl, rfl⟩) HS1.out ?_
        try simp only [Act.put, List.setIfInBounds_toArray, List.set_cons_zero, List.set_cons_succ]
        refine wpAnyH_take (i := 16) (oi := ⟨some 90, _, _, _, _, _⟩) (v := undef) rfl (by kernel_rfl) (by kernel_rfl) (by kernel_rfl) (fun _ _ _ h => h) (Or.inr ⟨by rfl, rfl⟩) HS1.out ?_
        try simp only [Act.put, List.setIfInBounds_toArray, List.set_cons_zero, List.set_cons_succ]
        refine wpAnyH_take (i := 17) (oi := ⟨some 91, _, _, _, _, _⟩) (v := .bool false) rfl (by kernel_rfl) (by kernel_rfl) (by kernel_rfl) (fun _ _ _ h => h) (Or.inl ⟨by rfl, fun w' hS => by go_simp⟩) HS1.out ?_
        try simp only [Act.put, List.setIfInBounds_toArray, List.set_cons_zero, List.set_cons_succ]
        refine wpAnyH_take (i := 18) (oi := ⟨some 73, _, _, _, _, _⟩) (v := .bool false) rfl (by kernel_rfl) (by kernel_rfl) (by kernel_rfl) (fun _ _ _ h => h) (Or.inl ⟨by rfl, fun w' hS => by go_simp⟩) HS1.out ?_
        try simp only [Act.put, List.setIfInBounds_toArray, List.set_cons_zero, List.set_cons_succ]
        refine wpAnyH_done (by kernel_rfl) ?_ _
        go_wp2_with fail
        go_meet
        exact ⟨by rw [HSA.out], below_drewN_self _ _ 1⟩
      case rest =>
      obtain ⟨rfl, hq⟩ := hcut
      have hbq := hq.out
      clear hq
      clear ct0 cr0 cfr co0
      have HSwc := Lib.hid (show w9.heap.size ≤ wc.heap.size from hbq.size)
      have HBwc := Lib.hid (HBw9.out.trans (hbq.mono HBw9.out.size))
      have twc := Lib.hid (tw9.out.kept (grown_none hbq) (fun e => by cases e))
      have pwc := Lib.hid (pw9.out.kept (grown_none hbq) (fun e => by cases e))
      have rwc := Lib.hid (rw9.out.kept (grown_none hbq) (fun e => by cases e))
      have vwc := Lib.hid (vw9.out.kept (grown_none hbq) (fun e => by cases e))
      have owc := Lib.hid (ow9.out.kept (grown_none hbq) (fun e => by cases e))
      have HMOwc := Lib.hid (HMOw9.out.next hbq)
      clear hbq
      have ct0 := twc.out.1 0 _ rfl
      have cp0 := pwc.out.1 0 _ rfl
      have cp1 := pwc.out.1 1 _ rfl
      have cp2 := pwc.out.1 2 _ rfl
      have cp3 := pwc.out.1 3 _ rfl
      have cp4 := pwc.out.1 4 _ rfl
      have cp5 := pwc.out.1 5 _ rfl
      have cp6 := pwc.out.1 6 _ rfl
      have cp7 := pwc.out.1 7 _ rfl
      have cp8 := pwc.out.1 8 _ rfl
      have cp9 := pwc.out.1 9 _ rfl
      have cr0 := rwc.out.1 0 _ rfl
      have cfr := rwc.out.2.1
      cases hsa : sameAt L d with
      | true =>
       have HSA := Lib.hid hsa; clear hsa
       have HE := Lib.hid (show progE L d = 44 by unfold progE; rw [if_neg (by rw [HC.out]; decide), if_neg (by rw [HTK.out]; decide), if_neg HP.out, if_neg HL.out, if_neg (by have := H7.out; omega), if_pos (by show (sameAt L d || clashesB L d) = true; rw [HSA.out]; rfl)])
       exact absurd (HE.out.symm.trans HPE.out) (by decide)
      | false =>
       have HSA := Lib.hid hsa; clear hsa
       go_wp2_with fail
       refine (clashes_any A c L d A2 c2 _ B (Nat.le_trans HB.out HBwc.out.size) (HX.out.keep (HBwc.out.mono HB.out)) (fun x hx => by have := (HVS.out x hx).1; omega) (by have := valid_size HDS.out; omega) (HOK.out.next HBwc.out)).mono ?_
       rintro e w10 ⟨rfl, hbw10⟩
       clear ct0 cp0 cp1 cp2 cp3 cp4 cp5 cp6 cp7 cp8 cp9 cr0 cfr
       have HSw10 := Lib.hid (show wc.heap.size ≤ w10.heap.size from hbw10.size)
       have HBw10 := Lib.hid (HBwc.out.trans (hbw10.mono HBwc.out.size))
       have tw10 := Lib.hid (twc.out.kept (grown_none hbw10) (fun e => by cases e))
       have pw10 := Lib.hid (pwc.out.kept (grown_none hbw10) (fun e => by cases e))
       have rw10 := Lib.hid (rwc.out.kept (grown_none hbw10) (fun e => by cases e))
       have vw10 := Lib.hid (vwc.out.kept (grown_none hbw10) (fun e => by cases e))
       have ow10 := Lib.hid (owc.out.kept (grown_none hbw10) (fun e => by cases e))
       have HMOw10 := Lib.hid (HMOwc.out.next hbw10)
       clear hbw10
       have ct0 := tw10.out.1 0 _ rfl
       have cr0 := rw10.out.1 0 _ rfl
       have cfr := rw10.out.2.1
       cases hcl : clashesB L d with
       | true =>
        have HCL := Lib.hid hcl; clear hcl
        have HE := Lib.hid (show progE L d = 44 by unfold progE; rw [if_neg (by rw [HC.out]; decide), if_neg (by rw [HTK.out]; decide), if_neg HP.out, if_neg HL.out, if_neg (by have := H7.out; omega), if_pos (by show (sameAt L d || clashesB L d) = true; rw [HSA.out, HCL.out]; rfl)])
        exact absurd (HE.out.symm.trans HPE.out) (by decide)
       | false =>
        clear ct0 cr0 cfr
        have HLA := Lib.hid (show ∀ x ∈ L, x.attrs.length ≤ 1000000 from fun x hx => attrs_le (HVT.out.chk x hx)); have HDA := Lib.hid (attrs_le HC.out)
        go_upto_region 21 with fail
        refine wp_region_held_drew (S := fun w' => BoxL w' w.heap.size [.slice A L.length c] ∧ BoxL w' w1.heap.size [.int .i64 d.idx, .int .i64 d.par, .string d.nm, .string d.orig, .string d.sub, .string d.drv, .string d.ali, .int .i64 d.kind, .int .i64 d.num, .slice A2 d.attrs.length c2]) (by kernel_rfl) ⟨tw10.out.drew, pw10.out.drew⟩ (fun hS0 => ?_)
        obtain ⟨wd, hwd⟩ : ∃ z, World.drew w10 = z := ⟨_, rfl⟩
        rw [hwd] at hS0 ⊢
        have hbd : Below w10.heap.size w10 wd := by rw [← hwd]; exact below_drewN_self _ _ 1
        clear hwd
        have HS1 := Lib.hid hS0; clear hS0
        have HSwd := Lib.hid (show w10.heap.size ≤ wd.heap.size from hbd.size)
        have HBwd := Lib.hid (HBw10.out.trans (hbd.mono HBw10.out.size))
        have twd := Lib.hid (tw10.out.kept (grown_none hbd) (fun e => by cases e))
        have pwd := Lib.hid (pw10.out.kept (grown_none hbd) (fun e => by cases e))
        have rwd := Lib.hid (rw10.out.kept (grown_none hbd) (fun e => by cases e))
        have vwd := Lib.hid (vw10.out.kept (grown_none hbd) (fun e => by cases e))
        have owd := Lib.hid (ow10.out.kept (grown_none hbd) (fun e => by cases e))
        have HMOwd := Lib.hid (HMOw10.out.next hbd)
        clear hbd
        have HRD9 := Lib.hid (rwd.out.2.2)
        refine wpAnyH_take (i := 0) (oi := ⟨some 97, _, _, _, _, _⟩) (v := .pointer (some ⟨w.heap.size, 0, none⟩)) rfl (by kernel_rfl) (by kernel_rfl) (by kernel_rfl) (fun _ _ _ h => h) (Or.inl ⟨by rfl, fun w' hS => by go_simp⟩) HS1.out ?_
        try simp only [Act.put, List.setIfInBounds_toArray, List.set_cons_zero, List.set_cons_succ]
        refine wpAnyH_take (i := 1) (oi := ⟨some 98, _, _, _, _, _⟩) (v := .slice A L.length c) rfl (by kernel_rfl) (by kernel_rfl) (by kernel_rfl) (fun _ _ _ h => h) (Or.inl ⟨by rfl, fun w' hS => by (have u0_ := hS.1.1 0 _ rfl; go_simp)⟩) HS1.out ?_
        try simp only [Act.put, List.setIfInBounds_toArray, List.set_cons_zero, List.set_cons_succ]
        refine wpAnyH_take (i := 3) (oi := ⟨some 100, _, _, _, _, _⟩) (v := .int .i64 m) rfl (by kernel_rfl) (by kernel_rfl) (by kernel_rfl) (fun _ _ _ h => h) (Or.inl ⟨by rfl, fun w' hS => by go_simp⟩) HS1.out ?_
        try simp only [Act.put, List.setIfInBounds_toArray, List.set_cons_zero, List.set_cons_succ]
        refine wpAnyH_take (i := 4) (oi := ⟨some 101, _, _, _, _, _⟩) (v := .agg #[.int .i64 d.idx, .int .i64 d.par, .string d.nm, .string d.orig, .string d.sub, .string d.drv, .string d.ali, .int .i64 d.kind, .int .i64 d.num, .slice A2 d.attrs.length c2]) rfl (by kernel_rfl) (by kernel_rfl) (by kernel_rfl) (fun _ _ _ h => h) (Or.inl ⟨by rfl, fun w' hS => by (have u0_ := hS.2.1 0 _ rfl; have u1_ := hS.2.1 1 _ rfl; have u2_ := hS.2.1 2 _ rfl; have u3_ := hS.2.1 3 _ rfl; have u4_ := hS.2.1 4 _ rfl; have u5_ := hS.2.1 5 _ rfl; have u6_ := hS.2.1 6 _ rfl; have u7_ := hS.2.1 7 _ rfl; have u8_ := hS.2.1 8 _ rfl; have u9_ := hS.2.1 9 _ rfl; go_simp)⟩) HS1.out ?_
        try simp only [Act.put, List.setIfInBounds_toArray, List.set_cons_zero, List.set_cons_succ]
        refine wpAnyH_ready (rs := [2]) (by kernel_rfl) (by simp) ?_
        refine AllReadyH.cons (o := ⟨some 99, .call ⟨_, _, _⟩, _, _, _, _⟩) rfl (fun K hK => ?_) AllReadyH.nil
        go_simp
        go_at_call 57
        have hc_ := copies_any A c L wd B (Nat.le_trans HB.out HBwd.out.size) (HX.out.keep (HBwd.out.mono HB.out)) (by have := HVL.out; omega) HLA.out
        rw [filter_any] at hc_
        refine hc_.mono ?_
        clear hc_
        rintro e' q1 ⟨hb_, v, rfl, hown_⟩
        have HOWN := Lib.hid hown_; clear hown_
        have HSQ1 := Lib.hid (show (BoxL q1 w.heap.size [.slice A L.length c] ∧ BoxL q1 w1.heap.size [.int .i64 d.idx, .int .i64 d.par, .string d.nm, .string d.orig, .string d.sub, .string d.drv, .string d.ali, .int .i64 d.kind, .int .i64 d.num, .slice A2 d.attrs.length c2]) from ⟨HS1.out.1.kept (grown_none hb_) (fun e => by cases e), HS1.out.2.kept (grown_none hb_) (fun e => by cases e)⟩)
        have hbq_ := hb_
        have HSq1 := Lib.hid (show wd.heap.size ≤ q1.heap.size from hbq_.size)
        have HBq1 := Lib.hid (HBwd.out.trans (hbq_.mono HBwd.out.size))
        have tq1 := Lib.hid (twd.out.kept (grown_none hbq_) (fun e => by cases e))
        have pq1 := Lib.hid (pwd.out.kept (grown_none hbq_) (fun e => by cases e))
        have rq1 := Lib.hid (rwd.out.kept (grown_none hbq_) (fun e => by cases e))
        have vq1 := Lib.hid (vwd.out.kept (grown_none hbq_) (fun e => by cases e))
        have oq1 := Lib.hid (owd.out.kept (grown_none hbq_) (fun e => by cases e))
        have HMOq1 := Lib.hid (HMOwd.out.next hbq_)
        clear hbq_ hb_
        have HLV := Lib.hid HOWN.out.lt
        refine hK.out _ _ HSQ1.out (fun _ => ?_)
        clear hK K
        try simp only [Act.put, List.setIfInBounds_toArray, List.set_cons_zero, List.set_cons_succ]
        refine wpAnyH_ready (rs := [5]) (by kernel_rfl) (by simp) ?_
        refine AllReadyH.cons (o := ⟨some 102, .call ⟨_, _, _⟩, _, _, _, _⟩) rfl (fun K hK => ?_) AllReadyH.nil
        go_simp
        go_at_call 58
        refine (copied_any d A2 c2 q1 B (Nat.le_trans HB.out HBq1.out.size) (HA.out.keep (HBq1.out.mono HB.out)) HDA.out).mono ?_
        rintro e' q2 ⟨hb_, A4, c4, rfl, hsl_⟩
        have HSL := Lib.hid hsl_; clear hsl_
        have HOWN2 := Lib.hid (HOWN.out.below hb_)
        have HSQ2 := Lib.hid (show (BoxL q2 w.heap.size [.slice A L.length c] ∧ BoxL q2 w1.heap.size [.int .i64 d.idx, .int .i64 d.par, .string d.nm, .string d.orig, .string d.sub, .string d.drv, .string d.ali, .int .i64 d.kind, .int .i64 d.num, .slice A2 d.attrs.length c2]) from ⟨HSQ1.out.1.kept (grown_none hb_) (fun e => by cases e), HSQ1.out.2.kept (grown_none hb_) (fun e => by cases e)⟩)
        have hbq_ := hb_
        have HSq2 := Lib.hid (show q1.heap.size ≤ q2.heap.size from hbq_.size)
        have HBq2 := Lib.hid (HBq1.out.trans (hbq_.mono HBq1.out.size))
        have tq2 := Lib.hid (tq1.out.kept (grown_none hbq_) (fun e => by cases e))
        have pq2 := Lib.hid (pq1.out.kept (grown_none hbq_) (fun e => by cases e))
        have rq2 := Lib.hid (rq1.out.kept (grown_none hbq_) (fun e => by cases e))
        have vq2 := Lib.hid (vq1.out.kept (grown_none hbq_) (fun e => by cases e))
        have oq2 := Lib.hid (oq1.out.kept (grown_none hbq_) (fun e => by cases e))
        have HMOq2 := Lib.hid (HMOq1.out.next hbq_)
        clear hbq_ hb_
        refine hK.out _ _ HSQ2.out (fun _ => ?_)
        clear hK K
        try simp only [Act.put, List.setIfInBounds_toArray, List.set_cons_zero, List.set_cons_succ]
        refine wpAnyH_ready (rs := [6]) (by kernel_rfl) (by simp) ?_
        refine AllReadyH.cons (o := ⟨some 103, .buildSlice _ _ _, _, _, _, _⟩) rfl (fun K hK => ?_) AllReadyH.nil
        go_simp
        obtain ⟨q3, hq3⟩ : ∃ z, q2.alloc (.cells #[.int .i64 d.idx, .int .i64 d.par, .string d.nm, .string d.orig, .string d.sub, .string d.drv, .string d.ali, .int .i64 d.kind, .int .i64 d.num, .slice A4 d.attrs.length c4] 43) = z := ⟨_, rfl⟩
        have hb_ : Below q2.heap.size q2 q3 := by rw [← hq3]; exact (Below.refl _ _).alloc (Nat.le_refl _) _
        have HGA := Lib.hid (show q3.heap.size = q2.heap.size + 1 by rw [← hq3]; simp)
        have HNEW := Lib.hid (show q3.heap[q2.heap.size]? = some (.cells (devCells d A4 c4).toArray 43 (0, 0)) by rw [← hq3]; exact heap_new _ _)
        try rw [hq3]
        clear hq3
        have HSL2 := Lib.hid (HSL.out.below hb_ (fun x hx => hx.2)); have HOWN3 := Lib.hid (HOWN2.out.below hb_); have HSQ3 := Lib.hid (show (BoxL q3 w.heap.size [.slice A L.length c] ∧ BoxL q3 w1.heap.size [.int .i64 d.idx, .int .i64 d.par, .string d.nm, .string d.orig, .string d.sub, .string d.drv, .string d.ali, .int .i64 d.kind, .int .i64 d.num, .slice A2 d.attrs.length c2]) from ⟨HSQ2.out.1.kept (grown_none hb_) (fun e => by cases e), HSQ2.out.2.kept (grown_none hb_) (fun e => by cases e)⟩)
        have hbq_ := hb_
        have HSq3 := Lib.hid (show q2.heap.size ≤ q3.heap.size from hbq_.size)
        have HBq3 := Lib.hid (HBq2.out.trans (hbq_.mono HBq2.out.size))
        have tq3 := Lib.hid (tq2.out.kept (grown_none hbq_) (fun e => by cases e))
        have pq3 := Lib.hid (pq2.out.kept (grown_none hbq_) (fun e => by cases e))
        have rq3 := Lib.hid (rq2.out.kept (grown_none hbq_) (fun e => by cases e))
        have vq3 := Lib.hid (vq2.out.kept (grown_none hbq_) (fun e => by cases e))
        have oq3 := Lib.hid (oq2.out.kept (grown_none hbq_) (fun e => by cases e))
        have HMOq3 := Lib.hid (HMOq2.out.next hbq_)
        clear hbq_ hb_
        refine hK.out _ _ HSQ3.out (fun _ => ?_)
        clear hK K
        try simp only [Act.put, List.setIfInBounds_toArray, List.set_cons_zero, List.set_cons_succ]
        have HRD := Lib.hid (show RepS.rdS q3 (fun b => wd.heap.size ≤ b ∧ b < q3.heap.size ∧ v.ownBlock ≠ some b) d (devCells d A4 c4) from ⟨A4, c4, rfl, HD.out, (HSL2.out).mono (fun b hb => ⟨by have := hb.1; have := HSq1.out; omega, by have := hb.2; have := HGA.out; omega, fun e => by have h1 := (HLV.out b e).2; have h2 := hb.1; omega⟩) (fun _ _ _ _ hu => hu)⟩)
        refine wpAnyH_ready (rs := [7]) (by kernel_rfl) (by simp) ?_
        refine AllReadyH.cons (o := ⟨some 104, .call ⟨_, _, _⟩, _, _, _, _⟩) rfl (fun K hK => ?_) AllReadyH.nil
        go_simp
        go_at_call 64
        refine (SlInsert_any (fun b => wd.heap.size ≤ b) wd.heap.size v L m d (devCells d A4 c4) q2.heap.size q3 HOWN3.out HATL.out (by have := HVL.out; omega) (fun e => by have h1 := (HLV.out _ e).2; have := HSq2.out; omega) HNEW.out HRD.out (by have := HSq1.out; have := HSq2.out; have := HSq3.out; omega)).mono ?_
        rintro e' q4 ⟨v2, rfl, ho_, hg_⟩
        obtain ⟨nl, hnl⟩ : ∃ z, L.take m ++ d :: L.drop m = z := ⟨_, rfl⟩
        rw [hnl] at ho_
        have HNL := Lib.hid hnl; clear hnl
        obtain ⟨A9, c9, hv9, -⟩ := ho_.cs
        have HO4 := Lib.hid ho_; have HG4 := Lib.hid hg_; have HV9 := Lib.hid hv9
        have hsz9 : w2.heap.size < wd.heap.size := HRD9.out
        have hszt : w.heap.size < wd.heap.size := HS1.out.1.2.2
        have hszp : w1.heap.size < wd.heap.size := HS1.out.2.2.2
        have HNO := Lib.hid (show ∀ k, k < wd.heap.size → some k ≠ v.ownBlock from fun k hk e => by have := (HLV.out k e.symm).1; omega)
        have HB4 := Lib.hid (show Below w.heap.size w q4 from HBq3.out.grown hg_ HBq3.out.size (fun k hk => by have := (HLV.out k hk).1; have := HSwd.out; have := HBw10.out.size; omega))
        have HSQ4 := Lib.hid (show (BoxL q4 w.heap.size [.slice A L.length c] ∧ BoxL q4 w1.heap.size [.int .i64 d.idx, .int .i64 d.par, .string d.nm, .string d.orig, .string d.sub, .string d.drv, .string d.ali, .int .i64 d.kind, .int .i64 d.num, .slice A2 d.attrs.length c2]) from ⟨HSQ3.out.1.kept hg_ (HNO.out _ hszt), HSQ3.out.2.kept hg_ (HNO.out _ hszp)⟩)
        have HR4 := Lib.hid (rq3.out.kept hg_ (HNO.out _ hsz9))
        clear ho_ hg_ hv9 hszt hszp
        refine hK.out _ _ HSQ4.out (fun _ => ?_)
        clear hK K
        try simp only [Act.put, List.setIfInBounds_toArray, List.set_cons_zero, List.set_cons_succ]
        have hv9 := HV9.out
        subst hv9
        refine wpAnyH_take (i := 8) (oi := ⟨some 105, _, _, _, _, _⟩) (v := .agg #[.slice A9 nl.length c9]) rfl (by kernel_rfl) (by kernel_rfl) (by kernel_rfl) (fun _ _ _ h => h) (Or.inl ⟨by rfl, fun w' hS => by go_simp⟩) HSQ4.out ?_
        try simp only [Act.put, List.setIfInBounds_toArray, List.set_cons_zero, List.set_cons_succ]
        refine wpAnyH_ready (rs := [9]) (by kernel_rfl) (by simp) ?_
        refine AllReadyH.cons (o := ⟨none, .store _ _ _, _, _, _, _⟩) rfl (fun K hK => ?_) AllReadyH.nil
        have u0_ := HR4.out.1 0 _ rfl; have uf_ := HR4.out.2.1
        go_simp
        have hgs := grown_one q4 w2.heap.size 0 (.slice A9 nl.length c9)
        have hbr := HR4.out.set_ (j := 0) (by simp) (.slice A9 nl.length c9)
        obtain ⟨q5, hq5⟩ : ∃ z, q4.setCell ⟨w2.heap.size, 0, none⟩ (.slice A9 nl.length c9) = z := ⟨_, rfl⟩
        rw [hq5] at hgs hbr ⊢
        clear hq5
        have HR5 := Lib.hid (show BoxL q5 w2.heap.size [.slice A9 nl.length c9] from hbr)
        have HO5 := Lib.hid (HO4.out.grownb hgs (fun x (hx : wd.heap.size ≤ x) => by omega) hsz9)
        have HB5 := Lib.hid (show Below w.heap.size w q5 from HB4.out.grown hgs HB4.out.size (fun q hq => by have := Option.some.inj hq; have := HGw1.out; have := HGw2.out; omega))
        have HSQ5 := Lib.hid (show (BoxL q5 w.heap.size [.slice A L.length c] ∧ BoxL q5 w1.heap.size [.int .i64 d.idx, .int .i64 d.par, .string d.nm, .string d.orig, .string d.sub, .string d.drv, .string d.ali, .int .i64 d.kind, .int .i64 d.num, .slice A2 d.attrs.length c2]) from ⟨HSQ4.out.1.kept hgs (fun e => by have := Option.some.inj e; have := HGw1.out; have := HGw2.out; omega), HSQ4.out.2.kept hgs (fun e => by have := Option.some.inj e; have := HGw1.out; have := HGw2.out; omega)⟩)
        clear hgs hbr
        refine hK.out _ _ HSQ5.out (fun _ => ?_)
        clear hK K
        try simp only [Act.put, List.setIfInBounds_toArray, List.set_cons_zero, List.set_cons_succ]
        refine wpAnyH_take (i := 10) (oi := ⟨some 5, _, _, _, _, _⟩) (v := .int .i64 0) rfl (by kernel_rfl) (by kernel_rfl) (by kernel_rfl) (fun _ _ _ h => h) (Or.inl ⟨by rfl, fun w' hS => by go_simp⟩) HSQ5.out ?_
        try simp only [Act.put, List.setIfInBounds_toArray, List.set_cons_zero, List.set_cons_succ]
        refine wpAnyH_done (by kernel_rfl) ?_ _
        have u9_ := HR5.out.1 0 _ rfl
        go_wp2
        refine bodyPost_ret (v := .tuple #[.agg #[.slice A9 nl.length c9], .int .i64 0]) (by simp [results, Tryz.results32, go_sem, u9_]) rfl (InsG.mk HB5.out (by try rfl) ?_)
        rw [show insL L d = nl by unfold insL; rw [← at_same HVT.out HDS.out, HM.out]; exact HNL.out]
        exact (HO5.out.wide (fun b (hb : wd.heap.size ≤ b) => by have := HSwd.out; have := HBw10.out.size; show w.heap.size ≤ b; omega)).low (by have := HSwd.out; have := HBw10.out.size; omega)
   ·
    have ep : (d.par != 0) = true := by simpa using hp
    cases there with
    | false =>
     have HP := Lib.hid (show d.par ≠ 0 ∧ (idxs L).contains d.par = false from ⟨hp, HTH.out⟩); clear hp
     have HE := Lib.hid (show progE L d = 42 by unfold progE; rw [if_neg (by rw [HC.out]; decide), if_neg (by rw [HTK.out]; decide), if_pos HP.out])
     exact absurd (HE.out.symm.trans HPE.out) (by decide)
    | true =>
     have HP := Lib.hid (show ¬ (d.par ≠ 0 ∧ (idxs L).contains d.par = false) from fun h => by rw [HTH.out] at h; exact absurd h.2 (by decide)); clear hp
     by_cases hl : 256 ≤ L.length
     ·
      have i4 : (256 : Int) ≤ (L.length : Int) := by omega
      have HL := Lib.hid hl; clear hl
      have HE := Lib.hid (show progE L d = 40 by unfold progE; rw [if_neg (by rw [HC.out]; decide), if_neg (by rw [HTK.out]; decide), if_neg HP.out, if_pos HL.out])
      exact absurd (HE.out.symm.trans HPE.out) (by decide)
     ·
      have i4 : ¬ (256 : Int) ≤ (L.length : Int) := by omega
      have HL := Lib.hid hl; clear hl
      go_wp2_with fail
      refine (depth_any s _ HSS.out (HOK.out.next HBw8.out)).mono ?_
      rintro e w11 ⟨rfl, hbw11⟩
      clear ct0 cp1 cr0 cfr co0
      have HSw11 := Lib.hid (show w8.heap.size ≤ w11.heap.size from hbw11.size)
      have HBw11 := Lib.hid (HBw8.out.trans (hbw11.mono HBw8.out.size))
      have tw11 := Lib.hid (tw8.out.kept (grown_none hbw11) (fun e => by cases e))
      have pw11 := Lib.hid (pw8.out.kept (grown_none hbw11) (fun e => by cases e))
      have rw11 := Lib.hid (rw8.out.kept (grown_none hbw11) (fun e => by cases e))
      have vw11 := Lib.hid (vw8.out.kept (grown_none hbw11) (fun e => by cases e))
      have ow11 := Lib.hid (ow8.out.kept (grown_none hbw11) (fun e => by cases e))
      have HMOw11 := Lib.hid (HMOw8.out.next hbw11)
      clear hbw11
      have ct0 := tw11.out.1 0 _ rfl
      have cr0 := rw11.out.1 0 _ rfl
      have cfr := rw11.out.2.1
      have co0 := ow11.out.1 0 _ rfl
      obtain ⟨dp, hdp⟩ : ∃ z, depthS s = z := ⟨_, rfl⟩
      rw [hdp]
      have HDP := Lib.hid hdp; clear hdp
      by_cases h7 : 7 < dp
      ·
       have H7 := Lib.hid (show 7 < depthS (pathS (ownL L d)) by rw [← HSO.out, HDP.out]; exact h7)
       have HE := Lib.hid (show progE L d = 46 by unfold progE; rw [if_neg (by rw [HC.out]; decide), if_neg (by rw [HTK.out]; decide), if_neg HP.out, if_neg HL.out, if_pos H7.out])
       exact absurd (HE.out.symm.trans HPE.out) (by decide)
      ·
       have H7 := Lib.hid (show ¬ 7 < depthS (pathS (ownL L d)) by rw [← HSO.out, HDP.out]; exact h7)
       go_upto_region 18 with fail
       go_cut [73] (fun s73 wx => s73 = .bool (sameAt L d) ∧ Hid (Below w11.heap.size w11 wx))
       case first =>
        clear ct0 cr0 cfr co0
        by_cases hml : m < L.length
        ·
         have i5 : (m : Int) < (L.length : Int) := by omega
         obtain ⟨b3, o3, rfl, hb3, A3, c3, hok3, -, hcs3⟩ := (HX.out.keep (HBw11.out.mono HB.out)).dev hml
         obtain ⟨y, hy⟩ : ∃ y, L[m]'hml = y := ⟨_, rfl⟩
         rw [hy] at hok3 hcs3
         have HOK3 := Lib.hid hok3
         have HSA := Lib.hid (show sameAt L d = decide (strF L y.idx = s) by unfold sameAt; rw [HM.out, List.getElem?_eq_getElem hml, hy, HSO.out])
         have y0 := hcs3.1
         clear hok3 hcs3 hy hb3
         have hlk0 := orgM_str L y.idx
         obtain ⟨u, hu⟩ : ∃ u, strF L y.idx = u := ⟨_, rfl⟩
         rw [hu] at HSA hlk0
         have HLK := Lib.hid hlk0; clear hlk0 hu
         have hS_ : BoxL w11 w.heap.size [.slice (some ⟨b3, o3, none⟩) L.length c] ∧ BoxL w11 w4.heap.size [.slice (some ⟨b3, o3, none⟩) L.length c, .map (some bp), .map (some bo)] ∧ BoxL w11 w5.heap.size [.string s] ∧ w11.cell? ⟨b3, o3 + m * 10, none⟩ = some (.int .i64 y.idx) ∧ MapV Tryz.prog 3 9 w11 bo L.length (orgM L) := ⟨tw11.out, vw11.out, ow11.out, y0, HMOw11.out⟩
         have HS_ := Lib.hid hS_; clear hS_ y0
         refine wp_region_held_drew (S := fun w' => BoxL w' w.heap.size [.slice (some ⟨b3, o3, none⟩) L.length c] ∧ BoxL w' w4.heap.size [.slice (some ⟨b3, o3, none⟩) L.length c, .map (some bp), .map (some bo)] ∧ BoxL w' w5.heap.size [.string s] ∧ w'.cell? ⟨b3, o3 + m * 10, none⟩ = some (.int .i64 y.idx) ∧ MapV Tryz.prog 3 9 w' bo L.length (orgM L)) (by kernel_rfl) ⟨HS_.out.1.drew, HS_.out.2.1.drew, HS_.out.2.2.1.drew, HS_.out.2.2.2.1, HS_.out.2.2.2.2.next (below_drewN_self _ _ 1)⟩ (fun hS0 => ?_)
         have HS1 := Lib.hid hS0; clear hS0
         refine wpAnyH_take (i := 0) (oi := ⟨some 74, _, _, _, _, _⟩) (v := .int .i64 m) rfl (by kernel_rfl) (by kernel_rfl) (by kernel_rfl) (fun _ _ _ h => h) (Or.inl ⟨by rfl, fun w' hS => by go_simp⟩) HS1.out ?_
         try simp only [Act.put, List.setIfInBounds_toArray, List.set_cons_zero, List.set_cons_succ]
         refine wpAnyH_take (i := 1) (oi := ⟨some 75, _, _, _, _, _⟩) (v := .pointer (some ⟨w.heap.size, 0, none⟩)) rfl (by kernel_rfl) (by kernel_rfl) (by kernel_rfl) (fun _ _ _ h => h) (Or.inl ⟨by rfl, fun w' hS => by go_simp⟩) HS1.out ?_
         try simp only [Act.put, List.setIfInBounds_toArray, List.set_cons_zero, List.set_cons_succ]
         refine wpAnyH_take (i := 2) (oi := ⟨some 76, _, _, _, _, _⟩) (v := .slice (some ⟨b3, o3, none⟩) L.length c) rfl (by kernel_rfl) (by kernel_rfl) (by kernel_rfl) (fun _ _ _ h => h) (Or.inl ⟨by rfl, fun w' hS => by (have u0_ := hS.1.1 0 _ rfl; go_simp)⟩) HS1.out ?_
         try simp only [Act.put, List.setIfInBounds_toArray, List.set_cons_zero, List.set_cons_succ]
         refine wpAnyH_take (i := 3) (oi := ⟨some 77, _, _, _, _, _⟩) (v := .int .i64 L.length) rfl (by kernel_rfl) (by kernel_rfl) (by kernel_rfl) (fun _ _ _ h => h) (Or.inl ⟨by rfl, fun w' hS => by go_simp⟩) HS1.out ?_
         try simp only [Act.put, List.setIfInBounds_toArray, List.set_cons_zero, List.set_cons_succ]
         refine wpAnyH_take (i := 4) (oi := ⟨some 78, _, _, _, _, _⟩) (v := .bool true) rfl (by kernel_rfl) (by kernel_rfl) (by kernel_rfl) (fun _ _ _ h => h) (Or.inl ⟨by rfl, fun w' hS => by go_simp⟩) HS1.out ?_
         try simp only [Act.put, List.setIfInBounds_toArray, List.set_cons_zero, List.set_cons_succ]
         refine wpAnyH_take (i := 5) (oi := ⟨some 79, _, _, _, _, _⟩) (v := .bool true) rfl (by kernel_rfl) (by kernel_rfl) (by kernel_rfl) (fun _ _ _ h => h) (Or.inl ⟨by rfl, fun w' hS => by go_simp⟩) HS1.out ?_
         try simp only [Act.put, List.setIfInBounds_toArray, List.set_cons_zero, List.set_cons_succ]
         refine wpAnyH_take (i := 6) (oi := ⟨some 80, _, _, _, _, _⟩) (v := .pointer (some ⟨w4.heap.size, 2, none⟩)) rfl (by kernel_rfl) (by kernel_rfl) (by kernel_rfl) (fun _ _ _ h => h) (Or.inl ⟨by rfl, fun w' hS => by go_simp⟩) HS1.out ?_
         try simp only [Act.put, List.setIfInBounds_toArray, List.set_cons_zero, List.set_cons_succ]
         refine wpAnyH_take (i := 7) (oi := ⟨some 81, _, _, _, _, _⟩) (v := .map (some bo)) rfl (by kernel_rfl) (by kernel_rfl) (by kernel_rfl) (fun _ _ _ h => h) (Or.inl ⟨by rfl, fun w' hS => by (have u0_ := hS.2.1.1 2 _ rfl; go_simp)⟩) HS1.out ?_
         try simp only [Act.put, List.setIfInBounds_toArray, List.set_cons_zero, List.set_cons_succ]
         refine wpAnyH_take (i := 8) (oi := ⟨some 82, _, _, _, _, _⟩) (v := .pointer (some ⟨w.heap.size, 0, none⟩)) rfl (by kernel_rfl) (by kernel_rfl) (by kernel_rfl) (fun _ _ _ h => h) (Or.inl ⟨by rfl, fun w' hS => by go_simp⟩) HS1.out ?_
         try simp only [Act.put, List.setIfInBounds_toArray, List.set_cons_zero, List.set_cons_succ]
         refine wpAnyH_take (i := 9) (oi := ⟨some 83, _, _, _, _, _⟩) (v := .slice (some ⟨b3, o3, none⟩) L.length c) rfl (by kernel_rfl) (by kernel_rfl) (by kernel_rfl) (fun _ _ _ h => h) (Or.inl ⟨by rfl, fun w' hS => by (have u0_ := hS.1.1 0 _ rfl; go_simp)⟩) HS1.out ?_
         try simp only [Act.put, List.setIfInBounds_toArray, List.set_cons_zero, List.set_cons_succ]
         refine wpAnyH_take (i := 10) (oi := ⟨some 84, _, _, _, _, _⟩) (v := .int .i64 m) rfl (by kernel_rfl) (by kernel_rfl) (by kernel_rfl) (fun _ _ _ h => h) (Or.inl ⟨by rfl, fun w' hS => by go_simp⟩) HS1.out ?_
         try simp only [Act.put, List.setIfInBounds_toArray, List.set_cons_zero, List.set_cons_succ]
         refine wpAnyH_take (i := 11) (oi := ⟨some 85, _, _, _, _, _⟩) (v := .pointer (some ⟨b3, o3 + m * 10, none⟩)) rfl (by kernel_rfl) (by kernel_rfl) (by kernel_rfl) (fun _ _ _ h => h) (Or.inl ⟨by rfl, fun w' hS => by go_simp⟩) HS1.out ?_
         try simp only [Act.put, List.setIfInBounds_toArray, List.set_cons_zero, List.set_cons_succ]
         refine wpAnyH_take (i := 12) (oi := ⟨some 86, _, _, _, _, _⟩) (v := .pointer (some ⟨b3, o3 + m * 10, none⟩)) rfl (by kernel_rfl) (by kernel_rfl) (by kernel_rfl) (fun _ _ _ h => h) (Or.inl ⟨by rfl, fun w' hS => by go_simp⟩) HS1.out ?_
         try simp only [Act.put, List.setIfInBounds_toArray, List.set_cons_zero, List.set_cons_succ]
         refine wpAnyH_take (i := 13) (oi := ⟨some 87, _, _, _, _, _⟩) (v := .int .i64 y.idx) rfl (by kernel_rfl) (by kernel_rfl) (by kernel_rfl) (fun _ _ _ h => h) (Or.inl ⟨by rfl, fun w' hS => by (have u0_ := hS.2.2.2.1; go_simp)⟩) HS1.out ?_
         try simp only [Act.put, List.setIfInBounds_toArray, List.set_cons_zero, List.set_cons_succ]
         refine wpAnyH_take (i := 14) (oi := ⟨some 88, _, _, _, _, _⟩) (v := .string u) rfl (by kernel_rfl) (by kernel_rfl) (by kernel_rfl) (fun _ _ _ h => h) (Or.inl ⟨by rfl, fun w' hS => by (have hlk := look_str hS.2.2.2.2 HOK3.out.1; rw [HLK.out] at hlk; go_simp)⟩) HS1.out ?_
         try simp only [Act.put, List.setIfInBounds_toArray, List.set_cons_zero, List.set_cons_succ]
         refine wpAnyH_take (i := 15) (oi := ⟨some 89, _, _, _, _, _⟩) (v := .string s) rfl (by kernel_rfl) (by kernel_rfl) (by kernel_rfl) (fun _ _ _ h => h) (Or.inl ⟨by rfl, fun w' hS => by (have u0_ := hS.2.2.1.1 0 _ rfl; go_simp)⟩) HS1.out ?_
         try simp only [Act.put, List.setIfInBounds_toArray, List.set_cons_zero, List.set_cons_succ]
         refine wpAnyH_take (i := 16) (oi := ⟨some 90, _, _, _, _, _⟩) (v := .bool (u.toList == s.toList)) rfl (by kernel_rfl) (by kernel_rfl) (by kernel_rfl) (fun _ _ _ h => h) (Or.inl ⟨by rfl, fun w' hS => by go_simp⟩) HS1.out ?_
         try simp only [Act.put, List.setIfInBounds_toArray, List.set_cons_zero, List.set_cons_succ]
         refine wpAnyH_take (i := 17) (oi := ⟨some 91, _, _, _, _, _⟩) (v := .bool (u.toList == s.toList)) rfl (by kernel_rfl) (by kernel_rfl) (by kernel_rfl) (fun _ _ _ h => h) (Or.inl ⟨by rfl, fun w' hS => by go_simp⟩) HS1.out ?_
         try simp only [Act.put, List.setIfInBounds_toArray, List.set_cons_zero, List.set_cons_succ]
         refine wpAnyH_take (i := 18) (oi := ⟨some 73, _, _, _, _, _⟩) (v := .bool (u.toList == s.toList)) rfl (by kernel_rfl) (by kernel_rfl) (by kernel_rfl) (fun _ _ _ h => h) (Or.inl ⟨by rfl, fun w' hS => by go_simp⟩) HS1.out ?_
         try simp only [Act.put, List.setIfInBounds_toArray, List.set_cons_zero, List.set_cons_succ]
         refine wpAnyH_done (by kernel_rfl) ?_ _
         have HEQ := Lib.hid (show (u.toList == s.toList) = sameAt L d by rw [HSA.out, ba_beq])
         go_wp2_with fail
         go_meet
         exact ⟨by rw [HEQ.out], below_drewN_self _ _ 1⟩
        ·
         have i5 : ¬ (m : Int) < (L.length : Int) := by omega
         have HSA := Lib.hid (show false = sameAt L d by unfold sameAt; rw [HM.out, List.getElem?_eq_none (by omega)])
         refine wp_region_held_drew (S := fun w' => BoxL w' w.heap.size [.slice A L.length c]) (by kernel_rfl) tw11.out.drew (fun hS0 => ?_)
         have HS1 := Lib.hid hS0; clear hS0
         refine wpAnyH_take (i := 0) (oi := ⟨some 74, _, _, _, _, _⟩) (v := .int .i64 m) rfl (by kernel_rfl) (by kernel_rfl) (by kernel_rfl) (fun _ _ _ h => h) (Or.inl ⟨by rfl, fun w' hS => by go_simp⟩) HS1.out ?_
         try simp only [Act.put, List.setIfInBounds_toArray, List.set_cons_zero, List.set_cons_succ]
         refine wpAnyH_take (i := 1) (oi := ⟨some 75, _, _, _, _, _⟩) (v := .pointer (some ⟨w.heap.size, 0, none⟩)) rfl (by kernel_rfl) (by kernel_rfl) (by kernel_rfl) (fun _ _ _ h => h) (Or.inl ⟨by rfl, fun w' hS => by go_simp⟩) HS1.out ?_
         try simp only [Act.put, List.setIfInBounds_toArray, List.set_cons_zero, List.set_cons_succ]
         refine wpAnyH_take (i := 2) (oi := ⟨some 76, _, _, _, _, _⟩) (v := .slice A L.length c) rfl (by kernel_rfl) (by kernel_rfl) (by kernel_rfl) (fun _ _ _ h => h) (Or.inl ⟨by rfl, fun w' hS => by (have u0_ := hS.1 0 _ rfl; go_simp)⟩) HS1.out ?_
         try simp only [Act.put, List.setIfInBounds_toArray, List.set_cons_zero, List.set_cons_succ]
         refine wpAnyH_take (i := 3) (oi := ⟨some 77, _, _, _, _, _⟩) (v := .int .i64 L.length) rfl (by kernel_rfl) (by kernel_rfl) (by kernel_rfl) (fun _ _ _ h => h) (Or.inl ⟨by rfl, fun w' hS => by go_simp⟩) HS1.out ?_
         try simp only [Act.put, List.setIfInBounds_toArray, List.set_cons_zero, List.set_cons_succ]
         refine wpAnyH_take (i := 4) (oi := ⟨some 78, _, _, _, _, _⟩) (v := .bool false) rfl (by kernel_rfl) (by kernel_rfl) (by kernel_rfl) (fun _ _ _ h => h) (Or.inl ⟨by rfl, fun w' hS => by go_simp⟩) HS1.out ?_
         try simp only [Act.put, List.setIfInBounds_toArray, List.set_cons_zero, List.set_cons_succ]
         refine wpAnyH_take (i := 5) (oi := ⟨some 79, _, _, _, _, _⟩) (v := .bool false) rfl (by kernel_rfl) (by kernel_rfl) (by kernel_rfl) (fun _ _ _ h => h) (Or.inl ⟨by rfl, fun w' hS => by go_simp⟩) HS1.out ?_
         try simp only [Act.put, List.setIfInBounds_toArray, List.set_cons_zero, List.set_cons_succ]
         refine wpAnyH_take (i := 6) (oi := ⟨some 80, _, _, _, _, _⟩) (v := undef) rfl (by kernel_rfl) (by kernel_rfl) (by kernel_rfl) (fun _ _ _ h => h) (Or.inr ⟨by rfl, rfl⟩) HS1.out ?_
         try simp only [Act.put, List.setIfInBounds_toArray, List.set_cons_zero, List.set_cons_succ]
         refine wpAnyH_take (i := 7) (oi := ⟨some 81, _, _, _, _, _⟩) (v := undef) rfl (by kernel_rfl) (by kernel_rfl) (by kernel_rfl) (fun _ _ _ h => h) (Or.inr ⟨by rfl, rfl⟩) HS1.out ?_
         try simp only [Act.put, List.setIfInBounds_toArray, List.set_cons_zero, List.set_cons_succ]
         refine wpAnyH_take (i := 8) (oi := ⟨some 82, _, _, _, _, _⟩) (v := undef) rfl (by kernel_rfl) (by kernel_rfl) (by kernel_rfl) (fun _ _ _ h => h) (Or.inr ⟨by rfl, rfl⟩) HS1.out ?_
         try simp only [Act.put, List.setIfInBounds_toArray, List.set_cons_zero, List.set_cons_succ]
         refine wpAnyH_take (i := 9) (oi := ⟨some 83, _, _, _, _, _⟩) (v := undef) rfl (by kernel_rfl) (by kernel_rfl) (by kernel_rfl) (fun _ _ _ h => h) (Or.inr ⟨by rfl, rfl⟩) HS1.out ?_
         try simp only [Act.put, List.setIfInBounds_toArray, List.set_cons_zero, List.set_cons_succ]
         refine wpAnyH_take (i := 10) (oi := ⟨some 84, _, _, _, _, _⟩) (v := undef) rfl (by kernel_rfl) (by kernel_rfl) (by kernel_rfl) (fun _ _ _ h => h) (Or.inr ⟨by rfl, rfl⟩) HS1.out ?_
         try simp only [Act.put, List.setIfInBounds_toArray, List.set_cons_zero, List.set_cons_succ]
         refine wpAnyH_take (i := 11) (oi := ⟨some 85, _, _, _, _, _⟩) (v := undef) rfl (by kernel_rfl) (by kernel_rfl) (by kernel_rfl) (fun _ _ _ h => h) (Or.inr ⟨by rfl, rfl⟩) HS1.out ?_
         try simp only [Act.put, List.setIfInBounds_toArray, List.set_cons_zero, List.set_cons_succ]
         refine wpAnyH_take (i := 12) (oi := ⟨some 86, _, _, _, _, _⟩) (v := undef) rfl (by kernel_rfl) (by kernel_rfl) (by kernel_rfl) (fun _ _ _ h => h) (Or.inr ⟨by rfl, rfl⟩) HS1.out ?_
         try simp only [Act.put, List.setIfInBounds_toArray, List.set_cons_zero, List.set_cons_succ]
         refine wpAnyH_take (i := 13) (oi := ⟨some 87, _, _, _, _, _⟩) (v := undef) rfl (by kernel_rfl) (by kernel_rfl) (by kernel_rfl) (fun _ _ _ h => h) (Or.inr ⟨by rfl, rfl⟩) HS1.out ?_
         try simp only [Act.put, List.setIfInBounds_toArray, List.set_cons_zero, List.set_cons_succ]
         refine wpAnyH_take (i := 14) (oi := ⟨some 88, _, _, _, _, _⟩) (v := undef) rfl (by kernel_rfl) (by kernel_rfl) (by kernel_rfl) (fun _ _ _ h => h) (Or.inr ⟨by rfl, rfl⟩) HS1.out ?_
         try simp only [Act.put, List.setIfInBounds_toArray, List.set_cons_zero, List.set_cons_succ]
         refine wpAnyH_take (i := 15) (oi := ⟨some 89, _, _, _, _, _⟩) (v := undef) rfl (by kernel_rfl) (by kernel_rfl) (by kernel_rfl) (fun _ _ _ h => h) (Or.inr ⟨by rfl, rfl⟩) HS1.out ?_
         try simp only [Act.put, List.setIfInBounds_toArray, List.set_cons_zero, List.set_cons_succ]
         refine wpAnyH_take (i := 16) (oi := ⟨some 90, _, _, _, _, _⟩) (v := undef) rfl (by kernel_rfl) (by kernel_rfl) (by kernel_rfl) (fun _ _ _ h => h) (Or.inr ⟨by rfl, rfl⟩) HS1.out ?_
         try simp only [Act.put, List.setIfInBounds_toArray, List.set_cons_zero, List.set_cons_succ]
         refine wpAnyH_take (i := 17) (oi := ⟨some 91, _, _, _, _, _⟩) (v := .bool false) rfl (by kernel_rfl) (by kernel_rfl) (by kernel_rfl) (fun _ _ _ h => h) (Or.inl ⟨by rfl, fun w' hS => by go_simp⟩) HS1.out ?_
         try simp only [Act.put, List.setIfInBounds_toArray, List.set_cons_zero, List.set_cons_succ]
         refine wpAnyH_take (i := 18) (oi := ⟨some 73, _, _, _, _, _⟩) (v := .bool false) rfl (by kernel_rfl) (by kernel_rfl) (by kernel_rfl) (fun _ _ _ h => h) (Or.inl ⟨by rfl, fun w' hS => by go_simp⟩) HS1.out ?_
         try simp only [Act.put, List.setIfInBounds_toArray, List.set_cons_zero, List.set_cons_succ]
         refine wpAnyH_done (by kernel_rfl) ?_ _
         go_wp2_with fail
         go_meet
         exact ⟨by rw [HSA.out], below_drewN_self _ _ 1⟩
       case rest =>
       obtain ⟨rfl, hq⟩ := hcut
       have hbq := hq.out
       clear hq
       clear ct0 cr0 cfr co0
       have HSwc := Lib.hid (show w11.heap.size ≤ wc.heap.size from hbq.size)
       have HBwc := Lib.hid (HBw11.out.trans (hbq.mono HBw11.out.size))
       have twc := Lib.hid (tw11.out.kept (grown_none hbq) (fun e => by cases e))
       have pwc := Lib.hid (pw11.out.kept (grown_none hbq) (fun e => by cases e))
       have rwc := Lib.hid (rw11.out.kept (grown_none hbq) (fun e => by cases e))
       have vwc := Lib.hid (vw11.out.kept (grown_none hbq) (fun e => by cases e))
       have owc := Lib.hid (ow11.out.kept (grown_none hbq) (fun e => by cases e))
       have HMOwc := Lib.hid (HMOw11.out.next hbq)
       clear hbq
       have ct0 := twc.out.1 0 _ rfl
       have cp0 := pwc.out.1 0 _ rfl
       have cp1 := pwc.out.1 1 _ rfl
       have cp2 := pwc.out.1 2 _ rfl
       have cp3 := pwc.out.1 3 _ rfl
       have cp4 := pwc.out.1 4 _ rfl
       have cp5 := pwc.out.1 5 _ rfl
       have cp6 := pwc.out.1 6 _ rfl
       have cp7 := pwc.out.1 7 _ rfl
       have cp8 := pwc.out.1 8 _ rfl
       have cp9 := pwc.out.1 9 _ rfl
       have cr0 := rwc.out.1 0 _ rfl
       have cfr := rwc.out.2.1
       cases hsa : sameAt L d with
       | true =>
        have HSA := Lib.hid hsa; clear hsa
        have HE := Lib.hid (show progE L d = 44 by unfold progE; rw [if_neg (by rw [HC.out]; decide), if_neg (by rw [HTK.out]; decide), if_neg HP.out, if_neg HL.out, if_neg (by have := H7.out; omega), if_pos (by show (sameAt L d || clashesB L d) = true; rw [HSA.out]; rfl)])
        exact absurd (HE.out.symm.trans HPE.out) (by decide)
       | false =>
        have HSA := Lib.hid hsa; clear hsa
        go_wp2_with fail
        refine (clashes_any A c L d A2 c2 _ B (Nat.le_trans HB.out HBwc.out.size) (HX.out.keep (HBwc.out.mono HB.out)) (fun x hx => by have := (HVS.out x hx).1; omega) (by have := valid_size HDS.out; omega) (HOK.out.next HBwc.out)).mono ?_
        rintro e w12 ⟨rfl, hbw12⟩
        clear ct0 cp0 cp1 cp2 cp3 cp4 cp5 cp6 cp7 cp8 cp9 cr0 cfr
        have HSw12 := Lib.hid (show wc.heap.size ≤ w12.heap.size from hbw12.size)
        have HBw12 := Lib.hid (HBwc.out.trans (hbw12.mono HBwc.out.size))
        have tw12 := Lib.hid (twc.out.kept (grown_none hbw12) (fun e => by cases e))
        have pw12 := Lib.hid (pwc.out.kept (grown_none hbw12) (fun e => by cases e))
        have rw12 := Lib.hid (rwc.out.kept (grown_none hbw12) (fun e => by cases e))
        have vw12 := Lib.hid (vwc.out.kept (grown_none hbw12) (fun e => by cases e))
        have ow12 := Lib.hid (owc.out.kept (grown_none hbw12) (fun e => by cases e))
        have HMOw12 := Lib.hid (HMOwc.out.next hbw12)
        clear hbw12
        have ct0 := tw12.out.1 0 _ rfl
        have cr0 := rw12.out.1 0 _ rfl
        have cfr := rw12.out.2.1
        cases hcl : clashesB L d with
        | true =>
         have HCL := Lib.hid hcl; clear hcl
         have HE := Lib.hid (show progE L d = 44 by unfold progE; rw [if_neg (by rw [HC.out]; decide), if_neg (by rw [HTK.out]; decide), if_neg HP.out, if_neg HL.out, if_neg (by have := H7.out; omega), if_pos (by show (sameAt L d || clashesB L d) = true; rw [HSA.out, HCL.out]; rfl)])
         exact absurd (HE.out.symm.trans HPE.out) (by decide)
        | false =>
         clear ct0 cr0 cfr
         have HLA := Lib.hid (show ∀ x ∈ L, x.attrs.length ≤ 1000000 from fun x hx => attrs_le (HVT.out.chk x hx)); have HDA := Lib.hid (attrs_le HC.out)
         go_upto_region 21 with fail
         refine wp_region_held_drew (S := fun w' => BoxL w' w.heap.size [.slice A L.length c] ∧ BoxL w' w1.heap.size [.int .i64 d.idx, .int .i64 d.par, .string d.nm, .string d.orig, .string d.sub, .string d.drv, .string d.ali, .int .i64 d.kind, .int .i64 d.num, .slice A2 d.attrs.length c2]) (by kernel_rfl) ⟨tw12.out.drew, pw12.out.drew⟩ (fun hS0 => ?_)
         obtain ⟨wd, hwd⟩ : ∃ z, World.drew w12 = z := ⟨_, rfl⟩
         rw [hwd] at hS0 ⊢
         have hbd : Below w12.heap.size w12 wd := by rw [← hwd]; exact below_drewN_self _ _ 1
         clear hwd
         have HS1 := Lib.hid hS0; clear hS0
         have HSwd := Lib.hid (show w12.heap.size ≤ wd.heap.size from hbd.size)
         have HBwd := Lib.hid (HBw12.out.trans (hbd.mono HBw12.out.size))
         have twd := Lib.hid (tw12.out.kept (grown_none hbd) (fun e => by cases e))
         have pwd := Lib.hid (pw12.out.kept (grown_none hbd) (fun e => by cases e))
         have rwd := Lib.hid (rw12.out.kept (grown_none hbd) (fun e => by cases e))
         have vwd := Lib.hid (vw12.out.kept (grown_none hbd) (fun e => by cases e))
         have owd := Lib.hid (ow12.out.kept (grown_none hbd) (fun e => by cases e))
         have HMOwd := Lib.hid (HMOw12.out.next hbd)
         clear hbd
         have HRD9 := Lib.hid (rwd.out.2.2)
         refine wpAnyH_take (i := 0) (oi := ⟨some 97, _, _, _, _, _⟩) (v := .pointer (some ⟨w.heap.size, 0, none⟩)) rfl (by kernel_rfl) (by kernel_rfl) (by kernel_rfl) (fun _ _ _ h => h) (Or.inl ⟨by rfl, fun w' hS => by go_simp⟩) HS1.out ?_
         try simp only [Act.put, List.setIfInBounds_toArray, List.set_cons_zero, List.set_cons_succ]
         refine wpAnyH_take (i := 1) (oi := ⟨some 98, _, _, _, _, _⟩) (v := .slice A L.length c) rfl (by kernel_rfl) (by kernel_rfl) (by kernel_rfl) (fun _ _ _ h => h) (Or.inl ⟨by rfl, fun w' hS => by (have u0_ := hS.1.1 0 _ rfl; go_simp)⟩) HS1.out ?_
         try simp only [Act.put, List.setIfInBounds_toArray, List.set_cons_zero, List.set_cons_succ]
         refine wpAnyH_take (i := 3) (oi := ⟨some 100, _, _, _, _, _⟩) (v := .int .i64 m) rfl (by kernel_rfl) (by kernel_rfl) (by kernel_rfl) (fun _ _ _ h => h) (Or.inl ⟨by rfl, fun w' hS => by go_simp⟩) HS1.out ?_
         try simp only [Act.put, List.setIfInBounds_toArray, List.set_cons_zero, List.set_cons_succ]
         refine wpAnyH_take (i := 4) (oi := ⟨some 101, _, _, _, _, _⟩) (v := .agg #[.int .i64 d.idx, .int .i64 d.par, .string d.nm, .string d.orig, .string d.sub, .string d.drv, .string d.ali, .int .i64 d.kind, .int .i64 d.num, .slice A2 d.attrs.length c2]) rfl (by kernel_rfl) (by kernel_rfl) (by kernel_rfl) (fun _ _ _ h => h) (Or.inl ⟨by rfl, fun w' hS => by (have u0_ := hS.2.1 0 _ rfl; have u1_ := hS.2.1 1 _ rfl; have u2_ := hS.2.1 2 _ rfl; have u3_ := hS.2.1 3 _ rfl; have u4_ := hS.2.1 4 _ rfl; have u5_ := hS.2.1 5 _ rfl; have u6_ := hS.2.1 6 _ rfl; have u7_ := hS.2.1 7 _ rfl; have u8_ := hS.2.1 8 _ rfl; have u9_ := hS.2.1 9 _ rfl; go_simp)⟩) HS1.out ?_
         try simp only [Act.put, List.setIfInBounds_toArray, List.set_cons_zero, List.set_cons_succ]
         refine wpAnyH_ready (rs := [2]) (by kernel_rfl) (by simp) ?_
         refine AllReadyH.cons (o := ⟨some 99, .call ⟨_, _, _⟩, _, _, _, _⟩) rfl (fun K hK => ?_) AllReadyH.nil
         go_simp
         go_at_call 57
         have hc_ := copies_any A c L wd B (Nat.le_trans HB.out HBwd.out.size) (HX.out.keep (HBwd.out.mono HB.out)) (by have := HVL.out; omega) HLA.out
         rw [filter_any] at hc_
         refine hc_.mono ?_
         clear hc_
         rintro e' q1 ⟨hb_, v, rfl, hown_⟩
         have HOWN := Lib.hid hown_; clear hown_
         have HSQ1 := Lib.hid (show (BoxL q1 w.heap.size [.slice A L.length c] ∧ BoxL q1 w1.heap.size [.int .i64 d.idx, .int .i64 d.par, .string d.nm, .string d.orig, .string d.sub, .string d.drv, .string d.ali, .int .i64 d.kind, .int .i64 d.num, .slice A2 d.attrs.length c2]) from ⟨HS1.out.1.kept (grown_none hb_) (fun e => by cases e), HS1.out.2.kept (grown_none hb_) (fun e => by cases e)⟩)
         have hbq_ := hb_
         have HSq1 := Lib.hid (show wd.heap.size ≤ q1.heap.size from hbq_.size)
         have HBq1 := Lib.hid (HBwd.out.trans (hbq_.mono HBwd.out.size))
         have tq1 := Lib.hid (twd.out.kept (grown_none hbq_) (fun e => by cases e))
         have pq1 := Lib.hid (pwd.out.kept (grown_none hbq_) (fun e => by cases e))
         have rq1 := Lib.hid (rwd.out.kept (grown_none hbq_) (fun e => by cases e))
         have vq1 := Lib.hid (vwd.out.kept (grown_none hbq_) (fun e => by cases e))
         have oq1 := Lib.hid (owd.out.kept (grown_none hbq_) (fun e => by cases e))
         have HMOq1 := Lib.hid (HMOwd.out.next hbq_)
         clear hbq_ hb_
         have HLV := Lib.hid HOWN.out.lt
         refine hK.out _ _ HSQ1.out (fun _ => ?_)
         clear hK K
         try simp only [Act.put, List.setIfInBounds_toArray, List.set_cons_zero, List.set_cons_succ]
         refine wpAnyH_ready (rs := [5]) (by kernel_rfl) (by simp) ?_
         refine AllReadyH.cons (o := ⟨some 102, .call ⟨_, _, _⟩, _, _, _, _⟩) rfl (fun K hK => ?_) AllReadyH.nil
         go_simp
         go_at_call 58
         refine (copied_any d A2 c2 q1 B (Nat.le_trans HB.out HBq1.out.size) (HA.out.keep (HBq1.out.mono HB.out)) HDA.out).mono ?_
         rintro e' q2 ⟨hb_, A4, c4, rfl, hsl_⟩
         have HSL := Lib.hid hsl_; clear hsl_
         have HOWN2 := Lib.hid (HOWN.out.below hb_)
         have HSQ2 := Lib.hid (show (BoxL q2 w.heap.size [.slice A L.length c] ∧ BoxL q2 w1.heap.size [.int .i64 d.idx, .int .i64 d.par, .string d.nm, .string d.orig, .string d.sub, .string d.drv, .string d.ali, .int .i64 d.kind, .int .i64 d.num, .slice A2 d.attrs.length c2]) from ⟨HSQ1.out.1.kept (grown_none hb_) (fun e => by cases e), HSQ1.out.2.kept (grown_none hb_) (fun e => by cases e)⟩)
         have hbq_ := hb_
         have HSq2 := Lib.hid (show q1.heap.size ≤ q2.heap.size from hbq_.size)
         have HBq2 := Lib.hid (HBq1.out.trans (hbq_.mono HBq1.out.size))
         have tq2 := Lib.hid (tq1.out.kept (grown_none hbq_) (fun e => by cases e))
         have pq2 := Lib.hid (pq1.out.kept (grown_none hbq_) (fun e => by cases e))
         have rq2 := Lib.hid (rq1.out.kept (grown_none hbq_) (fun e => by cases e))
         have vq2 := Lib.hid (vq1.out.kept (grown_none hbq_) (fun e => by cases e))
         have oq2 := Lib.hid (oq1.out.kept (grown_none hbq_) (fun e => by cases e))
         have HMOq2 := Lib.hid (HMOq1.out.next hbq_)
         clear hbq_ hb_
         refine hK.out _ _ HSQ2.out (fun _ => ?_)
         clear hK K
         try simp only [Act.put, List.setIfInBounds_toArray, List.set_cons_zero, List.set_cons_succ]
         refine wpAnyH_ready (rs := [6]) (by kernel_rfl) (by simp) ?_
         refine AllReadyH.cons (o := ⟨some 103, .buildSlice _ _ _, _, _, _, _⟩) rfl (fun K hK => ?_) AllReadyH.nil
         go_simp
         obtain ⟨q3, hq3⟩ : ∃ z, q2.alloc (.cells #[.int .i64 d.idx, .int .i64 d.par, .string d.nm, .string d.orig, .string d.sub, .string d.drv, .string d.ali, .int .i64 d.kind, .int .i64 d.num, .slice A4 d.attrs.length c4] 43) = z := ⟨_, rfl⟩
         have hb_ : Below q2.heap.size q2 q3 := by rw [← hq3]; exact (Below.refl _ _).alloc (Nat.le_refl _) _
         have HGA := Lib.hid (show q3.heap.size = q2.heap.size + 1 by rw [← hq3]; simp)
         have HNEW := Lib.hid (show q3.heap[q2.heap.size]? = some (.cells (devCells d A4 c4).toArray 43 (0, 0)) by rw [← hq3]; exact heap_new _ _)
         try rw [hq3]
         clear hq3
         have HSL2 := Lib.hid (HSL.out.below hb_ (fun x hx => hx.2)); have HOWN3 := Lib.hid (HOWN2.out.below hb_); have HSQ3 := Lib.hid (show (BoxL q3 w.heap.size [.slice A L.length c] ∧ BoxL q3 w1.heap.size [.int .i64 d.idx, .int .i64 d.par, .string d.nm, .string d.orig, .string d.sub, .string d.drv, .string d.ali, .int .i64 d.kind, .int .i64 d.num, .slice A2 d.attrs.length c2]) from ⟨HSQ2.out.1.kept (grown_none hb_) (fun e => by cases e), HSQ2.out.2.kept (grown_none hb_) (fun e => by cases e)⟩)
         have hbq_ := hb_
         have HSq3 := Lib.hid (show q2.heap.size ≤ q3.heap.size from hbq_.size)
         have HBq3 := Lib.hid (HBq2.out.trans (hbq_.mono HBq2.out.size))
         have tq3 := Lib.hid (tq2.out.kept (grown_none hbq_) (fun e => by cases e))
         have pq3 := Lib.hid (pq2.out.kept (grown_none hbq_) (fun e => by cases e))
         have rq3 := Lib.hid (rq2.out.kept (grown_none hbq_) (fun e => by cases e))
         have vq3 := Lib.hid (vq2.out.kept (grown_none hbq_) (fun e => by cases e))
         have oq3 := Lib.hid (oq2.out.kept (grown_none hbq_) (fun e => by cases e))
         have HMOq3 := Lib.hid (HMOq2.out.next hbq_)
         clear hbq_ hb_
         refine hK.out _ _ HSQ3.out (fun _ => ?_)
         clear hK K
         try simp only [Act.put, List.setIfInBounds_toArray, List.set_cons_zero, List.set_cons_succ]
         have HRD := Lib.hid (show RepS.rdS q3 (fun b => wd.heap.size ≤ b ∧ b < q3.heap.size ∧ v.ownBlock ≠ some b) d (devCells d A4 c4) from ⟨A4, c4, rfl, HD.out, (HSL2.out).mono (fun b hb => ⟨by have := hb.1; have := HSq1.out; omega, by have := hb.2; have := HGA.out; omega, fun e => by have h1 := (HLV.out b e).2; have h2 := hb.1; omega⟩) (fun _ _ _ _ hu => hu)⟩)
         refine wpAnyH_ready (rs := [7]) (by kernel_rfl) (by simp) ?_
         refine AllReadyH.cons (o := ⟨some 104, .call ⟨_, _, _⟩, _, _, _, _⟩) rfl (fun K hK => ?_) AllReadyH.nil
         go_simp
         go_at_call 64
         refine (SlInsert_any (fun b => wd.heap.size ≤ b) wd.heap.size v L m d (devCells d A4 c4) q2.heap.size q3 HOWN3.out HATL.out (by have := HVL.out; omega) (fun e => by have h1 := (HLV.out _ e).2; have := HSq2.out; omega) HNEW.out HRD.out (by have := HSq1.out; have := HSq2.out; have := HSq3.out; omega)).mono ?_
         rintro e' q4 ⟨v2, rfl, ho_, hg_⟩
         obtain ⟨nl, hnl⟩ : ∃ z, L.take m ++ d :: L.drop m = z := ⟨_, rfl⟩
         rw [hnl] at ho_
         have HNL := Lib.hid hnl; clear hnl
         obtain ⟨A9, c9, hv9, -⟩ := ho_.cs
         have HO4 := Lib.hid ho_; have HG4 := Lib.hid hg_; have HV9 := Lib.hid hv9
         have hsz9 : w2.heap.size < wd.heap.size := HRD9.out
         have hszt : w.heap.size < wd.heap.size := HS1.out.1.2.2
         have hszp : w1.heap.size < wd.heap.size := HS1.out.2.2.2
         have HNO := Lib.hid (show ∀ k, k < wd.heap.size → some k ≠ v.ownBlock from fun k hk e => by have := (HLV.out k e.symm).1; omega)
         have HB4 := Lib.hid (show Below w.heap.size w q4 from HBq3.out.grown hg_ HBq3.out.size (fun k hk => by have := (HLV.out k hk).1; have := HSwd.out; have := HBw12.out.size; omega))
         have HSQ4 := Lib.hid (show (BoxL q4 w.heap.size [.slice A L.length c] ∧ BoxL q4 w1.heap.size [.int .i64 d.idx, .int .i64 d.par, .string d.nm, .string d.orig, .string d.sub, .string d.drv, .string d.ali, .int .i64 d.kind, .int .i64 d.num, .slice A2 d.attrs.length c2]) from ⟨HSQ3.out.1.kept hg_ (HNO.out _ hszt), HSQ3.out.2.kept hg_ (HNO.out _ hszp)⟩)
         have HR4 := Lib.hid (rq3.out.kept hg_ (HNO.out _ hsz9))
         clear ho_ hg_ hv9 hszt hszp
         refine hK.out _ _ HSQ4.out (fun _ => ?_)
         clear hK K
         try simp only [Act.put, List.setIfInBounds_toArray, List.set_cons_zero, List.set_cons_succ]
         have hv9 := HV9.out
         subst hv9
         refine wpAnyH_take (i := 8) (oi := ⟨some 105, _, _, _, _, _⟩) (v := .agg #[.slice A9 nl.length c9]) rfl (by kernel_rfl) (by kernel_rfl) (by kernel_rfl) (fun _ _ _ h => h) (Or.inl ⟨by rfl, fun w' hS => by go_simp⟩) HSQ4.out ?_
         try simp only [Act.put, List.setIfInBounds_toArray, List.set_cons_zero, List.set_cons_succ]
         refine wpAnyH_ready (rs := [9]) (by kernel_rfl) (by simp) ?_
         refine AllReadyH.cons (o := ⟨none, .store _ _ _, _, _, _, _⟩) rfl (fun K hK => ?_) AllReadyH.nil
         have u0_ := HR4.out.1 0 _ rfl; have uf_ := HR4.out.2.1
         go_simp
         have hgs := grown_one q4 w2.heap.size 0 (.slice A9 nl.length c9)
         have hbr := HR4.out.set_ (j := 0) (by simp) (.slice A9 nl.length c9)
         obtain ⟨q5, hq5⟩ : ∃ z, q4.setCell ⟨w2.heap.size, 0, none⟩ (.slice A9 nl.length c9) = z := ⟨_, rfl⟩
         rw [hq5] at hgs hbr ⊢
         clear hq5
         have HR5 := Lib.hid (show BoxL q5 w2.heap.size [.slice A9 nl.length c9] from hbr)
         have HO5 := Lib.hid (HO4.out.grownb hgs (fun x (hx : wd.heap.size ≤ x) => by omega) hsz9)
         have HB5 := Lib.hid (show Below w.heap.size w q5 from HB4.out.grown hgs HB4.out.size (fun q hq => by have := Option.some.inj hq; have := HGw1.out; have := HGw2.out; omega))
         have HSQ5 := Lib.hid (show (BoxL q5 w.heap.size [.slice A L.length c] ∧ BoxL q5 w1.heap.size [.int .i64 d.idx, .int .i64 d.par, .string d.nm, .string d.orig, .string d.sub, .string d.drv, .string d.ali, .int .i64 d.kind, .int .i64 d.num, .slice A2 d.attrs.length c2]) from ⟨HSQ4.out.1.kept hgs (fun e => by have := Option.some.inj e; have := HGw1.out; have := HGw2.out; omega), HSQ4.out.2.kept hgs (fun e => by have := Option.some.inj e; have := HGw1.out; have := HGw2.out; omega)⟩)
         clear hgs hbr
         refine hK.out _ _ HSQ5.out (fun _ => ?_)
         clear hK K
         try simp only [Act.put, List.setIfInBounds_toArray, List.set_cons_zero, List.set_cons_succ]
         refine wpAnyH_take (i := 10) (oi := ⟨some 5, _, _, _, _, _⟩) (v := .int .i64 0) rfl (by kernel_rfl) (by kernel_rfl) (by kernel_rfl) (fun _ _ _ h => h) (Or.inl ⟨by rfl, fun w' hS => by go_simp⟩) HSQ5.out ?_
         try simp only [Act.put, List.setIfInBounds_toArray, List.set_cons_zero, List.set_cons_succ]
         refine wpAnyH_done (by kernel_rfl) ?_ _
         have u9_ := HR5.out.1 0 _ rfl
         go_wp2
         refine bodyPost_ret (v := .tuple #[.agg #[.slice A9 nl.length c9], .int .i64 0]) (by simp [results, Tryz.results32, go_sem, u9_]) rfl (InsG.mk HB5.out (by try rfl) ?_)
         rw [show insL L d = nl by unfold insL; rw [← at_same HVT.out HDS.out, HM.out]; exact HNL.out]
         exact (HO5.out.wide (fun b (hb : wd.heap.size ≤ b) => by have := HSwd.out; have := HBw12.out.size; show w.heap.size ≤ b; omega)).low (by have := HSwd.out; have := HBw12.out.size; omega)
 ·
  have ec : (checkD d != 0) = true := by simpa using hc
  have HC := Lib.hid hc; clear hc
  have HE := Lib.hid (show progE L d = 41 by unfold progE; rw [if_pos HC.out])
  exact absurd (HE.out.symm.trans HPE.out) (by decide)
end Go.Proofs.YtehmidmoiamcfaaGreatDoor
namespace Go.Cold
open Go Go.RowKit
end Go.Cold
namespace Go.Proofs.YtehmidmoiamcfaaGreatDoor
open Go.RowKit Go.Cold
end Go.Proofs.YtehmidmoiamcfaaGreatDoor
