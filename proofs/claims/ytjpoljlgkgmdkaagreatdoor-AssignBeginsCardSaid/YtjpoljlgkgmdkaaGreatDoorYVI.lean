/-
  The walk of the editor's method assign of package assign.
-/
import Derived.Test.YtjpoljlgkgmdkaaGreatDoorYVH
import Derived.Test.YtjpoljlgkgmdkaaGreatDoorYVD
import Derived.Test.YtjpoljlgkgmdkaaGreatDoorYN
import Derived.Test.YtjpoljlgkgmdkaaGreatDoorYVC
import Derived.Test.YtjpoljlgkgmdkaaGreatDoorYC
set_option linter.unusedSimpArgs false
set_option linter.unusedVariables false
namespace Go.Proofs.YtjpoljlgkgmdkaaGreatDoor
open Go.RowKit Go.Cold
set_option maxRecDepth 100000 in
set_option maxHeartbeats 8000000 in
theorem assign_any (P : Nat → Prop) (base X : Nat) (d : Draft) (t : Term4) (v : ByteArray) (w : World) (he : EdQ 53 9 35 P w base X d) (hen : Env P w) (hpd : PreD d) (ht : okT t) (htag : t.key = 7 → t.op = 3 ∨ t.op = 4 ∨ t.op = 5) (hv : v.size ≤ 1000) :
  Calls Tryz.prog 36 #[.pointer (some ⟨X, 0, none⟩), .agg #[.int .i64 t.key, .string t.nm, .int .i64 t.op, .string t.val], .string v] w (EPost 53 9 35 P base X (asgD d t v) w) := by
 obtain ⟨h, ho_⟩ := he.open
 have HO := Lib.hid ho_
 have HPD := Lib.hid hpd
 have HT := Lib.hid ht
 have HTAG := Lib.hid htag
 have HV := Lib.hid hv
 have HEN := Lib.hid hen
 clear he ho_ hpd ht htag hv hen
 go_enter Tryz.func36, Tryz.ntmps36
 have HSD := Lib.hid HPD.out.snd; have HOKD := Lib.hid HPD.out.ok; have HT1 := Lib.hid HT.out.2.1; have HVM := Lib.hid (show v.size ≤ maxLen by have := HV.out; unfold maxLen; omega)
 go_upto_region 1 with fail
 obtain ⟨w1, hw1⟩ : ∃ w1, w.alloc (.cells #[.int .i64 t.key, .string t.nm, .int .i64 t.op, .string t.val] 35) = w1 := ⟨_, rfl⟩
 have hbw1 : Below w.heap.size w w1 := by rw [← hw1]; exact (Below.refl _ _).alloc (Nat.le_refl _) _
 have HGw1 := Lib.hid (show w1.heap.size = w.heap.size + 1 by rw [← hw1]; simp)
 have HXtw1 := Lib.hid (show BoxL w1 w.heap.size [.int .i64 t.key, .string t.nm, .int .i64 t.op, .string t.val] from box_mk hw1)
 try simp only [hw1]
 have HSw1 := Lib.hid (show w.heap.size ≤ w1.heap.size from hbw1.size)
 have HBw1 := Lib.hid hbw1
 have HOw1 := Lib.hid (EdO.below HO.out hbw1)
 clear hw1 hbw1
 try rw [show w.heap.size + 1 = w1.heap.size from HGw1.out.symm]
 by_cases k6 : t.key = 6
 ·
  have e6 : (t.key == 6) = true := by rw [k6]; rfl
  by_cases o4 : t.op = 4
  ·
   have oe4 : (t.op == 4) = true := by rw [o4]; rfl
   have HEQ := Lib.hid (show asgD d t v = moreD d t.nm v from asgD_more HSD.out.pg t v k6 o4)
   have ct0 := HXtw1.out.1 0 _ rfl
   have ct1 := HXtw1.out.1 1 _ rfl
   have ct2 := HXtw1.out.1 2 _ rfl
   go_wp2_with fail
   refine (more_any P base X d t.nm v _ HOw1.out.kq.2 HSD.out.ps (by have := HSD.out.pl; omega) HSD.out.pg HT1.out HV.out).mono ?_
   rintro e w9 ⟨rfl, hk_⟩
   have HFIN := Lib.hid (EdO.seq HOw1.out hk_)
   clear hk_
   clear ct0 ct1 ct2
   go_wp2
   go_end0
   exact ⟨rfl, by rw [HEQ.out]; exact HFIN.out⟩
  ·
   have oe4 : (t.op == 4) = false := by simpa using o4
   have HEQ := Lib.hid (asgD_env (d := d) t v k6 o4)
   have ct0 := HXtw1.out.1 0 _ rfl
   have ct1 := HXtw1.out.1 1 _ rfl
   have ct2 := HXtw1.out.1 2 _ rfl
   go_wp2_with fail
   refine (env_any P base X d t.nm v _ HOw1.out.kq.2 HSD.out.ps (by have := HSD.out.pl; omega) HT1.out (by have := HV.out; unfold maxLen; omega)).mono ?_
   rintro e w9 ⟨rfl, hk_⟩
   have HFIN := Lib.hid (EdO.seq HOw1.out hk_)
   clear hk_
   clear ct0 ct1 ct2
   go_wp2
   go_end0
   exact ⟨rfl, by rw [HEQ.out]; exact HFIN.out⟩
 ·
  have e6 : (t.key == 6) = false := by simpa using k6
  by_cases k7 : t.key = 7
  ·
   have e7 : (t.key == 7) = true := by rw [k7]; rfl
   have HEQ := Lib.hid (show asgD d t v = tagD d t.op v from asg_7 k7)
   have ct0 := HXtw1.out.1 0 _ rfl
   have ct1 := HXtw1.out.1 1 _ rfl
   have ct2 := HXtw1.out.1 2 _ rfl
   go_wp2_with fail
   refine (tag_any P base X d t.op v _ HOw1.out.kq.2 HSD.out.ts (by have := HSD.out.tl; omega) (by have := HV.out; unfold maxLen; omega) (HTAG.out k7)).mono ?_
   rintro e w9 ⟨rfl, hk_⟩
   have HFIN := Lib.hid (EdO.seq HOw1.out hk_)
   clear hk_
   clear ct0 ct1 ct2
   go_wp2
   go_end0
   exact ⟨rfl, by rw [HEQ.out]; exact HFIN.out⟩
  ·
   have e7 : (t.key == 7) = false := by simpa using k7
   by_cases k15 : t.key = 15
   ·
    have e15 : (t.key == 15) = true := by rw [k15]; rfl
    have HEQ0 := Lib.hid (asg_15 (d := d) (v := v) k15)
    have ct0 := HXtw1.out.1 0 _ rfl
    go_wp2_with fail
    refine (Interface_any v _ (by have := HV.out; unfold maxLen; omega)).mono ?_
    rintro e w2 ⟨rfl, hbw2⟩
    clear ct0
    have HSw2 := Lib.hid (show w1.heap.size ≤ w2.heap.size from hbw2.size)
    have HBw2 := Lib.hid (HBw1.out.trans (hbw2.mono HBw1.out.size))
    have tw2 := Lib.hid (HXtw1.out.kept (grown_none hbw2) (fun e => by cases e))
    have HOw2 := Lib.hid (EdO.below HOw1.out hbw2)
    clear hbw2
    obtain ⟨bv, h_⟩ : ∃ z, ifaceB v = z := ⟨_, rfl⟩
    rw [h_]
    have HBV := Lib.hid h_; clear h_
    cases bv
    case false =>
     have HEQ := Lib.hid (show asgD d t v = d by rw [HEQ0.out, HBV.out]; rfl)
     go_wp2
     go_end0
     exact ⟨rfl, by rw [HEQ.out]; exact HOw2.out.kq⟩
    case true =>
     have HEQ := Lib.hid (show asgD d t v = { d with nm := v } by rw [HEQ0.out, HBV.out]; rfl)
     have hkd := HOKD.out
     have HFIN := Lib.hid (EdK.f_nm (x := v) HOw2.out.kq ⟨HVM.out, hkd.2⟩)
     clear hkd
     have cx5 := HOw2.out.2.1.1 5 _ rfl
     have cfx := HOw2.out.2.1.2.1
     go_wp2
     go_end0
     exact ⟨rfl, by rw [HEQ.out]; exact HFIN.out⟩
   ·
    have e15 : (t.key == 15) = false := by simpa using k15
    by_cases k16 : t.key = 16
    ·
     have e16 : (t.key == 16) = true := by rw [k16]; rfl
     have HEQ := Lib.hid (show asgD d t v = lnkD d t.op v from asg_16 k16)
     have ct0 := HXtw1.out.1 0 _ rfl
     have ct1 := HXtw1.out.1 1 _ rfl
     have ct2 := HXtw1.out.1 2 _ rfl
     go_wp2_with fail
     refine (link_any P base X d t.op v _ HOw1.out.kq.2 (HEN.out.kp HOw1.out.kq.1) HSD.out.ls HSD.out.ll HV.out).mono ?_
     rintro e w9 ⟨rfl, hk_⟩
     have HFIN := Lib.hid (EdO.seq HOw1.out hk_)
     clear hk_
     clear ct0 ct1 ct2
     go_wp2
     go_end0
     exact ⟨rfl, by rw [HEQ.out]; exact HFIN.out⟩
    ·
     have e16 : (t.key == 16) = false := by simpa using k16
     by_cases k17 : t.key = 17
     ·
      have e17 : (t.key == 17) = true := by rw [k17]; rfl
      have HEQ0 := Lib.hid (asg_17 (d := d) (v := v) k17)
      have ct0 := HXtw1.out.1 0 _ rfl
      go_wp2_with fail
      refine (Valid_any v _ (by have := HV.out; unfold maxLen; omega)).mono ?_
      rintro e w3 ⟨rfl, hbw3⟩
      clear ct0
      have HSw3 := Lib.hid (show w1.heap.size ≤ w3.heap.size from hbw3.size)
      have HBw3 := Lib.hid (HBw1.out.trans (hbw3.mono HBw1.out.size))
      have tw3 := Lib.hid (HXtw1.out.kept (grown_none hbw3) (fun e => by cases e))
      have HOw3 := Lib.hid (EdO.below HOw1.out hbw3)
      clear hbw3
      obtain ⟨bv, h_⟩ : ∃ z, validB v = z := ⟨_, rfl⟩
      rw [h_]
      have HBV := Lib.hid h_; clear h_
      cases bv
      case false =>
       have HEQ := Lib.hid (show asgD d t v = d by rw [HEQ0.out, HBV.out]; rfl)
       go_wp2
       go_end0
       exact ⟨rfl, by rw [HEQ.out]; exact HOw3.out.kq⟩
      case true =>
       have HEQ := Lib.hid (show asgD d t v = { d with owner := v } by rw [HEQ0.out, HBV.out]; rfl)
       have hkd := HOKD.out
       have HFIN := Lib.hid (EdK.f_owner (x := v) HOw3.out.kq ⟨hkd.1, hkd.2.1, HVM.out, hkd.2.2.2⟩)
       clear hkd
       have cx7 := HOw3.out.2.1.1 7 _ rfl
       have cfx := HOw3.out.2.1.2.1
       go_wp2
       go_end0
       exact ⟨rfl, by rw [HEQ.out]; exact HFIN.out⟩
     ·
      have e17 : (t.key == 17) = false := by simpa using k17
      by_cases k18 : t.key = 18
      ·
       have e18 : (t.key == 18) = true := by rw [k18]; rfl
       have HEQ0 := Lib.hid (asg_18 (d := d) (v := v) k18)
       have ct0 := HXtw1.out.1 0 _ rfl
       go_wp2_with fail
       refine (Valid_any v _ (by have := HV.out; unfold maxLen; omega)).mono ?_
       rintro e w4 ⟨rfl, hbw4⟩
       clear ct0
       have HSw4 := Lib.hid (show w1.heap.size ≤ w4.heap.size from hbw4.size)
       have HBw4 := Lib.hid (HBw1.out.trans (hbw4.mono HBw1.out.size))
       have tw4 := Lib.hid (HXtw1.out.kept (grown_none hbw4) (fun e => by cases e))
       have HOw4 := Lib.hid (EdO.below HOw1.out hbw4)
       clear hbw4
       obtain ⟨bv, h_⟩ : ∃ z, validB v = z := ⟨_, rfl⟩
       rw [h_]
       have HBV := Lib.hid h_; clear h_
       cases bv
       case false =>
        have HEQ := Lib.hid (show asgD d t v = d by rw [HEQ0.out, HBV.out]; rfl)
        go_wp2
        go_end0
        exact ⟨rfl, by rw [HEQ.out]; exact HOw4.out.kq⟩
       case true =>
        have HEQ := Lib.hid (show asgD d t v = { d with group := v } by rw [HEQ0.out, HBV.out]; rfl)
        have hkd := HOKD.out
        have HFIN := Lib.hid (EdK.f_group (x := v) HOw4.out.kq ⟨hkd.1, hkd.2.1, hkd.2.2.1, HVM.out, hkd.2.2.2.2⟩)
        clear hkd
        have cx8 := HOw4.out.2.1.1 8 _ rfl
        have cfx := HOw4.out.2.1.2.1
        go_wp2
        go_end0
        exact ⟨rfl, by rw [HEQ.out]; exact HFIN.out⟩
      ·
       have e18 : (t.key == 18) = false := by simpa using k18
       by_cases k19 : t.key = 19
       ·
        have e19 : (t.key == 19) = true := by rw [k19]; rfl
        have HEQ := Lib.hid (show asgD d t v = modeD d v from asg_19 k19)
        have ct0 := HXtw1.out.1 0 _ rfl
        have ct1 := HXtw1.out.1 1 _ rfl
        have ct2 := HXtw1.out.1 2 _ rfl
        go_wp2_with fail
        refine (mode_any P base X d v _ HOw1.out.kq.2 HV.out (HEN.out.kp HOw1.out.kq.1).o7).mono ?_
        rintro e w9 ⟨rfl, hk_⟩
        have HFIN := Lib.hid (EdO.seq HOw1.out hk_)
        clear hk_
        clear ct0 ct1 ct2
        go_wp2
        go_end0
        exact ⟨rfl, by rw [HEQ.out]; exact HFIN.out⟩
       ·
        have e19 : (t.key == 19) = false := by simpa using k19
        by_cases k20 : t.key = 20
        ·
         have e20 : (t.key == 20) = true := by rw [k20]; rfl
         have HEQ := Lib.hid (show asgD d t v = runD d t.op v from asg_20 k20)
         have ct0 := HXtw1.out.1 0 _ rfl
         have ct1 := HXtw1.out.1 1 _ rfl
         have ct2 := HXtw1.out.1 2 _ rfl
         go_wp2_with fail
         refine (run_any P base X d t.op v _ HOw1.out.kq.2 (by have := HSD.out.rl; omega) HV.out).mono ?_
         rintro e w9 ⟨rfl, hk_⟩
         have HFIN := Lib.hid (EdO.seq HOw1.out hk_)
         clear hk_
         clear ct0 ct1 ct2
         go_wp2
         go_end0
         exact ⟨rfl, by rw [HEQ.out]; exact HFIN.out⟩
        ·
         have e20 : (t.key == 20) = false := by simpa using k20
         by_cases k21 : t.key = 21
         ·
          have e21 : (t.key == 21) = true := by rw [k21]; rfl
          have HEQ0 := Lib.hid (asg_21 (d := d) (v := v) k21)
          have ct0 := HXtw1.out.1 0 _ rfl
          go_wp2_with fail
          refine (full_any v _ (by have := HV.out; unfold maxLen; omega)).mono ?_
          rintro e w5 ⟨rfl, hbw5⟩
          clear ct0
          have HSw5 := Lib.hid (show w1.heap.size ≤ w5.heap.size from hbw5.size)
          have HBw5 := Lib.hid (HBw1.out.trans (hbw5.mono HBw1.out.size))
          have tw5 := Lib.hid (HXtw1.out.kept (grown_none hbw5) (fun e => by cases e))
          have HOw5 := Lib.hid (EdO.below HOw1.out hbw5)
          clear hbw5
          obtain ⟨bv, h_⟩ : ∃ z, fullT v = z := ⟨_, rfl⟩
          rw [h_]
          have HBV := Lib.hid h_; clear h_
          cases bv
          case false =>
           have HEQ := Lib.hid (show asgD d t v = d by rw [HEQ0.out, HBV.out]; rfl)
           go_wp2
           go_end0
           exact ⟨rfl, by rw [HEQ.out]; exact HOw5.out.kq⟩
          case true =>
           have HEQ := Lib.hid (show asgD d t v = { d with load := putT d.load v 16 } by rw [HEQ0.out, HBV.out]; rfl)
           have cx4 := HOw5.out.2.1.1 4 _ rfl
           go_wp2_with fail
           refine (put_any base _ d.load v _ HOw5.out.2.2.1.o4 HSD.out.os (by have := HSD.out.ol; omega) (by have := HV.out; unfold maxLen; omega) (Nat.le_of_lt (Nat.lt_of_le_of_lt HOw5.out.2.2.1.bx HOw5.out.2.2.1.xl))).mono ?_
           rintro e w9 ⟨v9, rfl, how_, hg9, hn9⟩
           obtain ⟨A9, c9, hv_, -⟩ := how_.sl
           subst hv_
           have hbx9 := HOw5.out.2.1.kept hg9 (fun e => HOw5.out.2.2.1.x4 e.symm)
           have HFIN := Lib.hid (EdO.row4 HOw5.out how_ hg9 hn9)
           clear cx4
           have cx4 := hbx9.1 4 _ rfl
           have cfx := hbx9.2.1
           clear how_ hbx9 hg9 hn9
           go_wp2
           go_end0
           exact ⟨rfl, by rw [HEQ.out]; exact HFIN.out⟩
         ·
          have e21 : (t.key == 21) = false := by simpa using k21
          by_cases k22 : t.key = 22
          ·
           have e22 : (t.key == 22) = true := by rw [k22]; rfl
           have HEQ := Lib.hid (show asgD d t v = prioD d v from asg_22 k22)
           have ct0 := HXtw1.out.1 0 _ rfl
           have ct1 := HXtw1.out.1 1 _ rfl
           have ct2 := HXtw1.out.1 2 _ rfl
           go_wp2_with fail
           refine (prio_any P base X d v _ HOw1.out.kq.2 HV.out (HEN.out.kp HOw1.out.kq.1).o7).mono ?_
           rintro e w9 ⟨rfl, hk_⟩
           have HFIN := Lib.hid (EdO.seq HOw1.out hk_)
           clear hk_
           clear ct0 ct1 ct2
           go_wp2
           go_end0
           exact ⟨rfl, by rw [HEQ.out]; exact HFIN.out⟩
          ·
           have e22 : (t.key == 22) = false := by simpa using k22
           have HEQ := Lib.hid (asg_o (d := d) (v := v) ⟨k6, k7, k15, k16, k17, k18, k19, k20, k21, k22⟩)
           have ct0 := HXtw1.out.1 0 _ rfl
           go_wp2
           go_end0
           exact ⟨rfl, by rw [HEQ.out]; exact HOw1.out.kq⟩
end Go.Proofs.YtjpoljlgkgmdkaaGreatDoor
namespace Go.Proofs.YtjpoljlgkgmdkaaGreatDoor
open Go.RowKit Go.Cold
theorem info_term2 : (Tryz.prog.info? 35).map (fun i => (i.zero, i.size)) = some (some (.agg #[.int .i64 0, .string ByteArray.empty, .int .i64 0, .string ByteArray.empty]), 4) := by kernel_rfl
theorem apply1_any (c t : Term4) (y : Nat) (w : World) (h0 : w.cell? ⟨y, 0, none⟩ = some (.int .i64 t.key)) (h1 : w.cell? ⟨y, 1, none⟩ = some (.string t.nm)) :
  Calls Tryz.prog 35 #[.agg #[.int .i64 c.key, .string c.nm, .int .i64 c.op, .string c.val], .pointer (some ⟨y, 0, none⟩)] w fun e w' => e = .returned (.bool (decide (c.key = t.key) && decide (c.nm = t.nm))) ∧ Below w.heap.size w w' := by
 have hy : y < w.heap.size := block_lt_of_cell h0
 go_enter Tryz.func35, Tryz.ntmps35
 go_upto_region 1 with fail
 obtain ⟨w1, hw1⟩ : ∃ w1, w.alloc (.cells #[.int .i64 c.key, .string c.nm, .int .i64 c.op, .string c.val] 35) = w1 := ⟨_, rfl⟩
 have hb1 : Below w.heap.size w w1 := by rw [← hw1]; exact (Below.refl _ _).alloc (Nat.le_refl _) _
 have HX := Lib.hid (show BoxL w1 w.heap.size [.int .i64 c.key, .string c.nm, .int .i64 c.op, .string c.val] from box_mk hw1)
 have ca0 := HX.out.1 0 _ rfl
 have ca1 := HX.out.1 1 _ rfl
 have cy0 : w1.cell? ⟨y, 0, none⟩ = some (.int .i64 t.key) := (hb1.cell (p := ⟨y, 0, none⟩) hy).trans h0
 have cy1 : w1.cell? ⟨y, 1, none⟩ = some (.string t.nm) := (hb1.cell (p := ⟨y, 1, none⟩) hy).trans h1
 have HB := Lib.hid hb1
 simp only [hw1]
 clear hw1 hb1 h0 h1 hy
 by_cases hk : c.key = t.key
 ·
  have hkb : (c.key == t.key) = true := by rw [hk]; simp
  have HK := Lib.hid (show decide (c.key = t.key) = true from decide_eq_true hk); clear hk
  have hnb := ba_beq c.nm t.nm
  obtain ⟨bn, hbn⟩ : ∃ z, decide (c.nm = t.nm) = z := ⟨_, rfl⟩
  rw [hbn] at hnb
  have HN := Lib.hid hbn; clear hbn
  go_wp2
  go_ret
  exact ⟨by rw [HK.out, Bool.true_and, HN.out]; rfl, HB.out⟩
 ·
  have hkb : (c.key == t.key) = false := by simpa using hk
  have HK := Lib.hid (show decide (c.key = t.key) = false from decide_eq_false hk); clear hk
  go_wp2
  go_ret
  exact ⟨by rw [HK.out, Bool.false_and]; rfl, HB.out⟩
theorem apply1_pred (t : Term4) (y B : Nat) (w : World) (cs : List Value) (hy : BoxL w y (.int .i64 t.key :: .string t.nm :: cs)) : PredM 35 #[.pointer (some ⟨y, 0, none⟩)] w B (fun _ => True) (fun c => decide (c.key = t.key) && decide (c.nm = t.nm)) where
 enters := enters_of Tryz.func35 (by kernel_rfl) rfl
 gives c W _ _ hW := by
  have hk := hy.kept (grown_none hW) (fun e => by cases e)
  exact apply1_any c t y W (hk.1 0 _ rfl) (hk.1 1 _ rfl)
set_option maxRecDepth 100000 in
set_option maxHeartbeats 8000000 in
theorem Apply_any (d : Draft) (h : DH) (t : Term4) (v : ByteArray) (N : Nat → Prop) (w : World) (hN : ∀ x, N x → x < w.heap.size) (hd : DFr N w d h) (hp : PreD d) (ht : okT t) (htag : t.key = 7 → t.op = 3 ∨ t.op = 4 ∨ t.op = 5) (hv : v.size ≤ 1000) (hok : Ok w) (h7 : Ok7 w) :
  Calls Tryz.prog 14 #[.agg #[.slice h.a0 d.props.length h.c0, .slice h.a1 d.tags.length h.c1, .slice h.a2 d.links.length h.c2, .slice h.a3 d.run.length h.c3, .slice h.a4 d.load.length h.c4, .string d.nm, .int .i64 d.prio, .string d.owner, .string d.group, .int .i64 d.mode, .string d.res, .int .i64 d.calls, .int .i64 d.ticks, .slice h.a5 d.closed.length h.c5], .agg #[.int .i64 t.key, .string t.nm, .int .i64 t.op, .string t.val], .string v] w (DPost N (applyD d t v) w) := by
 have HN := Lib.hid hN; have HPD := Lib.hid hp; have HV := Lib.hid hv; have HT := Lib.hid ht; have HTAG := Lib.hid htag; have HD := Lib.hid hd; have HOK := Lib.hid hok; have H7 := Lib.hid h7
 clear hN hp hv ht htag hd hok h7
 have hzv := (zero_of_info (P := Tryz.prog) (t := 30) info_draft2).1
 have hzt := (zero_of_info (P := Tryz.prog) (t := 35) info_term2).1
 go_enter Tryz.func14, Tryz.ntmps14
 go_upto_region 1 with fail
 obtain ⟨w1, hw1⟩ : ∃ w1, w.alloc (.cells #[.slice h.a0 d.props.length h.c0, .slice h.a1 d.tags.length h.c1, .slice h.a2 d.links.length h.c2, .slice h.a3 d.run.length h.c3, .slice h.a4 d.load.length h.c4, .string d.nm, .int .i64 d.prio, .string d.owner, .string d.group, .int .i64 d.mode, .string d.res, .int .i64 d.calls, .int .i64 d.ticks, .slice h.a5 d.closed.length h.c5] 30) = w1 := ⟨_, rfl⟩
 have hbw1 : Below w.heap.size w w1 := by rw [← hw1]; exact (Below.refl _ _).alloc (Nat.le_refl _) _
 have HGw1 := Lib.hid (show w1.heap.size = w.heap.size + 1 by rw [← hw1]; simp)
 have HXdw1 := Lib.hid (show BoxL w1 w.heap.size [.slice h.a0 d.props.length h.c0, .slice h.a1 d.tags.length h.c1, .slice h.a2 d.links.length h.c2, .slice h.a3 d.run.length h.c3, .slice h.a4 d.load.length h.c4, .string d.nm, .int .i64 d.prio, .string d.owner, .string d.group, .int .i64 d.mode, .string d.res, .int .i64 d.calls, .int .i64 d.ticks, .slice h.a5 d.closed.length h.c5] from box_mk hw1)
 try simp only [hw1]
 have HSTEPw1 := Lib.hid hbw1
 have HSw1 := Lib.hid (show w.heap.size ≤ w1.heap.size from hbw1.size)
 have HBw1 := Lib.hid hbw1
 clear hw1 hbw1
 try rw [show w.heap.size + 1 = w1.heap.size from HGw1.out.symm]
 obtain ⟨w2, hw2⟩ : ∃ w2, w1.alloc (.cells #[.int .i64 t.key, .string t.nm, .int .i64 t.op, .string t.val] 35) = w2 := ⟨_, rfl⟩
 have hbw2 : Below w1.heap.size w1 w2 := by rw [← hw2]; exact (Below.refl _ _).alloc (Nat.le_refl _) _
 have HGw2 := Lib.hid (show w2.heap.size = w1.heap.size + 1 by rw [← hw2]; simp)
 have HXtw2 := Lib.hid (show BoxL w2 w1.heap.size [.int .i64 t.key, .string t.nm, .int .i64 t.op, .string t.val] from box_mk hw2)
 try simp only [hw2]
 have HSTEPw2 := Lib.hid hbw2
 have HSw2 := Lib.hid (show w1.heap.size ≤ w2.heap.size from hbw2.size)
 have HBw2 := Lib.hid (HBw1.out.trans (hbw2.mono HBw1.out.size))
 have dw2 := Lib.hid (HXdw1.out.kept (grown_none hbw2) (fun e => by cases e))
 clear hw2 hbw2
 try rw [show w1.heap.size + 1 = w2.heap.size from HGw2.out.symm]
 obtain ⟨w3, hw3⟩ : ∃ w3, w2.alloc (.cells #[.slice none 0 0, .slice none 0 0, .slice none 0 0, .slice none 0 0, .slice none 0 0, .string ByteArray.empty, .int .i64 0, .string ByteArray.empty, .string ByteArray.empty, .int .i64 0, .string ByteArray.empty, .int .i64 0, .int .i64 0, .slice none 0 0] 30) = w3 := ⟨_, rfl⟩
 have hbw3 : Below w2.heap.size w2 w3 := by rw [← hw3]; exact (Below.refl _ _).alloc (Nat.le_refl _) _
 have HGw3 := Lib.hid (show w3.heap.size = w2.heap.size + 1 by rw [← hw3]; simp)
 have HXrw3 := Lib.hid (show BoxL w3 w2.heap.size [.slice none 0 0, .slice none 0 0, .slice none 0 0, .slice none 0 0, .slice none 0 0, .string ByteArray.empty, .int .i64 0, .string ByteArray.empty, .string ByteArray.empty, .int .i64 0, .string ByteArray.empty, .int .i64 0, .int .i64 0, .slice none 0 0] from box_mk hw3)
 try simp only [hw3]
 have HSTEPw3 := Lib.hid hbw3
 have HSw3 := Lib.hid (show w2.heap.size ≤ w3.heap.size from hbw3.size)
 have HBw3 := Lib.hid (HBw2.out.trans (hbw3.mono HBw2.out.size))
 have dw3 := Lib.hid (dw2.out.kept (grown_none hbw3) (fun e => by cases e))
 have tw3 := Lib.hid (HXtw2.out.kept (grown_none hbw3) (fun e => by cases e))
 clear hw3 hbw3
 try rw [show w2.heap.size + 1 = w3.heap.size from HGw3.out.symm]
 have HZ := Lib.hid (show w.heap.size < w1.heap.size ∧ w1.heap.size < w2.heap.size ∧ w2.heap.size < w3.heap.size by have := HGw1.out; have := HGw2.out; have := HGw3.out; omega)
 have HDS := Lib.hid (HD.out.sl.next (Nat.le_refl _) HBw3.out)
 have HLD := Lib.hid (show lensD d from by have := HPD.out.snd.pl; have := HPD.out.snd.tl; have := HPD.out.snd.ll; have := HPD.out.snd.rl; have := HPD.out.snd.ol; have := HPD.out.cl; exact ⟨by omega, by omega, by omega, by omega, by omega, by omega⟩)
 have cd0 := dw3.out.1 0 _ rfl
 have cd1 := dw3.out.1 1 _ rfl
 have cd2 := dw3.out.1 2 _ rfl
 have cd3 := dw3.out.1 3 _ rfl
 have cd4 := dw3.out.1 4 _ rfl
 have cd5 := dw3.out.1 5 _ rfl
 have cd6 := dw3.out.1 6 _ rfl
 have cd7 := dw3.out.1 7 _ rfl
 have cd8 := dw3.out.1 8 _ rfl
 have cd9 := dw3.out.1 9 _ rfl
 have cd10 := dw3.out.1 10 _ rfl
 have cd11 := dw3.out.1 11 _ rfl
 have cd12 := dw3.out.1 12 _ rfl
 have cd13 := dw3.out.1 13 _ rfl
 go_wp2_with fail
 refine (edit_any d h w3 HDS.out HLD.out).mono ?_
 rintro e w4 ⟨hbw4, X, rfl, hq_⟩
 clear cd0 cd1 cd2 cd3 cd4 cd5 cd6 cd7 cd8 cd9 cd10 cd11 cd12 cd13
 have HSw4 := Lib.hid (show w3.heap.size ≤ w4.heap.size from hbw4.size)
 have HBw4 := Lib.hid (HBw3.out.trans (hbw4.mono HBw3.out.size))
 have dw4 := Lib.hid (dw3.out.kept (grown_none hbw4) (fun e => by cases e))
 have tw4 := Lib.hid (tw3.out.kept (grown_none hbw4) (fun e => by cases e))
 have rw4 := Lib.hid (HXrw3.out.kept (grown_none hbw4) (fun e => by cases e))
 clear hbw4
 have HED := Lib.hid hq_; clear hq_
 have ct0 := tw4.out.1 0 _ rfl
 have ct1 := tw4.out.1 1 _ rfl
 go_upto_region 3 with fail
 obtain ⟨w5, hw5⟩ : ∃ w5, w4.alloc (.cells #[.int .i64 t.key, .string t.nm, .int .i64 0, .string ByteArray.empty] 35) = w5 := ⟨_, rfl⟩
 have hbw5 : Below w4.heap.size w4 w5 := by rw [← hw5]; exact (Below.refl _ _).alloc (Nat.le_refl _) _
 have HGw5 := Lib.hid (show w5.heap.size = w4.heap.size + 1 by rw [← hw5]; simp)
 have HXyw5 := Lib.hid (show BoxL w5 w4.heap.size [.int .i64 t.key, .string t.nm, .int .i64 0, .string ByteArray.empty] from box_mk hw5)
 try simp only [hw5]
 have HSTEPw5 := Lib.hid hbw5
 have HSw5 := Lib.hid (show w4.heap.size ≤ w5.heap.size from hbw5.size)
 have HBw5 := Lib.hid (HBw4.out.trans (hbw5.mono HBw4.out.size))
 have dw5 := Lib.hid (dw4.out.kept (grown_none hbw5) (fun e => by cases e))
 have tw5 := Lib.hid (tw4.out.kept (grown_none hbw5) (fun e => by cases e))
 have rw5 := Lib.hid (rw4.out.kept (grown_none hbw5) (fun e => by cases e))
 clear hw5 hbw5
 try rw [show w4.heap.size + 1 = w5.heap.size from HGw5.out.symm]
 clear ct0 ct1
 clear hzv hzt
 have hq5 := HED.out.more HSTEPw5.out (Q := (fun q => q < w3.heap.size ∨ q = w4.heap.size)) (fun q hq => hq.elim .inl (fun e => .inr (by subst e; exact ⟨Nat.le_refl _, by have := HGw5.out; omega⟩)))
 obtain ⟨k, ho5⟩ := hq5.open
 have HO := Lib.hid ho5; clear hq5 ho5
 have HR5 := Lib.hid rw5.out; have HT5 := Lib.hid tw5.out; have HY5 := Lib.hid HXyw5.out; have HB5 := Lib.hid HBw5.out
 have HEN := Lib.hid (show Env (fun q => q < w3.heap.size ∨ q = w4.heap.size) w5 from ⟨w, HOK.out, H7.out, HB5.out, fun q hq => .inl (by have := HZ.out; omega)⟩)
 have cx13 := HO.out.2.1.1 13 _ rfl
 go_wp2_with fail
 refine (ContainsFuncM_any k.a5 k.c5 d.closed 35 #[.pointer (some ⟨w4.heap.size, 0, none⟩)] (fun _ => True) (fun c => decide (c.key = t.key) && decide (c.nm = t.nm)) w5 w5.heap.size (Nat.le_refl _) HO.out.2.2.2.2.2.2.2.2.2.1 (apply1_pred t w4.heap.size w5.heap.size w5 _ HY5.out) (fun _ _ => trivial)).mono ?_
 rintro e w6 ⟨rfl, hbw6⟩
 clear cx13
 have HSw6 := Lib.hid (show w5.heap.size ≤ w6.heap.size from hbw6.size)
 have HBw6 := Lib.hid (HBw5.out.trans (hbw6.mono HBw5.out.size))
 have HOw6 := Lib.hid (EdO.below HO.out hbw6)
 clear hbw6
 obtain ⟨bc, hbc⟩ : ∃ z, (d.closed.any fun c => decide (c.key = t.key) && decide (c.nm = t.nm)) = z := ⟨_, rfl⟩
 rw [hbc]
 have HBC := Lib.hid (show closedB d t = bc from hbc); clear hbc
 cases bc
 case true =>
  have hkp := (HOw6.out.kq).1
  obtain ⟨kf, hbf, hdf⟩ := (HOw6.out.kq).2.free (N := (fun x => N x ∨ x = w2.heap.size)) (fun x hx => by have := HZ.out; rcases hx with q | q; (have := HN.out x q; omega); omega)
  have HXF := Lib.hid (show BoxL w6 X [.slice kf.a0 d.props.length kf.c0, .slice kf.a1 d.tags.length kf.c1, .slice kf.a2 d.links.length kf.c2, .slice kf.a3 d.run.length kf.c3, .slice kf.a4 d.load.length kf.c4, .string d.nm, .int .i64 d.prio, .string d.owner, .string d.group, .int .i64 d.mode, .string d.res, .int .i64 d.calls, .int .i64 d.ticks, .slice kf.a5 d.closed.length kf.c5] from hbf); have HDF := Lib.hid hdf; have HRF := Lib.hid (HR5.out.kp hkp (.inl (by have := HZ.out; omega))); have HBF := Lib.hid (HB5.out.trans ((hkp.below (fun q hq => .inl hq)).mono (by have := HZ.out; omega)))
  clear hbf hdf hkp
  have cx0 := HXF.out.1 0 _ rfl
  have cx1 := HXF.out.1 1 _ rfl
  have cx2 := HXF.out.1 2 _ rfl
  have cx3 := HXF.out.1 3 _ rfl
  have cx4 := HXF.out.1 4 _ rfl
  have cx5 := HXF.out.1 5 _ rfl
  have cx6 := HXF.out.1 6 _ rfl
  have cx7 := HXF.out.1 7 _ rfl
  have cx8 := HXF.out.1 8 _ rfl
  have cx9 := HXF.out.1 9 _ rfl
  have cx10 := HXF.out.1 10 _ rfl
  have cx11 := HXF.out.1 11 _ rfl
  have cx12 := HXF.out.1 12 _ rfl
  have cx13 := HXF.out.1 13 _ rfl
  have cr0 := HRF.out.1 0 _ rfl
  have cr1 := HRF.out.1 1 _ rfl
  have cr2 := HRF.out.1 2 _ rfl
  have cr3 := HRF.out.1 3 _ rfl
  have cr4 := HRF.out.1 4 _ rfl
  have cr5 := HRF.out.1 5 _ rfl
  have cr6 := HRF.out.1 6 _ rfl
  have cr7 := HRF.out.1 7 _ rfl
  have cr8 := HRF.out.1 8 _ rfl
  have cr9 := HRF.out.1 9 _ rfl
  have cr10 := HRF.out.1 10 _ rfl
  have cr11 := HRF.out.1 11 _ rfl
  have cr12 := HRF.out.1 12 _ rfl
  have cr13 := HRF.out.1 13 _ rfl
  have cfr := HRF.out.2.1
  go_wp2
  refine bodyPost_ret (v := .agg #[.slice kf.a0 d.props.length kf.c0, .slice kf.a1 d.tags.length kf.c1, .slice kf.a2 d.links.length kf.c2, .slice kf.a3 d.run.length kf.c3, .slice kf.a4 d.load.length kf.c4, .string d.nm, .int .i64 d.prio, .string d.owner, .string d.group, .int .i64 d.mode, .string d.res, .int .i64 d.calls, .int .i64 d.ticks, .slice kf.a5 d.closed.length kf.c5]) (by simp [results, Tryz.results14, go_sem, cr0, cr1, cr2, cr3, cr4, cr5, cr6, cr7, cr8, cr9, cr10, cr11, cr12, cr13, cfr]) rfl ?_
  rw [apply_closed HBC.out]
  exact DPost.fin (h := kf) HBF.out (by have := HZ.out; omega) (fun _ => .inl) (.inr rfl) HDF.out _ _ _ _ _ _ _ _ _ _ _ _ _ _
 case false =>
  have ht6 := HT5.out.kp HOw6.out.1 (.inl (by have := HZ.out; omega))
  have ct0 := ht6.1 0 _ rfl; have ct1 := ht6.1 1 _ rfl; have ct2 := ht6.1 2 _ rfl; have ct3 := ht6.1 3 _ rfl; clear ht6
  go_wp2_with fail
  refine (assign_any (fun q => q < w3.heap.size ∨ q = w4.heap.size) w3.heap.size X d t v w6 HOw6.out.kq.2 (HEN.out.kp HOw6.out.1) HPD.out HT.out HTAG.out HV.out).mono ?_
  rintro e w7 ⟨rfl, hk_⟩
  obtain ⟨d1, hd1⟩ : ∃ z, asgD d t v = z := ⟨_, rfl⟩
  rw [hd1] at hk_
  have HD1 := Lib.hid hd1
  have hk7 := EdO.seq HOw6.out hk_
  obtain ⟨k7, ho7⟩ := hk7.open
  have HO7 := Lib.hid ho7
  clear ct0 ct1 ct2 ct3 hk_ hk7 ho7 hd1
  have ht6 := HT5.out.kp HO7.out.1 (.inl (by have := HZ.out; omega))
  have ct2 := ht6.1 2 _ rfl; clear ht6
  by_cases o6 : t.op = 6
  ·
   have oe6 : (t.op == 6) = true := by rw [o6]; rfl
   have HO6 := Lib.hid o6; clear o6
   go_upto_region 7 with fail
   clear ct2
   refine wp_region_held_late (S := fun w' => BoxL w' X [.slice k7.a0 d1.props.length k7.c0, .slice k7.a1 d1.tags.length k7.c1, .slice k7.a2 d1.links.length k7.c2, .slice k7.a3 d1.run.length k7.c3, .slice k7.a4 d1.load.length k7.c4, .string d1.nm, .int .i64 d1.prio, .string d1.owner, .string d1.group, .int .i64 d1.mode, .string d1.res, .int .i64 d1.calls, .int .i64 d1.ticks, .slice k7.a5 d1.closed.length k7.c5] ∧ BoxL w' w4.heap.size [.int .i64 t.key, .string t.nm, .int .i64 0, .string ByteArray.empty]) (late := fun i => decide (12 ≤ i)) (by kernel_rfl) ?_
   obtain ⟨wd, hwd⟩ : ∃ z, World.drew w7 = z := ⟨_, rfl⟩
   rw [hwd]
   have hb_ : Below w7.heap.size w7 wd := by rw [← hwd]; exact below_drewN_self _ _ 1
   clear hwd
   have HSwd := Lib.hid (show w7.heap.size ≤ wd.heap.size from hb_.size)
   have HBwd := Lib.hid hb_
   have HOwd := Lib.hid (EdO.below HO7.out hb_)
   clear hb_
   have HS_wd := Lib.hid (show BoxL wd X [.slice k7.a0 d1.props.length k7.c0, .slice k7.a1 d1.tags.length k7.c1, .slice k7.a2 d1.links.length k7.c2, .slice k7.a3 d1.run.length k7.c3, .slice k7.a4 d1.load.length k7.c4, .string d1.nm, .int .i64 d1.prio, .string d1.owner, .string d1.group, .int .i64 d1.mode, .string d1.res, .int .i64 d1.calls, .int .i64 d1.ticks, .slice k7.a5 d1.closed.length k7.c5] ∧ BoxL wd w4.heap.size [.int .i64 t.key, .string t.nm, .int .i64 0, .string ByteArray.empty] from ⟨HOwd.out.2.1, HY5.out.kp HOwd.out.1 (.inr rfl)⟩)
   refine wpAnyHL_take (i := 0) (oi := ⟨some 34, _, _, _, _, _⟩) (v := .pointer (some ⟨X, 0, none⟩)) (by kernel_rfl) rfl (by kernel_rfl) (by kernel_rfl) (by kernel_rfl) (fun _ _ _ h => h) (Or.inl ⟨by rfl, fun w' hS => by go_simp⟩) HS_wd.out ?_
   try simp only [Act.put, List.setIfInBounds_toArray, List.set_cons_zero, List.set_cons_succ]
   refine wpAnyHL_take (i := 1) (oi := ⟨some 35, _, _, _, _, _⟩) (v := .pointer (some ⟨X, 0, none⟩)) (by kernel_rfl) rfl (by kernel_rfl) (by kernel_rfl) (by kernel_rfl) (fun _ _ _ h => h) (Or.inl ⟨by rfl, fun w' hS => by go_simp⟩) HS_wd.out ?_
   try simp only [Act.put, List.setIfInBounds_toArray, List.set_cons_zero, List.set_cons_succ]
   refine wpAnyHL_take (i := 2) (oi := ⟨some 36, _, _, _, _, _⟩) (v := .pointer (some ⟨X, 0, none⟩)) (by kernel_rfl) rfl (by kernel_rfl) (by kernel_rfl) (by kernel_rfl) (fun _ _ _ h => h) (Or.inl ⟨by rfl, fun w' hS => by go_simp⟩) HS_wd.out ?_
   try simp only [Act.put, List.setIfInBounds_toArray, List.set_cons_zero, List.set_cons_succ]
   refine wpAnyHL_take (i := 3) (oi := ⟨some 37, _, _, _, _, _⟩) (v := .pointer (some ⟨X, 0, none⟩)) (by kernel_rfl) rfl (by kernel_rfl) (by kernel_rfl) (by kernel_rfl) (fun _ _ _ h => h) (Or.inl ⟨by rfl, fun w' hS => by go_simp⟩) HS_wd.out ?_
   try simp only [Act.put, List.setIfInBounds_toArray, List.set_cons_zero, List.set_cons_succ]
   refine wpAnyHL_take (i := 4) (oi := ⟨some 38, _, _, _, _, _⟩) (v := .pointer (some ⟨X, 13, none⟩)) (by kernel_rfl) rfl (by kernel_rfl) (by kernel_rfl) (by kernel_rfl) (fun _ _ _ h => h) (Or.inl ⟨by rfl, fun w' hS => by go_simp⟩) HS_wd.out ?_
   try simp only [Act.put, List.setIfInBounds_toArray, List.set_cons_zero, List.set_cons_succ]
   refine wpAnyHL_take (i := 5) (oi := ⟨some 39, _, _, _, _, _⟩) (v := .slice k7.a5 d1.closed.length k7.c5) (by kernel_rfl) rfl (by kernel_rfl) (by kernel_rfl) (by kernel_rfl) (fun _ _ _ h => h) (Or.inl ⟨by rfl, fun w' hS => by (have u0_ := hS.1.1 13 _ rfl; go_simp)⟩) HS_wd.out ?_
   try simp only [Act.put, List.setIfInBounds_toArray, List.set_cons_zero, List.set_cons_succ]
   refine wpAnyHL_take (i := 6) (oi := ⟨some 40, _, _, _, _, _⟩) (v := .agg #[.int .i64 t.key, .string t.nm, .int .i64 0, .string ByteArray.empty]) (by kernel_rfl) rfl (by kernel_rfl) (by kernel_rfl) (by kernel_rfl) (fun _ _ _ h => h) (Or.inl ⟨by rfl, fun w' hS => by (have u0_ := hS.2.1 0 _ rfl; have u1_ := hS.2.1 1 _ rfl; have u2_ := hS.2.1 2 _ rfl; have u3_ := hS.2.1 3 _ rfl; go_simp)⟩) HS_wd.out ?_
   try simp only [Act.put, List.setIfInBounds_toArray, List.set_cons_zero, List.set_cons_succ]
   refine wpAnyHL_ready (rs := [7]) (by kernel_rfl) (by simp) ?_
   refine AllReadyHL.cons (o := ⟨some 41, .buildSlice _ _ _, _, _, _, _⟩) rfl (fun K hK => ?_) AllReadyHL.nil
   go_simp
   obtain ⟨w8, hw8⟩ : ∃ z, wd.alloc (.cells #[.int .i64 t.key, .string t.nm, .int .i64 0, .string ByteArray.empty] 35) = z := ⟨_, rfl⟩
   have hb8 : Below wd.heap.size wd w8 := by rw [← hw8]; exact (Below.refl _ _).alloc (Nat.le_refl _) _
   have HLT := Lib.hid (show BoxL w8 wd.heap.size [.int .i64 t.key, .string t.nm, .int .i64 0, .string ByteArray.empty] from box_mk hw8)
   try rw [hw8]
   clear hw8
   have HSw8 := Lib.hid (show wd.heap.size ≤ w8.heap.size from hb8.size)
   have HBw8 := Lib.hid (HBwd.out.trans (hb8.mono HBwd.out.size))
   have HOw8 := Lib.hid (EdO.below HOwd.out hb8)
   clear hb8
   have HS_w8 := Lib.hid (show BoxL w8 X [.slice k7.a0 d1.props.length k7.c0, .slice k7.a1 d1.tags.length k7.c1, .slice k7.a2 d1.links.length k7.c2, .slice k7.a3 d1.run.length k7.c3, .slice k7.a4 d1.load.length k7.c4, .string d1.nm, .int .i64 d1.prio, .string d1.owner, .string d1.group, .int .i64 d1.mode, .string d1.res, .int .i64 d1.calls, .int .i64 d1.ticks, .slice k7.a5 d1.closed.length k7.c5] ∧ BoxL w8 w4.heap.size [.int .i64 t.key, .string t.nm, .int .i64 0, .string ByteArray.empty] from ⟨HOw8.out.2.1, HY5.out.kp HOw8.out.1 (.inr rfl)⟩)
   refine hK.out _ _ (fun _ => HS_w8.out) ?_
   clear hK K
   try simp only [Act.put, List.setIfInBounds_toArray, List.set_cons_zero, List.set_cons_succ]
   refine wpAnyHL_ready (rs := [8]) (by kernel_rfl) (by simp) ?_
   refine AllReadyHL.cons (o := ⟨some 42, .call ⟨_, _, _⟩, _, _, _, _⟩) rfl (fun K hK => ?_) AllReadyHL.nil
   have HC1 := Lib.hid (show d1.closed.length ≤ 100000 by rw [← HD1.out, asg_closed]; exact HPD.out.cl)
   refine step_app rfl _ _ rfl (.slice k7.a5 d1.closed.length k7.c5) (.slice (some ⟨wd.heap.size, 0, none⟩) 1 1) (by simp [Act.eval, Act.put]) (by simp [Act.eval, Act.put]) (run_app1 E_term _ (.slice k7.a5 d1.closed.length k7.c5) d1.closed HOw8.out.2.2.1.o5 wd.heap.size (⟨t.key, t.nm, 0, ByteArray.empty⟩ : Term4) [.int .i64 t.key, .string t.nm, .int .i64 0, .string ByteArray.empty] HLT.out.1 ⟨rfl, HT.out.1, HT.out.2.1, okI_small (n := 0) (by decide) (by decide), by show ByteArray.empty.size ≤ maxLen; decide⟩ (by have := HC1.out; unfold maxLen; omega) (by have := HC1.out; omega) (Nat.le_of_lt (Nat.lt_of_le_of_lt HOw8.out.2.2.1.bx HOw8.out.2.2.1.xl))) ?_
   rintro v9 w9 ⟨how_, hg9, hn9⟩
   obtain ⟨nl, hnl⟩ : ∃ z, d1.closed ++ [(⟨t.key, t.nm, 0, ByteArray.empty⟩ : Term4)] = z := ⟨_, rfl⟩
   rw [hnl] at how_
   have HNL := Lib.hid hnl; clear hnl
   obtain ⟨A9, c9, hv_, -⟩ := how_.sl
   subst hv_
   have HFIN := Lib.hid (EdO.row5 HOw8.out how_ hg9 hn9)
   have HS_w9 := Lib.hid (show BoxL w9 X [.slice k7.a0 d1.props.length k7.c0, .slice k7.a1 d1.tags.length k7.c1, .slice k7.a2 d1.links.length k7.c2, .slice k7.a3 d1.run.length k7.c3, .slice k7.a4 d1.load.length k7.c4, .string d1.nm, .int .i64 d1.prio, .string d1.owner, .string d1.group, .int .i64 d1.mode, .string d1.res, .int .i64 d1.calls, .int .i64 d1.ticks, .slice k7.a5 d1.closed.length k7.c5] ∧ BoxL w9 w4.heap.size [.int .i64 t.key, .string t.nm, .int .i64 0, .string ByteArray.empty] from ⟨HS_w8.out.1.kept hg9 (fun e => HOw8.out.2.2.1.x5 e.symm), HS_w8.out.2.kept hg9 (fun e => HOw8.out.2.2.2.1.q5 _ e.symm (.inr rfl))⟩)
   clear how_ hg9 hn9
   refine hK.out _ _ (fun _ => HS_w9.out) ?_
   clear hK K
   try simp only [Act.put, List.setIfInBounds_toArray, List.set_cons_zero, List.set_cons_succ]
   refine wpAnyHL_ready (rs := [9]) (by kernel_rfl) (by simp) ?_
   refine AllReadyHL.cons (o := ⟨some 43, .nilCheck _, _, _, _, _⟩) rfl (fun K hK => ?_) AllReadyHL.nil
   go_simp
   refine hK.out _ _ (fun _ => HS_w9.out) ?_
   clear hK K
   try simp only [Act.put, List.setIfInBounds_toArray, List.set_cons_zero, List.set_cons_succ]
   refine wpAnyHL_ready (rs := [10]) (by kernel_rfl) (by simp) ?_
   refine AllReadyHL.cons (o := ⟨some 44, .fieldAddr _ _ _, _, _, _, _⟩) rfl (fun K hK => ?_) AllReadyHL.nil
   go_simp
   refine hK.out _ _ (fun _ => HS_w9.out) ?_
   clear hK K
   try simp only [Act.put, List.setIfInBounds_toArray, List.set_cons_zero, List.set_cons_succ]
   refine wpAnyHL_ready (rs := [11]) (by kernel_rfl) (by simp) ?_
   refine AllReadyHL.cons (o := ⟨some 45, .fieldAddr _ _ _, _, _, _, _⟩) rfl (fun K hK => ?_) AllReadyHL.nil
   go_simp
   refine hK.out _ _ (fun _ => HS_w9.out) ?_
   clear hK K
   try simp only [Act.put, List.setIfInBounds_toArray, List.set_cons_zero, List.set_cons_succ]
   refine wpAnyHL_ready (rs := [12]) (by kernel_rfl) (by simp) ?_
   refine AllReadyHL.cons (o := ⟨none, .store _ _ _, _, _, _, _⟩) rfl (fun K hK => ?_) AllReadyHL.nil
   have cx13 := HS_w9.out.1.1 13 _ rfl; have cfx := HS_w9.out.1.2.1
   go_simp
   clear cx13 cfx
   obtain ⟨w50, hw50⟩ : ∃ z, w9.setCell ⟨X, 13, none⟩ (.slice A9 nl.length c9) = z := ⟨_, rfl⟩
   rw [hw50] at HFIN ⊢
   clear hw50
   refine hK.out _ _ (fun h_ => by cases h_) ?_
   clear hK K
   try simp only [Act.put, List.setIfInBounds_toArray, List.set_cons_zero, List.set_cons_succ]
   refine wpAnyHL_done (by kernel_rfl) ?_ _
   obtain ⟨d2, hd2⟩ : ∃ z, ({ d1 with closed := nl } : Draft) = z := ⟨_, rfl⟩
   rw [hd2] at HFIN
   have HD2 := Lib.hid hd2; clear hd2
   have HE2 := Lib.hid (show applyD d t v = d2 by rw [apply_open HBC.out, HD1.out, close_yes HO6.out, ← HD2.out, ← HNL.out])
   have hkp := (HFIN.out).1
   obtain ⟨kf, hbf, hdf⟩ := (HFIN.out).2.free (N := (fun x => N x ∨ x = w2.heap.size)) (fun x hx => by have := HZ.out; rcases hx with q | q; (have := HN.out x q; omega); omega)
   have HXF := Lib.hid (show BoxL w50 X [.slice kf.a0 d2.props.length kf.c0, .slice kf.a1 d2.tags.length kf.c1, .slice kf.a2 d2.links.length kf.c2, .slice kf.a3 d2.run.length kf.c3, .slice kf.a4 d2.load.length kf.c4, .string d2.nm, .int .i64 d2.prio, .string d2.owner, .string d2.group, .int .i64 d2.mode, .string d2.res, .int .i64 d2.calls, .int .i64 d2.ticks, .slice kf.a5 d2.closed.length kf.c5] from hbf); have HDF := Lib.hid hdf; have HRF := Lib.hid (HR5.out.kp hkp (.inl (by have := HZ.out; omega))); have HBF := Lib.hid (HB5.out.trans ((hkp.below (fun q hq => .inl hq)).mono (by have := HZ.out; omega)))
   clear hbf hdf hkp
   have cx0 := HXF.out.1 0 _ rfl
   have cx1 := HXF.out.1 1 _ rfl
   have cx2 := HXF.out.1 2 _ rfl
   have cx3 := HXF.out.1 3 _ rfl
   have cx4 := HXF.out.1 4 _ rfl
   have cx5 := HXF.out.1 5 _ rfl
   have cx6 := HXF.out.1 6 _ rfl
   have cx7 := HXF.out.1 7 _ rfl
   have cx8 := HXF.out.1 8 _ rfl
   have cx9 := HXF.out.1 9 _ rfl
   have cx10 := HXF.out.1 10 _ rfl
   have cx11 := HXF.out.1 11 _ rfl
   have cx12 := HXF.out.1 12 _ rfl
   have cx13 := HXF.out.1 13 _ rfl
   have cr0 := HRF.out.1 0 _ rfl
   have cr1 := HRF.out.1 1 _ rfl
   have cr2 := HRF.out.1 2 _ rfl
   have cr3 := HRF.out.1 3 _ rfl
   have cr4 := HRF.out.1 4 _ rfl
   have cr5 := HRF.out.1 5 _ rfl
   have cr6 := HRF.out.1 6 _ rfl
   have cr7 := HRF.out.1 7 _ rfl
   have cr8 := HRF.out.1 8 _ rfl
   have cr9 := HRF.out.1 9 _ rfl
   have cr10 := HRF.out.1 10 _ rfl
   have cr11 := HRF.out.1 11 _ rfl
   have cr12 := HRF.out.1 12 _ rfl
   have cr13 := HRF.out.1 13 _ rfl
   have cfr := HRF.out.2.1
   go_wp2
   refine bodyPost_ret (v := .agg #[.slice kf.a0 d2.props.length kf.c0, .slice kf.a1 d2.tags.length kf.c1, .slice kf.a2 d2.links.length kf.c2, .slice kf.a3 d2.run.length kf.c3, .slice kf.a4 d2.load.length kf.c4, .string d2.nm, .int .i64 d2.prio, .string d2.owner, .string d2.group, .int .i64 d2.mode, .string d2.res, .int .i64 d2.calls, .int .i64 d2.ticks, .slice kf.a5 d2.closed.length kf.c5]) (by simp [results, Tryz.results14, go_sem, cr0, cr1, cr2, cr3, cr4, cr5, cr6, cr7, cr8, cr9, cr10, cr11, cr12, cr13, cfr]) rfl ?_
   rw [HE2.out]
   exact DPost.fin (h := kf) HBF.out (by have := HZ.out; omega) (fun _ => .inl) (.inr rfl) HDF.out _ _ _ _ _ _ _ _ _ _ _ _ _ _
  ·
   have oe6 : (t.op == 6) = false := by simpa using o6
   have HO6 := Lib.hid o6; clear o6
   go_upto_region 8 with fail
   clear ct2
   have HE2 := Lib.hid (show applyD d t v = d1 by rw [apply_open HBC.out, HD1.out, close_no HO6.out])
   have hkp := (HO7.out.kq).1
   obtain ⟨kf, hbf, hdf⟩ := (HO7.out.kq).2.free (N := (fun x => N x ∨ x = w2.heap.size)) (fun x hx => by have := HZ.out; rcases hx with q | q; (have := HN.out x q; omega); omega)
   have HXF := Lib.hid (show BoxL w7 X [.slice kf.a0 d1.props.length kf.c0, .slice kf.a1 d1.tags.length kf.c1, .slice kf.a2 d1.links.length kf.c2, .slice kf.a3 d1.run.length kf.c3, .slice kf.a4 d1.load.length kf.c4, .string d1.nm, .int .i64 d1.prio, .string d1.owner, .string d1.group, .int .i64 d1.mode, .string d1.res, .int .i64 d1.calls, .int .i64 d1.ticks, .slice kf.a5 d1.closed.length kf.c5] from hbf); have HDF := Lib.hid hdf; have HRF := Lib.hid (HR5.out.kp hkp (.inl (by have := HZ.out; omega))); have HBF := Lib.hid (HB5.out.trans ((hkp.below (fun q hq => .inl hq)).mono (by have := HZ.out; omega)))
   clear hbf hdf hkp
   have cx0 := HXF.out.1 0 _ rfl
   have cx1 := HXF.out.1 1 _ rfl
   have cx2 := HXF.out.1 2 _ rfl
   have cx3 := HXF.out.1 3 _ rfl
   have cx4 := HXF.out.1 4 _ rfl
   have cx5 := HXF.out.1 5 _ rfl
   have cx6 := HXF.out.1 6 _ rfl
   have cx7 := HXF.out.1 7 _ rfl
   have cx8 := HXF.out.1 8 _ rfl
   have cx9 := HXF.out.1 9 _ rfl
   have cx10 := HXF.out.1 10 _ rfl
   have cx11 := HXF.out.1 11 _ rfl
   have cx12 := HXF.out.1 12 _ rfl
   have cx13 := HXF.out.1 13 _ rfl
   have cr0 := HRF.out.1 0 _ rfl
   have cr1 := HRF.out.1 1 _ rfl
   have cr2 := HRF.out.1 2 _ rfl
   have cr3 := HRF.out.1 3 _ rfl
   have cr4 := HRF.out.1 4 _ rfl
   have cr5 := HRF.out.1 5 _ rfl
   have cr6 := HRF.out.1 6 _ rfl
   have cr7 := HRF.out.1 7 _ rfl
   have cr8 := HRF.out.1 8 _ rfl
   have cr9 := HRF.out.1 9 _ rfl
   have cr10 := HRF.out.1 10 _ rfl
   have cr11 := HRF.out.1 11 _ rfl
   have cr12 := HRF.out.1 12 _ rfl
   have cr13 := HRF.out.1 13 _ rfl
   have cfr := HRF.out.2.1
   go_wp2
   refine bodyPost_ret (v := .agg #[.slice kf.a0 d1.props.length kf.c0, .slice kf.a1 d1.tags.length kf.c1, .slice kf.a2 d1.links.length kf.c2, .slice kf.a3 d1.run.length kf.c3, .slice kf.a4 d1.load.length kf.c4, .string d1.nm, .int .i64 d1.prio, .string d1.owner, .string d1.group, .int .i64 d1.mode, .string d1.res, .int .i64 d1.calls, .int .i64 d1.ticks, .slice kf.a5 d1.closed.length kf.c5]) (by simp [results, Tryz.results14, go_sem, cr0, cr1, cr2, cr3, cr4, cr5, cr6, cr7, cr8, cr9, cr10, cr11, cr12, cr13, cfr]) rfl ?_
   rw [HE2.out]
   exact DPost.fin (h := kf) HBF.out (by have := HZ.out; omega) (fun _ => .inl) (.inr rfl) HDF.out _ _ _ _ _ _ _ _ _ _ _ _ _ _
end Go.Proofs.YtjpoljlgkgmdkaaGreatDoor
namespace Go.Proofs.YtjpoljlgkgmdkaaGreatDoor
open Go.RowKit Go.Cold
set_option maxRecDepth 100000 in
set_option maxHeartbeats 4000000 in
theorem SameTerms_same (A B : Option Addr) (c d : Nat) (xs : List Term4) (w : World) (b1 b2 : Nat) (hx : Sl w b1 A c xs) (hy : Sl w b2 B d xs) :
  Calls Tryz.prog 39 #[.slice A xs.length c, .slice B xs.length d] w fun e w' => e = .returned (.bool true) ∧ ∃ n, w' = w.drewN n := by
 have hc := hx.1; have hc2 := hx.2.1; have hd := hy.1; have hd2 := hy.2.1
 unfold maxLen at hc2 hd2
 have HX := Lib.hid hx; have HY := Lib.hid hy; clear hx hy
 go_enter Tryz.func39, Tryz.ntmps39
 go_wp2
 go_loopw [5] (fun i wr => ∃ k n : Nat, k ≤ xs.length ∧ i = .int .i64 k ∧ wr = w.drewN n) (fun i _ => xs.length - (intOf i).toNat)
 case atStart => exact ⟨0, 0, Nat.zero_le _, rfl, rfl⟩
 case round =>
  obtain ⟨k, n, hk, rfl, rfl⟩ := hrel
  by_cases hlt : k < xs.length
  ·
   obtain ⟨b3, o3, rfl, _, _, cx, cx2, cx3, cx4⟩ := Sl.term HX.out hlt
   obtain ⟨b4, o4, rfl, _, _, cy, cy2, cy3, cy4⟩ := Sl.term HY.out hlt
   have i1 : (k : Int) < (xs.length : Int) := by omega
   obtain ⟨x, hxx⟩ : ∃ x, xs[k]'hlt = x := ⟨_, rfl⟩
   rw [hxx] at cx cx2 cx3 cx4 cy cy2 cy3 cy4
   clear hxx
   go_wp2
   go_quiet (fail)
   go_wp2
   go_roundw
   case rel => exact ⟨k + 1, _, by omega, by go_num, rfl⟩
   case measure => simp [intOf]; omega
  ·
   have i1 : ¬ (k : Int) < (xs.length : Int) := by omega
   go_wp2
   go_ret
   exact ⟨rfl, _, rfl⟩
theorem SameTextsB (A B : Option Addr) (c d : Nat) (xs : List ByteArray) (w : World) (b1 b2 : Nat) (hx : Sl w b1 A c xs) (hy : Sl w b2 B d xs) : Calls Tryz.prog 38 #[.slice A xs.length c, .slice B xs.length d] w fun e w' => e = .returned (.bool true) ∧ Below w.heap.size w w' := by
 refine (SameTexts_any A B c d xs xs w b1 b2 hx hy).mono ?_
 rintro e w' ⟨rfl, n, rfl⟩
 exact ⟨by rw [decide_eq_true rfl], below_drewN_self _ _ _⟩
theorem SameAttrsB (A B : Option Addr) (c d : Nat) (xs : List Attr) (w : World) (b1 b2 : Nat) (hx : Sl w b1 A c xs) (hy : Sl w b2 B d xs) : Calls Tryz.prog 37 #[.slice A xs.length c, .slice B xs.length d] w fun e w' => e = .returned (.bool true) ∧ Below w.heap.size w w' := by
 refine (SameAttrs_same A B c d xs w b1 b2 hx hy).mono ?_
 rintro e w' ⟨rfl, n, rfl⟩
 exact ⟨rfl, below_drewN_self _ _ _⟩
theorem SameTermsB (A B : Option Addr) (c d : Nat) (xs : List Term4) (w : World) (b1 b2 : Nat) (hx : Sl w b1 A c xs) (hy : Sl w b2 B d xs) : Calls Tryz.prog 39 #[.slice A xs.length c, .slice B xs.length d] w fun e w' => e = .returned (.bool true) ∧ Below w.heap.size w w' := by
 refine (SameTerms_same A B c d xs w b1 b2 hx hy).mono ?_
 rintro e w' ⟨rfl, n, rfl⟩
 exact ⟨rfl, below_drewN_self _ _ _⟩
set_option maxRecDepth 100000 in
set_option maxHeartbeats 8000000 in
theorem SameDraft_same (d : Draft) (h k : DH) (w : World) (hx : DSl w w.heap.size d h) (hy : DSl w w.heap.size d k) : Calls Tryz.prog 15 #[.agg #[.slice h.a0 d.props.length h.c0, .slice h.a1 d.tags.length h.c1, .slice h.a2 d.links.length h.c2, .slice h.a3 d.run.length h.c3, .slice h.a4 d.load.length h.c4, .string d.nm, .int .i64 d.prio, .string d.owner, .string d.group, .int .i64 d.mode, .string d.res, .int .i64 d.calls, .int .i64 d.ticks, .slice h.a5 d.closed.length h.c5], .agg #[.slice k.a0 d.props.length k.c0, .slice k.a1 d.tags.length k.c1, .slice k.a2 d.links.length k.c2, .slice k.a3 d.run.length k.c3, .slice k.a4 d.load.length k.c4, .string d.nm, .int .i64 d.prio, .string d.owner, .string d.group, .int .i64 d.mode, .string d.res, .int .i64 d.calls, .int .i64 d.ticks, .slice k.a5 d.closed.length k.c5]] w fun e w' => e = .returned (.bool true) ∧ Below w.heap.size w w' := by
 have HX := Lib.hid hx; have HY := Lib.hid hy; clear hx hy
 go_enter Tryz.func15, Tryz.ntmps15
 go_upto_region 1 with fail
 obtain ⟨w1, hw1⟩ : ∃ w1, w.alloc (.cells #[.slice h.a0 d.props.length h.c0, .slice h.a1 d.tags.length h.c1, .slice h.a2 d.links.length h.c2, .slice h.a3 d.run.length h.c3, .slice h.a4 d.load.length h.c4, .string d.nm, .int .i64 d.prio, .string d.owner, .string d.group, .int .i64 d.mode, .string d.res, .int .i64 d.calls, .int .i64 d.ticks, .slice h.a5 d.closed.length h.c5] 30) = w1 := ⟨_, rfl⟩
 have hbw1 : Below w.heap.size w w1 := by rw [← hw1]; exact (Below.refl _ _).alloc (Nat.le_refl _) _
 have HGw1 := Lib.hid (show w1.heap.size = w.heap.size + 1 by rw [← hw1]; simp)
 have HXaw1 := Lib.hid (show BoxL w1 w.heap.size [.slice h.a0 d.props.length h.c0, .slice h.a1 d.tags.length h.c1, .slice h.a2 d.links.length h.c2, .slice h.a3 d.run.length h.c3, .slice h.a4 d.load.length h.c4, .string d.nm, .int .i64 d.prio, .string d.owner, .string d.group, .int .i64 d.mode, .string d.res, .int .i64 d.calls, .int .i64 d.ticks, .slice h.a5 d.closed.length h.c5] from box_mk hw1)
 try simp only [hw1]
 have HSw1 := Lib.hid (show w.heap.size ≤ w1.heap.size from hbw1.size)
 have HBw1 := Lib.hid hbw1
 clear hw1 hbw1
 try rw [show w.heap.size + 1 = w1.heap.size from HGw1.out.symm]
 obtain ⟨w2, hw2⟩ : ∃ w2, w1.alloc (.cells #[.slice k.a0 d.props.length k.c0, .slice k.a1 d.tags.length k.c1, .slice k.a2 d.links.length k.c2, .slice k.a3 d.run.length k.c3, .slice k.a4 d.load.length k.c4, .string d.nm, .int .i64 d.prio, .string d.owner, .string d.group, .int .i64 d.mode, .string d.res, .int .i64 d.calls, .int .i64 d.ticks, .slice k.a5 d.closed.length k.c5] 30) = w2 := ⟨_, rfl⟩
 have hbw2 : Below w1.heap.size w1 w2 := by rw [← hw2]; exact (Below.refl _ _).alloc (Nat.le_refl _) _
 have HGw2 := Lib.hid (show w2.heap.size = w1.heap.size + 1 by rw [← hw2]; simp)
 have HXbw2 := Lib.hid (show BoxL w2 w1.heap.size [.slice k.a0 d.props.length k.c0, .slice k.a1 d.tags.length k.c1, .slice k.a2 d.links.length k.c2, .slice k.a3 d.run.length k.c3, .slice k.a4 d.load.length k.c4, .string d.nm, .int .i64 d.prio, .string d.owner, .string d.group, .int .i64 d.mode, .string d.res, .int .i64 d.calls, .int .i64 d.ticks, .slice k.a5 d.closed.length k.c5] from box_mk hw2)
 try simp only [hw2]
 have HSw2 := Lib.hid (show w1.heap.size ≤ w2.heap.size from hbw2.size)
 have HBw2 := Lib.hid (HBw1.out.trans (hbw2.mono HBw1.out.size))
 have aw2 := Lib.hid (HXaw1.out.kept (grown_none hbw2) (fun e => by cases e))
 clear hw2 hbw2
 try rw [show w1.heap.size + 1 = w2.heap.size from HGw2.out.symm]
 have ca0 := aw2.out.1 0 _ rfl
 have ca1 := aw2.out.1 1 _ rfl
 have ca2 := aw2.out.1 2 _ rfl
 have ca3 := aw2.out.1 3 _ rfl
 have ca4 := aw2.out.1 4 _ rfl
 have ca5 := aw2.out.1 5 _ rfl
 have ca6 := aw2.out.1 6 _ rfl
 have ca7 := aw2.out.1 7 _ rfl
 have ca8 := aw2.out.1 8 _ rfl
 have ca9 := aw2.out.1 9 _ rfl
 have ca10 := aw2.out.1 10 _ rfl
 have ca11 := aw2.out.1 11 _ rfl
 have ca12 := aw2.out.1 12 _ rfl
 have ca13 := aw2.out.1 13 _ rfl
 have cb0 := HXbw2.out.1 0 _ rfl
 have cb1 := HXbw2.out.1 1 _ rfl
 have cb2 := HXbw2.out.1 2 _ rfl
 have cb3 := HXbw2.out.1 3 _ rfl
 have cb4 := HXbw2.out.1 4 _ rfl
 have cb5 := HXbw2.out.1 5 _ rfl
 have cb6 := HXbw2.out.1 6 _ rfl
 have cb7 := HXbw2.out.1 7 _ rfl
 have cb8 := HXbw2.out.1 8 _ rfl
 have cb9 := HXbw2.out.1 9 _ rfl
 have cb10 := HXbw2.out.1 10 _ rfl
 have cb11 := HXbw2.out.1 11 _ rfl
 have cb12 := HXbw2.out.1 12 _ rfl
 have cb13 := HXbw2.out.1 13 _ rfl
 go_wp2_with fail
 refine (SameAttrsB h.a0 k.a0 h.c0 k.c0 d.props _ _ _ (HX.out.keep HBw2.out).1 (HY.out.keep HBw2.out).1).mono ?_
 rintro e w3 ⟨rfl, hbw3⟩
 clear ca0 ca1 ca2 ca3 ca4 ca5 ca6 ca7 ca8 ca9 ca10 ca11 ca12 ca13 cb0 cb1 cb2 cb3 cb4 cb5 cb6 cb7 cb8 cb9 cb10 cb11 cb12 cb13
 have HSw3 := Lib.hid (show w2.heap.size ≤ w3.heap.size from hbw3.size)
 have HBw3 := Lib.hid (HBw2.out.trans (hbw3.mono HBw2.out.size))
 have aw3 := Lib.hid (aw2.out.kept (grown_none hbw3) (fun e => by cases e))
 have bw3 := Lib.hid (HXbw2.out.kept (grown_none hbw3) (fun e => by cases e))
 clear hbw3
 have ca0 := aw3.out.1 0 _ rfl
 have ca1 := aw3.out.1 1 _ rfl
 have ca2 := aw3.out.1 2 _ rfl
 have ca3 := aw3.out.1 3 _ rfl
 have ca4 := aw3.out.1 4 _ rfl
 have ca5 := aw3.out.1 5 _ rfl
 have ca6 := aw3.out.1 6 _ rfl
 have ca7 := aw3.out.1 7 _ rfl
 have ca8 := aw3.out.1 8 _ rfl
 have ca9 := aw3.out.1 9 _ rfl
 have ca10 := aw3.out.1 10 _ rfl
 have ca11 := aw3.out.1 11 _ rfl
 have ca12 := aw3.out.1 12 _ rfl
 have ca13 := aw3.out.1 13 _ rfl
 have cb0 := bw3.out.1 0 _ rfl
 have cb1 := bw3.out.1 1 _ rfl
 have cb2 := bw3.out.1 2 _ rfl
 have cb3 := bw3.out.1 3 _ rfl
 have cb4 := bw3.out.1 4 _ rfl
 have cb5 := bw3.out.1 5 _ rfl
 have cb6 := bw3.out.1 6 _ rfl
 have cb7 := bw3.out.1 7 _ rfl
 have cb8 := bw3.out.1 8 _ rfl
 have cb9 := bw3.out.1 9 _ rfl
 have cb10 := bw3.out.1 10 _ rfl
 have cb11 := bw3.out.1 11 _ rfl
 have cb12 := bw3.out.1 12 _ rfl
 have cb13 := bw3.out.1 13 _ rfl
 go_wp2_with fail
 refine (SameTextsB h.a1 k.a1 h.c1 k.c1 d.tags _ _ _ (HX.out.keep HBw3.out).2.1 (HY.out.keep HBw3.out).2.1).mono ?_
 rintro e w4 ⟨rfl, hbw4⟩
 clear ca0 ca1 ca2 ca3 ca4 ca5 ca6 ca7 ca8 ca9 ca10 ca11 ca12 ca13 cb0 cb1 cb2 cb3 cb4 cb5 cb6 cb7 cb8 cb9 cb10 cb11 cb12 cb13
 have HSw4 := Lib.hid (show w3.heap.size ≤ w4.heap.size from hbw4.size)
 have HBw4 := Lib.hid (HBw3.out.trans (hbw4.mono HBw3.out.size))
 have aw4 := Lib.hid (aw3.out.kept (grown_none hbw4) (fun e => by cases e))
 have bw4 := Lib.hid (bw3.out.kept (grown_none hbw4) (fun e => by cases e))
 clear hbw4
 have ca0 := aw4.out.1 0 _ rfl
 have ca1 := aw4.out.1 1 _ rfl
 have ca2 := aw4.out.1 2 _ rfl
 have ca3 := aw4.out.1 3 _ rfl
 have ca4 := aw4.out.1 4 _ rfl
 have ca5 := aw4.out.1 5 _ rfl
 have ca6 := aw4.out.1 6 _ rfl
 have ca7 := aw4.out.1 7 _ rfl
 have ca8 := aw4.out.1 8 _ rfl
 have ca9 := aw4.out.1 9 _ rfl
 have ca10 := aw4.out.1 10 _ rfl
 have ca11 := aw4.out.1 11 _ rfl
 have ca12 := aw4.out.1 12 _ rfl
 have ca13 := aw4.out.1 13 _ rfl
 have cb0 := bw4.out.1 0 _ rfl
 have cb1 := bw4.out.1 1 _ rfl
 have cb2 := bw4.out.1 2 _ rfl
 have cb3 := bw4.out.1 3 _ rfl
 have cb4 := bw4.out.1 4 _ rfl
 have cb5 := bw4.out.1 5 _ rfl
 have cb6 := bw4.out.1 6 _ rfl
 have cb7 := bw4.out.1 7 _ rfl
 have cb8 := bw4.out.1 8 _ rfl
 have cb9 := bw4.out.1 9 _ rfl
 have cb10 := bw4.out.1 10 _ rfl
 have cb11 := bw4.out.1 11 _ rfl
 have cb12 := bw4.out.1 12 _ rfl
 have cb13 := bw4.out.1 13 _ rfl
 go_wp2_with fail
 refine (SameTextsB h.a2 k.a2 h.c2 k.c2 d.links _ _ _ (HX.out.keep HBw4.out).2.2.1 (HY.out.keep HBw4.out).2.2.1).mono ?_
 rintro e w5 ⟨rfl, hbw5⟩
 clear ca0 ca1 ca2 ca3 ca4 ca5 ca6 ca7 ca8 ca9 ca10 ca11 ca12 ca13 cb0 cb1 cb2 cb3 cb4 cb5 cb6 cb7 cb8 cb9 cb10 cb11 cb12 cb13
 have HSw5 := Lib.hid (show w4.heap.size ≤ w5.heap.size from hbw5.size)
 have HBw5 := Lib.hid (HBw4.out.trans (hbw5.mono HBw4.out.size))
 have aw5 := Lib.hid (aw4.out.kept (grown_none hbw5) (fun e => by cases e))
 have bw5 := Lib.hid (bw4.out.kept (grown_none hbw5) (fun e => by cases e))
 clear hbw5
 have ca0 := aw5.out.1 0 _ rfl
 have ca1 := aw5.out.1 1 _ rfl
 have ca2 := aw5.out.1 2 _ rfl
 have ca3 := aw5.out.1 3 _ rfl
 have ca4 := aw5.out.1 4 _ rfl
 have ca5 := aw5.out.1 5 _ rfl
 have ca6 := aw5.out.1 6 _ rfl
 have ca7 := aw5.out.1 7 _ rfl
 have ca8 := aw5.out.1 8 _ rfl
 have ca9 := aw5.out.1 9 _ rfl
 have ca10 := aw5.out.1 10 _ rfl
 have ca11 := aw5.out.1 11 _ rfl
 have ca12 := aw5.out.1 12 _ rfl
 have ca13 := aw5.out.1 13 _ rfl
 have cb0 := bw5.out.1 0 _ rfl
 have cb1 := bw5.out.1 1 _ rfl
 have cb2 := bw5.out.1 2 _ rfl
 have cb3 := bw5.out.1 3 _ rfl
 have cb4 := bw5.out.1 4 _ rfl
 have cb5 := bw5.out.1 5 _ rfl
 have cb6 := bw5.out.1 6 _ rfl
 have cb7 := bw5.out.1 7 _ rfl
 have cb8 := bw5.out.1 8 _ rfl
 have cb9 := bw5.out.1 9 _ rfl
 have cb10 := bw5.out.1 10 _ rfl
 have cb11 := bw5.out.1 11 _ rfl
 have cb12 := bw5.out.1 12 _ rfl
 have cb13 := bw5.out.1 13 _ rfl
 go_wp2_with fail
 refine (SameTextsB h.a3 k.a3 h.c3 k.c3 d.run _ _ _ (HX.out.keep HBw5.out).2.2.2.1 (HY.out.keep HBw5.out).2.2.2.1).mono ?_
 rintro e w6 ⟨rfl, hbw6⟩
 clear ca0 ca1 ca2 ca3 ca4 ca5 ca6 ca7 ca8 ca9 ca10 ca11 ca12 ca13 cb0 cb1 cb2 cb3 cb4 cb5 cb6 cb7 cb8 cb9 cb10 cb11 cb12 cb13
 have HSw6 := Lib.hid (show w5.heap.size ≤ w6.heap.size from hbw6.size)
 have HBw6 := Lib.hid (HBw5.out.trans (hbw6.mono HBw5.out.size))
 have aw6 := Lib.hid (aw5.out.kept (grown_none hbw6) (fun e => by cases e))
 have bw6 := Lib.hid (bw5.out.kept (grown_none hbw6) (fun e => by cases e))
 clear hbw6
 have ca0 := aw6.out.1 0 _ rfl
 have ca1 := aw6.out.1 1 _ rfl
 have ca2 := aw6.out.1 2 _ rfl
 have ca3 := aw6.out.1 3 _ rfl
 have ca4 := aw6.out.1 4 _ rfl
 have ca5 := aw6.out.1 5 _ rfl
 have ca6 := aw6.out.1 6 _ rfl
 have ca7 := aw6.out.1 7 _ rfl
 have ca8 := aw6.out.1 8 _ rfl
 have ca9 := aw6.out.1 9 _ rfl
 have ca10 := aw6.out.1 10 _ rfl
 have ca11 := aw6.out.1 11 _ rfl
 have ca12 := aw6.out.1 12 _ rfl
 have ca13 := aw6.out.1 13 _ rfl
 have cb0 := bw6.out.1 0 _ rfl
 have cb1 := bw6.out.1 1 _ rfl
 have cb2 := bw6.out.1 2 _ rfl
 have cb3 := bw6.out.1 3 _ rfl
 have cb4 := bw6.out.1 4 _ rfl
 have cb5 := bw6.out.1 5 _ rfl
 have cb6 := bw6.out.1 6 _ rfl
 have cb7 := bw6.out.1 7 _ rfl
 have cb8 := bw6.out.1 8 _ rfl
 have cb9 := bw6.out.1 9 _ rfl
 have cb10 := bw6.out.1 10 _ rfl
 have cb11 := bw6.out.1 11 _ rfl
 have cb12 := bw6.out.1 12 _ rfl
 have cb13 := bw6.out.1 13 _ rfl
 go_wp2_with fail
 refine (SameTextsB h.a4 k.a4 h.c4 k.c4 d.load _ _ _ (HX.out.keep HBw6.out).2.2.2.2.1 (HY.out.keep HBw6.out).2.2.2.2.1).mono ?_
 rintro e w7 ⟨rfl, hbw7⟩
 clear ca0 ca1 ca2 ca3 ca4 ca5 ca6 ca7 ca8 ca9 ca10 ca11 ca12 ca13 cb0 cb1 cb2 cb3 cb4 cb5 cb6 cb7 cb8 cb9 cb10 cb11 cb12 cb13
 have HSw7 := Lib.hid (show w6.heap.size ≤ w7.heap.size from hbw7.size)
 have HBw7 := Lib.hid (HBw6.out.trans (hbw7.mono HBw6.out.size))
 have aw7 := Lib.hid (aw6.out.kept (grown_none hbw7) (fun e => by cases e))
 have bw7 := Lib.hid (bw6.out.kept (grown_none hbw7) (fun e => by cases e))
 clear hbw7
 have ca0 := aw7.out.1 0 _ rfl
 have ca1 := aw7.out.1 1 _ rfl
 have ca2 := aw7.out.1 2 _ rfl
 have ca3 := aw7.out.1 3 _ rfl
 have ca4 := aw7.out.1 4 _ rfl
 have ca5 := aw7.out.1 5 _ rfl
 have ca6 := aw7.out.1 6 _ rfl
 have ca7 := aw7.out.1 7 _ rfl
 have ca8 := aw7.out.1 8 _ rfl
 have ca9 := aw7.out.1 9 _ rfl
 have ca10 := aw7.out.1 10 _ rfl
 have ca11 := aw7.out.1 11 _ rfl
 have ca12 := aw7.out.1 12 _ rfl
 have ca13 := aw7.out.1 13 _ rfl
 have cb0 := bw7.out.1 0 _ rfl
 have cb1 := bw7.out.1 1 _ rfl
 have cb2 := bw7.out.1 2 _ rfl
 have cb3 := bw7.out.1 3 _ rfl
 have cb4 := bw7.out.1 4 _ rfl
 have cb5 := bw7.out.1 5 _ rfl
 have cb6 := bw7.out.1 6 _ rfl
 have cb7 := bw7.out.1 7 _ rfl
 have cb8 := bw7.out.1 8 _ rfl
 have cb9 := bw7.out.1 9 _ rfl
 have cb10 := bw7.out.1 10 _ rfl
 have cb11 := bw7.out.1 11 _ rfl
 have cb12 := bw7.out.1 12 _ rfl
 have cb13 := bw7.out.1 13 _ rfl
 go_wp2_with fail
 refine (SameTermsB h.a5 k.a5 h.c5 k.c5 d.closed _ _ _ (HX.out.keep HBw7.out).2.2.2.2.2.1 (HY.out.keep HBw7.out).2.2.2.2.2.1).mono ?_
 rintro e w8 ⟨rfl, hbw8⟩
 clear ca0 ca1 ca2 ca3 ca4 ca5 ca6 ca7 ca8 ca9 ca10 ca11 ca12 ca13 cb0 cb1 cb2 cb3 cb4 cb5 cb6 cb7 cb8 cb9 cb10 cb11 cb12 cb13
 have HSw8 := Lib.hid (show w7.heap.size ≤ w8.heap.size from hbw8.size)
 have HBw8 := Lib.hid (HBw7.out.trans (hbw8.mono HBw7.out.size))
 have aw8 := Lib.hid (aw7.out.kept (grown_none hbw8) (fun e => by cases e))
 have bw8 := Lib.hid (bw7.out.kept (grown_none hbw8) (fun e => by cases e))
 clear hbw8
 go_wp2
 go_ret
 exact ⟨by try rfl, HBw8.out⟩
set_option maxRecDepth 100000 in
set_option maxHeartbeats 4000000 in
theorem Begin_any (A : Option Addr) (c : Nat) (base : List Attr) (N : Nat → Prop) (w : World) (hN : ∀ x, N x → x < w.heap.size) (hx : FreeS N w A c base) (hl : base.length ≤ 1000) :
  Calls Tryz.prog 11 #[.slice A base.length c] w (DPost N (beginD base) w) := by
 have HN := Lib.hid hN; have HX := Lib.hid hx; have HL := Lib.hid hl
 clear hN hx hl
 have hzv := (zero_of_info (P := Tryz.prog) (t := 30) info_draft2).1
 go_enter Tryz.func11, Tryz.ntmps11
 go_upto_region 1 with fail
 obtain ⟨w1, hw1⟩ : ∃ w1, w.alloc (.cells #[.slice none 0 0, .slice none 0 0, .slice none 0 0, .slice none 0 0, .slice none 0 0, .string ByteArray.empty, .int .i64 0, .string ByteArray.empty, .string ByteArray.empty, .int .i64 0, .string ByteArray.empty, .int .i64 0, .int .i64 0, .slice none 0 0] 30) = w1 := ⟨_, rfl⟩
 have hbw1 : Below w.heap.size w w1 := by rw [← hw1]; exact (Below.refl _ _).alloc (Nat.le_refl _) _
 have HGw1 := Lib.hid (show w1.heap.size = w.heap.size + 1 by rw [← hw1]; simp)
 have HXrw1 := Lib.hid (show BoxL w1 w.heap.size [.slice none 0 0, .slice none 0 0, .slice none 0 0, .slice none 0 0, .slice none 0 0, .string ByteArray.empty, .int .i64 0, .string ByteArray.empty, .string ByteArray.empty, .int .i64 0, .string ByteArray.empty, .int .i64 0, .int .i64 0, .slice none 0 0] from box_mk hw1)
 try simp only [hw1]
 have HSw1 := Lib.hid (show w.heap.size ≤ w1.heap.size from hbw1.size)
 have HBw1 := Lib.hid hbw1
 clear hw1 hbw1
 try rw [show w.heap.size + 1 = w1.heap.size from HGw1.out.symm]
 clear hzv
 have HZ := Lib.hid (show w.heap.size < w1.heap.size by have := HGw1.out; omega)
 have HDS := Lib.hid (show DSl w1 w1.heap.size (beginD base) ⟨A, c, none, 0, none, 0, none, 0, none, 0, none, 0⟩ from ⟨HX.out.out.next (Nat.le_refl _) HBw1.out, Sl.nil_, Sl.nil_, Sl.nil_, Sl.nil_, Sl.nil_, begin_ok base⟩)
 have HLD := Lib.hid (show lensD (beginD base) from ⟨by show base.length ≤ 1000000; have := HL.out; omega, by show (0 : Nat) ≤ 1000000; omega, by show (0 : Nat) ≤ 1000000; omega, by show (0 : Nat) ≤ 1000000; omega, by show (0 : Nat) ≤ 1000000; omega, by show (0 : Nat) ≤ 1000000; omega⟩)
 have hx1 := HX.out.1; have hx2 := HX.out.2.1
 unfold maxLen at hx2
 go_wp2_with fail
 refine Calls.mono (R := fun e w' => Below w1.heap.size w1 w' ∧ ∃ X, e = .returned (.pointer (some ⟨X, 0, none⟩)) ∧ EdQ 53 9 35 (fun k => k < w1.heap.size) w' w1.heap.size X (beginD base)) ?_ ?_
 · exact edit_any (beginD base) ⟨A, c, none, 0, none, 0, none, 0, none, 0, none, 0⟩ w1 HDS.out HLD.out
 rintro e w2 ⟨hb, X, rfl, hq_⟩
 have HSw2 := Lib.hid (show w1.heap.size ≤ w2.heap.size from hb.size)
 have HBw2 := Lib.hid (HBw1.out.trans (hb.mono HBw1.out.size))
 have rw2 := Lib.hid (HXrw1.out.kept (grown_none hb) (fun e => by cases e))
 clear hb hx1 hx2
 obtain ⟨d0, hd0⟩ : ∃ z, beginD base = z := ⟨_, rfl⟩
 rw [hd0] at hq_
 have HD0 := Lib.hid hd0
 obtain ⟨kf, hbf, hdf⟩ := hq_.free (N := (fun x => N x ∨ x = w.heap.size)) (fun x hx => by have := HZ.out; rcases hx with q | q; (have := HN.out x q; omega); omega)
 have HXF := Lib.hid (show BoxL w2 X [.slice kf.a0 d0.props.length kf.c0, .slice kf.a1 d0.tags.length kf.c1, .slice kf.a2 d0.links.length kf.c2, .slice kf.a3 d0.run.length kf.c3, .slice kf.a4 d0.load.length kf.c4, .string d0.nm, .int .i64 d0.prio, .string d0.owner, .string d0.group, .int .i64 d0.mode, .string d0.res, .int .i64 d0.calls, .int .i64 d0.ticks, .slice kf.a5 d0.closed.length kf.c5] from hbf); have HDF := Lib.hid hdf; have HQ := Lib.hid hq_; clear hbf hdf hq_ hd0
 have cx0 := HXF.out.1 0 _ rfl
 have cx1 := HXF.out.1 1 _ rfl
 have cx2 := HXF.out.1 2 _ rfl
 have cx3 := HXF.out.1 3 _ rfl
 have cx4 := HXF.out.1 4 _ rfl
 have cx5 := HXF.out.1 5 _ rfl
 have cx6 := HXF.out.1 6 _ rfl
 have cx7 := HXF.out.1 7 _ rfl
 have cx8 := HXF.out.1 8 _ rfl
 have cx9 := HXF.out.1 9 _ rfl
 have cx10 := HXF.out.1 10 _ rfl
 have cx11 := HXF.out.1 11 _ rfl
 have cx12 := HXF.out.1 12 _ rfl
 have cx13 := HXF.out.1 13 _ rfl
 have cr0 := rw2.out.1 0 _ rfl
 have cr1 := rw2.out.1 1 _ rfl
 have cr2 := rw2.out.1 2 _ rfl
 have cr3 := rw2.out.1 3 _ rfl
 have cr4 := rw2.out.1 4 _ rfl
 have cr5 := rw2.out.1 5 _ rfl
 have cr6 := rw2.out.1 6 _ rfl
 have cr7 := rw2.out.1 7 _ rfl
 have cr8 := rw2.out.1 8 _ rfl
 have cr9 := rw2.out.1 9 _ rfl
 have cr10 := rw2.out.1 10 _ rfl
 have cr11 := rw2.out.1 11 _ rfl
 have cr12 := rw2.out.1 12 _ rfl
 have cr13 := rw2.out.1 13 _ rfl
 have cfr := rw2.out.2.1
 go_wp2
 refine bodyPost_ret (v := .agg #[.slice kf.a0 d0.props.length kf.c0, .slice kf.a1 d0.tags.length kf.c1, .slice kf.a2 d0.links.length kf.c2, .slice kf.a3 d0.run.length kf.c3, .slice kf.a4 d0.load.length kf.c4, .string d0.nm, .int .i64 d0.prio, .string d0.owner, .string d0.group, .int .i64 d0.mode, .string d0.res, .int .i64 d0.calls, .int .i64 d0.ticks, .slice kf.a5 d0.closed.length kf.c5]) (by simp [results, Tryz.results11, go_sem, cr0, cr1, cr2, cr3, cr4, cr5, cr6, cr7, cr8, cr9, cr10, cr11, cr12, cr13, cfr]) rfl ?_
 rw [HD0.out]
 exact DPost.fin (h := kf) HBw2.out (Nat.le_refl _) (fun _ => .inl) (.inr rfl) HDF.out _ _ _ _ _ _ _ _ _ _ _ _ _ _
end Go.Proofs.YtjpoljlgkgmdkaaGreatDoor
namespace Go.Cold
open Go Go.RowKit Go.Proofs.YtjpoljlgkgmdkaaGreatDoor
theorem sl_attr1 {w w' : World} {T : TypeId} {a : Attr} (h : w.alloc (.cells #[.string a.name, .string a.value] T) = w') (h1 : a.name.size ≤ maxLen) (h2 : a.value.size ≤ maxLen) : Sl w' w'.heap.size (some ⟨w.heap.size, 0, none⟩) 1 [a] := by
 have hb := box_mk h
 refine ⟨Nat.le_refl _, by decide, fun _ => ⟨w.heap.size, 0, rfl, hb.2.2, fun i x hx => ?_⟩⟩
 have h0 : i = 0 := by have := (List.getElem?_eq_some_iff.1 hx).1; simp at this; exact this
 subst h0
 obtain rfl := Option.some.inj hx
 exact ⟨[.string a.name, .string a.value], ⟨rfl, h1, h2⟩, fun j u hu => by rw [Nat.zero_mul, Nat.zero_add, Nat.zero_add]; exact hb.1 j u hu⟩
theorem sl_texts {w w' : World} {T : TypeId} {xs : List ByteArray} (h : w.alloc (.cells (xs.map Value.string).toArray T) = w') (hs : ∀ x ∈ xs, x.size ≤ maxLen) (hl : xs.length ≤ maxLen) : Sl w' w'.heap.size (some ⟨w.heap.size, 0, none⟩) xs.length xs := by
 have hb := box_mk h
 refine ⟨Nat.le_refl _, hl, fun _ => ⟨w.heap.size, 0, rfl, hb.2.2, fun i x hx => ⟨[.string x], ⟨rfl, hs x (List.mem_of_getElem? hx)⟩, fun j u hu => ?_⟩⟩⟩
 have hj : j = 0 := by have := (List.getElem?_eq_some_iff.1 hu).1; simpa using this
 subst hj
 obtain rfl := Option.some.inj hu
 rw [Nat.zero_add, Nat.add_zero]
 show w'.cell? ⟨w.heap.size, i * 1, none⟩ = _
 rw [Nat.mul_one]
 exact hb.1 i _ (by rw [List.toList_toArray, List.getElem?_map, hx]; rfl)
theorem Sl.freeN {α : Type} [RepS α] {w : World} {A : Option Addr} {c : Nat} {l : List α} (h : Sl w w.heap.size A c l) : FreeS (fun _ => False) w A c l := SlS.free (SlS_iff.1 h) (fun x hx => ⟨hx, fun q => q⟩)
end Go.Cold
namespace Go.Proofs.YtjpoljlgkgmdkaaGreatDoor
open Go.RowKit Go.Cold
set_option maxRecDepth 100000 in
set_option maxHeartbeats 8000000 in
theorem known13_any (w : World) (hok : Ok w) (h7 : Ok7 w) : Calls Tryz.prog 16 #[] w fun e w' => e = .returned (.bool true) ∧ Below w.heap.size w w' := by
 have HOK := Lib.hid hok; have H7 := Lib.hid h7; clear hok h7
 have hzv := (zero_of_info (P := Tryz.prog) (t := 30) info_draft2).1
 go_enter Tryz.func16, Tryz.ntmps16
 go_upto_region 1 with fail
 obtain ⟨w1, hw1⟩ : ∃ z, w.alloc (.cells #[.string ⟨#[73, 68]⟩, .string ⟨#[49]⟩] 53) = z := ⟨_, rfl⟩
 have hb1 : Below w.heap.size w w1 := by rw [← hw1]; exact (Below.refl _ _).alloc (Nat.le_refl _) _
 have HSB := Lib.hid (sl_attr1 (a := ⟨⟨#[73, 68]⟩, ⟨#[49]⟩⟩) hw1 (by decide) (by decide))
 go_wp2_with fail
 try rw [hw1]
 clear hw1
 have HSw1 := Lib.hid (show w.heap.size ≤ w1.heap.size from hb1.size)
 have HBw1 := Lib.hid hb1
 clear hb1
 refine Calls.mono (R := fun e w' => DPost (fun _ => False) k13a w1 e w') ?_ ?_
 · exact Begin_any (some ⟨w.heap.size, 0, none⟩) 1 k13p (fun _ => False) w1 (fun _ h => h.elim) HSB.out.freeN (by decide)
 rintro e w2 ⟨hb, h0, rfl, hd⟩
 have HSw2 := Lib.hid (show w1.heap.size ≤ w2.heap.size from hb.size)
 have HBw2 := Lib.hid (HBw1.out.trans (hb.mono HBw1.out.size))
 clear hb
 obtain ⟨d0, hd0⟩ : ∃ z, k13a = z := ⟨_, rfl⟩
 rw [hd0] at hd ⊢
 have HD0 := Lib.hid hd0; have HP0 := Lib.hid (show PreD d0 by rw [← hd0]; exact k13_preA)
 have HDF := Lib.hid (hd.more (N' := fun x => x = w2.heap.size) (fun x hx e => by omega))
 clear hd hd0
 go_upto_region 2 with fail
 obtain ⟨w3, hw3⟩ : ∃ w3, w2.alloc (.cells #[.slice h0.a0 d0.props.length h0.c0, .slice h0.a1 d0.tags.length h0.c1, .slice h0.a2 d0.links.length h0.c2, .slice h0.a3 d0.run.length h0.c3, .slice h0.a4 d0.load.length h0.c4, .string d0.nm, .int .i64 d0.prio, .string d0.owner, .string d0.group, .int .i64 d0.mode, .string d0.res, .int .i64 d0.calls, .int .i64 d0.ticks, .slice h0.a5 d0.closed.length h0.c5] 30) = w3 := ⟨_, rfl⟩
 have hbw3 : Below w2.heap.size w2 w3 := by rw [← hw3]; exact (Below.refl _ _).alloc (Nat.le_refl _) _
 have HGw3 := Lib.hid (show w3.heap.size = w2.heap.size + 1 by rw [← hw3]; simp)
 have HXdw3 := Lib.hid (show BoxL w3 w2.heap.size [.slice h0.a0 d0.props.length h0.c0, .slice h0.a1 d0.tags.length h0.c1, .slice h0.a2 d0.links.length h0.c2, .slice h0.a3 d0.run.length h0.c3, .slice h0.a4 d0.load.length h0.c4, .string d0.nm, .int .i64 d0.prio, .string d0.owner, .string d0.group, .int .i64 d0.mode, .string d0.res, .int .i64 d0.calls, .int .i64 d0.ticks, .slice h0.a5 d0.closed.length h0.c5] from box_mk hw3)
 try simp only [hw3]
 have HSw3 := Lib.hid (show w2.heap.size ≤ w3.heap.size from hbw3.size)
 have HBw3 := Lib.hid (HBw2.out.trans (hbw3.mono HBw2.out.size))
 have HDFw3 := Lib.hid (HDF.out.below hbw3)
 clear hw3 hbw3
 try rw [show w2.heap.size + 1 = w3.heap.size from HGw3.out.symm]
 clear hzv
 have HZ := Lib.hid (show w.heap.size ≤ w2.heap.size ∧ w2.heap.size < w3.heap.size by have := HGw3.out; have := HSw1.out; have := HSw2.out; omega)
 have HSZ := Lib.hid (Nat.le_refl w3.heap.size)
 have cd0 := HXdw3.out.1 0 _ rfl
 have cd1 := HXdw3.out.1 1 _ rfl
 have cd2 := HXdw3.out.1 2 _ rfl
 have cd3 := HXdw3.out.1 3 _ rfl
 have cd4 := HXdw3.out.1 4 _ rfl
 have cd5 := HXdw3.out.1 5 _ rfl
 have cd6 := HXdw3.out.1 6 _ rfl
 have cd7 := HXdw3.out.1 7 _ rfl
 have cd8 := HXdw3.out.1 8 _ rfl
 have cd9 := HXdw3.out.1 9 _ rfl
 have cd10 := HXdw3.out.1 10 _ rfl
 have cd11 := HXdw3.out.1 11 _ rfl
 have cd12 := HXdw3.out.1 12 _ rfl
 have cd13 := HXdw3.out.1 13 _ rfl
 go_wp2_with fail
 refine Calls.mono (R := fun e w' => DPost (fun x => x = w2.heap.size) (applyD d0 k13t1 k13w) w3 e w') ?_ ?_
 · exact Apply_any d0 h0 k13t1 k13w (fun x => x = w2.heap.size) w3 (fun x hx => by subst hx; have := HZ.out; have := HSZ.out; omega) HDFw3.out HP0.out ⟨by unfold okI; decide, by decide +kernel, by unfold okI; decide, by decide +kernel⟩ (by decide) (by decide) (HOK.out.next HBw3.out) (H7.out.below HBw3.out)
 rintro e wa1 ⟨hb, h1, rfl, hd⟩
 clear cd0 cd1 cd2 cd3 cd4 cd5 cd6 cd7 cd8 cd9 cd10 cd11 cd12 cd13
 obtain ⟨d1, hd_⟩ : ∃ z, applyD d0 k13t1 k13w = z := ⟨_, rfl⟩
 rw [hd_] at hd ⊢
 have HD1 := Lib.hid (show k13b = d1 by rw [← hd_, ← HD0.out]; rfl); have HP1 := Lib.hid (show PreD d1 by rw [← HD1.out]; exact k13_preB)
 have HSwa1 := Lib.hid (show w3.heap.size ≤ wa1.heap.size from hb.size)
 have HBwa1 := Lib.hid (HBw3.out.trans (hb.mono HBw3.out.size))
 have dwa1 := Lib.hid (HXdw3.out.kept (grown_none hb) (fun e => by cases e))
 have HSZwa1 := Lib.hid (Nat.le_trans HSZ.out (hb).size)
 clear hb hd_
 have HDF1 := Lib.hid hd; clear hd
 have cd0 := dwa1.out.1 0 _ rfl
 have cd1 := dwa1.out.1 1 _ rfl
 have cd2 := dwa1.out.1 2 _ rfl
 have cd3 := dwa1.out.1 3 _ rfl
 have cd4 := dwa1.out.1 4 _ rfl
 have cd5 := dwa1.out.1 5 _ rfl
 have cd6 := dwa1.out.1 6 _ rfl
 have cd7 := dwa1.out.1 7 _ rfl
 have cd8 := dwa1.out.1 8 _ rfl
 have cd9 := dwa1.out.1 9 _ rfl
 have cd10 := dwa1.out.1 10 _ rfl
 have cd11 := dwa1.out.1 11 _ rfl
 have cd12 := dwa1.out.1 12 _ rfl
 have cd13 := dwa1.out.1 13 _ rfl
 have cfd := dwa1.out.2.1
 go_upto_region 3 with fail
 clear cd0 cd1 cd2 cd3 cd4 cd5 cd6 cd7 cd8 cd9 cd10 cd11 cd12 cd13 cfd
 obtain ⟨ws1, hws1⟩ : ∃ z, set14 wa1 (w2.heap.size) (.slice h1.a0 d1.props.length h1.c0) (.slice h1.a1 d1.tags.length h1.c1) (.slice h1.a2 d1.links.length h1.c2) (.slice h1.a3 d1.run.length h1.c3) (.slice h1.a4 d1.load.length h1.c4) (.string d1.nm) (.int .i64 d1.prio) (.string d1.owner) (.string d1.group) (.int .i64 d1.mode) (.string d1.res) (.int .i64 d1.calls) (.int .i64 d1.ticks) (.slice h1.a5 d1.closed.length h1.c5) = z := ⟨_, rfl⟩
 have hgs : wa1.grownBy ws1 (some (w2.heap.size)) := by rw [← hws1]; exact grown14 _ _ _ _ _ _ _ _ _ _ _ _ _ _ _ _
 have hbx_ : BoxL ws1 (w2.heap.size) [.slice h1.a0 d1.props.length h1.c0, .slice h1.a1 d1.tags.length h1.c1, .slice h1.a2 d1.links.length h1.c2, .slice h1.a3 d1.run.length h1.c3, .slice h1.a4 d1.load.length h1.c4, .string d1.nm, .int .i64 d1.prio, .string d1.owner, .string d1.group, .int .i64 d1.mode, .string d1.res, .int .i64 d1.calls, .int .i64 d1.ticks, .slice h1.a5 d1.closed.length h1.c5] := by rw [← hws1]; exact dwa1.out.set14 _ _ _ _ _ _ _ _ _ _ _ _ _ _
 unfold set14 at hws1
 rw [hws1]
 clear hws1
 have HSws1 := Lib.hid hgs.size
 have dws1 := Lib.hid (show BoxL ws1 (w2.heap.size) [.slice h1.a0 d1.props.length h1.c0, .slice h1.a1 d1.tags.length h1.c1, .slice h1.a2 d1.links.length h1.c2, .slice h1.a3 d1.run.length h1.c3, .slice h1.a4 d1.load.length h1.c4, .string d1.nm, .int .i64 d1.prio, .string d1.owner, .string d1.group, .int .i64 d1.mode, .string d1.res, .int .i64 d1.calls, .int .i64 d1.ticks, .slice h1.a5 d1.closed.length h1.c5] from hbx_)
 have HBws1 := Lib.hid (HBwa1.out.grown hgs HBwa1.out.size (fun q hq => by have := Option.some.inj hq; have := HZ.out; omega))
 have HSZws1 := Lib.hid (Nat.le_trans HSZwa1.out (hgs).size)
 have HDFws1 := Lib.hid (HDF1.out.grown hgs (.inl rfl))
 clear hgs hbx_
 have cd0 := dws1.out.1 0 _ rfl
 have cd1 := dws1.out.1 1 _ rfl
 have cd2 := dws1.out.1 2 _ rfl
 have cd3 := dws1.out.1 3 _ rfl
 have cd4 := dws1.out.1 4 _ rfl
 have cd5 := dws1.out.1 5 _ rfl
 have cd6 := dws1.out.1 6 _ rfl
 have cd7 := dws1.out.1 7 _ rfl
 have cd8 := dws1.out.1 8 _ rfl
 have cd9 := dws1.out.1 9 _ rfl
 have cd10 := dws1.out.1 10 _ rfl
 have cd11 := dws1.out.1 11 _ rfl
 have cd12 := dws1.out.1 12 _ rfl
 have cd13 := dws1.out.1 13 _ rfl
 go_wp2_with fail
 refine Calls.mono (R := fun e w' => DPost (fun x => x = w2.heap.size) (applyD d1 k13t2 ⟨#[57]⟩) ws1 e w') ?_ ?_
 · exact Apply_any d1 h1 k13t2 ⟨#[57]⟩ (fun x => x = w2.heap.size) ws1 (fun x hx => by subst hx; have := HZ.out; have := HSZws1.out; omega) HDFws1.out HP1.out ⟨by unfold okI; decide, by decide +kernel, by unfold okI; decide, by decide +kernel⟩ (by decide) (by decide) (HOK.out.next HBws1.out) (H7.out.below HBws1.out)
 rintro e wa2 ⟨hb, h2, rfl, hd⟩
 clear cd0 cd1 cd2 cd3 cd4 cd5 cd6 cd7 cd8 cd9 cd10 cd11 cd12 cd13
 obtain ⟨d2, hd_⟩ : ∃ z, applyD d1 k13t2 ⟨#[57]⟩ = z := ⟨_, rfl⟩
 rw [hd_] at hd ⊢
 have HD2 := Lib.hid (show k13c = d2 by rw [← hd_, ← HD1.out]; rfl); have HP2 := Lib.hid (show PreD d2 by rw [← HD2.out]; exact k13_preC)
 have HSwa2 := Lib.hid (show ws1.heap.size ≤ wa2.heap.size from hb.size)
 have HBwa2 := Lib.hid (HBws1.out.trans (hb.mono HBws1.out.size))
 have dwa2 := Lib.hid (dws1.out.kept (grown_none hb) (fun e => by cases e))
 have HSZwa2 := Lib.hid (Nat.le_trans HSZws1.out (hb).size)
 clear hb hd_
 have HDF2 := Lib.hid hd; clear hd
 have cd0 := dwa2.out.1 0 _ rfl
 have cd1 := dwa2.out.1 1 _ rfl
 have cd2 := dwa2.out.1 2 _ rfl
 have cd3 := dwa2.out.1 3 _ rfl
 have cd4 := dwa2.out.1 4 _ rfl
 have cd5 := dwa2.out.1 5 _ rfl
 have cd6 := dwa2.out.1 6 _ rfl
 have cd7 := dwa2.out.1 7 _ rfl
 have cd8 := dwa2.out.1 8 _ rfl
 have cd9 := dwa2.out.1 9 _ rfl
 have cd10 := dwa2.out.1 10 _ rfl
 have cd11 := dwa2.out.1 11 _ rfl
 have cd12 := dwa2.out.1 12 _ rfl
 have cd13 := dwa2.out.1 13 _ rfl
 have cfd := dwa2.out.2.1
 go_upto_region 4 with fail
 clear cd0 cd1 cd2 cd3 cd4 cd5 cd6 cd7 cd8 cd9 cd10 cd11 cd12 cd13 cfd
 obtain ⟨ws2, hws2⟩ : ∃ z, set14 wa2 (w2.heap.size) (.slice h2.a0 d2.props.length h2.c0) (.slice h2.a1 d2.tags.length h2.c1) (.slice h2.a2 d2.links.length h2.c2) (.slice h2.a3 d2.run.length h2.c3) (.slice h2.a4 d2.load.length h2.c4) (.string d2.nm) (.int .i64 d2.prio) (.string d2.owner) (.string d2.group) (.int .i64 d2.mode) (.string d2.res) (.int .i64 d2.calls) (.int .i64 d2.ticks) (.slice h2.a5 d2.closed.length h2.c5) = z := ⟨_, rfl⟩
 have hgs : wa2.grownBy ws2 (some (w2.heap.size)) := by rw [← hws2]; exact grown14 _ _ _ _ _ _ _ _ _ _ _ _ _ _ _ _
 have hbx_ : BoxL ws2 (w2.heap.size) [.slice h2.a0 d2.props.length h2.c0, .slice h2.a1 d2.tags.length h2.c1, .slice h2.a2 d2.links.length h2.c2, .slice h2.a3 d2.run.length h2.c3, .slice h2.a4 d2.load.length h2.c4, .string d2.nm, .int .i64 d2.prio, .string d2.owner, .string d2.group, .int .i64 d2.mode, .string d2.res, .int .i64 d2.calls, .int .i64 d2.ticks, .slice h2.a5 d2.closed.length h2.c5] := by rw [← hws2]; exact dwa2.out.set14 _ _ _ _ _ _ _ _ _ _ _ _ _ _
 unfold set14 at hws2
 rw [hws2]
 clear hws2
 have HSws2 := Lib.hid hgs.size
 have dws2 := Lib.hid (show BoxL ws2 (w2.heap.size) [.slice h2.a0 d2.props.length h2.c0, .slice h2.a1 d2.tags.length h2.c1, .slice h2.a2 d2.links.length h2.c2, .slice h2.a3 d2.run.length h2.c3, .slice h2.a4 d2.load.length h2.c4, .string d2.nm, .int .i64 d2.prio, .string d2.owner, .string d2.group, .int .i64 d2.mode, .string d2.res, .int .i64 d2.calls, .int .i64 d2.ticks, .slice h2.a5 d2.closed.length h2.c5] from hbx_)
 have HBws2 := Lib.hid (HBwa2.out.grown hgs HBwa2.out.size (fun q hq => by have := Option.some.inj hq; have := HZ.out; omega))
 have HSZws2 := Lib.hid (Nat.le_trans HSZwa2.out (hgs).size)
 have HDFws2 := Lib.hid (HDF2.out.grown hgs (.inl rfl))
 clear hgs hbx_
 have cd0 := dws2.out.1 0 _ rfl
 have cd1 := dws2.out.1 1 _ rfl
 have cd2 := dws2.out.1 2 _ rfl
 have cd3 := dws2.out.1 3 _ rfl
 have cd4 := dws2.out.1 4 _ rfl
 have cd5 := dws2.out.1 5 _ rfl
 have cd6 := dws2.out.1 6 _ rfl
 have cd7 := dws2.out.1 7 _ rfl
 have cd8 := dws2.out.1 8 _ rfl
 have cd9 := dws2.out.1 9 _ rfl
 have cd10 := dws2.out.1 10 _ rfl
 have cd11 := dws2.out.1 11 _ rfl
 have cd12 := dws2.out.1 12 _ rfl
 have cd13 := dws2.out.1 13 _ rfl
 go_wp2_with fail
 refine Calls.mono (R := fun e w' => DPost (fun x => x = w2.heap.size) (applyD d2 k13t3 ⟨#[48, 54, 54, 48]⟩) ws2 e w') ?_ ?_
 · exact Apply_any d2 h2 k13t3 ⟨#[48, 54, 54, 48]⟩ (fun x => x = w2.heap.size) ws2 (fun x hx => by subst hx; have := HZ.out; have := HSZws2.out; omega) HDFws2.out HP2.out ⟨by unfold okI; decide, by decide +kernel, by unfold okI; decide, by decide +kernel⟩ (by decide) (by decide) (HOK.out.next HBws2.out) (H7.out.below HBws2.out)
 rintro e wa3 ⟨hb, h3, rfl, hd⟩
 clear cd0 cd1 cd2 cd3 cd4 cd5 cd6 cd7 cd8 cd9 cd10 cd11 cd12 cd13
 obtain ⟨d3, hd_⟩ : ∃ z, applyD d2 k13t3 ⟨#[48, 54, 54, 48]⟩ = z := ⟨_, rfl⟩
 rw [hd_] at hd ⊢
 have HD3 := Lib.hid (show k13d = d3 by rw [← hd_, ← HD2.out]; rfl); have HP3 := Lib.hid (show PreD d3 by rw [← HD3.out]; exact k13_preD)
 have HSwa3 := Lib.hid (show ws2.heap.size ≤ wa3.heap.size from hb.size)
 have HBwa3 := Lib.hid (HBws2.out.trans (hb.mono HBws2.out.size))
 have dwa3 := Lib.hid (dws2.out.kept (grown_none hb) (fun e => by cases e))
 have HSZwa3 := Lib.hid (Nat.le_trans HSZws2.out (hb).size)
 clear hb hd_
 have HDF3 := Lib.hid hd; clear hd
 have cd0 := dwa3.out.1 0 _ rfl
 have cd1 := dwa3.out.1 1 _ rfl
 have cd2 := dwa3.out.1 2 _ rfl
 have cd3 := dwa3.out.1 3 _ rfl
 have cd4 := dwa3.out.1 4 _ rfl
 have cd5 := dwa3.out.1 5 _ rfl
 have cd6 := dwa3.out.1 6 _ rfl
 have cd7 := dwa3.out.1 7 _ rfl
 have cd8 := dwa3.out.1 8 _ rfl
 have cd9 := dwa3.out.1 9 _ rfl
 have cd10 := dwa3.out.1 10 _ rfl
 have cd11 := dwa3.out.1 11 _ rfl
 have cd12 := dwa3.out.1 12 _ rfl
 have cd13 := dwa3.out.1 13 _ rfl
 have cfd := dwa3.out.2.1
 go_upto_region 5 with fail
 clear cd0 cd1 cd2 cd3 cd4 cd5 cd6 cd7 cd8 cd9 cd10 cd11 cd12 cd13 cfd
 obtain ⟨ws3, hws3⟩ : ∃ z, set14 wa3 (w2.heap.size) (.slice h3.a0 d3.props.length h3.c0) (.slice h3.a1 d3.tags.length h3.c1) (.slice h3.a2 d3.links.length h3.c2) (.slice h3.a3 d3.run.length h3.c3) (.slice h3.a4 d3.load.length h3.c4) (.string d3.nm) (.int .i64 d3.prio) (.string d3.owner) (.string d3.group) (.int .i64 d3.mode) (.string d3.res) (.int .i64 d3.calls) (.int .i64 d3.ticks) (.slice h3.a5 d3.closed.length h3.c5) = z := ⟨_, rfl⟩
 have hgs : wa3.grownBy ws3 (some (w2.heap.size)) := by rw [← hws3]; exact grown14 _ _ _ _ _ _ _ _ _ _ _ _ _ _ _ _
 have hbx_ : BoxL ws3 (w2.heap.size) [.slice h3.a0 d3.props.length h3.c0, .slice h3.a1 d3.tags.length h3.c1, .slice h3.a2 d3.links.length h3.c2, .slice h3.a3 d3.run.length h3.c3, .slice h3.a4 d3.load.length h3.c4, .string d3.nm, .int .i64 d3.prio, .string d3.owner, .string d3.group, .int .i64 d3.mode, .string d3.res, .int .i64 d3.calls, .int .i64 d3.ticks, .slice h3.a5 d3.closed.length h3.c5] := by rw [← hws3]; exact dwa3.out.set14 _ _ _ _ _ _ _ _ _ _ _ _ _ _
 unfold set14 at hws3
 rw [hws3]
 clear hws3
 have HSws3 := Lib.hid hgs.size
 have dws3 := Lib.hid (show BoxL ws3 (w2.heap.size) [.slice h3.a0 d3.props.length h3.c0, .slice h3.a1 d3.tags.length h3.c1, .slice h3.a2 d3.links.length h3.c2, .slice h3.a3 d3.run.length h3.c3, .slice h3.a4 d3.load.length h3.c4, .string d3.nm, .int .i64 d3.prio, .string d3.owner, .string d3.group, .int .i64 d3.mode, .string d3.res, .int .i64 d3.calls, .int .i64 d3.ticks, .slice h3.a5 d3.closed.length h3.c5] from hbx_)
 have HBws3 := Lib.hid (HBwa3.out.grown hgs HBwa3.out.size (fun q hq => by have := Option.some.inj hq; have := HZ.out; omega))
 have HSZws3 := Lib.hid (Nat.le_trans HSZwa3.out (hgs).size)
 have HDFws3 := Lib.hid (HDF3.out.grown hgs (.inl rfl))
 clear hgs hbx_
 have cd0 := dws3.out.1 0 _ rfl
 have cd1 := dws3.out.1 1 _ rfl
 have cd2 := dws3.out.1 2 _ rfl
 have cd3 := dws3.out.1 3 _ rfl
 have cd4 := dws3.out.1 4 _ rfl
 have cd5 := dws3.out.1 5 _ rfl
 have cd6 := dws3.out.1 6 _ rfl
 have cd7 := dws3.out.1 7 _ rfl
 have cd8 := dws3.out.1 8 _ rfl
 have cd9 := dws3.out.1 9 _ rfl
 have cd10 := dws3.out.1 10 _ rfl
 have cd11 := dws3.out.1 11 _ rfl
 have cd12 := dws3.out.1 12 _ rfl
 have cd13 := dws3.out.1 13 _ rfl
 go_wp2_with fail
 refine Calls.mono (R := fun e w' => DPost (fun x => x = w2.heap.size) (applyD d3 k13t4 ⟨#[50]⟩) ws3 e w') ?_ ?_
 · exact Apply_any d3 h3 k13t4 ⟨#[50]⟩ (fun x => x = w2.heap.size) ws3 (fun x hx => by subst hx; have := HZ.out; have := HSZws3.out; omega) HDFws3.out HP3.out ⟨by unfold okI; decide, by decide +kernel, by unfold okI; decide, by decide +kernel⟩ (by decide) (by decide) (HOK.out.next HBws3.out) (H7.out.below HBws3.out)
 rintro e wa4 ⟨hb, h4, rfl, hd⟩
 clear cd0 cd1 cd2 cd3 cd4 cd5 cd6 cd7 cd8 cd9 cd10 cd11 cd12 cd13
 obtain ⟨d4, hd_⟩ : ∃ z, applyD d3 k13t4 ⟨#[50]⟩ = z := ⟨_, rfl⟩
 rw [hd_] at hd ⊢
 have HD4 := Lib.hid (show k13e = d4 by rw [← hd_, ← HD3.out]; rfl); have HP4 := Lib.hid (show PreD d4 by rw [← HD4.out]; exact k13_preE)
 have HSwa4 := Lib.hid (show ws3.heap.size ≤ wa4.heap.size from hb.size)
 have HBwa4 := Lib.hid (HBws3.out.trans (hb.mono HBws3.out.size))
 have dwa4 := Lib.hid (dws3.out.kept (grown_none hb) (fun e => by cases e))
 have HSZwa4 := Lib.hid (Nat.le_trans HSZws3.out (hb).size)
 clear hb hd_
 have HDF4 := Lib.hid hd; clear hd
 have cd0 := dwa4.out.1 0 _ rfl
 have cd1 := dwa4.out.1 1 _ rfl
 have cd2 := dwa4.out.1 2 _ rfl
 have cd3 := dwa4.out.1 3 _ rfl
 have cd4 := dwa4.out.1 4 _ rfl
 have cd5 := dwa4.out.1 5 _ rfl
 have cd6 := dwa4.out.1 6 _ rfl
 have cd7 := dwa4.out.1 7 _ rfl
 have cd8 := dwa4.out.1 8 _ rfl
 have cd9 := dwa4.out.1 9 _ rfl
 have cd10 := dwa4.out.1 10 _ rfl
 have cd11 := dwa4.out.1 11 _ rfl
 have cd12 := dwa4.out.1 12 _ rfl
 have cd13 := dwa4.out.1 13 _ rfl
 have cfd := dwa4.out.2.1
 go_upto_region 6 with fail
 clear cd0 cd1 cd2 cd3 cd4 cd5 cd6 cd7 cd8 cd9 cd10 cd11 cd12 cd13 cfd
 obtain ⟨ws4, hws4⟩ : ∃ z, set14 wa4 (w2.heap.size) (.slice h4.a0 d4.props.length h4.c0) (.slice h4.a1 d4.tags.length h4.c1) (.slice h4.a2 d4.links.length h4.c2) (.slice h4.a3 d4.run.length h4.c3) (.slice h4.a4 d4.load.length h4.c4) (.string d4.nm) (.int .i64 d4.prio) (.string d4.owner) (.string d4.group) (.int .i64 d4.mode) (.string d4.res) (.int .i64 d4.calls) (.int .i64 d4.ticks) (.slice h4.a5 d4.closed.length h4.c5) = z := ⟨_, rfl⟩
 have hgs : wa4.grownBy ws4 (some (w2.heap.size)) := by rw [← hws4]; exact grown14 _ _ _ _ _ _ _ _ _ _ _ _ _ _ _ _
 have hbx_ : BoxL ws4 (w2.heap.size) [.slice h4.a0 d4.props.length h4.c0, .slice h4.a1 d4.tags.length h4.c1, .slice h4.a2 d4.links.length h4.c2, .slice h4.a3 d4.run.length h4.c3, .slice h4.a4 d4.load.length h4.c4, .string d4.nm, .int .i64 d4.prio, .string d4.owner, .string d4.group, .int .i64 d4.mode, .string d4.res, .int .i64 d4.calls, .int .i64 d4.ticks, .slice h4.a5 d4.closed.length h4.c5] := by rw [← hws4]; exact dwa4.out.set14 _ _ _ _ _ _ _ _ _ _ _ _ _ _
 unfold set14 at hws4
 rw [hws4]
 clear hws4
 have HSws4 := Lib.hid hgs.size
 have dws4 := Lib.hid (show BoxL ws4 (w2.heap.size) [.slice h4.a0 d4.props.length h4.c0, .slice h4.a1 d4.tags.length h4.c1, .slice h4.a2 d4.links.length h4.c2, .slice h4.a3 d4.run.length h4.c3, .slice h4.a4 d4.load.length h4.c4, .string d4.nm, .int .i64 d4.prio, .string d4.owner, .string d4.group, .int .i64 d4.mode, .string d4.res, .int .i64 d4.calls, .int .i64 d4.ticks, .slice h4.a5 d4.closed.length h4.c5] from hbx_)
 have HBws4 := Lib.hid (HBwa4.out.grown hgs HBwa4.out.size (fun q hq => by have := Option.some.inj hq; have := HZ.out; omega))
 have HSZws4 := Lib.hid (Nat.le_trans HSZwa4.out (hgs).size)
 have HDFws4 := Lib.hid (HDF4.out.grown hgs (.inl rfl))
 clear hgs hbx_
 have cd0 := dws4.out.1 0 _ rfl
 have cd2 := dws4.out.1 2 _ rfl
 have cd7 := dws4.out.1 7 _ rfl
 have cd9 := dws4.out.1 9 _ rfl
 have cd13 := dws4.out.1 13 _ rfl
 have hds := HDFws4.out.sl
 have hl2 : d4.links = [⟨#[97]⟩, ⟨#[98]⟩] := by rw [← HD4.out]; exact k13_links
 have hs2 := hds.2.2.1
 rw [hl2] at hs2 cd2
 have HS2 := Lib.hid hs2; clear hs2
 have hpl : d4.props = [⟨kID, ⟨#[49, 32, 50]⟩⟩] := by rw [← HD4.out]; exact k13_props
 have hs0 := hds.1
 rw [hpl] at hs0 cd0
 obtain ⟨b3, o3, hA, hb3, hsz, q0, q1⟩ := hs0.attr (i := 0) (by decide)
 rw [hA] at cd0
 have hm : d4.mode = 384 := by rw [← HD4.out]; exact k13_mode
 have ho : d4.owner = ⟨#[114, 111, 111, 116]⟩ := by rw [← HD4.out]; exact k13_owner
 rw [hm] at cd9
 rw [ho] at cd7
 have hcl : d4.closed.length = 1 := by rw [← HD4.out]; exact k13_closed
 rw [hcl] at cd13
 have q1' : ws4.cell? ⟨b3, o3 + 1, none⟩ = some (.string ⟨#[49, 32, 50]⟩) := q1
 have HBO := Lib.hid hb3
 clear hds hs0 hl2 hpl hm ho hcl hsz q0 q1 hb3 hA
 obtain ⟨w8, hw8⟩ : ∃ z, ws4.alloc (.cells #[.string ⟨#[97]⟩, .string ⟨#[98]⟩] 9) = z := ⟨_, rfl⟩
 have hb8 : Below ws4.heap.size ws4 w8 := by rw [← hw8]; exact (Below.refl _ _).alloc (Nat.le_refl _) _
 have HSU := Lib.hid (sl_texts (xs := [⟨#[97]⟩, ⟨#[98]⟩]) (show ws4.alloc (.cells ([(⟨#[97]⟩ : ByteArray), ⟨#[98]⟩].map Value.string).toArray 9) = w8 from hw8) (by decide +kernel) (by decide))
 have HB8 := Lib.hid hb8; clear hb8
 simp only [List.length_cons, List.length_nil, Nat.zero_add] at cd0 cd2
 go_upto_region 6 with fail
 try simp only [hw8]
 go_wp2_with fail
 try rw [hw8]
 refine Calls.mono (R := fun e w' => e = .returned (.bool true) ∧ Below w8.heap.size w8 w') ?_ ?_
 · exact (SameTexts_any h4.a2 (some ⟨ws4.heap.size, 0, none⟩) h4.c2 2 [⟨#[97]⟩, ⟨#[98]⟩] [⟨#[97]⟩, ⟨#[98]⟩] w8 _ _ (HS2.out.keep HB8.out) HSU.out).mono (by rintro e w' ⟨rfl, n, rfl⟩; exact ⟨by rw [decide_eq_true rfl], below_drewN_self _ _ _⟩)
 rintro e w9 ⟨rfl, hb9⟩
 have hb19 := below_next HB8.out hb9
 have hbx := dws4.out.kept (grown_none hb19) (fun e => by cases e)
 have cd0' := (hbx.1 0 _ rfl)
 have e0 : w9.cell? ⟨b3, o3 + 1, none⟩ = some (.string ⟨#[49, 32, 50]⟩) := (hb19.cell (p := ⟨b3, o3 + 1, none⟩) HBO.out).trans q1'
 have HBZ := Lib.hid (below_next HBws4.out hb19)
 have f0 := (hb19.cell (p := ⟨w2.heap.size, 0, none⟩) (show w2.heap.size < ws4.heap.size by have := HZ.out; have := HSZws4.out; omega)).trans cd0
 have f7 := (hb19.cell (p := ⟨w2.heap.size, 7, none⟩) (show w2.heap.size < ws4.heap.size by have := HZ.out; have := HSZws4.out; omega)).trans cd7
 have f9 := (hb19.cell (p := ⟨w2.heap.size, 9, none⟩) (show w2.heap.size < ws4.heap.size by have := HZ.out; have := HSZws4.out; omega)).trans cd9
 have f13 := (hb19.cell (p := ⟨w2.heap.size, 13, none⟩) (show w2.heap.size < ws4.heap.size by have := HZ.out; have := HSZws4.out; omega)).trans cd13
 clear hbx cd0' hb19 hb9 hw8 q1' cd0 cd2 cd7 cd9 cd13
 go_wp2
 go_ret
 exact ⟨by try rfl, HBZ.out⟩
end Go.Proofs.YtjpoljlgkgmdkaaGreatDoor
