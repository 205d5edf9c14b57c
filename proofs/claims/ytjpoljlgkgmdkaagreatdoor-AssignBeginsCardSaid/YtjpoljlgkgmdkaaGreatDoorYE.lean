/-
  The walks of device.Check and of the reference's Check of devices.
-/
import Derived.Test.YtjpoljlgkgmdkaaGreatDoorYC
set_option linter.unusedSimpArgs false
set_option linter.unusedVariables false
namespace Go.Cold
open Go Go.RowKit
theorem valid_size {s : ByteArray} (h : validB s = true) : s.size ≤ 32 := by
 unfold validB at h
 simp only [Bool.and_eq_true, decide_eq_true_eq] at h
 have := h.2.1; omega
theorem named_orig {d : Dev} (h : namedB d = true) : d.orig.size ≤ 32 := by
 unfold namedB at h
 simp only [Bool.and_eq_true] at h
 exact valid_size h.2.1
theorem node_small {d : Dev} (h : d.orig.size ≤ 32) : (nodeV d).size ≤ 32 := by
 unfold nodeV nodeD
 split
 ·
  show (nodeS d.orig).size ≤ 32
  rw [nodeS_size]; exact h
 ·
  show (0 : Nat) ≤ 32
  omega
theorem linkD_yes {d : Dev} (h : (nodeD d).isSome = true) : linkD d = linkB (nodeV d) := by
 unfold linkD nodeV
 cases hn : nodeD d with
 | none => rw [hn] at h; cases h
 | some s => rfl
theorem linkD_no {d : Dev} (h : (nodeD d).isSome = false) : linkD d = true := by
 unfold linkD
 cases hn : nodeD d with
 | none => rfl
 | some s => rw [hn] at h; cases h
theorem node_kind (d : Dev) : (nodeD d).isSome = kindN d.kind := by unfold nodeD kindN; by_cases h : d.kind = 2 ∨ d.kind = 3 <;> simp [h]
end Go.Cold
namespace Go.Proofs.YtjpoljlgkgmdkaaGreatDoor
open Go.RowKit Go.Cold
set_option maxRecDepth 100000 in
set_option maxHeartbeats 8000000 in
theorem RCheck_any (d : Dev) (A : Option Addr) (c : Nat) (w : World) (B : Nat) (hB : B ≤ w.heap.size) (hd : devOk d) (hx : Sl w B A c d.attrs) (hok : Ok w) : Calls Tryz.prog 96 #[.agg #[.int .i64 d.idx, .int .i64 d.par, .string d.nm, .string d.orig, .string d.sub, .string d.drv, .string d.ali, .int .i64 d.kind, .int .i64 d.num, .slice A d.attrs.length c]] w fun e w' => e = .returned (.int .i64 (checkD d)) ∧ Below w.heap.size w w' := by
 have HOK := Lib.hid hok; have HX := Lib.hid hx; have HB := Lib.hid hB; have HD := Lib.hid hd; clear hok hx hB hd
 have hl := HX.out.1; have hl2 := HX.out.2.1; unfold maxLen at hl2
 go_enter Tryz.func96, Tryz.ntmps96
 go_upto_region 1 with fail
 obtain ⟨w1, hw1⟩ : ∃ w1, w.alloc (.cells #[.int .i64 d.idx, .int .i64 d.par, .string d.nm, .string d.orig, .string d.sub, .string d.drv, .string d.ali, .int .i64 d.kind, .int .i64 d.num, .slice A d.attrs.length c] 84) = w1 := ⟨_, rfl⟩
 have hbw1 : Below w.heap.size w w1 := by rw [← hw1]; exact (Below.refl _ _).alloc (Nat.le_refl _) _
 have HGw1 := Lib.hid (show w1.heap.size = w.heap.size + 1 by rw [← hw1]; simp)
 have HXpw1 := Lib.hid (show BoxL w1 w.heap.size [.int .i64 d.idx, .int .i64 d.par, .string d.nm, .string d.orig, .string d.sub, .string d.drv, .string d.ali, .int .i64 d.kind, .int .i64 d.num, .slice A d.attrs.length c] from box_mk hw1)
 try simp only [hw1]
 have HBw1 := Lib.hid hbw1
 clear hw1 hbw1
 try rw [show w.heap.size + 1 = w1.heap.size from HGw1.out.symm]
 have cp0 := HXpw1.out.1 0 _ rfl
 have cp1 := HXpw1.out.1 1 _ rfl
 have cp2 := HXpw1.out.1 2 _ rfl
 have cp3 := HXpw1.out.1 3 _ rfl
 have cp4 := HXpw1.out.1 4 _ rfl
 have cp5 := HXpw1.out.1 5 _ rfl
 have cp6 := HXpw1.out.1 6 _ rfl
 have cp7 := HXpw1.out.1 7 _ rfl
 have cp8 := HXpw1.out.1 8 _ rfl
 have cp9 := HXpw1.out.1 9 _ rfl
 by_cases h : d.idx < 1
 ·
  have eHT1 : decide (d.idx < 1) = true := decide_eq_true h
  have HR := Lib.hid (show rangeB d = false by unfold rangeB withinB; rw [Bool.eq_false_iff]; intro hc; simp only [Bool.and_eq_true, decide_eq_true_eq] at hc; omega)
  clear h
  go_wp2
  go_ret
  exact ⟨ret_int (by rw [checkD_eq]; simp [HR.out]), HBw1.out⟩
 ·
  have eHT1 : decide (d.idx < 1) = false := decide_eq_false h
  have HT1 := Lib.hid h
  by_cases h : 1073741824 < d.idx
  ·
   have eHT2 : decide (1073741824 < d.idx) = true := decide_eq_true h
   have HR := Lib.hid (show rangeB d = false by unfold rangeB withinB; rw [Bool.eq_false_iff]; intro hc; simp only [Bool.and_eq_true, decide_eq_true_eq] at hc; omega)
   clear h
   go_wp2
   go_ret
   exact ⟨ret_int (by rw [checkD_eq]; simp [HR.out]), HBw1.out⟩
  ·
   have eHT2 : decide (1073741824 < d.idx) = false := decide_eq_false h
   have HT2 := Lib.hid h
   by_cases h : d.par < 0
   ·
    have eHT3 : decide (d.par < 0) = true := decide_eq_true h
    have HR := Lib.hid (show rangeB d = false by unfold rangeB withinB; rw [Bool.eq_false_iff]; intro hc; simp only [Bool.and_eq_true, decide_eq_true_eq] at hc; omega)
    clear h
    go_wp2
    go_ret
    exact ⟨ret_int (by rw [checkD_eq]; simp [HR.out]), HBw1.out⟩
   ·
    have eHT3 : decide (d.par < 0) = false := decide_eq_false h
    have HT3 := Lib.hid h
    by_cases h : 1073741824 < d.par
    ·
     have eHT4 : decide (1073741824 < d.par) = true := decide_eq_true h
     have HR := Lib.hid (show rangeB d = false by unfold rangeB withinB; rw [Bool.eq_false_iff]; intro hc; simp only [Bool.and_eq_true, decide_eq_true_eq] at hc; omega)
     clear h
     go_wp2
     go_ret
     exact ⟨ret_int (by rw [checkD_eq]; simp [HR.out]), HBw1.out⟩
    ·
     have eHT4 : decide (1073741824 < d.par) = false := decide_eq_false h
     have HT4 := Lib.hid h
     by_cases h3 : d.par = d.idx
     ·
      have e3 : (d.par == d.idx) = true := beq_iff_eq.2 h3
      have HR := Lib.hid (show rangeB d = false by unfold rangeB; simp [h3]); clear h3
      go_wp2
      go_ret
      exact ⟨ret_int (by rw [checkD_eq]; simp [HR.out]), HBw1.out⟩
     ·
      have e3 : (d.par == d.idx) = false := beq_eq_false_iff_ne.2 h3
      have HR := Lib.hid (show rangeB d = true by have a1 := HT1.out; have a2 := HT2.out; have a3 := HT3.out; have a4 := HT4.out; unfold rangeB withinB; simp only [Bool.and_eq_true, decide_eq_true_eq, Bool.not_eq_true', decide_eq_false_iff_not]; omega); clear h3
      go_wp2_with fail
      refine (RValid_any d.nm _ HD.out.2.2.1).mono ?_
      rintro e w' ⟨rfl, rfl⟩
      cases h0 : validB d.nm with
      | false =>
       have HN0 := Lib.hid h0; clear h0
       have HN := Lib.hid (show namedB d = false by unfold namedB; simp [HN0.out])
       go_wp2
       go_ret
       exact ⟨ret_int (by rw [checkD_eq]; simp [HR.out, HN.out]), HBw1.out⟩
      | true =>
       have HN0 := Lib.hid h0; clear h0
       go_wp2_with fail
       refine (RValid_any d.orig _ HD.out.2.2.2.1).mono ?_
       rintro e w' ⟨rfl, rfl⟩
       cases h1 : validB d.orig with
       | false =>
        have HN1 := Lib.hid h1; clear h1
        have HN := Lib.hid (show namedB d = false by unfold namedB; simp [HN0.out, HN1.out])
        go_wp2
        go_ret
        exact ⟨ret_int (by rw [checkD_eq]; simp [HR.out, HN.out]), HBw1.out⟩
       | true =>
        have HN1 := Lib.hid h1; clear h1
        go_wp2_with fail
        refine (RValid_any d.sub _ HD.out.2.2.2.2.1).mono ?_
        rintro e w' ⟨rfl, rfl⟩
        cases h2 : validB d.sub with
        | false =>
         have HN2 := Lib.hid h2; clear h2
         have HN := Lib.hid (show namedB d = false by unfold namedB; simp [HN0.out, HN1.out, HN2.out])
         go_wp2
         go_ret
         exact ⟨ret_int (by rw [checkD_eq]; simp [HR.out, HN.out]), HBw1.out⟩
        | true =>
         have HN2 := Lib.hid h2; clear h2
         cases h3 : d.drv.toList.isEmpty with
         | true =>
          have h3b : d.drv.toList = [] := List.isEmpty_iff.1 h3
          have HN3 := Lib.hid h3
          go_wp2_with fail
          refine (RText_any d.ali _ HD.out.2.2.2.2.2.2.1).mono ?_
          rintro e w' ⟨rfl, rfl⟩
          cases h5 : textB d.ali with
          | false =>
           have HN5 := Lib.hid h5; clear h5
           have HN := Lib.hid (show namedB d = false by unfold namedB; simp [HN0.out, HN1.out, HN2.out, HN3.out, HN5.out])
           go_wp2
           go_ret
           exact ⟨ret_int (by rw [checkD_eq]; simp [HR.out, HN.out]), HBw1.out⟩
          | true =>
           have HN5 := Lib.hid h5; clear h5
           have HN := Lib.hid (show namedB d = true by unfold namedB; simp [HN0.out, HN1.out, HN2.out, HN3.out, HN5.out])
           by_cases h : d.kind < 1
           ·
            have eHK1 : decide (d.kind < 1) = true := decide_eq_true h
            have HK := Lib.hid (show kindB d = false by unfold kindB; rw [if_neg (by omega)]; rw [decide_eq_false (by omega)]; rfl)
            clear h
            go_wp2
            go_ret
            exact ⟨ret_int (by rw [checkD_eq]; simp [HR.out, HN.out, HK.out]), HBw1.out⟩
           ·
            have eHK1 : decide (d.kind < 1) = false := decide_eq_false h
            have HK1 := Lib.hid h
            by_cases h : 4 < d.kind
            ·
             have eHK2 : decide (4 < d.kind) = true := decide_eq_true h
             have HK := Lib.hid (show kindB d = false by unfold kindB; rw [if_neg (by omega)]; rw [decide_eq_false (by omega)]; rfl)
             clear h
             go_wp2
             go_ret
             exact ⟨ret_int (by rw [checkD_eq]; simp [HR.out, HN.out, HK.out]), HBw1.out⟩
            ·
             have eHK2 : decide (4 < d.kind) = false := decide_eq_false h
             have HK2 := Lib.hid h
             by_cases h4 : d.kind = 4
             ·
              have e4 : (d.kind == 4) = true := beq_iff_eq.2 h4
              have e4n : (d.kind != 4) = false := by simp [h4]
              have H4 := Lib.hid h4; clear h4
              go_wp2_with fail
              refine (RInterface_any d.nm _ HD.out.2.2.1).mono ?_
              rintro e w' ⟨rfl, rfl⟩
              cases h1 : ifaceB d.nm with
              | false =>
               have HK := Lib.hid (show kindB d = false by unfold kindB; rw [if_pos H4.out, h1]; rfl); clear h1
               go_wp2
               go_ret
               exact ⟨ret_int (by rw [checkD_eq]; simp [HR.out, HN.out, HK.out]), HBw1.out⟩
              | true =>
               have H1 := Lib.hid h1; clear h1
               go_wp2_with fail
               refine (RInterface_any d.orig _ HD.out.2.2.2.1).mono ?_
               rintro e w' ⟨rfl, rfl⟩
               cases h2 : ifaceB d.orig with
               | false =>
                have HK := Lib.hid (show kindB d = false by unfold kindB; rw [if_pos H4.out, H1.out, h2]; rfl); clear h2
                go_wp2
                go_ret
                exact ⟨ret_int (by rw [checkD_eq]; simp [HR.out, HN.out, HK.out]), HBw1.out⟩
               | true =>
                have HK := Lib.hid (show kindB d = true by unfold kindB; rw [if_pos H4.out, H1.out, h2]; rfl); clear h2
                go_wp2_with fail
                refine (RNode_any d A c _ (by have := named_orig HN.out; omega) (HOK.out.next HBw1.out)).mono ?_
                rintro e w2 ⟨rfl, hbw2⟩
                clear cp0 cp1 cp2 cp3 cp4 cp5 cp6 cp7 cp8 cp9
                have HBw2 := Lib.hid (HBw1.out.trans (hbw2.mono HBw1.out.size))
                have pw2 := Lib.hid (HXpw1.out.kept (grown_none hbw2) (fun e => by cases e))
                clear hbw2
                have cp0 := pw2.out.1 0 _ rfl
                have cp1 := pw2.out.1 1 _ rfl
                have cp2 := pw2.out.1 2 _ rfl
                have cp3 := pw2.out.1 3 _ rfl
                have cp4 := pw2.out.1 4 _ rfl
                have cp5 := pw2.out.1 5 _ rfl
                have cp6 := pw2.out.1 6 _ rfl
                have cp7 := pw2.out.1 7 _ rfl
                have cp8 := pw2.out.1 8 _ rfl
                have cp9 := pw2.out.1 9 _ rfl
                cases h9 : (nodeD d).isSome with
                | false =>
                 have HKN := Lib.hid ((node_kind d).symm.trans h9)
                 have HZ := Lib.hid (linkD_no h9); clear h9
                 by_cases h6 : d.num = 0
                 ·
                  have e6 : (d.num != 0) = false := by simp [h6]
                  have e6b : (d.num == 0) = true := beq_iff_eq.2 h6
                  have HU := Lib.hid (show numberB d = true by unfold numberB; rw [if_neg (by rw [HKN.out]; decide)]; exact decide_eq_true h6); clear h6
                  by_cases h7 : d.attrs.length ≤ 24
                  ·
                   have i7 : ¬ (24 : Int) < (d.attrs.length : Int) := by omega
                   have HL := Lib.hid h7; clear h7
                   go_wp2_with fail
                   have HXC := Lib.hid (HX.out.keep (HBw2.out.mono HB.out))
                   go_loop [5] (fun i => ∃ k : Nat, k ≤ d.attrs.length ∧ i = .int .i64 k ∧ Hid ((d.attrs.take k).all attrB = true)) (fun i => d.attrs.length - (intOf i).toNat)
                   case atStart => exact ⟨0, Nat.zero_le _, rfl, rfl⟩
                   case round =>
                    obtain ⟨k, hk, rfl, HA⟩ := hrel
                    by_cases hlt : k < d.attrs.length
                    ·
                     obtain ⟨b3, o3, rfl, _, hsz, cx0, cx1⟩ := HXC.out.attr hlt
                     have hxk : d.attrs[k]? = some d.attrs[k] := List.getElem?_eq_getElem hlt
                     obtain ⟨x, hx⟩ : ∃ x, d.attrs[k]'hlt = x := ⟨_, rfl⟩
                     rw [hx] at cx0 cx1 hsz hxk
                     have HXK := Lib.hid hxk; have HSZ := Lib.hid hsz
                     clear hx hxk hsz
                     have i1 : (k : Int) < (d.attrs.length : Int) := by omega
                     go_wp2_with fail
                     refine (RValid_any x.name _ HSZ.out.1).mono ?_
                     rintro e w' ⟨rfl, rfl⟩
                     cases h1 : validB x.name with
                     | false =>
                      have H1 := Lib.hid h1; clear h1
                      have HA2 := Lib.hid (show attrsB d.attrs = false by unfold attrsB; rw [all_stop (p := attrB) HXK.out (by unfold attrB; simp [H1.out]), Bool.and_false])
                      go_wp2
                      go_ret
                      exact ⟨ret_int (by rw [checkD_eq]; simp [HR.out, HN.out, HK.out, HU.out, HL.out, HA2.out]), HBw2.out⟩
                     | true =>
                      have H1 := Lib.hid h1; clear h1
                      go_wp2_with fail
                      refine (RText_any x.value _ HSZ.out.2).mono ?_
                      rintro e w' ⟨rfl, rfl⟩
                      cases h2 : textB x.value with
                      | false =>
                       have H2 := Lib.hid h2; clear h2
                       have HA2 := Lib.hid (show attrsB d.attrs = false by unfold attrsB; rw [all_stop (p := attrB) HXK.out (by unfold attrB; simp [H1.out, H2.out]), Bool.and_false])
                       go_wp2
                       go_ret
                       exact ⟨ret_int (by rw [checkD_eq]; simp [HR.out, HN.out, HK.out, HU.out, HL.out, HA2.out]), HBw2.out⟩
                      | true =>
                       have H2 := Lib.hid h2; clear h2
                       cases h3 : x.value.toList.isEmpty with
                       | true =>
                        have h3b : x.value.toList = [] := List.isEmpty_iff.1 h3
                        have H3 := Lib.hid h3
                        have HA2 := Lib.hid (show attrsB d.attrs = false by unfold attrsB; rw [all_stop (p := attrB) HXK.out (by unfold attrB; simp [H1.out, H2.out, H3.out]), Bool.and_false])
                        go_wp2
                        go_ret
                        exact ⟨ret_int (by rw [checkD_eq]; simp [HR.out, HN.out, HK.out, HU.out, HL.out, HA2.out]), HBw2.out⟩
                       | false =>
                        have h3b : ¬ x.value.toList = [] := fun h => by rw [h] at h3; cases h3
                        have H3 := Lib.hid h3
                        go_wp2
                        go_round
                        case rel => exact ⟨k + 1, by omega, by go_num, all_step HA.out HXK.out (by unfold attrB; simp [H1.out, H2.out, H3.out])⟩
                        case measure => simp [intOf]; omega
                    ·
                     have i1 : ¬ (k : Int) < (d.attrs.length : Int) := by omega
                     have HALL := Lib.hid (all_end HA.out (by omega))
                     go_wp2_with fail
                     refine (RSorted_any A c d.attrs _ B HXC.out).mono ?_
                     rintro e w3 ⟨rfl, hbw3⟩
                     clear cp0 cp1 cp2 cp3 cp4 cp5 cp6 cp7 cp8 cp9
                     have HBw3 := Lib.hid (HBw2.out.trans (hbw3.mono HBw2.out.size))
                     have pw3 := Lib.hid (pw2.out.kept (grown_none hbw3) (fun e => by cases e))
                     clear hbw3
                     have cp0 := pw3.out.1 0 _ rfl
                     have cp1 := pw3.out.1 1 _ rfl
                     have cp2 := pw3.out.1 2 _ rfl
                     have cp3 := pw3.out.1 3 _ rfl
                     have cp4 := pw3.out.1 4 _ rfl
                     have cp5 := pw3.out.1 5 _ rfl
                     have cp6 := pw3.out.1 6 _ rfl
                     have cp7 := pw3.out.1 7 _ rfl
                     have cp8 := pw3.out.1 8 _ rfl
                     have cp9 := pw3.out.1 9 _ rfl
                     cases hs : sortedA d.attrs with
                     | false =>
                      have HA2 := Lib.hid (show attrsB d.attrs = false by unfold attrsB; rw [hs]; rfl); clear hs
                      go_wp2
                      go_ret
                      exact ⟨ret_int (by rw [checkD_eq]; simp [HR.out, HN.out, HK.out, HU.out, HL.out, HA2.out]), HBw3.out⟩
                     | true =>
                      have HA2 := Lib.hid (show attrsB d.attrs = true by unfold attrsB; rw [hs, HALL.out]; rfl); clear hs
                      go_wp2
                      go_ret
                      exact ⟨ret_int (by rw [checkD_eq]; simp [HR.out, HN.out, HK.out, HU.out, HL.out, HA2.out, HZ.out]), HBw3.out⟩
                  ·
                   have i7 : (24 : Int) < (d.attrs.length : Int) := by omega
                   have HL := Lib.hid h7; clear h7
                   go_wp2
                   go_ret
                   exact ⟨ret_int (by rw [checkD_eq]; simp [HR.out, HN.out, HK.out, HU.out, HL.out]), HBw2.out⟩
                 ·
                  have e6 : (d.num != 0) = true := by simp [h6]
                  have e6b : (d.num == 0) = false := beq_eq_false_iff_ne.2 h6
                  have HU := Lib.hid (show numberB d = false by unfold numberB; rw [if_neg (by rw [HKN.out]; decide)]; exact decide_eq_false h6); clear h6
                  go_wp2
                  go_ret
                  exact ⟨ret_int (by rw [checkD_eq]; simp [HR.out, HN.out, HK.out, HU.out]), HBw2.out⟩
                | true =>
                 have HKN := Lib.hid ((node_kind d).symm.trans h9)
                 have HZ := Lib.hid (linkD_yes h9); clear h9
                 by_cases h : d.num < 1
                 ·
                  have eHU1 : decide (d.num < 1) = true := decide_eq_true h
                  have HU := Lib.hid (show numberB d = false by unfold numberB withinB; rw [if_pos HKN.out]; rw [Bool.eq_false_iff]; intro hc; simp only [Bool.and_eq_true, decide_eq_true_eq] at hc; omega)
                  clear h
                  go_wp2
                  go_ret
                  exact ⟨ret_int (by rw [checkD_eq]; simp [HR.out, HN.out, HK.out, HU.out]), HBw2.out⟩
                 ·
                  have eHU1 : decide (d.num < 1) = false := decide_eq_false h
                  have HU1 := Lib.hid h
                  by_cases h : 1073741824 < d.num
                  ·
                   have eHU2 : decide (1073741824 < d.num) = true := decide_eq_true h
                   have HU := Lib.hid (show numberB d = false by unfold numberB withinB; rw [if_pos HKN.out]; rw [Bool.eq_false_iff]; intro hc; simp only [Bool.and_eq_true, decide_eq_true_eq] at hc; omega)
                   clear h
                   go_wp2
                   go_ret
                   exact ⟨ret_int (by rw [checkD_eq]; simp [HR.out, HN.out, HK.out, HU.out]), HBw2.out⟩
                  ·
                   have eHU2 : decide (1073741824 < d.num) = false := decide_eq_false h
                   have HU2 := Lib.hid h
                   have HU := Lib.hid (show numberB d = true by have a1 := HU1.out; have a2 := HU2.out; unfold numberB withinB; rw [if_pos HKN.out]; simp only [Bool.and_eq_true, decide_eq_true_eq]; omega)
                   by_cases h7 : d.attrs.length ≤ 24
                   ·
                    have i7 : ¬ (24 : Int) < (d.attrs.length : Int) := by omega
                    have HL := Lib.hid h7; clear h7
                    go_wp2_with fail
                    have HXC := Lib.hid (HX.out.keep (HBw2.out.mono HB.out))
                    go_loop [5] (fun i => ∃ k : Nat, k ≤ d.attrs.length ∧ i = .int .i64 k ∧ Hid ((d.attrs.take k).all attrB = true)) (fun i => d.attrs.length - (intOf i).toNat)
                    case atStart => exact ⟨0, Nat.zero_le _, rfl, rfl⟩
                    case round =>
                     obtain ⟨k, hk, rfl, HA⟩ := hrel
                     by_cases hlt : k < d.attrs.length
                     ·
                      obtain ⟨b3, o3, rfl, _, hsz, cx0, cx1⟩ := HXC.out.attr hlt
                      have hxk : d.attrs[k]? = some d.attrs[k] := List.getElem?_eq_getElem hlt
                      obtain ⟨x, hx⟩ : ∃ x, d.attrs[k]'hlt = x := ⟨_, rfl⟩
                      rw [hx] at cx0 cx1 hsz hxk
                      have HXK := Lib.hid hxk; have HSZ := Lib.hid hsz
                      clear hx hxk hsz
                      have i1 : (k : Int) < (d.attrs.length : Int) := by omega
                      go_wp2_with fail
                      refine (RValid_any x.name _ HSZ.out.1).mono ?_
                      rintro e w' ⟨rfl, rfl⟩
                      cases h1 : validB x.name with
                      | false =>
                       have H1 := Lib.hid h1; clear h1
                       have HA2 := Lib.hid (show attrsB d.attrs = false by unfold attrsB; rw [all_stop (p := attrB) HXK.out (by unfold attrB; simp [H1.out]), Bool.and_false])
                       go_wp2
                       go_ret
                       exact ⟨ret_int (by rw [checkD_eq]; simp [HR.out, HN.out, HK.out, HU.out, HL.out, HA2.out]), HBw2.out⟩
                      | true =>
                       have H1 := Lib.hid h1; clear h1
                       go_wp2_with fail
                       refine (RText_any x.value _ HSZ.out.2).mono ?_
                       rintro e w' ⟨rfl, rfl⟩
                       cases h2 : textB x.value with
                       | false =>
                        have H2 := Lib.hid h2; clear h2
                        have HA2 := Lib.hid (show attrsB d.attrs = false by unfold attrsB; rw [all_stop (p := attrB) HXK.out (by unfold attrB; simp [H1.out, H2.out]), Bool.and_false])
                        go_wp2
                        go_ret
                        exact ⟨ret_int (by rw [checkD_eq]; simp [HR.out, HN.out, HK.out, HU.out, HL.out, HA2.out]), HBw2.out⟩
                       | true =>
                        have H2 := Lib.hid h2; clear h2
                        cases h3 : x.value.toList.isEmpty with
                        | true =>
                         have h3b : x.value.toList = [] := List.isEmpty_iff.1 h3
                         have H3 := Lib.hid h3
                         have HA2 := Lib.hid (show attrsB d.attrs = false by unfold attrsB; rw [all_stop (p := attrB) HXK.out (by unfold attrB; simp [H1.out, H2.out, H3.out]), Bool.and_false])
                         go_wp2
                         go_ret
                         exact ⟨ret_int (by rw [checkD_eq]; simp [HR.out, HN.out, HK.out, HU.out, HL.out, HA2.out]), HBw2.out⟩
                        | false =>
                         have h3b : ¬ x.value.toList = [] := fun h => by rw [h] at h3; cases h3
                         have H3 := Lib.hid h3
                         go_wp2
                         go_round
                         case rel => exact ⟨k + 1, by omega, by go_num, all_step HA.out HXK.out (by unfold attrB; simp [H1.out, H2.out, H3.out])⟩
                         case measure => simp [intOf]; omega
                     ·
                      have i1 : ¬ (k : Int) < (d.attrs.length : Int) := by omega
                      have HALL := Lib.hid (all_end HA.out (by omega))
                      go_wp2_with fail
                      refine (RSorted_any A c d.attrs _ B HXC.out).mono ?_
                      rintro e w4 ⟨rfl, hbw4⟩
                      clear cp0 cp1 cp2 cp3 cp4 cp5 cp6 cp7 cp8 cp9
                      have HBw4 := Lib.hid (HBw2.out.trans (hbw4.mono HBw2.out.size))
                      have pw4 := Lib.hid (pw2.out.kept (grown_none hbw4) (fun e => by cases e))
                      clear hbw4
                      have cp0 := pw4.out.1 0 _ rfl
                      have cp1 := pw4.out.1 1 _ rfl
                      have cp2 := pw4.out.1 2 _ rfl
                      have cp3 := pw4.out.1 3 _ rfl
                      have cp4 := pw4.out.1 4 _ rfl
                      have cp5 := pw4.out.1 5 _ rfl
                      have cp6 := pw4.out.1 6 _ rfl
                      have cp7 := pw4.out.1 7 _ rfl
                      have cp8 := pw4.out.1 8 _ rfl
                      have cp9 := pw4.out.1 9 _ rfl
                      cases hs : sortedA d.attrs with
                      | false =>
                       have HA2 := Lib.hid (show attrsB d.attrs = false by unfold attrsB; rw [hs]; rfl); clear hs
                       go_wp2
                       go_ret
                       exact ⟨ret_int (by rw [checkD_eq]; simp [HR.out, HN.out, HK.out, HU.out, HL.out, HA2.out]), HBw4.out⟩
                      | true =>
                       have HA2 := Lib.hid (show attrsB d.attrs = true by unfold attrsB; rw [hs, HALL.out]; rfl); clear hs
                       go_wp2_with fail
                       refine (RLink_any (nodeV d) _ (by have := node_small (named_orig HN.out); omega) (HOK.out.next HBw4.out)).mono ?_
                       rintro e w5 ⟨rfl, hbw5⟩
                       clear cp0 cp1 cp2 cp3 cp4 cp5 cp6 cp7 cp8 cp9
                       have HBw5 := Lib.hid (HBw4.out.trans (hbw5.mono HBw4.out.size))
                       have pw5 := Lib.hid (pw4.out.kept (grown_none hbw5) (fun e => by cases e))
                       clear hbw5
                       have cp0 := pw5.out.1 0 _ rfl
                       have cp1 := pw5.out.1 1 _ rfl
                       have cp2 := pw5.out.1 2 _ rfl
                       have cp3 := pw5.out.1 3 _ rfl
                       have cp4 := pw5.out.1 4 _ rfl
                       have cp5 := pw5.out.1 5 _ rfl
                       have cp6 := pw5.out.1 6 _ rfl
                       have cp7 := pw5.out.1 7 _ rfl
                       have cp8 := pw5.out.1 8 _ rfl
                       have cp9 := pw5.out.1 9 _ rfl
                       cases h10 : linkB (nodeV d) with
                       | false =>
                        have HZ2 := Lib.hid (HZ.out.trans h10); clear h10
                        go_wp2
                        go_ret
                        exact ⟨ret_int (by rw [checkD_eq]; simp [HR.out, HN.out, HK.out, HU.out, HL.out, HA2.out, HZ2.out]), HBw5.out⟩
                       | true =>
                        have HZ2 := Lib.hid (HZ.out.trans h10); clear h10
                        go_wp2
                        go_ret
                        exact ⟨ret_int (by rw [checkD_eq]; simp [HR.out, HN.out, HK.out, HU.out, HL.out, HA2.out, HZ2.out]), HBw5.out⟩
                   ·
                    have i7 : (24 : Int) < (d.attrs.length : Int) := by omega
                    have HL := Lib.hid h7; clear h7
                    go_wp2
                    go_ret
                    exact ⟨ret_int (by rw [checkD_eq]; simp [HR.out, HN.out, HK.out, HU.out, HL.out]), HBw2.out⟩
             ·
              have e4 : (d.kind == 4) = false := beq_eq_false_iff_ne.2 h4
              have e4n : (d.kind != 4) = true := by simp [h4]
              have H4 := Lib.hid h4
              by_cases h5 : d.nm = d.orig
              ·
               have e5 : (d.nm.toList == d.orig.toList) = true := by rw [ba_beq]; exact decide_eq_true h5
               have HK := Lib.hid (show kindB d = true by have a1 := HK1.out; have a2 := HK2.out; unfold kindB; rw [if_neg h4, decide_eq_true h5, decide_eq_true (by omega)]; rfl); clear h4 h5
               go_wp2_with fail
               refine (RNode_any d A c _ (by have := named_orig HN.out; omega) (HOK.out.next HBw1.out)).mono ?_
               rintro e w6 ⟨rfl, hbw6⟩
               clear cp0 cp1 cp2 cp3 cp4 cp5 cp6 cp7 cp8 cp9
               have HBw6 := Lib.hid (HBw1.out.trans (hbw6.mono HBw1.out.size))
               have pw6 := Lib.hid (HXpw1.out.kept (grown_none hbw6) (fun e => by cases e))
               clear hbw6
               have cp0 := pw6.out.1 0 _ rfl
               have cp1 := pw6.out.1 1 _ rfl
               have cp2 := pw6.out.1 2 _ rfl
               have cp3 := pw6.out.1 3 _ rfl
               have cp4 := pw6.out.1 4 _ rfl
               have cp5 := pw6.out.1 5 _ rfl
               have cp6 := pw6.out.1 6 _ rfl
               have cp7 := pw6.out.1 7 _ rfl
               have cp8 := pw6.out.1 8 _ rfl
               have cp9 := pw6.out.1 9 _ rfl
               cases h9 : (nodeD d).isSome with
               | false =>
                have HKN := Lib.hid ((node_kind d).symm.trans h9)
                have HZ := Lib.hid (linkD_no h9); clear h9
                by_cases h6 : d.num = 0
                ·
                 have e6 : (d.num != 0) = false := by simp [h6]
                 have e6b : (d.num == 0) = true := beq_iff_eq.2 h6
                 have HU := Lib.hid (show numberB d = true by unfold numberB; rw [if_neg (by rw [HKN.out]; decide)]; exact decide_eq_true h6); clear h6
                 by_cases h7 : d.attrs.length ≤ 24
                 ·
                  have i7 : ¬ (24 : Int) < (d.attrs.length : Int) := by omega
                  have HL := Lib.hid h7; clear h7
                  go_wp2_with fail
                  have HXC := Lib.hid (HX.out.keep (HBw6.out.mono HB.out))
                  go_loop [5] (fun i => ∃ k : Nat, k ≤ d.attrs.length ∧ i = .int .i64 k ∧ Hid ((d.attrs.take k).all attrB = true)) (fun i => d.attrs.length - (intOf i).toNat)
                  case atStart => exact ⟨0, Nat.zero_le _, rfl, rfl⟩
                  case round =>
                   obtain ⟨k, hk, rfl, HA⟩ := hrel
                   by_cases hlt : k < d.attrs.length
                   ·
                    obtain ⟨b3, o3, rfl, _, hsz, cx0, cx1⟩ := HXC.out.attr hlt
                    have hxk : d.attrs[k]? = some d.attrs[k] := List.getElem?_eq_getElem hlt
                    obtain ⟨x, hx⟩ : ∃ x, d.attrs[k]'hlt = x := ⟨_, rfl⟩
                    rw [hx] at cx0 cx1 hsz hxk
                    have HXK := Lib.hid hxk; have HSZ := Lib.hid hsz
                    clear hx hxk hsz
                    have i1 : (k : Int) < (d.attrs.length : Int) := by omega
                    go_wp2_with fail
                    refine (RValid_any x.name _ HSZ.out.1).mono ?_
                    rintro e w' ⟨rfl, rfl⟩
                    cases h1 : validB x.name with
                    | false =>
                     have H1 := Lib.hid h1; clear h1
                     have HA2 := Lib.hid (show attrsB d.attrs = false by unfold attrsB; rw [all_stop (p := attrB) HXK.out (by unfold attrB; simp [H1.out]), Bool.and_false])
                     go_wp2
                     go_ret
                     exact ⟨ret_int (by rw [checkD_eq]; simp [HR.out, HN.out, HK.out, HU.out, HL.out, HA2.out]), HBw6.out⟩
                    | true =>
                     have H1 := Lib.hid h1; clear h1
                     go_wp2_with fail
                     refine (RText_any x.value _ HSZ.out.2).mono ?_
                     rintro e w' ⟨rfl, rfl⟩
                     cases h2 : textB x.value with
                     | false =>
                      have H2 := Lib.hid h2; clear h2
                      have HA2 := Lib.hid (show attrsB d.attrs = false by unfold attrsB; rw [all_stop (p := attrB) HXK.out (by unfold attrB; simp [H1.out, H2.out]), Bool.and_false])
                      go_wp2
                      go_ret
                      exact ⟨ret_int (by rw [checkD_eq]; simp [HR.out, HN.out, HK.out, HU.out, HL.out, HA2.out]), HBw6.out⟩
                     | true =>
                      have H2 := Lib.hid h2; clear h2
                      cases h3 : x.value.toList.isEmpty with
                      | true =>
                       have h3b : x.value.toList = [] := List.isEmpty_iff.1 h3
                       have H3 := Lib.hid h3
                       have HA2 := Lib.hid (show attrsB d.attrs = false by unfold attrsB; rw [all_stop (p := attrB) HXK.out (by unfold attrB; simp [H1.out, H2.out, H3.out]), Bool.and_false])
                       go_wp2
                       go_ret
                       exact ⟨ret_int (by rw [checkD_eq]; simp [HR.out, HN.out, HK.out, HU.out, HL.out, HA2.out]), HBw6.out⟩
                      | false =>
                       have h3b : ¬ x.value.toList = [] := fun h => by rw [h] at h3; cases h3
                       have H3 := Lib.hid h3
                       go_wp2
                       go_round
                       case rel => exact ⟨k + 1, by omega, by go_num, all_step HA.out HXK.out (by unfold attrB; simp [H1.out, H2.out, H3.out])⟩
                       case measure => simp [intOf]; omega
                   ·
                    have i1 : ¬ (k : Int) < (d.attrs.length : Int) := by omega
                    have HALL := Lib.hid (all_end HA.out (by omega))
                    go_wp2_with fail
                    refine (RSorted_any A c d.attrs _ B HXC.out).mono ?_
                    rintro e w7 ⟨rfl, hbw7⟩
                    clear cp0 cp1 cp2 cp3 cp4 cp5 cp6 cp7 cp8 cp9
                    have HBw7 := Lib.hid (HBw6.out.trans (hbw7.mono HBw6.out.size))
                    have pw7 := Lib.hid (pw6.out.kept (grown_none hbw7) (fun e => by cases e))
                    clear hbw7
                    have cp0 := pw7.out.1 0 _ rfl
                    have cp1 := pw7.out.1 1 _ rfl
                    have cp2 := pw7.out.1 2 _ rfl
                    have cp3 := pw7.out.1 3 _ rfl
                    have cp4 := pw7.out.1 4 _ rfl
                    have cp5 := pw7.out.1 5 _ rfl
                    have cp6 := pw7.out.1 6 _ rfl
                    have cp7 := pw7.out.1 7 _ rfl
                    have cp8 := pw7.out.1 8 _ rfl
                    have cp9 := pw7.out.1 9 _ rfl
                    cases hs : sortedA d.attrs with
                    | false =>
                     have HA2 := Lib.hid (show attrsB d.attrs = false by unfold attrsB; rw [hs]; rfl); clear hs
                     go_wp2
                     go_ret
                     exact ⟨ret_int (by rw [checkD_eq]; simp [HR.out, HN.out, HK.out, HU.out, HL.out, HA2.out]), HBw7.out⟩
                    | true =>
                     have HA2 := Lib.hid (show attrsB d.attrs = true by unfold attrsB; rw [hs, HALL.out]; rfl); clear hs
                     go_wp2
                     go_ret
                     exact ⟨ret_int (by rw [checkD_eq]; simp [HR.out, HN.out, HK.out, HU.out, HL.out, HA2.out, HZ.out]), HBw7.out⟩
                 ·
                  have i7 : (24 : Int) < (d.attrs.length : Int) := by omega
                  have HL := Lib.hid h7; clear h7
                  go_wp2
                  go_ret
                  exact ⟨ret_int (by rw [checkD_eq]; simp [HR.out, HN.out, HK.out, HU.out, HL.out]), HBw6.out⟩
                ·
                 have e6 : (d.num != 0) = true := by simp [h6]
                 have e6b : (d.num == 0) = false := beq_eq_false_iff_ne.2 h6
                 have HU := Lib.hid (show numberB d = false by unfold numberB; rw [if_neg (by rw [HKN.out]; decide)]; exact decide_eq_false h6); clear h6
                 go_wp2
                 go_ret
                 exact ⟨ret_int (by rw [checkD_eq]; simp [HR.out, HN.out, HK.out, HU.out]), HBw6.out⟩
               | true =>
                have HKN := Lib.hid ((node_kind d).symm.trans h9)
                have HZ := Lib.hid (linkD_yes h9); clear h9
                by_cases h : d.num < 1
                ·
                 have eHU1 : decide (d.num < 1) = true := decide_eq_true h
                 have HU := Lib.hid (show numberB d = false by unfold numberB withinB; rw [if_pos HKN.out]; rw [Bool.eq_false_iff]; intro hc; simp only [Bool.and_eq_true, decide_eq_true_eq] at hc; omega)
                 clear h
                 go_wp2
                 go_ret
                 exact ⟨ret_int (by rw [checkD_eq]; simp [HR.out, HN.out, HK.out, HU.out]), HBw6.out⟩
                ·
                 have eHU1 : decide (d.num < 1) = false := decide_eq_false h
                 have HU1 := Lib.hid h
                 by_cases h : 1073741824 < d.num
                 ·
                  have eHU2 : decide (1073741824 < d.num) = true := decide_eq_true h
                  have HU := Lib.hid (show numberB d = false by unfold numberB withinB; rw [if_pos HKN.out]; rw [Bool.eq_false_iff]; intro hc; simp only [Bool.and_eq_true, decide_eq_true_eq] at hc; omega)
                  clear h
                  go_wp2
                  go_ret
                  exact ⟨ret_int (by rw [checkD_eq]; simp [HR.out, HN.out, HK.out, HU.out]), HBw6.out⟩
                 ·
                  have eHU2 : decide (1073741824 < d.num) = false := decide_eq_false h
                  have HU2 := Lib.hid h
                  have HU := Lib.hid (show numberB d = true by have a1 := HU1.out; have a2 := HU2.out; unfold numberB withinB; rw [if_pos HKN.out]; simp only [Bool.and_eq_true, decide_eq_true_eq]; omega)
                  by_cases h7 : d.attrs.length ≤ 24
                  ·
                   have i7 : ¬ (24 : Int) < (d.attrs.length : Int) := by omega
                   have HL := Lib.hid h7; clear h7
                   go_wp2_with fail
                   have HXC := Lib.hid (HX.out.keep (HBw6.out.mono HB.out))
                   go_loop [5] (fun i => ∃ k : Nat, k ≤ d.attrs.length ∧ i = .int .i64 k ∧ Hid ((d.attrs.take k).all attrB = true)) (fun i => d.attrs.length - (intOf i).toNat)
                   case atStart => exact ⟨0, Nat.zero_le _, rfl, rfl⟩
                   case round =>
                    obtain ⟨k, hk, rfl, HA⟩ := hrel
                    by_cases hlt : k < d.attrs.length
                    ·
                     obtain ⟨b3, o3, rfl, _, hsz, cx0, cx1⟩ := HXC.out.attr hlt
                     have hxk : d.attrs[k]? = some d.attrs[k] := List.getElem?_eq_getElem hlt
                     obtain ⟨x, hx⟩ : ∃ x, d.attrs[k]'hlt = x := ⟨_, rfl⟩
                     rw [hx] at cx0 cx1 hsz hxk
                     have HXK := Lib.hid hxk; have HSZ := Lib.hid hsz
                     clear hx hxk hsz
                     have i1 : (k : Int) < (d.attrs.length : Int) := by omega
                     go_wp2_with fail
                     refine (RValid_any x.name _ HSZ.out.1).mono ?_
                     rintro e w' ⟨rfl, rfl⟩
                     cases h1 : validB x.name with
                     | false =>
                      have H1 := Lib.hid h1; clear h1
                      have HA2 := Lib.hid (show attrsB d.attrs = false by unfold attrsB; rw [all_stop (p := attrB) HXK.out (by unfold attrB; simp [H1.out]), Bool.and_false])
                      go_wp2
                      go_ret
                      exact ⟨ret_int (by rw [checkD_eq]; simp [HR.out, HN.out, HK.out, HU.out, HL.out, HA2.out]), HBw6.out⟩
                     | true =>
                      have H1 := Lib.hid h1; clear h1
                      go_wp2_with fail
                      refine (RText_any x.value _ HSZ.out.2).mono ?_
                      rintro e w' ⟨rfl, rfl⟩
                      cases h2 : textB x.value with
                      | false =>
                       have H2 := Lib.hid h2; clear h2
                       have HA2 := Lib.hid (show attrsB d.attrs = false by unfold attrsB; rw [all_stop (p := attrB) HXK.out (by unfold attrB; simp [H1.out, H2.out]), Bool.and_false])
                       go_wp2
                       go_ret
                       exact ⟨ret_int (by rw [checkD_eq]; simp [HR.out, HN.out, HK.out, HU.out, HL.out, HA2.out]), HBw6.out⟩
                      | true =>
                       have H2 := Lib.hid h2; clear h2
                       cases h3 : x.value.toList.isEmpty with
                       | true =>
                        have h3b : x.value.toList = [] := List.isEmpty_iff.1 h3
                        have H3 := Lib.hid h3
                        have HA2 := Lib.hid (show attrsB d.attrs = false by unfold attrsB; rw [all_stop (p := attrB) HXK.out (by unfold attrB; simp [H1.out, H2.out, H3.out]), Bool.and_false])
                        go_wp2
                        go_ret
                        exact ⟨ret_int (by rw [checkD_eq]; simp [HR.out, HN.out, HK.out, HU.out, HL.out, HA2.out]), HBw6.out⟩
                       | false =>
                        have h3b : ¬ x.value.toList = [] := fun h => by rw [h] at h3; cases h3
                        have H3 := Lib.hid h3
                        go_wp2
                        go_round
                        case rel => exact ⟨k + 1, by omega, by go_num, all_step HA.out HXK.out (by unfold attrB; simp [H1.out, H2.out, H3.out])⟩
                        case measure => simp [intOf]; omega
                    ·
                     have i1 : ¬ (k : Int) < (d.attrs.length : Int) := by omega
                     have HALL := Lib.hid (all_end HA.out (by omega))
                     go_wp2_with fail
                     refine (RSorted_any A c d.attrs _ B HXC.out).mono ?_
                     rintro e w8 ⟨rfl, hbw8⟩
                     clear cp0 cp1 cp2 cp3 cp4 cp5 cp6 cp7 cp8 cp9
                     have HBw8 := Lib.hid (HBw6.out.trans (hbw8.mono HBw6.out.size))
                     have pw8 := Lib.hid (pw6.out.kept (grown_none hbw8) (fun e => by cases e))
                     clear hbw8
                     have cp0 := pw8.out.1 0 _ rfl
                     have cp1 := pw8.out.1 1 _ rfl
                     have cp2 := pw8.out.1 2 _ rfl
                     have cp3 := pw8.out.1 3 _ rfl
                     have cp4 := pw8.out.1 4 _ rfl
                     have cp5 := pw8.out.1 5 _ rfl
                     have cp6 := pw8.out.1 6 _ rfl
                     have cp7 := pw8.out.1 7 _ rfl
                     have cp8 := pw8.out.1 8 _ rfl
                     have cp9 := pw8.out.1 9 _ rfl
                     cases hs : sortedA d.attrs with
                     | false =>
                      have HA2 := Lib.hid (show attrsB d.attrs = false by unfold attrsB; rw [hs]; rfl); clear hs
                      go_wp2
                      go_ret
                      exact ⟨ret_int (by rw [checkD_eq]; simp [HR.out, HN.out, HK.out, HU.out, HL.out, HA2.out]), HBw8.out⟩
                     | true =>
                      have HA2 := Lib.hid (show attrsB d.attrs = true by unfold attrsB; rw [hs, HALL.out]; rfl); clear hs
                      go_wp2_with fail
                      refine (RLink_any (nodeV d) _ (by have := node_small (named_orig HN.out); omega) (HOK.out.next HBw8.out)).mono ?_
                      rintro e w9 ⟨rfl, hbw9⟩
                      clear cp0 cp1 cp2 cp3 cp4 cp5 cp6 cp7 cp8 cp9
                      have HBw9 := Lib.hid (HBw8.out.trans (hbw9.mono HBw8.out.size))
                      have pw9 := Lib.hid (pw8.out.kept (grown_none hbw9) (fun e => by cases e))
                      clear hbw9
                      have cp0 := pw9.out.1 0 _ rfl
                      have cp1 := pw9.out.1 1 _ rfl
                      have cp2 := pw9.out.1 2 _ rfl
                      have cp3 := pw9.out.1 3 _ rfl
                      have cp4 := pw9.out.1 4 _ rfl
                      have cp5 := pw9.out.1 5 _ rfl
                      have cp6 := pw9.out.1 6 _ rfl
                      have cp7 := pw9.out.1 7 _ rfl
                      have cp8 := pw9.out.1 8 _ rfl
                      have cp9 := pw9.out.1 9 _ rfl
                      cases h10 : linkB (nodeV d) with
                      | false =>
                       have HZ2 := Lib.hid (HZ.out.trans h10); clear h10
                       go_wp2
                       go_ret
                       exact ⟨ret_int (by rw [checkD_eq]; simp [HR.out, HN.out, HK.out, HU.out, HL.out, HA2.out, HZ2.out]), HBw9.out⟩
                      | true =>
                       have HZ2 := Lib.hid (HZ.out.trans h10); clear h10
                       go_wp2
                       go_ret
                       exact ⟨ret_int (by rw [checkD_eq]; simp [HR.out, HN.out, HK.out, HU.out, HL.out, HA2.out, HZ2.out]), HBw9.out⟩
                  ·
                   have i7 : (24 : Int) < (d.attrs.length : Int) := by omega
                   have HL := Lib.hid h7; clear h7
                   go_wp2
                   go_ret
                   exact ⟨ret_int (by rw [checkD_eq]; simp [HR.out, HN.out, HK.out, HU.out, HL.out]), HBw6.out⟩
              ·
               have e5 : (d.nm.toList == d.orig.toList) = false := by rw [ba_beq]; exact decide_eq_false h5
               have HK := Lib.hid (show kindB d = false by unfold kindB; rw [if_neg h4, decide_eq_false h5, Bool.and_false]); clear h4 h5
               go_wp2
               go_ret
               exact ⟨ret_int (by rw [checkD_eq]; simp [HR.out, HN.out, HK.out]), HBw1.out⟩
         | false =>
          have h3b : ¬ d.drv.toList = [] := fun h => by rw [h] at h3; cases h3
          have HN3 := Lib.hid h3
          go_wp2_with fail
          refine (RValid_any d.drv _ HD.out.2.2.2.2.2.1).mono ?_
          rintro e w' ⟨rfl, rfl⟩
          cases h4 : validB d.drv with
          | false =>
           have HN4 := Lib.hid h4; clear h4
           have HN := Lib.hid (show namedB d = false by unfold namedB; simp [HN0.out, HN1.out, HN2.out, HN3.out, HN4.out])
           go_wp2
           go_ret
           exact ⟨ret_int (by rw [checkD_eq]; simp [HR.out, HN.out]), HBw1.out⟩
          | true =>
           have HN4 := Lib.hid h4; clear h4
           go_wp2_with fail
           refine (RText_any d.ali _ HD.out.2.2.2.2.2.2.1).mono ?_
           rintro e w' ⟨rfl, rfl⟩
           cases h5 : textB d.ali with
           | false =>
            have HN5 := Lib.hid h5; clear h5
            have HN := Lib.hid (show namedB d = false by unfold namedB; simp [HN0.out, HN1.out, HN2.out, HN3.out, HN4.out, HN5.out])
            go_wp2
            go_ret
            exact ⟨ret_int (by rw [checkD_eq]; simp [HR.out, HN.out]), HBw1.out⟩
           | true =>
            have HN5 := Lib.hid h5; clear h5
            have HN := Lib.hid (show namedB d = true by unfold namedB; simp [HN0.out, HN1.out, HN2.out, HN3.out, HN4.out, HN5.out])
            by_cases h : d.kind < 1
            ·
             have eHK1 : decide (d.kind < 1) = true := decide_eq_true h
             have HK := Lib.hid (show kindB d = false by unfold kindB; rw [if_neg (by omega)]; rw [decide_eq_false (by omega)]; rfl)
             clear h
             go_wp2
             go_ret
             exact ⟨ret_int (by rw [checkD_eq]; simp [HR.out, HN.out, HK.out]), HBw1.out⟩
            ·
             have eHK1 : decide (d.kind < 1) = false := decide_eq_false h
             have HK1 := Lib.hid h
             by_cases h : 4 < d.kind
             ·
              have eHK2 : decide (4 < d.kind) = true := decide_eq_true h
              have HK := Lib.hid (show kindB d = false by unfold kindB; rw [if_neg (by omega)]; rw [decide_eq_false (by omega)]; rfl)
              clear h
              go_wp2
              go_ret
              exact ⟨ret_int (by rw [checkD_eq]; simp [HR.out, HN.out, HK.out]), HBw1.out⟩
             ·
              have eHK2 : decide (4 < d.kind) = false := decide_eq_false h
              have HK2 := Lib.hid h
              by_cases h4 : d.kind = 4
              ·
               have e4 : (d.kind == 4) = true := beq_iff_eq.2 h4
               have e4n : (d.kind != 4) = false := by simp [h4]
               have H4 := Lib.hid h4; clear h4
               go_wp2_with fail
               refine (RInterface_any d.nm _ HD.out.2.2.1).mono ?_
               rintro e w' ⟨rfl, rfl⟩
               cases h1 : ifaceB d.nm with
               | false =>
                have HK := Lib.hid (show kindB d = false by unfold kindB; rw [if_pos H4.out, h1]; rfl); clear h1
                go_wp2
                go_ret
                exact ⟨ret_int (by rw [checkD_eq]; simp [HR.out, HN.out, HK.out]), HBw1.out⟩
               | true =>
                have H1 := Lib.hid h1; clear h1
                go_wp2_with fail
                refine (RInterface_any d.orig _ HD.out.2.2.2.1).mono ?_
                rintro e w' ⟨rfl, rfl⟩
                cases h2 : ifaceB d.orig with
                | false =>
                 have HK := Lib.hid (show kindB d = false by unfold kindB; rw [if_pos H4.out, H1.out, h2]; rfl); clear h2
                 go_wp2
                 go_ret
                 exact ⟨ret_int (by rw [checkD_eq]; simp [HR.out, HN.out, HK.out]), HBw1.out⟩
                | true =>
                 have HK := Lib.hid (show kindB d = true by unfold kindB; rw [if_pos H4.out, H1.out, h2]; rfl); clear h2
                 go_wp2_with fail
                 refine (RNode_any d A c _ (by have := named_orig HN.out; omega) (HOK.out.next HBw1.out)).mono ?_
                 rintro e w10 ⟨rfl, hbw10⟩
                 clear cp0 cp1 cp2 cp3 cp4 cp5 cp6 cp7 cp8 cp9
                 have HBw10 := Lib.hid (HBw1.out.trans (hbw10.mono HBw1.out.size))
                 have pw10 := Lib.hid (HXpw1.out.kept (grown_none hbw10) (fun e => by cases e))
                 clear hbw10
                 have cp0 := pw10.out.1 0 _ rfl
                 have cp1 := pw10.out.1 1 _ rfl
                 have cp2 := pw10.out.1 2 _ rfl
                 have cp3 := pw10.out.1 3 _ rfl
                 have cp4 := pw10.out.1 4 _ rfl
                 have cp5 := pw10.out.1 5 _ rfl
                 have cp6 := pw10.out.1 6 _ rfl
                 have cp7 := pw10.out.1 7 _ rfl
                 have cp8 := pw10.out.1 8 _ rfl
                 have cp9 := pw10.out.1 9 _ rfl
                 cases h9 : (nodeD d).isSome with
                 | false =>
                  have HKN := Lib.hid ((node_kind d).symm.trans h9)
                  have HZ := Lib.hid (linkD_no h9); clear h9
                  by_cases h6 : d.num = 0
                  ·
                   have e6 : (d.num != 0) = false := by simp [h6]
                   have e6b : (d.num == 0) = true := beq_iff_eq.2 h6
                   have HU := Lib.hid (show numberB d = true by unfold numberB; rw [if_neg (by rw [HKN.out]; decide)]; exact decide_eq_true h6); clear h6
                   by_cases h7 : d.attrs.length ≤ 24
                   ·
                    have i7 : ¬ (24 : Int) < (d.attrs.length : Int) := by omega
                    have HL := Lib.hid h7; clear h7
                    go_wp2_with fail
                    have HXC := Lib.hid (HX.out.keep (HBw10.out.mono HB.out))
                    go_loop [5] (fun i => ∃ k : Nat, k ≤ d.attrs.length ∧ i = .int .i64 k ∧ Hid ((d.attrs.take k).all attrB = true)) (fun i => d.attrs.length - (intOf i).toNat)
                    case atStart => exact ⟨0, Nat.zero_le _, rfl, rfl⟩
                    case round =>
                     obtain ⟨k, hk, rfl, HA⟩ := hrel
                     by_cases hlt : k < d.attrs.length
                     ·
                      obtain ⟨b3, o3, rfl, _, hsz, cx0, cx1⟩ := HXC.out.attr hlt
                      have hxk : d.attrs[k]? = some d.attrs[k] := List.getElem?_eq_getElem hlt
                      obtain ⟨x, hx⟩ : ∃ x, d.attrs[k]'hlt = x := ⟨_, rfl⟩
                      rw [hx] at cx0 cx1 hsz hxk
                      have HXK := Lib.hid hxk; have HSZ := Lib.hid hsz
                      clear hx hxk hsz
                      have i1 : (k : Int) < (d.attrs.length : Int) := by omega
                      go_wp2_with fail
                      refine (RValid_any x.name _ HSZ.out.1).mono ?_
                      rintro e w' ⟨rfl, rfl⟩
                      cases h1 : validB x.name with
                      | false =>
                       have H1 := Lib.hid h1; clear h1
                       have HA2 := Lib.hid (show attrsB d.attrs = false by unfold attrsB; rw [all_stop (p := attrB) HXK.out (by unfold attrB; simp [H1.out]), Bool.and_false])
                       go_wp2
                       go_ret
                       exact ⟨ret_int (by rw [checkD_eq]; simp [HR.out, HN.out, HK.out, HU.out, HL.out, HA2.out]), HBw10.out⟩
                      | true =>
                       have H1 := Lib.hid h1; clear h1
                       go_wp2_with fail
                       refine (RText_any x.value _ HSZ.out.2).mono ?_
                       rintro e w' ⟨rfl, rfl⟩
                       cases h2 : textB x.value with
                       | false =>
                        have H2 := Lib.hid h2; clear h2
                        have HA2 := Lib.hid (show attrsB d.attrs = false by unfold attrsB; rw [all_stop (p := attrB) HXK.out (by unfold attrB; simp [H1.out, H2.out]), Bool.and_false])
                        go_wp2
                        go_ret
                        exact ⟨ret_int (by rw [checkD_eq]; simp [HR.out, HN.out, HK.out, HU.out, HL.out, HA2.out]), HBw10.out⟩
                       | true =>
                        have H2 := Lib.hid h2; clear h2
                        cases h3 : x.value.toList.isEmpty with
                        | true =>
                         have h3b : x.value.toList = [] := List.isEmpty_iff.1 h3
                         have H3 := Lib.hid h3
                         have HA2 := Lib.hid (show attrsB d.attrs = false by unfold attrsB; rw [all_stop (p := attrB) HXK.out (by unfold attrB; simp [H1.out, H2.out, H3.out]), Bool.and_false])
                         go_wp2
                         go_ret
                         exact ⟨ret_int (by rw [checkD_eq]; simp [HR.out, HN.out, HK.out, HU.out, HL.out, HA2.out]), HBw10.out⟩
                        | false =>
                         have h3b : ¬ x.value.toList = [] := fun h => by rw [h] at h3; cases h3
                         have H3 := Lib.hid h3
                         go_wp2
                         go_round
                         case rel => exact ⟨k + 1, by omega, by go_num, all_step HA.out HXK.out (by unfold attrB; simp [H1.out, H2.out, H3.out])⟩
                         case measure => simp [intOf]; omega
                     ·
                      have i1 : ¬ (k : Int) < (d.attrs.length : Int) := by omega
                      have HALL := Lib.hid (all_end HA.out (by omega))
                      go_wp2_with fail
                      refine (RSorted_any A c d.attrs _ B HXC.out).mono ?_
                      rintro e w11 ⟨rfl, hbw11⟩
                      clear cp0 cp1 cp2 cp3 cp4 cp5 cp6 cp7 cp8 cp9
                      have HBw11 := Lib.hid (HBw10.out.trans (hbw11.mono HBw10.out.size))
                      have pw11 := Lib.hid (pw10.out.kept (grown_none hbw11) (fun e => by cases e))
                      clear hbw11
                      have cp0 := pw11.out.1 0 _ rfl
                      have cp1 := pw11.out.1 1 _ rfl
                      have cp2 := pw11.out.1 2 _ rfl
                      have cp3 := pw11.out.1 3 _ rfl
                      have cp4 := pw11.out.1 4 _ rfl
                      have cp5 := pw11.out.1 5 _ rfl
                      have cp6 := pw11.out.1 6 _ rfl
                      have cp7 := pw11.out.1 7 _ rfl
                      have cp8 := pw11.out.1 8 _ rfl
                      have cp9 := pw11.out.1 9 _ rfl
                      cases hs : sortedA d.attrs with
                      | false =>
                       have HA2 := Lib.hid (show attrsB d.attrs = false by unfold attrsB; rw [hs]; rfl); clear hs
                       go_wp2
                       go_ret
                       exact ⟨ret_int (by rw [checkD_eq]; simp [HR.out, HN.out, HK.out, HU.out, HL.out, HA2.out]), HBw11.out⟩
                      | true =>
                       have HA2 := Lib.hid (show attrsB d.attrs = true by unfold attrsB; rw [hs, HALL.out]; rfl); clear hs
                       go_wp2
                       go_ret
                       exact ⟨ret_int (by rw [checkD_eq]; simp [HR.out, HN.out, HK.out, HU.out, HL.out, HA2.out, HZ.out]), HBw11.out⟩
                   ·
                    have i7 : (24 : Int) < (d.attrs.length : Int) := by omega
                    have HL := Lib.hid h7; clear h7
                    go_wp2
                    go_ret
                    exact ⟨ret_int (by rw [checkD_eq]; simp [HR.out, HN.out, HK.out, HU.out, HL.out]), HBw10.out⟩
                  ·
                   have e6 : (d.num != 0) = true := by simp [h6]
                   have e6b : (d.num == 0) = false := beq_eq_false_iff_ne.2 h6
                   have HU := Lib.hid (show numberB d = false by unfold numberB; rw [if_neg (by rw [HKN.out]; decide)]; exact decide_eq_false h6); clear h6
                   go_wp2
                   go_ret
                   exact ⟨ret_int (by rw [checkD_eq]; simp [HR.out, HN.out, HK.out, HU.out]), HBw10.out⟩
                 | true =>
                  have HKN := Lib.hid ((node_kind d).symm.trans h9)
                  have HZ := Lib.hid (linkD_yes h9); clear h9
                  by_cases h : d.num < 1
                  ·
                   have eHU1 : decide (d.num < 1) = true := decide_eq_true h
                   have HU := Lib.hid (show numberB d = false by unfold numberB withinB; rw [if_pos HKN.out]; rw [Bool.eq_false_iff]; intro hc; simp only [Bool.and_eq_true, decide_eq_true_eq] at hc; omega)
                   clear h
                   go_wp2
                   go_ret
                   exact ⟨ret_int (by rw [checkD_eq]; simp [HR.out, HN.out, HK.out, HU.out]), HBw10.out⟩
                  ·
                   have eHU1 : decide (d.num < 1) = false := decide_eq_false h
                   have HU1 := Lib.hid h
                   by_cases h : 1073741824 < d.num
                   ·
                    have eHU2 : decide (1073741824 < d.num) = true := decide_eq_true h
                    have HU := Lib.hid (show numberB d = false by unfold numberB withinB; rw [if_pos HKN.out]; rw [Bool.eq_false_iff]; intro hc; simp only [Bool.and_eq_true, decide_eq_true_eq] at hc; omega)
                    clear h
                    go_wp2
                    go_ret
                    exact ⟨ret_int (by rw [checkD_eq]; simp [HR.out, HN.out, HK.out, HU.out]), HBw10.out⟩
                   ·
                    have eHU2 : decide (1073741824 < d.num) = false := decide_eq_false h
                    have HU2 := Lib.hid h
                    have HU := Lib.hid (show numberB d = true by have a1 := HU1.out; have a2 := HU2.out; unfold numberB withinB; rw [if_pos HKN.out]; simp only [Bool.and_eq_true, decide_eq_true_eq]; omega)
                    by_cases h7 : d.attrs.length ≤ 24
                    ·
                     have i7 : ¬ (24 : Int) < (d.attrs.length : Int) := by omega
                     have HL := Lib.hid h7; clear h7
                     go_wp2_with fail
                     have HXC := Lib.hid (HX.out.keep (HBw10.out.mono HB.out))
                     go_loop [5] (fun i => ∃ k : Nat, k ≤ d.attrs.length ∧ i = .int .i64 k ∧ Hid ((d.attrs.take k).all attrB = true)) (fun i => d.attrs.length - (intOf i).toNat)
                     case atStart => exact ⟨0, Nat.zero_le _, rfl, rfl⟩
                     case round =>
                      obtain ⟨k, hk, rfl, HA⟩ := hrel
                      by_cases hlt : k < d.attrs.length
                      ·
                       obtain ⟨b3, o3, rfl, _, hsz, cx0, cx1⟩ := HXC.out.attr hlt
                       have hxk : d.attrs[k]? = some d.attrs[k] := List.getElem?_eq_getElem hlt
                       obtain ⟨x, hx⟩ : ∃ x, d.attrs[k]'hlt = x := ⟨_, rfl⟩
                       rw [hx] at cx0 cx1 hsz hxk
                       have HXK := Lib.hid hxk; have HSZ := Lib.hid hsz
                       clear hx hxk hsz
                       have i1 : (k : Int) < (d.attrs.length : Int) := by omega
                       go_wp2_with fail
                       refine (RValid_any x.name _ HSZ.out.1).mono ?_
                       rintro e w' ⟨rfl, rfl⟩
                       cases h1 : validB x.name with
                       | false =>
                        have H1 := Lib.hid h1; clear h1
                        have HA2 := Lib.hid (show attrsB d.attrs = false by unfold attrsB; rw [all_stop (p := attrB) HXK.out (by unfold attrB; simp [H1.out]), Bool.and_false])
                        go_wp2
                        go_ret
                        exact ⟨ret_int (by rw [checkD_eq]; simp [HR.out, HN.out, HK.out, HU.out, HL.out, HA2.out]), HBw10.out⟩
                       | true =>
                        have H1 := Lib.hid h1; clear h1
                        go_wp2_with fail
                        refine (RText_any x.value _ HSZ.out.2).mono ?_
                        rintro e w' ⟨rfl, rfl⟩
                        cases h2 : textB x.value with
                        | false =>
                         have H2 := Lib.hid h2; clear h2
                         have HA2 := Lib.hid (show attrsB d.attrs = false by unfold attrsB; rw [all_stop (p := attrB) HXK.out (by unfold attrB; simp [H1.out, H2.out]), Bool.and_false])
                         go_wp2
                         go_ret
                         exact ⟨ret_int (by rw [checkD_eq]; simp [HR.out, HN.out, HK.out, HU.out, HL.out, HA2.out]), HBw10.out⟩
                        | true =>
                         have H2 := Lib.hid h2; clear h2
                         cases h3 : x.value.toList.isEmpty with
                         | true =>
                          have h3b : x.value.toList = [] := List.isEmpty_iff.1 h3
                          have H3 := Lib.hid h3
                          have HA2 := Lib.hid (show attrsB d.attrs = false by unfold attrsB; rw [all_stop (p := attrB) HXK.out (by unfold attrB; simp [H1.out, H2.out, H3.out]), Bool.and_false])
                          go_wp2
                          go_ret
                          exact ⟨ret_int (by rw [checkD_eq]; simp [HR.out, HN.out, HK.out, HU.out, HL.out, HA2.out]), HBw10.out⟩
                         | false =>
                          have h3b : ¬ x.value.toList = [] := fun h => by rw [h] at h3; cases h3
                          have H3 := Lib.hid h3
                          go_wp2
                          go_round
                          case rel => exact ⟨k + 1, by omega, by go_num, all_step HA.out HXK.out (by unfold attrB; simp [H1.out, H2.out, H3.out])⟩
                          case measure => simp [intOf]; omega
                      ·
                       have i1 : ¬ (k : Int) < (d.attrs.length : Int) := by omega
                       have HALL := Lib.hid (all_end HA.out (by omega))
                       go_wp2_with fail
                       refine (RSorted_any A c d.attrs _ B HXC.out).mono ?_
                       rintro e w12 ⟨rfl, hbw12⟩
                       clear cp0 cp1 cp2 cp3 cp4 cp5 cp6 cp7 cp8 cp9
                       have HBw12 := Lib.hid (HBw10.out.trans (hbw12.mono HBw10.out.size))
                       have pw12 := Lib.hid (pw10.out.kept (grown_none hbw12) (fun e => by cases e))
                       clear hbw12
                       have cp0 := pw12.out.1 0 _ rfl
                       have cp1 := pw12.out.1 1 _ rfl
                       have cp2 := pw12.out.1 2 _ rfl
                       have cp3 := pw12.out.1 3 _ rfl
                       have cp4 := pw12.out.1 4 _ rfl
                       have cp5 := pw12.out.1 5 _ rfl
                       have cp6 := pw12.out.1 6 _ rfl
                       have cp7 := pw12.out.1 7 _ rfl
                       have cp8 := pw12.out.1 8 _ rfl
                       have cp9 := pw12.out.1 9 _ rfl
                       cases hs : sortedA d.attrs with
                       | false =>
                        have HA2 := Lib.hid (show attrsB d.attrs = false by unfold attrsB; rw [hs]; rfl); clear hs
                        go_wp2
                        go_ret
                        exact ⟨ret_int (by rw [checkD_eq]; simp [HR.out, HN.out, HK.out, HU.out, HL.out, HA2.out]), HBw12.out⟩
                       | true =>
                        have HA2 := Lib.hid (show attrsB d.attrs = true by unfold attrsB; rw [hs, HALL.out]; rfl); clear hs
                        go_wp2_with fail
                        refine (RLink_any (nodeV d) _ (by have := node_small (named_orig HN.out); omega) (HOK.out.next HBw12.out)).mono ?_
                        rintro e w13 ⟨rfl, hbw13⟩
                        clear cp0 cp1 cp2 cp3 cp4 cp5 cp6 cp7 cp8 cp9
                        have HBw13 := Lib.hid (HBw12.out.trans (hbw13.mono HBw12.out.size))
                        have pw13 := Lib.hid (pw12.out.kept (grown_none hbw13) (fun e => by cases e))
                        clear hbw13
                        have cp0 := pw13.out.1 0 _ rfl
                        have cp1 := pw13.out.1 1 _ rfl
                        have cp2 := pw13.out.1 2 _ rfl
                        have cp3 := pw13.out.1 3 _ rfl
                        have cp4 := pw13.out.1 4 _ rfl
                        have cp5 := pw13.out.1 5 _ rfl
                        have cp6 := pw13.out.1 6 _ rfl
                        have cp7 := pw13.out.1 7 _ rfl
                        have cp8 := pw13.out.1 8 _ rfl
                        have cp9 := pw13.out.1 9 _ rfl
                        cases h10 : linkB (nodeV d) with
                        | false =>
                         have HZ2 := Lib.hid (HZ.out.trans h10); clear h10
                         go_wp2
                         go_ret
                         exact ⟨ret_int (by rw [checkD_eq]; simp [HR.out, HN.out, HK.out, HU.out, HL.out, HA2.out, HZ2.out]), HBw13.out⟩
                        | true =>
                         have HZ2 := Lib.hid (HZ.out.trans h10); clear h10
                         go_wp2
                         go_ret
                         exact ⟨ret_int (by rw [checkD_eq]; simp [HR.out, HN.out, HK.out, HU.out, HL.out, HA2.out, HZ2.out]), HBw13.out⟩
                    ·
                     have i7 : (24 : Int) < (d.attrs.length : Int) := by omega
                     have HL := Lib.hid h7; clear h7
                     go_wp2
                     go_ret
                     exact ⟨ret_int (by rw [checkD_eq]; simp [HR.out, HN.out, HK.out, HU.out, HL.out]), HBw10.out⟩
              ·
               have e4 : (d.kind == 4) = false := beq_eq_false_iff_ne.2 h4
               have e4n : (d.kind != 4) = true := by simp [h4]
               have H4 := Lib.hid h4
               by_cases h5 : d.nm = d.orig
               ·
                have e5 : (d.nm.toList == d.orig.toList) = true := by rw [ba_beq]; exact decide_eq_true h5
                have HK := Lib.hid (show kindB d = true by have a1 := HK1.out; have a2 := HK2.out; unfold kindB; rw [if_neg h4, decide_eq_true h5, decide_eq_true (by omega)]; rfl); clear h4 h5
                go_wp2_with fail
                refine (RNode_any d A c _ (by have := named_orig HN.out; omega) (HOK.out.next HBw1.out)).mono ?_
                rintro e w14 ⟨rfl, hbw14⟩
                clear cp0 cp1 cp2 cp3 cp4 cp5 cp6 cp7 cp8 cp9
                have HBw14 := Lib.hid (HBw1.out.trans (hbw14.mono HBw1.out.size))
                have pw14 := Lib.hid (HXpw1.out.kept (grown_none hbw14) (fun e => by cases e))
                clear hbw14
                have cp0 := pw14.out.1 0 _ rfl
                have cp1 := pw14.out.1 1 _ rfl
                have cp2 := pw14.out.1 2 _ rfl
                have cp3 := pw14.out.1 3 _ rfl
                have cp4 := pw14.out.1 4 _ rfl
                have cp5 := pw14.out.1 5 _ rfl
                have cp6 := pw14.out.1 6 _ rfl
                have cp7 := pw14.out.1 7 _ rfl
                have cp8 := pw14.out.1 8 _ rfl
                have cp9 := pw14.out.1 9 _ rfl
                cases h9 : (nodeD d).isSome with
                | false =>
                 have HKN := Lib.hid ((node_kind d).symm.trans h9)
                 have HZ := Lib.hid (linkD_no h9); clear h9
                 by_cases h6 : d.num = 0
                 ·
                  have e6 : (d.num != 0) = false := by simp [h6]
                  have e6b : (d.num == 0) = true := beq_iff_eq.2 h6
                  have HU := Lib.hid (show numberB d = true by unfold numberB; rw [if_neg (by rw [HKN.out]; decide)]; exact decide_eq_true h6); clear h6
                  by_cases h7 : d.attrs.length ≤ 24
                  ·
                   have i7 : ¬ (24 : Int) < (d.attrs.length : Int) := by omega
                   have HL := Lib.hid h7; clear h7
                   go_wp2_with fail
                   have HXC := Lib.hid (HX.out.keep (HBw14.out.mono HB.out))
                   go_loop [5] (fun i => ∃ k : Nat, k ≤ d.attrs.length ∧ i = .int .i64 k ∧ Hid ((d.attrs.take k).all attrB = true)) (fun i => d.attrs.length - (intOf i).toNat)
                   case atStart => exact ⟨0, Nat.zero_le _, rfl, rfl⟩
                   case round =>
                    obtain ⟨k, hk, rfl, HA⟩ := hrel
                    by_cases hlt : k < d.attrs.length
                    ·
                     obtain ⟨b3, o3, rfl, _, hsz, cx0, cx1⟩ := HXC.out.attr hlt
                     have hxk : d.attrs[k]? = some d.attrs[k] := List.getElem?_eq_getElem hlt
                     obtain ⟨x, hx⟩ : ∃ x, d.attrs[k]'hlt = x := ⟨_, rfl⟩
                     rw [hx] at cx0 cx1 hsz hxk
                     have HXK := Lib.hid hxk; have HSZ := Lib.hid hsz
                     clear hx hxk hsz
                     have i1 : (k : Int) < (d.attrs.length : Int) := by omega
                     go_wp2_with fail
                     refine (RValid_any x.name _ HSZ.out.1).mono ?_
                     rintro e w' ⟨rfl, rfl⟩
                     cases h1 : validB x.name with
                     | false =>
                      have H1 := Lib.hid h1; clear h1
                      have HA2 := Lib.hid (show attrsB d.attrs = false by unfold attrsB; rw [all_stop (p := attrB) HXK.out (by unfold attrB; simp [H1.out]), Bool.and_false])
                      go_wp2
                      go_ret
                      exact ⟨ret_int (by rw [checkD_eq]; simp [HR.out, HN.out, HK.out, HU.out, HL.out, HA2.out]), HBw14.out⟩
                     | true =>
                      have H1 := Lib.hid h1; clear h1
                      go_wp2_with fail
                      refine (RText_any x.value _ HSZ.out.2).mono ?_
                      rintro e w' ⟨rfl, rfl⟩
                      cases h2 : textB x.value with
                      | false =>
                       have H2 := Lib.hid h2; clear h2
                       have HA2 := Lib.hid (show attrsB d.attrs = false by unfold attrsB; rw [all_stop (p := attrB) HXK.out (by unfold attrB; simp [H1.out, H2.out]), Bool.and_false])
                       go_wp2
                       go_ret
                       exact ⟨ret_int (by rw [checkD_eq]; simp [HR.out, HN.out, HK.out, HU.out, HL.out, HA2.out]), HBw14.out⟩
                      | true =>
                       have H2 := Lib.hid h2; clear h2
                       cases h3 : x.value.toList.isEmpty with
                       | true =>
                        have h3b : x.value.toList = [] := List.isEmpty_iff.1 h3
                        have H3 := Lib.hid h3
                        have HA2 := Lib.hid (show attrsB d.attrs = false by unfold attrsB; rw [all_stop (p := attrB) HXK.out (by unfold attrB; simp [H1.out, H2.out, H3.out]), Bool.and_false])
                        go_wp2
                        go_ret
                        exact ⟨ret_int (by rw [checkD_eq]; simp [HR.out, HN.out, HK.out, HU.out, HL.out, HA2.out]), HBw14.out⟩
                       | false =>
                        have h3b : ¬ x.value.toList = [] := fun h => by rw [h] at h3; cases h3
                        have H3 := Lib.hid h3
                        go_wp2
                        go_round
                        case rel => exact ⟨k + 1, by omega, by go_num, all_step HA.out HXK.out (by unfold attrB; simp [H1.out, H2.out, H3.out])⟩
                        case measure => simp [intOf]; omega
                    ·
                     have i1 : ¬ (k : Int) < (d.attrs.length : Int) := by omega
                     have HALL := Lib.hid (all_end HA.out (by omega))
                     go_wp2_with fail
                     refine (RSorted_any A c d.attrs _ B HXC.out).mono ?_
                     rintro e w15 ⟨rfl, hbw15⟩
                     clear cp0 cp1 cp2 cp3 cp4 cp5 cp6 cp7 cp8 cp9
                     have HBw15 := Lib.hid (HBw14.out.trans (hbw15.mono HBw14.out.size))
                     have pw15 := Lib.hid (pw14.out.kept (grown_none hbw15) (fun e => by cases e))
                     clear hbw15
                     have cp0 := pw15.out.1 0 _ rfl
                     have cp1 := pw15.out.1 1 _ rfl
                     have cp2 := pw15.out.1 2 _ rfl
                     have cp3 := pw15.out.1 3 _ rfl
                     have cp4 := pw15.out.1 4 _ rfl
                     have cp5 := pw15.out.1 5 _ rfl
                     have cp6 := pw15.out.1 6 _ rfl
                     have cp7 := pw15.out.1 7 _ rfl
                     have cp8 := pw15.out.1 8 _ rfl
                     have cp9 := pw15.out.1 9 _ rfl
                     cases hs : sortedA d.attrs with
                     | false =>
                      have HA2 := Lib.hid (show attrsB d.attrs = false by unfold attrsB; rw [hs]; rfl); clear hs
                      go_wp2
                      go_ret
                      exact ⟨ret_int (by rw [checkD_eq]; simp [HR.out, HN.out, HK.out, HU.out, HL.out, HA2.out]), HBw15.out⟩
                     | true =>
                      have HA2 := Lib.hid (show attrsB d.attrs = true by unfold attrsB; rw [hs, HALL.out]; rfl); clear hs
                      go_wp2
                      go_ret
                      exact ⟨ret_int (by rw [checkD_eq]; simp [HR.out, HN.out, HK.out, HU.out, HL.out, HA2.out, HZ.out]), HBw15.out⟩
                  ·
                   have i7 : (24 : Int) < (d.attrs.length : Int) := by omega
                   have HL := Lib.hid h7; clear h7
                   go_wp2
                   go_ret
                   exact ⟨ret_int (by rw [checkD_eq]; simp [HR.out, HN.out, HK.out, HU.out, HL.out]), HBw14.out⟩
                 ·
                  have e6 : (d.num != 0) = true := by simp [h6]
                  have e6b : (d.num == 0) = false := beq_eq_false_iff_ne.2 h6
                  have HU := Lib.hid (show numberB d = false by unfold numberB; rw [if_neg (by rw [HKN.out]; decide)]; exact decide_eq_false h6); clear h6
                  go_wp2
                  go_ret
                  exact ⟨ret_int (by rw [checkD_eq]; simp [HR.out, HN.out, HK.out, HU.out]), HBw14.out⟩
                | true =>
                 have HKN := Lib.hid ((node_kind d).symm.trans h9)
                 have HZ := Lib.hid (linkD_yes h9); clear h9
                 by_cases h : d.num < 1
                 ·
                  have eHU1 : decide (d.num < 1) = true := decide_eq_true h
                  have HU := Lib.hid (show numberB d = false by unfold numberB withinB; rw [if_pos HKN.out]; rw [Bool.eq_false_iff]; intro hc; simp only [Bool.and_eq_true, decide_eq_true_eq] at hc; omega)
                  clear h
                  go_wp2
                  go_ret
                  exact ⟨ret_int (by rw [checkD_eq]; simp [HR.out, HN.out, HK.out, HU.out]), HBw14.out⟩
                 ·
                  have eHU1 : decide (d.num < 1) = false := decide_eq_false h
                  have HU1 := Lib.hid h
                  by_cases h : 1073741824 < d.num
                  ·
                   have eHU2 : decide (1073741824 < d.num) = true := decide_eq_true h
                   have HU := Lib.hid (show numberB d = false by unfold numberB withinB; rw [if_pos HKN.out]; rw [Bool.eq_false_iff]; intro hc; simp only [Bool.and_eq_true, decide_eq_true_eq] at hc; omega)
                   clear h
                   go_wp2
                   go_ret
                   exact ⟨ret_int (by rw [checkD_eq]; simp [HR.out, HN.out, HK.out, HU.out]), HBw14.out⟩
                  ·
                   have eHU2 : decide (1073741824 < d.num) = false := decide_eq_false h
                   have HU2 := Lib.hid h
                   have HU := Lib.hid (show numberB d = true by have a1 := HU1.out; have a2 := HU2.out; unfold numberB withinB; rw [if_pos HKN.out]; simp only [Bool.and_eq_true, decide_eq_true_eq]; omega)
                   by_cases h7 : d.attrs.length ≤ 24
                   ·
                    have i7 : ¬ (24 : Int) < (d.attrs.length : Int) := by omega
                    have HL := Lib.hid h7; clear h7
                    go_wp2_with fail
                    have HXC := Lib.hid (HX.out.keep (HBw14.out.mono HB.out))
                    go_loop [5] (fun i => ∃ k : Nat, k ≤ d.attrs.length ∧ i = .int .i64 k ∧ Hid ((d.attrs.take k).all attrB = true)) (fun i => d.attrs.length - (intOf i).toNat)
                    case atStart => exact ⟨0, Nat.zero_le _, rfl, rfl⟩
                    case round =>
                     obtain ⟨k, hk, rfl, HA⟩ := hrel
                     by_cases hlt : k < d.attrs.length
                     ·
                      obtain ⟨b3, o3, rfl, _, hsz, cx0, cx1⟩ := HXC.out.attr hlt
                      have hxk : d.attrs[k]? = some d.attrs[k] := List.getElem?_eq_getElem hlt
                      obtain ⟨x, hx⟩ : ∃ x, d.attrs[k]'hlt = x := ⟨_, rfl⟩
                      rw [hx] at cx0 cx1 hsz hxk
                      have HXK := Lib.hid hxk; have HSZ := Lib.hid hsz
                      clear hx hxk hsz
                      have i1 : (k : Int) < (d.attrs.length : Int) := by omega
                      go_wp2_with fail
                      refine (RValid_any x.name _ HSZ.out.1).mono ?_
                      rintro e w' ⟨rfl, rfl⟩
                      cases h1 : validB x.name with
                      | false =>
                       have H1 := Lib.hid h1; clear h1
                       have HA2 := Lib.hid (show attrsB d.attrs = false by unfold attrsB; rw [all_stop (p := attrB) HXK.out (by unfold attrB; simp [H1.out]), Bool.and_false])
                       go_wp2
                       go_ret
                       exact ⟨ret_int (by rw [checkD_eq]; simp [HR.out, HN.out, HK.out, HU.out, HL.out, HA2.out]), HBw14.out⟩
                      | true =>
                       have H1 := Lib.hid h1; clear h1
                       go_wp2_with fail
                       refine (RText_any x.value _ HSZ.out.2).mono ?_
                       rintro e w' ⟨rfl, rfl⟩
                       cases h2 : textB x.value with
                       | false =>
                        have H2 := Lib.hid h2; clear h2
                        have HA2 := Lib.hid (show attrsB d.attrs = false by unfold attrsB; rw [all_stop (p := attrB) HXK.out (by unfold attrB; simp [H1.out, H2.out]), Bool.and_false])
                        go_wp2
                        go_ret
                        exact ⟨ret_int (by rw [checkD_eq]; simp [HR.out, HN.out, HK.out, HU.out, HL.out, HA2.out]), HBw14.out⟩
                       | true =>
                        have H2 := Lib.hid h2; clear h2
                        cases h3 : x.value.toList.isEmpty with
                        | true =>
                         have h3b : x.value.toList = [] := List.isEmpty_iff.1 h3
                         have H3 := Lib.hid h3
                         have HA2 := Lib.hid (show attrsB d.attrs = false by unfold attrsB; rw [all_stop (p := attrB) HXK.out (by unfold attrB; simp [H1.out, H2.out, H3.out]), Bool.and_false])
                         go_wp2
                         go_ret
                         exact ⟨ret_int (by rw [checkD_eq]; simp [HR.out, HN.out, HK.out, HU.out, HL.out, HA2.out]), HBw14.out⟩
                        | false =>
                         have h3b : ¬ x.value.toList = [] := fun h => by rw [h] at h3; cases h3
                         have H3 := Lib.hid h3
                         go_wp2
                         go_round
                         case rel => exact ⟨k + 1, by omega, by go_num, all_step HA.out HXK.out (by unfold attrB; simp [H1.out, H2.out, H3.out])⟩
                         case measure => simp [intOf]; omega
                     ·
                      have i1 : ¬ (k : Int) < (d.attrs.length : Int) := by omega
                      have HALL := Lib.hid (all_end HA.out (by omega))
                      go_wp2_with fail
                      refine (RSorted_any A c d.attrs _ B HXC.out).mono ?_
                      rintro e w16 ⟨rfl, hbw16⟩
                      clear cp0 cp1 cp2 cp3 cp4 cp5 cp6 cp7 cp8 cp9
                      have HBw16 := Lib.hid (HBw14.out.trans (hbw16.mono HBw14.out.size))
                      have pw16 := Lib.hid (pw14.out.kept (grown_none hbw16) (fun e => by cases e))
                      clear hbw16
                      have cp0 := pw16.out.1 0 _ rfl
                      have cp1 := pw16.out.1 1 _ rfl
                      have cp2 := pw16.out.1 2 _ rfl
                      have cp3 := pw16.out.1 3 _ rfl
                      have cp4 := pw16.out.1 4 _ rfl
                      have cp5 := pw16.out.1 5 _ rfl
                      have cp6 := pw16.out.1 6 _ rfl
                      have cp7 := pw16.out.1 7 _ rfl
                      have cp8 := pw16.out.1 8 _ rfl
                      have cp9 := pw16.out.1 9 _ rfl
                      cases hs : sortedA d.attrs with
                      | false =>
                       have HA2 := Lib.hid (show attrsB d.attrs = false by unfold attrsB; rw [hs]; rfl); clear hs
                       go_wp2
                       go_ret
                       exact ⟨ret_int (by rw [checkD_eq]; simp [HR.out, HN.out, HK.out, HU.out, HL.out, HA2.out]), HBw16.out⟩
                      | true =>
                       have HA2 := Lib.hid (show attrsB d.attrs = true by unfold attrsB; rw [hs, HALL.out]; rfl); clear hs
                       go_wp2_with fail
                       refine (RLink_any (nodeV d) _ (by have := node_small (named_orig HN.out); omega) (HOK.out.next HBw16.out)).mono ?_
                       rintro e w17 ⟨rfl, hbw17⟩
                       clear cp0 cp1 cp2 cp3 cp4 cp5 cp6 cp7 cp8 cp9
                       have HBw17 := Lib.hid (HBw16.out.trans (hbw17.mono HBw16.out.size))
                       have pw17 := Lib.hid (pw16.out.kept (grown_none hbw17) (fun e => by cases e))
                       clear hbw17
                       have cp0 := pw17.out.1 0 _ rfl
                       have cp1 := pw17.out.1 1 _ rfl
                       have cp2 := pw17.out.1 2 _ rfl
                       have cp3 := pw17.out.1 3 _ rfl
                       have cp4 := pw17.out.1 4 _ rfl
                       have cp5 := pw17.out.1 5 _ rfl
                       have cp6 := pw17.out.1 6 _ rfl
                       have cp7 := pw17.out.1 7 _ rfl
                       have cp8 := pw17.out.1 8 _ rfl
                       have cp9 := pw17.out.1 9 _ rfl
                       cases h10 : linkB (nodeV d) with
                       | false =>
                        have HZ2 := Lib.hid (HZ.out.trans h10); clear h10
                        go_wp2
                        go_ret
                        exact ⟨ret_int (by rw [checkD_eq]; simp [HR.out, HN.out, HK.out, HU.out, HL.out, HA2.out, HZ2.out]), HBw17.out⟩
                       | true =>
                        have HZ2 := Lib.hid (HZ.out.trans h10); clear h10
                        go_wp2
                        go_ret
                        exact ⟨ret_int (by rw [checkD_eq]; simp [HR.out, HN.out, HK.out, HU.out, HL.out, HA2.out, HZ2.out]), HBw17.out⟩
                   ·
                    have i7 : (24 : Int) < (d.attrs.length : Int) := by omega
                    have HL := Lib.hid h7; clear h7
                    go_wp2
                    go_ret
                    exact ⟨ret_int (by rw [checkD_eq]; simp [HR.out, HN.out, HK.out, HU.out, HL.out]), HBw14.out⟩
               ·
                have e5 : (d.nm.toList == d.orig.toList) = false := by rw [ba_beq]; exact decide_eq_false h5
                have HK := Lib.hid (show kindB d = false by unfold kindB; rw [if_neg h4, decide_eq_false h5, Bool.and_false]); clear h4 h5
                go_wp2
                go_ret
                exact ⟨ret_int (by rw [checkD_eq]; simp [HR.out, HN.out, HK.out]), HBw1.out⟩
end Go.Proofs.YtjpoljlgkgmdkaaGreatDoor
