/-
  RelateApart: row and card.
 Conditions: those of the given row and card (the listed variables of the library hold what the text lays), nothing else.
-/
import Derived.Test.YtomcebcaendilaaGreatDoorHRH
import Derived.Test.YtomcebcaendilaaGreatDoorHRG
import Derived.Test.YtomcebcaendilaaGreatDoorHL
import Derived.Test.YtomcebcaendilaaGreatDoorHW
import Derived.Test.YtomcebcaendilaaGreatDoorHP
import Derived.Test.YtomcebcaendilaaGreatDoorHM
import Derived.ShutString
set_option linter.unusedSimpArgs false
set_option linter.unusedVariables false
namespace Go.Cold
open Go Go.RowKit
/-- Where a law of the chapter stands: the tree's box, the tree, a list of numbers. -/
def RsS (w : World) (gt : Nat) (A : Option Addr) (c : Nat) (L : List Dev) (A2 : Option Addr) (c2 : Nat) (ll : List Int) (wr : World) : Prop :=
 Below w.heap.size w wr ∧ BoxL wr gt [.slice A L.length c] ∧ Sl wr wr.heap.size A c L ∧ Sl wr wr.heap.size A2 c2 ll
theorem RsS.below {w wr wx : World} {gt : Nat} {A A2 : Option Addr} {c c2 : Nat} {L : List Dev} {ll : List Int} (h : RsS w gt A c L A2 c2 ll wr) (hb : Below wr.heap.size wr wx) : RsS w gt A c L A2 c2 ll wx :=
 ⟨h.1.trans (hb.mono h.1.size), h.2.1.kept (grown_none hb) (fun e => by cases e), h.2.2.1.next (Nat.le_refl _) hb, h.2.2.2.next (Nat.le_refl _) hb⟩
theorem okI_all {w : World} {B c : Nat} {A : Option Addr} {xs : List Int} (h : Sl w B A c xs) : ∀ n ∈ xs, okI n := by
 intro n hn
 obtain ⟨i, hi, rfl⟩ := List.getElem_of_mem hn
 obtain ⟨b, o, e, hb, h4⟩ := h.2.2 (by omega)
 obtain ⟨cs, h5, h6⟩ := h4 i _ (List.getElem?_eq_getElem hi)
 exact h5.2
theorem flat_one : ∀ l : List Int, (l.map fun x => [Value.int .i64 x]).flatten = l.map fun x => .int .i64 x
 | [] => rfl
 | x :: r => by rw [List.map_cons, List.flatten_cons, flat_one r]; rfl
theorem own_ints {F : Nat → Prop} {w w' : World} {T : TypeId} {xs : List Int} {cs : Array Value} (h : w.alloc (.cells cs T) = w') (hc : cs.toList = xs.map fun x => .int .i64 x) (hok : ∀ x ∈ xs, okI x) (hn : xs.length ≤ maxLen) : OwnsS F w' w.heap.size T (.slice (some ⟨w.heap.size, 0, none⟩) xs.length xs.length) xs := by
 have hs : cs.size = xs.length * 1 := by rw [← Array.length_toList, hc]; simp
 have h1 := World.ownsRow_lit (base := w.heap.size) (e := T) (size := 1) w cs xs.length (Nat.le_refl _) hn hs
 rw [h] at h1
 refine ⟨xs.map fun x => [.int .i64 x], ?_, by simp, fun i x cs' hx hcs => ?_⟩
 ·
  have e : (xs.map fun x => [Value.int .i64 x]).flatten = cs.toList := by rw [hc]; exact flat_one xs
  rw [e]; exact h1
 ·
  rw [List.getElem?_map, hx] at hcs
  cases hcs
  exact ⟨rfl, hok x (List.mem_of_getElem? hx)⟩
theorem any_snocA {α : Type} {p : α → Bool} {l : List α} {k : Nat} {x : α} (h : l[k]? = some x) : (l.take (k + 1)).any p = ((l.take k).any p || p x) := by
 rw [List.take_add_one, h, List.any_append]; simp
theorem apart_b1 (fr he cl : Bool) (h : (fr && !he) = true) : ((true && (!fr || he)) || (fr && !he && !cl && !true)) = false := by revert h; cases fr <;> cases he <;> cases cl <;> decide
theorem apart_b2 (fr he cl : Bool) (h : (fr && !he) = false) : ((false && (!fr || he)) || (fr && !he && !cl && !false)) = false := by revert h; cases fr <;> cases he <;> cases cl <;> decide
/-- What the law asks of a number of the tree is met. -/
theorem apart_ok {L : List Dev} (h : WF L) (ds bs : List Int) {n : Int} (hn : n ∈ idxs L) {fr cl he ib : Bool}
  (hf : fr = ((ds.contains n && !bs.contains n) && ((chainO L n).drop 1).all fun u => !ds.contains u.idx && !bs.contains u.idx)) (hc : cl = (batch L ds bs).any fun b => b != n && sisB L n b) (hh : he = bs.any fun b => sisB L n b) (hi : ib = (batch L ds bs).contains n) :
  ((ib && (!fr || he)) || (fr && !he && !cl && !ib)) = false := by
 obtain ⟨q1, q2⟩ := batch_iff h ds bs hn
 have hfb : (fr && !he) = true ↔ n ∈ ds ∧ BatOk L ds bs n := by
  rw [hf, hh]
  unfold BatOk
  simp only [Bool.and_eq_true, Bool.not_eq_true', List.contains_iff_mem, List.all_eq_true, List.any_eq_false, List.contains_eq_mem, decide_eq_true_eq, decide_eq_false_iff_not, Bool.not_eq_true]
  constructor
  · rintro ⟨⟨⟨h1, h2⟩, h3⟩, h4⟩; exact ⟨h1, h2, h3, h4⟩
  · rintro ⟨h1, h2, h3, h4⟩; exact ⟨⟨⟨h1, h2⟩, h3⟩, h4⟩
 cases hib : ib with
 | true =>
  have hm : n ∈ batch L ds bs := List.contains_iff_mem.1 (by rw [← hi, hib])
  exact apart_b1 fr he cl (hfb.2 (q1 hm))
 | false =>
  have hm : n ∉ batch L ds bs := fun h1 => by rw [List.contains_iff_mem.2 h1, hib] at hi; cases hi
  cases hfh : (fr && !he) with
  | false => simp
  | true =>
   obtain ⟨h1, h2⟩ := hfb.1 hfh
   cases hcl : cl with
   | true => simp
   | false =>
    exfalso
    refine hm (q2 h1 h2 fun b hb hne => ?_)
    rw [hcl] at hc
    have := List.any_eq_false.1 hc.symm b hb
    have hbn : (b != n) = true := by simpa using hne
    rw [hbn, Bool.true_and] at this
    simpa using this
end Go.Cold
namespace Go.Proofs.YtomcebcaendilaaGreatDoor
open Go.RowKit Go.Cold
set_option maxRecDepth 100000 in
set_option maxHeartbeats 8000000 in
theorem lawApart_any (A : Option Addr) (c : Nat) (xs : List Int) (A2 : Option Addr) (c2 : Nat) (ds : List Int) (A3 : Option Addr) (c3 : Nat) (bs : List Int) (w : World) (hok : Ok w) (hoa : OkA w) (hx : Sl w w.heap.size A c xs) (hds : Sl w w.heap.size A2 c2 ds) (hbs : Sl w w.heap.size A3 c3 bs) :
  Calls Tryz.prog 10 #[.slice A xs.length c, .slice A2 ds.length c2, .slice A3 bs.length c3] w fun e w' => e = .returned (.bool true) ∧ Below w.heap.size w w' := by
 have HOK := Lib.hid hok; have HOA := Lib.hid hoa; have HX := Lib.hid hx
 have hds1 := hds.1; have hds2 := hds.2.1
 unfold maxLen at hds2
 have HDS := Lib.hid hds
 have hbs1 := hbs.1; have hbs2 := hbs.2.1
 unfold maxLen at hbs2
 have HBS := Lib.hid hbs
 clear hok hoa hx hds hbs
 go_enter Tryz.func10, Tryz.ntmps10
 by_cases hrds : 60 < ds.length
 ·
  have i0ds : (60 : Int) < (ds.length : Int) := by omega
  go_wp2_with fail
  refine (known_any _ HOK.out HOA.out).mono ?_
  rintro e w' ⟨rfl, hb⟩
  go_wp2
  go_ret
  exact ⟨by try rfl, hb⟩
 have i0ds : ¬ (60 : Int) < (ds.length : Int) := by omega
 have HLDS := Lib.hid (show ds.length ≤ 60 by omega)
 by_cases hrbs : 60 < bs.length
 ·
  have i0bs : (60 : Int) < (bs.length : Int) := by omega
  go_wp2_with fail
  refine (known_any _ HOK.out HOA.out).mono ?_
  rintro e w' ⟨rfl, hb⟩
  go_wp2
  go_ret
  exact ⟨by try rfl, hb⟩
 have i0bs : ¬ (60 : Int) < (bs.length : Int) := by omega
 have HLBS := Lib.hid (show bs.length ≤ 60 by omega)
 go_upto_region 4 with fail
 have htape := tape_new HX.out
 have HNG := Lib.hid (notG_of HOK.out)
 obtain ⟨w1, hw1⟩ : ∃ z, w.alloc (.cells #[.slice A xs.length c, .int .i64 0] 31) = z := ⟨_, rfl⟩
 rw [hw1] at htape
 have hb1 : Below w.heap.size w w1 := by rw [← hw1]; exact (Below.refl _ _).alloc (Nat.le_refl _) _
 have HGw1 := Lib.hid (show w1.heap.size = w.heap.size + 1 by rw [← hw1]; simp)
 try simp only [hw1]
 have HTAPE := Lib.hid htape
 clear hw1 htape
 have HSw1 := Lib.hid (show w.heap.size ≤ w1.heap.size from hb1.size)
 have HBw1 := Lib.hid hb1
 clear hb1
 go_wp2_with fail
 refine (TreeM_any xs 0 w.heap.size w.heap.size 12 w1 (by decide) HTAPE.out ⟨by decide, by decide⟩ (HOK.out.next HBw1.out) HNG.out).mono ?_
 rintro e w2 ⟨AT, cT, L, k1, rfl, ⟨hvt, hmd⟩, hln, hsl, hk1, htp, hg2⟩
 have hb2 : Below w.heap.size w w2 := below_of_grown HBw1.out hg2 HBw1.out.size (Nat.le_refl _)
 have HSB2 := Lib.hid (show w1.heap.size ≤ w2.heap.size from hg2.size)
 have hx1 := hsl.1; have hx2 := hsl.2.1
 unfold maxLen at hx2
 have HVT := Lib.hid hvt; have HMD := Lib.hid hmd; have HLN := Lib.hid (show L.length ≤ 12 by omega); have HSL := Lib.hid (hsl.sl (B := w2.heap.size) (fun x hx => hx.2))
 have HBw2 := Lib.hid hb2
 clear HTAPE hvt hmd hln hsl hk1 htp hg2 hb2
 go_upto_region 4 with fail
 obtain ⟨w3, hw3⟩ : ∃ w3, w2.alloc (.cells #[.slice AT L.length cT] 27) = w3 := ⟨_, rfl⟩
 have hbw3 : Below w2.heap.size w2 w3 := by rw [← hw3]; exact (Below.refl _ _).alloc (Nat.le_refl _) _
 have HGw3 := Lib.hid (show w3.heap.size = w2.heap.size + 1 by rw [← hw3]; simp)
 have HXtw3 := Lib.hid (show BoxL w3 w2.heap.size [.slice AT L.length cT] from box_mk hw3)
 try simp only [hw3]
 have HSTEPw3 := Lib.hid hbw3
 have HSw3 := Lib.hid (show w2.heap.size ≤ w3.heap.size from hbw3.size)
 have HBw3 := Lib.hid (HBw2.out.trans (hbw3.mono HBw2.out.size))
 have HSLw3 := Lib.hid ((HSL.out).next (Nat.le_refl _) hbw3)
 clear hw3 hbw3
 try rw [show w2.heap.size + 1 = w3.heap.size from HGw3.out.symm]
 have HLA := Lib.hid (show ∀ d ∈ L, d.attrs.length ≤ 1000000 from fun d hd => attrs_le (HVT.out.chk d hd))
 have ct0 := HXtw3.out.1 0 _ rfl
 go_wp2_with fail
 refine (Batch_any AT cT L _ _ (Nat.le_refl _) HSLw3.out HVT.out A2 c2 ds w.heap.size HBw3.out.size (HDS.out.keep HBw3.out) A3 c3 bs w.heap.size HBw3.out.size (HBS.out.keep HBw3.out) (by have := HLDS.out; omega) (by have := HLBS.out; omega) (HOA.out.next HBw3.out)).mono ?_
 rintro e w4 hgot_
 obtain ⟨hb_, A5, c5, rfl, hs_⟩ := hgot_.sl
 obtain ⟨bt, hbt⟩ : ∃ z, batch L ds bs = z := ⟨_, rfl⟩
 rw [show batR L ds bs (ordR L ds) [] = bt from hbt] at hs_ ⊢
 have h51 := hs_.1; have h52 := hs_.2.1
 unfold maxLen at h52
 have HOKB := Lib.hid (okI_all hs_)
 clear ct0
 have HSw4 := Lib.hid (show w3.heap.size ≤ w4.heap.size from hb_.size)
 have HBw4 := Lib.hid (HBw3.out.trans (hb_.mono HBw3.out.size))
 have tw4 := Lib.hid (HXtw3.out.kept (grown_none hb_) (fun e => by cases e))
 have HSLw4 := Lib.hid ((HSLw3.out).next (Nat.le_refl _) hb_)
 clear hb_ hgot_
 have HBT := Lib.hid hbt; clear hbt
 have HRS := Lib.hid (show RsS w w2.heap.size AT cT L A5 c5 bt w4 from ⟨HBw4.out, tw4.out, HSLw4.out, hs_⟩)
 clear hs_
 have t0 := HRS.out.2.1.1 0 _ rfl
 go_wp2_with fail
 clear t0
 go_loopw [9] (fun kk wr => ∃ i : Nat, i ≤ L.length ∧ kk = .int .i64 i ∧ Hid (RsS w w2.heap.size AT cT L A5 c5 bt wr)) (fun kk _ => L.length - (intOf kk).toNat)
 case atStart => exact ⟨0, Nat.zero_le _, rfl, HRS⟩
 case round =>
  clear HRS
  obtain ⟨i, hi, rfl, HRS⟩ := hrel
  have t0 := HRS.out.2.1.1 0 _ rfl
  by_cases hit : i < L.length
  ·
   have i2 : (i : Int) < (L.length : Int) := by omega
   obtain ⟨b3, o3, e3, hb3, A9, c9, hok3, -, hcs3⟩ := HRS.out.2.2.1.dev hit
   have hmx : L[i]'hit ∈ L := List.getElem_mem hit
   obtain ⟨x, hx⟩ : ∃ x, L[i]'hit = x := ⟨_, rfl⟩
   rw [hx] at hok3 hcs3 hmx
   have x0 := hcs3.1; have HOX := Lib.hid hok3.1; have HMX := Lib.hid hmx
   clear hcs3 hok3 hmx hx hb3
   obtain ⟨wo, rfl⟩ : ∃ z, z = wr := ⟨_, rfl⟩
   have e3' := e3
   subst e3'
   go_upto_region 9 with fail
   clear x0 t0
   obtain ⟨n, hn⟩ : ∃ n, x.idx = n := ⟨_, rfl⟩
   rw [hn] at HOX ⊢
   have HNI := Lib.hid (show n ∈ idxs L by rw [← hn]; exact mem_idxs HMX.out)
   clear hn HMX
   have HBR := Lib.hid HRS.out.1; have HTR := Lib.hid HRS.out.2.1; have HSR := Lib.hid HRS.out.2.2.1; have HIR := Lib.hid HRS.out.2.2.2
   have HN0 := Lib.hid (show True from trivial)
   go_cut [11] (fun s11 wx => ∃ z : Bool, s11 = .bool z ∧ Hid (z = (ds.contains n && !bs.contains n)) ∧ wo = wx)
   case first =>
    go_wp2_with fail
    refine (RIn_any A2 c2 ds n _ _ (HDS.out.keep HBR.out)).mono ?_
    rintro e w' ⟨rfl, hw_⟩
    rw [hw_]; clear hw_ w'
    obtain ⟨z1, hz1⟩ : ∃ z, hasL ds n = z := ⟨_, rfl⟩
    rw [hz1]
    have HZ1 := Lib.hid (show ds.contains n = z1 from hz1); clear hz1
    cases z1
    ·
     have HV := Lib.hid (show false = (ds.contains n && !bs.contains n) by rw [HZ1.out]; rfl)
     go_wp2_with fail
     go_meet
     exact ⟨false, rfl, HV, rfl⟩
    ·
     go_wp2_with fail
     refine (RIn_any A3 c3 bs n _ _ (HBS.out.keep HBR.out)).mono ?_
     rintro e w' ⟨rfl, hw_⟩
     rw [hw_]; clear hw_ w'
     obtain ⟨z2, hz2⟩ : ∃ z, hasL bs n = z := ⟨_, rfl⟩
     rw [hz2]
     have HV := Lib.hid (show (!z2) = (ds.contains n && !bs.contains n) by rw [HZ1.out, show bs.contains n = z2 from hz2]; rfl); clear hz2
     go_wp2_with fail
     go_meet
     exact ⟨!z2, rfl, HV, rfl⟩
   case rest =>
   obtain ⟨z0, rfl, HZ0, rfl⟩ := hcut
   have ct0 := HTR.out.1 0 _ rfl
   go_wp2_with fail
   refine (Ancestors_any (some ⟨b3, o3, none⟩) cT L n _ _ (Nat.le_refl _) HSR.out HVT.out HOX.out).mono ?_
   rintro e wu ⟨hb_, v12, rfl, ho_⟩
   obtain ⟨A12, c12, hv12, hsl_⟩ := ho_.sl
   subst hv12
   obtain ⟨UU, hUU⟩ : ∃ z, (chainO L n).drop 1 = z := ⟨_, rfl⟩
   rw [hUU] at hsl_ ⊢
   have hu1 := hsl_.1; have hu2 := hsl_.2.1
   unfold maxLen at hu2
   clear ct0
   have HSwu := Lib.hid (show wo.heap.size ≤ wu.heap.size from hb_.size)
   have HBwu := Lib.hid (HBR.out.trans (hb_.mono HBR.out.size))
   have twu := Lib.hid (HTR.out.kept (grown_none hb_) (fun e => by cases e))
   have HSLwu := Lib.hid ((HSR.out).next (Nat.le_refl _) hb_)
   have HILwu := Lib.hid ((HIR.out).next (Nat.le_refl _) hb_)
   have HRU := Lib.hid (HRS.out.below hb_)
   have HUS := Lib.hid hsl_; have HUU := Lib.hid hUU
   clear hb_ ho_ hsl_ hUU
   go_wp2_with fail
   go_loop [11, 13] (fun v kk => ∃ (z : Bool) (q : Nat), q ≤ UU.length ∧ v = .bool z ∧ kk = .int .i64 q ∧ Hid (z = ((ds.contains n && !bs.contains n) && (UU.take q).all (fun u : Dev => !ds.contains u.idx && !bs.contains u.idx)))) (fun _ kk => UU.length - (intOf kk).toNat)
   case atStart => exact ⟨z0, 0, Nat.zero_le _, rfl, rfl, Lib.hid (by rw [HZ0.out]; simp)⟩
   case round =>
    obtain ⟨z, q, hq, rfl, rfl, HZ⟩ := hrel
    by_cases hqt : q < UU.length
    ·
     have i3 : (q : Int) < (UU.length : Int) := by omega
     obtain ⟨b5, o5, rfl, hb5, A6, c6, hok6, hat6, hcs6⟩ := HUS.out.dev hqt
     obtain ⟨u, hu⟩ : ∃ u, UU[q]'hqt = u := ⟨_, rfl⟩
     rw [hu] at hcs6
     have HSN := Lib.hid (all_snoc (p := fun u : Dev => !ds.contains u.idx && !bs.contains u.idx) (show UU[q]? = some u by rw [List.getElem?_eq_getElem hqt, hu]))
     have u0 := hcs6.1
     clear hok6 hat6 hcs6 hu hb5
     cases z
     ·
      have HZn := Lib.hid (show false = ((ds.contains n && !bs.contains n) && (UU.take (q + 1)).all (fun u : Dev => !ds.contains u.idx && !bs.contains u.idx)) by rw [HSN.out, ← Bool.and_assoc, ← HZ.out]; rfl)
      try go_wp2
      go_round
      case rel => exact ⟨false, q + 1, by omega, rfl, by go_num, HZn⟩
      case measure => simp [intOf]; omega
     ·
      go_wp2_with fail
      refine (RIn_any A2 c2 ds u.idx _ _ (HDS.out.keep HBwu.out)).mono ?_
      rintro e w' ⟨rfl, hw_⟩
      rw [hw_]; clear hw_ w'
      obtain ⟨r1, hr1⟩ : ∃ z, hasL ds u.idx = z := ⟨_, rfl⟩
      rw [hr1]
      have HR1 := Lib.hid (show ds.contains u.idx = r1 from hr1); clear hr1
      cases r1
      ·
       go_wp2_with fail
       refine (RIn_any A3 c3 bs u.idx _ _ (HBS.out.keep HBwu.out)).mono ?_
       rintro e w' ⟨rfl, hw_⟩
       rw [hw_]; clear hw_ w'
       obtain ⟨r2, hr2⟩ : ∃ z, hasL bs u.idx = z := ⟨_, rfl⟩
       rw [hr2]
       have HR2 := Lib.hid (show bs.contains u.idx = r2 from hr2); clear hr2
       have HZn := Lib.hid (show (!r2) = ((ds.contains n && !bs.contains n) && (UU.take (q + 1)).all (fun u : Dev => !ds.contains u.idx && !bs.contains u.idx)) by rw [HSN.out, ← Bool.and_assoc, ← HZ.out]; rw [HR1.out, HR2.out]; rfl)
       try go_wp2
       go_round
       case rel => exact ⟨(!r2), q + 1, by omega, rfl, by go_num, HZn⟩
       case measure => simp [intOf]; omega
      ·
       have HZn := Lib.hid (show false = ((ds.contains n && !bs.contains n) && (UU.take (q + 1)).all (fun u : Dev => !ds.contains u.idx && !bs.contains u.idx)) by rw [HSN.out, ← Bool.and_assoc, ← HZ.out]; rw [HR1.out]; rfl)
       try go_wp2
       go_round
       case rel => exact ⟨false, q + 1, by omega, rfl, by go_num, HZn⟩
       case measure => simp [intOf]; omega
    ·
     have i3 : ¬ (q : Int) < (UU.length : Int) := by omega
     obtain rfl : q = UU.length := by omega
     obtain ⟨fr, hfr⟩ : ∃ z', z = z' := ⟨_, rfl⟩
     have HFR := Lib.hid (show fr = ((ds.contains n && !bs.contains n) && ((chainO L n).drop 1).all (fun u : Dev => !ds.contains u.idx && !bs.contains u.idx)) by have h := HZ.out; rw [List.take_length] at h; rw [← hfr, HUU.out]; exact h)
     rw [hfr]
     clear hfr HZ HUS HUU hu1 hu2
     go_wp2_with fail
     go_loopw [14, 15] (fun v kk wr => ∃ (z : Bool) (q : Nat), q ≤ bt.length ∧ v = .bool z ∧ kk = .int .i64 q ∧ Hid (z = (bt.take q).any (fun b => b != n && sisB L n b)) ∧ Hid (RsS w w2.heap.size (some ⟨b3, o3, none⟩) cT L A5 c5 bt wr)) (fun _ kk _ => bt.length - (intOf kk).toNat)
     case atStart => exact ⟨false, 0, Nat.zero_le _, rfl, rfl, Lib.hid (by simp), HRU⟩
     case round =>
      clear HRU
      obtain ⟨z, q, hq, rfl, rfl, HZ, HRQ⟩ := hrel
      by_cases hqt : q < bt.length
      ·
       have i4 : (q : Int) < (bt.length : Int) := by omega
       obtain ⟨b5, o5, rfl, hb5, hc5, -, -⟩ := HRQ.out.2.2.2.int hqt
       have hmb : bt[q]'hqt ∈ bt := List.getElem_mem hqt
       obtain ⟨y, hy⟩ : ∃ x, bt[q]'hqt = x := ⟨_, rfl⟩
       rw [hy] at hc5 hmb
       have HSN := Lib.hid (any_snocA (p := fun b => b != n && sisB L n b) (show bt[q]? = some y by rw [List.getElem?_eq_getElem hqt, hy]))
       have HQY := Lib.hid (show bt[q]? = some y by rw [List.getElem?_eq_getElem hqt, hy]); have HC5 := Lib.hid hc5; have HMB := Lib.hid hmb; have HOY := Lib.hid (HOKB.out y hmb)
       clear hc5 hmb hy hb5
       obtain ⟨wq, rfl⟩ : ∃ z, z = wr := ⟨_, rfl⟩
       have HAP := Lib.hid (show bt.contains n = true → (y != n) = true → relB L n y = false from fun h1 h2 => by
        have h3 := HBT.out
        rw [← h3] at h1
        have h4 : y ∈ batch L ds bs := by rw [h3]; exact HMB.out
        exact batch_apart HVT.out.wf ds bs (List.contains_iff_mem.1 h1) h4 (by intro e; rw [e] at h2; simp at h2))
       have HBQ := Lib.hid HRQ.out.1; have HTQ := Lib.hid HRQ.out.2.1; have HSQ := Lib.hid HRQ.out.2.2.1; have HIQ := Lib.hid HRQ.out.2.2.2
       obtain ⟨yn, hyn⟩ : ∃ z, (y != n) = z := ⟨_, rfl⟩
       have HYN := Lib.hid hyn
       obtain ⟨sz, hsz⟩ : ∃ z, sisB L n y = z := ⟨_, rfl⟩
       have HSZ := Lib.hid hsz; clear hsz
       have HCL := Lib.hid (show (z || (yn && sz)) = (bt.take (q + 1)).any (fun b => b != n && sisB L n b) by rw [HSN.out, ← HZ.out, HYN.out, HSZ.out])
       rw [HYN.out] at HAP
       clear hyn
       go_upto_region 19 with fail
       go_cut [14] (fun s14 wx => ∃ z' : Bool, s14 = .bool z' ∧ Hid (z' = (bt.take (q + 1)).any (fun b => b != n && sisB L n b)) ∧ Hid (RsS w w2.heap.size (some ⟨b3, o3, none⟩) cT L (some ⟨b5, o5, none⟩) c5 bt wx))
       case first =>
        cases z
        ·
         cases yn
         ·
          have hyn := HYN.out
          refine wp_region_held_drew (S := fun w' => BoxL w' w2.heap.size [.slice (some ⟨b3, o3, none⟩) L.length cT] ∧ w'.cell? ⟨b5, o5 + q, none⟩ = some (.int .i64 y)) (by kernel_rfl) ⟨HTQ.out.drew, by show (World.drew wq).cell? _ = _; exact HC5.out⟩ (fun hS0 => ?_)
          obtain ⟨wd1, hwd1⟩ : ∃ z, World.drew wq = z := ⟨_, rfl⟩
          rw [hwd1] at hS0 ⊢
          have hb_ : Below wq.heap.size wq wd1 := by rw [← hwd1]; exact below_drewN_self _ _ 1
          clear hwd1
          have HSAwd1 := Lib.hid hS0; clear hS0
          have HSwd1 := Lib.hid (show wq.heap.size ≤ wd1.heap.size from hb_.size)
          have HBwd1 := Lib.hid (HBQ.out.trans (hb_.mono HBQ.out.size))
          have twd1 := Lib.hid (HTQ.out.kept (grown_none hb_) (fun e => by cases e))
          have HSLwd1 := Lib.hid ((HSQ.out).next (Nat.le_refl _) hb_)
          have HILwd1 := Lib.hid ((HIQ.out).next (Nat.le_refl _) hb_)
          clear hb_
          refine wpAnyH_take (i := 0) (oi := ⟨some 93, _, _, _, _, _⟩) (v := .bool false) rfl (by kernel_rfl) (by kernel_rfl) (by kernel_rfl) (fun _ _ _ h => h) (Or.inl ⟨by rfl, fun w' hS => by go_simp⟩) HSAwd1.out ?_
          try simp only [Act.put, List.setIfInBounds_toArray, List.set_cons_zero, List.set_cons_succ]
          refine wpAnyH_take (i := 1) (oi := ⟨some 94, _, _, _, _, _⟩) (v := .bool false) rfl (by kernel_rfl) (by kernel_rfl) (by kernel_rfl) (fun _ _ _ h => h) (Or.inl ⟨by rfl, fun w' hS => by go_simp⟩) HSAwd1.out ?_
          try simp only [Act.put, List.setIfInBounds_toArray, List.set_cons_zero, List.set_cons_succ]
          refine wpAnyH_take (i := 2) (oi := ⟨some 95, _, _, _, _, _⟩) (v := .slice (some ⟨b5, o5, none⟩) bt.length c5) rfl (by kernel_rfl) (by kernel_rfl) (by kernel_rfl) (fun _ _ _ h => h) (Or.inl ⟨by rfl, fun w' hS => by go_simp⟩) HSAwd1.out ?_
          try simp only [Act.put, List.setIfInBounds_toArray, List.set_cons_zero, List.set_cons_succ]
          refine wpAnyH_take (i := 3) (oi := ⟨some 96, _, _, _, _, _⟩) (v := .int .i64 q) rfl (by kernel_rfl) (by kernel_rfl) (by kernel_rfl) (fun _ _ _ h => h) (Or.inl ⟨by rfl, fun w' hS => by go_simp⟩) HSAwd1.out ?_
          try simp only [Act.put, List.setIfInBounds_toArray, List.set_cons_zero, List.set_cons_succ]
          refine wpAnyH_take (i := 4) (oi := ⟨some 97, _, _, _, _, _⟩) (v := .pointer (some ⟨b5, o5 + q, none⟩)) rfl (by kernel_rfl) (by kernel_rfl) (by kernel_rfl) (fun _ _ _ h => h) (Or.inl ⟨by rfl, fun w' hS => by go_simp⟩) HSAwd1.out ?_
          try simp only [Act.put, List.setIfInBounds_toArray, List.set_cons_zero, List.set_cons_succ]
          refine wpAnyH_take (i := 5) (oi := ⟨some 98, _, _, _, _, _⟩) (v := .int .i64 y) rfl (by kernel_rfl) (by kernel_rfl) (by kernel_rfl) (fun _ _ _ h => h) (Or.inl ⟨by rfl, fun w' hS => by (have u0_ := hS.2; go_simp)⟩) HSAwd1.out ?_
          try simp only [Act.put, List.setIfInBounds_toArray, List.set_cons_zero, List.set_cons_succ]
          refine wpAnyH_take (i := 6) (oi := ⟨some 99, _, _, _, _, _⟩) (v := .int .i64 n) rfl (by kernel_rfl) (by kernel_rfl) (by kernel_rfl) (fun _ _ _ h => h) (Or.inl ⟨by rfl, fun w' hS => by go_simp⟩) HSAwd1.out ?_
          try simp only [Act.put, List.setIfInBounds_toArray, List.set_cons_zero, List.set_cons_succ]
          refine wpAnyH_take (i := 7) (oi := ⟨some 100, _, _, _, _, _⟩) (v := .bool false) rfl (by kernel_rfl) (by kernel_rfl) (by kernel_rfl) (fun _ _ _ h => h) (Or.inl ⟨by rfl, fun w' hS => by go_simp⟩) HSAwd1.out ?_
          try simp only [Act.put, List.setIfInBounds_toArray, List.set_cons_zero, List.set_cons_succ]
          refine wpAnyH_take (i := 8) (oi := ⟨some 101, _, _, _, _, _⟩) (v := .bool false) rfl (by kernel_rfl) (by kernel_rfl) (by kernel_rfl) (fun _ _ _ h => h) (Or.inl ⟨by rfl, fun w' hS => by go_simp⟩) HSAwd1.out ?_
          try simp only [Act.put, List.setIfInBounds_toArray, List.set_cons_zero, List.set_cons_succ]
          refine wpAnyH_take (i := 9) (oi := ⟨some 102, _, _, _, _, _⟩) (v := undef) rfl (by kernel_rfl) (by kernel_rfl) (by kernel_rfl) (fun _ _ _ h => h) (Or.inr ⟨by rfl, rfl⟩) HSAwd1.out ?_
          try simp only [Act.put, List.setIfInBounds_toArray, List.set_cons_zero, List.set_cons_succ]
          refine wpAnyH_take (i := 10) (oi := ⟨some 103, _, _, _, _, _⟩) (v := undef) rfl (by kernel_rfl) (by kernel_rfl) (by kernel_rfl) (fun _ _ _ h => h) (Or.inr ⟨by rfl, rfl⟩) HSAwd1.out ?_
          try simp only [Act.put, List.setIfInBounds_toArray, List.set_cons_zero, List.set_cons_succ]
          refine wpAnyH_take (i := 11) (oi := ⟨some 104, _, _, _, _, _⟩) (v := undef) rfl (by kernel_rfl) (by kernel_rfl) (by kernel_rfl) (fun _ _ _ h => h) (Or.inr ⟨by rfl, rfl⟩) HSAwd1.out ?_
          try simp only [Act.put, List.setIfInBounds_toArray, List.set_cons_zero, List.set_cons_succ]
          refine wpAnyH_take (i := 12) (oi := ⟨some 105, _, _, _, _, _⟩) (v := undef) rfl (by kernel_rfl) (by kernel_rfl) (by kernel_rfl) (fun _ _ _ h => h) (Or.inr ⟨by rfl, rfl⟩) HSAwd1.out ?_
          try simp only [Act.put, List.setIfInBounds_toArray, List.set_cons_zero, List.set_cons_succ]
          refine wpAnyH_take (i := 13) (oi := ⟨some 106, _, _, _, _, _⟩) (v := undef) rfl (by kernel_rfl) (by kernel_rfl) (by kernel_rfl) (fun _ _ _ h => h) (Or.inr ⟨by rfl, rfl⟩) HSAwd1.out ?_
          try simp only [Act.put, List.setIfInBounds_toArray, List.set_cons_zero, List.set_cons_succ]
          refine wpAnyH_take (i := 14) (oi := ⟨some 107, _, _, _, _, _⟩) (v := undef) rfl (by kernel_rfl) (by kernel_rfl) (by kernel_rfl) (fun _ _ _ h => h) (Or.inr ⟨by rfl, rfl⟩) HSAwd1.out ?_
          try simp only [Act.put, List.setIfInBounds_toArray, List.set_cons_zero, List.set_cons_succ]
          refine wpAnyH_take (i := 15) (oi := ⟨some 108, _, _, _, _, _⟩) (v := undef) rfl (by kernel_rfl) (by kernel_rfl) (by kernel_rfl) (fun _ _ _ h => h) (Or.inr ⟨by rfl, rfl⟩) HSAwd1.out ?_
          try simp only [Act.put, List.setIfInBounds_toArray, List.set_cons_zero, List.set_cons_succ]
          refine wpAnyH_take (i := 16) (oi := ⟨some 109, _, _, _, _, _⟩) (v := .bool false) rfl (by kernel_rfl) (by kernel_rfl) (by kernel_rfl) (fun _ _ _ h => h) (Or.inl ⟨by rfl, fun w' hS => by go_simp⟩) HSAwd1.out ?_
          try simp only [Act.put, List.setIfInBounds_toArray, List.set_cons_zero, List.set_cons_succ]
          refine wpAnyH_take (i := 17) (oi := ⟨some 110, _, _, _, _, _⟩) (v := .bool false) rfl (by kernel_rfl) (by kernel_rfl) (by kernel_rfl) (fun _ _ _ h => h) (Or.inl ⟨by rfl, fun w' hS => by go_simp⟩) HSAwd1.out ?_
          try simp only [Act.put, List.setIfInBounds_toArray, List.set_cons_zero, List.set_cons_succ]
          refine wpAnyH_take (i := 18) (oi := ⟨some 14, _, _, _, _, _⟩) (v := .bool false) rfl (by kernel_rfl) (by kernel_rfl) (by kernel_rfl) (fun _ _ _ h => h) (Or.inl ⟨by rfl, fun w' hS => by go_simp⟩) HSAwd1.out ?_
          try simp only [Act.put, List.setIfInBounds_toArray, List.set_cons_zero, List.set_cons_succ]
          refine wpAnyH_done (by kernel_rfl) ?_ _
          clear hyn
          have HRN := Lib.hid (show RsS w w2.heap.size (some ⟨b3, o3, none⟩) cT L (some ⟨b5, o5, none⟩) c5 bt wd1 from ⟨HBwd1.out, twd1.out, HSLwd1.out, HILwd1.out⟩)
          go_wp2_with fail
          go_meet
          exact ⟨false, rfl, Lib.hid (by rw [← HCL.out]; rfl), HRN⟩
         ·
          have hyn := HYN.out
          refine wp_region_held_drew (S := fun w' => BoxL w' w2.heap.size [.slice (some ⟨b3, o3, none⟩) L.length cT] ∧ w'.cell? ⟨b5, o5 + q, none⟩ = some (.int .i64 y)) (by kernel_rfl) ⟨HTQ.out.drew, by show (World.drew wq).cell? _ = _; exact HC5.out⟩ (fun hS0 => ?_)
          obtain ⟨wd1, hwd1⟩ : ∃ z, World.drew wq = z := ⟨_, rfl⟩
          rw [hwd1] at hS0 ⊢
          have hb_ : Below wq.heap.size wq wd1 := by rw [← hwd1]; exact below_drewN_self _ _ 1
          clear hwd1
          have HSAwd1 := Lib.hid hS0; clear hS0
          have HSwd1 := Lib.hid (show wq.heap.size ≤ wd1.heap.size from hb_.size)
          have HBwd1 := Lib.hid (HBQ.out.trans (hb_.mono HBQ.out.size))
          have twd1 := Lib.hid (HTQ.out.kept (grown_none hb_) (fun e => by cases e))
          have HSLwd1 := Lib.hid ((HSQ.out).next (Nat.le_refl _) hb_)
          have HILwd1 := Lib.hid ((HIQ.out).next (Nat.le_refl _) hb_)
          clear hb_
          refine wpAnyH_take (i := 0) (oi := ⟨some 93, _, _, _, _, _⟩) (v := .bool false) rfl (by kernel_rfl) (by kernel_rfl) (by kernel_rfl) (fun _ _ _ h => h) (Or.inl ⟨by rfl, fun w' hS => by go_simp⟩) HSAwd1.out ?_
          try simp only [Act.put, List.setIfInBounds_toArray, List.set_cons_zero, List.set_cons_succ]
          refine wpAnyH_take (i := 1) (oi := ⟨some 94, _, _, _, _, _⟩) (v := .bool false) rfl (by kernel_rfl) (by kernel_rfl) (by kernel_rfl) (fun _ _ _ h => h) (Or.inl ⟨by rfl, fun w' hS => by go_simp⟩) HSAwd1.out ?_
          try simp only [Act.put, List.setIfInBounds_toArray, List.set_cons_zero, List.set_cons_succ]
          refine wpAnyH_take (i := 2) (oi := ⟨some 95, _, _, _, _, _⟩) (v := .slice (some ⟨b5, o5, none⟩) bt.length c5) rfl (by kernel_rfl) (by kernel_rfl) (by kernel_rfl) (fun _ _ _ h => h) (Or.inl ⟨by rfl, fun w' hS => by go_simp⟩) HSAwd1.out ?_
          try simp only [Act.put, List.setIfInBounds_toArray, List.set_cons_zero, List.set_cons_succ]
          refine wpAnyH_take (i := 3) (oi := ⟨some 96, _, _, _, _, _⟩) (v := .int .i64 q) rfl (by kernel_rfl) (by kernel_rfl) (by kernel_rfl) (fun _ _ _ h => h) (Or.inl ⟨by rfl, fun w' hS => by go_simp⟩) HSAwd1.out ?_
          try simp only [Act.put, List.setIfInBounds_toArray, List.set_cons_zero, List.set_cons_succ]
          refine wpAnyH_take (i := 4) (oi := ⟨some 97, _, _, _, _, _⟩) (v := .pointer (some ⟨b5, o5 + q, none⟩)) rfl (by kernel_rfl) (by kernel_rfl) (by kernel_rfl) (fun _ _ _ h => h) (Or.inl ⟨by rfl, fun w' hS => by go_simp⟩) HSAwd1.out ?_
          try simp only [Act.put, List.setIfInBounds_toArray, List.set_cons_zero, List.set_cons_succ]
          refine wpAnyH_take (i := 5) (oi := ⟨some 98, _, _, _, _, _⟩) (v := .int .i64 y) rfl (by kernel_rfl) (by kernel_rfl) (by kernel_rfl) (fun _ _ _ h => h) (Or.inl ⟨by rfl, fun w' hS => by (have u0_ := hS.2; go_simp)⟩) HSAwd1.out ?_
          try simp only [Act.put, List.setIfInBounds_toArray, List.set_cons_zero, List.set_cons_succ]
          refine wpAnyH_take (i := 6) (oi := ⟨some 99, _, _, _, _, _⟩) (v := .int .i64 n) rfl (by kernel_rfl) (by kernel_rfl) (by kernel_rfl) (fun _ _ _ h => h) (Or.inl ⟨by rfl, fun w' hS => by go_simp⟩) HSAwd1.out ?_
          try simp only [Act.put, List.setIfInBounds_toArray, List.set_cons_zero, List.set_cons_succ]
          refine wpAnyH_take (i := 7) (oi := ⟨some 100, _, _, _, _, _⟩) (v := .bool true) rfl (by kernel_rfl) (by kernel_rfl) (by kernel_rfl) (fun _ _ _ h => h) (Or.inl ⟨by rfl, fun w' hS => by go_simp⟩) HSAwd1.out ?_
          try simp only [Act.put, List.setIfInBounds_toArray, List.set_cons_zero, List.set_cons_succ]
          refine wpAnyH_take (i := 8) (oi := ⟨some 101, _, _, _, _, _⟩) (v := .bool true) rfl (by kernel_rfl) (by kernel_rfl) (by kernel_rfl) (fun _ _ _ h => h) (Or.inl ⟨by rfl, fun w' hS => by go_simp⟩) HSAwd1.out ?_
          try simp only [Act.put, List.setIfInBounds_toArray, List.set_cons_zero, List.set_cons_succ]
          refine wpAnyH_take (i := 9) (oi := ⟨some 102, _, _, _, _, _⟩) (v := .agg #[.slice (some ⟨b3, o3, none⟩) L.length cT]) rfl (by kernel_rfl) (by kernel_rfl) (by kernel_rfl) (fun _ _ _ h => h) (Or.inl ⟨by rfl, fun w' hS => by (have u0_ := hS.1.1 0 _ rfl; go_simp)⟩) HSAwd1.out ?_
          try simp only [Act.put, List.setIfInBounds_toArray, List.set_cons_zero, List.set_cons_succ]
          refine wpAnyH_take (i := 10) (oi := ⟨some 103, _, _, _, _, _⟩) (v := .int .i64 n) rfl (by kernel_rfl) (by kernel_rfl) (by kernel_rfl) (fun _ _ _ h => h) (Or.inl ⟨by rfl, fun w' hS => by go_simp⟩) HSAwd1.out ?_
          try simp only [Act.put, List.setIfInBounds_toArray, List.set_cons_zero, List.set_cons_succ]
          refine wpAnyH_take (i := 11) (oi := ⟨some 104, _, _, _, _, _⟩) (v := .slice (some ⟨b5, o5, none⟩) bt.length c5) rfl (by kernel_rfl) (by kernel_rfl) (by kernel_rfl) (fun _ _ _ h => h) (Or.inl ⟨by rfl, fun w' hS => by go_simp⟩) HSAwd1.out ?_
          try simp only [Act.put, List.setIfInBounds_toArray, List.set_cons_zero, List.set_cons_succ]
          refine wpAnyH_take (i := 12) (oi := ⟨some 105, _, _, _, _, _⟩) (v := .int .i64 q) rfl (by kernel_rfl) (by kernel_rfl) (by kernel_rfl) (fun _ _ _ h => h) (Or.inl ⟨by rfl, fun w' hS => by go_simp⟩) HSAwd1.out ?_
          try simp only [Act.put, List.setIfInBounds_toArray, List.set_cons_zero, List.set_cons_succ]
          refine wpAnyH_take (i := 13) (oi := ⟨some 106, _, _, _, _, _⟩) (v := .pointer (some ⟨b5, o5 + q, none⟩)) rfl (by kernel_rfl) (by kernel_rfl) (by kernel_rfl) (fun _ _ _ h => h) (Or.inl ⟨by rfl, fun w' hS => by go_simp⟩) HSAwd1.out ?_
          try simp only [Act.put, List.setIfInBounds_toArray, List.set_cons_zero, List.set_cons_succ]
          refine wpAnyH_take (i := 14) (oi := ⟨some 107, _, _, _, _, _⟩) (v := .int .i64 y) rfl (by kernel_rfl) (by kernel_rfl) (by kernel_rfl) (fun _ _ _ h => h) (Or.inl ⟨by rfl, fun w' hS => by (have u0_ := hS.2; go_simp)⟩) HSAwd1.out ?_
          try simp only [Act.put, List.setIfInBounds_toArray, List.set_cons_zero, List.set_cons_succ]
          clear hyn
          refine wpAnyH_ready (rs := [15]) (by kernel_rfl) (by simp) ?_
          refine AllReadyH.cons (o := ⟨some 108, .call ⟨_, _, _⟩, _, _, _, _⟩) rfl (fun K hK => ?_) AllReadyH.nil
          go_simp
          go_at_call 18
          refine (Sisters_any (some ⟨b3, o3, none⟩) cT L n y _ _ (Nat.le_refl _) HSLwd1.out HVT.out (HOA.out.next HBwd1.out)).mono ?_
          rintro e' q1 ⟨rfl, hb_⟩
          rw [HSZ.out]
          have HSAq1 := Lib.hid (show BoxL q1 w2.heap.size [.slice (some ⟨b3, o3, none⟩) L.length cT] ∧ q1.cell? ⟨b5, o5 + q, none⟩ = some (.int .i64 y) from ⟨(HSAwd1.out.1).kept (grown_none hb_) (fun e => by cases e), cell_on hb_ (HSAwd1.out.2)⟩)
          have HSq1 := Lib.hid (show wd1.heap.size ≤ q1.heap.size from hb_.size)
          have HBq1 := Lib.hid (HBwd1.out.trans (hb_.mono HBwd1.out.size))
          have tq1 := Lib.hid (twd1.out.kept (grown_none hb_) (fun e => by cases e))
          have HSLq1 := Lib.hid ((HSLwd1.out).next (Nat.le_refl _) hb_)
          have HILq1 := Lib.hid ((HILwd1.out).next (Nat.le_refl _) hb_)
          clear hb_
          refine hK.out _ _ HSAq1.out (fun _ => ?_)
          clear hK K
          try simp only [Act.put, List.setIfInBounds_toArray, List.set_cons_zero, List.set_cons_succ]
          refine wpAnyH_take (i := 16) (oi := ⟨some 109, _, _, _, _, _⟩) (v := .bool sz) rfl (by kernel_rfl) (by kernel_rfl) (by kernel_rfl) (fun _ _ _ h => h) (Or.inl ⟨by rfl, fun w' hS => by go_simp⟩) HSAq1.out ?_
          try simp only [Act.put, List.setIfInBounds_toArray, List.set_cons_zero, List.set_cons_succ]
          refine wpAnyH_take (i := 17) (oi := ⟨some 110, _, _, _, _, _⟩) (v := .bool sz) rfl (by kernel_rfl) (by kernel_rfl) (by kernel_rfl) (fun _ _ _ h => h) (Or.inl ⟨by rfl, fun w' hS => by go_simp⟩) HSAq1.out ?_
          try simp only [Act.put, List.setIfInBounds_toArray, List.set_cons_zero, List.set_cons_succ]
          refine wpAnyH_take (i := 18) (oi := ⟨some 14, _, _, _, _, _⟩) (v := .bool sz) rfl (by kernel_rfl) (by kernel_rfl) (by kernel_rfl) (fun _ _ _ h => h) (Or.inl ⟨by rfl, fun w' hS => by go_simp⟩) HSAq1.out ?_
          try simp only [Act.put, List.setIfInBounds_toArray, List.set_cons_zero, List.set_cons_succ]
          refine wpAnyH_done (by kernel_rfl) ?_ _
          have HRN := Lib.hid (show RsS w w2.heap.size (some ⟨b3, o3, none⟩) cT L (some ⟨b5, o5, none⟩) c5 bt q1 from ⟨HBq1.out, tq1.out, HSLq1.out, HILq1.out⟩)
          go_wp2_with fail
          go_meet
          exact ⟨sz, rfl, Lib.hid (by rw [← HCL.out]; rfl), HRN⟩
        ·
         refine wp_region_held_drew (S := fun w' => BoxL w' w2.heap.size [.slice (some ⟨b3, o3, none⟩) L.length cT] ∧ w'.cell? ⟨b5, o5 + q, none⟩ = some (.int .i64 y)) (by kernel_rfl) ⟨HTQ.out.drew, by show (World.drew wq).cell? _ = _; exact HC5.out⟩ (fun hS0 => ?_)
         obtain ⟨wd1, hwd1⟩ : ∃ z, World.drew wq = z := ⟨_, rfl⟩
         rw [hwd1] at hS0 ⊢
         have hb_ : Below wq.heap.size wq wd1 := by rw [← hwd1]; exact below_drewN_self _ _ 1
         clear hwd1
         have HSAwd1 := Lib.hid hS0; clear hS0
         have HSwd1 := Lib.hid (show wq.heap.size ≤ wd1.heap.size from hb_.size)
         have HBwd1 := Lib.hid (HBQ.out.trans (hb_.mono HBQ.out.size))
         have twd1 := Lib.hid (HTQ.out.kept (grown_none hb_) (fun e => by cases e))
         have HSLwd1 := Lib.hid ((HSQ.out).next (Nat.le_refl _) hb_)
         have HILwd1 := Lib.hid ((HIQ.out).next (Nat.le_refl _) hb_)
         clear hb_
         refine wpAnyH_take (i := 0) (oi := ⟨some 93, _, _, _, _, _⟩) (v := .bool true) rfl (by kernel_rfl) (by kernel_rfl) (by kernel_rfl) (fun _ _ _ h => h) (Or.inl ⟨by rfl, fun w' hS => by go_simp⟩) HSAwd1.out ?_
         try simp only [Act.put, List.setIfInBounds_toArray, List.set_cons_zero, List.set_cons_succ]
         refine wpAnyH_take (i := 1) (oi := ⟨some 94, _, _, _, _, _⟩) (v := .bool true) rfl (by kernel_rfl) (by kernel_rfl) (by kernel_rfl) (fun _ _ _ h => h) (Or.inl ⟨by rfl, fun w' hS => by go_simp⟩) HSAwd1.out ?_
         try simp only [Act.put, List.setIfInBounds_toArray, List.set_cons_zero, List.set_cons_succ]
         refine wpAnyH_take (i := 2) (oi := ⟨some 95, _, _, _, _, _⟩) (v := undef) rfl (by kernel_rfl) (by kernel_rfl) (by kernel_rfl) (fun _ _ _ h => h) (Or.inr ⟨by rfl, rfl⟩) HSAwd1.out ?_
         try simp only [Act.put, List.setIfInBounds_toArray, List.set_cons_zero, List.set_cons_succ]
         refine wpAnyH_take (i := 3) (oi := ⟨some 96, _, _, _, _, _⟩) (v := undef) rfl (by kernel_rfl) (by kernel_rfl) (by kernel_rfl) (fun _ _ _ h => h) (Or.inr ⟨by rfl, rfl⟩) HSAwd1.out ?_
         try simp only [Act.put, List.setIfInBounds_toArray, List.set_cons_zero, List.set_cons_succ]
         refine wpAnyH_take (i := 4) (oi := ⟨some 97, _, _, _, _, _⟩) (v := undef) rfl (by kernel_rfl) (by kernel_rfl) (by kernel_rfl) (fun _ _ _ h => h) (Or.inr ⟨by rfl, rfl⟩) HSAwd1.out ?_
         try simp only [Act.put, List.setIfInBounds_toArray, List.set_cons_zero, List.set_cons_succ]
         refine wpAnyH_take (i := 5) (oi := ⟨some 98, _, _, _, _, _⟩) (v := undef) rfl (by kernel_rfl) (by kernel_rfl) (by kernel_rfl) (fun _ _ _ h => h) (Or.inr ⟨by rfl, rfl⟩) HSAwd1.out ?_
         try simp only [Act.put, List.setIfInBounds_toArray, List.set_cons_zero, List.set_cons_succ]
         refine wpAnyH_take (i := 6) (oi := ⟨some 99, _, _, _, _, _⟩) (v := undef) rfl (by kernel_rfl) (by kernel_rfl) (by kernel_rfl) (fun _ _ _ h => h) (Or.inr ⟨by rfl, rfl⟩) HSAwd1.out ?_
         try simp only [Act.put, List.setIfInBounds_toArray, List.set_cons_zero, List.set_cons_succ]
         refine wpAnyH_take (i := 7) (oi := ⟨some 100, _, _, _, _, _⟩) (v := undef) rfl (by kernel_rfl) (by kernel_rfl) (by kernel_rfl) (fun _ _ _ h => h) (Or.inr ⟨by rfl, rfl⟩) HSAwd1.out ?_
         try simp only [Act.put, List.setIfInBounds_toArray, List.set_cons_zero, List.set_cons_succ]
         refine wpAnyH_take (i := 8) (oi := ⟨some 101, _, _, _, _, _⟩) (v := undef) rfl (by kernel_rfl) (by kernel_rfl) (by kernel_rfl) (fun _ _ _ h => h) (Or.inr ⟨by rfl, rfl⟩) HSAwd1.out ?_
         try simp only [Act.put, List.setIfInBounds_toArray, List.set_cons_zero, List.set_cons_succ]
         refine wpAnyH_take (i := 9) (oi := ⟨some 102, _, _, _, _, _⟩) (v := undef) rfl (by kernel_rfl) (by kernel_rfl) (by kernel_rfl) (fun _ _ _ h => h) (Or.inr ⟨by rfl, rfl⟩) HSAwd1.out ?_
         try simp only [Act.put, List.setIfInBounds_toArray, List.set_cons_zero, List.set_cons_succ]
         refine wpAnyH_take (i := 10) (oi := ⟨some 103, _, _, _, _, _⟩) (v := undef) rfl (by kernel_rfl) (by kernel_rfl) (by kernel_rfl) (fun _ _ _ h => h) (Or.inr ⟨by rfl, rfl⟩) HSAwd1.out ?_
         try simp only [Act.put, List.setIfInBounds_toArray, List.set_cons_zero, List.set_cons_succ]
         refine wpAnyH_take (i := 11) (oi := ⟨some 104, _, _, _, _, _⟩) (v := undef) rfl (by kernel_rfl) (by kernel_rfl) (by kernel_rfl) (fun _ _ _ h => h) (Or.inr ⟨by rfl, rfl⟩) HSAwd1.out ?_
         try simp only [Act.put, List.setIfInBounds_toArray, List.set_cons_zero, List.set_cons_succ]
         refine wpAnyH_take (i := 12) (oi := ⟨some 105, _, _, _, _, _⟩) (v := undef) rfl (by kernel_rfl) (by kernel_rfl) (by kernel_rfl) (fun _ _ _ h => h) (Or.inr ⟨by rfl, rfl⟩) HSAwd1.out ?_
         try simp only [Act.put, List.setIfInBounds_toArray, List.set_cons_zero, List.set_cons_succ]
         refine wpAnyH_take (i := 13) (oi := ⟨some 106, _, _, _, _, _⟩) (v := undef) rfl (by kernel_rfl) (by kernel_rfl) (by kernel_rfl) (fun _ _ _ h => h) (Or.inr ⟨by rfl, rfl⟩) HSAwd1.out ?_
         try simp only [Act.put, List.setIfInBounds_toArray, List.set_cons_zero, List.set_cons_succ]
         refine wpAnyH_take (i := 14) (oi := ⟨some 107, _, _, _, _, _⟩) (v := undef) rfl (by kernel_rfl) (by kernel_rfl) (by kernel_rfl) (fun _ _ _ h => h) (Or.inr ⟨by rfl, rfl⟩) HSAwd1.out ?_
         try simp only [Act.put, List.setIfInBounds_toArray, List.set_cons_zero, List.set_cons_succ]
         refine wpAnyH_take (i := 15) (oi := ⟨some 108, _, _, _, _, _⟩) (v := undef) rfl (by kernel_rfl) (by kernel_rfl) (by kernel_rfl) (fun _ _ _ h => h) (Or.inr ⟨by rfl, rfl⟩) HSAwd1.out ?_
         try simp only [Act.put, List.setIfInBounds_toArray, List.set_cons_zero, List.set_cons_succ]
         refine wpAnyH_take (i := 16) (oi := ⟨some 109, _, _, _, _, _⟩) (v := undef) rfl (by kernel_rfl) (by kernel_rfl) (by kernel_rfl) (fun _ _ _ h => h) (Or.inr ⟨by rfl, rfl⟩) HSAwd1.out ?_
         try simp only [Act.put, List.setIfInBounds_toArray, List.set_cons_zero, List.set_cons_succ]
         refine wpAnyH_take (i := 17) (oi := ⟨some 110, _, _, _, _, _⟩) (v := .bool true) rfl (by kernel_rfl) (by kernel_rfl) (by kernel_rfl) (fun _ _ _ h => h) (Or.inl ⟨by rfl, fun w' hS => by go_simp⟩) HSAwd1.out ?_
         try simp only [Act.put, List.setIfInBounds_toArray, List.set_cons_zero, List.set_cons_succ]
         refine wpAnyH_take (i := 18) (oi := ⟨some 14, _, _, _, _, _⟩) (v := .bool true) rfl (by kernel_rfl) (by kernel_rfl) (by kernel_rfl) (fun _ _ _ h => h) (Or.inl ⟨by rfl, fun w' hS => by go_simp⟩) HSAwd1.out ?_
         try simp only [Act.put, List.setIfInBounds_toArray, List.set_cons_zero, List.set_cons_succ]
         refine wpAnyH_done (by kernel_rfl) ?_ _
         have HRN := Lib.hid (show RsS w w2.heap.size (some ⟨b3, o3, none⟩) cT L (some ⟨b5, o5, none⟩) c5 bt wd1 from ⟨HBwd1.out, twd1.out, HSLwd1.out, HILwd1.out⟩)
         go_wp2_with fail
         go_meet
         exact ⟨true, rfl, Lib.hid (by rw [← HCL.out]; rfl), HRN⟩
       case rest =>
       obtain ⟨z', rfl, HZ', HRC⟩ := hcut
       clear HCL HRQ
       have HBC := Lib.hid HRC.out.1; have HTC := Lib.hid HRC.out.2.1; have HSC := Lib.hid HRC.out.2.2.1; have HIC := Lib.hid HRC.out.2.2.2
       obtain ⟨b7, o7, e7, -, hc7, -, -⟩ := HRC.out.2.2.2.int hqt
       cases e7
       obtain ⟨wj, rfl⟩ : ∃ z, z = wc := ⟨_, rfl⟩
       have HC7 := Lib.hid (show wj.cell? ⟨b5, o5 + q, none⟩ = some (.int .i64 y) from by rw [hc7]; congr 2; exact (List.getElem?_eq_some_iff.1 (show bt[q]? = some y from HQY.out)).2)
       clear hc7
       go_upto_region 20 with fail
       go_cut [130] (fun s wx => s = .bool false ∧ Hid (RsS w w2.heap.size (some ⟨b3, o3, none⟩) cT L (some ⟨b5, o5, none⟩) c5 bt wx))
       case first =>
        cases yn
        ·
         have hyn := HYN.out
         refine wp_region_held_drew (S := fun w' => BoxL w' w2.heap.size [.slice (some ⟨b3, o3, none⟩) L.length cT] ∧ w'.cell? ⟨b5, o5 + q, none⟩ = some (.int .i64 y)) (by kernel_rfl) ⟨HTC.out.drew, by show (World.drew wj).cell? _ = _; exact HC7.out⟩ (fun hS0 => ?_)
         obtain ⟨wd2, hwd2⟩ : ∃ z, World.drew wj = z := ⟨_, rfl⟩
         rw [hwd2] at hS0 ⊢
         have hb_ : Below wj.heap.size wj wd2 := by rw [← hwd2]; exact below_drewN_self _ _ 1
         clear hwd2
         have HSAwd2 := Lib.hid hS0; clear hS0
         have HSwd2 := Lib.hid (show wj.heap.size ≤ wd2.heap.size from hb_.size)
         have HBwd2 := Lib.hid (HBC.out.trans (hb_.mono HBC.out.size))
         have twd2 := Lib.hid (HTC.out.kept (grown_none hb_) (fun e => by cases e))
         have HSLwd2 := Lib.hid ((HSC.out).next (Nat.le_refl _) hb_)
         have HILwd2 := Lib.hid ((HIC.out).next (Nat.le_refl _) hb_)
         clear hb_
         refine wpAnyH_take (i := 0) (oi := ⟨some 111, _, _, _, _, _⟩) (v := .slice (some ⟨b5, o5, none⟩) bt.length c5) rfl (by kernel_rfl) (by kernel_rfl) (by kernel_rfl) (fun _ _ _ h => h) (Or.inl ⟨by rfl, fun w' hS => by go_simp⟩) HSAwd2.out ?_
         try simp only [Act.put, List.setIfInBounds_toArray, List.set_cons_zero, List.set_cons_succ]
         refine wpAnyH_take (i := 1) (oi := ⟨some 112, _, _, _, _, _⟩) (v := .int .i64 q) rfl (by kernel_rfl) (by kernel_rfl) (by kernel_rfl) (fun _ _ _ h => h) (Or.inl ⟨by rfl, fun w' hS => by go_simp⟩) HSAwd2.out ?_
         try simp only [Act.put, List.setIfInBounds_toArray, List.set_cons_zero, List.set_cons_succ]
         refine wpAnyH_take (i := 2) (oi := ⟨some 113, _, _, _, _, _⟩) (v := .pointer (some ⟨b5, o5 + q, none⟩)) rfl (by kernel_rfl) (by kernel_rfl) (by kernel_rfl) (fun _ _ _ h => h) (Or.inl ⟨by rfl, fun w' hS => by go_simp⟩) HSAwd2.out ?_
         try simp only [Act.put, List.setIfInBounds_toArray, List.set_cons_zero, List.set_cons_succ]
         refine wpAnyH_take (i := 3) (oi := ⟨some 114, _, _, _, _, _⟩) (v := .int .i64 y) rfl (by kernel_rfl) (by kernel_rfl) (by kernel_rfl) (fun _ _ _ h => h) (Or.inl ⟨by rfl, fun w' hS => by (have u0_ := hS.2; go_simp)⟩) HSAwd2.out ?_
         try simp only [Act.put, List.setIfInBounds_toArray, List.set_cons_zero, List.set_cons_succ]
         refine wpAnyH_take (i := 4) (oi := ⟨some 115, _, _, _, _, _⟩) (v := .int .i64 n) rfl (by kernel_rfl) (by kernel_rfl) (by kernel_rfl) (fun _ _ _ h => h) (Or.inl ⟨by rfl, fun w' hS => by go_simp⟩) HSAwd2.out ?_
         try simp only [Act.put, List.setIfInBounds_toArray, List.set_cons_zero, List.set_cons_succ]
         refine wpAnyH_take (i := 5) (oi := ⟨some 116, _, _, _, _, _⟩) (v := .bool false) rfl (by kernel_rfl) (by kernel_rfl) (by kernel_rfl) (fun _ _ _ h => h) (Or.inl ⟨by rfl, fun w' hS => by go_simp⟩) HSAwd2.out ?_
         try simp only [Act.put, List.setIfInBounds_toArray, List.set_cons_zero, List.set_cons_succ]
         refine wpAnyH_take (i := 6) (oi := ⟨some 117, _, _, _, _, _⟩) (v := .bool false) rfl (by kernel_rfl) (by kernel_rfl) (by kernel_rfl) (fun _ _ _ h => h) (Or.inl ⟨by rfl, fun w' hS => by go_simp⟩) HSAwd2.out ?_
         try simp only [Act.put, List.setIfInBounds_toArray, List.set_cons_zero, List.set_cons_succ]
         clear hyn
         refine wpAnyH_take (i := 7) (oi := ⟨some 118, _, _, _, _, _⟩) (v := undef) rfl (by kernel_rfl) (by kernel_rfl) (by kernel_rfl) (fun _ _ _ h => h) (Or.inr ⟨by rfl, rfl⟩) HSAwd2.out ?_
         try simp only [Act.put, List.setIfInBounds_toArray, List.set_cons_zero, List.set_cons_succ]
         refine wpAnyH_take (i := 8) (oi := ⟨some 119, _, _, _, _, _⟩) (v := undef) rfl (by kernel_rfl) (by kernel_rfl) (by kernel_rfl) (fun _ _ _ h => h) (Or.inr ⟨by rfl, rfl⟩) HSAwd2.out ?_
         try simp only [Act.put, List.setIfInBounds_toArray, List.set_cons_zero, List.set_cons_succ]
         refine wpAnyH_take (i := 9) (oi := ⟨some 120, _, _, _, _, _⟩) (v := undef) rfl (by kernel_rfl) (by kernel_rfl) (by kernel_rfl) (fun _ _ _ h => h) (Or.inr ⟨by rfl, rfl⟩) HSAwd2.out ?_
         try simp only [Act.put, List.setIfInBounds_toArray, List.set_cons_zero, List.set_cons_succ]
         refine wpAnyH_take (i := 10) (oi := ⟨some 121, _, _, _, _, _⟩) (v := .bool false) rfl (by kernel_rfl) (by kernel_rfl) (by kernel_rfl) (fun _ _ _ h => h) (Or.inl ⟨by rfl, fun w' hS => by go_simp⟩) HSAwd2.out ?_
         try simp only [Act.put, List.setIfInBounds_toArray, List.set_cons_zero, List.set_cons_succ]
         refine wpAnyH_take (i := 11) (oi := ⟨some 122, _, _, _, _, _⟩) (v := .bool false) rfl (by kernel_rfl) (by kernel_rfl) (by kernel_rfl) (fun _ _ _ h => h) (Or.inl ⟨by rfl, fun w' hS => by go_simp⟩) HSAwd2.out ?_
         try simp only [Act.put, List.setIfInBounds_toArray, List.set_cons_zero, List.set_cons_succ]
         refine wpAnyH_take (i := 12) (oi := ⟨some 123, _, _, _, _, _⟩) (v := undef) rfl (by kernel_rfl) (by kernel_rfl) (by kernel_rfl) (fun _ _ _ h => h) (Or.inr ⟨by rfl, rfl⟩) HSAwd2.out ?_
         try simp only [Act.put, List.setIfInBounds_toArray, List.set_cons_zero, List.set_cons_succ]
         refine wpAnyH_take (i := 13) (oi := ⟨some 124, _, _, _, _, _⟩) (v := undef) rfl (by kernel_rfl) (by kernel_rfl) (by kernel_rfl) (fun _ _ _ h => h) (Or.inr ⟨by rfl, rfl⟩) HSAwd2.out ?_
         try simp only [Act.put, List.setIfInBounds_toArray, List.set_cons_zero, List.set_cons_succ]
         refine wpAnyH_take (i := 14) (oi := ⟨some 125, _, _, _, _, _⟩) (v := undef) rfl (by kernel_rfl) (by kernel_rfl) (by kernel_rfl) (fun _ _ _ h => h) (Or.inr ⟨by rfl, rfl⟩) HSAwd2.out ?_
         try simp only [Act.put, List.setIfInBounds_toArray, List.set_cons_zero, List.set_cons_succ]
         refine wpAnyH_take (i := 15) (oi := ⟨some 126, _, _, _, _, _⟩) (v := undef) rfl (by kernel_rfl) (by kernel_rfl) (by kernel_rfl) (fun _ _ _ h => h) (Or.inr ⟨by rfl, rfl⟩) HSAwd2.out ?_
         try simp only [Act.put, List.setIfInBounds_toArray, List.set_cons_zero, List.set_cons_succ]
         refine wpAnyH_take (i := 16) (oi := ⟨some 127, _, _, _, _, _⟩) (v := undef) rfl (by kernel_rfl) (by kernel_rfl) (by kernel_rfl) (fun _ _ _ h => h) (Or.inr ⟨by rfl, rfl⟩) HSAwd2.out ?_
         try simp only [Act.put, List.setIfInBounds_toArray, List.set_cons_zero, List.set_cons_succ]
         refine wpAnyH_take (i := 17) (oi := ⟨some 128, _, _, _, _, _⟩) (v := undef) rfl (by kernel_rfl) (by kernel_rfl) (by kernel_rfl) (fun _ _ _ h => h) (Or.inr ⟨by rfl, rfl⟩) HSAwd2.out ?_
         try simp only [Act.put, List.setIfInBounds_toArray, List.set_cons_zero, List.set_cons_succ]
         refine wpAnyH_take (i := 18) (oi := ⟨some 129, _, _, _, _, _⟩) (v := undef) rfl (by kernel_rfl) (by kernel_rfl) (by kernel_rfl) (fun _ _ _ h => h) (Or.inr ⟨by rfl, rfl⟩) HSAwd2.out ?_
         try simp only [Act.put, List.setIfInBounds_toArray, List.set_cons_zero, List.set_cons_succ]
         refine wpAnyH_take (i := 19) (oi := ⟨some 130, _, _, _, _, _⟩) (v := .bool false) rfl (by kernel_rfl) (by kernel_rfl) (by kernel_rfl) (fun _ _ _ h => h) (Or.inl ⟨by rfl, fun w' hS => by go_simp⟩) HSAwd2.out ?_
         try simp only [Act.put, List.setIfInBounds_toArray, List.set_cons_zero, List.set_cons_succ]
         refine wpAnyH_done (by kernel_rfl) ?_ _
         have HRN := Lib.hid (show RsS w w2.heap.size (some ⟨b3, o3, none⟩) cT L (some ⟨b5, o5, none⟩) c5 bt wd2 from ⟨HBwd2.out, twd2.out, HSLwd2.out, HILwd2.out⟩)
         go_wp2_with fail
         go_meet
         exact ⟨rfl, HRN⟩
        ·
         have hyn := HYN.out
         obtain ⟨ib, hib⟩ : ∃ z, bt.contains n = z := ⟨_, rfl⟩
         rw [hib] at HAP
         have HIB := Lib.hid (show hasL bt n = ib from hib); clear hib
         cases ib
         ·
          refine wp_region_held_drew (S := fun w' => BoxL w' w2.heap.size [.slice (some ⟨b3, o3, none⟩) L.length cT] ∧ w'.cell? ⟨b5, o5 + q, none⟩ = some (.int .i64 y)) (by kernel_rfl) ⟨HTC.out.drew, by show (World.drew wj).cell? _ = _; exact HC7.out⟩ (fun hS0 => ?_)
          obtain ⟨wd2, hwd2⟩ : ∃ z, World.drew wj = z := ⟨_, rfl⟩
          rw [hwd2] at hS0 ⊢
          have hb_ : Below wj.heap.size wj wd2 := by rw [← hwd2]; exact below_drewN_self _ _ 1
          clear hwd2
          have HSAwd2 := Lib.hid hS0; clear hS0
          have HSwd2 := Lib.hid (show wj.heap.size ≤ wd2.heap.size from hb_.size)
          have HBwd2 := Lib.hid (HBC.out.trans (hb_.mono HBC.out.size))
          have twd2 := Lib.hid (HTC.out.kept (grown_none hb_) (fun e => by cases e))
          have HSLwd2 := Lib.hid ((HSC.out).next (Nat.le_refl _) hb_)
          have HILwd2 := Lib.hid ((HIC.out).next (Nat.le_refl _) hb_)
          clear hb_
          refine wpAnyH_take (i := 0) (oi := ⟨some 111, _, _, _, _, _⟩) (v := .slice (some ⟨b5, o5, none⟩) bt.length c5) rfl (by kernel_rfl) (by kernel_rfl) (by kernel_rfl) (fun _ _ _ h => h) (Or.inl ⟨by rfl, fun w' hS => by go_simp⟩) HSAwd2.out ?_
          try simp only [Act.put, List.setIfInBounds_toArray, List.set_cons_zero, List.set_cons_succ]
          refine wpAnyH_take (i := 1) (oi := ⟨some 112, _, _, _, _, _⟩) (v := .int .i64 q) rfl (by kernel_rfl) (by kernel_rfl) (by kernel_rfl) (fun _ _ _ h => h) (Or.inl ⟨by rfl, fun w' hS => by go_simp⟩) HSAwd2.out ?_
          try simp only [Act.put, List.setIfInBounds_toArray, List.set_cons_zero, List.set_cons_succ]
          refine wpAnyH_take (i := 2) (oi := ⟨some 113, _, _, _, _, _⟩) (v := .pointer (some ⟨b5, o5 + q, none⟩)) rfl (by kernel_rfl) (by kernel_rfl) (by kernel_rfl) (fun _ _ _ h => h) (Or.inl ⟨by rfl, fun w' hS => by go_simp⟩) HSAwd2.out ?_
          try simp only [Act.put, List.setIfInBounds_toArray, List.set_cons_zero, List.set_cons_succ]
          refine wpAnyH_take (i := 3) (oi := ⟨some 114, _, _, _, _, _⟩) (v := .int .i64 y) rfl (by kernel_rfl) (by kernel_rfl) (by kernel_rfl) (fun _ _ _ h => h) (Or.inl ⟨by rfl, fun w' hS => by (have u0_ := hS.2; go_simp)⟩) HSAwd2.out ?_
          try simp only [Act.put, List.setIfInBounds_toArray, List.set_cons_zero, List.set_cons_succ]
          refine wpAnyH_take (i := 4) (oi := ⟨some 115, _, _, _, _, _⟩) (v := .int .i64 n) rfl (by kernel_rfl) (by kernel_rfl) (by kernel_rfl) (fun _ _ _ h => h) (Or.inl ⟨by rfl, fun w' hS => by go_simp⟩) HSAwd2.out ?_
          try simp only [Act.put, List.setIfInBounds_toArray, List.set_cons_zero, List.set_cons_succ]
          refine wpAnyH_take (i := 5) (oi := ⟨some 116, _, _, _, _, _⟩) (v := .bool true) rfl (by kernel_rfl) (by kernel_rfl) (by kernel_rfl) (fun _ _ _ h => h) (Or.inl ⟨by rfl, fun w' hS => by go_simp⟩) HSAwd2.out ?_
          try simp only [Act.put, List.setIfInBounds_toArray, List.set_cons_zero, List.set_cons_succ]
          refine wpAnyH_take (i := 6) (oi := ⟨some 117, _, _, _, _, _⟩) (v := .bool true) rfl (by kernel_rfl) (by kernel_rfl) (by kernel_rfl) (fun _ _ _ h => h) (Or.inl ⟨by rfl, fun w' hS => by go_simp⟩) HSAwd2.out ?_
          try simp only [Act.put, List.setIfInBounds_toArray, List.set_cons_zero, List.set_cons_succ]
          clear hyn
          refine wpAnyH_take (i := 7) (oi := ⟨some 118, _, _, _, _, _⟩) (v := .slice (some ⟨b5, o5, none⟩) bt.length c5) rfl (by kernel_rfl) (by kernel_rfl) (by kernel_rfl) (fun _ _ _ h => h) (Or.inl ⟨by rfl, fun w' hS => by go_simp⟩) HSAwd2.out ?_
          try simp only [Act.put, List.setIfInBounds_toArray, List.set_cons_zero, List.set_cons_succ]
          refine wpAnyH_take (i := 8) (oi := ⟨some 119, _, _, _, _, _⟩) (v := .int .i64 n) rfl (by kernel_rfl) (by kernel_rfl) (by kernel_rfl) (fun _ _ _ h => h) (Or.inl ⟨by rfl, fun w' hS => by go_simp⟩) HSAwd2.out ?_
          try simp only [Act.put, List.setIfInBounds_toArray, List.set_cons_zero, List.set_cons_succ]
          refine wpAnyH_ready (rs := [9]) (by kernel_rfl) (by simp) ?_
          refine AllReadyH.cons (o := ⟨some 120, .call ⟨_, _, _⟩, _, _, _, _⟩) rfl (fun K hK => ?_) AllReadyH.nil
          go_simp
          go_at_call 30
          refine (RIn_any (some ⟨b5, o5, none⟩) c5 bt n _ _ HILwd2.out).mono ?_
          rintro e' q2 ⟨rfl, hw_⟩
          have hb_ : Below wd2.heap.size wd2 q2 := by rw [hw_]; exact Below.refl _ _
          rw [HIB.out]
          clear hw_
          have HSAq2 := Lib.hid (show BoxL q2 w2.heap.size [.slice (some ⟨b3, o3, none⟩) L.length cT] ∧ q2.cell? ⟨b5, o5 + q, none⟩ = some (.int .i64 y) from ⟨(HSAwd2.out.1).kept (grown_none hb_) (fun e => by cases e), cell_on hb_ (HSAwd2.out.2)⟩)
          have HSq2 := Lib.hid (show wd2.heap.size ≤ q2.heap.size from hb_.size)
          have HBq2 := Lib.hid (HBwd2.out.trans (hb_.mono HBwd2.out.size))
          have tq2 := Lib.hid (twd2.out.kept (grown_none hb_) (fun e => by cases e))
          have HSLq2 := Lib.hid ((HSLwd2.out).next (Nat.le_refl _) hb_)
          have HILq2 := Lib.hid ((HILwd2.out).next (Nat.le_refl _) hb_)
          clear hb_
          refine hK.out _ _ HSAq2.out (fun _ => ?_)
          clear hK K
          try simp only [Act.put, List.setIfInBounds_toArray, List.set_cons_zero, List.set_cons_succ]
          refine wpAnyH_take (i := 10) (oi := ⟨some 121, _, _, _, _, _⟩) (v := .bool false) rfl (by kernel_rfl) (by kernel_rfl) (by kernel_rfl) (fun _ _ _ h => h) (Or.inl ⟨by rfl, fun w' hS => by go_simp⟩) HSAq2.out ?_
          try simp only [Act.put, List.setIfInBounds_toArray, List.set_cons_zero, List.set_cons_succ]
          refine wpAnyH_take (i := 11) (oi := ⟨some 122, _, _, _, _, _⟩) (v := .bool false) rfl (by kernel_rfl) (by kernel_rfl) (by kernel_rfl) (fun _ _ _ h => h) (Or.inl ⟨by rfl, fun w' hS => by go_simp⟩) HSAq2.out ?_
          try simp only [Act.put, List.setIfInBounds_toArray, List.set_cons_zero, List.set_cons_succ]
          refine wpAnyH_take (i := 12) (oi := ⟨some 123, _, _, _, _, _⟩) (v := undef) rfl (by kernel_rfl) (by kernel_rfl) (by kernel_rfl) (fun _ _ _ h => h) (Or.inr ⟨by rfl, rfl⟩) HSAq2.out ?_
          try simp only [Act.put, List.setIfInBounds_toArray, List.set_cons_zero, List.set_cons_succ]
          refine wpAnyH_take (i := 13) (oi := ⟨some 124, _, _, _, _, _⟩) (v := undef) rfl (by kernel_rfl) (by kernel_rfl) (by kernel_rfl) (fun _ _ _ h => h) (Or.inr ⟨by rfl, rfl⟩) HSAq2.out ?_
          try simp only [Act.put, List.setIfInBounds_toArray, List.set_cons_zero, List.set_cons_succ]
          refine wpAnyH_take (i := 14) (oi := ⟨some 125, _, _, _, _, _⟩) (v := undef) rfl (by kernel_rfl) (by kernel_rfl) (by kernel_rfl) (fun _ _ _ h => h) (Or.inr ⟨by rfl, rfl⟩) HSAq2.out ?_
          try simp only [Act.put, List.setIfInBounds_toArray, List.set_cons_zero, List.set_cons_succ]
          refine wpAnyH_take (i := 15) (oi := ⟨some 126, _, _, _, _, _⟩) (v := undef) rfl (by kernel_rfl) (by kernel_rfl) (by kernel_rfl) (fun _ _ _ h => h) (Or.inr ⟨by rfl, rfl⟩) HSAq2.out ?_
          try simp only [Act.put, List.setIfInBounds_toArray, List.set_cons_zero, List.set_cons_succ]
          refine wpAnyH_take (i := 16) (oi := ⟨some 127, _, _, _, _, _⟩) (v := undef) rfl (by kernel_rfl) (by kernel_rfl) (by kernel_rfl) (fun _ _ _ h => h) (Or.inr ⟨by rfl, rfl⟩) HSAq2.out ?_
          try simp only [Act.put, List.setIfInBounds_toArray, List.set_cons_zero, List.set_cons_succ]
          refine wpAnyH_take (i := 17) (oi := ⟨some 128, _, _, _, _, _⟩) (v := undef) rfl (by kernel_rfl) (by kernel_rfl) (by kernel_rfl) (fun _ _ _ h => h) (Or.inr ⟨by rfl, rfl⟩) HSAq2.out ?_
          try simp only [Act.put, List.setIfInBounds_toArray, List.set_cons_zero, List.set_cons_succ]
          refine wpAnyH_take (i := 18) (oi := ⟨some 129, _, _, _, _, _⟩) (v := undef) rfl (by kernel_rfl) (by kernel_rfl) (by kernel_rfl) (fun _ _ _ h => h) (Or.inr ⟨by rfl, rfl⟩) HSAq2.out ?_
          try simp only [Act.put, List.setIfInBounds_toArray, List.set_cons_zero, List.set_cons_succ]
          refine wpAnyH_take (i := 19) (oi := ⟨some 130, _, _, _, _, _⟩) (v := .bool false) rfl (by kernel_rfl) (by kernel_rfl) (by kernel_rfl) (fun _ _ _ h => h) (Or.inl ⟨by rfl, fun w' hS => by go_simp⟩) HSAq2.out ?_
          try simp only [Act.put, List.setIfInBounds_toArray, List.set_cons_zero, List.set_cons_succ]
          refine wpAnyH_done (by kernel_rfl) ?_ _
          have HRN := Lib.hid (show RsS w w2.heap.size (some ⟨b3, o3, none⟩) cT L (some ⟨b5, o5, none⟩) c5 bt q2 from ⟨HBq2.out, tq2.out, HSLq2.out, HILq2.out⟩)
          go_wp2_with fail
          go_meet
          exact ⟨rfl, HRN⟩
         ·
          refine wp_region_held_drew (S := fun w' => BoxL w' w2.heap.size [.slice (some ⟨b3, o3, none⟩) L.length cT] ∧ w'.cell? ⟨b5, o5 + q, none⟩ = some (.int .i64 y)) (by kernel_rfl) ⟨HTC.out.drew, by show (World.drew wj).cell? _ = _; exact HC7.out⟩ (fun hS0 => ?_)
          obtain ⟨wd2, hwd2⟩ : ∃ z, World.drew wj = z := ⟨_, rfl⟩
          rw [hwd2] at hS0 ⊢
          have hb_ : Below wj.heap.size wj wd2 := by rw [← hwd2]; exact below_drewN_self _ _ 1
          clear hwd2
          have HSAwd2 := Lib.hid hS0; clear hS0
          have HSwd2 := Lib.hid (show wj.heap.size ≤ wd2.heap.size from hb_.size)
          have HBwd2 := Lib.hid (HBC.out.trans (hb_.mono HBC.out.size))
          have twd2 := Lib.hid (HTC.out.kept (grown_none hb_) (fun e => by cases e))
          have HSLwd2 := Lib.hid ((HSC.out).next (Nat.le_refl _) hb_)
          have HILwd2 := Lib.hid ((HIC.out).next (Nat.le_refl _) hb_)
          clear hb_
          refine wpAnyH_take (i := 0) (oi := ⟨some 111, _, _, _, _, _⟩) (v := .slice (some ⟨b5, o5, none⟩) bt.length c5) rfl (by kernel_rfl) (by kernel_rfl) (by kernel_rfl) (fun _ _ _ h => h) (Or.inl ⟨by rfl, fun w' hS => by go_simp⟩) HSAwd2.out ?_
          try simp only [Act.put, List.setIfInBounds_toArray, List.set_cons_zero, List.set_cons_succ]
          refine wpAnyH_take (i := 1) (oi := ⟨some 112, _, _, _, _, _⟩) (v := .int .i64 q) rfl (by kernel_rfl) (by kernel_rfl) (by kernel_rfl) (fun _ _ _ h => h) (Or.inl ⟨by rfl, fun w' hS => by go_simp⟩) HSAwd2.out ?_
          try simp only [Act.put, List.setIfInBounds_toArray, List.set_cons_zero, List.set_cons_succ]
          refine wpAnyH_take (i := 2) (oi := ⟨some 113, _, _, _, _, _⟩) (v := .pointer (some ⟨b5, o5 + q, none⟩)) rfl (by kernel_rfl) (by kernel_rfl) (by kernel_rfl) (fun _ _ _ h => h) (Or.inl ⟨by rfl, fun w' hS => by go_simp⟩) HSAwd2.out ?_
          try simp only [Act.put, List.setIfInBounds_toArray, List.set_cons_zero, List.set_cons_succ]
          refine wpAnyH_take (i := 3) (oi := ⟨some 114, _, _, _, _, _⟩) (v := .int .i64 y) rfl (by kernel_rfl) (by kernel_rfl) (by kernel_rfl) (fun _ _ _ h => h) (Or.inl ⟨by rfl, fun w' hS => by (have u0_ := hS.2; go_simp)⟩) HSAwd2.out ?_
          try simp only [Act.put, List.setIfInBounds_toArray, List.set_cons_zero, List.set_cons_succ]
          refine wpAnyH_take (i := 4) (oi := ⟨some 115, _, _, _, _, _⟩) (v := .int .i64 n) rfl (by kernel_rfl) (by kernel_rfl) (by kernel_rfl) (fun _ _ _ h => h) (Or.inl ⟨by rfl, fun w' hS => by go_simp⟩) HSAwd2.out ?_
          try simp only [Act.put, List.setIfInBounds_toArray, List.set_cons_zero, List.set_cons_succ]
          refine wpAnyH_take (i := 5) (oi := ⟨some 116, _, _, _, _, _⟩) (v := .bool true) rfl (by kernel_rfl) (by kernel_rfl) (by kernel_rfl) (fun _ _ _ h => h) (Or.inl ⟨by rfl, fun w' hS => by go_simp⟩) HSAwd2.out ?_
          try simp only [Act.put, List.setIfInBounds_toArray, List.set_cons_zero, List.set_cons_succ]
          refine wpAnyH_take (i := 6) (oi := ⟨some 117, _, _, _, _, _⟩) (v := .bool true) rfl (by kernel_rfl) (by kernel_rfl) (by kernel_rfl) (fun _ _ _ h => h) (Or.inl ⟨by rfl, fun w' hS => by go_simp⟩) HSAwd2.out ?_
          try simp only [Act.put, List.setIfInBounds_toArray, List.set_cons_zero, List.set_cons_succ]
          clear hyn
          refine wpAnyH_take (i := 7) (oi := ⟨some 118, _, _, _, _, _⟩) (v := .slice (some ⟨b5, o5, none⟩) bt.length c5) rfl (by kernel_rfl) (by kernel_rfl) (by kernel_rfl) (fun _ _ _ h => h) (Or.inl ⟨by rfl, fun w' hS => by go_simp⟩) HSAwd2.out ?_
          try simp only [Act.put, List.setIfInBounds_toArray, List.set_cons_zero, List.set_cons_succ]
          refine wpAnyH_take (i := 8) (oi := ⟨some 119, _, _, _, _, _⟩) (v := .int .i64 n) rfl (by kernel_rfl) (by kernel_rfl) (by kernel_rfl) (fun _ _ _ h => h) (Or.inl ⟨by rfl, fun w' hS => by go_simp⟩) HSAwd2.out ?_
          try simp only [Act.put, List.setIfInBounds_toArray, List.set_cons_zero, List.set_cons_succ]
          refine wpAnyH_ready (rs := [9]) (by kernel_rfl) (by simp) ?_
          refine AllReadyH.cons (o := ⟨some 120, .call ⟨_, _, _⟩, _, _, _, _⟩) rfl (fun K hK => ?_) AllReadyH.nil
          go_simp
          go_at_call 30
          refine (RIn_any (some ⟨b5, o5, none⟩) c5 bt n _ _ HILwd2.out).mono ?_
          rintro e' q2 ⟨rfl, hw_⟩
          have hb_ : Below wd2.heap.size wd2 q2 := by rw [hw_]; exact Below.refl _ _
          rw [HIB.out]
          clear hw_
          have HSAq2 := Lib.hid (show BoxL q2 w2.heap.size [.slice (some ⟨b3, o3, none⟩) L.length cT] ∧ q2.cell? ⟨b5, o5 + q, none⟩ = some (.int .i64 y) from ⟨(HSAwd2.out.1).kept (grown_none hb_) (fun e => by cases e), cell_on hb_ (HSAwd2.out.2)⟩)
          have HSq2 := Lib.hid (show wd2.heap.size ≤ q2.heap.size from hb_.size)
          have HBq2 := Lib.hid (HBwd2.out.trans (hb_.mono HBwd2.out.size))
          have tq2 := Lib.hid (twd2.out.kept (grown_none hb_) (fun e => by cases e))
          have HSLq2 := Lib.hid ((HSLwd2.out).next (Nat.le_refl _) hb_)
          have HILq2 := Lib.hid ((HILwd2.out).next (Nat.le_refl _) hb_)
          clear hb_
          refine hK.out _ _ HSAq2.out (fun _ => ?_)
          clear hK K
          try simp only [Act.put, List.setIfInBounds_toArray, List.set_cons_zero, List.set_cons_succ]
          refine wpAnyH_take (i := 10) (oi := ⟨some 121, _, _, _, _, _⟩) (v := .bool true) rfl (by kernel_rfl) (by kernel_rfl) (by kernel_rfl) (fun _ _ _ h => h) (Or.inl ⟨by rfl, fun w' hS => by go_simp⟩) HSAq2.out ?_
          try simp only [Act.put, List.setIfInBounds_toArray, List.set_cons_zero, List.set_cons_succ]
          refine wpAnyH_take (i := 11) (oi := ⟨some 122, _, _, _, _, _⟩) (v := .bool true) rfl (by kernel_rfl) (by kernel_rfl) (by kernel_rfl) (fun _ _ _ h => h) (Or.inl ⟨by rfl, fun w' hS => by go_simp⟩) HSAq2.out ?_
          try simp only [Act.put, List.setIfInBounds_toArray, List.set_cons_zero, List.set_cons_succ]
          refine wpAnyH_take (i := 12) (oi := ⟨some 123, _, _, _, _, _⟩) (v := .agg #[.slice (some ⟨b3, o3, none⟩) L.length cT]) rfl (by kernel_rfl) (by kernel_rfl) (by kernel_rfl) (fun _ _ _ h => h) (Or.inl ⟨by rfl, fun w' hS => by (have u0_ := hS.1.1 0 _ rfl; go_simp)⟩) HSAq2.out ?_
          try simp only [Act.put, List.setIfInBounds_toArray, List.set_cons_zero, List.set_cons_succ]
          refine wpAnyH_take (i := 13) (oi := ⟨some 124, _, _, _, _, _⟩) (v := .int .i64 n) rfl (by kernel_rfl) (by kernel_rfl) (by kernel_rfl) (fun _ _ _ h => h) (Or.inl ⟨by rfl, fun w' hS => by go_simp⟩) HSAq2.out ?_
          try simp only [Act.put, List.setIfInBounds_toArray, List.set_cons_zero, List.set_cons_succ]
          refine wpAnyH_take (i := 14) (oi := ⟨some 125, _, _, _, _, _⟩) (v := .slice (some ⟨b5, o5, none⟩) bt.length c5) rfl (by kernel_rfl) (by kernel_rfl) (by kernel_rfl) (fun _ _ _ h => h) (Or.inl ⟨by rfl, fun w' hS => by go_simp⟩) HSAq2.out ?_
          try simp only [Act.put, List.setIfInBounds_toArray, List.set_cons_zero, List.set_cons_succ]
          refine wpAnyH_take (i := 15) (oi := ⟨some 126, _, _, _, _, _⟩) (v := .int .i64 q) rfl (by kernel_rfl) (by kernel_rfl) (by kernel_rfl) (fun _ _ _ h => h) (Or.inl ⟨by rfl, fun w' hS => by go_simp⟩) HSAq2.out ?_
          try simp only [Act.put, List.setIfInBounds_toArray, List.set_cons_zero, List.set_cons_succ]
          refine wpAnyH_take (i := 16) (oi := ⟨some 127, _, _, _, _, _⟩) (v := .pointer (some ⟨b5, o5 + q, none⟩)) rfl (by kernel_rfl) (by kernel_rfl) (by kernel_rfl) (fun _ _ _ h => h) (Or.inl ⟨by rfl, fun w' hS => by go_simp⟩) HSAq2.out ?_
          try simp only [Act.put, List.setIfInBounds_toArray, List.set_cons_zero, List.set_cons_succ]
          refine wpAnyH_take (i := 17) (oi := ⟨some 128, _, _, _, _, _⟩) (v := .int .i64 y) rfl (by kernel_rfl) (by kernel_rfl) (by kernel_rfl) (fun _ _ _ h => h) (Or.inl ⟨by rfl, fun w' hS => by (have u0_ := hS.2; go_simp)⟩) HSAq2.out ?_
          try simp only [Act.put, List.setIfInBounds_toArray, List.set_cons_zero, List.set_cons_succ]
          refine wpAnyH_ready (rs := [18]) (by kernel_rfl) (by simp) ?_
          refine AllReadyH.cons (o := ⟨some 129, .call ⟨_, _, _⟩, _, _, _, _⟩) rfl (fun K hK => ?_) AllReadyH.nil
          go_simp
          go_at_call 20
          refine (Related_any (some ⟨b3, o3, none⟩) cT L n y _ _ (Nat.le_refl _) HSLq2.out HVT.out HOX.out HOY.out (HOK.out.next HBq2.out) (HOA.out.next HBq2.out)).mono ?_
          rintro e' q3 ⟨rfl, hb_⟩
          rw [HAP.out rfl rfl]
          have HSAq3 := Lib.hid (show BoxL q3 w2.heap.size [.slice (some ⟨b3, o3, none⟩) L.length cT] ∧ q3.cell? ⟨b5, o5 + q, none⟩ = some (.int .i64 y) from ⟨(HSAq2.out.1).kept (grown_none hb_) (fun e => by cases e), cell_on hb_ (HSAq2.out.2)⟩)
          have HSq3 := Lib.hid (show q2.heap.size ≤ q3.heap.size from hb_.size)
          have HBq3 := Lib.hid (HBq2.out.trans (hb_.mono HBq2.out.size))
          have tq3 := Lib.hid (tq2.out.kept (grown_none hb_) (fun e => by cases e))
          have HSLq3 := Lib.hid ((HSLq2.out).next (Nat.le_refl _) hb_)
          have HILq3 := Lib.hid ((HILq2.out).next (Nat.le_refl _) hb_)
          clear hb_
          refine hK.out _ _ HSAq3.out (fun _ => ?_)
          clear hK K
          try simp only [Act.put, List.setIfInBounds_toArray, List.set_cons_zero, List.set_cons_succ]
          refine wpAnyH_take (i := 19) (oi := ⟨some 130, _, _, _, _, _⟩) (v := .bool false) rfl (by kernel_rfl) (by kernel_rfl) (by kernel_rfl) (fun _ _ _ h => h) (Or.inl ⟨by rfl, fun w' hS => by go_simp⟩) HSAq3.out ?_
          try simp only [Act.put, List.setIfInBounds_toArray, List.set_cons_zero, List.set_cons_succ]
          refine wpAnyH_done (by kernel_rfl) ?_ _
          have HRN := Lib.hid (show RsS w w2.heap.size (some ⟨b3, o3, none⟩) cT L (some ⟨b5, o5, none⟩) c5 bt q3 from ⟨HBq3.out, tq3.out, HSLq3.out, HILq3.out⟩)
          go_wp2_with fail
          go_meet
          exact ⟨rfl, HRN⟩
       case rest =>
       obtain ⟨rfl, HRD⟩ := hcut
       go_wp2
       go_roundw
       case rel => exact ⟨z', q + 1, by omega, rfl, by go_num, HZ', HRD⟩
       case measure => simp [intOf]; omega
      ·
       have i4 : ¬ (q : Int) < (bt.length : Int) := by omega
       obtain rfl : q = bt.length := by omega
       obtain ⟨cl, hcl⟩ : ∃ z', z = z' := ⟨_, rfl⟩
       have HCL := Lib.hid (show cl = bt.any (fun b => b != n && sisB L n b) by have h := HZ.out; rw [List.take_length] at h; rw [← hcl]; exact h)
       rw [hcl]
       clear hcl HZ
       go_wp2_with fail
       go_loopw [16, 17] (fun v kk wr => ∃ (z : Bool) (q : Nat), q ≤ bs.length ∧ v = .bool z ∧ kk = .int .i64 q ∧ Hid (z = (bs.take q).any (fun b => sisB L n b)) ∧ Hid (RsS w w2.heap.size (some ⟨b3, o3, none⟩) cT L A5 c5 bt wr)) (fun _ kk _ => bs.length - (intOf kk).toNat)
       case atStart => exact ⟨false, 0, Nat.zero_le _, rfl, rfl, Lib.hid (by simp), HRQ⟩
       case round =>
        clear HRQ
        obtain ⟨z, q, hq, rfl, rfl, HZ, HRQ⟩ := hrel
        by_cases hqt : q < bs.length
        ·
         have i5 : (q : Int) < (bs.length : Int) := by omega
         obtain ⟨b6, o6, rfl, hb6, hc6, -, -⟩ := (HBS.out.keep HRQ.out.1).int hqt
         obtain ⟨y, hy⟩ : ∃ x, bs[q]'hqt = x := ⟨_, rfl⟩
         rw [hy] at hc6
         have HSN := Lib.hid (any_snocA (p := fun b => sisB L n b) (show bs[q]? = some y by rw [List.getElem?_eq_getElem hqt, hy]))
         have HC6 := Lib.hid hc6
         clear hc6 hy hb6
         obtain ⟨wq, rfl⟩ : ∃ z, z = wr := ⟨_, rfl⟩
         have HBQ := Lib.hid HRQ.out.1; have HTQ := Lib.hid HRQ.out.2.1; have HSQ := Lib.hid HRQ.out.2.2.1; have HIQ := Lib.hid HRQ.out.2.2.2
         obtain ⟨sz, hsz⟩ : ∃ z, sisB L n y = z := ⟨_, rfl⟩
         have HSZ := Lib.hid hsz; clear hsz
         have HCH := Lib.hid (show (z || sz) = (bs.take (q + 1)).any (fun b => sisB L n b) by rw [HSN.out, ← HZ.out, HSZ.out])
         go_upto_region 26 with fail
         cases z
         ·
          refine wp_region_held_drew (S := fun w' => BoxL w' w2.heap.size [.slice (some ⟨b3, o3, none⟩) L.length cT] ∧ w'.cell? ⟨b6, o6 + q, none⟩ = some (.int .i64 y)) (by kernel_rfl) ⟨HTQ.out.drew, by show (World.drew wq).cell? _ = _; exact HC6.out⟩ (fun hS0 => ?_)
          obtain ⟨wd3, hwd3⟩ : ∃ z, World.drew wq = z := ⟨_, rfl⟩
          rw [hwd3] at hS0 ⊢
          have hb_ : Below wq.heap.size wq wd3 := by rw [← hwd3]; exact below_drewN_self _ _ 1
          clear hwd3
          have HSAwd3 := Lib.hid hS0; clear hS0
          have HSwd3 := Lib.hid (show wq.heap.size ≤ wd3.heap.size from hb_.size)
          have HBwd3 := Lib.hid (HBQ.out.trans (hb_.mono HBQ.out.size))
          have twd3 := Lib.hid (HTQ.out.kept (grown_none hb_) (fun e => by cases e))
          have HSLwd3 := Lib.hid ((HSQ.out).next (Nat.le_refl _) hb_)
          have HILwd3 := Lib.hid ((HIQ.out).next (Nat.le_refl _) hb_)
          clear hb_
          refine wpAnyH_take (i := 0) (oi := ⟨some 137, _, _, _, _, _⟩) (v := .bool false) rfl (by kernel_rfl) (by kernel_rfl) (by kernel_rfl) (fun _ _ _ h => h) (Or.inl ⟨by rfl, fun w' hS => by go_simp⟩) HSAwd3.out ?_
          try simp only [Act.put, List.setIfInBounds_toArray, List.set_cons_zero, List.set_cons_succ]
          refine wpAnyH_take (i := 1) (oi := ⟨some 138, _, _, _, _, _⟩) (v := .bool false) rfl (by kernel_rfl) (by kernel_rfl) (by kernel_rfl) (fun _ _ _ h => h) (Or.inl ⟨by rfl, fun w' hS => by go_simp⟩) HSAwd3.out ?_
          try simp only [Act.put, List.setIfInBounds_toArray, List.set_cons_zero, List.set_cons_succ]
          refine wpAnyH_take (i := 2) (oi := ⟨some 139, _, _, _, _, _⟩) (v := .agg #[.slice (some ⟨b3, o3, none⟩) L.length cT]) rfl (by kernel_rfl) (by kernel_rfl) (by kernel_rfl) (fun _ _ _ h => h) (Or.inl ⟨by rfl, fun w' hS => by (have u0_ := hS.1.1 0 _ rfl; go_simp)⟩) HSAwd3.out ?_
          try simp only [Act.put, List.setIfInBounds_toArray, List.set_cons_zero, List.set_cons_succ]
          refine wpAnyH_take (i := 3) (oi := ⟨some 140, _, _, _, _, _⟩) (v := .int .i64 n) rfl (by kernel_rfl) (by kernel_rfl) (by kernel_rfl) (fun _ _ _ h => h) (Or.inl ⟨by rfl, fun w' hS => by go_simp⟩) HSAwd3.out ?_
          try simp only [Act.put, List.setIfInBounds_toArray, List.set_cons_zero, List.set_cons_succ]
          refine wpAnyH_take (i := 4) (oi := ⟨some 141, _, _, _, _, _⟩) (v := .slice (some ⟨b6, o6, none⟩) bs.length c3) rfl (by kernel_rfl) (by kernel_rfl) (by kernel_rfl) (fun _ _ _ h => h) (Or.inl ⟨by rfl, fun w' hS => by go_simp⟩) HSAwd3.out ?_
          try simp only [Act.put, List.setIfInBounds_toArray, List.set_cons_zero, List.set_cons_succ]
          refine wpAnyH_take (i := 5) (oi := ⟨some 142, _, _, _, _, _⟩) (v := .int .i64 q) rfl (by kernel_rfl) (by kernel_rfl) (by kernel_rfl) (fun _ _ _ h => h) (Or.inl ⟨by rfl, fun w' hS => by go_simp⟩) HSAwd3.out ?_
          try simp only [Act.put, List.setIfInBounds_toArray, List.set_cons_zero, List.set_cons_succ]
          refine wpAnyH_take (i := 6) (oi := ⟨some 143, _, _, _, _, _⟩) (v := .pointer (some ⟨b6, o6 + q, none⟩)) rfl (by kernel_rfl) (by kernel_rfl) (by kernel_rfl) (fun _ _ _ h => h) (Or.inl ⟨by rfl, fun w' hS => by go_simp⟩) HSAwd3.out ?_
          try simp only [Act.put, List.setIfInBounds_toArray, List.set_cons_zero, List.set_cons_succ]
          refine wpAnyH_take (i := 7) (oi := ⟨some 144, _, _, _, _, _⟩) (v := .int .i64 y) rfl (by kernel_rfl) (by kernel_rfl) (by kernel_rfl) (fun _ _ _ h => h) (Or.inl ⟨by rfl, fun w' hS => by (have u0_ := hS.2; go_simp)⟩) HSAwd3.out ?_
          try simp only [Act.put, List.setIfInBounds_toArray, List.set_cons_zero, List.set_cons_succ]
          refine wpAnyH_ready (rs := [8]) (by kernel_rfl) (by simp) ?_
          refine AllReadyH.cons (o := ⟨some 145, .call ⟨_, _, _⟩, _, _, _, _⟩) rfl (fun K hK => ?_) AllReadyH.nil
          go_simp
          go_at_call 18
          refine (Sisters_any (some ⟨b3, o3, none⟩) cT L n y _ _ (Nat.le_refl _) HSLwd3.out HVT.out (HOA.out.next HBwd3.out)).mono ?_
          rintro e' q1 ⟨rfl, hb_⟩
          rw [HSZ.out]
          have HSAq1 := Lib.hid (show BoxL q1 w2.heap.size [.slice (some ⟨b3, o3, none⟩) L.length cT] ∧ q1.cell? ⟨b6, o6 + q, none⟩ = some (.int .i64 y) from ⟨(HSAwd3.out.1).kept (grown_none hb_) (fun e => by cases e), cell_on hb_ (HSAwd3.out.2)⟩)
          have HSq1 := Lib.hid (show wd3.heap.size ≤ q1.heap.size from hb_.size)
          have HBq1 := Lib.hid (HBwd3.out.trans (hb_.mono HBwd3.out.size))
          have tq1 := Lib.hid (twd3.out.kept (grown_none hb_) (fun e => by cases e))
          have HSLq1 := Lib.hid ((HSLwd3.out).next (Nat.le_refl _) hb_)
          have HILq1 := Lib.hid ((HILwd3.out).next (Nat.le_refl _) hb_)
          clear hb_
          refine hK.out _ _ HSAq1.out (fun _ => ?_)
          clear hK K
          try simp only [Act.put, List.setIfInBounds_toArray, List.set_cons_zero, List.set_cons_succ]
          refine wpAnyH_take (i := 9) (oi := ⟨some 146, _, _, _, _, _⟩) (v := .bool sz) rfl (by kernel_rfl) (by kernel_rfl) (by kernel_rfl) (fun _ _ _ h => h) (Or.inl ⟨by rfl, fun w' hS => by go_simp⟩) HSAq1.out ?_
          try simp only [Act.put, List.setIfInBounds_toArray, List.set_cons_zero, List.set_cons_succ]
          refine wpAnyH_take (i := 10) (oi := ⟨some 16, _, _, _, _, _⟩) (v := .bool sz) rfl (by kernel_rfl) (by kernel_rfl) (by kernel_rfl) (fun _ _ _ h => h) (Or.inl ⟨by rfl, fun w' hS => by go_simp⟩) HSAq1.out ?_
          try simp only [Act.put, List.setIfInBounds_toArray, List.set_cons_zero, List.set_cons_succ]
          refine wpAnyH_done (by kernel_rfl) ?_ _
          have HRN := Lib.hid (show RsS w w2.heap.size (some ⟨b3, o3, none⟩) cT L A5 c5 bt q1 from ⟨HBq1.out, tq1.out, HSLq1.out, HILq1.out⟩)
          try go_wp2
          go_roundw
          case rel => exact ⟨sz, q + 1, by omega, rfl, by go_num, Lib.hid (by rw [← HCH.out]; rfl), HRN⟩
          case measure => simp [intOf]; omega
         ·
          refine wp_region_held_drew (S := fun w' => BoxL w' w2.heap.size [.slice (some ⟨b3, o3, none⟩) L.length cT] ∧ w'.cell? ⟨b6, o6 + q, none⟩ = some (.int .i64 y)) (by kernel_rfl) ⟨HTQ.out.drew, by show (World.drew wq).cell? _ = _; exact HC6.out⟩ (fun hS0 => ?_)
          obtain ⟨wd3, hwd3⟩ : ∃ z, World.drew wq = z := ⟨_, rfl⟩
          rw [hwd3] at hS0 ⊢
          have hb_ : Below wq.heap.size wq wd3 := by rw [← hwd3]; exact below_drewN_self _ _ 1
          clear hwd3
          have HSAwd3 := Lib.hid hS0; clear hS0
          have HSwd3 := Lib.hid (show wq.heap.size ≤ wd3.heap.size from hb_.size)
          have HBwd3 := Lib.hid (HBQ.out.trans (hb_.mono HBQ.out.size))
          have twd3 := Lib.hid (HTQ.out.kept (grown_none hb_) (fun e => by cases e))
          have HSLwd3 := Lib.hid ((HSQ.out).next (Nat.le_refl _) hb_)
          have HILwd3 := Lib.hid ((HIQ.out).next (Nat.le_refl _) hb_)
          clear hb_
          refine wpAnyH_take (i := 0) (oi := ⟨some 137, _, _, _, _, _⟩) (v := .bool true) rfl (by kernel_rfl) (by kernel_rfl) (by kernel_rfl) (fun _ _ _ h => h) (Or.inl ⟨by rfl, fun w' hS => by go_simp⟩) HSAwd3.out ?_
          try simp only [Act.put, List.setIfInBounds_toArray, List.set_cons_zero, List.set_cons_succ]
          refine wpAnyH_take (i := 1) (oi := ⟨some 138, _, _, _, _, _⟩) (v := .bool true) rfl (by kernel_rfl) (by kernel_rfl) (by kernel_rfl) (fun _ _ _ h => h) (Or.inl ⟨by rfl, fun w' hS => by go_simp⟩) HSAwd3.out ?_
          try simp only [Act.put, List.setIfInBounds_toArray, List.set_cons_zero, List.set_cons_succ]
          refine wpAnyH_take (i := 2) (oi := ⟨some 139, _, _, _, _, _⟩) (v := undef) rfl (by kernel_rfl) (by kernel_rfl) (by kernel_rfl) (fun _ _ _ h => h) (Or.inr ⟨by rfl, rfl⟩) HSAwd3.out ?_
          try simp only [Act.put, List.setIfInBounds_toArray, List.set_cons_zero, List.set_cons_succ]
          refine wpAnyH_take (i := 3) (oi := ⟨some 140, _, _, _, _, _⟩) (v := undef) rfl (by kernel_rfl) (by kernel_rfl) (by kernel_rfl) (fun _ _ _ h => h) (Or.inr ⟨by rfl, rfl⟩) HSAwd3.out ?_
          try simp only [Act.put, List.setIfInBounds_toArray, List.set_cons_zero, List.set_cons_succ]
          refine wpAnyH_take (i := 4) (oi := ⟨some 141, _, _, _, _, _⟩) (v := undef) rfl (by kernel_rfl) (by kernel_rfl) (by kernel_rfl) (fun _ _ _ h => h) (Or.inr ⟨by rfl, rfl⟩) HSAwd3.out ?_
          try simp only [Act.put, List.setIfInBounds_toArray, List.set_cons_zero, List.set_cons_succ]
          refine wpAnyH_take (i := 5) (oi := ⟨some 142, _, _, _, _, _⟩) (v := undef) rfl (by kernel_rfl) (by kernel_rfl) (by kernel_rfl) (fun _ _ _ h => h) (Or.inr ⟨by rfl, rfl⟩) HSAwd3.out ?_
          try simp only [Act.put, List.setIfInBounds_toArray, List.set_cons_zero, List.set_cons_succ]
          refine wpAnyH_take (i := 6) (oi := ⟨some 143, _, _, _, _, _⟩) (v := undef) rfl (by kernel_rfl) (by kernel_rfl) (by kernel_rfl) (fun _ _ _ h => h) (Or.inr ⟨by rfl, rfl⟩) HSAwd3.out ?_
          try simp only [Act.put, List.setIfInBounds_toArray, List.set_cons_zero, List.set_cons_succ]
          refine wpAnyH_take (i := 7) (oi := ⟨some 144, _, _, _, _, _⟩) (v := undef) rfl (by kernel_rfl) (by kernel_rfl) (by kernel_rfl) (fun _ _ _ h => h) (Or.inr ⟨by rfl, rfl⟩) HSAwd3.out ?_
          try simp only [Act.put, List.setIfInBounds_toArray, List.set_cons_zero, List.set_cons_succ]
          refine wpAnyH_take (i := 8) (oi := ⟨some 145, _, _, _, _, _⟩) (v := undef) rfl (by kernel_rfl) (by kernel_rfl) (by kernel_rfl) (fun _ _ _ h => h) (Or.inr ⟨by rfl, rfl⟩) HSAwd3.out ?_
          try simp only [Act.put, List.setIfInBounds_toArray, List.set_cons_zero, List.set_cons_succ]
          refine wpAnyH_take (i := 9) (oi := ⟨some 146, _, _, _, _, _⟩) (v := .bool true) rfl (by kernel_rfl) (by kernel_rfl) (by kernel_rfl) (fun _ _ _ h => h) (Or.inl ⟨by rfl, fun w' hS => by go_simp⟩) HSAwd3.out ?_
          try simp only [Act.put, List.setIfInBounds_toArray, List.set_cons_zero, List.set_cons_succ]
          refine wpAnyH_take (i := 10) (oi := ⟨some 16, _, _, _, _, _⟩) (v := .bool true) rfl (by kernel_rfl) (by kernel_rfl) (by kernel_rfl) (fun _ _ _ h => h) (Or.inl ⟨by rfl, fun w' hS => by go_simp⟩) HSAwd3.out ?_
          try simp only [Act.put, List.setIfInBounds_toArray, List.set_cons_zero, List.set_cons_succ]
          refine wpAnyH_done (by kernel_rfl) ?_ _
          have HRN := Lib.hid (show RsS w w2.heap.size (some ⟨b3, o3, none⟩) cT L A5 c5 bt wd3 from ⟨HBwd3.out, twd3.out, HSLwd3.out, HILwd3.out⟩)
          try go_wp2
          go_roundw
          case rel => exact ⟨true, q + 1, by omega, rfl, by go_num, Lib.hid (by rw [← HCH.out]; rfl), HRN⟩
          case measure => simp [intOf]; omega
        ·
         have i5 : ¬ (q : Int) < (bs.length : Int) := by omega
         obtain rfl : q = bs.length := by omega
         obtain ⟨he, hhe⟩ : ∃ z', z = z' := ⟨_, rfl⟩
         have HHE := Lib.hid (show he = bs.any (fun b => sisB L n b) by have h := HZ.out; rw [List.take_length] at h; rw [← hhe]; exact h)
         rw [hhe]
         clear hhe HZ
         obtain ⟨ib, hib⟩ : ∃ z, bt.contains n = z := ⟨_, rfl⟩
         have HFIN := Lib.hid (apart_ok (fr := fr) (cl := cl) (he := he) (ib := ib) HVT.out.wf ds bs HNI.out HFR.out (by rw [HBT.out]; exact HCL.out) HHE.out (show ib = _ by rw [HBT.out]; exact hib.symm))
         have HIB := Lib.hid (show hasL bt n = ib from hib); clear hib
         go_wp2_with fail
         refine (RIn_any A5 c5 bt n _ _ HRQ.out.2.2.2).mono ?_
         rintro e w' ⟨rfl, hw_⟩
         rw [hw_]; clear hw_ w'
         rw [HIB.out]
         cases ib <;> cases fr <;> cases he <;> cases cl
         ·
          try go_wp2
          go_roundw
          case rel => exact ⟨i + 1, by omega, by go_num, HRQ⟩
          case measure => simp [intOf]; omega
         ·
          try go_wp2
          go_roundw
          case rel => exact ⟨i + 1, by omega, by go_num, HRQ⟩
          case measure => simp [intOf]; omega
         ·
          try go_wp2
          go_roundw
          case rel => exact ⟨i + 1, by omega, by go_num, HRQ⟩
          case measure => simp [intOf]; omega
         ·
          try go_wp2
          go_roundw
          case rel => exact ⟨i + 1, by omega, by go_num, HRQ⟩
          case measure => simp [intOf]; omega
         ·
          exact absurd HFIN.out (by decide)
         ·
          try go_wp2
          go_roundw
          case rel => exact ⟨i + 1, by omega, by go_num, HRQ⟩
          case measure => simp [intOf]; omega
         ·
          try go_wp2
          go_roundw
          case rel => exact ⟨i + 1, by omega, by go_num, HRQ⟩
          case measure => simp [intOf]; omega
         ·
          try go_wp2
          go_roundw
          case rel => exact ⟨i + 1, by omega, by go_num, HRQ⟩
          case measure => simp [intOf]; omega
         ·
          exact absurd HFIN.out (by decide)
         ·
          exact absurd HFIN.out (by decide)
         ·
          exact absurd HFIN.out (by decide)
         ·
          exact absurd HFIN.out (by decide)
         ·
          go_wp2_with fail
          refine (RIn_any A5 c5 bt n _ _ HRQ.out.2.2.2).mono ?_
          rintro e w' ⟨rfl, hw_⟩
          rw [hw_]; clear hw_ w'
          rw [HIB.out]
          try go_wp2
          go_roundw
          case rel => exact ⟨i + 1, by omega, by go_num, HRQ⟩
          case measure => simp [intOf]; omega
         ·
          try go_wp2
          go_roundw
          case rel => exact ⟨i + 1, by omega, by go_num, HRQ⟩
          case measure => simp [intOf]; omega
         ·
          exact absurd HFIN.out (by decide)
         ·
          exact absurd HFIN.out (by decide)
  ·
   have i2 : ¬ (i : Int) < (L.length : Int) := by omega
   go_wp2_with fail
   refine (known_any _ (HOK.out.next HRS.out.1) (HOA.out.next HRS.out.1)).mono ?_
   rintro e w' ⟨rfl, hb⟩
   go_wp2
   go_ret
   exact ⟨by try rfl, HRS.out.1.trans (hb.mono HRS.out.1.size)⟩
end Go.Proofs.YtomcebcaendilaaGreatDoor
namespace Go.Proofs.YtomcebcaendilaaGreatDoor
open Go.RowKit Go.Cold
namespace cRelateApart
open Go.ChangeShapes Go.WideShapes Go.ChangeAt
open Go.ChangeMaps (open_string)
set_option maxRecDepth 100000
theorem reads (os : Os) {H : Type} (enc : TypeId × Value → H) : ∃ places, DataW.whole enc Tryz.prog ((World.laidAll Tryz.prog os Rows.relateApartRow.laid).forCall (fun _ _ => 0) ⟨#[], #[.slice none 0 0, .slice none 0 0, .slice none 0 0], []⟩).memory Tryz.f10.params.toList Rows.relateApartSpec.vars false (#[.slice none 0 0, .slice none 0 0, .slice none 0 0] : Array Value).toList 8 = some ([.nil, .nil, .nil], [], places) :=
 ⟨[], by kernel_rfl⟩
theorem lifted (os : Os) (started : os.Started) (H : Type) (enc : TypeId × Value → H) (F : Stop.Interp) :
  ReturnsInHanded {} Tryz.checked os 10 .any ((OpenSpec.ofChange Rows.relateApartSpec).preRow enc Tryz.prog Tryz.f10 Rows.relateApartRow.domain false Rows.relateApartRow.laid) (((OpenSpec.ofChange Rows.relateApartSpec).at F).post enc Tryz.prog Tryz.f10 false true false false) := by
 obtain ⟨places, hx⟩ := reads os enc
 refine law_lifted os started H enc F (by kernel_rfl) Tryz.func10 #[.slice none 0 0, .slice none 0 0, .slice none 0 0] (World.shaped_of_ZipB (by kernel_rfl) (by kernel_rfl)) (by kernel_rfl)
  (OpenSpec.preRow_of_cond 8 hx (by kernel_rfl) (fun k hk => by cases hk) (by kernel_rfl) (laidMet_laidAll _ (by kernel_rfl) (by kernel_rfl))) rfl rfl
  (fun ds hl => by
   rw [Tryz.params10] at hl
   match ds, hl with
   | [d0, d1, d2], _ => rfl) (by kernel_rfl) ?_
 intro W base args ds ps hval hA hlt hz hsh hlaid
 rw [Tryz.params10] at hA hval
 obtain ⟨v0, vs0, d0, ds0, p0, q0, hargs, rfl, rfl, h0, r0⟩ := trodAll_cons hA
 obtain ⟨v1, vs1, d1, ds1, p1, q1, rfl, rfl, rfl, h1, r1⟩ := trodAll_cons r0
 obtain ⟨v2, vs2, d2, ds2, p2, q2, rfl, rfl, rfl, h2, r2⟩ := trodAll_cons r1
 obtain ⟨rfl, rfl, rfl⟩ := trodAll_nil r2
 obtain rfl : args = #[v0, v1, v2] := by cases args; simp_all
 obtain ⟨A0, c0, xs0, rfl, s0⟩ := open_nums Tryz.underlying24 Tryz.underlying3 (by kernel_rfl) (hval 0 24 v0 rfl rfl) h0 (fun x hx => hlt x (List.mem_append_left _ hx))
 obtain ⟨A1, c1, xs1, rfl, s1⟩ := open_nums Tryz.underlying24 Tryz.underlying3 (by kernel_rfl) (hval 1 24 v1 rfl rfl) h1 (fun x hx => hlt x (List.mem_append_right _ (List.mem_append_left _ hx)))
 obtain ⟨A2, c2, xs2, rfl, s2⟩ := open_nums Tryz.underlying24 Tryz.underlying3 (by kernel_rfl) (hval 2 24 v2 rfl rfl) h2 (fun x hx => hlt x (List.mem_append_right _ (List.mem_append_right _ (List.mem_append_left _ hx))))
 exact lawApart_any A0 c0 xs0 A1 c1 xs1 A2 c2 xs2 W (show Ok W from Tryz.laysM146.s1_3 W hsh) (oka_of_laid hlaid) s0 s1 s2
theorem said : Rows.RelateApartSaid :=
 OpenClaim.holds_of_cond 10 Tryz.f10 rfl rfl rfl rfl rfl rfl rfl ⟨rfl, rfl, rfl, rfl, rfl⟩ rfl rfl rfl rfl rfl (by kernel_rfl) Tryz.func10 (by kernel_rfl)
  (of_decide_eq_true (by kernel_rfl)) (by unfold Func.isWrapper; first | (rw [if_pos (by decide +kernel)]; kernel_rfl) | (rw [if_neg (by decide +kernel)]; exact ⟨rfl, rfl⟩))
  (fun os started H enc _ F => by rw [OpenClaim.pre_eq_preRow]; exact lifted os started H enc F)
theorem plain (f : FuncId) (fn : Func) (hf : Tryz.pinned.checked.prog.funcNamed Rows.relateApartRow.func = some f) (hfn : Tryz.pinned.checked.prog.funcs[f]? = some fn) :
  true = Tryz.pinned.checked.prog.looks [] ∧ ∀ (j : Nat) t, fn.params[j]? = some t → Tryz.pinned.checked.prog.wantsStandIn t = false := by
 obtain rfl : f = 10 := Option.some.inj ((show Tryz.prog.funcNamed Rows.relateApartRow.func = some 10 by kernel_rfl).symm.trans hf) |>.symm
 obtain rfl : fn = Tryz.f10 := (Option.some.inj (Tryz.func10.symm.trans hfn)).symm
 refine ⟨by kernel_rfl, fun j t ht => ?_⟩
 rw [Tryz.params10] at ht
 have hm : t ∈ [24, 24, 24] := by simpa using Array.mem_of_getElem? ht
 have hall : ([24, 24, 24].all fun u => !Tryz.prog.wantsStandIn u) = true := by kernel_rfl
 exact (show Tryz.prog.wantsStandIn t = false by simpa using List.all_eq_true.1 hall t hm)
/-- The card. -/
theorem card : Rows.RelateApartCardSaid :=
 Claim7.holds_tied_plain_at .later [] _ _ _ _ said (fun _ h => by cases h) (by kernel_rfl) (fun _ h => by cases h) relateApart_row_tie rfl ⟨rfl, rfl⟩ (by kernel_rfl) rfl plain (by kernel_rfl)
end cRelateApart
end Go.Proofs.YtomcebcaendilaaGreatDoor
