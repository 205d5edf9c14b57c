/-
  TreeChecks, where what it reads is of a bounded bulk: row and card.
 Conditions: those of the given row and card (the listed variables of the library hold what the text lays), nothing else.
-/
import Derived.Test.YtidhbckalcjdpaaGreatDoorHZ
import Derived.Test.YtidhbckalcjdpaaGreatDoorHS
import Derived.Test.YtidhbckalcjdpaaGreatDoorHY
import Derived.Test.YtidhbckalcjdpaaGreatDoorHM
import Derived.Test.YtidhbckalcjdpaaGreatDoorHX
import Derived.ShutString
set_option linter.unusedSimpArgs false
set_option linter.unusedVariables false
namespace Go.Cold
open Go Go.RowKit
/-- Where the law stands behind the fault. -/
def CkMid (w : World) (gt : Nat) (A : Option Addr) (c : Nat) (L : List Dev) (wx : World) : Prop :=
 Below w.heap.size w wx ∧ BoxL wx gt [.slice A L.length c] ∧ Sl wx wx.heap.size A c L ∧ ∀ d ∈ L, d.orig.size ≤ 2147483648
def kF (b gt x : Nat) : Prop := x ≠ b ∧ x ≠ gt
theorem CkMid.row {w wx : World} {gt g cap base n : Nat} {F : Nat → Prop} {T : TypeId} {L : List Dev} (h1 : Below w.heap.size w wx) (h2 : BoxL wx gt [.slice (some ⟨g, 0, none⟩) n cap]) (h3 : OwnsS F wx base T (.slice (some ⟨g, 0, none⟩) n cap) L) (hn : n = L.length) (h4 : ∀ d ∈ L, d.orig.size ≤ 2147483648) : CkMid w gt (some ⟨g, 0, none⟩) cap L wx := by
 subst hn
 obtain ⟨A, c, h5, h6⟩ := h3.sl
 injection h5 with e1 e2 e3
 subst e1 e3
 exact ⟨h1, h2, h6, h4⟩
theorem orig_set {L : List Dev} {k : Nat} {x : Dev} (h : ∀ d ∈ L, d.orig.size ≤ 2147483648) (hx : x.orig.size ≤ 2147483648) : ∀ d ∈ L.set k x, d.orig.size ≤ 2147483648 := fun d hd => by
 rcases List.mem_or_eq_of_mem_set hd with h1 | rfl
 · exact h d h1
 · exact hx
end Go.Cold
namespace Go.Proofs.YtidhbckalcjdpaaGreatDoor
open Go.RowKit Go.Cold
set_option maxHeartbeats 2000000 in
set_option maxRecDepth 100000 in
theorem lawChecks_any (Ar : Option Addr) (cr : Nat) (Lr : List Dev) (A : Option Addr) (c : Nat) (xs : List Int) (w : World) (hok : Ok w) (hraw : Sl w w.heap.size Ar cr Lr) (hx : Sl w w.heap.size A c xs) (hrs : ∀ d ∈ Lr, d.orig.size ≤ 1048576) : Calls Tryz.prog 3 #[.slice Ar Lr.length cr, .slice A xs.length c] w fun e w' => e = .returned (.bool true) ∧ Below w.heap.size w w' := by
 have hr1 := hraw.1; have hr2 := hraw.2.1
 unfold maxLen at hr2
 have HRAW := Lib.hid hraw; have HRS := Lib.hid hrs; have HOK := Lib.hid hok; have HX := Lib.hid hx; clear hraw hrs hok hx
 go_enter Tryz.func3, Tryz.ntmps3
 by_cases hr : 40 < Lr.length
 ·
  have i0 : (40 : Int) < (Lr.length : Int) := by omega
  go_wp2_with fail
  refine (known_any _ HOK.out).mono ?_
  rintro e w' ⟨rfl, hb⟩
  go_wp2
  go_ret
  exact ⟨by try rfl, hb⟩
 have i0 : ¬ (40 : Int) < (Lr.length : Int) := by omega
 clear hr
 go_upto_region 4 with fail
 have htape := tape_new HX.out
 have HNG := Lib.hid (notG_of HOK.out)
 obtain ⟨w1, hw1⟩ : ∃ z, w.alloc (.cells #[.slice A xs.length c, .int .i64 0] 27) = z := ⟨_, rfl⟩
 rw [hw1] at htape
 have hb1 : Below w.heap.size w w1 := by rw [← hw1]; exact (Below.refl _ _).alloc (Nat.le_refl _) _
 have HGw1 := Lib.hid (show w1.heap.size = w.heap.size + 1 by rw [← hw1]; simp)
 try simp only [hw1]
 have HTAPE := Lib.hid htape
 clear hw1 htape
 have HSw1 := Lib.hid (show w.heap.size ≤ w1.heap.size from hb1.size)
 have HBw1 := Lib.hid hb1
 clear hb1
 go_wp2_with fail
 refine (Tree_any xs 0 w.heap.size w.heap.size 9 w1 (by decide) HTAPE.out ⟨by decide, by decide⟩ (HOK.out.next HBw1.out) HNG.out).mono ?_
 rintro e w2 ⟨AT, cT, L, k1, rfl, hvt, hln, hsl, hk1, htp, hg2⟩
 have hb2 : Below w.heap.size w w2 := below_of_grown HBw1.out hg2 HBw1.out.size (Nat.le_refl _)
 have HSB2 := Lib.hid (show w1.heap.size ≤ w2.heap.size from hg2.size)
 have hx1 := hsl.1; have hx2 := hsl.2.1
 unfold maxLen at hx2
 have hin : TreeIn w2 w.heap.size (fun x => w1.heap.size ≤ x ∧ x < w2.heap.size) AT cT L := ⟨hsl, fun x hx => by have := HGw1.out; omega, fun x hx => hx.2⟩
 have HVT := Lib.hid hvt; have HLN := Lib.hid (show L.length ≤ 9 by omega); have HIN := Lib.hid hin; have HK1 := Lib.hid hk1; have HTP := Lib.hid htp
 clear HTAPE hvt hln hsl hk1 htp hg2 hin
 have HBw2 := Lib.hid hb2
 clear hb2
 go_upto_region 5 with fail
 obtain ⟨w3, hw3⟩ : ∃ w3, w2.alloc (.cells #[.slice AT L.length cT] 29) = w3 := ⟨_, rfl⟩
 have hbw3 : Below w2.heap.size w2 w3 := by rw [← hw3]; exact (Below.refl _ _).alloc (Nat.le_refl _) _
 have HGw3 := Lib.hid (show w3.heap.size = w2.heap.size + 1 by rw [← hw3]; simp)
 have HXtw3 := Lib.hid (show BoxL w3 w2.heap.size [.slice AT L.length cT] from box_mk hw3)
 try simp only [hw3]
 have HSTEPw3 := Lib.hid hbw3
 have HSw3 := Lib.hid (show w2.heap.size ≤ w3.heap.size from hbw3.size)
 have HBw3 := Lib.hid (HBw2.out.trans (hbw3.mono HBw2.out.size))
 clear hw3 hbw3
 try rw [show w2.heap.size + 1 = w3.heap.size from HGw3.out.symm]
 have HIN3 := Lib.hid (show TreeIn w3 w.heap.size (fun x => w1.heap.size ≤ x ∧ x < w2.heap.size) AT cT L from ⟨HIN.out.sl.below (HSTEPw3.out) (fun x hx => hx.2), HIN.out.ne, fun x hx => by have := HGw3.out; have := hx.2; omega⟩)
 have HTP3 := Lib.hid (HTP.out.kept (grown_none HSTEPw3.out) (fun e => by cases e) (fun g e => by cases e))
 clear HIN HTP
 have ct0 := HXtw3.out.1 0 _ rfl
 clear i0
 have HVO := Lib.hid (show ∀ d ∈ L, d.orig.size ≤ 2147483648 from fun d hd => by have := (HVT.out.small d hd).1; omega)
 have HBS := Lib.hid (show w.heap.size < w3.heap.size ∧ w2.heap.size < w3.heap.size ∧ w.heap.size < w2.heap.size from by have := HGw1.out; have := HSB2.out; have := HGw3.out; omega)
 go_upto_if 22 with fail
 go_cut [] (fun wx => ∃ (A' : Option Addr) (c' : Nat) (L' : List Dev), Hid (CkMid w w2.heap.size A' c' L' wx))
 case first =>
  by_cases hn : 0 < L.length
  ·
   have i1 : (0 : Int) < (L.length : Int) := by omega
   have HNN := Lib.hid (show L ≠ [] from fun h => by rw [h] at hn; simp at hn)
   have HSL3 := Lib.hid (show SlS w3 (fun b => (kF w.heap.size w2.heap.size) b ∧ b < w3.heap.size ∧ (.slice none 0 0 : Value).ownBlock ≠ some b) AT cT L from HIN3.out.sl.mono (fun x hx => ⟨⟨fun e => by have := hx.1; have := HGw1.out; omega, fun e => by have := hx.2; omega⟩, by have := HGw3.out; have := hx.2; omega, fun h => by cases h⟩) (fun _ _ _ _ hu => hu))
   go_upto_region 8 with (at_builtin; go_must (refine wpList_app rfl _ _ rfl (.slice none 0 0) (.slice AT L.length cT) rfl rfl (run_appL E_dev _ (.slice none 0 0) ([] : List Dev) (OwnsS.nil_ (kF w.heap.size w2.heap.size) w3 w3.heap.size _) AT cT L (.inl HSL3.out) (by have := HLN.out; simp only [List.length_nil]; unfold maxLen; omega) (by have := HLN.out; simp only [List.length_nil]; omega) (Nat.le_refl _)) ?_); intro v1 w9 h_; obtain ⟨hown_, hg_, hnew_⟩ := h_; rw [List.nil_append] at hown_; obtain ⟨gr, cap, hv_, hlo_, hca_, hcm_⟩ := hown_.rowedJ HNN.out; subst hv_; have HG9 := Lib.hid (below_own (Below.refl w3.heap.size w3) hg_ (Nat.le_refl _) (fun k hk => by cases hk)); have HOW := Lib.hid hown_; have HLO := Lib.hid hlo_; unfold maxLen at hcm_; have HT9 := Lib.hid (HXtw3.out.kept (grown_none HG9.out) (fun e => by cases e)); have t90 := HT9.out.1 0 _ rfl; have t9f := HT9.out.2.1; clear hown_ hg_ hnew_ hlo_)
   clear ct0
   clear t90 t9f
   have hb9 := HG9.out
   have HSw9 := Lib.hid (show w3.heap.size ≤ w9.heap.size from hb9.size)
   have HBw9 := Lib.hid (HBw3.out.trans (hb9.mono HBw3.out.size))
   have tw9 := Lib.hid (HXtw3.out.kept (grown_none hb9) (fun e => by cases e))
   have HTPw9 := Lib.hid (HTP3.out.kept (grown_none hb9) (fun e => by cases e) (fun g e => by cases e))
   clear hb9
   have HGY := Lib.hid (show w.heap.size < w2.heap.size ∧ w2.heap.size < gr ∧ w3.heap.size ≤ gr from by have := HBS.out; have := HLO.out; omega)
   have hgs := grown_one w9 w2.heap.size 0 (.slice (some ⟨gr, 0, none⟩) L.length cap)
   have hbx_ := tw9.out.set_ (j := 0) (by first | (simp; done) | (simp [devCells]; done)) (.slice (some ⟨gr, 0, none⟩) L.length cap)
   obtain ⟨w10, hw10⟩ : ∃ z, w9.setCell ⟨w2.heap.size, 0, none⟩ (.slice (some ⟨gr, 0, none⟩) L.length cap) = z := ⟨_, rfl⟩
   rw [hw10] at hgs hbx_ ⊢
   clear hw10
   have tw10 := Lib.hid hbx_
   have HBw10 := Lib.hid (HBw9.out.grown hgs HBw9.out.size (fun q hq => by have := Option.some.inj hq; have := HGY.out; omega))
   have HTPw10 := Lib.hid (HTPw9.out.kept hgs (fun e => by have := Option.some.inj e; have := HGY.out; omega) (fun q e => by have := Option.some.inj e; have := HGY.out; omega))
   have HOWw10 := Lib.hid (HOW.out.grownb hgs (fun x hx => hx.2) HBS.out.2.1)
   clear hgs hbx_
   go_wp2_with fail
   refine (Next_lit (L.length : Int) xs k1 w.heap.size w.heap.size _ (by have := HK1.out; omega) HTPw10.out (by omega) (by have := HLN.out; omega)).mono ?_
   rintro e w11 ⟨m0, h0, h2, rfl, ht_, hg_⟩
   obtain ⟨k, rfl⟩ : ∃ k : Nat, m0 = k := ⟨m0.toNat, by omega⟩
   have hk : k < L.length := by omega
   clear h0 h2
   have HBw11 := Lib.hid (HBw10.out.grown hg_ HBw10.out.size (fun q hq => by have := Option.some.inj hq; omega))
   have HTPw11 := Lib.hid ht_
   have tw11 := Lib.hid (tw10.out.kept hg_ (fun e => by have := Option.some.inj e; have := HGY.out; omega))
   have HOWw11 := Lib.hid (HOWw10.out.grownb hg_ (fun x hx => hx.1) HBS.out.1)
   clear ht_ hg_
   go_wp2_with fail
   refine (Next_lit 8 xs (k1 + 1) w.heap.size w.heap.size _ (by have := HK1.out; omega) HTPw11.out (by omega) (by omega)).mono ?_
   rintro e w12 ⟨m, h0, h2, rfl, ht_, hg_⟩
   have HBw12 := Lib.hid (HBw11.out.grown hg_ HBw11.out.size (fun q hq => by have := Option.some.inj hq; omega))
   have HTPw12 := Lib.hid ht_
   have tw12 := Lib.hid (tw11.out.kept hg_ (fun e => by have := Option.some.inj e; have := HGY.out; omega))
   have HOWw12 := Lib.hid (HOWw11.out.grownb hg_ (fun x hx => hx.1) HBS.out.1)
   clear ht_ hg_
   have hxk : L[k]? = some L[k] := List.getElem?_eq_getElem hk
   obtain ⟨x, hx⟩ : ∃ x, L[k]'hk = x := ⟨_, rfl⟩
   rw [hx] at hxk
   have HXK := Lib.hid hxk; have HXO := Lib.hid (HVO.out x (List.mem_of_getElem? hxk)); clear hxk hx
   have i2 : (k : Int) < (L.length : Int) := by omega
   have hlc : L.length ≤ cap := hca_
   rcases (show m = 0 ∨ m = 1 ∨ m = 2 ∨ m = 3 ∨ m = 4 ∨ m = 5 ∨ m = 6 ∨ m = 7 by omega) with rfl | rfl | rfl | rfl | rfl | rfl | rfl | rfl
   ·
    clear h0 h2
    go_upto_region 11 with fail
    refine wp_region_held_drew (S := fun w' => BoxL w' w2.heap.size [.slice (some ⟨gr, 0, none⟩) L.length cap]) (by kernel_rfl) tw12.out.drew (fun hS0 => ?_)
    obtain ⟨wd, hwd⟩ : ∃ z, World.drew w12 = z := ⟨_, rfl⟩
    rw [hwd] at hS0 ⊢
    have hb_ : Below w12.heap.size w12 wd := by rw [← hwd]; exact below_drewN_self _ _ 1
    clear hwd hS0
    have HSwd := Lib.hid (show w12.heap.size ≤ wd.heap.size from hb_.size)
    have HBwd := Lib.hid (HBw12.out.trans (hb_.mono HBw12.out.size))
    have twd := Lib.hid (tw12.out.kept (grown_none hb_) (fun e => by cases e))
    have HTPwd := Lib.hid (HTPw12.out.kept (grown_none hb_) (fun e => by cases e) (fun g e => by cases e))
    have HOWwd := Lib.hid (HOWw12.out.below hb_)
    clear hb_
    refine wpAnyH_take (i := 0) (oi := ⟨some 34, _, _, _, _, _⟩) (v := .pointer (some ⟨w2.heap.size, 0, none⟩)) rfl (by kernel_rfl) (by kernel_rfl) (by kernel_rfl) (fun _ _ _ h => h) (Or.inl ⟨by rfl, fun w' hS => by go_simp⟩) twd.out ?_
    try simp only [Act.put, List.setIfInBounds_toArray, List.set_cons_zero, List.set_cons_succ]
    refine wpAnyH_take (i := 1) (oi := ⟨some 35, _, _, _, _, _⟩) (v := .slice (some ⟨gr, 0, none⟩) L.length cap) rfl (by kernel_rfl) (by kernel_rfl) (by kernel_rfl) (fun _ _ _ h => h) (Or.inl ⟨by rfl, fun w' hS => by (have u0_ := hS.1 0 _ rfl; go_simp)⟩) twd.out ?_
    try simp only [Act.put, List.setIfInBounds_toArray, List.set_cons_zero, List.set_cons_succ]
    refine wpAnyH_take (i := 2) (oi := ⟨some 36, _, _, _, _, _⟩) (v := .int .i64 k) rfl (by kernel_rfl) (by kernel_rfl) (by kernel_rfl) (fun _ _ _ h => h) (Or.inl ⟨by rfl, fun w' hS => by go_simp⟩) twd.out ?_
    try simp only [Act.put, List.setIfInBounds_toArray, List.set_cons_zero, List.set_cons_succ]
    refine wpAnyH_take (i := 3) (oi := ⟨some 37, _, _, _, _, _⟩) (v := .pointer (some ⟨w.heap.size, 0, none⟩)) rfl (by kernel_rfl) (by kernel_rfl) (by kernel_rfl) (fun _ _ _ h => h) (Or.inl ⟨by rfl, fun w' hS => by go_simp⟩) twd.out ?_
    try simp only [Act.put, List.setIfInBounds_toArray, List.set_cons_zero, List.set_cons_succ]
    refine wpAnyH_ready (rs := [4]) (by kernel_rfl) (by simp) ?_
    refine AllReadyH.cons (o := ⟨some 38, .call ⟨_, _, _⟩, _, _, _, _⟩) rfl (fun K hK => ?_) AllReadyH.nil
    go_simp
    go_at_call 14
    refine (Next_lit 12 xs (k1 + 1 + 1) w.heap.size w.heap.size _ (by have := HK1.out; omega) HTPwd.out (by omega) (by omega)).mono ?_
    rintro e' q21 ⟨zn, h5, h6, rfl, ht_, hg_⟩
    have HBq21 := Lib.hid (HBwd.out.grown hg_ HBwd.out.size (fun q hq => by have := Option.some.inj hq; omega))
    have HTPq21 := Lib.hid ht_
    have tq21 := Lib.hid (twd.out.kept hg_ (fun e => by have := Option.some.inj e; have := HGY.out; omega))
    have HOWq21 := Lib.hid (HOWwd.out.grownb hg_ (fun x hx => hx.1) HBS.out.1)
    have HZO := Lib.hid (show okI zn ∧ okI (1 + zn) by unfold okI; omega)
    have hwr : IntKind.i64.wrap (1 + zn) = 1 + zn := by rw [IntKind.wrap_i64]; omega
    clear hg_ ht_
    refine hK.out _ _ tq21.out (fun _ => ?_)
    clear hK K
    try simp only [Act.put, List.setIfInBounds_toArray, List.set_cons_zero, List.set_cons_succ]
    refine wpAnyH_take (i := 5) (oi := ⟨some 39, _, _, _, _, _⟩) (v := .pointer (some ⟨gr, k * 10, none⟩)) rfl (by kernel_rfl) (by kernel_rfl) (by kernel_rfl) (fun _ _ _ h => h) (Or.inl ⟨by rfl, fun w' hS => by go_simp⟩) tq21.out ?_
    try simp only [Act.put, List.setIfInBounds_toArray, List.set_cons_zero, List.set_cons_succ]
    refine wpAnyH_take (i := 6) (oi := ⟨some 40, _, _, _, _, _⟩) (v := .pointer (some ⟨gr, k * 10 + 1, none⟩)) rfl (by kernel_rfl) (by kernel_rfl) (by kernel_rfl) (fun _ _ _ h => h) (Or.inl ⟨by rfl, fun w' hS => by go_simp⟩) tq21.out ?_
    try simp only [Act.put, List.setIfInBounds_toArray, List.set_cons_zero, List.set_cons_succ]
    have hdc := dev_cell HOWq21.out HXK.out (j := 1) (x' := ({ x with par := zn } : Dev)) (v := .int .i64 (zn)) (by decide) (fun _ _ => rfl) rfl (fun h => ⟨h.1, HZO.out.1, h.2.2⟩)
    obtain ⟨hown_, ⟨u_, hu_⟩, hfz_⟩ := hdc
    refine wpAnyH_ready (rs := [7]) (by kernel_rfl) (by simp) ?_
    refine AllReadyH.cons (o := ⟨none, .store _ _ _, _, _, _, _⟩) rfl (fun K hK => ?_) AllReadyH.nil
    go_simp
    have hgs := grown_one q21 gr (k * 10 + 1) (.int .i64 (zn))
    obtain ⟨wz, hwz⟩ : ∃ z, q21.setCell ⟨gr, k * 10 + 1, none⟩ (.int .i64 (zn)) = z := ⟨_, rfl⟩
    rw [hwz] at hgs hown_ ⊢
    clear hwz hu_ hfz_
    have HOWwz := Lib.hid hown_; have twz := Lib.hid (tq21.out.kept hgs (fun e => by have := Option.some.inj e; have := HGY.out; omega)); have HBwz := Lib.hid (HBq21.out.grown hgs HBq21.out.size (fun q hq => by have := Option.some.inj hq; have := HGY.out; omega))
    clear hown_ hgs
    refine hK.out _ _ twz.out (fun _ => ?_)
    clear hK K
    try simp only [Act.put, List.setIfInBounds_toArray, List.set_cons_zero, List.set_cons_succ]
    refine wpAnyH_done (by kernel_rfl) ?_ _
    go_wp2_with fail
    go_meet
    exact ⟨_, _, (L.set k ({ x with par := zn } : Dev)), Lib.hid (CkMid.row HBwz.out twz.out HOWwz.out (by simp) (orig_set HVO.out HXO.out))⟩
   ·
    clear h0 h2
    go_upto_region 13 with fail
    refine wp_region_held_drew (S := fun w' => BoxL w' w2.heap.size [.slice (some ⟨gr, 0, none⟩) L.length cap]) (by kernel_rfl) tw12.out.drew (fun hS0 => ?_)
    obtain ⟨wd, hwd⟩ : ∃ z, World.drew w12 = z := ⟨_, rfl⟩
    rw [hwd] at hS0 ⊢
    have hb_ : Below w12.heap.size w12 wd := by rw [← hwd]; exact below_drewN_self _ _ 1
    clear hwd hS0
    have HSwd := Lib.hid (show w12.heap.size ≤ wd.heap.size from hb_.size)
    have HBwd := Lib.hid (HBw12.out.trans (hb_.mono HBw12.out.size))
    have twd := Lib.hid (tw12.out.kept (grown_none hb_) (fun e => by cases e))
    have HTPwd := Lib.hid (HTPw12.out.kept (grown_none hb_) (fun e => by cases e) (fun g e => by cases e))
    have HOWwd := Lib.hid (HOWw12.out.below hb_)
    clear hb_
    refine wpAnyH_take (i := 0) (oi := ⟨some 43, _, _, _, _, _⟩) (v := .pointer (some ⟨w2.heap.size, 0, none⟩)) rfl (by kernel_rfl) (by kernel_rfl) (by kernel_rfl) (fun _ _ _ h => h) (Or.inl ⟨by rfl, fun w' hS => by go_simp⟩) twd.out ?_
    try simp only [Act.put, List.setIfInBounds_toArray, List.set_cons_zero, List.set_cons_succ]
    refine wpAnyH_take (i := 1) (oi := ⟨some 44, _, _, _, _, _⟩) (v := .slice (some ⟨gr, 0, none⟩) L.length cap) rfl (by kernel_rfl) (by kernel_rfl) (by kernel_rfl) (fun _ _ _ h => h) (Or.inl ⟨by rfl, fun w' hS => by (have u0_ := hS.1 0 _ rfl; go_simp)⟩) twd.out ?_
    try simp only [Act.put, List.setIfInBounds_toArray, List.set_cons_zero, List.set_cons_succ]
    refine wpAnyH_take (i := 2) (oi := ⟨some 45, _, _, _, _, _⟩) (v := .int .i64 k) rfl (by kernel_rfl) (by kernel_rfl) (by kernel_rfl) (fun _ _ _ h => h) (Or.inl ⟨by rfl, fun w' hS => by go_simp⟩) twd.out ?_
    try simp only [Act.put, List.setIfInBounds_toArray, List.set_cons_zero, List.set_cons_succ]
    refine wpAnyH_take (i := 3) (oi := ⟨some 46, _, _, _, _, _⟩) (v := .pointer (some ⟨w.heap.size, 0, none⟩)) rfl (by kernel_rfl) (by kernel_rfl) (by kernel_rfl) (fun _ _ _ h => h) (Or.inl ⟨by rfl, fun w' hS => by go_simp⟩) twd.out ?_
    try simp only [Act.put, List.setIfInBounds_toArray, List.set_cons_zero, List.set_cons_succ]
    refine wpAnyH_ready (rs := [4]) (by kernel_rfl) (by simp) ?_
    refine AllReadyH.cons (o := ⟨some 47, .call ⟨_, _, _⟩, _, _, _, _⟩) rfl (fun K hK => ?_) AllReadyH.nil
    go_simp
    go_at_call 14
    refine (Next_lit 12 xs (k1 + 1 + 1) w.heap.size w.heap.size _ (by have := HK1.out; omega) HTPwd.out (by omega) (by omega)).mono ?_
    rintro e' q22 ⟨zn, h5, h6, rfl, ht_, hg_⟩
    have HBq22 := Lib.hid (HBwd.out.grown hg_ HBwd.out.size (fun q hq => by have := Option.some.inj hq; omega))
    have HTPq22 := Lib.hid ht_
    have tq22 := Lib.hid (twd.out.kept hg_ (fun e => by have := Option.some.inj e; have := HGY.out; omega))
    have HOWq22 := Lib.hid (HOWwd.out.grownb hg_ (fun x hx => hx.1) HBS.out.1)
    have HZO := Lib.hid (show okI zn ∧ okI (1 + zn) by unfold okI; omega)
    have hwr : IntKind.i64.wrap (1 + zn) = 1 + zn := by rw [IntKind.wrap_i64]; omega
    clear hg_ ht_
    refine hK.out _ _ tq22.out (fun _ => ?_)
    clear hK K
    try simp only [Act.put, List.setIfInBounds_toArray, List.set_cons_zero, List.set_cons_succ]
    refine wpAnyH_take (i := 5) (oi := ⟨some 48, _, _, _, _, _⟩) (v := .int .i64 (1 + zn)) rfl (by kernel_rfl) (by kernel_rfl) (by kernel_rfl) (fun _ _ _ h => h) (Or.inl ⟨by rfl, fun w' hS => by go_simp⟩) tq22.out ?_
    try simp only [Act.put, List.setIfInBounds_toArray, List.set_cons_zero, List.set_cons_succ]
    refine wpAnyH_take (i := 6) (oi := ⟨some 49, _, _, _, _, _⟩) (v := .pointer (some ⟨gr, k * 10, none⟩)) rfl (by kernel_rfl) (by kernel_rfl) (by kernel_rfl) (fun _ _ _ h => h) (Or.inl ⟨by rfl, fun w' hS => by go_simp⟩) tq22.out ?_
    try simp only [Act.put, List.setIfInBounds_toArray, List.set_cons_zero, List.set_cons_succ]
    refine wpAnyH_take (i := 7) (oi := ⟨some 50, _, _, _, _, _⟩) (v := .pointer (some ⟨gr, k * 10, none⟩)) rfl (by kernel_rfl) (by kernel_rfl) (by kernel_rfl) (fun _ _ _ h => h) (Or.inl ⟨by rfl, fun w' hS => by go_simp⟩) tq22.out ?_
    try simp only [Act.put, List.setIfInBounds_toArray, List.set_cons_zero, List.set_cons_succ]
    have hdc := dev_cell HOWq22.out HXK.out (j := 0) (x' := ({ x with idx := 1 + zn } : Dev)) (v := .int .i64 (1 + zn)) (by decide) (fun _ _ => rfl) rfl (fun h => ⟨HZO.out.2, h.2⟩)
    obtain ⟨hown_, ⟨u_, hu_⟩, hfz_⟩ := hdc
    rw [Nat.add_zero] at hu_ hfz_ hown_
    refine wpAnyH_ready (rs := [8]) (by kernel_rfl) (by simp) ?_
    refine AllReadyH.cons (o := ⟨none, .store _ _ _, _, _, _, _⟩) rfl (fun K hK => ?_) AllReadyH.nil
    go_simp
    have hgs := grown_one q22 gr (k * 10) (.int .i64 (1 + zn))
    obtain ⟨wz, hwz⟩ : ∃ z, q22.setCell ⟨gr, k * 10, none⟩ (.int .i64 (1 + zn)) = z := ⟨_, rfl⟩
    rw [hwz] at hgs hown_ ⊢
    clear hwz hu_ hfz_
    have HOWwz := Lib.hid hown_; have twz := Lib.hid (tq22.out.kept hgs (fun e => by have := Option.some.inj e; have := HGY.out; omega)); have HBwz := Lib.hid (HBq22.out.grown hgs HBq22.out.size (fun q hq => by have := Option.some.inj hq; have := HGY.out; omega))
    clear hown_ hgs
    refine hK.out _ _ twz.out (fun _ => ?_)
    clear hK K
    try simp only [Act.put, List.setIfInBounds_toArray, List.set_cons_zero, List.set_cons_succ]
    refine wpAnyH_done (by kernel_rfl) ?_ _
    go_wp2_with fail
    go_meet
    exact ⟨_, _, (L.set k ({ x with idx := 1 + zn } : Dev)), Lib.hid (CkMid.row HBwz.out twz.out HOWwz.out (by simp) (orig_set HVO.out HXO.out))⟩
   ·
    clear h0 h2
    go_upto_region 15 with fail
    have hx0 : L[0]? = some L[0] := List.getElem?_eq_getElem hn
    obtain ⟨y, hy⟩ : ∃ y, L[0]'hn = y := ⟨_, rfl⟩
    rw [hy] at hx0
    have HX0 := Lib.hid hx0; have HYO := Lib.hid (HVO.out y (List.mem_of_getElem? hx0)); clear hx0 hy
    refine wp_region_held_drew (S := fun w' => BoxL w' w2.heap.size [.slice (some ⟨gr, 0, none⟩) L.length cap]) (by kernel_rfl) tw12.out.drew (fun hS0 => ?_)
    obtain ⟨wd, hwd⟩ : ∃ z, World.drew w12 = z := ⟨_, rfl⟩
    rw [hwd] at hS0 ⊢
    have hb_ : Below w12.heap.size w12 wd := by rw [← hwd]; exact below_drewN_self _ _ 1
    clear hwd hS0
    have HSwd := Lib.hid (show w12.heap.size ≤ wd.heap.size from hb_.size)
    have HBwd := Lib.hid (HBw12.out.trans (hb_.mono HBw12.out.size))
    have twd := Lib.hid (tw12.out.kept (grown_none hb_) (fun e => by cases e))
    have HTPwd := Lib.hid (HTPw12.out.kept (grown_none hb_) (fun e => by cases e) (fun g e => by cases e))
    have HOWwd := Lib.hid (HOWw12.out.below hb_)
    clear hb_
    obtain ⟨Ay, cy, hdy, hoy, hay⟩ := dev_at HOWwd.out HX0.out
    obtain ⟨Ax, cx, hdx, hox, hax⟩ := dev_at HOWwd.out HXK.out
    have HDY := Lib.hid (show DCells wd gr 0 y Ay cy from hdy); have HDX := Lib.hid hdx; have HAY := Lib.hid hay; have HAX := Lib.hid hax; have HOY := Lib.hid hoy; have HOX := Lib.hid hox
    clear hdy hoy hay hdx hox hax
    refine wpAnyH_take (i := 0) (oi := ⟨some 53, _, _, _, _, _⟩) (v := .pointer (some ⟨w2.heap.size, 0, none⟩)) rfl (by kernel_rfl) (by kernel_rfl) (by kernel_rfl) (fun _ _ _ h => h) (Or.inl ⟨by rfl, fun w' hS => by go_simp⟩) twd.out ?_
    try simp only [Act.put, List.setIfInBounds_toArray, List.set_cons_zero, List.set_cons_succ]
    refine wpAnyH_take (i := 1) (oi := ⟨some 54, _, _, _, _, _⟩) (v := .slice (some ⟨gr, 0, none⟩) L.length cap) rfl (by kernel_rfl) (by kernel_rfl) (by kernel_rfl) (fun _ _ _ h => h) (Or.inl ⟨by rfl, fun w' hS => by (have u0_ := hS.1 0 _ rfl; go_simp)⟩) twd.out ?_
    try simp only [Act.put, List.setIfInBounds_toArray, List.set_cons_zero, List.set_cons_succ]
    refine wpAnyH_take (i := 2) (oi := ⟨some 55, _, _, _, _, _⟩) (v := .int .i64 k) rfl (by kernel_rfl) (by kernel_rfl) (by kernel_rfl) (fun _ _ _ h => h) (Or.inl ⟨by rfl, fun w' hS => by go_simp⟩) twd.out ?_
    try simp only [Act.put, List.setIfInBounds_toArray, List.set_cons_zero, List.set_cons_succ]
    refine wpAnyH_take (i := 3) (oi := ⟨some 56, _, _, _, _, _⟩) (v := .pointer (some ⟨w2.heap.size, 0, none⟩)) rfl (by kernel_rfl) (by kernel_rfl) (by kernel_rfl) (fun _ _ _ h => h) (Or.inl ⟨by rfl, fun w' hS => by go_simp⟩) twd.out ?_
    try simp only [Act.put, List.setIfInBounds_toArray, List.set_cons_zero, List.set_cons_succ]
    refine wpAnyH_take (i := 4) (oi := ⟨some 57, _, _, _, _, _⟩) (v := .slice (some ⟨gr, 0, none⟩) L.length cap) rfl (by kernel_rfl) (by kernel_rfl) (by kernel_rfl) (fun _ _ _ h => h) (Or.inl ⟨by rfl, fun w' hS => by (have u0_ := hS.1 0 _ rfl; go_simp)⟩) twd.out ?_
    try simp only [Act.put, List.setIfInBounds_toArray, List.set_cons_zero, List.set_cons_succ]
    refine wpAnyH_take (i := 5) (oi := ⟨some 58, _, _, _, _, _⟩) (v := .pointer (some ⟨w2.heap.size, 0, none⟩)) rfl (by kernel_rfl) (by kernel_rfl) (by kernel_rfl) (fun _ _ _ h => h) (Or.inl ⟨by rfl, fun w' hS => by go_simp⟩) twd.out ?_
    try simp only [Act.put, List.setIfInBounds_toArray, List.set_cons_zero, List.set_cons_succ]
    refine wpAnyH_take (i := 6) (oi := ⟨some 59, _, _, _, _, _⟩) (v := .slice (some ⟨gr, 0, none⟩) L.length cap) rfl (by kernel_rfl) (by kernel_rfl) (by kernel_rfl) (fun _ _ _ h => h) (Or.inl ⟨by rfl, fun w' hS => by (have u0_ := hS.1 0 _ rfl; go_simp)⟩) twd.out ?_
    try simp only [Act.put, List.setIfInBounds_toArray, List.set_cons_zero, List.set_cons_succ]
    refine wpAnyH_take (i := 7) (oi := ⟨some 60, _, _, _, _, _⟩) (v := .pointer (some ⟨gr, 0, none⟩)) rfl (by kernel_rfl) (by kernel_rfl) (by kernel_rfl) (fun _ _ _ h => h) (Or.inl ⟨by rfl, fun w' hS => by go_simp⟩) twd.out ?_
    try simp only [Act.put, List.setIfInBounds_toArray, List.set_cons_zero, List.set_cons_succ]
    refine wpAnyH_take (i := 9) (oi := ⟨some 62, _, _, _, _, _⟩) (v := .pointer (some ⟨w2.heap.size, 0, none⟩)) rfl (by kernel_rfl) (by kernel_rfl) (by kernel_rfl) (fun _ _ _ h => h) (Or.inl ⟨by rfl, fun w' hS => by go_simp⟩) twd.out ?_
    try simp only [Act.put, List.setIfInBounds_toArray, List.set_cons_zero, List.set_cons_succ]
    refine wpAnyH_take (i := 10) (oi := ⟨some 63, _, _, _, _, _⟩) (v := .slice (some ⟨gr, 0, none⟩) L.length cap) rfl (by kernel_rfl) (by kernel_rfl) (by kernel_rfl) (fun _ _ _ h => h) (Or.inl ⟨by rfl, fun w' hS => by (have u0_ := hS.1 0 _ rfl; go_simp)⟩) twd.out ?_
    try simp only [Act.put, List.setIfInBounds_toArray, List.set_cons_zero, List.set_cons_succ]
    refine wpAnyH_take (i := 11) (oi := ⟨some 64, _, _, _, _, _⟩) (v := .int .i64 k) rfl (by kernel_rfl) (by kernel_rfl) (by kernel_rfl) (fun _ _ _ h => h) (Or.inl ⟨by rfl, fun w' hS => by go_simp⟩) twd.out ?_
    try simp only [Act.put, List.setIfInBounds_toArray, List.set_cons_zero, List.set_cons_succ]
    refine wpAnyH_take (i := 12) (oi := ⟨some 65, _, _, _, _, _⟩) (v := .pointer (some ⟨gr, k * 10, none⟩)) rfl (by kernel_rfl) (by kernel_rfl) (by kernel_rfl) (fun _ _ _ h => h) (Or.inl ⟨by rfl, fun w' hS => by go_simp⟩) twd.out ?_
    try simp only [Act.put, List.setIfInBounds_toArray, List.set_cons_zero, List.set_cons_succ]
    refine wpAnyH_ready (rs := [8, 13]) (by kernel_rfl) (by simp) ?_
    refine AllReadyH.cons (o := ⟨some 61, .load _ _, _, _, _, _⟩) rfl (fun K hK => ?_) (AllReadyH.cons (o := ⟨some 66, .load _ _, _, _, _, _⟩) rfl (fun K hK => ?_) (AllReadyH.nil))
    ·
     obtain ⟨u0, u1, u2, u3, u4, u5, u6, u7, u8, u9⟩ := HDY.out
     have u1 : wd.cell? ⟨gr, 1, none⟩ = _ := u1
     have u2 : wd.cell? ⟨gr, 2, none⟩ = _ := u2
     have u3 : wd.cell? ⟨gr, 3, none⟩ = _ := u3
     have u4 : wd.cell? ⟨gr, 4, none⟩ = _ := u4
     have u5 : wd.cell? ⟨gr, 5, none⟩ = _ := u5
     have u6 : wd.cell? ⟨gr, 6, none⟩ = _ := u6
     have u7 : wd.cell? ⟨gr, 7, none⟩ = _ := u7
     have u8 : wd.cell? ⟨gr, 8, none⟩ = _ := u8
     have u9 : wd.cell? ⟨gr, 9, none⟩ = _ := u9
     go_simp
     clear u0 u1 u2 u3 u4 u5 u6 u7 u8 u9
     refine hK.out _ _ twd.out (fun _ => ?_)
     clear hK K
     try simp only [Act.put, List.setIfInBounds_toArray, List.set_cons_zero, List.set_cons_succ]
     refine wpAnyH_ready (rs := [13]) (by kernel_rfl) (by simp) ?_
     refine AllReadyH.cons (o := ⟨some 66, .load _ _, _, _, _, _⟩) rfl (fun K hK => ?_) (AllReadyH.nil)
     obtain ⟨u0, u1, u2, u3, u4, u5, u6, u7, u8, u9⟩ := HDX.out
     go_simp
     clear u0 u1 u2 u3 u4 u5 u6 u7 u8 u9
     refine hK.out _ _ twd.out (fun _ => ?_)
     clear hK K
     try simp only [Act.put, List.setIfInBounds_toArray, List.set_cons_zero, List.set_cons_succ]
     refine wpAnyH_take (i := 14) (oi := ⟨some 67, _, _, _, _, _⟩) (v := .pointer (some ⟨gr, k * 10, none⟩)) rfl (by kernel_rfl) (by kernel_rfl) (by kernel_rfl) (fun _ _ _ h => h) (Or.inl ⟨by rfl, fun w' hS => by go_simp⟩) twd.out ?_
     try simp only [Act.put, List.setIfInBounds_toArray, List.set_cons_zero, List.set_cons_succ]
     have hdp := dev_put HOWwd.out (k := k) (hk) HOY.out HAY.out
     obtain ⟨hown_, hce_, hfz_, hgs_⟩ := hdp
     obtain ⟨v0_, e0_⟩ : ∃ u, wd.cell? ⟨gr, k * 10, none⟩ = some u := hce_ 0 (by decide)
     obtain ⟨v1_, e1_⟩ : ∃ u, wd.cell? ⟨gr, k * 10 + 1, none⟩ = some u := hce_ 1 (by decide)
     obtain ⟨v2_, e2_⟩ : ∃ u, wd.cell? ⟨gr, k * 10 + 2, none⟩ = some u := hce_ 2 (by decide)
     obtain ⟨v3_, e3_⟩ : ∃ u, wd.cell? ⟨gr, k * 10 + 3, none⟩ = some u := hce_ 3 (by decide)
     obtain ⟨v4_, e4_⟩ : ∃ u, wd.cell? ⟨gr, k * 10 + 4, none⟩ = some u := hce_ 4 (by decide)
     obtain ⟨v5_, e5_⟩ : ∃ u, wd.cell? ⟨gr, k * 10 + 5, none⟩ = some u := hce_ 5 (by decide)
     obtain ⟨v6_, e6_⟩ : ∃ u, wd.cell? ⟨gr, k * 10 + 6, none⟩ = some u := hce_ 6 (by decide)
     obtain ⟨v7_, e7_⟩ : ∃ u, wd.cell? ⟨gr, k * 10 + 7, none⟩ = some u := hce_ 7 (by decide)
     obtain ⟨v8_, e8_⟩ : ∃ u, wd.cell? ⟨gr, k * 10 + 8, none⟩ = some u := hce_ 8 (by decide)
     obtain ⟨v9_, e9_⟩ : ∃ u, wd.cell? ⟨gr, k * 10 + 9, none⟩ = some u := hce_ 9 (by decide)
     refine wpAnyH_ready (rs := [15]) (by kernel_rfl) (by simp) ?_
     refine AllReadyH.cons (o := ⟨none, .store _ _ _, _, _, _, _⟩) rfl (fun K hK => ?_) AllReadyH.nil
     go_simp
     obtain ⟨wy, hwy⟩ : ∃ z, ((((((((((wd.setCell ⟨gr, k * 10, none⟩ (.int .i64 y.idx)).setCell ⟨gr, k * 10 + 1, none⟩ (.int .i64 y.par)).setCell ⟨gr, k * 10 + 2, none⟩ (.string y.nm)).setCell ⟨gr, k * 10 + 3, none⟩ (.string y.orig)).setCell ⟨gr, k * 10 + 4, none⟩ (.string y.sub)).setCell ⟨gr, k * 10 + 5, none⟩ (.string y.drv)).setCell ⟨gr, k * 10 + 6, none⟩ (.string y.ali)).setCell ⟨gr, k * 10 + 7, none⟩ (.int .i64 y.kind)).setCell ⟨gr, k * 10 + 8, none⟩ (.int .i64 y.num)).setCell ⟨gr, k * 10 + 9, none⟩ (.slice Ay y.attrs.length cy)) = z := ⟨_, rfl⟩
     have hs_ : wd.setCells gr (k * 10) (devCells y Ay cy) = wy := hwy
     rw [hs_] at hown_ hgs_
     rw [hwy]
     clear hwy hs_ hce_ hfz_ e0_ e1_ e2_ e3_ e4_ e5_ e6_ e7_ e8_ e9_
     have HOWwy := Lib.hid hown_; have twy := Lib.hid (twd.out.kept hgs_ (fun e => by have := Option.some.inj e; have := HGY.out; omega)); have HBwy := Lib.hid (HBwd.out.grown hgs_ HBwd.out.size (fun q hq => by have := Option.some.inj hq; have := HGY.out; omega)); have HSwy := Lib.hid hgs_.size; have HQwy := Lib.hid hgs_
     clear hown_ hgs_
     refine hK.out _ _ twy.out (fun _ => ?_)
     clear hK K
     try simp only [Act.put, List.setIfInBounds_toArray, List.set_cons_zero, List.set_cons_succ]
     refine wpAnyH_take (i := 16) (oi := ⟨some 68, _, _, _, _, _⟩) (v := .pointer (some ⟨gr, 0, none⟩)) rfl (by kernel_rfl) (by kernel_rfl) (by kernel_rfl) (fun _ _ _ h => h) (Or.inl ⟨by rfl, fun w' hS => by go_simp⟩) twy.out ?_
     try simp only [Act.put, List.setIfInBounds_toArray, List.set_cons_zero, List.set_cons_succ]
     have HAX2 := Lib.hid (show SlS wy (fun b => (kF w.heap.size w2.heap.size) b ∧ b < wy.heap.size ∧ b ≠ gr) Ax cx x.attrs from SlS.mono (fun b hb => ⟨hb.1, by have := hb.2.1; have := HSwy.out; omega, hb.2.2⟩) (fun b o u hb hu => HQwy.out.cell hu (fun e => hb.2.2 (Option.some.inj e))) HAX.out)
     have hl2 : (L.set k y).length = L.length := by simp
     have hdp := dev_put HOWwy.out (k := 0) (by rw [hl2]; exact hn) HOX.out HAX2.out
     obtain ⟨hown_, hce_, hfz_, hgs_⟩ := hdp
     obtain ⟨v0_, e0_⟩ : ∃ u, wy.cell? ⟨gr, 0, none⟩ = some u := hce_ 0 (by decide)
     obtain ⟨v1_, e1_⟩ : ∃ u, wy.cell? ⟨gr, 1, none⟩ = some u := hce_ 1 (by decide)
     obtain ⟨v2_, e2_⟩ : ∃ u, wy.cell? ⟨gr, 2, none⟩ = some u := hce_ 2 (by decide)
     obtain ⟨v3_, e3_⟩ : ∃ u, wy.cell? ⟨gr, 3, none⟩ = some u := hce_ 3 (by decide)
     obtain ⟨v4_, e4_⟩ : ∃ u, wy.cell? ⟨gr, 4, none⟩ = some u := hce_ 4 (by decide)
     obtain ⟨v5_, e5_⟩ : ∃ u, wy.cell? ⟨gr, 5, none⟩ = some u := hce_ 5 (by decide)
     obtain ⟨v6_, e6_⟩ : ∃ u, wy.cell? ⟨gr, 6, none⟩ = some u := hce_ 6 (by decide)
     obtain ⟨v7_, e7_⟩ : ∃ u, wy.cell? ⟨gr, 7, none⟩ = some u := hce_ 7 (by decide)
     obtain ⟨v8_, e8_⟩ : ∃ u, wy.cell? ⟨gr, 8, none⟩ = some u := hce_ 8 (by decide)
     obtain ⟨v9_, e9_⟩ : ∃ u, wy.cell? ⟨gr, 9, none⟩ = some u := hce_ 9 (by decide)
     refine wpAnyH_ready (rs := [17]) (by kernel_rfl) (by simp) ?_
     refine AllReadyH.cons (o := ⟨none, .store _ _ _, _, _, _, _⟩) rfl (fun K hK => ?_) AllReadyH.nil
     go_simp
     obtain ⟨wz, hwz⟩ : ∃ z, ((((((((((wy.setCell ⟨gr, 0, none⟩ (.int .i64 x.idx)).setCell ⟨gr, 1, none⟩ (.int .i64 x.par)).setCell ⟨gr, 2, none⟩ (.string x.nm)).setCell ⟨gr, 3, none⟩ (.string x.orig)).setCell ⟨gr, 4, none⟩ (.string x.sub)).setCell ⟨gr, 5, none⟩ (.string x.drv)).setCell ⟨gr, 6, none⟩ (.string x.ali)).setCell ⟨gr, 7, none⟩ (.int .i64 x.kind)).setCell ⟨gr, 8, none⟩ (.int .i64 x.num)).setCell ⟨gr, 9, none⟩ (.slice Ax x.attrs.length cx)) = z := ⟨_, rfl⟩
     have hs_ : wy.setCells gr (0 * 10) (devCells x Ax cx) = wz := hwz
     rw [hs_] at hown_ hgs_
     rw [hwz]
     clear hwz hs_ hce_ hfz_ e0_ e1_ e2_ e3_ e4_ e5_ e6_ e7_ e8_ e9_
     have HOWwz := Lib.hid hown_; have twz := Lib.hid (twy.out.kept hgs_ (fun e => by have := Option.some.inj e; have := HGY.out; omega)); have HBwz := Lib.hid (HBwy.out.grown hgs_ HBwy.out.size (fun q hq => by have := Option.some.inj hq; have := HGY.out; omega)); have HSwz := Lib.hid hgs_.size; have HQwz := Lib.hid hgs_
     clear hown_ hgs_
     refine hK.out _ _ twz.out (fun _ => ?_)
     clear hK K
     try simp only [Act.put, List.setIfInBounds_toArray, List.set_cons_zero, List.set_cons_succ]
     refine wpAnyH_done (by kernel_rfl) ?_ _
     rw [hl2] at HOWwz
     go_wp2_with fail
     go_meet
     exact ⟨_, _, ((L.set k y).set 0 x), Lib.hid (CkMid.row HBwz.out twz.out HOWwz.out (by simp) (orig_set (orig_set HVO.out HYO.out) HXO.out))⟩
    ·
     obtain ⟨u0, u1, u2, u3, u4, u5, u6, u7, u8, u9⟩ := HDX.out
     go_simp
     clear u0 u1 u2 u3 u4 u5 u6 u7 u8 u9
     refine hK.out _ _ twd.out (fun _ => ?_)
     clear hK K
     try simp only [Act.put, List.setIfInBounds_toArray, List.set_cons_zero, List.set_cons_succ]
     refine wpAnyH_ready (rs := [8]) (by kernel_rfl) (by simp) ?_
     refine AllReadyH.cons (o := ⟨some 61, .load _ _, _, _, _, _⟩) rfl (fun K hK => ?_) (AllReadyH.nil)
     obtain ⟨u0, u1, u2, u3, u4, u5, u6, u7, u8, u9⟩ := HDY.out
     have u1 : wd.cell? ⟨gr, 1, none⟩ = _ := u1
     have u2 : wd.cell? ⟨gr, 2, none⟩ = _ := u2
     have u3 : wd.cell? ⟨gr, 3, none⟩ = _ := u3
     have u4 : wd.cell? ⟨gr, 4, none⟩ = _ := u4
     have u5 : wd.cell? ⟨gr, 5, none⟩ = _ := u5
     have u6 : wd.cell? ⟨gr, 6, none⟩ = _ := u6
     have u7 : wd.cell? ⟨gr, 7, none⟩ = _ := u7
     have u8 : wd.cell? ⟨gr, 8, none⟩ = _ := u8
     have u9 : wd.cell? ⟨gr, 9, none⟩ = _ := u9
     go_simp
     clear u0 u1 u2 u3 u4 u5 u6 u7 u8 u9
     refine hK.out _ _ twd.out (fun _ => ?_)
     clear hK K
     try simp only [Act.put, List.setIfInBounds_toArray, List.set_cons_zero, List.set_cons_succ]
     refine wpAnyH_take (i := 14) (oi := ⟨some 67, _, _, _, _, _⟩) (v := .pointer (some ⟨gr, k * 10, none⟩)) rfl (by kernel_rfl) (by kernel_rfl) (by kernel_rfl) (fun _ _ _ h => h) (Or.inl ⟨by rfl, fun w' hS => by go_simp⟩) twd.out ?_
     try simp only [Act.put, List.setIfInBounds_toArray, List.set_cons_zero, List.set_cons_succ]
     have hdp := dev_put HOWwd.out (k := k) (hk) HOY.out HAY.out
     obtain ⟨hown_, hce_, hfz_, hgs_⟩ := hdp
     obtain ⟨v0_, e0_⟩ : ∃ u, wd.cell? ⟨gr, k * 10, none⟩ = some u := hce_ 0 (by decide)
     obtain ⟨v1_, e1_⟩ : ∃ u, wd.cell? ⟨gr, k * 10 + 1, none⟩ = some u := hce_ 1 (by decide)
     obtain ⟨v2_, e2_⟩ : ∃ u, wd.cell? ⟨gr, k * 10 + 2, none⟩ = some u := hce_ 2 (by decide)
     obtain ⟨v3_, e3_⟩ : ∃ u, wd.cell? ⟨gr, k * 10 + 3, none⟩ = some u := hce_ 3 (by decide)
     obtain ⟨v4_, e4_⟩ : ∃ u, wd.cell? ⟨gr, k * 10 + 4, none⟩ = some u := hce_ 4 (by decide)
     obtain ⟨v5_, e5_⟩ : ∃ u, wd.cell? ⟨gr, k * 10 + 5, none⟩ = some u := hce_ 5 (by decide)
     obtain ⟨v6_, e6_⟩ : ∃ u, wd.cell? ⟨gr, k * 10 + 6, none⟩ = some u := hce_ 6 (by decide)
     obtain ⟨v7_, e7_⟩ : ∃ u, wd.cell? ⟨gr, k * 10 + 7, none⟩ = some u := hce_ 7 (by decide)
     obtain ⟨v8_, e8_⟩ : ∃ u, wd.cell? ⟨gr, k * 10 + 8, none⟩ = some u := hce_ 8 (by decide)
     obtain ⟨v9_, e9_⟩ : ∃ u, wd.cell? ⟨gr, k * 10 + 9, none⟩ = some u := hce_ 9 (by decide)
     refine wpAnyH_ready (rs := [15]) (by kernel_rfl) (by simp) ?_
     refine AllReadyH.cons (o := ⟨none, .store _ _ _, _, _, _, _⟩) rfl (fun K hK => ?_) AllReadyH.nil
     go_simp
     obtain ⟨wy, hwy⟩ : ∃ z, ((((((((((wd.setCell ⟨gr, k * 10, none⟩ (.int .i64 y.idx)).setCell ⟨gr, k * 10 + 1, none⟩ (.int .i64 y.par)).setCell ⟨gr, k * 10 + 2, none⟩ (.string y.nm)).setCell ⟨gr, k * 10 + 3, none⟩ (.string y.orig)).setCell ⟨gr, k * 10 + 4, none⟩ (.string y.sub)).setCell ⟨gr, k * 10 + 5, none⟩ (.string y.drv)).setCell ⟨gr, k * 10 + 6, none⟩ (.string y.ali)).setCell ⟨gr, k * 10 + 7, none⟩ (.int .i64 y.kind)).setCell ⟨gr, k * 10 + 8, none⟩ (.int .i64 y.num)).setCell ⟨gr, k * 10 + 9, none⟩ (.slice Ay y.attrs.length cy)) = z := ⟨_, rfl⟩
     have hs_ : wd.setCells gr (k * 10) (devCells y Ay cy) = wy := hwy
     rw [hs_] at hown_ hgs_
     rw [hwy]
     clear hwy hs_ hce_ hfz_ e0_ e1_ e2_ e3_ e4_ e5_ e6_ e7_ e8_ e9_
     have HOWwy := Lib.hid hown_; have twy := Lib.hid (twd.out.kept hgs_ (fun e => by have := Option.some.inj e; have := HGY.out; omega)); have HBwy := Lib.hid (HBwd.out.grown hgs_ HBwd.out.size (fun q hq => by have := Option.some.inj hq; have := HGY.out; omega)); have HSwy := Lib.hid hgs_.size; have HQwy := Lib.hid hgs_
     clear hown_ hgs_
     refine hK.out _ _ twy.out (fun _ => ?_)
     clear hK K
     try simp only [Act.put, List.setIfInBounds_toArray, List.set_cons_zero, List.set_cons_succ]
     refine wpAnyH_take (i := 16) (oi := ⟨some 68, _, _, _, _, _⟩) (v := .pointer (some ⟨gr, 0, none⟩)) rfl (by kernel_rfl) (by kernel_rfl) (by kernel_rfl) (fun _ _ _ h => h) (Or.inl ⟨by rfl, fun w' hS => by go_simp⟩) twy.out ?_
     try simp only [Act.put, List.setIfInBounds_toArray, List.set_cons_zero, List.set_cons_succ]
     have HAX2 := Lib.hid (show SlS wy (fun b => (kF w.heap.size w2.heap.size) b ∧ b < wy.heap.size ∧ b ≠ gr) Ax cx x.attrs from SlS.mono (fun b hb => ⟨hb.1, by have := hb.2.1; have := HSwy.out; omega, hb.2.2⟩) (fun b o u hb hu => HQwy.out.cell hu (fun e => hb.2.2 (Option.some.inj e))) HAX.out)
     have hl2 : (L.set k y).length = L.length := by simp
     have hdp := dev_put HOWwy.out (k := 0) (by rw [hl2]; exact hn) HOX.out HAX2.out
     obtain ⟨hown_, hce_, hfz_, hgs_⟩ := hdp
     obtain ⟨v0_, e0_⟩ : ∃ u, wy.cell? ⟨gr, 0, none⟩ = some u := hce_ 0 (by decide)
     obtain ⟨v1_, e1_⟩ : ∃ u, wy.cell? ⟨gr, 1, none⟩ = some u := hce_ 1 (by decide)
     obtain ⟨v2_, e2_⟩ : ∃ u, wy.cell? ⟨gr, 2, none⟩ = some u := hce_ 2 (by decide)
     obtain ⟨v3_, e3_⟩ : ∃ u, wy.cell? ⟨gr, 3, none⟩ = some u := hce_ 3 (by decide)
     obtain ⟨v4_, e4_⟩ : ∃ u, wy.cell? ⟨gr, 4, none⟩ = some u := hce_ 4 (by decide)
     obtain ⟨v5_, e5_⟩ : ∃ u, wy.cell? ⟨gr, 5, none⟩ = some u := hce_ 5 (by decide)
     obtain ⟨v6_, e6_⟩ : ∃ u, wy.cell? ⟨gr, 6, none⟩ = some u := hce_ 6 (by decide)
     obtain ⟨v7_, e7_⟩ : ∃ u, wy.cell? ⟨gr, 7, none⟩ = some u := hce_ 7 (by decide)
     obtain ⟨v8_, e8_⟩ : ∃ u, wy.cell? ⟨gr, 8, none⟩ = some u := hce_ 8 (by decide)
     obtain ⟨v9_, e9_⟩ : ∃ u, wy.cell? ⟨gr, 9, none⟩ = some u := hce_ 9 (by decide)
     refine wpAnyH_ready (rs := [17]) (by kernel_rfl) (by simp) ?_
     refine AllReadyH.cons (o := ⟨none, .store _ _ _, _, _, _, _⟩) rfl (fun K hK => ?_) AllReadyH.nil
     go_simp
     obtain ⟨wz, hwz⟩ : ∃ z, ((((((((((wy.setCell ⟨gr, 0, none⟩ (.int .i64 x.idx)).setCell ⟨gr, 1, none⟩ (.int .i64 x.par)).setCell ⟨gr, 2, none⟩ (.string x.nm)).setCell ⟨gr, 3, none⟩ (.string x.orig)).setCell ⟨gr, 4, none⟩ (.string x.sub)).setCell ⟨gr, 5, none⟩ (.string x.drv)).setCell ⟨gr, 6, none⟩ (.string x.ali)).setCell ⟨gr, 7, none⟩ (.int .i64 x.kind)).setCell ⟨gr, 8, none⟩ (.int .i64 x.num)).setCell ⟨gr, 9, none⟩ (.slice Ax x.attrs.length cx)) = z := ⟨_, rfl⟩
     have hs_ : wy.setCells gr (0 * 10) (devCells x Ax cx) = wz := hwz
     rw [hs_] at hown_ hgs_
     rw [hwz]
     clear hwz hs_ hce_ hfz_ e0_ e1_ e2_ e3_ e4_ e5_ e6_ e7_ e8_ e9_
     have HOWwz := Lib.hid hown_; have twz := Lib.hid (twy.out.kept hgs_ (fun e => by have := Option.some.inj e; have := HGY.out; omega)); have HBwz := Lib.hid (HBwy.out.grown hgs_ HBwy.out.size (fun q hq => by have := Option.some.inj hq; have := HGY.out; omega)); have HSwz := Lib.hid hgs_.size; have HQwz := Lib.hid hgs_
     clear hown_ hgs_
     refine hK.out _ _ twz.out (fun _ => ?_)
     clear hK K
     try simp only [Act.put, List.setIfInBounds_toArray, List.set_cons_zero, List.set_cons_succ]
     refine wpAnyH_done (by kernel_rfl) ?_ _
     rw [hl2] at HOWwz
     go_wp2_with fail
     go_meet
     exact ⟨_, _, ((L.set k y).set 0 x), Lib.hid (CkMid.row HBwz.out twz.out HOWwz.out (by simp) (orig_set (orig_set HVO.out HYO.out) HXO.out))⟩
   ·
    clear h0 h2
    go_upto_region 17 with fail
    refine wp_region_held_drew (S := fun w' => BoxL w' w2.heap.size [.slice (some ⟨gr, 0, none⟩) L.length cap]) (by kernel_rfl) tw12.out.drew (fun hS0 => ?_)
    obtain ⟨wd, hwd⟩ : ∃ z, World.drew w12 = z := ⟨_, rfl⟩
    rw [hwd] at hS0 ⊢
    have hb_ : Below w12.heap.size w12 wd := by rw [← hwd]; exact below_drewN_self _ _ 1
    clear hwd hS0
    have HSwd := Lib.hid (show w12.heap.size ≤ wd.heap.size from hb_.size)
    have HBwd := Lib.hid (HBw12.out.trans (hb_.mono HBw12.out.size))
    have twd := Lib.hid (tw12.out.kept (grown_none hb_) (fun e => by cases e))
    have HTPwd := Lib.hid (HTPw12.out.kept (grown_none hb_) (fun e => by cases e) (fun g e => by cases e))
    have HOWwd := Lib.hid (HOWw12.out.below hb_)
    clear hb_
    refine wpAnyH_take (i := 0) (oi := ⟨some 71, _, _, _, _, _⟩) (v := .pointer (some ⟨w2.heap.size, 0, none⟩)) rfl (by kernel_rfl) (by kernel_rfl) (by kernel_rfl) (fun _ _ _ h => h) (Or.inl ⟨by rfl, fun w' hS => by go_simp⟩) twd.out ?_
    try simp only [Act.put, List.setIfInBounds_toArray, List.set_cons_zero, List.set_cons_succ]
    refine wpAnyH_take (i := 1) (oi := ⟨some 72, _, _, _, _, _⟩) (v := .slice (some ⟨gr, 0, none⟩) L.length cap) rfl (by kernel_rfl) (by kernel_rfl) (by kernel_rfl) (fun _ _ _ h => h) (Or.inl ⟨by rfl, fun w' hS => by (have u0_ := hS.1 0 _ rfl; go_simp)⟩) twd.out ?_
    try simp only [Act.put, List.setIfInBounds_toArray, List.set_cons_zero, List.set_cons_succ]
    refine wpAnyH_take (i := 2) (oi := ⟨some 73, _, _, _, _, _⟩) (v := .int .i64 k) rfl (by kernel_rfl) (by kernel_rfl) (by kernel_rfl) (fun _ _ _ h => h) (Or.inl ⟨by rfl, fun w' hS => by go_simp⟩) twd.out ?_
    try simp only [Act.put, List.setIfInBounds_toArray, List.set_cons_zero, List.set_cons_succ]
    refine wpAnyH_take (i := 3) (oi := ⟨some 74, _, _, _, _, _⟩) (v := .pointer (some ⟨w.heap.size, 0, none⟩)) rfl (by kernel_rfl) (by kernel_rfl) (by kernel_rfl) (fun _ _ _ h => h) (Or.inl ⟨by rfl, fun w' hS => by go_simp⟩) twd.out ?_
    try simp only [Act.put, List.setIfInBounds_toArray, List.set_cons_zero, List.set_cons_succ]
    refine wpAnyH_ready (rs := [4]) (by kernel_rfl) (by simp) ?_
    refine AllReadyH.cons (o := ⟨some 75, .call ⟨_, _, _⟩, _, _, _, _⟩) rfl (fun K hK => ?_) AllReadyH.nil
    go_simp
    go_at_call 14
    refine (Next_lit 9 xs (k1 + 1 + 1) w.heap.size w.heap.size _ (by have := HK1.out; omega) HTPwd.out (by omega) (by omega)).mono ?_
    rintro e' q23 ⟨zn, h5, h6, rfl, ht_, hg_⟩
    have HBq23 := Lib.hid (HBwd.out.grown hg_ HBwd.out.size (fun q hq => by have := Option.some.inj hq; omega))
    have HTPq23 := Lib.hid ht_
    have tq23 := Lib.hid (twd.out.kept hg_ (fun e => by have := Option.some.inj e; have := HGY.out; omega))
    have HOWq23 := Lib.hid (HOWwd.out.grownb hg_ (fun x hx => hx.1) HBS.out.1)
    have HZO := Lib.hid (show okI zn ∧ okI (1 + zn) by unfold okI; omega)
    have hwr : IntKind.i64.wrap (1 + zn) = 1 + zn := by rw [IntKind.wrap_i64]; omega
    clear hg_ ht_
    refine hK.out _ _ tq23.out (fun _ => ?_)
    clear hK K
    try simp only [Act.put, List.setIfInBounds_toArray, List.set_cons_zero, List.set_cons_succ]
    refine wpAnyH_take (i := 5) (oi := ⟨some 76, _, _, _, _, _⟩) (v := .pointer (some ⟨gr, k * 10, none⟩)) rfl (by kernel_rfl) (by kernel_rfl) (by kernel_rfl) (fun _ _ _ h => h) (Or.inl ⟨by rfl, fun w' hS => by go_simp⟩) tq23.out ?_
    try simp only [Act.put, List.setIfInBounds_toArray, List.set_cons_zero, List.set_cons_succ]
    refine wpAnyH_take (i := 6) (oi := ⟨some 77, _, _, _, _, _⟩) (v := .pointer (some ⟨gr, k * 10 + 8, none⟩)) rfl (by kernel_rfl) (by kernel_rfl) (by kernel_rfl) (fun _ _ _ h => h) (Or.inl ⟨by rfl, fun w' hS => by go_simp⟩) tq23.out ?_
    try simp only [Act.put, List.setIfInBounds_toArray, List.set_cons_zero, List.set_cons_succ]
    have hdc := dev_cell HOWq23.out HXK.out (j := 8) (x' := ({ x with num := zn } : Dev)) (v := .int .i64 (zn)) (by decide) (fun _ _ => rfl) rfl (fun h => ⟨h.1, h.2.1, h.2.2.1, h.2.2.2.1, h.2.2.2.2.1, h.2.2.2.2.2.1, h.2.2.2.2.2.2.1, h.2.2.2.2.2.2.2.1, HZO.out.1⟩)
    obtain ⟨hown_, ⟨u_, hu_⟩, hfz_⟩ := hdc
    refine wpAnyH_ready (rs := [7]) (by kernel_rfl) (by simp) ?_
    refine AllReadyH.cons (o := ⟨none, .store _ _ _, _, _, _, _⟩) rfl (fun K hK => ?_) AllReadyH.nil
    go_simp
    have hgs := grown_one q23 gr (k * 10 + 8) (.int .i64 (zn))
    obtain ⟨wz, hwz⟩ : ∃ z, q23.setCell ⟨gr, k * 10 + 8, none⟩ (.int .i64 (zn)) = z := ⟨_, rfl⟩
    rw [hwz] at hgs hown_ ⊢
    clear hwz hu_ hfz_
    have HOWwz := Lib.hid hown_; have twz := Lib.hid (tq23.out.kept hgs (fun e => by have := Option.some.inj e; have := HGY.out; omega)); have HBwz := Lib.hid (HBq23.out.grown hgs HBq23.out.size (fun q hq => by have := Option.some.inj hq; have := HGY.out; omega))
    clear hown_ hgs
    refine hK.out _ _ twz.out (fun _ => ?_)
    clear hK K
    try simp only [Act.put, List.setIfInBounds_toArray, List.set_cons_zero, List.set_cons_succ]
    refine wpAnyH_done (by kernel_rfl) ?_ _
    go_wp2_with fail
    go_meet
    exact ⟨_, _, (L.set k ({ x with num := zn } : Dev)), Lib.hid (CkMid.row HBwz.out twz.out HOWwz.out (by simp) (orig_set HVO.out HXO.out))⟩
   ·
    clear h0 h2
    go_upto_region 19 with fail
    refine wp_region_held_drew (S := fun w' => w'.heap.size = w'.heap.size) (by kernel_rfl) rfl (fun hS0 => ?_)
    obtain ⟨wd, hwd⟩ : ∃ z, World.drew w12 = z := ⟨_, rfl⟩
    rw [hwd] at hS0 ⊢
    have hb_ : Below w12.heap.size w12 wd := by rw [← hwd]; exact below_drewN_self _ _ 1
    clear hwd hS0
    have HSwd := Lib.hid (show w12.heap.size ≤ wd.heap.size from hb_.size)
    have HBwd := Lib.hid (HBw12.out.trans (hb_.mono HBw12.out.size))
    have twd := Lib.hid (tw12.out.kept (grown_none hb_) (fun e => by cases e))
    have HTPwd := Lib.hid (HTPw12.out.kept (grown_none hb_) (fun e => by cases e) (fun g e => by cases e))
    have HOWwd := Lib.hid (HOWw12.out.below hb_)
    clear hb_
    have HTI := Lib.hid (show TreeIn wd w.heap.size (fun x => x < wd.heap.size ∧ x ≠ w.heap.size) (some ⟨gr, 0, none⟩) cap L from by
     obtain ⟨A9, c9, e9, h9⟩ := HOWwd.out.free (N := fun x => x = w.heap.size) (fun x (hx : x = w.heap.size) => ⟨by have := HBS.out; omega, fun h => h.1 hx⟩)
     injection e9 with q1 q2 q3
     subst q1 q3
     exact ⟨h9, fun x hx => hx.2, fun x hx => hx.1⟩)
    have HGW := Lib.hid (show gr < wd.heap.size from (HOWwd.out.lt gr rfl).2)
    refine wpAnyH_take (i := 0) (oi := ⟨some 80, _, _, _, _, _⟩) (v := .pointer (some ⟨w2.heap.size, 0, none⟩)) rfl (by kernel_rfl) (by kernel_rfl) (by kernel_rfl) (fun _ _ _ h => h) (Or.inl ⟨by rfl, fun w' hS => by go_simp⟩) (by trivial) ?_
    try simp only [Act.put, List.setIfInBounds_toArray, List.set_cons_zero, List.set_cons_succ]
    refine wpAnyH_take (i := 2) (oi := ⟨some 82, _, _, _, _, _⟩) (v := .pointer (some ⟨w.heap.size, 0, none⟩)) rfl (by kernel_rfl) (by kernel_rfl) (by kernel_rfl) (fun _ _ _ h => h) (Or.inl ⟨by rfl, fun w' hS => by go_simp⟩) (by trivial) ?_
    try simp only [Act.put, List.setIfInBounds_toArray, List.set_cons_zero, List.set_cons_succ]
    refine wpAnyH_ready (rs := [1, 3]) (by kernel_rfl) (by simp) ?_
    refine AllReadyH.cons (o := ⟨some 81, .load _ _, _, _, _, _⟩) rfl (fun K hK => ?_) (AllReadyH.cons (o := ⟨some 83, .load _ _, _, _, _, _⟩) rfl (fun K hK => ?_) (AllReadyH.nil))
    ·
     have ct_ := twd.out.1 0 _ rfl
     go_simp
     clear ct_
     refine hK.out _ _ (by trivial) (fun _ => ?_)
     clear hK K
     try simp only [Act.put, List.setIfInBounds_toArray, List.set_cons_zero, List.set_cons_succ]
     refine wpAnyH_ready (rs := [3]) (by kernel_rfl) (by simp) ?_
     refine AllReadyH.cons (o := ⟨some 83, .load _ _, _, _, _, _⟩) rfl (fun K hK => ?_) (AllReadyH.nil)
     have ct_ := twd.out.1 0 _ rfl
     go_simp
     clear ct_
     refine hK.out _ _ (by trivial) (fun _ => ?_)
     clear hK K
     try simp only [Act.put, List.setIfInBounds_toArray, List.set_cons_zero, List.set_cons_succ]
     refine wpAnyH_ready (rs := [4]) (by kernel_rfl) (by simp) ?_
     refine AllReadyH.cons (o := ⟨some 84, .call ⟨_, _, _⟩, _, _, _, _⟩) rfl (fun K hK => ?_) (AllReadyH.nil)
     go_simp
     go_at_call 15
     refine (Device_any xs (k1 + 1 + 1) w.heap.size w.heap.size (some ⟨gr, 0, none⟩) cap L _ wd (by have := HK1.out; omega) HTPwd.out HTI.out (fun d hd => (HVT.out.small d hd).2) (by have := HLN.out; omega)).mono ?_
     rintro e' q24 ⟨d, A4, c4, k4, rfl, hfew_, hsl_, -, ht_, hg_⟩
     have HBq24 := Lib.hid (HBwd.out.grown hg_ HBwd.out.size (fun q hq => by have := Option.some.inj hq; omega))
     have HTPq24 := Lib.hid ht_
     have tq24 := Lib.hid (twd.out.kept hg_ (fun e => by have := Option.some.inj e; have := HGY.out; omega))
     have HOWq24 := Lib.hid (HOWwd.out.grownb hg_ (fun x hx => hx.1) HBS.out.1)
     have HFEW := Lib.hid hfew_; have HSD := Lib.hid hsl_; clear hfew_ hsl_ hg_ ht_
     refine hK.out _ _ (by trivial) (fun _ => ?_)
     clear hK K
     try simp only [Act.put, List.setIfInBounds_toArray, List.set_cons_zero, List.set_cons_succ]
     refine wpAnyH_ready (rs := [5]) (by kernel_rfl) (by simp) ?_
     refine AllReadyH.cons (o := ⟨some 85, .buildSlice _ _ _, _, _, _, _⟩) rfl (fun K hK => ?_) (AllReadyH.nil)
     go_simp
     obtain ⟨q25, hq25⟩ : ∃ z, q24.alloc (.cells #[.int .i64 d.idx, .int .i64 d.par, .string d.nm, .string d.orig, .string d.sub, .string d.drv, .string d.ali, .int .i64 d.kind, .int .i64 d.num, .slice A4 d.attrs.length c4] 34) = z := ⟨_, rfl⟩
     have hb_ : Below q24.heap.size q24 q25 := by rw [← hq25]; exact (Below.refl _ _).alloc (Nat.le_refl _) _
     have hnew := lit_cells hq25 (l := devCells d A4 c4) rfl
     have HNEW := Lib.hid hnew; clear hnew
     try rw [hq25]
     clear hq25
     have HSD2 := Lib.hid (show SlS q25 (fun x => wd.heap.size ≤ x ∧ x < q25.heap.size) A4 c4 d.attrs from SlS.mono (fun x hx => ⟨hx.1, by have := hb_.size; have := hx.2; omega⟩) (fun _ _ _ _ hu => hu) (SlS.below HSD.out hb_ (fun x hx => hx.2)))
     have HSq25 := Lib.hid (show q24.heap.size ≤ q25.heap.size from hb_.size)
     have HBq25 := Lib.hid (HBq24.out.trans (hb_.mono HBq24.out.size))
     have tq25 := Lib.hid (tq24.out.kept (grown_none hb_) (fun e => by cases e))
     have HTPq25 := Lib.hid (HTPq24.out.kept (grown_none hb_) (fun e => by cases e) (fun g e => by cases e))
     have HOWq25 := Lib.hid (HOWq24.out.below hb_)
     clear hb_
     refine hK.out _ _ (by trivial) (fun _ => ?_)
     clear hK K
     try simp only [Act.put, List.setIfInBounds_toArray, List.set_cons_zero, List.set_cons_succ]
     refine wpAnyH_ready (rs := [6]) (by kernel_rfl) (by simp) ?_
     refine AllReadyH.cons (o := ⟨some 86, .call ⟨_, _, _⟩, _, _, _, _⟩) rfl (fun K hK => ?_) (AllReadyH.nil)
     have HRD := Lib.hid (show RepS.rdS q25 (fun b => (kF w.heap.size w2.heap.size) b ∧ b < q25.heap.size ∧ (.slice (some ⟨gr, 0, none⟩) L.length cap : Value).ownBlock ≠ some b) d (devCells d A4 c4) from ⟨A4, c4, rfl, HFEW.out.ok, HSD2.out.mono (fun x hx => ⟨⟨fun e => by have := hx.1; have := HGW.out; have := HGY.out; omega, fun e => by have := hx.1; have := HGW.out; have := HGY.out; omega⟩, hx.2, fun e => by have e2 : gr = x := Option.some.inj e; have := hx.1; have := HGW.out; omega⟩) (fun _ _ _ _ hu => hu)⟩)
     have HB3 := Lib.hid (show w3.heap.size ≤ q25.heap.size by have := (HOWq25.out.lt gr rfl); have := HGY.out; omega)
     refine step_app rfl _ _ rfl (.slice (some ⟨gr, 0, none⟩) L.length cap) (.slice (some ⟨q24.heap.size, 0, none⟩) 1 1) (by simp [Act.eval, Act.put]) (by simp [Act.eval, Act.put]) (run_app1 E_dev _ (.slice (some ⟨gr, 0, none⟩) L.length cap) L HOWq25.out q24.heap.size d (devCells d A4 c4) HNEW.out HRD.out (by have := HLN.out; unfold maxLen; omega) (by have := HLN.out; omega) HB3.out) ?_
     rintro v2 wq ⟨hown_, hg_, hnew_⟩
     have hg2 : q25.grownBy wq (some gr) := hg_
     obtain ⟨g2, cap2, hv_, hlo2, hca2, hcm2⟩ := hown_.rowedJ (by simp)
     subst hv_
     have HOWq := Lib.hid hown_; have twq := Lib.hid (tq25.out.kept hg2 (fun e => by have := Option.some.inj e; have := HGY.out; omega)); have HBwq := Lib.hid (HBq25.out.grown hg2 HBq25.out.size (fun q hq => by have := Option.some.inj hq; have := HGY.out; omega))
     clear hown_ hg_ hnew_ hg2
     refine hK.out _ _ (by trivial) (fun _ => ?_)
     clear hK K
     try simp only [Act.put, List.setIfInBounds_toArray, List.set_cons_zero, List.set_cons_succ]
     refine wpAnyH_take (i := 7) (oi := ⟨some 87, _, _, _, _, _⟩) (v := .pointer (some ⟨w2.heap.size, 0, none⟩)) rfl (by kernel_rfl) (by kernel_rfl) (by kernel_rfl) (fun _ _ _ h => h) (Or.inl ⟨by rfl, fun w' hS => by go_simp⟩) (by trivial) ?_
     try simp only [Act.put, List.setIfInBounds_toArray, List.set_cons_zero, List.set_cons_succ]
     refine wpAnyH_ready (rs := [8]) (by kernel_rfl) (by simp) ?_
     refine AllReadyH.cons (o := ⟨none, .store _ _ _, _, _, _, _⟩) rfl (fun K hK => ?_) AllReadyH.nil
     rw [show (L ++ [d]).length = L.length + 1 by simp] at HOWq
     have ct_ := twq.out.1 0 _ rfl; have ctf := twq.out.2.1
     go_simp
     clear ct_ ctf
     have hgs := grown_one wq w2.heap.size 0 (.slice (some ⟨g2, 0, none⟩) (L.length + 1) cap2)
     have hbx_ := twq.out.set_ (j := 0) (by first | (simp; done) | (simp [devCells]; done)) (.slice (some ⟨g2, 0, none⟩) (L.length + 1) cap2)
     obtain ⟨wz, hwz⟩ : ∃ z, wq.setCell ⟨w2.heap.size, 0, none⟩ (.slice (some ⟨g2, 0, none⟩) (L.length + 1) cap2) = z := ⟨_, rfl⟩
     rw [hwz] at hgs hbx_ ⊢
     clear hwz
     have twz := Lib.hid hbx_
     have HBwz := Lib.hid (HBwq.out.grown hgs HBwq.out.size (fun q hq => by have := Option.some.inj hq; have := HGY.out; omega))
     have HOWwz := Lib.hid (HOWq.out.grownb hgs (fun x hx => hx.2) HBS.out.2.1)
     clear hgs hbx_
     refine hK.out _ _ (by trivial) (fun _ => ?_)
     clear hK K
     try simp only [Act.put, List.setIfInBounds_toArray, List.set_cons_zero, List.set_cons_succ]
     refine wpAnyH_done (by kernel_rfl) ?_ _
     go_wp2_with fail
     go_meet
     exact ⟨_, _, (L ++ [d]), Lib.hid (CkMid.row HBwz.out twz.out HOWwz.out (by simp) (fun e he => by rcases List.mem_append.1 he with h | h; exact HVO.out e h; (rw [List.mem_singleton.1 h]; have := HFEW.out.2.2.2.1; omega)))⟩
    ·
     have ct_ := twd.out.1 0 _ rfl
     go_simp
     clear ct_
     refine hK.out _ _ (by trivial) (fun _ => ?_)
     clear hK K
     try simp only [Act.put, List.setIfInBounds_toArray, List.set_cons_zero, List.set_cons_succ]
     refine wpAnyH_ready (rs := [1, 4]) (by kernel_rfl) (by simp) ?_
     refine AllReadyH.cons (o := ⟨some 81, .load _ _, _, _, _, _⟩) rfl (fun K hK => ?_) (AllReadyH.cons (o := ⟨some 84, .call ⟨_, _, _⟩, _, _, _, _⟩) rfl (fun K hK => ?_) (AllReadyH.nil))
     ·
      have ct_ := twd.out.1 0 _ rfl
      go_simp
      clear ct_
      refine hK.out _ _ (by trivial) (fun _ => ?_)
      clear hK K
      try simp only [Act.put, List.setIfInBounds_toArray, List.set_cons_zero, List.set_cons_succ]
      refine wpAnyH_ready (rs := [4]) (by kernel_rfl) (by simp) ?_
      refine AllReadyH.cons (o := ⟨some 84, .call ⟨_, _, _⟩, _, _, _, _⟩) rfl (fun K hK => ?_) (AllReadyH.nil)
      go_simp
      go_at_call 15
      refine (Device_any xs (k1 + 1 + 1) w.heap.size w.heap.size (some ⟨gr, 0, none⟩) cap L _ wd (by have := HK1.out; omega) HTPwd.out HTI.out (fun d hd => (HVT.out.small d hd).2) (by have := HLN.out; omega)).mono ?_
      rintro e' q26 ⟨d, A4, c4, k4, rfl, hfew_, hsl_, -, ht_, hg_⟩
      have HBq26 := Lib.hid (HBwd.out.grown hg_ HBwd.out.size (fun q hq => by have := Option.some.inj hq; omega))
      have HTPq26 := Lib.hid ht_
      have tq26 := Lib.hid (twd.out.kept hg_ (fun e => by have := Option.some.inj e; have := HGY.out; omega))
      have HOWq26 := Lib.hid (HOWwd.out.grownb hg_ (fun x hx => hx.1) HBS.out.1)
      have HFEW := Lib.hid hfew_; have HSD := Lib.hid hsl_; clear hfew_ hsl_ hg_ ht_
      refine hK.out _ _ (by trivial) (fun _ => ?_)
      clear hK K
      try simp only [Act.put, List.setIfInBounds_toArray, List.set_cons_zero, List.set_cons_succ]
      refine wpAnyH_ready (rs := [5]) (by kernel_rfl) (by simp) ?_
      refine AllReadyH.cons (o := ⟨some 85, .buildSlice _ _ _, _, _, _, _⟩) rfl (fun K hK => ?_) (AllReadyH.nil)
      go_simp
      obtain ⟨q27, hq27⟩ : ∃ z, q26.alloc (.cells #[.int .i64 d.idx, .int .i64 d.par, .string d.nm, .string d.orig, .string d.sub, .string d.drv, .string d.ali, .int .i64 d.kind, .int .i64 d.num, .slice A4 d.attrs.length c4] 34) = z := ⟨_, rfl⟩
      have hb_ : Below q26.heap.size q26 q27 := by rw [← hq27]; exact (Below.refl _ _).alloc (Nat.le_refl _) _
      have hnew := lit_cells hq27 (l := devCells d A4 c4) rfl
      have HNEW := Lib.hid hnew; clear hnew
      try rw [hq27]
      clear hq27
      have HSD2 := Lib.hid (show SlS q27 (fun x => wd.heap.size ≤ x ∧ x < q27.heap.size) A4 c4 d.attrs from SlS.mono (fun x hx => ⟨hx.1, by have := hb_.size; have := hx.2; omega⟩) (fun _ _ _ _ hu => hu) (SlS.below HSD.out hb_ (fun x hx => hx.2)))
      have HSq27 := Lib.hid (show q26.heap.size ≤ q27.heap.size from hb_.size)
      have HBq27 := Lib.hid (HBq26.out.trans (hb_.mono HBq26.out.size))
      have tq27 := Lib.hid (tq26.out.kept (grown_none hb_) (fun e => by cases e))
      have HTPq27 := Lib.hid (HTPq26.out.kept (grown_none hb_) (fun e => by cases e) (fun g e => by cases e))
      have HOWq27 := Lib.hid (HOWq26.out.below hb_)
      clear hb_
      refine hK.out _ _ (by trivial) (fun _ => ?_)
      clear hK K
      try simp only [Act.put, List.setIfInBounds_toArray, List.set_cons_zero, List.set_cons_succ]
      refine wpAnyH_ready (rs := [6]) (by kernel_rfl) (by simp) ?_
      refine AllReadyH.cons (o := ⟨some 86, .call ⟨_, _, _⟩, _, _, _, _⟩) rfl (fun K hK => ?_) (AllReadyH.nil)
      have HRD := Lib.hid (show RepS.rdS q27 (fun b => (kF w.heap.size w2.heap.size) b ∧ b < q27.heap.size ∧ (.slice (some ⟨gr, 0, none⟩) L.length cap : Value).ownBlock ≠ some b) d (devCells d A4 c4) from ⟨A4, c4, rfl, HFEW.out.ok, HSD2.out.mono (fun x hx => ⟨⟨fun e => by have := hx.1; have := HGW.out; have := HGY.out; omega, fun e => by have := hx.1; have := HGW.out; have := HGY.out; omega⟩, hx.2, fun e => by have e2 : gr = x := Option.some.inj e; have := hx.1; have := HGW.out; omega⟩) (fun _ _ _ _ hu => hu)⟩)
      have HB3 := Lib.hid (show w3.heap.size ≤ q27.heap.size by have := (HOWq27.out.lt gr rfl); have := HGY.out; omega)
      refine step_app rfl _ _ rfl (.slice (some ⟨gr, 0, none⟩) L.length cap) (.slice (some ⟨q26.heap.size, 0, none⟩) 1 1) (by simp [Act.eval, Act.put]) (by simp [Act.eval, Act.put]) (run_app1 E_dev _ (.slice (some ⟨gr, 0, none⟩) L.length cap) L HOWq27.out q26.heap.size d (devCells d A4 c4) HNEW.out HRD.out (by have := HLN.out; unfold maxLen; omega) (by have := HLN.out; omega) HB3.out) ?_
      rintro v2 wq ⟨hown_, hg_, hnew_⟩
      have hg2 : q27.grownBy wq (some gr) := hg_
      obtain ⟨g2, cap2, hv_, hlo2, hca2, hcm2⟩ := hown_.rowedJ (by simp)
      subst hv_
      have HOWq := Lib.hid hown_; have twq := Lib.hid (tq27.out.kept hg2 (fun e => by have := Option.some.inj e; have := HGY.out; omega)); have HBwq := Lib.hid (HBq27.out.grown hg2 HBq27.out.size (fun q hq => by have := Option.some.inj hq; have := HGY.out; omega))
      clear hown_ hg_ hnew_ hg2
      refine hK.out _ _ (by trivial) (fun _ => ?_)
      clear hK K
      try simp only [Act.put, List.setIfInBounds_toArray, List.set_cons_zero, List.set_cons_succ]
      refine wpAnyH_take (i := 7) (oi := ⟨some 87, _, _, _, _, _⟩) (v := .pointer (some ⟨w2.heap.size, 0, none⟩)) rfl (by kernel_rfl) (by kernel_rfl) (by kernel_rfl) (fun _ _ _ h => h) (Or.inl ⟨by rfl, fun w' hS => by go_simp⟩) (by trivial) ?_
      try simp only [Act.put, List.setIfInBounds_toArray, List.set_cons_zero, List.set_cons_succ]
      refine wpAnyH_ready (rs := [8]) (by kernel_rfl) (by simp) ?_
      refine AllReadyH.cons (o := ⟨none, .store _ _ _, _, _, _, _⟩) rfl (fun K hK => ?_) AllReadyH.nil
      rw [show (L ++ [d]).length = L.length + 1 by simp] at HOWq
      have ct_ := twq.out.1 0 _ rfl; have ctf := twq.out.2.1
      go_simp
      clear ct_ ctf
      have hgs := grown_one wq w2.heap.size 0 (.slice (some ⟨g2, 0, none⟩) (L.length + 1) cap2)
      have hbx_ := twq.out.set_ (j := 0) (by first | (simp; done) | (simp [devCells]; done)) (.slice (some ⟨g2, 0, none⟩) (L.length + 1) cap2)
      obtain ⟨wz, hwz⟩ : ∃ z, wq.setCell ⟨w2.heap.size, 0, none⟩ (.slice (some ⟨g2, 0, none⟩) (L.length + 1) cap2) = z := ⟨_, rfl⟩
      rw [hwz] at hgs hbx_ ⊢
      clear hwz
      have twz := Lib.hid hbx_
      have HBwz := Lib.hid (HBwq.out.grown hgs HBwq.out.size (fun q hq => by have := Option.some.inj hq; have := HGY.out; omega))
      have HOWwz := Lib.hid (HOWq.out.grownb hgs (fun x hx => hx.2) HBS.out.2.1)
      clear hgs hbx_
      refine hK.out _ _ (by trivial) (fun _ => ?_)
      clear hK K
      try simp only [Act.put, List.setIfInBounds_toArray, List.set_cons_zero, List.set_cons_succ]
      refine wpAnyH_done (by kernel_rfl) ?_ _
      go_wp2_with fail
      go_meet
      exact ⟨_, _, (L ++ [d]), Lib.hid (CkMid.row HBwz.out twz.out HOWwz.out (by simp) (fun e he => by rcases List.mem_append.1 he with h | h; exact HVO.out e h; (rw [List.mem_singleton.1 h]; have := HFEW.out.2.2.2.1; omega)))⟩
     ·
      go_simp
      go_at_call 15
      refine (Device_any xs (k1 + 1 + 1) w.heap.size w.heap.size (some ⟨gr, 0, none⟩) cap L _ wd (by have := HK1.out; omega) HTPwd.out HTI.out (fun d hd => (HVT.out.small d hd).2) (by have := HLN.out; omega)).mono ?_
      rintro e' q28 ⟨d, A4, c4, k4, rfl, hfew_, hsl_, -, ht_, hg_⟩
      have HBq28 := Lib.hid (HBwd.out.grown hg_ HBwd.out.size (fun q hq => by have := Option.some.inj hq; omega))
      have HTPq28 := Lib.hid ht_
      have tq28 := Lib.hid (twd.out.kept hg_ (fun e => by have := Option.some.inj e; have := HGY.out; omega))
      have HOWq28 := Lib.hid (HOWwd.out.grownb hg_ (fun x hx => hx.1) HBS.out.1)
      have HFEW := Lib.hid hfew_; have HSD := Lib.hid hsl_; clear hfew_ hsl_ hg_ ht_
      refine hK.out _ _ (by trivial) (fun _ => ?_)
      clear hK K
      try simp only [Act.put, List.setIfInBounds_toArray, List.set_cons_zero, List.set_cons_succ]
      refine wpAnyH_ready (rs := [1, 5]) (by kernel_rfl) (by simp) ?_
      refine AllReadyH.cons (o := ⟨some 81, .load _ _, _, _, _, _⟩) rfl (fun K hK => ?_) (AllReadyH.cons (o := ⟨some 85, .buildSlice _ _ _, _, _, _, _⟩) rfl (fun K hK => ?_) (AllReadyH.nil))
      ·
       have ct_ := tq28.out.1 0 _ rfl
       go_simp
       clear ct_
       refine hK.out _ _ (by trivial) (fun _ => ?_)
       clear hK K
       try simp only [Act.put, List.setIfInBounds_toArray, List.set_cons_zero, List.set_cons_succ]
       refine wpAnyH_ready (rs := [5]) (by kernel_rfl) (by simp) ?_
       refine AllReadyH.cons (o := ⟨some 85, .buildSlice _ _ _, _, _, _, _⟩) rfl (fun K hK => ?_) (AllReadyH.nil)
       go_simp
       obtain ⟨q29, hq29⟩ : ∃ z, q28.alloc (.cells #[.int .i64 d.idx, .int .i64 d.par, .string d.nm, .string d.orig, .string d.sub, .string d.drv, .string d.ali, .int .i64 d.kind, .int .i64 d.num, .slice A4 d.attrs.length c4] 34) = z := ⟨_, rfl⟩
       have hb_ : Below q28.heap.size q28 q29 := by rw [← hq29]; exact (Below.refl _ _).alloc (Nat.le_refl _) _
       have hnew := lit_cells hq29 (l := devCells d A4 c4) rfl
       have HNEW := Lib.hid hnew; clear hnew
       try rw [hq29]
       clear hq29
       have HSD2 := Lib.hid (show SlS q29 (fun x => wd.heap.size ≤ x ∧ x < q29.heap.size) A4 c4 d.attrs from SlS.mono (fun x hx => ⟨hx.1, by have := hb_.size; have := hx.2; omega⟩) (fun _ _ _ _ hu => hu) (SlS.below HSD.out hb_ (fun x hx => hx.2)))
       have HSq29 := Lib.hid (show q28.heap.size ≤ q29.heap.size from hb_.size)
       have HBq29 := Lib.hid (HBq28.out.trans (hb_.mono HBq28.out.size))
       have tq29 := Lib.hid (tq28.out.kept (grown_none hb_) (fun e => by cases e))
       have HTPq29 := Lib.hid (HTPq28.out.kept (grown_none hb_) (fun e => by cases e) (fun g e => by cases e))
       have HOWq29 := Lib.hid (HOWq28.out.below hb_)
       clear hb_
       refine hK.out _ _ (by trivial) (fun _ => ?_)
       clear hK K
       try simp only [Act.put, List.setIfInBounds_toArray, List.set_cons_zero, List.set_cons_succ]
       refine wpAnyH_ready (rs := [6]) (by kernel_rfl) (by simp) ?_
       refine AllReadyH.cons (o := ⟨some 86, .call ⟨_, _, _⟩, _, _, _, _⟩) rfl (fun K hK => ?_) (AllReadyH.nil)
       have HRD := Lib.hid (show RepS.rdS q29 (fun b => (kF w.heap.size w2.heap.size) b ∧ b < q29.heap.size ∧ (.slice (some ⟨gr, 0, none⟩) L.length cap : Value).ownBlock ≠ some b) d (devCells d A4 c4) from ⟨A4, c4, rfl, HFEW.out.ok, HSD2.out.mono (fun x hx => ⟨⟨fun e => by have := hx.1; have := HGW.out; have := HGY.out; omega, fun e => by have := hx.1; have := HGW.out; have := HGY.out; omega⟩, hx.2, fun e => by have e2 : gr = x := Option.some.inj e; have := hx.1; have := HGW.out; omega⟩) (fun _ _ _ _ hu => hu)⟩)
       have HB3 := Lib.hid (show w3.heap.size ≤ q29.heap.size by have := (HOWq29.out.lt gr rfl); have := HGY.out; omega)
       refine step_app rfl _ _ rfl (.slice (some ⟨gr, 0, none⟩) L.length cap) (.slice (some ⟨q28.heap.size, 0, none⟩) 1 1) (by simp [Act.eval, Act.put]) (by simp [Act.eval, Act.put]) (run_app1 E_dev _ (.slice (some ⟨gr, 0, none⟩) L.length cap) L HOWq29.out q28.heap.size d (devCells d A4 c4) HNEW.out HRD.out (by have := HLN.out; unfold maxLen; omega) (by have := HLN.out; omega) HB3.out) ?_
       rintro v2 wq ⟨hown_, hg_, hnew_⟩
       have hg2 : q29.grownBy wq (some gr) := hg_
       obtain ⟨g2, cap2, hv_, hlo2, hca2, hcm2⟩ := hown_.rowedJ (by simp)
       subst hv_
       have HOWq := Lib.hid hown_; have twq := Lib.hid (tq29.out.kept hg2 (fun e => by have := Option.some.inj e; have := HGY.out; omega)); have HBwq := Lib.hid (HBq29.out.grown hg2 HBq29.out.size (fun q hq => by have := Option.some.inj hq; have := HGY.out; omega))
       clear hown_ hg_ hnew_ hg2
       refine hK.out _ _ (by trivial) (fun _ => ?_)
       clear hK K
       try simp only [Act.put, List.setIfInBounds_toArray, List.set_cons_zero, List.set_cons_succ]
       refine wpAnyH_take (i := 7) (oi := ⟨some 87, _, _, _, _, _⟩) (v := .pointer (some ⟨w2.heap.size, 0, none⟩)) rfl (by kernel_rfl) (by kernel_rfl) (by kernel_rfl) (fun _ _ _ h => h) (Or.inl ⟨by rfl, fun w' hS => by go_simp⟩) (by trivial) ?_
       try simp only [Act.put, List.setIfInBounds_toArray, List.set_cons_zero, List.set_cons_succ]
       refine wpAnyH_ready (rs := [8]) (by kernel_rfl) (by simp) ?_
       refine AllReadyH.cons (o := ⟨none, .store _ _ _, _, _, _, _⟩) rfl (fun K hK => ?_) AllReadyH.nil
       rw [show (L ++ [d]).length = L.length + 1 by simp] at HOWq
       have ct_ := twq.out.1 0 _ rfl; have ctf := twq.out.2.1
       go_simp
       clear ct_ ctf
       have hgs := grown_one wq w2.heap.size 0 (.slice (some ⟨g2, 0, none⟩) (L.length + 1) cap2)
       have hbx_ := twq.out.set_ (j := 0) (by first | (simp; done) | (simp [devCells]; done)) (.slice (some ⟨g2, 0, none⟩) (L.length + 1) cap2)
       obtain ⟨wz, hwz⟩ : ∃ z, wq.setCell ⟨w2.heap.size, 0, none⟩ (.slice (some ⟨g2, 0, none⟩) (L.length + 1) cap2) = z := ⟨_, rfl⟩
       rw [hwz] at hgs hbx_ ⊢
       clear hwz
       have twz := Lib.hid hbx_
       have HBwz := Lib.hid (HBwq.out.grown hgs HBwq.out.size (fun q hq => by have := Option.some.inj hq; have := HGY.out; omega))
       have HOWwz := Lib.hid (HOWq.out.grownb hgs (fun x hx => hx.2) HBS.out.2.1)
       clear hgs hbx_
       refine hK.out _ _ (by trivial) (fun _ => ?_)
       clear hK K
       try simp only [Act.put, List.setIfInBounds_toArray, List.set_cons_zero, List.set_cons_succ]
       refine wpAnyH_done (by kernel_rfl) ?_ _
       go_wp2_with fail
       go_meet
       exact ⟨_, _, (L ++ [d]), Lib.hid (CkMid.row HBwz.out twz.out HOWwz.out (by simp) (fun e he => by rcases List.mem_append.1 he with h | h; exact HVO.out e h; (rw [List.mem_singleton.1 h]; have := HFEW.out.2.2.2.1; omega)))⟩
      ·
       go_simp
       obtain ⟨q30, hq30⟩ : ∃ z, q28.alloc (.cells #[.int .i64 d.idx, .int .i64 d.par, .string d.nm, .string d.orig, .string d.sub, .string d.drv, .string d.ali, .int .i64 d.kind, .int .i64 d.num, .slice A4 d.attrs.length c4] 34) = z := ⟨_, rfl⟩
       have hb_ : Below q28.heap.size q28 q30 := by rw [← hq30]; exact (Below.refl _ _).alloc (Nat.le_refl _) _
       have hnew := lit_cells hq30 (l := devCells d A4 c4) rfl
       have HNEW := Lib.hid hnew; clear hnew
       try rw [hq30]
       clear hq30
       have HSD2 := Lib.hid (show SlS q30 (fun x => wd.heap.size ≤ x ∧ x < q30.heap.size) A4 c4 d.attrs from SlS.mono (fun x hx => ⟨hx.1, by have := hb_.size; have := hx.2; omega⟩) (fun _ _ _ _ hu => hu) (SlS.below HSD.out hb_ (fun x hx => hx.2)))
       have HSq30 := Lib.hid (show q28.heap.size ≤ q30.heap.size from hb_.size)
       have HBq30 := Lib.hid (HBq28.out.trans (hb_.mono HBq28.out.size))
       have tq30 := Lib.hid (tq28.out.kept (grown_none hb_) (fun e => by cases e))
       have HTPq30 := Lib.hid (HTPq28.out.kept (grown_none hb_) (fun e => by cases e) (fun g e => by cases e))
       have HOWq30 := Lib.hid (HOWq28.out.below hb_)
       clear hb_
       refine hK.out _ _ (by trivial) (fun _ => ?_)
       clear hK K
       try simp only [Act.put, List.setIfInBounds_toArray, List.set_cons_zero, List.set_cons_succ]
       refine wpAnyH_ready (rs := [1]) (by kernel_rfl) (by simp) ?_
       refine AllReadyH.cons (o := ⟨some 81, .load _ _, _, _, _, _⟩) rfl (fun K hK => ?_) (AllReadyH.nil)
       have ct_ := tq30.out.1 0 _ rfl
       go_simp
       clear ct_
       refine hK.out _ _ (by trivial) (fun _ => ?_)
       clear hK K
       try simp only [Act.put, List.setIfInBounds_toArray, List.set_cons_zero, List.set_cons_succ]
       refine wpAnyH_ready (rs := [6]) (by kernel_rfl) (by simp) ?_
       refine AllReadyH.cons (o := ⟨some 86, .call ⟨_, _, _⟩, _, _, _, _⟩) rfl (fun K hK => ?_) (AllReadyH.nil)
       have HRD := Lib.hid (show RepS.rdS q30 (fun b => (kF w.heap.size w2.heap.size) b ∧ b < q30.heap.size ∧ (.slice (some ⟨gr, 0, none⟩) L.length cap : Value).ownBlock ≠ some b) d (devCells d A4 c4) from ⟨A4, c4, rfl, HFEW.out.ok, HSD2.out.mono (fun x hx => ⟨⟨fun e => by have := hx.1; have := HGW.out; have := HGY.out; omega, fun e => by have := hx.1; have := HGW.out; have := HGY.out; omega⟩, hx.2, fun e => by have e2 : gr = x := Option.some.inj e; have := hx.1; have := HGW.out; omega⟩) (fun _ _ _ _ hu => hu)⟩)
       have HB3 := Lib.hid (show w3.heap.size ≤ q30.heap.size by have := (HOWq30.out.lt gr rfl); have := HGY.out; omega)
       refine step_app rfl _ _ rfl (.slice (some ⟨gr, 0, none⟩) L.length cap) (.slice (some ⟨q28.heap.size, 0, none⟩) 1 1) (by simp [Act.eval, Act.put]) (by simp [Act.eval, Act.put]) (run_app1 E_dev _ (.slice (some ⟨gr, 0, none⟩) L.length cap) L HOWq30.out q28.heap.size d (devCells d A4 c4) HNEW.out HRD.out (by have := HLN.out; unfold maxLen; omega) (by have := HLN.out; omega) HB3.out) ?_
       rintro v2 wq ⟨hown_, hg_, hnew_⟩
       have hg2 : q30.grownBy wq (some gr) := hg_
       obtain ⟨g2, cap2, hv_, hlo2, hca2, hcm2⟩ := hown_.rowedJ (by simp)
       subst hv_
       have HOWq := Lib.hid hown_; have twq := Lib.hid (tq30.out.kept hg2 (fun e => by have := Option.some.inj e; have := HGY.out; omega)); have HBwq := Lib.hid (HBq30.out.grown hg2 HBq30.out.size (fun q hq => by have := Option.some.inj hq; have := HGY.out; omega))
       clear hown_ hg_ hnew_ hg2
       refine hK.out _ _ (by trivial) (fun _ => ?_)
       clear hK K
       try simp only [Act.put, List.setIfInBounds_toArray, List.set_cons_zero, List.set_cons_succ]
       refine wpAnyH_take (i := 7) (oi := ⟨some 87, _, _, _, _, _⟩) (v := .pointer (some ⟨w2.heap.size, 0, none⟩)) rfl (by kernel_rfl) (by kernel_rfl) (by kernel_rfl) (fun _ _ _ h => h) (Or.inl ⟨by rfl, fun w' hS => by go_simp⟩) (by trivial) ?_
       try simp only [Act.put, List.setIfInBounds_toArray, List.set_cons_zero, List.set_cons_succ]
       refine wpAnyH_ready (rs := [8]) (by kernel_rfl) (by simp) ?_
       refine AllReadyH.cons (o := ⟨none, .store _ _ _, _, _, _, _⟩) rfl (fun K hK => ?_) AllReadyH.nil
       rw [show (L ++ [d]).length = L.length + 1 by simp] at HOWq
       have ct_ := twq.out.1 0 _ rfl; have ctf := twq.out.2.1
       go_simp
       clear ct_ ctf
       have hgs := grown_one wq w2.heap.size 0 (.slice (some ⟨g2, 0, none⟩) (L.length + 1) cap2)
       have hbx_ := twq.out.set_ (j := 0) (by first | (simp; done) | (simp [devCells]; done)) (.slice (some ⟨g2, 0, none⟩) (L.length + 1) cap2)
       obtain ⟨wz, hwz⟩ : ∃ z, wq.setCell ⟨w2.heap.size, 0, none⟩ (.slice (some ⟨g2, 0, none⟩) (L.length + 1) cap2) = z := ⟨_, rfl⟩
       rw [hwz] at hgs hbx_ ⊢
       clear hwz
       have twz := Lib.hid hbx_
       have HBwz := Lib.hid (HBwq.out.grown hgs HBwq.out.size (fun q hq => by have := Option.some.inj hq; have := HGY.out; omega))
       have HOWwz := Lib.hid (HOWq.out.grownb hgs (fun x hx => hx.2) HBS.out.2.1)
       clear hgs hbx_
       refine hK.out _ _ (by trivial) (fun _ => ?_)
       clear hK K
       try simp only [Act.put, List.setIfInBounds_toArray, List.set_cons_zero, List.set_cons_succ]
       refine wpAnyH_done (by kernel_rfl) ?_ _
       go_wp2_with fail
       go_meet
       exact ⟨_, _, (L ++ [d]), Lib.hid (CkMid.row HBwz.out twz.out HOWwz.out (by simp) (fun e he => by rcases List.mem_append.1 he with h | h; exact HVO.out e h; (rw [List.mem_singleton.1 h]; have := HFEW.out.2.2.2.1; omega)))⟩
   ·
    clear h0 h2
    go_upto_region 21 with fail
    refine wp_region_held_drew (S := fun w' => BoxL w' w2.heap.size [.slice (some ⟨gr, 0, none⟩) L.length cap]) (by kernel_rfl) tw12.out.drew (fun hS0 => ?_)
    obtain ⟨wd, hwd⟩ : ∃ z, World.drew w12 = z := ⟨_, rfl⟩
    rw [hwd] at hS0 ⊢
    have hb_ : Below w12.heap.size w12 wd := by rw [← hwd]; exact below_drewN_self _ _ 1
    clear hwd hS0
    have HSwd := Lib.hid (show w12.heap.size ≤ wd.heap.size from hb_.size)
    have HBwd := Lib.hid (HBw12.out.trans (hb_.mono HBw12.out.size))
    have twd := Lib.hid (tw12.out.kept (grown_none hb_) (fun e => by cases e))
    have HTPwd := Lib.hid (HTPw12.out.kept (grown_none hb_) (fun e => by cases e) (fun g e => by cases e))
    have HOWwd := Lib.hid (HOWw12.out.below hb_)
    clear hb_
    refine wpAnyH_take (i := 0) (oi := ⟨some 90, _, _, _, _, _⟩) (v := .pointer (some ⟨w2.heap.size, 0, none⟩)) rfl (by kernel_rfl) (by kernel_rfl) (by kernel_rfl) (fun _ _ _ h => h) (Or.inl ⟨by rfl, fun w' hS => by go_simp⟩) twd.out ?_
    try simp only [Act.put, List.setIfInBounds_toArray, List.set_cons_zero, List.set_cons_succ]
    refine wpAnyH_take (i := 1) (oi := ⟨some 91, _, _, _, _, _⟩) (v := .slice (some ⟨gr, 0, none⟩) L.length cap) rfl (by kernel_rfl) (by kernel_rfl) (by kernel_rfl) (fun _ _ _ h => h) (Or.inl ⟨by rfl, fun w' hS => by (have u0_ := hS.1 0 _ rfl; go_simp)⟩) twd.out ?_
    try simp only [Act.put, List.setIfInBounds_toArray, List.set_cons_zero, List.set_cons_succ]
    refine wpAnyH_take (i := 2) (oi := ⟨some 92, _, _, _, _, _⟩) (v := .int .i64 k) rfl (by kernel_rfl) (by kernel_rfl) (by kernel_rfl) (fun _ _ _ h => h) (Or.inl ⟨by rfl, fun w' hS => by go_simp⟩) twd.out ?_
    try simp only [Act.put, List.setIfInBounds_toArray, List.set_cons_zero, List.set_cons_succ]
    refine wpAnyH_take (i := 3) (oi := ⟨some 93, _, _, _, _, _⟩) (v := .pointer (some ⟨w2.heap.size, 0, none⟩)) rfl (by kernel_rfl) (by kernel_rfl) (by kernel_rfl) (fun _ _ _ h => h) (Or.inl ⟨by rfl, fun w' hS => by go_simp⟩) twd.out ?_
    try simp only [Act.put, List.setIfInBounds_toArray, List.set_cons_zero, List.set_cons_succ]
    refine wpAnyH_take (i := 4) (oi := ⟨some 94, _, _, _, _, _⟩) (v := .slice (some ⟨gr, 0, none⟩) L.length cap) rfl (by kernel_rfl) (by kernel_rfl) (by kernel_rfl) (fun _ _ _ h => h) (Or.inl ⟨by rfl, fun w' hS => by (have u0_ := hS.1 0 _ rfl; go_simp)⟩) twd.out ?_
    try simp only [Act.put, List.setIfInBounds_toArray, List.set_cons_zero, List.set_cons_succ]
    refine wpAnyH_take (i := 5) (oi := ⟨some 95, _, _, _, _, _⟩) (v := .int .i64 k) rfl (by kernel_rfl) (by kernel_rfl) (by kernel_rfl) (fun _ _ _ h => h) (Or.inl ⟨by rfl, fun w' hS => by go_simp⟩) twd.out ?_
    try simp only [Act.put, List.setIfInBounds_toArray, List.set_cons_zero, List.set_cons_succ]
    refine wpAnyH_take (i := 6) (oi := ⟨some 96, _, _, _, _, _⟩) (v := .pointer (some ⟨gr, k * 10, none⟩)) rfl (by kernel_rfl) (by kernel_rfl) (by kernel_rfl) (fun _ _ _ h => h) (Or.inl ⟨by rfl, fun w' hS => by go_simp⟩) twd.out ?_
    try simp only [Act.put, List.setIfInBounds_toArray, List.set_cons_zero, List.set_cons_succ]
    refine wpAnyH_take (i := 7) (oi := ⟨some 97, _, _, _, _, _⟩) (v := .pointer (some ⟨gr, k * 10 + 3, none⟩)) rfl (by kernel_rfl) (by kernel_rfl) (by kernel_rfl) (fun _ _ _ h => h) (Or.inl ⟨by rfl, fun w' hS => by go_simp⟩) twd.out ?_
    try simp only [Act.put, List.setIfInBounds_toArray, List.set_cons_zero, List.set_cons_succ]
    have HZS := Lib.hid (show (⟨#[122, 122]⟩ : ByteArray).size ≤ maxLen ∧ (⟨#[122, 122]⟩ : ByteArray).size ≤ 2147483648 from ⟨by decide, by decide⟩)
    have hdc := dev_cell HOWwd.out HXK.out (j := 3) (x' := ({ x with orig := ⟨#[122, 122]⟩ } : Dev)) (v := .string ⟨#[122, 122]⟩) (by decide) (fun _ _ => rfl) rfl (fun h => ⟨h.1, h.2.1, h.2.2.1, HZS.out.1, h.2.2.2.2⟩)
    obtain ⟨hown_, ⟨u_, hu_⟩, hfz_⟩ := hdc
    refine wpAnyH_ready (rs := [8]) (by kernel_rfl) (by simp) ?_
    refine AllReadyH.cons (o := ⟨none, .store _ _ _, _, _, _, _⟩) rfl (fun K hK => ?_) AllReadyH.nil
    go_simp
    have hgs := grown_one wd gr (k * 10 + 3) (.string ⟨#[122, 122]⟩)
    obtain ⟨wy, hwy⟩ : ∃ z, wd.setCell ⟨gr, k * 10 + 3, none⟩ (.string ⟨#[122, 122]⟩) = z := ⟨_, rfl⟩
    rw [hwy] at hgs hown_ ⊢
    clear hwy hu_ hfz_
    have HOWwy := Lib.hid hown_; have twy := Lib.hid (twd.out.kept hgs (fun e => by have := Option.some.inj e; have := HGY.out; omega)); have HBwy := Lib.hid (HBwd.out.grown hgs HBwd.out.size (fun q hq => by have := Option.some.inj hq; have := HGY.out; omega))
    clear hown_ hgs
    refine hK.out _ _ twy.out (fun _ => ?_)
    clear hK K
    try simp only [Act.put, List.setIfInBounds_toArray, List.set_cons_zero, List.set_cons_succ]
    refine wpAnyH_take (i := 9) (oi := ⟨some 98, _, _, _, _, _⟩) (v := .pointer (some ⟨gr, k * 10, none⟩)) rfl (by kernel_rfl) (by kernel_rfl) (by kernel_rfl) (fun _ _ _ h => h) (Or.inl ⟨by rfl, fun w' hS => by go_simp⟩) twy.out ?_
    try simp only [Act.put, List.setIfInBounds_toArray, List.set_cons_zero, List.set_cons_succ]
    refine wpAnyH_take (i := 10) (oi := ⟨some 99, _, _, _, _, _⟩) (v := .pointer (some ⟨gr, k * 10 + 2, none⟩)) rfl (by kernel_rfl) (by kernel_rfl) (by kernel_rfl) (fun _ _ _ h => h) (Or.inl ⟨by rfl, fun w' hS => by go_simp⟩) twy.out ?_
    try simp only [Act.put, List.setIfInBounds_toArray, List.set_cons_zero, List.set_cons_succ]
    have HXK2 := Lib.hid (show (L.set k ({ x with orig := ⟨#[122, 122]⟩ } : Dev))[k]? = some ({ x with orig := ⟨#[122, 122]⟩ } : Dev) from List.getElem?_set_self hk)
    have hdc := dev_cell HOWwy.out HXK2.out (j := 2) (x' := ({ x with orig := ⟨#[122, 122]⟩, nm := ⟨#[122, 122]⟩ } : Dev)) (v := .string ⟨#[122, 122]⟩) (by decide) (fun _ _ => rfl) rfl (fun h => ⟨h.1, h.2.1, HZS.out.1, h.2.2.2⟩)
    obtain ⟨hown_, ⟨u_, hu_⟩, hfz_⟩ := hdc
    refine wpAnyH_ready (rs := [11]) (by kernel_rfl) (by simp) ?_
    refine AllReadyH.cons (o := ⟨none, .store _ _ _, _, _, _, _⟩) rfl (fun K hK => ?_) AllReadyH.nil
    go_simp
    have hgs := grown_one wy gr (k * 10 + 2) (.string ⟨#[122, 122]⟩)
    obtain ⟨wz, hwz⟩ : ∃ z, wy.setCell ⟨gr, k * 10 + 2, none⟩ (.string ⟨#[122, 122]⟩) = z := ⟨_, rfl⟩
    rw [hwz] at hgs hown_ ⊢
    clear hwz hu_ hfz_
    have HOWwz := Lib.hid hown_; have twz := Lib.hid (twy.out.kept hgs (fun e => by have := Option.some.inj e; have := HGY.out; omega)); have HBwz := Lib.hid (HBwy.out.grown hgs HBwy.out.size (fun q hq => by have := Option.some.inj hq; have := HGY.out; omega))
    clear hown_ hgs
    refine hK.out _ _ twz.out (fun _ => ?_)
    clear hK K
    try simp only [Act.put, List.setIfInBounds_toArray, List.set_cons_zero, List.set_cons_succ]
    refine wpAnyH_done (by kernel_rfl) ?_ _
    rw [show (L.set k ({ x with orig := ⟨#[122, 122]⟩ } : Dev)).length = L.length by simp] at HOWwz
    go_wp2_with fail
    go_meet
    exact ⟨_, _, ((L.set k ({ x with orig := ⟨#[122, 122]⟩ } : Dev)).set k ({ x with orig := ⟨#[122, 122]⟩, nm := ⟨#[122, 122]⟩ } : Dev)), Lib.hid (CkMid.row HBwz.out twz.out HOWwz.out (by simp) (orig_set (orig_set HVO.out HZS.out.2) HZS.out.2))⟩
   ·
    clear h0 h2
    go_wp2_with fail
    go_meet
    exact ⟨_, _, L, Lib.hid (CkMid.row HBw12.out tw12.out HOWw12.out (rfl) (HVO.out))⟩
   ·
    clear h0 h2
    go_wp2_with fail
    go_meet
    exact ⟨_, _, L, Lib.hid (CkMid.row HBw12.out tw12.out HOWw12.out (rfl) (HVO.out))⟩
  ·
   have i1 : ¬ (0 : Int) < (L.length : Int) := by omega
   go_wp2_with fail
   go_meet
   exact ⟨AT, cT, L, Lib.hid ⟨HBw3.out, HXtw3.out, HIN3.out.out, HVO.out⟩⟩
 case rest =>
 obtain ⟨A', c', L', HCB⟩ := hcut
 obtain ⟨hb_, ht_, hs_, ho_⟩ := HCB.out
 obtain ⟨wk, hwk⟩ : ∃ z, z = wc := ⟨_, rfl⟩
 subst hwk
 have HBk := Lib.hid hb_; have HTk := Lib.hid ht_; have HSk := Lib.hid hs_; have HO' := Lib.hid ho_
 clear hb_ ht_ hs_ ho_ HCB
 clear ct0
 have HRk := Lib.hid (show Sl wk wk.heap.size Ar cr Lr from (HRAW.out.keep HBk.out).more HBk.out.size)
 obtain ⟨zr, hzr⟩ : ∃ z, chkAll Lr = z := ⟨_, rfl⟩
 obtain ⟨zx, hzx⟩ : ∃ z, chkAll L' = z := ⟨_, rfl⟩
 have HZR := Lib.hid hzr; have HZX := Lib.hid hzx; clear hzr hzx
 have er : (zr == zr) = true := by simp
 have ex : (zx == zx) = true := by simp
 go_upto_region 22 with fail
 refine wp_region_held_drew (S := fun w' => BoxL w' w2.heap.size [.slice A' L'.length c']) (by kernel_rfl) HTk.out.drew (fun hS0 => ?_)
 obtain ⟨wd, hwd⟩ : ∃ z, World.drew wk = z := ⟨_, rfl⟩
 rw [hwd] at hS0 ⊢
 have hb_ : Below wk.heap.size wk wd := by rw [← hwd]; exact below_drewN_self _ _ 1
 clear hwd hS0
 have HSwd := Lib.hid (show wk.heap.size ≤ wd.heap.size from hb_.size)
 have HBwd := Lib.hid (HBk.out.trans (hb_.mono HBk.out.size))
 have twd := Lib.hid (HTk.out.kept (grown_none hb_) (fun e => by cases e))
 have HSwd := Lib.hid (HSk.out.next (Nat.le_refl _) hb_)
 have HRwd := Lib.hid (HRk.out.next (Nat.le_refl _) hb_)
 clear hb_
 refine wpAnyH_take (i := 0) (oi := ⟨some 100, _, _, _, _, _⟩) (v := .slice Ar Lr.length cr) rfl (by kernel_rfl) (by kernel_rfl) (by kernel_rfl) (fun _ _ _ h => h) (Or.inl ⟨by rfl, fun w' hS => by go_simp⟩) twd.out ?_
 try simp only [Act.put, List.setIfInBounds_toArray, List.set_cons_zero, List.set_cons_succ]
 refine wpAnyH_take (i := 1) (oi := ⟨some 101, _, _, _, _, _⟩) (v := .agg #[.slice Ar Lr.length cr]) rfl (by kernel_rfl) (by kernel_rfl) (by kernel_rfl) (fun _ _ _ h => h) (Or.inl ⟨by rfl, fun w' hS => by go_simp⟩) twd.out ?_
 try simp only [Act.put, List.setIfInBounds_toArray, List.set_cons_zero, List.set_cons_succ]
 refine wpAnyH_take (i := 3) (oi := ⟨some 103, _, _, _, _, _⟩) (v := .slice Ar Lr.length cr) rfl (by kernel_rfl) (by kernel_rfl) (by kernel_rfl) (fun _ _ _ h => h) (Or.inl ⟨by rfl, fun w' hS => by go_simp⟩) twd.out ?_
 try simp only [Act.put, List.setIfInBounds_toArray, List.set_cons_zero, List.set_cons_succ]
 refine wpAnyH_take (i := 4) (oi := ⟨some 104, _, _, _, _, _⟩) (v := .agg #[.slice Ar Lr.length cr]) rfl (by kernel_rfl) (by kernel_rfl) (by kernel_rfl) (fun _ _ _ h => h) (Or.inl ⟨by rfl, fun w' hS => by go_simp⟩) twd.out ?_
 try simp only [Act.put, List.setIfInBounds_toArray, List.set_cons_zero, List.set_cons_succ]
 refine wpAnyH_ready (rs := [2]) (by kernel_rfl) (by simp) ?_
 refine AllReadyH.cons (o := ⟨some 102, .call ⟨_, _, _⟩, _, _, _, _⟩) rfl (fun K hK => ?_) AllReadyH.nil
 go_simp
 go_at_call 16
 refine (TCheck_any Ar cr Lr wd _ (Nat.le_refl _) HRwd.out (fun d hd => by have := HRS.out d hd; omega) (HOK.out.next HBwd.out)).mono ?_
 rintro e' q61 ⟨rfl, hb_⟩
 have HSq61 := Lib.hid (show wd.heap.size ≤ q61.heap.size from hb_.size)
 have HBq61 := Lib.hid (HBwd.out.trans (hb_.mono HBwd.out.size))
 have tq61 := Lib.hid (twd.out.kept (grown_none hb_) (fun e => by cases e))
 have HSq61 := Lib.hid (HSwd.out.next (Nat.le_refl _) hb_)
 have HRq61 := Lib.hid (HRwd.out.next (Nat.le_refl _) hb_)
 rw [HZR.out]
 clear hb_
 refine hK.out _ _ tq61.out (fun _ => ?_)
 clear hK K
 try simp only [Act.put, List.setIfInBounds_toArray, List.set_cons_zero, List.set_cons_succ]
 refine wpAnyH_ready (rs := [5]) (by kernel_rfl) (by simp) ?_
 refine AllReadyH.cons (o := ⟨some 105, .call ⟨_, _, _⟩, _, _, _, _⟩) rfl (fun K hK => ?_) AllReadyH.nil
 go_simp
 go_at_call 17
 refine (RTCheck_any Ar cr Lr q61 _ (Nat.le_refl _) HRq61.out (HOK.out.next HBq61.out)).mono ?_
 rintro e' q62 ⟨rfl, hb_⟩
 have HSq62 := Lib.hid (show q61.heap.size ≤ q62.heap.size from hb_.size)
 have HBq62 := Lib.hid (HBq61.out.trans (hb_.mono HBq61.out.size))
 have tq62 := Lib.hid (tq61.out.kept (grown_none hb_) (fun e => by cases e))
 have HSq62 := Lib.hid (HSq61.out.next (Nat.le_refl _) hb_)
 have HRq62 := Lib.hid (HRq61.out.next (Nat.le_refl _) hb_)
 rw [HZR.out]
 clear hb_
 refine hK.out _ _ tq62.out (fun _ => ?_)
 clear hK K
 try simp only [Act.put, List.setIfInBounds_toArray, List.set_cons_zero, List.set_cons_succ]
 refine wpAnyH_take (i := 6) (oi := ⟨some 106, _, _, _, _, _⟩) (v := .bool true) rfl (by kernel_rfl) (by kernel_rfl) (by kernel_rfl) (fun _ _ _ h => h) (Or.inl ⟨by rfl, fun w' hS => by go_simp⟩) tq62.out ?_
 try simp only [Act.put, List.setIfInBounds_toArray, List.set_cons_zero, List.set_cons_succ]
 refine wpAnyH_take (i := 7) (oi := ⟨some 107, _, _, _, _, _⟩) (v := .bool true) rfl (by kernel_rfl) (by kernel_rfl) (by kernel_rfl) (fun _ _ _ h => h) (Or.inl ⟨by rfl, fun w' hS => by go_simp⟩) tq62.out ?_
 try simp only [Act.put, List.setIfInBounds_toArray, List.set_cons_zero, List.set_cons_succ]
 refine wpAnyH_take (i := 8) (oi := ⟨some 108, _, _, _, _, _⟩) (v := .agg #[.slice A' L'.length c']) rfl (by kernel_rfl) (by kernel_rfl) (by kernel_rfl) (fun _ _ _ h => h) (Or.inl ⟨by rfl, fun w' hS => by (have u0_ := hS.1 0 _ rfl; go_simp)⟩) tq62.out ?_
 try simp only [Act.put, List.setIfInBounds_toArray, List.set_cons_zero, List.set_cons_succ]
 refine wpAnyH_take (i := 10) (oi := ⟨some 110, _, _, _, _, _⟩) (v := .agg #[.slice A' L'.length c']) rfl (by kernel_rfl) (by kernel_rfl) (by kernel_rfl) (fun _ _ _ h => h) (Or.inl ⟨by rfl, fun w' hS => by (have u0_ := hS.1 0 _ rfl; go_simp)⟩) tq62.out ?_
 try simp only [Act.put, List.setIfInBounds_toArray, List.set_cons_zero, List.set_cons_succ]
 refine wpAnyH_ready (rs := [9]) (by kernel_rfl) (by simp) ?_
 refine AllReadyH.cons (o := ⟨some 109, .call ⟨_, _, _⟩, _, _, _, _⟩) rfl (fun K hK => ?_) AllReadyH.nil
 go_simp
 go_at_call 16
 refine (TCheck_any A' c' L' q62 _ (Nat.le_refl _) HSq62.out HO'.out (HOK.out.next HBq62.out)).mono ?_
 rintro e' q63 ⟨rfl, hb_⟩
 have HSq63 := Lib.hid (show q62.heap.size ≤ q63.heap.size from hb_.size)
 have HBq63 := Lib.hid (HBq62.out.trans (hb_.mono HBq62.out.size))
 have tq63 := Lib.hid (tq62.out.kept (grown_none hb_) (fun e => by cases e))
 have HSq63 := Lib.hid (HSq62.out.next (Nat.le_refl _) hb_)
 have HRq63 := Lib.hid (HRq62.out.next (Nat.le_refl _) hb_)
 rw [HZX.out]
 clear hb_
 refine hK.out _ _ tq63.out (fun _ => ?_)
 clear hK K
 try simp only [Act.put, List.setIfInBounds_toArray, List.set_cons_zero, List.set_cons_succ]
 refine wpAnyH_ready (rs := [11]) (by kernel_rfl) (by simp) ?_
 refine AllReadyH.cons (o := ⟨some 111, .call ⟨_, _, _⟩, _, _, _, _⟩) rfl (fun K hK => ?_) AllReadyH.nil
 go_simp
 go_at_call 17
 refine (RTCheck_any A' c' L' q63 _ (Nat.le_refl _) HSq63.out (HOK.out.next HBq63.out)).mono ?_
 rintro e' q64 ⟨rfl, hb_⟩
 have HSq64 := Lib.hid (show q63.heap.size ≤ q64.heap.size from hb_.size)
 have HBq64 := Lib.hid (HBq63.out.trans (hb_.mono HBq63.out.size))
 have tq64 := Lib.hid (tq63.out.kept (grown_none hb_) (fun e => by cases e))
 have HSq64 := Lib.hid (HSq63.out.next (Nat.le_refl _) hb_)
 have HRq64 := Lib.hid (HRq63.out.next (Nat.le_refl _) hb_)
 rw [HZX.out]
 clear hb_
 refine hK.out _ _ tq64.out (fun _ => ?_)
 clear hK K
 try simp only [Act.put, List.setIfInBounds_toArray, List.set_cons_zero, List.set_cons_succ]
 refine wpAnyH_take (i := 12) (oi := ⟨some 112, _, _, _, _, _⟩) (v := .bool true) rfl (by kernel_rfl) (by kernel_rfl) (by kernel_rfl) (fun _ _ _ h => h) (Or.inl ⟨by rfl, fun w' hS => by go_simp⟩) tq64.out ?_
 try simp only [Act.put, List.setIfInBounds_toArray, List.set_cons_zero, List.set_cons_succ]
 refine wpAnyH_take (i := 13) (oi := ⟨some 113, _, _, _, _, _⟩) (v := .bool true) rfl (by kernel_rfl) (by kernel_rfl) (by kernel_rfl) (fun _ _ _ h => h) (Or.inl ⟨by rfl, fun w' hS => by go_simp⟩) tq64.out ?_
 try simp only [Act.put, List.setIfInBounds_toArray, List.set_cons_zero, List.set_cons_succ]
 refine wpAnyH_take (i := 14) (oi := ⟨some 114, _, _, _, _, _⟩) (v := .bool true) rfl (by kernel_rfl) (by kernel_rfl) (by kernel_rfl) (fun _ _ _ h => h) (Or.inl ⟨by rfl, fun w' hS => by go_simp⟩) tq64.out ?_
 try simp only [Act.put, List.setIfInBounds_toArray, List.set_cons_zero, List.set_cons_succ]
 refine wpAnyH_ready (rs := [15]) (by kernel_rfl) (by simp) ?_
 refine AllReadyH.cons (o := ⟨some 115, .call ⟨_, _, _⟩, _, _, _, _⟩) rfl (fun K hK => ?_) AllReadyH.nil
 go_simp
 go_at_call 12
 refine (known_any q64 (HOK.out.next HBq64.out)).mono ?_
 rintro e' q65 ⟨rfl, hb_⟩
 have HSq65 := Lib.hid (show q64.heap.size ≤ q65.heap.size from hb_.size)
 have HBq65 := Lib.hid (HBq64.out.trans (hb_.mono HBq64.out.size))
 have tq65 := Lib.hid (tq64.out.kept (grown_none hb_) (fun e => by cases e))
 have HSq65 := Lib.hid (HSq64.out.next (Nat.le_refl _) hb_)
 have HRq65 := Lib.hid (HRq64.out.next (Nat.le_refl _) hb_)
 clear hb_
 refine hK.out _ _ tq65.out (fun _ => ?_)
 clear hK K
 try simp only [Act.put, List.setIfInBounds_toArray, List.set_cons_zero, List.set_cons_succ]
 refine wpAnyH_take (i := 16) (oi := ⟨some 116, _, _, _, _, _⟩) (v := .bool true) rfl (by kernel_rfl) (by kernel_rfl) (by kernel_rfl) (fun _ _ _ h => h) (Or.inl ⟨by rfl, fun w' hS => by go_simp⟩) tq65.out ?_
 try simp only [Act.put, List.setIfInBounds_toArray, List.set_cons_zero, List.set_cons_succ]
 refine wpAnyH_take (i := 17) (oi := ⟨some 4, _, _, _, _, _⟩) (v := .bool true) rfl (by kernel_rfl) (by kernel_rfl) (by kernel_rfl) (fun _ _ _ h => h) (Or.inl ⟨by rfl, fun w' hS => by go_simp⟩) tq65.out ?_
 try simp only [Act.put, List.setIfInBounds_toArray, List.set_cons_zero, List.set_cons_succ]
 refine wpAnyH_done (by kernel_rfl) ?_ _
 go_wp2
 go_ret
 exact ⟨by try rfl, HBq65.out⟩
end Go.Proofs.YtidhbckalcjdpaaGreatDoor
namespace Go.Proofs.YtidhbckalcjdpaaGreatDoor
open Go.RowKit Go.Cold
namespace cTreeChecks
open Go.ChangeShapes Go.WideShapes Go.ChangeAt
open Go.ChangeMaps (open_string)
set_option maxRecDepth 100000
theorem reads (os : Os) {H : Type} (enc : TypeId × Value → H) : ∃ places, DataW.whole enc Tryz.prog ((World.laidAll Tryz.prog os Rows.treeChecksUptoRow.laid).forCall (fun _ _ => 0) ⟨#[], #[.slice none 0 0, .slice none 0 0], []⟩).memory Tryz.f3.params.toList Rows.treeChecksSpec.vars false (#[.slice none 0 0, .slice none 0 0] : Array Value).toList 8 = some ([.nil, .nil], [], places) :=
 ⟨[], by kernel_rfl⟩
theorem lifted (os : Os) (started : os.Started) (H : Type) (enc : TypeId × Value → H) (F : Stop.Interp) :
  ReturnsInHanded {} Tryz.checked os 3 .any ((Rows.OpenSpec.upto Rows.treeChecksSpec).preRow enc Tryz.prog Tryz.f3 Rows.treeChecksUptoRow.domain false Rows.treeChecksUptoRow.laid) (((Rows.OpenSpec.upto Rows.treeChecksSpec).at F).post enc Tryz.prog Tryz.f3 false true false false) := by
 obtain ⟨places, hx⟩ := reads os enc
 refine law_lifted_upto os started H enc F (by kernel_rfl) Tryz.func3 #[.slice none 0 0, .slice none 0 0] (World.shaped_of_ZipB (by kernel_rfl) (by kernel_rfl)) (by kernel_rfl)
  (OpenSpec.preRow_of_cond 8 hx (by kernel_rfl) (fun k hk => by obtain rfl := (Option.some.inj hk); rfl) (by kernel_rfl) (laidMet_laidAll _ (by kernel_rfl) (by kernel_rfl))) rfl rfl
  (fun ds hl => by
   rw [Tryz.params3] at hl
   match ds, hl with
   | [d0, d1], _ => rfl) (by kernel_rfl) ?_
 intro W base args ds ps hval hA hlt hz hsh hlaid hup
 rw [Tryz.params3] at hA hval
 obtain ⟨v0, vs0, d0, ds0, p0, q0, hargs, rfl, rfl, h0, r0⟩ := trodAll_cons hA
 obtain ⟨v1, vs1, d1, ds1, p1, q1, rfl, rfl, rfl, h1, r1⟩ := trodAll_cons r0
 obtain ⟨rfl, rfl, rfl⟩ := trodAll_nil r1
 obtain rfl : args = #[v0, v1] := by cases args; simp_all
 obtain ⟨A0, c0, xs0, rfl, s0, n0⟩ := open_devsU (hval 0 22 v0 rfl rfl) h0
 obtain ⟨A1, c1, xs1, rfl, s1⟩ := open_nums Tryz.underlying23 Tryz.underlying3 (by kernel_rfl) (hval 1 23 v1 rfl rfl) h1 (fun x hx => hlt x (List.mem_append_right _ (List.mem_append_left _ hx)))
 exact lawChecks_any A0 c0 xs0 A1 c1 xs1 W (show Ok W from Tryz.laysM146.s1_3 W hsh) s0 s1 (fun D hD => by have h := hup; have h2 := n0 D hD; simp only [Rows.uptoBulkAll] at h; omega)
theorem said : Rows.TreeChecksUptoSaid :=
 OpenClaim.holds_of_cond 3 Tryz.f3 rfl rfl rfl rfl rfl rfl rfl ⟨rfl, rfl, rfl, rfl, rfl⟩ rfl rfl rfl rfl rfl (by kernel_rfl) Tryz.func3 (by kernel_rfl)
  (of_decide_eq_true (by kernel_rfl)) (by unfold Func.isWrapper; first | (rw [if_pos (by decide +kernel)]; kernel_rfl) | (rw [if_neg (by decide +kernel)]; exact ⟨rfl, rfl⟩))
  (fun os started H enc _ F => by rw [OpenClaim.pre_eq_preRow]; exact lifted os started H enc F)
theorem plain (f : FuncId) (fn : Func) (hf : Tryz.pinned.checked.prog.funcNamed Rows.treeChecksUptoRow.func = some f) (hfn : Tryz.pinned.checked.prog.funcs[f]? = some fn) :
  false = Tryz.pinned.checked.prog.looks [] ∧ ∀ (j : Nat) t, fn.params[j]? = some t → Tryz.pinned.checked.prog.wantsStandIn t = false := by
 obtain rfl : f = 3 := Option.some.inj ((show Tryz.prog.funcNamed Rows.treeChecksUptoRow.func = some 3 by kernel_rfl).symm.trans hf) |>.symm
 obtain rfl : fn = Tryz.f3 := (Option.some.inj (Tryz.func3.symm.trans hfn)).symm
 refine ⟨by kernel_rfl, fun j t ht => ?_⟩
 rw [Tryz.params3] at ht
 have hm : t ∈ [22, 23] := by simpa using Array.mem_of_getElem? ht
 have hall : ([22, 23].all fun u => !Tryz.prog.wantsStandIn u) = true := by kernel_rfl
 exact (show Tryz.prog.wantsStandIn t = false by simpa using List.all_eq_true.1 hall t hm)
/-- The card. -/
theorem card : Rows.TreeChecksUptoCardSaid :=
 Claim7.holds_tied_plain_at .later [] _ _ _ _ said (fun _ h => by cases h) (by kernel_rfl) (fun _ h => by cases h) treeChecksUpto_row_tie rfl ⟨rfl, rfl⟩ (by kernel_rfl) rfl plain (by kernel_rfl)
end cTreeChecks
end Go.Proofs.YtidhbckalcjdpaaGreatDoor
