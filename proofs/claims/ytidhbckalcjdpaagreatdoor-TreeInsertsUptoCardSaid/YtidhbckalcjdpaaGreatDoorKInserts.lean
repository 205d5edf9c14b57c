/-
  TreeInserts, where what it reads is of a bounded bulk: row and card.
 Conditions: those of the given row and card (the listed variables of the library hold what the text lays), nothing else.
-/
import Derived.Test.YtidhbckalcjdpaaGreatDoorHU
import Derived.Test.YtidhbckalcjdpaaGreatDoorHT
import Derived.Test.YtidhbckalcjdpaaGreatDoorHY
import Derived.Test.YtidhbckalcjdpaaGreatDoorHM
import Derived.Test.YtidhbckalcjdpaaGreatDoorHX
import Derived.ShutString
set_option linter.unusedSimpArgs false
set_option linter.unusedVariables false
namespace Go.Cold
open Go Go.RowKit
/-- The tape's block and the list's. -/
def iN (b gl x : Nat) : Prop := x = b ∨ x = gl
theorem BoxL.oldI {w w' : World} {g B : Nat} {l : List Value} (h : BoxL w g l) (hb : Below B w w') (hlt : g < B) : BoxL w' g l := by
 have hh := hb.block g hlt
 exact ⟨fun j v hv => (cell_heap hh j).trans (h.1 j v hv), fun j => (frozen_heap hh j).trans (h.2.1 j), Nat.lt_of_lt_of_le h.2.2 hb.size⟩
theorem FreeS.oldI {α : Type} [RepS α] {N : Nat → Prop} {w w' : World} {B c : Nat} {A : Option Addr} {l : List α} (h : Sl w B A c l) (hb : Below B w w') (hB : B ≤ w.heap.size) (hN : ∀ x, x < B → ¬ N x) : FreeS N w' A c l :=
 SlS.mono (fun x (hx : x < B) => ⟨by have := hb.size; omega, hN x hx⟩) (fun _ _ _ _ hu => hu) (SlS_iff.1 (h.keep hb))
theorem two_devsI {w : World} {g : Nat} {D d2 : Dev} {A2 A4 : Option Addr} {c2 c4 : Nat} (h : BoxL w g (devCells D A2 c2 ++ devCells d2 A4 c4)) : DIn w g (0 * 10) D A2 c2 ∧ DIn w g (1 * 10) d2 A4 c4 :=
 ⟨⟨⟨h.1 0 _ rfl, h.1 1 _ rfl, h.1 2 _ rfl, h.1 3 _ rfl, h.1 4 _ rfl, h.1 5 _ rfl, h.1 6 _ rfl, h.1 7 _ rfl, h.1 8 _ rfl, h.1 9 _ rfl⟩, h.2.2⟩, ⟨⟨h.1 10 _ rfl, h.1 11 _ rfl, h.1 12 _ rfl, h.1 13 _ rfl, h.1 14 _ rfl, h.1 15 _ rfl, h.1 16 _ rfl, h.1 17 _ rfl, h.1 18 _ rfl, h.1 19 _ rfl⟩, h.2.2⟩⟩
/-- Where the law stands behind a change of the made device. -/
def InsMid (w : World) (gt gl : Nat) (AT : Option Addr) (cT : Nat) (L : List Dev) (xs : List Int) (D : Dev) (A2 : Option Addr) (c2 : Nat) (d2 : Dev) (A4 : Option Addr) (c4 k : Nat) (wx : World) : Prop :=
 Below w.heap.size w wx ∧ TapeAt wx w.heap.size w.heap.size xs k ∧ BoxL wx gt [.slice AT L.length cT] ∧ BoxL wx gl (devCells D A2 c2 ++ devCells d2 A4 c4) ∧ FreeS (iN w.heap.size gl) wx AT cT L ∧ FreeS (iN w.heap.size gl) wx A4 c4 d2.attrs ∧ devOk d2 ∧ d2.orig.size ≤ 1048576
end Go.Cold
namespace Go.Proofs.YtidhbckalcjdpaaGreatDoor
open Go.RowKit Go.Cold
set_option maxHeartbeats 2000000 in
set_option maxRecDepth 100000 in
theorem lawInserts_any (A : Option Addr) (c : Nat) (xs : List Int) (D : Dev) (A2 : Option Addr) (c2 : Nat) (wi : World) (hok0 : Ok wi) (hx0 : Sl wi wi.heap.size A c xs) (hD : devOk D) (hA2 : Sl wi wi.heap.size A2 c2 D.attrs) (hsd : D.orig.size ≤ 1048576) : Calls Tryz.prog 4 #[.slice A xs.length c, .agg #[.int .i64 D.idx, .int .i64 D.par, .string D.nm, .string D.orig, .string D.sub, .string D.drv, .string D.ali, .int .i64 D.kind, .int .i64 D.num, .slice A2 D.attrs.length c2]] wi fun e w' => e = .returned (.bool true) ∧ Below wi.heap.size wi w' := by
 have HDO := Lib.hid hD; have HX0 := Lib.hid hx0; have HA0 := Lib.hid hA2; have HOK0 := Lib.hid hok0; have HSD := Lib.hid hsd; clear hD hx0 hA2 hok0 hsd
 go_enter Tryz.func4, Tryz.ntmps4
 go_upto_region 1 with fail
 obtain ⟨w, hw⟩ : ∃ z, wi.alloc (.cells #[.int .i64 D.idx, .int .i64 D.par, .string D.nm, .string D.orig, .string D.sub, .string D.drv, .string D.ali, .int .i64 D.kind, .int .i64 D.num, .slice A2 D.attrs.length c2] 34) = z := ⟨_, rfl⟩
 have hbi : Below wi.heap.size wi w := by rw [← hw]; exact (Below.refl _ _).alloc (Nat.le_refl _) _
 have HGI := Lib.hid (show w.heap.size = wi.heap.size + 1 by rw [← hw]; simp)
 have HRAW := Lib.hid (show BoxL w wi.heap.size [.int .i64 D.idx, .int .i64 D.par, .string D.nm, .string D.orig, .string D.sub, .string D.drv, .string D.ali, .int .i64 D.kind, .int .i64 D.num, .slice A2 D.attrs.length c2] from box_mk hw)
 simp only [hw]
 have HBI := Lib.hid hbi
 have HOK := Lib.hid (HOK0.out.next hbi)
 have HX := Lib.hid (show Sl w w.heap.size A c xs from (HX0.out.keep hbi).more hbi.size)
 have HA := Lib.hid (show Sl w w.heap.size A2 c2 D.attrs from (HA0.out.keep hbi).more hbi.size)
 clear hw hbi HX0 HA0 HOK0
 go_upto_region 2 with fail
 have htape := tape_new HX.out
 have HNG := Lib.hid (notG_of HOK.out)
 obtain ⟨w1, hw1⟩ : ∃ z, w.alloc (.cells #[.slice A xs.length c, .int .i64 0] 27) = z := ⟨_, rfl⟩
 rw [hw1] at htape
 have hb1 : Below w.heap.size w w1 := by rw [← hw1]; exact (Below.refl _ _).alloc (Nat.le_refl _) _
 have HGw1 := Lib.hid (show w1.heap.size = w.heap.size + 1 by rw [← hw1]; simp)
 try simp only [hw1]
 have HTAPE := Lib.hid htape
 clear hw1 htape
 have HSw1 := Lib.hid (show w.heap.size ≤ w1.heap.size from hb1.size)
 have HBw1 := Lib.hid hb1
 clear hb1
 go_wp2_with fail
 refine (Tree_any xs 0 w.heap.size w.heap.size 9 w1 (by decide) HTAPE.out ⟨by decide, by decide⟩ (HOK.out.next HBw1.out) HNG.out).mono ?_
 rintro e w2 ⟨AT, cT, L, k1, rfl, hvt, hln, hsl, hk1, htp, hg2⟩
 have hb2 : Below w.heap.size w w2 := below_of_grown HBw1.out hg2 HBw1.out.size (Nat.le_refl _)
 have HSB2 := Lib.hid (show w1.heap.size ≤ w2.heap.size from hg2.size)
 have hx1 := hsl.1; have hx2 := hsl.2.1
 unfold maxLen at hx2
 have hin : TreeIn w2 w.heap.size (fun x => w1.heap.size ≤ x ∧ x < w2.heap.size) AT cT L := ⟨hsl, fun x hx => by have := HGw1.out; omega, fun x hx => hx.2⟩
 have HVT := Lib.hid hvt; have HLN := Lib.hid (show L.length ≤ 9 by omega); have HIN := Lib.hid hin; have HK1 := Lib.hid hk1; have HTP := Lib.hid htp
 clear HTAPE hvt hln hsl hk1 htp hg2 hin
 have HBw2 := Lib.hid hb2
 clear hb2
 go_upto_region 3 with fail
 obtain ⟨w3, hw3⟩ : ∃ w3, w2.alloc (.cells #[.slice AT L.length cT] 29) = w3 := ⟨_, rfl⟩
 have hbw3 : Below w2.heap.size w2 w3 := by rw [← hw3]; exact (Below.refl _ _).alloc (Nat.le_refl _) _
 have HGw3 := Lib.hid (show w3.heap.size = w2.heap.size + 1 by rw [← hw3]; simp)
 have HXtw3 := Lib.hid (show BoxL w3 w2.heap.size [.slice AT L.length cT] from box_mk hw3)
 try simp only [hw3]
 have HSTEPw3 := Lib.hid hbw3
 have HSw3 := Lib.hid (show w2.heap.size ≤ w3.heap.size from hbw3.size)
 have HBw3 := Lib.hid (HBw2.out.trans (hbw3.mono HBw2.out.size))
 clear hw3 hbw3
 try rw [show w2.heap.size + 1 = w3.heap.size from HGw3.out.symm]
 have HIN3 := Lib.hid (show TreeIn w3 w.heap.size (fun x => w1.heap.size ≤ x ∧ x < w2.heap.size) AT cT L from ⟨HIN.out.sl.below (HSTEPw3.out) (fun x hx => hx.2), HIN.out.ne, fun x hx => by have := HGw3.out; have := hx.2; omega⟩)
 have HTP3 := Lib.hid (HTP.out.kept (grown_none HSTEPw3.out) (fun e => by cases e) (fun g e => by cases e))
 clear HIN HTP
 have ct0 := HXtw3.out.1 0 _ rfl
 clear ct0
 have HZT := Lib.hid ((zero_of_info (P := Tryz.prog) (t := 29) info_tree2).1)
 have HXF := Lib.hid (show FreeS (fun x => x = w.heap.size) w3 AT cT L from HIN3.out.sl.free (fun x hx => ⟨HIN3.out.lt x hx, fun h => HIN3.out.ne x hx h⟩))
 have HRW3 := Lib.hid (HRAW.out.oldI HBw3.out (by have := HGI.out; omega))
 have HGT := Lib.hid (show w.heap.size < w2.heap.size ∧ wi.heap.size < w.heap.size by have := HGw1.out; have := HSB2.out; have := HGI.out; omega)
 go_upto_region 3 with fail
 refine wp_region_held_drew (S := fun w' => BoxL w' w2.heap.size [.slice AT L.length cT] ∧ BoxL w' wi.heap.size [.int .i64 D.idx, .int .i64 D.par, .string D.nm, .string D.orig, .string D.sub, .string D.drv, .string D.ali, .int .i64 D.kind, .int .i64 D.num, .slice A2 D.attrs.length c2]) (by kernel_rfl) ⟨HXtw3.out.drew, HRW3.out.drew⟩ (fun hS0 => ?_)
 obtain ⟨wd, hwd⟩ : ∃ z, World.drew w3 = z := ⟨_, rfl⟩
 rw [hwd] at hS0 ⊢
 have hb_ : Below w3.heap.size w3 wd := by rw [← hwd]; exact below_drewN_self _ _ 1
 clear hwd hS0
 have HSwd := Lib.hid (show w3.heap.size ≤ wd.heap.size from hb_.size)
 have HBwd := Lib.hid (HBw3.out.trans (hb_.mono HBw3.out.size))
 have twd := Lib.hid (HXtw3.out.kept (grown_none hb_) (fun e => by cases e))
 have rawwd := Lib.hid (HRW3.out.kept (grown_none hb_) (fun e => by cases e))
 have HTPwd := Lib.hid (HTP3.out.kept (grown_none hb_) (fun e => by cases e) (fun g e => by cases e))
 have HXFwd := Lib.hid (HXF.out.below hb_)
 clear hb_
 refine wpAnyH_take (i := 0) (oi := ⟨some 19, _, _, _, _, _⟩) (v := .agg #[.int .i64 D.idx, .int .i64 D.par, .string D.nm, .string D.orig, .string D.sub, .string D.drv, .string D.ali, .int .i64 D.kind, .int .i64 D.num, .slice A2 D.attrs.length c2]) rfl (by kernel_rfl) (by kernel_rfl) (by kernel_rfl) (fun _ _ _ h => h) (Or.inl ⟨by rfl, fun w' hS => by (have u0 := hS.2.1 0 _ rfl; have u1 := hS.2.1 1 _ rfl; have u2 := hS.2.1 2 _ rfl; have u3 := hS.2.1 3 _ rfl; have u4 := hS.2.1 4 _ rfl; have u5 := hS.2.1 5 _ rfl; have u6 := hS.2.1 6 _ rfl; have u7 := hS.2.1 7 _ rfl; have u8 := hS.2.1 8 _ rfl; have u9 := hS.2.1 9 _ rfl; go_simp)⟩) ⟨twd.out, rawwd.out⟩ ?_
 try simp only [Act.put, List.setIfInBounds_toArray, List.set_cons_zero, List.set_cons_succ]
 refine wpAnyH_take (i := 1) (oi := ⟨some 20, _, _, _, _, _⟩) (v := .pointer (some ⟨w.heap.size, 0, none⟩)) rfl (by kernel_rfl) (by kernel_rfl) (by kernel_rfl) (fun _ _ _ h => h) (Or.inl ⟨by rfl, fun w' hS => by go_simp⟩) ⟨twd.out, rawwd.out⟩ ?_
 try simp only [Act.put, List.setIfInBounds_toArray, List.set_cons_zero, List.set_cons_succ]
 refine wpAnyH_take (i := 2) (oi := ⟨some 21, _, _, _, _, _⟩) (v := .agg #[.slice AT L.length cT]) rfl (by kernel_rfl) (by kernel_rfl) (by kernel_rfl) (fun _ _ _ h => h) (Or.inl ⟨by rfl, fun w' hS => by (have u0_ := hS.1.1 0 _ rfl; go_simp)⟩) ⟨twd.out, rawwd.out⟩ ?_
 try simp only [Act.put, List.setIfInBounds_toArray, List.set_cons_zero, List.set_cons_succ]
 have HNLT := Lib.hid (show w.heap.size < wd.heap.size by have := HGT.out; have := twd.out.2.2; omega)
 refine wpAnyH_ready (rs := [3]) (by kernel_rfl) (by simp) ?_
 refine AllReadyH.cons (o := ⟨some 22, .call ⟨_, _, _⟩, _, _, _, _⟩) rfl (fun K hK => ?_) AllReadyH.nil
 go_simp
 go_at_call 15
 refine (Device_any xs k1 w.heap.size w.heap.size AT cT L _ wd (by have := HK1.out; omega) HTPwd.out ⟨HXFwd.out, fun x hx h => hx.2 h, fun x hx => hx.1⟩ (fun d hd => (HVT.out.small d hd).2) (by have := HLN.out; omega)).mono ?_
 rintro e' wq ⟨d, A4, c4, k2, rfl, hfew_, hsl_, hk2_, ht_, hg_⟩
 have HBwq := Lib.hid (HBwd.out.grown hg_ HBwd.out.size (fun q hq => by have := Option.some.inj hq; omega))
 have HTPwq := Lib.hid ht_
 have twq := Lib.hid (twd.out.kept hg_ (fun e => by have := Option.some.inj e; have := HGT.out; omega))
 have rawwq := Lib.hid (rawwd.out.kept hg_ (fun e => by have := Option.some.inj e; have := HGT.out; omega))
 have HXFwq := Lib.hid (HXFwd.out.grown hg_ (.inl rfl))
 have HFEW := Lib.hid hfew_; have HDA := Lib.hid (show FreeS (fun x => x = w.heap.size) wq A4 c4 d.attrs from hsl_.free (fun x hx => ⟨hx.2, fun h => by have := HNLT.out; have := hx.1; omega⟩)); have HK2 := Lib.hid (show k2 ≤ 2000 by have := HK1.out; omega); clear hfew_ hsl_ HNLT hk2_
 clear hg_ ht_
 refine hK.out _ _ ⟨twq.out, rawwq.out⟩ (fun _ => ?_)
 clear hK K
 try simp only [Act.put, List.setIfInBounds_toArray, List.set_cons_zero, List.set_cons_succ]
 have HTLT := Lib.hid (show w2.heap.size < wq.heap.size ∧ wi.heap.size < wq.heap.size from ⟨twq.out.2.2, rawwq.out.2.2⟩)
 have HXFwql := Lib.hid (show FreeS (iN w.heap.size wq.heap.size) wq _ _ _ from HXFwq.out.more (fun x hx h => by rcases h with h | h; exact h; omega))
 have HDAwql := Lib.hid (show FreeS (iN w.heap.size wq.heap.size) wq _ _ _ from HDA.out.more (fun x hx h => by rcases h with h | h; exact h; omega))
 refine wpAnyH_ready (rs := [4]) (by kernel_rfl) (by simp) ?_
 refine AllReadyH.cons (o := ⟨some 23, .buildSlice _ _ _, _, _, _, _⟩) rfl (fun K hK => ?_) AllReadyH.nil
 go_simp
 obtain ⟨q4, hq4⟩ : ∃ z, wq.alloc (.cells #[.int .i64 D.idx, .int .i64 D.par, .string D.nm, .string D.orig, .string D.sub, .string D.drv, .string D.ali, .int .i64 D.kind, .int .i64 D.num, .slice A2 D.attrs.length c2, .int .i64 d.idx, .int .i64 d.par, .string d.nm, .string d.orig, .string d.sub, .string d.drv, .string d.ali, .int .i64 d.kind, .int .i64 d.num, .slice A4 d.attrs.length c4] 34) = z := ⟨_, rfl⟩
 have hb_ : Below wq.heap.size wq q4 := by rw [← hq4]; exact (Below.refl _ _).alloc (Nat.le_refl _) _
 have HXlq4 := Lib.hid (show BoxL q4 wq.heap.size [.int .i64 D.idx, .int .i64 D.par, .string D.nm, .string D.orig, .string D.sub, .string D.drv, .string D.ali, .int .i64 D.kind, .int .i64 D.num, .slice A2 D.attrs.length c2, .int .i64 d.idx, .int .i64 d.par, .string d.nm, .string d.orig, .string d.sub, .string d.drv, .string d.ali, .int .i64 d.kind, .int .i64 d.num, .slice A4 d.attrs.length c4] from box_mk hq4)
 try rw [hq4]
 clear hq4
 have HSq4 := Lib.hid (show wq.heap.size ≤ q4.heap.size from hb_.size)
 have HBq4 := Lib.hid (HBwq.out.trans (hb_.mono HBwq.out.size))
 have tq4 := Lib.hid (twq.out.kept (grown_none hb_) (fun e => by cases e))
 have rawq4 := Lib.hid (rawwq.out.kept (grown_none hb_) (fun e => by cases e))
 have HTPq4 := Lib.hid (HTPwq.out.kept (grown_none hb_) (fun e => by cases e) (fun g e => by cases e))
 have HXFq4 := Lib.hid (HXFwql.out.below hb_)
 have HDAq4 := Lib.hid (HDAwql.out.below hb_)
 clear hb_
 refine hK.out _ _ ⟨tq4.out, rawq4.out⟩ (fun _ => ?_)
 clear hK K
 try simp only [Act.put, List.setIfInBounds_toArray, List.set_cons_zero, List.set_cons_succ]
 refine wpAnyH_take (i := 5) (oi := ⟨some 7, _, _, _, _, _⟩) (v := .slice (some ⟨wq.heap.size, 0, none⟩) 2 2) rfl (by kernel_rfl) (by kernel_rfl) (by kernel_rfl) (fun _ _ _ h => h) (Or.inl ⟨by rfl, fun w' hS => by go_simp⟩) ⟨tq4.out, rawq4.out⟩ ?_
 try simp only [Act.put, List.setIfInBounds_toArray, List.set_cons_zero, List.set_cons_succ]
 refine wpAnyH_done (by kernel_rfl) ?_ _
 have HGL := Lib.hid (show w.heap.size < w2.heap.size ∧ w2.heap.size < wq.heap.size ∧ wi.heap.size < w.heap.size ∧ w.heap.size < wq.heap.size from by have := HGT.out; have := HTLT.out; omega)
 have HLB := Lib.hid (show BoxL q4 wq.heap.size (devCells D A2 c2 ++ devCells d A4 c4) from HXlq4.out)
 have HDD := Lib.hid (show devOk d from HFEW.out.ok); have HSS := Lib.hid (show d.orig.size ≤ 1048576 by have := HFEW.out.2.2.2.1; omega)
 go_wp2_with fail
 refine (Next_lit 4 xs k2 w.heap.size w.heap.size _ (by have := HK2.out; omega) HTPq4.out (by omega) (by omega)).mono ?_
 rintro e wad ⟨m, h0, h2, rfl, ht_, hg_⟩
 have HBwad := Lib.hid (HBq4.out.grown hg_ HBq4.out.size (fun q hq => by have := Option.some.inj hq; omega))
 have HTPwad := Lib.hid ht_
 have twad := Lib.hid (tq4.out.kept hg_ (fun e => by have := Option.some.inj e; have := HGL.out; omega))
 have lwad := Lib.hid (HLB.out.kept hg_ (fun e => by have := Option.some.inj e; have := HGL.out; omega))
 have HXFwad := Lib.hid (HXFq4.out.grown hg_ (.inl (.inl rfl)))
 have HDAwad := Lib.hid (HDAq4.out.grown hg_ (.inl (.inl rfl)))
 clear ht_ hg_ h2
 go_upto_if 26 with fail
 go_cut [] (fun wx => ∃ (d2 : Dev) (k' : Nat), Hid (k' ≤ k2 + 2 ∧ InsMid w w2.heap.size wq.heap.size AT cT L xs D A2 c2 d2 A4 c4 k' wx))
 case first =>
  by_cases hm : m = 0
  ·
   subst hm
   go_wp2_with fail
   refine (Next_lit 10 xs (k2 + 1) w.heap.size w.heap.size _ (by have := HK2.out; omega) HTPwad.out (by omega) (by omega)).mono ?_
   rintro e wb ⟨m2, h3, h4, rfl, ht_, hg_⟩
   have HBwb := Lib.hid (HBwad.out.grown hg_ HBwad.out.size (fun q hq => by have := Option.some.inj hq; omega))
   have HTPwb := Lib.hid ht_
   have twb := Lib.hid (twad.out.kept hg_ (fun e => by have := Option.some.inj e; have := HGL.out; omega))
   have lwb := Lib.hid (lwad.out.kept hg_ (fun e => by have := Option.some.inj e; have := HGL.out; omega))
   have HXFwb := Lib.hid (HXFwad.out.grown hg_ (.inl (.inl rfl)))
   have HDAwb := Lib.hid (HDAwad.out.grown hg_ (.inl (.inl rfl)))
   clear ht_ hg_
   have cl_ := lwb.out.1 10 _ rfl; have clf := lwb.out.2.1
   have hwr : IntKind.i64.wrap (1 + m2) = 1 + m2 := by rw [IntKind.wrap_i64]; omega
   go_wp2_with fail
   clear cl_ clf
   have hgs := grown_one wb wq.heap.size 10 (.int .i64 (1 + m2))
   have hbx_ := lwb.out.set_ (j := 10) (by first | (simp; done) | (simp [devCells]; done)) (.int .i64 (1 + m2))
   obtain ⟨wz, hwz⟩ : ∃ z, wb.setCell ⟨wq.heap.size, 10, none⟩ (.int .i64 (1 + m2)) = z := ⟨_, rfl⟩
   rw [hwz] at hgs hbx_ ⊢
   clear hwz
   have lwz := Lib.hid hbx_
   have HBwz := Lib.hid (HBwb.out.grown hgs HBwb.out.size (fun q hq => by have := Option.some.inj hq; have := HGL.out; omega))
   have twz := Lib.hid (twb.out.kept hgs (fun e => by have := Option.some.inj e; have := HGL.out; omega))
   have HTPwz := Lib.hid (HTPwb.out.kept hgs (fun e => by have := Option.some.inj e; have := HGL.out; omega) (fun q e => by have := Option.some.inj e; have := HGL.out; omega))
   have HXFwz := Lib.hid (HXFwb.out.grown hgs (.inl (.inr rfl)))
   have HDAwz := Lib.hid (HDAwb.out.grown hgs (.inl (.inr rfl)))
   clear hgs hbx_
   have HLz := Lib.hid (show BoxL wz wq.heap.size (devCells D A2 c2 ++ devCells ({ d with idx := 1 + m2 } : Dev) A4 c4) from lwz.out)
   have HZO := Lib.hid (show okI (1 + m2) by unfold okI; omega)
   have HDz := Lib.hid (show devOk ({ d with idx := 1 + m2 } : Dev) from ⟨HZO.out, HDD.out.2⟩)
   go_meet
   exact ⟨({ d with idx := 1 + m2 } : Dev), _, Lib.hid ⟨Nat.le_refl _, HBwz.out, HTPwz.out, twz.out, HLz.out, HXFwz.out, HDAwz.out, HDz.out, HSS.out⟩⟩
  ·
   have em : (m == 0) = false := by simpa using hm
   go_wp2_with fail
   go_meet
   exact ⟨d, _, Lib.hid ⟨Nat.le_succ _, HBwad.out, HTPwad.out, twad.out, lwad.out, HXFwad.out, HDAwad.out, HDD.out, HSS.out⟩⟩
 case rest =>
 obtain ⟨d5, k5, HCB⟩ := hcut
 obtain ⟨hk_, hb_, htp_, ht_, hl_, hx_, hda_, hok2, hs2⟩ := HCB.out
 obtain ⟨wkd5, hwk⟩ : ∃ z, z = wc := ⟨_, rfl⟩
 subst hwk
 clear HDD HSS h0
 have HK2 := Lib.hid (show k5 ≤ 2010 by have := HK2.out; omega); have HBwkd5 := Lib.hid hb_; have HTPwkd5 := Lib.hid htp_; have HTwkd5 := Lib.hid ht_; have HLwkd5 := Lib.hid hl_; have HXwkd5 := Lib.hid hx_; have HDAwkd5 := Lib.hid hda_; have HDD := Lib.hid hok2; have HSS := Lib.hid hs2
 clear hk_ hb_ htp_ ht_ hl_ hx_ hda_ hok2 hs2 HCB
 go_wp2_with fail
 refine (Next_lit 6 xs k5 w.heap.size w.heap.size _ (by have := HK2.out; omega) HTPwkd5.out (by omega) (by omega)).mono ?_
 rintro e wad5 ⟨m, h0, h2, rfl, ht_, hg_⟩
 have HBwad5 := Lib.hid (HBwkd5.out.grown hg_ HBwkd5.out.size (fun q hq => by have := Option.some.inj hq; omega))
 have HTPwad5 := Lib.hid ht_
 have twad5 := Lib.hid (HTwkd5.out.kept hg_ (fun e => by have := Option.some.inj e; have := HGL.out; omega))
 have lwad5 := Lib.hid (HLwkd5.out.kept hg_ (fun e => by have := Option.some.inj e; have := HGL.out; omega))
 have HXFwad5 := Lib.hid (HXwkd5.out.grown hg_ (.inl (.inl rfl)))
 have HDAwad5 := Lib.hid (HDAwkd5.out.grown hg_ (.inl (.inl rfl)))
 clear ht_ hg_ h2
 go_upto_if 35 with fail
 go_cut [] (fun wx => ∃ (d2 : Dev) (k' : Nat), Hid (k' ≤ k5 + 2 ∧ InsMid w w2.heap.size wq.heap.size AT cT L xs D A2 c2 d2 A4 c4 k' wx))
 case first =>
  by_cases hm : m = 0
  ·
   subst hm
   go_wp2_with fail
   refine (Next_lit 12 xs (k5 + 1) w.heap.size w.heap.size _ (by have := HK2.out; omega) HTPwad5.out (by omega) (by omega)).mono ?_
   rintro e wb ⟨m2, h3, h4, rfl, ht_, hg_⟩
   have HBwb := Lib.hid (HBwad5.out.grown hg_ HBwad5.out.size (fun q hq => by have := Option.some.inj hq; omega))
   have HTPwb := Lib.hid ht_
   have twb := Lib.hid (twad5.out.kept hg_ (fun e => by have := Option.some.inj e; have := HGL.out; omega))
   have lwb := Lib.hid (lwad5.out.kept hg_ (fun e => by have := Option.some.inj e; have := HGL.out; omega))
   have HXFwb := Lib.hid (HXFwad5.out.grown hg_ (.inl (.inl rfl)))
   have HDAwb := Lib.hid (HDAwad5.out.grown hg_ (.inl (.inl rfl)))
   clear ht_ hg_
   have cl_ := lwb.out.1 11 _ rfl; have clf := lwb.out.2.1
   go_wp2_with fail
   clear cl_ clf
   have hgs := grown_one wb wq.heap.size 11 (.int .i64 m2)
   have hbx_ := lwb.out.set_ (j := 11) (by first | (simp; done) | (simp [devCells]; done)) (.int .i64 m2)
   obtain ⟨wz, hwz⟩ : ∃ z, wb.setCell ⟨wq.heap.size, 11, none⟩ (.int .i64 m2) = z := ⟨_, rfl⟩
   rw [hwz] at hgs hbx_ ⊢
   clear hwz
   have lwz := Lib.hid hbx_
   have HBwz := Lib.hid (HBwb.out.grown hgs HBwb.out.size (fun q hq => by have := Option.some.inj hq; have := HGL.out; omega))
   have twz := Lib.hid (twb.out.kept hgs (fun e => by have := Option.some.inj e; have := HGL.out; omega))
   have HTPwz := Lib.hid (HTPwb.out.kept hgs (fun e => by have := Option.some.inj e; have := HGL.out; omega) (fun q e => by have := Option.some.inj e; have := HGL.out; omega))
   have HXFwz := Lib.hid (HXFwb.out.grown hgs (.inl (.inr rfl)))
   have HDAwz := Lib.hid (HDAwb.out.grown hgs (.inl (.inr rfl)))
   clear hgs hbx_
   have HLz := Lib.hid (show BoxL wz wq.heap.size (devCells D A2 c2 ++ devCells ({ d5 with par := m2 } : Dev) A4 c4) from lwz.out)
   have HZO := Lib.hid (show okI (m2) by unfold okI; omega)
   have HDz := Lib.hid (show devOk ({ d5 with par := m2 } : Dev) from ⟨HDD.out.1, HZO.out, HDD.out.2.2⟩)
   go_meet
   exact ⟨({ d5 with par := m2 } : Dev), _, Lib.hid ⟨Nat.le_refl _, HBwz.out, HTPwz.out, twz.out, HLz.out, HXFwz.out, HDAwz.out, HDz.out, HSS.out⟩⟩
  ·
   have em : (m == 0) = false := by simpa using hm
   go_wp2_with fail
   go_meet
   exact ⟨d5, _, Lib.hid ⟨Nat.le_succ _, HBwad5.out, HTPwad5.out, twad5.out, lwad5.out, HXFwad5.out, HDAwad5.out, HDD.out, HSS.out⟩⟩
 case rest =>
 obtain ⟨d7, k7, HCB⟩ := hcut
 obtain ⟨hk_, hb_, htp_, ht_, hl_, hx_, hda_, hok2, hs2⟩ := HCB.out
 obtain ⟨wkd7, hwk⟩ : ∃ z, z = wc := ⟨_, rfl⟩
 subst hwk
 clear HDD HSS h0
 have HK2 := Lib.hid (show k7 ≤ 2020 by have := HK2.out; omega); have HBwkd7 := Lib.hid hb_; have HTPwkd7 := Lib.hid htp_; have HTwkd7 := Lib.hid ht_; have HLwkd7 := Lib.hid hl_; have HXwkd7 := Lib.hid hx_; have HDAwkd7 := Lib.hid hda_; have HDD := Lib.hid hok2; have HSS := Lib.hid hs2
 clear hk_ hb_ htp_ ht_ hl_ hx_ hda_ hok2 hs2 HCB
 have ct0 := HTwkd7.out.1 0 _ rfl
 have HS8 := Lib.hid (show SlS wkd7 (fun b => (fun x => x < wkd7.heap.size ∧ ¬ (iN w.heap.size wq.heap.size) x) b ∧ b < wkd7.heap.size ∧ (.slice none 0 0 : Value).ownBlock ≠ some b) AT cT L from SlS.mono (fun x hx => ⟨hx, hx.1, fun h => by cases h⟩) (fun _ _ _ _ hu => hu) HXwkd7.out)
 go_upto_region 9 with (at_builtin; go_must (refine wpList_app rfl _ _ rfl (.slice none 0 0) (.slice AT L.length cT) rfl rfl (run_appL E_dev _ (.slice none 0 0) ([] : List Dev) (OwnsS.nil_ (fun x => x < wkd7.heap.size ∧ ¬ (iN w.heap.size wq.heap.size) x) wkd7 wkd7.heap.size _) AT cT L (.inl HS8.out) (by have := HLN.out; simp only [List.length_nil]; unfold maxLen; omega) (by have := HLN.out; simp only [List.length_nil]; omega) (Nat.le_refl _)) ?_); intro v1 w80 h_; obtain ⟨hown_, hg_, hnew_⟩ := h_; rw [List.nil_append] at hown_; have HG9 := Lib.hid (below_own (Below.refl wkd7.heap.size wkd7) hg_ (Nat.le_refl _) (fun k hk => by cases hk)); obtain ⟨A9, c9, hv_, hsl_⟩ := hown_.sl; subst hv_; have hl9 := hsl_.1; have hl10 := hsl_.2.1; unfold maxLen at hl10; have HWAS := Lib.hid hsl_; clear hown_ hg_ hnew_ hsl_)
 clear ct0
 have hb80 := HG9.out
 have HSw80 := Lib.hid (show wkd7.heap.size ≤ w80.heap.size from hb80.size)
 have HBw80 := Lib.hid (HBwkd7.out.trans (hb80.mono HBwkd7.out.size))
 have tw80 := Lib.hid (HTwkd7.out.kept (grown_none hb80) (fun e => by cases e))
 have lw80 := Lib.hid (HLwkd7.out.kept (grown_none hb80) (fun e => by cases e))
 have HTPw80 := Lib.hid (HTPwkd7.out.kept (grown_none hb80) (fun e => by cases e) (fun g e => by cases e))
 have HXFw80 := Lib.hid (HXwkd7.out.below hb80)
 have HDAw80 := Lib.hid (HDAwkd7.out.below hb80)
 clear hb80
 obtain ⟨w81, hw81⟩ : ∃ w81, w80.alloc (.cells #[.slice A9 L.length c9] 29) = w81 := ⟨_, rfl⟩
 have hbw81 : Below w80.heap.size w80 w81 := by rw [← hw81]; exact (Below.refl _ _).alloc (Nat.le_refl _) _
 have HGw81 := Lib.hid (show w81.heap.size = w80.heap.size + 1 by rw [← hw81]; simp)
 have HXwasw81 := Lib.hid (show BoxL w81 w80.heap.size [.slice A9 L.length c9] from box_mk hw81)
 try simp only [hw81]
 have HSTEPw81 := Lib.hid hbw81
 have HSw81 := Lib.hid (show w80.heap.size ≤ w81.heap.size from hbw81.size)
 have HBw81 := Lib.hid (HBw80.out.trans (hbw81.mono HBw80.out.size))
 have tw81 := Lib.hid (tw80.out.kept (grown_none hbw81) (fun e => by cases e))
 have lw81 := Lib.hid (lw80.out.kept (grown_none hbw81) (fun e => by cases e))
 have HXFw81 := Lib.hid (HXFw80.out.below hbw81)
 have HDAw81 := Lib.hid (HDAw80.out.below hbw81)
 have HWASw81 := Lib.hid (HWAS.out.next (Nat.le_refl _) hbw81)
 clear hw81 hbw81
 try rw [show w80.heap.size + 1 = w81.heap.size from HGw81.out.symm]
 have HRA := Lib.hid (show FreeS (iN w.heap.size wq.heap.size) w81 A2 c2 D.attrs from FreeS.oldI HA.out HBw81.out (Nat.le_refl _) (fun x hx h => by have := HGL.out; rcases h with h | h <;> omega))
 go_wp2_with fail
 go_loopw [9] (fun i wr => ∃ k : Nat, k ≤ 2 ∧ i = .int .i64 k ∧ Hid (Below w81.heap.size w81 wr)) (fun i _ => 2 - (intOf i).toNat)
 case atStart => exact ⟨0, by omega, rfl, Lib.hid (Below.refl _ _)⟩
 case round =>
  obtain ⟨k, hk, rfl, HBR⟩ := hrel
  have hbr := HBR.out
  have HSwr := Lib.hid (show w81.heap.size ≤ wr.heap.size from hbr.size)
  have HBwr := Lib.hid (HBw81.out.trans (hbr.mono HBw81.out.size))
  have twr := Lib.hid (tw81.out.kept (grown_none hbr) (fun e => by cases e))
  have lwr := Lib.hid (lw81.out.kept (grown_none hbr) (fun e => by cases e))
  have waswr := Lib.hid (HXwasw81.out.kept (grown_none hbr) (fun e => by cases e))
  have HXFwr := Lib.hid (HXFw81.out.below hbr)
  have HDAwr := Lib.hid (HDAw81.out.below hbr)
  have HWASwr := Lib.hid (HWASw81.out.next (Nat.le_refl _) hbr)
  have HRAwr := Lib.hid (HRA.out.below hbr)
  clear hbr
  by_cases hlt : k < 2
  ·
   have i3 : (k : Int) < 2 := by omega
   obtain ⟨e, Ae, ce, hde, hoke, hse, hfe⟩ : ∃ (e : Dev) (Ae : Option Addr) (ce : Nat), DIn wr wq.heap.size (k * 10) e Ae ce ∧ devOk e ∧ e.orig.size ≤ 1048576 ∧ FreeS (iN w.heap.size wq.heap.size) wr Ae ce e.attrs := by
    obtain ⟨q1, q2⟩ := two_devsI lwr.out
    rcases (show k = 0 ∨ k = 1 by omega) with rfl | rfl
    · exact ⟨D, A2, c2, q1, HDO.out, HSD.out, HRAwr.out⟩
    · exact ⟨d7, A4, c4, q2, HDD.out, HSS.out, HDAwr.out⟩
   have HDE := Lib.hid hde; have HOE := Lib.hid hoke; have HFE := Lib.hid hfe; have HSE := Lib.hid hse
   clear hde hoke hfe hse
   have HW := Lib.hid (Below.refl wr.heap.size wr)
   obtain ⟨z2, hz⟩ : ∃ z, insE L e = z := ⟨_, rfl⟩
   obtain ⟨l2, hl⟩ : ∃ z, insR L e = z := ⟨_, rfl⟩
   have HZ2 := Lib.hid hz; have HLZ2 := Lib.hid hl; clear hz hl
   go_upto_region 12 with fail
   go_cut [10, 11] (fun s10 s11 wx => ∃ (g10 : Nat) (A8 : Option Addr) (c8 : Nat), s10 = .pointer (some ⟨g10, 0, none⟩) ∧ s11 = .int .i64 z2 ∧ Hid (Below wr.heap.size wr wx ∧ BoxL wx g10 [.slice A8 l2.length c8] ∧ Sl wx wx.heap.size A8 c8 l2))
   case first =>
    have HV := Lib.hid (Below.refl wr.heap.size wr)
    have hzt := HZT.out
    have HLT2 := Lib.hid (show w2.heap.size < wr.heap.size ∧ wq.heap.size < wr.heap.size from ⟨twr.out.2.2, HDE.out.2⟩)
    refine wp_region_held_drew (S := fun w' => BoxL w' w2.heap.size [.slice AT L.length cT] ∧ DIn w' wq.heap.size (k * 10) e Ae ce) (by kernel_rfl) ⟨twr.out.drew, HDE.out.drew⟩ (fun hS0 => ?_)
    obtain ⟨wd12, hwd12⟩ : ∃ z, World.drew wr = z := ⟨_, rfl⟩
    rw [hwd12] at hS0 ⊢
    have hb_ : Below wr.heap.size wr wd12 := by rw [← hwd12]; exact below_drewN_self _ _ 1
    clear hwd12 hS0
    have HSwd12 := Lib.hid (show wr.heap.size ≤ wd12.heap.size from hb_.size)
    have HBwd12 := Lib.hid (HBwr.out.trans (hb_.mono HBwr.out.size))
    have twd12 := Lib.hid (twr.out.kept (grown_none hb_) (fun e => by cases e))
    have lwd12 := Lib.hid (lwr.out.kept (grown_none hb_) (fun e => by cases e))
    have waswd12 := Lib.hid (waswr.out.kept (grown_none hb_) (fun e => by cases e))
    have HXFwd12 := Lib.hid (HXFwr.out.below hb_)
    have HDAwd12 := Lib.hid (HDAwr.out.below hb_)
    have HWASwd12 := Lib.hid (HWASwr.out.next (Nat.le_refl _) hb_)
    have HRAwd12 := Lib.hid (HRAwr.out.below hb_)
    have HDEwd12 := Lib.hid (HDE.out.below hb_)
    have HFEwd12 := Lib.hid (HFE.out.below hb_)
    have HWwd12 := Lib.hid (below_next HW.out hb_)
    have HVwd12 := Lib.hid (below_next HV.out hb_)
    clear hb_
    refine wpAnyH_take (i := 0) (oi := ⟨some 52, _, _, _, _, _⟩) (v := .agg #[.slice AT L.length cT]) rfl (by kernel_rfl) (by kernel_rfl) (by kernel_rfl) (fun _ _ _ h => h) (Or.inl ⟨by rfl, fun w' hS => by (have u0_ := hS.1.1 0 _ rfl; go_simp)⟩) ⟨twd12.out, HDEwd12.out⟩ ?_
    try simp only [Act.put, List.setIfInBounds_toArray, List.set_cons_zero, List.set_cons_succ]
    refine wpAnyH_take (i := 1) (oi := ⟨some 53, _, _, _, _, _⟩) (v := .slice (some ⟨wq.heap.size, 0, none⟩) 2 2) rfl (by kernel_rfl) (by kernel_rfl) (by kernel_rfl) (fun _ _ _ h => h) (Or.inl ⟨by rfl, fun w' hS => by go_simp⟩) ⟨twd12.out, HDEwd12.out⟩ ?_
    try simp only [Act.put, List.setIfInBounds_toArray, List.set_cons_zero, List.set_cons_succ]
    refine wpAnyH_take (i := 2) (oi := ⟨some 54, _, _, _, _, _⟩) (v := .int .i64 k) rfl (by kernel_rfl) (by kernel_rfl) (by kernel_rfl) (fun _ _ _ h => h) (Or.inl ⟨by rfl, fun w' hS => by go_simp⟩) ⟨twd12.out, HDEwd12.out⟩ ?_
    try simp only [Act.put, List.setIfInBounds_toArray, List.set_cons_zero, List.set_cons_succ]
    refine wpAnyH_take (i := 3) (oi := ⟨some 55, _, _, _, _, _⟩) (v := .pointer (some ⟨wq.heap.size, k * 10, none⟩)) rfl (by kernel_rfl) (by kernel_rfl) (by kernel_rfl) (fun _ _ _ h => h) (Or.inl ⟨by rfl, fun w' hS => by go_simp⟩) ⟨twd12.out, HDEwd12.out⟩ ?_
    try simp only [Act.put, List.setIfInBounds_toArray, List.set_cons_zero, List.set_cons_succ]
    refine wpAnyH_take (i := 4) (oi := ⟨some 56, _, _, _, _, _⟩) (v := .agg #[.int .i64 e.idx, .int .i64 e.par, .string e.nm, .string e.orig, .string e.sub, .string e.drv, .string e.ali, .int .i64 e.kind, .int .i64 e.num, .slice Ae e.attrs.length ce]) rfl (by kernel_rfl) (by kernel_rfl) (by kernel_rfl) (fun _ _ _ h => h) (Or.inl ⟨by rfl, fun w' hS => by (obtain ⟨u0, u1, u2, u3, u4, u5, u6, u7, u8, u9⟩ := hS.2.1; go_simp)⟩) ⟨twd12.out, HDEwd12.out⟩ ?_
    try simp only [Act.put, List.setIfInBounds_toArray, List.set_cons_zero, List.set_cons_succ]
    refine wpAnyH_ready (rs := [5, 9]) (by kernel_rfl) (by simp) ?_
    refine AllReadyH.cons (o := ⟨some 57, .call ⟨_, _, _⟩, _, _, _, _⟩) rfl (fun K hK => ?_) (AllReadyH.cons (o := ⟨some 10, .alloc _, _, _, _, _⟩) rfl (fun K hK => ?_) (AllReadyH.nil))
    ·
     have hcc := Insert_any AT cT L e Ae ce wd12 _ (Nat.le_refl _) HXFwd12.out.out HOE.out HFEwd12.out.out (by have := HSE.out; omega) HVT.out (HOK.out.next HBwd12.out)
     skip
     rw [HZ2.out, HLZ2.out] at hcc
     have HCC := Lib.hid hcc; clear hcc
     go_simp
     go_at_call 18
     refine Calls.mono HCC.out ?_
     rintro e' q12a ⟨hb_, v, rfl, hown_⟩
     clear HCC
     have HSq12a := Lib.hid (show wd12.heap.size ≤ q12a.heap.size from hb_.size)
     have HBq12a := Lib.hid (HBwd12.out.trans (hb_.mono HBwd12.out.size))
     have tq12a := Lib.hid (twd12.out.kept (grown_none hb_) (fun e => by cases e))
     have lq12a := Lib.hid (lwd12.out.kept (grown_none hb_) (fun e => by cases e))
     have wasq12a := Lib.hid (waswd12.out.kept (grown_none hb_) (fun e => by cases e))
     have HXFq12a := Lib.hid (HXFwd12.out.below hb_)
     have HDAq12a := Lib.hid (HDAwd12.out.below hb_)
     have HWASq12a := Lib.hid (HWASwd12.out.next (Nat.le_refl _) hb_)
     have HRAq12a := Lib.hid (HRAwd12.out.below hb_)
     have HDEq12a := Lib.hid (HDEwd12.out.below hb_)
     have HFEq12a := Lib.hid (HFEwd12.out.below hb_)
     have HWq12a := Lib.hid (below_next HWwd12.out hb_)
     have HVq12a := Lib.hid (below_next HVwd12.out hb_)
     obtain ⟨A8, c8, rfl, hfr_⟩ := hown_.free (N := (fun _ : Nat => False)) (fun x hx => hx.elim)
     have HFN := Lib.hid hfr_; clear hown_ hfr_ hb_
     refine hK.out _ _ ⟨tq12a.out, HDEq12a.out⟩ (fun _ => ?_)
     clear hK K
     try simp only [Act.put, List.setIfInBounds_toArray, List.set_cons_zero, List.set_cons_succ]
     refine wpAnyH_take (i := 6) (oi := ⟨some 51, _, _, _, _, _⟩) (v := .tuple #[.agg #[.slice A8 l2.length c8], .int .i64 z2]) rfl (by kernel_rfl) (by kernel_rfl) (by kernel_rfl) (fun _ _ _ h => h) (Or.inl ⟨by rfl, fun w' hS => by go_simp⟩) ⟨tq12a.out, HDEq12a.out⟩ ?_
     try simp only [Act.put, List.setIfInBounds_toArray, List.set_cons_zero, List.set_cons_succ]
     refine wpAnyH_take (i := 7) (oi := ⟨some 58, _, _, _, _, _⟩) (v := .agg #[.slice A8 l2.length c8]) rfl (by kernel_rfl) (by kernel_rfl) (by kernel_rfl) (fun _ _ _ h => h) (Or.inl ⟨by rfl, fun w' hS => by go_simp⟩) ⟨tq12a.out, HDEq12a.out⟩ ?_
     try simp only [Act.put, List.setIfInBounds_toArray, List.set_cons_zero, List.set_cons_succ]
     refine wpAnyH_take (i := 8) (oi := ⟨some 59, _, _, _, _, _⟩) (v := .int .i64 z2) rfl (by kernel_rfl) (by kernel_rfl) (by kernel_rfl) (fun _ _ _ h => h) (Or.inl ⟨by rfl, fun w' hS => by go_simp⟩) ⟨tq12a.out, HDEq12a.out⟩ ?_
     try simp only [Act.put, List.setIfInBounds_toArray, List.set_cons_zero, List.set_cons_succ]
     refine wpAnyH_ready (rs := [9]) (by kernel_rfl) (by simp) ?_
     refine AllReadyH.cons (o := ⟨some 10, .alloc _, _, _, _, _⟩) rfl (fun K hK => ?_) (AllReadyH.nil)
     have HFM := Lib.hid (HFN.out.more (N' := fun x => x = q12a.heap.size) (fun x hx h => by have h : x = q12a.heap.size := h; omega))
     go_simp
     obtain ⟨q82, hq82⟩ : ∃ z, q12a.alloc (.cells #[.slice none 0 0] 29) = z := ⟨_, rfl⟩
     have hb_ : Below q12a.heap.size q12a q82 := by rw [← hq82]; exact (Below.refl _ _).alloc (Nat.le_refl _) _
     have HXnq82 := Lib.hid (show BoxL q82 q12a.heap.size [.slice none 0 0] from box_mk hq82)
     try rw [hq82]
     clear hq82
     have HSq82 := Lib.hid (show q12a.heap.size ≤ q82.heap.size from hb_.size)
     have HBq82 := Lib.hid (HBq12a.out.trans (hb_.mono HBq12a.out.size))
     have tq82 := Lib.hid (tq12a.out.kept (grown_none hb_) (fun e => by cases e))
     have lq82 := Lib.hid (lq12a.out.kept (grown_none hb_) (fun e => by cases e))
     have wasq82 := Lib.hid (wasq12a.out.kept (grown_none hb_) (fun e => by cases e))
     have HXFq82 := Lib.hid (HXFq12a.out.below hb_)
     have HDAq82 := Lib.hid (HDAq12a.out.below hb_)
     have HWASq82 := Lib.hid (HWASq12a.out.next (Nat.le_refl _) hb_)
     have HRAq82 := Lib.hid (HRAq12a.out.below hb_)
     have HDEq82 := Lib.hid (HDEq12a.out.below hb_)
     have HFEq82 := Lib.hid (HFEq12a.out.below hb_)
     have HWq82 := Lib.hid (below_next HWq12a.out hb_)
     have HVq82 := Lib.hid (below_next HVq12a.out hb_)
     have HFNq82 := Lib.hid (HFM.out.below hb_)
     clear hb_
     refine hK.out _ _ ⟨tq82.out, HDEq82.out⟩ (fun _ => ?_)
     clear hK K
     try simp only [Act.put, List.setIfInBounds_toArray, List.set_cons_zero, List.set_cons_succ]
     have HNB := Lib.hid (show wr.heap.size ≤ q12a.heap.size from HVq12a.out.size)
     refine wpAnyH_ready (rs := [10]) (by kernel_rfl) (by simp) ?_
     refine AllReadyH.cons (o := ⟨none, .store _ _ _, _, _, _, _⟩) rfl (fun K hK => ?_) AllReadyH.nil
     have cn0 := HXnq82.out.1 0 _ rfl
     have cfn := HXnq82.out.2.1
     go_simp
     have hgs := grown_one q82 q12a.heap.size 0 (.slice A8 l2.length c8)
     have hnx_ := HXnq82.out.set_ (j := 0) (by simp) (.slice A8 l2.length c8)
     obtain ⟨wz, hwz⟩ : ∃ z, q82.setCell ⟨q12a.heap.size, 0, none⟩ (.slice A8 l2.length c8) = z := ⟨_, rfl⟩
     rw [hwz] at hgs hnx_ ⊢
     clear hwz cn0 cfn
     have HYz := Lib.hid (tq82.out.kept hgs (fun e => by have := Option.some.inj e; have := HLT2.out; have := HNB.out; omega)); have HDz := Lib.hid (HDEq82.out.grown hgs (by have := HLT2.out; have := HNB.out; omega))
     have HFz := Lib.hid ((HFNq82.out.grown hgs (.inl rfl)).out)
     have HCz := Lib.hid hnx_
     have HWz := Lib.hid (HVq82.out.grown hgs HVq82.out.size (fun q hq => by have := Option.some.inj hq; have := HNB.out; omega))
     clear hgs hnx_
     refine hK.out _ _ ⟨HYz.out, HDz.out⟩ (fun _ => ?_)
     clear hK K
     try simp only [Act.put, List.setIfInBounds_toArray, List.set_cons_zero, List.set_cons_succ]
     refine wpAnyH_take (i := 11) (oi := ⟨some 11, _, _, _, _, _⟩) (v := .int .i64 z2) rfl (by kernel_rfl) (by kernel_rfl) (by kernel_rfl) (fun _ _ _ h => h) (Or.inl ⟨by rfl, fun w' hS => by go_simp⟩) ⟨HYz.out, HDz.out⟩ ?_
     try simp only [Act.put, List.setIfInBounds_toArray, List.set_cons_zero, List.set_cons_succ]
     refine wpAnyH_done (by kernel_rfl) ?_ _
     go_wp2_with fail
     go_meet
     exact ⟨q12a.heap.size, A8, c8, rfl, rfl, Lib.hid ⟨HWz.out, HCz.out, HFz.out⟩⟩
    ·
     go_simp
     obtain ⟨q83, hq83⟩ : ∃ z, wd12.alloc (.cells #[.slice none 0 0] 29) = z := ⟨_, rfl⟩
     have hb_ : Below wd12.heap.size wd12 q83 := by rw [← hq83]; exact (Below.refl _ _).alloc (Nat.le_refl _) _
     have HXnq83 := Lib.hid (show BoxL q83 wd12.heap.size [.slice none 0 0] from box_mk hq83)
     try rw [hq83]
     clear hq83
     have HSq83 := Lib.hid (show wd12.heap.size ≤ q83.heap.size from hb_.size)
     have HBq83 := Lib.hid (HBwd12.out.trans (hb_.mono HBwd12.out.size))
     have tq83 := Lib.hid (twd12.out.kept (grown_none hb_) (fun e => by cases e))
     have lq83 := Lib.hid (lwd12.out.kept (grown_none hb_) (fun e => by cases e))
     have wasq83 := Lib.hid (waswd12.out.kept (grown_none hb_) (fun e => by cases e))
     have HXFq83 := Lib.hid (HXFwd12.out.below hb_)
     have HDAq83 := Lib.hid (HDAwd12.out.below hb_)
     have HWASq83 := Lib.hid (HWASwd12.out.next (Nat.le_refl _) hb_)
     have HRAq83 := Lib.hid (HRAwd12.out.below hb_)
     have HDEq83 := Lib.hid (HDEwd12.out.below hb_)
     have HFEq83 := Lib.hid (HFEwd12.out.below hb_)
     have HWq83 := Lib.hid (below_next HWwd12.out hb_)
     have HVq83 := Lib.hid (below_next HVwd12.out hb_)
     clear hb_
     refine hK.out _ _ ⟨tq83.out, HDEq83.out⟩ (fun _ => ?_)
     clear hK K
     try simp only [Act.put, List.setIfInBounds_toArray, List.set_cons_zero, List.set_cons_succ]
     refine wpAnyH_ready (rs := [5]) (by kernel_rfl) (by simp) ?_
     refine AllReadyH.cons (o := ⟨some 57, .call ⟨_, _, _⟩, _, _, _, _⟩) rfl (fun K hK => ?_) (AllReadyH.nil)
     have HNL := Lib.hid (show wd12.heap.size < q83.heap.size from HXnq83.out.2.2)
     have hcc := Insert_any AT cT L e Ae ce q83 _ (Nat.le_refl _) HXFq83.out.out HOE.out HFEq83.out.out (by have := HSE.out; omega) HVT.out (HOK.out.next HBq83.out)
     skip
     rw [HZ2.out, HLZ2.out] at hcc
     have HCC := Lib.hid hcc; clear hcc
     go_simp
     go_at_call 18
     refine Calls.mono HCC.out ?_
     rintro e' q12b ⟨hb_, v, rfl, hown_⟩
     clear HCC
     have HSq12b := Lib.hid (show q83.heap.size ≤ q12b.heap.size from hb_.size)
     have HBq12b := Lib.hid (HBq83.out.trans (hb_.mono HBq83.out.size))
     have tq12b := Lib.hid (tq83.out.kept (grown_none hb_) (fun e => by cases e))
     have lq12b := Lib.hid (lq83.out.kept (grown_none hb_) (fun e => by cases e))
     have wasq12b := Lib.hid (wasq83.out.kept (grown_none hb_) (fun e => by cases e))
     have nq12b := Lib.hid (HXnq83.out.kept (grown_none hb_) (fun e => by cases e))
     have HXFq12b := Lib.hid (HXFq83.out.below hb_)
     have HDAq12b := Lib.hid (HDAq83.out.below hb_)
     have HWASq12b := Lib.hid (HWASq83.out.next (Nat.le_refl _) hb_)
     have HRAq12b := Lib.hid (HRAq83.out.below hb_)
     have HDEq12b := Lib.hid (HDEq83.out.below hb_)
     have HFEq12b := Lib.hid (HFEq83.out.below hb_)
     have HWq12b := Lib.hid (below_next HWq83.out hb_)
     have HVq12b := Lib.hid (below_next HVq83.out hb_)
     obtain ⟨A8, c8, rfl, hfr_⟩ := hown_.free (N := (fun x => x = wd12.heap.size)) (fun x hx => ⟨by have h9 : x = wd12.heap.size := hx; have := HNL.out; omega, fun h => by have h8 : x = wd12.heap.size := hx; have h9 : q83.heap.size ≤ x := h; have := HNL.out; omega⟩)
     have HFN := Lib.hid hfr_; clear hown_ hfr_ hb_
     refine hK.out _ _ ⟨tq12b.out, HDEq12b.out⟩ (fun _ => ?_)
     clear hK K
     try simp only [Act.put, List.setIfInBounds_toArray, List.set_cons_zero, List.set_cons_succ]
     refine wpAnyH_take (i := 6) (oi := ⟨some 51, _, _, _, _, _⟩) (v := .tuple #[.agg #[.slice A8 l2.length c8], .int .i64 z2]) rfl (by kernel_rfl) (by kernel_rfl) (by kernel_rfl) (fun _ _ _ h => h) (Or.inl ⟨by rfl, fun w' hS => by go_simp⟩) ⟨tq12b.out, HDEq12b.out⟩ ?_
     try simp only [Act.put, List.setIfInBounds_toArray, List.set_cons_zero, List.set_cons_succ]
     refine wpAnyH_take (i := 7) (oi := ⟨some 58, _, _, _, _, _⟩) (v := .agg #[.slice A8 l2.length c8]) rfl (by kernel_rfl) (by kernel_rfl) (by kernel_rfl) (fun _ _ _ h => h) (Or.inl ⟨by rfl, fun w' hS => by go_simp⟩) ⟨tq12b.out, HDEq12b.out⟩ ?_
     try simp only [Act.put, List.setIfInBounds_toArray, List.set_cons_zero, List.set_cons_succ]
     refine wpAnyH_take (i := 8) (oi := ⟨some 59, _, _, _, _, _⟩) (v := .int .i64 z2) rfl (by kernel_rfl) (by kernel_rfl) (by kernel_rfl) (fun _ _ _ h => h) (Or.inl ⟨by rfl, fun w' hS => by go_simp⟩) ⟨tq12b.out, HDEq12b.out⟩ ?_
     try simp only [Act.put, List.setIfInBounds_toArray, List.set_cons_zero, List.set_cons_succ]
     have HNB := Lib.hid (show wr.heap.size ≤ wd12.heap.size from HVwd12.out.size)
     refine wpAnyH_ready (rs := [10]) (by kernel_rfl) (by simp) ?_
     refine AllReadyH.cons (o := ⟨none, .store _ _ _, _, _, _, _⟩) rfl (fun K hK => ?_) AllReadyH.nil
     have cn0 := nq12b.out.1 0 _ rfl
     have cfn := nq12b.out.2.1
     go_simp
     have hgs := grown_one q12b wd12.heap.size 0 (.slice A8 l2.length c8)
     have hnx_ := nq12b.out.set_ (j := 0) (by simp) (.slice A8 l2.length c8)
     obtain ⟨wz, hwz⟩ : ∃ z, q12b.setCell ⟨wd12.heap.size, 0, none⟩ (.slice A8 l2.length c8) = z := ⟨_, rfl⟩
     rw [hwz] at hgs hnx_ ⊢
     clear hwz cn0 cfn
     have HYz := Lib.hid (tq12b.out.kept hgs (fun e => by have := Option.some.inj e; have := HLT2.out; have := HNB.out; omega)); have HDz := Lib.hid (HDEq12b.out.grown hgs (by have := HLT2.out; have := HNB.out; omega))
     have HFz := Lib.hid ((HFN.out.grown hgs (.inl rfl)).out)
     have HCz := Lib.hid hnx_
     have HWz := Lib.hid (HVq12b.out.grown hgs HVq12b.out.size (fun q hq => by have := Option.some.inj hq; have := HNB.out; omega))
     clear hgs hnx_
     refine hK.out _ _ ⟨HYz.out, HDz.out⟩ (fun _ => ?_)
     clear hK K
     try simp only [Act.put, List.setIfInBounds_toArray, List.set_cons_zero, List.set_cons_succ]
     refine wpAnyH_take (i := 11) (oi := ⟨some 11, _, _, _, _, _⟩) (v := .int .i64 z2) rfl (by kernel_rfl) (by kernel_rfl) (by kernel_rfl) (fun _ _ _ h => h) (Or.inl ⟨by rfl, fun w' hS => by go_simp⟩) ⟨HYz.out, HDz.out⟩ ?_
     try simp only [Act.put, List.setIfInBounds_toArray, List.set_cons_zero, List.set_cons_succ]
     refine wpAnyH_done (by kernel_rfl) ?_ _
     go_wp2_with fail
     go_meet
     exact ⟨wd12.heap.size, A8, c8, rfl, rfl, Lib.hid ⟨HWz.out, HCz.out, HFz.out⟩⟩
   case rest =>
   obtain ⟨ga, A8, c8, rfl, rfl, HCB⟩ := hcut
   obtain ⟨hbk, hc10, hfn⟩ := HCB.out
   obtain ⟨wm12, hwm⟩ : ∃ z, z = wc := ⟨_, rfl⟩
   subst hwm
   have hln_ := hfn.1; have hln2_ := hfn.2.1
   unfold maxLen at hln2_
   have HRa := Lib.hid hfn; have HBXa := Lib.hid hc10; clear hfn hc10
   have HSwm12 := Lib.hid (show wr.heap.size ≤ wm12.heap.size from hbk.size)
   have HBwm12 := Lib.hid (HBwr.out.trans (hbk.mono HBwr.out.size))
   have twm12 := Lib.hid (twr.out.kept (grown_none hbk) (fun e => by cases e))
   have lwm12 := Lib.hid (lwr.out.kept (grown_none hbk) (fun e => by cases e))
   have waswm12 := Lib.hid (waswr.out.kept (grown_none hbk) (fun e => by cases e))
   have HXFwm12 := Lib.hid (HXFwr.out.below hbk)
   have HDAwm12 := Lib.hid (HDAwr.out.below hbk)
   have HWASwm12 := Lib.hid (HWASwr.out.next (Nat.le_refl _) hbk)
   have HRAwm12 := Lib.hid (HRAwr.out.below hbk)
   have HDEwm12 := Lib.hid (HDE.out.below hbk)
   have HFEwm12 := Lib.hid (HFE.out.below hbk)
   have HWwm12 := Lib.hid (below_next HW.out hbk)
   clear hbk HCB
   go_upto_region 13 with fail
   go_cut [12, 13] (fun s10 s11 wx => ∃ (g10 : Nat) (A7 : Option Addr) (c7 : Nat), s10 = .pointer (some ⟨g10, 0, none⟩) ∧ s11 = .int .i64 z2 ∧ Hid (Below wm12.heap.size wm12 wx ∧ BoxL wx g10 [.slice A7 l2.length c7] ∧ Sl wx wx.heap.size A7 c7 l2))
   case first =>
    have HV := Lib.hid (Below.refl wm12.heap.size wm12)
    have hzt := HZT.out
    have HLT2 := Lib.hid (show w2.heap.size < wm12.heap.size ∧ wq.heap.size < wm12.heap.size from ⟨twm12.out.2.2, HDEwm12.out.2⟩)
    refine wp_region_held_drew (S := fun w' => BoxL w' w2.heap.size [.slice AT L.length cT] ∧ DIn w' wq.heap.size (k * 10) e Ae ce) (by kernel_rfl) ⟨twm12.out.drew, HDEwm12.out.drew⟩ (fun hS0 => ?_)
    obtain ⟨wd13, hwd13⟩ : ∃ z, World.drew wm12 = z := ⟨_, rfl⟩
    rw [hwd13] at hS0 ⊢
    have hb_ : Below wm12.heap.size wm12 wd13 := by rw [← hwd13]; exact below_drewN_self _ _ 1
    clear hwd13 hS0
    have HSwd13 := Lib.hid (show wm12.heap.size ≤ wd13.heap.size from hb_.size)
    have HBwd13 := Lib.hid (HBwm12.out.trans (hb_.mono HBwm12.out.size))
    have twd13 := Lib.hid (twm12.out.kept (grown_none hb_) (fun e => by cases e))
    have lwd13 := Lib.hid (lwm12.out.kept (grown_none hb_) (fun e => by cases e))
    have waswd13 := Lib.hid (waswm12.out.kept (grown_none hb_) (fun e => by cases e))
    have awd13 := Lib.hid (HBXa.out.kept (grown_none hb_) (fun e => by cases e))
    have HXFwd13 := Lib.hid (HXFwm12.out.below hb_)
    have HDAwd13 := Lib.hid (HDAwm12.out.below hb_)
    have HWASwd13 := Lib.hid (HWASwm12.out.next (Nat.le_refl _) hb_)
    have HRAwd13 := Lib.hid (HRAwm12.out.below hb_)
    have HDEwd13 := Lib.hid (HDEwm12.out.below hb_)
    have HFEwd13 := Lib.hid (HFEwm12.out.below hb_)
    have HWwd13 := Lib.hid (below_next HWwm12.out hb_)
    have HRawd13 := Lib.hid (HRa.out.next (Nat.le_refl _) hb_)
    have HVwd13 := Lib.hid (below_next HV.out hb_)
    clear hb_
    refine wpAnyH_take (i := 0) (oi := ⟨some 61, _, _, _, _, _⟩) (v := .agg #[.slice AT L.length cT]) rfl (by kernel_rfl) (by kernel_rfl) (by kernel_rfl) (fun _ _ _ h => h) (Or.inl ⟨by rfl, fun w' hS => by (have u0_ := hS.1.1 0 _ rfl; go_simp)⟩) ⟨twd13.out, HDEwd13.out⟩ ?_
    try simp only [Act.put, List.setIfInBounds_toArray, List.set_cons_zero, List.set_cons_succ]
    refine wpAnyH_take (i := 1) (oi := ⟨some 62, _, _, _, _, _⟩) (v := .slice (some ⟨wq.heap.size, 0, none⟩) 2 2) rfl (by kernel_rfl) (by kernel_rfl) (by kernel_rfl) (fun _ _ _ h => h) (Or.inl ⟨by rfl, fun w' hS => by go_simp⟩) ⟨twd13.out, HDEwd13.out⟩ ?_
    try simp only [Act.put, List.setIfInBounds_toArray, List.set_cons_zero, List.set_cons_succ]
    refine wpAnyH_take (i := 2) (oi := ⟨some 63, _, _, _, _, _⟩) (v := .int .i64 k) rfl (by kernel_rfl) (by kernel_rfl) (by kernel_rfl) (fun _ _ _ h => h) (Or.inl ⟨by rfl, fun w' hS => by go_simp⟩) ⟨twd13.out, HDEwd13.out⟩ ?_
    try simp only [Act.put, List.setIfInBounds_toArray, List.set_cons_zero, List.set_cons_succ]
    refine wpAnyH_take (i := 3) (oi := ⟨some 64, _, _, _, _, _⟩) (v := .pointer (some ⟨wq.heap.size, k * 10, none⟩)) rfl (by kernel_rfl) (by kernel_rfl) (by kernel_rfl) (fun _ _ _ h => h) (Or.inl ⟨by rfl, fun w' hS => by go_simp⟩) ⟨twd13.out, HDEwd13.out⟩ ?_
    try simp only [Act.put, List.setIfInBounds_toArray, List.set_cons_zero, List.set_cons_succ]
    refine wpAnyH_take (i := 4) (oi := ⟨some 65, _, _, _, _, _⟩) (v := .agg #[.int .i64 e.idx, .int .i64 e.par, .string e.nm, .string e.orig, .string e.sub, .string e.drv, .string e.ali, .int .i64 e.kind, .int .i64 e.num, .slice Ae e.attrs.length ce]) rfl (by kernel_rfl) (by kernel_rfl) (by kernel_rfl) (fun _ _ _ h => h) (Or.inl ⟨by rfl, fun w' hS => by (obtain ⟨u0, u1, u2, u3, u4, u5, u6, u7, u8, u9⟩ := hS.2.1; go_simp)⟩) ⟨twd13.out, HDEwd13.out⟩ ?_
    try simp only [Act.put, List.setIfInBounds_toArray, List.set_cons_zero, List.set_cons_succ]
    refine wpAnyH_ready (rs := [5, 9]) (by kernel_rfl) (by simp) ?_
    refine AllReadyH.cons (o := ⟨some 66, .call ⟨_, _, _⟩, _, _, _, _⟩) rfl (fun K hK => ?_) (AllReadyH.cons (o := ⟨some 12, .alloc _, _, _, _, _⟩) rfl (fun K hK => ?_) (AllReadyH.nil))
    ·
     have hcc := RInsert_any AT cT L e Ae ce (fun x => x < wd13.heap.size ∧ ¬ (fun _ : Nat => False) x) wd13 (HXFwd13.out.more (fun _ _ h => h.elim)) (fun x hx => hx.1) HOE.out (HFEwd13.out.more (fun _ _ h => h.elim)) HVT.out (HOK.out.next HBwd13.out)
     unfold InsPost at hcc
     rw [HZ2.out, HLZ2.out] at hcc
     have HCC := Lib.hid hcc; clear hcc
     go_simp
     go_at_call 19
     refine Calls.mono HCC.out ?_
     rintro e' q13a ⟨hb_, v, rfl, hown_⟩
     clear HCC
     have HSq13a := Lib.hid (show wd13.heap.size ≤ q13a.heap.size from hb_.size)
     have HBq13a := Lib.hid (HBwd13.out.trans (hb_.mono HBwd13.out.size))
     have tq13a := Lib.hid (twd13.out.kept (grown_none hb_) (fun e => by cases e))
     have lq13a := Lib.hid (lwd13.out.kept (grown_none hb_) (fun e => by cases e))
     have wasq13a := Lib.hid (waswd13.out.kept (grown_none hb_) (fun e => by cases e))
     have aq13a := Lib.hid (awd13.out.kept (grown_none hb_) (fun e => by cases e))
     have HXFq13a := Lib.hid (HXFwd13.out.below hb_)
     have HDAq13a := Lib.hid (HDAwd13.out.below hb_)
     have HWASq13a := Lib.hid (HWASwd13.out.next (Nat.le_refl _) hb_)
     have HRAq13a := Lib.hid (HRAwd13.out.below hb_)
     have HDEq13a := Lib.hid (HDEwd13.out.below hb_)
     have HFEq13a := Lib.hid (HFEwd13.out.below hb_)
     have HWq13a := Lib.hid (below_next HWwd13.out hb_)
     have HRaq13a := Lib.hid (HRawd13.out.next (Nat.le_refl _) hb_)
     have HVq13a := Lib.hid (below_next HVwd13.out hb_)
     obtain ⟨A7, c7, rfl, hfr_⟩ := hown_.free (N := (fun _ : Nat => False)) (fun x hx => hx.elim)
     have HFN := Lib.hid hfr_; clear hown_ hfr_ hb_
     refine hK.out _ _ ⟨tq13a.out, HDEq13a.out⟩ (fun _ => ?_)
     clear hK K
     try simp only [Act.put, List.setIfInBounds_toArray, List.set_cons_zero, List.set_cons_succ]
     refine wpAnyH_take (i := 6) (oi := ⟨some 60, _, _, _, _, _⟩) (v := .tuple #[.agg #[.slice A7 l2.length c7], .int .i64 z2]) rfl (by kernel_rfl) (by kernel_rfl) (by kernel_rfl) (fun _ _ _ h => h) (Or.inl ⟨by rfl, fun w' hS => by go_simp⟩) ⟨tq13a.out, HDEq13a.out⟩ ?_
     try simp only [Act.put, List.setIfInBounds_toArray, List.set_cons_zero, List.set_cons_succ]
     refine wpAnyH_take (i := 7) (oi := ⟨some 67, _, _, _, _, _⟩) (v := .agg #[.slice A7 l2.length c7]) rfl (by kernel_rfl) (by kernel_rfl) (by kernel_rfl) (fun _ _ _ h => h) (Or.inl ⟨by rfl, fun w' hS => by go_simp⟩) ⟨tq13a.out, HDEq13a.out⟩ ?_
     try simp only [Act.put, List.setIfInBounds_toArray, List.set_cons_zero, List.set_cons_succ]
     refine wpAnyH_take (i := 8) (oi := ⟨some 68, _, _, _, _, _⟩) (v := .int .i64 z2) rfl (by kernel_rfl) (by kernel_rfl) (by kernel_rfl) (fun _ _ _ h => h) (Or.inl ⟨by rfl, fun w' hS => by go_simp⟩) ⟨tq13a.out, HDEq13a.out⟩ ?_
     try simp only [Act.put, List.setIfInBounds_toArray, List.set_cons_zero, List.set_cons_succ]
     refine wpAnyH_ready (rs := [9]) (by kernel_rfl) (by simp) ?_
     refine AllReadyH.cons (o := ⟨some 12, .alloc _, _, _, _, _⟩) rfl (fun K hK => ?_) (AllReadyH.nil)
     have HFM := Lib.hid (HFN.out.more (N' := fun x => x = q13a.heap.size) (fun x hx h => by have h : x = q13a.heap.size := h; omega))
     go_simp
     obtain ⟨q84, hq84⟩ : ∃ z, q13a.alloc (.cells #[.slice none 0 0] 29) = z := ⟨_, rfl⟩
     have hb_ : Below q13a.heap.size q13a q84 := by rw [← hq84]; exact (Below.refl _ _).alloc (Nat.le_refl _) _
     have HXnq84 := Lib.hid (show BoxL q84 q13a.heap.size [.slice none 0 0] from box_mk hq84)
     try rw [hq84]
     clear hq84
     have HSq84 := Lib.hid (show q13a.heap.size ≤ q84.heap.size from hb_.size)
     have HBq84 := Lib.hid (HBq13a.out.trans (hb_.mono HBq13a.out.size))
     have tq84 := Lib.hid (tq13a.out.kept (grown_none hb_) (fun e => by cases e))
     have lq84 := Lib.hid (lq13a.out.kept (grown_none hb_) (fun e => by cases e))
     have wasq84 := Lib.hid (wasq13a.out.kept (grown_none hb_) (fun e => by cases e))
     have aq84 := Lib.hid (aq13a.out.kept (grown_none hb_) (fun e => by cases e))
     have HXFq84 := Lib.hid (HXFq13a.out.below hb_)
     have HDAq84 := Lib.hid (HDAq13a.out.below hb_)
     have HWASq84 := Lib.hid (HWASq13a.out.next (Nat.le_refl _) hb_)
     have HRAq84 := Lib.hid (HRAq13a.out.below hb_)
     have HDEq84 := Lib.hid (HDEq13a.out.below hb_)
     have HFEq84 := Lib.hid (HFEq13a.out.below hb_)
     have HWq84 := Lib.hid (below_next HWq13a.out hb_)
     have HRaq84 := Lib.hid (HRaq13a.out.next (Nat.le_refl _) hb_)
     have HVq84 := Lib.hid (below_next HVq13a.out hb_)
     have HFNq84 := Lib.hid (HFM.out.below hb_)
     clear hb_
     refine hK.out _ _ ⟨tq84.out, HDEq84.out⟩ (fun _ => ?_)
     clear hK K
     try simp only [Act.put, List.setIfInBounds_toArray, List.set_cons_zero, List.set_cons_succ]
     have HNB := Lib.hid (show wm12.heap.size ≤ q13a.heap.size from HVq13a.out.size)
     refine wpAnyH_ready (rs := [10]) (by kernel_rfl) (by simp) ?_
     refine AllReadyH.cons (o := ⟨none, .store _ _ _, _, _, _, _⟩) rfl (fun K hK => ?_) AllReadyH.nil
     have cn0 := HXnq84.out.1 0 _ rfl
     have cfn := HXnq84.out.2.1
     go_simp
     have hgs := grown_one q84 q13a.heap.size 0 (.slice A7 l2.length c7)
     have hnx_ := HXnq84.out.set_ (j := 0) (by simp) (.slice A7 l2.length c7)
     obtain ⟨wz, hwz⟩ : ∃ z, q84.setCell ⟨q13a.heap.size, 0, none⟩ (.slice A7 l2.length c7) = z := ⟨_, rfl⟩
     rw [hwz] at hgs hnx_ ⊢
     clear hwz cn0 cfn
     have HYz := Lib.hid (tq84.out.kept hgs (fun e => by have := Option.some.inj e; have := HLT2.out; have := HNB.out; omega)); have HDz := Lib.hid (HDEq84.out.grown hgs (by have := HLT2.out; have := HNB.out; omega))
     have HFz := Lib.hid ((HFNq84.out.grown hgs (.inl rfl)).out)
     have HCz := Lib.hid hnx_
     have HWz := Lib.hid (HVq84.out.grown hgs HVq84.out.size (fun q hq => by have := Option.some.inj hq; have := HNB.out; omega))
     clear hgs hnx_
     refine hK.out _ _ ⟨HYz.out, HDz.out⟩ (fun _ => ?_)
     clear hK K
     try simp only [Act.put, List.setIfInBounds_toArray, List.set_cons_zero, List.set_cons_succ]
     refine wpAnyH_take (i := 11) (oi := ⟨some 13, _, _, _, _, _⟩) (v := .int .i64 z2) rfl (by kernel_rfl) (by kernel_rfl) (by kernel_rfl) (fun _ _ _ h => h) (Or.inl ⟨by rfl, fun w' hS => by go_simp⟩) ⟨HYz.out, HDz.out⟩ ?_
     try simp only [Act.put, List.setIfInBounds_toArray, List.set_cons_zero, List.set_cons_succ]
     refine wpAnyH_done (by kernel_rfl) ?_ _
     go_wp2_with fail
     go_meet
     exact ⟨q13a.heap.size, A7, c7, rfl, rfl, Lib.hid ⟨HWz.out, HCz.out, HFz.out⟩⟩
    ·
     have HXN := Lib.hid (HXFwd13.out.more (N' := fun x => x = wd13.heap.size) (fun x hx h => by have h : x = wd13.heap.size := h; omega)); have HEN := Lib.hid (HFEwd13.out.more (N' := fun x => x = wd13.heap.size) (fun x hx h => by have h : x = wd13.heap.size := h; omega))
     go_simp
     obtain ⟨q85, hq85⟩ : ∃ z, wd13.alloc (.cells #[.slice none 0 0] 29) = z := ⟨_, rfl⟩
     have hb_ : Below wd13.heap.size wd13 q85 := by rw [← hq85]; exact (Below.refl _ _).alloc (Nat.le_refl _) _
     have HXnq85 := Lib.hid (show BoxL q85 wd13.heap.size [.slice none 0 0] from box_mk hq85)
     try rw [hq85]
     clear hq85
     have HSq85 := Lib.hid (show wd13.heap.size ≤ q85.heap.size from hb_.size)
     have HBq85 := Lib.hid (HBwd13.out.trans (hb_.mono HBwd13.out.size))
     have tq85 := Lib.hid (twd13.out.kept (grown_none hb_) (fun e => by cases e))
     have lq85 := Lib.hid (lwd13.out.kept (grown_none hb_) (fun e => by cases e))
     have wasq85 := Lib.hid (waswd13.out.kept (grown_none hb_) (fun e => by cases e))
     have aq85 := Lib.hid (awd13.out.kept (grown_none hb_) (fun e => by cases e))
     have HXFq85 := Lib.hid (HXFwd13.out.below hb_)
     have HDAq85 := Lib.hid (HDAwd13.out.below hb_)
     have HWASq85 := Lib.hid (HWASwd13.out.next (Nat.le_refl _) hb_)
     have HRAq85 := Lib.hid (HRAwd13.out.below hb_)
     have HDEq85 := Lib.hid (HDEwd13.out.below hb_)
     have HFEq85 := Lib.hid (HFEwd13.out.below hb_)
     have HWq85 := Lib.hid (below_next HWwd13.out hb_)
     have HRaq85 := Lib.hid (HRawd13.out.next (Nat.le_refl _) hb_)
     have HVq85 := Lib.hid (below_next HVwd13.out hb_)
     have HXNq85 := Lib.hid (HXN.out.below hb_)
     have HENq85 := Lib.hid (HEN.out.below hb_)
     clear hb_
     refine hK.out _ _ ⟨tq85.out, HDEq85.out⟩ (fun _ => ?_)
     clear hK K
     try simp only [Act.put, List.setIfInBounds_toArray, List.set_cons_zero, List.set_cons_succ]
     refine wpAnyH_ready (rs := [5]) (by kernel_rfl) (by simp) ?_
     refine AllReadyH.cons (o := ⟨some 66, .call ⟨_, _, _⟩, _, _, _, _⟩) rfl (fun K hK => ?_) (AllReadyH.nil)
     have HNL := Lib.hid (show wd13.heap.size < q85.heap.size from HXnq85.out.2.2)
     have hcc := RInsert_any AT cT L e Ae ce (fun x => x < q85.heap.size ∧ ¬ (fun x => x = wd13.heap.size) x) q85 (HXNq85.out) (fun x hx => hx.1) HOE.out (HENq85.out) HVT.out (HOK.out.next HBq85.out)
     unfold InsPost at hcc
     rw [HZ2.out, HLZ2.out] at hcc
     have HCC := Lib.hid hcc; clear hcc
     go_simp
     go_at_call 19
     refine Calls.mono HCC.out ?_
     rintro e' q13b ⟨hb_, v, rfl, hown_⟩
     clear HCC
     have HSq13b := Lib.hid (show q85.heap.size ≤ q13b.heap.size from hb_.size)
     have HBq13b := Lib.hid (HBq85.out.trans (hb_.mono HBq85.out.size))
     have tq13b := Lib.hid (tq85.out.kept (grown_none hb_) (fun e => by cases e))
     have lq13b := Lib.hid (lq85.out.kept (grown_none hb_) (fun e => by cases e))
     have wasq13b := Lib.hid (wasq85.out.kept (grown_none hb_) (fun e => by cases e))
     have aq13b := Lib.hid (aq85.out.kept (grown_none hb_) (fun e => by cases e))
     have nq13b := Lib.hid (HXnq85.out.kept (grown_none hb_) (fun e => by cases e))
     have HXFq13b := Lib.hid (HXFq85.out.below hb_)
     have HDAq13b := Lib.hid (HDAq85.out.below hb_)
     have HWASq13b := Lib.hid (HWASq85.out.next (Nat.le_refl _) hb_)
     have HRAq13b := Lib.hid (HRAq85.out.below hb_)
     have HDEq13b := Lib.hid (HDEq85.out.below hb_)
     have HFEq13b := Lib.hid (HFEq85.out.below hb_)
     have HWq13b := Lib.hid (below_next HWq85.out hb_)
     have HRaq13b := Lib.hid (HRaq85.out.next (Nat.le_refl _) hb_)
     have HVq13b := Lib.hid (below_next HVq85.out hb_)
     have HXNq13b := Lib.hid (HXNq85.out.below hb_)
     have HENq13b := Lib.hid (HENq85.out.below hb_)
     obtain ⟨A7, c7, rfl, hfr_⟩ := hown_.free (N := (fun x => x = wd13.heap.size)) (fun x hx => ⟨by have h9 : x = wd13.heap.size := hx; have := HNL.out; omega, fun h => h.2 hx⟩)
     have HFN := Lib.hid hfr_; clear hown_ hfr_ hb_
     refine hK.out _ _ ⟨tq13b.out, HDEq13b.out⟩ (fun _ => ?_)
     clear hK K
     try simp only [Act.put, List.setIfInBounds_toArray, List.set_cons_zero, List.set_cons_succ]
     refine wpAnyH_take (i := 6) (oi := ⟨some 60, _, _, _, _, _⟩) (v := .tuple #[.agg #[.slice A7 l2.length c7], .int .i64 z2]) rfl (by kernel_rfl) (by kernel_rfl) (by kernel_rfl) (fun _ _ _ h => h) (Or.inl ⟨by rfl, fun w' hS => by go_simp⟩) ⟨tq13b.out, HDEq13b.out⟩ ?_
     try simp only [Act.put, List.setIfInBounds_toArray, List.set_cons_zero, List.set_cons_succ]
     refine wpAnyH_take (i := 7) (oi := ⟨some 67, _, _, _, _, _⟩) (v := .agg #[.slice A7 l2.length c7]) rfl (by kernel_rfl) (by kernel_rfl) (by kernel_rfl) (fun _ _ _ h => h) (Or.inl ⟨by rfl, fun w' hS => by go_simp⟩) ⟨tq13b.out, HDEq13b.out⟩ ?_
     try simp only [Act.put, List.setIfInBounds_toArray, List.set_cons_zero, List.set_cons_succ]
     refine wpAnyH_take (i := 8) (oi := ⟨some 68, _, _, _, _, _⟩) (v := .int .i64 z2) rfl (by kernel_rfl) (by kernel_rfl) (by kernel_rfl) (fun _ _ _ h => h) (Or.inl ⟨by rfl, fun w' hS => by go_simp⟩) ⟨tq13b.out, HDEq13b.out⟩ ?_
     try simp only [Act.put, List.setIfInBounds_toArray, List.set_cons_zero, List.set_cons_succ]
     have HNB := Lib.hid (show wm12.heap.size ≤ wd13.heap.size from HVwd13.out.size)
     refine wpAnyH_ready (rs := [10]) (by kernel_rfl) (by simp) ?_
     refine AllReadyH.cons (o := ⟨none, .store _ _ _, _, _, _, _⟩) rfl (fun K hK => ?_) AllReadyH.nil
     have cn0 := nq13b.out.1 0 _ rfl
     have cfn := nq13b.out.2.1
     go_simp
     have hgs := grown_one q13b wd13.heap.size 0 (.slice A7 l2.length c7)
     have hnx_ := nq13b.out.set_ (j := 0) (by simp) (.slice A7 l2.length c7)
     obtain ⟨wz, hwz⟩ : ∃ z, q13b.setCell ⟨wd13.heap.size, 0, none⟩ (.slice A7 l2.length c7) = z := ⟨_, rfl⟩
     rw [hwz] at hgs hnx_ ⊢
     clear hwz cn0 cfn
     have HYz := Lib.hid (tq13b.out.kept hgs (fun e => by have := Option.some.inj e; have := HLT2.out; have := HNB.out; omega)); have HDz := Lib.hid (HDEq13b.out.grown hgs (by have := HLT2.out; have := HNB.out; omega))
     have HFz := Lib.hid ((HFN.out.grown hgs (.inl rfl)).out)
     have HCz := Lib.hid hnx_
     have HWz := Lib.hid (HVq13b.out.grown hgs HVq13b.out.size (fun q hq => by have := Option.some.inj hq; have := HNB.out; omega))
     clear hgs hnx_
     refine hK.out _ _ ⟨HYz.out, HDz.out⟩ (fun _ => ?_)
     clear hK K
     try simp only [Act.put, List.setIfInBounds_toArray, List.set_cons_zero, List.set_cons_succ]
     refine wpAnyH_take (i := 11) (oi := ⟨some 13, _, _, _, _, _⟩) (v := .int .i64 z2) rfl (by kernel_rfl) (by kernel_rfl) (by kernel_rfl) (fun _ _ _ h => h) (Or.inl ⟨by rfl, fun w' hS => by go_simp⟩) ⟨HYz.out, HDz.out⟩ ?_
     try simp only [Act.put, List.setIfInBounds_toArray, List.set_cons_zero, List.set_cons_succ]
     refine wpAnyH_done (by kernel_rfl) ?_ _
     go_wp2_with fail
     go_meet
     exact ⟨wd13.heap.size, A7, c7, rfl, rfl, Lib.hid ⟨HWz.out, HCz.out, HFz.out⟩⟩
   case rest =>
   obtain ⟨gb, A7, c7, rfl, rfl, HCB⟩ := hcut
   obtain ⟨hbk, hc10, hfn⟩ := HCB.out
   obtain ⟨wm13, hwm⟩ : ∃ z, z = wc := ⟨_, rfl⟩
   subst hwm
   have hln_ := hfn.1; have hln2_ := hfn.2.1
   unfold maxLen at hln2_
   have HRb := Lib.hid hfn; have HBXb := Lib.hid hc10; clear hfn hc10
   have HSwm13 := Lib.hid (show wm12.heap.size ≤ wm13.heap.size from hbk.size)
   have HBwm13 := Lib.hid (HBwm12.out.trans (hbk.mono HBwm12.out.size))
   have twm13 := Lib.hid (twm12.out.kept (grown_none hbk) (fun e => by cases e))
   have lwm13 := Lib.hid (lwm12.out.kept (grown_none hbk) (fun e => by cases e))
   have waswm13 := Lib.hid (waswm12.out.kept (grown_none hbk) (fun e => by cases e))
   have awm13 := Lib.hid (HBXa.out.kept (grown_none hbk) (fun e => by cases e))
   have HXFwm13 := Lib.hid (HXFwm12.out.below hbk)
   have HDAwm13 := Lib.hid (HDAwm12.out.below hbk)
   have HWASwm13 := Lib.hid (HWASwm12.out.next (Nat.le_refl _) hbk)
   have HRAwm13 := Lib.hid (HRAwm12.out.below hbk)
   have HDEwm13 := Lib.hid (HDEwm12.out.below hbk)
   have HFEwm13 := Lib.hid (HFEwm12.out.below hbk)
   have HWwm13 := Lib.hid (below_next HWwm12.out hbk)
   have HRawm13 := Lib.hid (HRa.out.next (Nat.le_refl _) hbk)
   clear hbk HCB
   have ct0 := twm13.out.1 0 _ rfl
   have cwas0 := waswm13.out.1 0 _ rfl
   have ca0 := awm13.out.1 0 _ rfl
   have cb0 := HBXb.out.1 0 _ rfl
   have ez : (z2 != z2) = false := by simp
   have ez2 : (z2 == z2) = true := by simp
   go_wp2_with fail
   refine (SameTree_same A8 A7 c8 c7 l2 _ _ _ (Nat.le_refl _) (Nat.le_refl _) HRawm13.out HRb.out).mono ?_
   rintro e w86 ⟨rfl, hbw86⟩
   clear ct0 cwas0 ca0 cb0
   have HSw86 := Lib.hid (show wm13.heap.size ≤ w86.heap.size from hbw86.size)
   have HBw86 := Lib.hid (HBwm13.out.trans (hbw86.mono HBwm13.out.size))
   have tw86 := Lib.hid (twm13.out.kept (grown_none hbw86) (fun e => by cases e))
   have lw86 := Lib.hid (lwm13.out.kept (grown_none hbw86) (fun e => by cases e))
   have wasw86 := Lib.hid (waswm13.out.kept (grown_none hbw86) (fun e => by cases e))
   have aw86 := Lib.hid (awm13.out.kept (grown_none hbw86) (fun e => by cases e))
   have bw86 := Lib.hid (HBXb.out.kept (grown_none hbw86) (fun e => by cases e))
   have HXFw86 := Lib.hid (HXFwm13.out.below hbw86)
   have HDAw86 := Lib.hid (HDAwm13.out.below hbw86)
   have HWASw86 := Lib.hid (HWASwm13.out.next (Nat.le_refl _) hbw86)
   have HRAw86 := Lib.hid (HRAwm13.out.below hbw86)
   have HDEw86 := Lib.hid (HDEwm13.out.below hbw86)
   have HFEw86 := Lib.hid (HFEwm13.out.below hbw86)
   have HWw86 := Lib.hid (below_next HWwm13.out hbw86)
   have HRaw86 := Lib.hid (HRawm13.out.next (Nat.le_refl _) hbw86)
   have HRbw86 := Lib.hid (HRb.out.next (Nat.le_refl _) hbw86)
   clear hbw86
   have ct0 := tw86.out.1 0 _ rfl
   have cwas0 := wasw86.out.1 0 _ rfl
   have ca0 := aw86.out.1 0 _ rfl
   have cb0 := bw86.out.1 0 _ rfl
   go_wp2_with fail
   refine (SameTree_same AT A9 cT c9 L _ _ _ (Nat.le_refl _) (Nat.le_refl _) HXFw86.out.out HWASw86.out).mono ?_
   rintro e w87 ⟨rfl, hbw87⟩
   clear ct0 cwas0 ca0 cb0
   have HSw87 := Lib.hid (show w86.heap.size ≤ w87.heap.size from hbw87.size)
   have HBw87 := Lib.hid (HBw86.out.trans (hbw87.mono HBw86.out.size))
   have tw87 := Lib.hid (tw86.out.kept (grown_none hbw87) (fun e => by cases e))
   have lw87 := Lib.hid (lw86.out.kept (grown_none hbw87) (fun e => by cases e))
   have wasw87 := Lib.hid (wasw86.out.kept (grown_none hbw87) (fun e => by cases e))
   have aw87 := Lib.hid (aw86.out.kept (grown_none hbw87) (fun e => by cases e))
   have bw87 := Lib.hid (bw86.out.kept (grown_none hbw87) (fun e => by cases e))
   have HXFw87 := Lib.hid (HXFw86.out.below hbw87)
   have HDAw87 := Lib.hid (HDAw86.out.below hbw87)
   have HWASw87 := Lib.hid (HWASw86.out.next (Nat.le_refl _) hbw87)
   have HRAw87 := Lib.hid (HRAw86.out.below hbw87)
   have HDEw87 := Lib.hid (HDEw86.out.below hbw87)
   have HFEw87 := Lib.hid (HFEw86.out.below hbw87)
   have HWw87 := Lib.hid (below_next HWw86.out hbw87)
   have HRaw87 := Lib.hid (HRaw86.out.next (Nat.le_refl _) hbw87)
   have HRbw87 := Lib.hid (HRbw86.out.next (Nat.le_refl _) hbw87)
   clear hbw87
   have HBN := Lib.hid (show Below w81.heap.size w81 w87 from below_next HBR.out HWw87.out)
   go_wp2
   go_roundw
   case rel => exact ⟨k + 1, by omega, by go_num, HBN⟩
   case measure => simp [intOf]; omega
  ·
   have i3 : ¬ (k : Int) < 2 := by omega
   go_wp2_with fail
   refine (known_any _ (HOK.out.next HBwr.out)).mono ?_
   rintro e w88 ⟨rfl, hbw88⟩
   have HSw88 := Lib.hid (show wr.heap.size ≤ w88.heap.size from hbw88.size)
   have HBw88 := Lib.hid (HBwr.out.trans (hbw88.mono HBwr.out.size))
   have tw88 := Lib.hid (twr.out.kept (grown_none hbw88) (fun e => by cases e))
   have lw88 := Lib.hid (lwr.out.kept (grown_none hbw88) (fun e => by cases e))
   have wasw88 := Lib.hid (waswr.out.kept (grown_none hbw88) (fun e => by cases e))
   have HXFw88 := Lib.hid (HXFwr.out.below hbw88)
   have HDAw88 := Lib.hid (HDAwr.out.below hbw88)
   have HWASw88 := Lib.hid (HWASwr.out.next (Nat.le_refl _) hbw88)
   have HRAw88 := Lib.hid (HRAwr.out.below hbw88)
   clear hbw88
   go_wp2
   go_ret
   exact ⟨by try rfl, HBI.out.trans (HBw88.out.mono HBI.out.size)⟩
end Go.Proofs.YtidhbckalcjdpaaGreatDoor
namespace Go.Proofs.YtidhbckalcjdpaaGreatDoor
open Go.RowKit Go.Cold
namespace cTreeInserts
open Go.ChangeShapes Go.WideShapes Go.ChangeAt
open Go.ChangeMaps (open_string)
set_option maxRecDepth 100000
theorem reads (os : Os) {H : Type} (enc : TypeId × Value → H) : ∃ places, DataW.whole enc Tryz.prog ((World.laidAll Tryz.prog os Rows.treeInsertsUptoRow.laid).forCall (fun _ _ => 0) ⟨#[], #[.slice none 0 0, .agg #[.int .i64 0, .int .i64 0, .string ⟨#[]⟩, .string ⟨#[]⟩, .string ⟨#[]⟩, .string ⟨#[]⟩, .string ⟨#[]⟩, .int .i64 0, .int .i64 0, .slice none 0 0]], []⟩).memory Tryz.f4.params.toList Rows.treeInsertsSpec.vars false (#[.slice none 0 0, .agg #[.int .i64 0, .int .i64 0, .string ⟨#[]⟩, .string ⟨#[]⟩, .string ⟨#[]⟩, .string ⟨#[]⟩, .string ⟨#[]⟩, .int .i64 0, .int .i64 0, .slice none 0 0]] : Array Value).toList 8 = some ([.nil, .agg [.lit (.int .i64 0), .lit (.int .i64 0), .lit (.string []), .lit (.string []), .lit (.string []), .lit (.string []), .lit (.string []), .lit (.int .i64 0), .lit (.int .i64 0), .nil]], [], places) :=
 ⟨[], by kernel_rfl⟩
theorem lifted (os : Os) (started : os.Started) (H : Type) (enc : TypeId × Value → H) (F : Stop.Interp) :
  ReturnsInHanded {} Tryz.checked os 4 .any ((Rows.OpenSpec.upto Rows.treeInsertsSpec).preRow enc Tryz.prog Tryz.f4 Rows.treeInsertsUptoRow.domain false Rows.treeInsertsUptoRow.laid) (((Rows.OpenSpec.upto Rows.treeInsertsSpec).at F).post enc Tryz.prog Tryz.f4 false true false false) := by
 obtain ⟨places, hx⟩ := reads os enc
 refine law_lifted_upto os started H enc F (by kernel_rfl) Tryz.func4 #[.slice none 0 0, .agg #[.int .i64 0, .int .i64 0, .string ⟨#[]⟩, .string ⟨#[]⟩, .string ⟨#[]⟩, .string ⟨#[]⟩, .string ⟨#[]⟩, .int .i64 0, .int .i64 0, .slice none 0 0]] (World.shaped_of_ZipB (by kernel_rfl) (by kernel_rfl)) (by kernel_rfl)
  (OpenSpec.preRow_of_cond 8 hx (by kernel_rfl) (fun k hk => by obtain rfl := (Option.some.inj hk); rfl) (by kernel_rfl) (laidMet_laidAll _ (by kernel_rfl) (by kernel_rfl))) rfl rfl
  (fun ds hl => by
   rw [Tryz.params4] at hl
   match ds, hl with
   | [d0, d1], _ => rfl) (by kernel_rfl) ?_
 intro W base args ds ps hval hA hlt hz hsh hlaid hup
 rw [Tryz.params4] at hA hval
 obtain ⟨v0, vs0, d0, ds0, p0, q0, hargs, rfl, rfl, h0, r0⟩ := trodAll_cons hA
 obtain ⟨v1, vs1, d1, ds1, p1, q1, rfl, rfl, rfl, h1, r1⟩ := trodAll_cons r0
 obtain ⟨rfl, rfl, rfl⟩ := trodAll_nil r1
 obtain rfl : args = #[v0, v1] := by cases args; simp_all
 obtain ⟨A0, c0, xs0, rfl, s0⟩ := open_nums Tryz.underlying23 Tryz.underlying3 (by kernel_rfl) (hval 0 23 v0 rfl rfl) h0 (fun x hx => hlt x (List.mem_append_left _ hx))
 obtain ⟨D1, A1, c1, rfl, w1, s1, n1⟩ := open_devU (hval 1 34 v1 rfl rfl) h1
 exact lawInserts_any A0 c0 xs0 D1 A1 c1 W (show Ok W from Tryz.laysM146.s1_3 W hsh) s0 w1 s1 (by have h := hup; simp only [Rows.uptoBulkAll] at h; omega)
theorem said : Rows.TreeInsertsUptoSaid :=
 OpenClaim.holds_of_cond 4 Tryz.f4 rfl rfl rfl rfl rfl rfl rfl ⟨rfl, rfl, rfl, rfl, rfl⟩ rfl rfl rfl rfl rfl (by kernel_rfl) Tryz.func4 (by kernel_rfl)
  (of_decide_eq_true (by kernel_rfl)) (by unfold Func.isWrapper; first | (rw [if_pos (by decide +kernel)]; kernel_rfl) | (rw [if_neg (by decide +kernel)]; exact ⟨rfl, rfl⟩))
  (fun os started H enc _ F => by rw [OpenClaim.pre_eq_preRow]; exact lifted os started H enc F)
theorem plain (f : FuncId) (fn : Func) (hf : Tryz.pinned.checked.prog.funcNamed Rows.treeInsertsUptoRow.func = some f) (hfn : Tryz.pinned.checked.prog.funcs[f]? = some fn) :
  false = Tryz.pinned.checked.prog.looks [] ∧ ∀ (j : Nat) t, fn.params[j]? = some t → Tryz.pinned.checked.prog.wantsStandIn t = false := by
 obtain rfl : f = 4 := Option.some.inj ((show Tryz.prog.funcNamed Rows.treeInsertsUptoRow.func = some 4 by kernel_rfl).symm.trans hf) |>.symm
 obtain rfl : fn = Tryz.f4 := (Option.some.inj (Tryz.func4.symm.trans hfn)).symm
 refine ⟨by kernel_rfl, fun j t ht => ?_⟩
 rw [Tryz.params4] at ht
 have hm : t ∈ [23, 34] := by simpa using Array.mem_of_getElem? ht
 have hall : ([23, 34].all fun u => !Tryz.prog.wantsStandIn u) = true := by kernel_rfl
 exact (show Tryz.prog.wantsStandIn t = false by simpa using List.all_eq_true.1 hall t hm)
/-- The card. -/
theorem card : Rows.TreeInsertsUptoCardSaid :=
 Claim7.holds_tied_plain_at .later [] _ _ _ _ said (fun _ h => by cases h) (by kernel_rfl) (fun _ h => by cases h) treeInsertsUpto_row_tie rfl ⟨rfl, rfl⟩ (by kernel_rfl) rfl plain (by kernel_rfl)
end cTreeInserts
end Go.Proofs.YtidhbckalcjdpaaGreatDoor
