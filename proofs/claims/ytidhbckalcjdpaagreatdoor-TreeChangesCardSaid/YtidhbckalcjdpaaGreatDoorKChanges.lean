/-
  TreeChanges: row and card.
 Conditions: those of the given row and card (the listed variables of the library hold what the text lays), nothing else.
-/
import Derived.Test.YtidhbckalcjdpaaGreatDoorHU
import Derived.Test.YtidhbckalcjdpaaGreatDoorHV
import Derived.Test.YtidhbckalcjdpaaGreatDoorHT
import Derived.Test.YtidhbckalcjdpaaGreatDoorHM
import Derived.Test.YtidhbckalcjdpaaGreatDoorHX
import Derived.ShutString
set_option linter.unusedSimpArgs false
set_option linter.unusedVariables false
namespace Go.Cold
open Go Go.RowKit
/-- The tape's block and the boxes of the two trees. -/
def cN (b ga gb x : Nat) : Prop := (x = b ∨ x = ga) ∨ x = gb
theorem BoxL.old {w w' : World} {g B : Nat} {l : List Value} (h : BoxL w g l) (hb : Below B w w') (hlt : g < B) : BoxL w' g l := by
 have hh := hb.block g hlt
 exact ⟨fun j v hv => (cell_heap hh j).trans (h.1 j v hv), fun j => (frozen_heap hh j).trans (h.2.1 j), Nat.lt_of_lt_of_le h.2.2 hb.size⟩
theorem FreeS.old {α : Type} [RepS α] {N : Nat → Prop} {w w' : World} {B c : Nat} {A : Option Addr} {l : List α} (h : Sl w B A c l) (hb : Below B w w') (hB : B ≤ w.heap.size) (hN : ∀ x, x < B → ¬ N x) : FreeS N w' A c l :=
 SlS.mono (fun x (hx : x < B) => ⟨by have := hb.size; omega, hN x hx⟩) (fun _ _ _ _ hu => hu) (SlS_iff.1 (h.keep hb))
/-- Where the law stands behind its change of the made device. -/
def ChgMid (w : World) (gt ga gb gd : Nat) (AT : Option Addr) (cT : Nat) (L : List Dev) (xs : List Int) (A4 : Option Addr) (c4 k3 : Nat) (va vb : Value) (d2 : Dev) (wx : World) : Prop :=
 Below w.heap.size w wx ∧ BoxL wx gt [.slice AT L.length cT] ∧ BoxL wx ga [va] ∧ BoxL wx gb [vb] ∧ BoxL wx gd (devCells d2 A4 c4) ∧ FreeS (cN w.heap.size ga gb) wx AT cT L ∧ FreeS (cN w.heap.size ga gb) wx A4 c4 d2.attrs ∧ devOk d2
/-- Where its loop stands. -/
def ChgLoop (w : World) (gt ga gb gl : Nat) (AT : Option Addr) (cT : Nat) (L : List Dev) (D : Dev) (A2 : Option Addr) (c2 : Nat) (d2 : Dev) (A4 : Option Addr) (c4 : Nat) (wx : World) : Prop :=
 Below w.heap.size w wx ∧ BoxL wx gt [.slice AT L.length cT] ∧ (∃ va, BoxL wx ga [va]) ∧ (∃ vb, BoxL wx gb [vb]) ∧ BoxL wx gl (devCells D A2 c2 ++ devCells d2 A4 c4) ∧ FreeS (cN w.heap.size ga gb) wx AT cT L ∧ FreeS (cN w.heap.size ga gb) wx A2 c2 D.attrs ∧ FreeS (cN w.heap.size ga gb) wx A4 c4 d2.attrs
theorem two_devs {w : World} {g : Nat} {D d2 : Dev} {A2 A4 : Option Addr} {c2 c4 : Nat} (h : BoxL w g (devCells D A2 c2 ++ devCells d2 A4 c4)) : DIn w g (0 * 10) D A2 c2 ∧ DIn w g (1 * 10) d2 A4 c4 :=
 ⟨⟨⟨h.1 0 _ rfl, h.1 1 _ rfl, h.1 2 _ rfl, h.1 3 _ rfl, h.1 4 _ rfl, h.1 5 _ rfl, h.1 6 _ rfl, h.1 7 _ rfl, h.1 8 _ rfl, h.1 9 _ rfl⟩, h.2.2⟩, ⟨⟨h.1 10 _ rfl, h.1 11 _ rfl, h.1 12 _ rfl, h.1 13 _ rfl, h.1 14 _ rfl, h.1 15 _ rfl, h.1 16 _ rfl, h.1 17 _ rfl, h.1 18 _ rfl, h.1 19 _ rfl⟩, h.2.2⟩⟩
end Go.Cold
namespace Go.Proofs.YtidhbckalcjdpaaGreatDoor
open Go.RowKit Go.Cold
set_option maxHeartbeats 2000000 in
set_option maxRecDepth 100000 in
theorem lawChanges_any (A : Option Addr) (c : Nat) (xs : List Int) (D : Dev) (A2 : Option Addr) (c2 : Nat) (wi : World) (hok0 : Ok wi) (hx0 : Sl wi wi.heap.size A c xs) (hD : devOk D) (hA2 : Sl wi wi.heap.size A2 c2 D.attrs) : Calls Tryz.prog 10 #[.slice A xs.length c, .agg #[.int .i64 D.idx, .int .i64 D.par, .string D.nm, .string D.orig, .string D.sub, .string D.drv, .string D.ali, .int .i64 D.kind, .int .i64 D.num, .slice A2 D.attrs.length c2]] wi fun e w' => e = .returned (.bool true) ∧ Below wi.heap.size wi w' := by
 have HDO := Lib.hid hD; have HX0 := Lib.hid hx0; have HA0 := Lib.hid hA2; have HOK0 := Lib.hid hok0; clear hD hx0 hA2 hok0
 go_enter Tryz.func10, Tryz.ntmps10
 go_upto_region 1 with fail
 obtain ⟨w, hw⟩ : ∃ z, wi.alloc (.cells #[.int .i64 D.idx, .int .i64 D.par, .string D.nm, .string D.orig, .string D.sub, .string D.drv, .string D.ali, .int .i64 D.kind, .int .i64 D.num, .slice A2 D.attrs.length c2] 34) = z := ⟨_, rfl⟩
 have hbi : Below wi.heap.size wi w := by rw [← hw]; exact (Below.refl _ _).alloc (Nat.le_refl _) _
 have HGI := Lib.hid (show w.heap.size = wi.heap.size + 1 by rw [← hw]; simp)
 have HRAW := Lib.hid (show BoxL w wi.heap.size [.int .i64 D.idx, .int .i64 D.par, .string D.nm, .string D.orig, .string D.sub, .string D.drv, .string D.ali, .int .i64 D.kind, .int .i64 D.num, .slice A2 D.attrs.length c2] from box_mk hw)
 simp only [hw]
 have HBI := Lib.hid hbi
 have HOK := Lib.hid (HOK0.out.next hbi)
 have HX := Lib.hid (show Sl w w.heap.size A c xs from (HX0.out.keep hbi).more hbi.size)
 have HA := Lib.hid (show Sl w w.heap.size A2 c2 D.attrs from (HA0.out.keep hbi).more hbi.size)
 clear hw hbi HX0 HA0 HOK0
 go_upto_region 2 with fail
 have htape := tape_new HX.out
 have HNG := Lib.hid (notG_of HOK.out)
 obtain ⟨w1, hw1⟩ : ∃ z, w.alloc (.cells #[.slice A xs.length c, .int .i64 0] 27) = z := ⟨_, rfl⟩
 rw [hw1] at htape
 have hb1 : Below w.heap.size w w1 := by rw [← hw1]; exact (Below.refl _ _).alloc (Nat.le_refl _) _
 have HGw1 := Lib.hid (show w1.heap.size = w.heap.size + 1 by rw [← hw1]; simp)
 try simp only [hw1]
 have HTAPE := Lib.hid htape
 clear hw1 htape
 have HSw1 := Lib.hid (show w.heap.size ≤ w1.heap.size from hb1.size)
 have HBw1 := Lib.hid hb1
 clear hb1
 go_wp2_with fail
 refine (Tree_any xs 0 w.heap.size w.heap.size 9 w1 (by decide) HTAPE.out ⟨by decide, by decide⟩ (HOK.out.next HBw1.out) HNG.out).mono ?_
 rintro e w2 ⟨AT, cT, L, k1, rfl, hvt, hln, hsl, hk1, htp, hg2⟩
 have hb2 : Below w.heap.size w w2 := below_of_grown HBw1.out hg2 HBw1.out.size (Nat.le_refl _)
 have HSB2 := Lib.hid (show w1.heap.size ≤ w2.heap.size from hg2.size)
 have hx1 := hsl.1; have hx2 := hsl.2.1
 unfold maxLen at hx2
 have hin : TreeIn w2 w.heap.size (fun x => w1.heap.size ≤ x ∧ x < w2.heap.size) AT cT L := ⟨hsl, fun x hx => by have := HGw1.out; omega, fun x hx => hx.2⟩
 have HVT := Lib.hid hvt; have HLN := Lib.hid (show L.length ≤ 9 by omega); have HIN := Lib.hid hin; have HK1 := Lib.hid hk1; have HTP := Lib.hid htp
 clear HTAPE hvt hln hsl hk1 htp hg2 hin
 have HBw2 := Lib.hid hb2
 clear hb2
 go_upto_region 3 with fail
 obtain ⟨w3, hw3⟩ : ∃ w3, w2.alloc (.cells #[.slice AT L.length cT] 29) = w3 := ⟨_, rfl⟩
 have hbw3 : Below w2.heap.size w2 w3 := by rw [← hw3]; exact (Below.refl _ _).alloc (Nat.le_refl _) _
 have HGw3 := Lib.hid (show w3.heap.size = w2.heap.size + 1 by rw [← hw3]; simp)
 have HXtw3 := Lib.hid (show BoxL w3 w2.heap.size [.slice AT L.length cT] from box_mk hw3)
 try simp only [hw3]
 have HSTEPw3 := Lib.hid hbw3
 have HSw3 := Lib.hid (show w2.heap.size ≤ w3.heap.size from hbw3.size)
 have HBw3 := Lib.hid (HBw2.out.trans (hbw3.mono HBw2.out.size))
 clear hw3 hbw3
 try rw [show w2.heap.size + 1 = w3.heap.size from HGw3.out.symm]
 have HIN3 := Lib.hid (show TreeIn w3 w.heap.size (fun x => w1.heap.size ≤ x ∧ x < w2.heap.size) AT cT L from ⟨HIN.out.sl.below (HSTEPw3.out) (fun x hx => hx.2), HIN.out.ne, fun x hx => by have := HGw3.out; have := hx.2; omega⟩)
 have HTP3 := Lib.hid (HTP.out.kept (grown_none HSTEPw3.out) (fun e => by cases e) (fun g e => by cases e))
 clear HIN HTP
 have ct0 := HXtw3.out.1 0 _ rfl
 go_wp2_with fail
 refine (Some_any xs k1 w.heap.size w.heap.size AT cT L _ w3 (by have := HK1.out; omega) HTP3.out HIN3.out (fun d hd => (HVT.out.small d hd).2) (by have := HLN.out; omega)).mono ?_
 rintro e w4 ⟨n, k2, rfl, hn, hk2, htp, hg4⟩
 clear ct0
 have hb4 : Below w.heap.size w w4 := HBw3.out.grown hg4 HBw3.out.size (fun q hq => by have := Option.some.inj hq; omega)
 have HSw4 := Lib.hid hg4.size
 have HIN4 := Lib.hid (HIN3.out.tape hg4)
 have HTP4 := Lib.hid htp
 have HBw4 := Lib.hid hb4
 have HXtw4 := Lib.hid (HXtw3.out.kept hg4 (fun e => by have := Option.some.inj e; have := HGw1.out; have := HSB2.out; omega))
 have HN := Lib.hid (show okI n by unfold okI; omega)
 have HNR := Lib.hid hn
 have HK2 := Lib.hid hk2
 clear hb4 htp hg4 hn hk2 HIN3 HTP3
 have HSL := Lib.hid HIN4.out.out
 have ct0 := HXtw4.out.1 0 _ rfl
 clear ct0
 have HZ0 := Lib.hid (show okI 0 from ⟨by decide, by decide⟩)
 have HXF := Lib.hid (show FreeS (fun x => x = w.heap.size) w4 AT cT L from HIN4.out.sl.free (fun x hx => ⟨HIN4.out.lt x hx, fun h => HIN4.out.ne x hx h⟩))
 have HL3 := Lib.hid (show L.length ≤ 1000 by have := HLN.out; omega)
 have ct0 := HXtw4.out.1 0 _ rfl
 obtain ⟨z, hz⟩ : ∃ z, remE L n = z := ⟨_, rfl⟩
 obtain ⟨l, hl⟩ : ∃ z, remX L n = z := ⟨_, rfl⟩
 have HZ := Lib.hid hz; have HLZ := Lib.hid hl; clear hz hl
 have hcc := Remove_any AT cT L n w4 _ (Nat.le_refl _) HXF.out.out HVT.out HN.out
 rw [HZ.out, HLZ.out] at hcc
 have HCC := Lib.hid hcc; clear hcc
 go_wp2_with fail
 refine Calls.mono HCC.out ?_
 rintro e w10 ⟨hb_, v, rfl, hown_⟩
 clear HCC
 have HTL := Lib.hid (show w.heap.size < w4.heap.size by have := HGw1.out; have := HSB2.out; have := HXtw4.out.2.2; omega)
 clear ct0
 have HSw10 := Lib.hid (show w4.heap.size ≤ w10.heap.size from hb_.size)
 have HBw10 := Lib.hid (HBw4.out.trans (hb_.mono HBw4.out.size))
 have tw10 := Lib.hid (HXtw4.out.kept (grown_none hb_) (fun e => by cases e))
 have HTPw10 := Lib.hid (HTP4.out.kept (grown_none hb_) (fun e => by cases e) (fun g e => by cases e))
 have HXFw10 := Lib.hid (HXF.out.below hb_)
 obtain ⟨A8, c8, rfl, hfr_⟩ := hown_.free (N := fun x => x = w.heap.size) (fun x (hx : x = w.heap.size) => by have := HTL.out; constructor <;> (try intro h9) <;> (try have h9 : _ ≤ x := h9) <;> omega)
 have hl8 := hfr_.1; have hl9 := hfr_.2.1
 unfold maxLen at hl9
 have HFA := Lib.hid hfr_; clear hown_ hfr_ hb_
 go_upto_region 5 with fail
 have HTA := Lib.hid (show w2.heap.size < w10.heap.size from tw10.out.2.2)
 have HXFw10q := Lib.hid (HXFw10.out.more (N' := (fun x => x = w.heap.size ∨ x = w10.heap.size)) (fun x hx h => by rcases h with h | h; exact h; omega))
 have HFAw10q := Lib.hid (HFA.out.more (N' := (fun x => x = w.heap.size ∨ x = w10.heap.size)) (fun x hx h => by rcases h with h | h; exact h; omega))
 obtain ⟨w11, hw11⟩ : ∃ w11, w10.alloc (.cells #[.slice A8 l.length c8] 29) = w11 := ⟨_, rfl⟩
 have hbw11 : Below w10.heap.size w10 w11 := by rw [← hw11]; exact (Below.refl _ _).alloc (Nat.le_refl _) _
 have HGw11 := Lib.hid (show w11.heap.size = w10.heap.size + 1 by rw [← hw11]; simp)
 have HXaw11 := Lib.hid (show BoxL w11 w10.heap.size [.slice A8 l.length c8] from box_mk hw11)
 try simp only [hw11]
 have HSTEPw11 := Lib.hid hbw11
 have HSw11 := Lib.hid (show w10.heap.size ≤ w11.heap.size from hbw11.size)
 have HBw11 := Lib.hid (HBw10.out.trans (hbw11.mono HBw10.out.size))
 have tw11 := Lib.hid (tw10.out.kept (grown_none hbw11) (fun e => by cases e))
 have HTPw11 := Lib.hid (HTPw10.out.kept (grown_none hbw11) (fun e => by cases e) (fun g e => by cases e))
 have HXFw11 := Lib.hid (HXFw10q.out.below hbw11)
 have HFAw11 := Lib.hid (HFAw10q.out.below hbw11)
 clear hw11 hbw11
 try rw [show w10.heap.size + 1 = w11.heap.size from HGw11.out.symm]
 have ct0 := tw11.out.1 0 _ rfl
 have ca0 := HXaw11.out.1 0 _ rfl
 have cfa := HXaw11.out.2.1
 have hcc := RRemove_any AT cT L n w11 _ (Nat.le_refl _) HXFw11.out.out HL3.out HVT.out.wf HN.out
 rw [HZ.out, HLZ.out] at hcc
 have HCC := Lib.hid hcc; clear hcc
 go_wp2_with fail
 refine Calls.mono HCC.out ?_
 rintro e w20 ⟨hb_, v, rfl, hown_⟩
 clear HCC
 clear ct0 ca0 cfa
 have HSw20 := Lib.hid (show w11.heap.size ≤ w20.heap.size from hb_.size)
 have HBw20 := Lib.hid (HBw11.out.trans (hb_.mono HBw11.out.size))
 have tw20 := Lib.hid (tw11.out.kept (grown_none hb_) (fun e => by cases e))
 have aw20 := Lib.hid (HXaw11.out.kept (grown_none hb_) (fun e => by cases e))
 have HTPw20 := Lib.hid (HTPw11.out.kept (grown_none hb_) (fun e => by cases e) (fun g e => by cases e))
 have HXFw20 := Lib.hid (HXFw11.out.below hb_)
 have HFAw20 := Lib.hid (HFAw11.out.below hb_)
 obtain ⟨A9, c9, rfl, hsl_⟩ := hown_.sl
 have hl10 := hsl_.1; have hl11 := hsl_.2.1
 unfold maxLen at hl11
 have HRB := Lib.hid hsl_; clear hown_ hsl_ hb_
 go_upto_region 6 with fail
 have HTB := Lib.hid (show w10.heap.size < w20.heap.size from aw20.out.2.2)
 have HXFw20q := Lib.hid (show FreeS (cN w.heap.size w10.heap.size w20.heap.size) w20 _ _ _ from HXFw20.out.more (fun x hx h => by rcases h with h | h; exact h; omega))
 have HFAw20q := Lib.hid (show FreeS (cN w.heap.size w10.heap.size w20.heap.size) w20 _ _ _ from HFAw20.out.more (fun x hx h => by rcases h with h | h; exact h; omega))
 obtain ⟨w21, hw21⟩ : ∃ w21, w20.alloc (.cells #[.slice A9 l.length c9] 29) = w21 := ⟨_, rfl⟩
 have hbw21 : Below w20.heap.size w20 w21 := by rw [← hw21]; exact (Below.refl _ _).alloc (Nat.le_refl _) _
 have HGw21 := Lib.hid (show w21.heap.size = w20.heap.size + 1 by rw [← hw21]; simp)
 have HXbw21 := Lib.hid (show BoxL w21 w20.heap.size [.slice A9 l.length c9] from box_mk hw21)
 try simp only [hw21]
 have HSTEPw21 := Lib.hid hbw21
 have HSw21 := Lib.hid (show w20.heap.size ≤ w21.heap.size from hbw21.size)
 have HBw21 := Lib.hid (HBw20.out.trans (hbw21.mono HBw20.out.size))
 have tw21 := Lib.hid (tw20.out.kept (grown_none hbw21) (fun e => by cases e))
 have aw21 := Lib.hid (aw20.out.kept (grown_none hbw21) (fun e => by cases e))
 have HTPw21 := Lib.hid (HTPw20.out.kept (grown_none hbw21) (fun e => by cases e) (fun g e => by cases e))
 have HXFw21 := Lib.hid (HXFw20q.out.below hbw21)
 have HFAw21 := Lib.hid (HFAw20q.out.below hbw21)
 have HRBw21 := Lib.hid (HRB.out.next (Nat.le_refl _) hbw21)
 clear hw21 hbw21
 try rw [show w20.heap.size + 1 = w21.heap.size from HGw21.out.symm]
 have ct0 := tw21.out.1 0 _ rfl
 have ca0 := aw21.out.1 0 _ rfl
 have cfa := aw21.out.2.1
 have cb0 := HXbw21.out.1 0 _ rfl
 have cfb := HXbw21.out.2.1
 have HGY := Lib.hid (show w.heap.size < w2.heap.size ∧ w2.heap.size < w10.heap.size ∧ w10.heap.size < w20.heap.size ∧ w.heap.size < w10.heap.size ∧ w.heap.size < w20.heap.size from by have := HGw1.out; have := HSB2.out; have := HTA.out; have := HTB.out; omega)
 have ez : (z != z) = false := by simp
 have ez2 : (z == z) = true := by simp
 go_wp2_with fail
 refine (SameTree_same A8 A9 c8 c9 l _ _ _ (Nat.le_refl _) (Nat.le_refl _) HFAw21.out.out HRBw21.out).mono ?_
 rintro e w22 ⟨rfl, hbw22⟩
 clear ct0 ca0 cfa cb0 cfb
 have HSw22 := Lib.hid (show w21.heap.size ≤ w22.heap.size from hbw22.size)
 have HBw22 := Lib.hid (HBw21.out.trans (hbw22.mono HBw21.out.size))
 have tw22 := Lib.hid (tw21.out.kept (grown_none hbw22) (fun e => by cases e))
 have aw22 := Lib.hid (aw21.out.kept (grown_none hbw22) (fun e => by cases e))
 have bw22 := Lib.hid (HXbw21.out.kept (grown_none hbw22) (fun e => by cases e))
 have HTPw22 := Lib.hid (HTPw21.out.kept (grown_none hbw22) (fun e => by cases e) (fun g e => by cases e))
 have HXFw22 := Lib.hid (HXFw21.out.below hbw22)
 have HFAw22 := Lib.hid (HFAw21.out.below hbw22)
 have HRBw22 := Lib.hid (HRBw21.out.next (Nat.le_refl _) hbw22)
 clear hbw22
 clear ez ez2
 have ct0 := tw22.out.1 0 _ rfl
 have cfa := aw22.out.2.1
 have cfb := bw22.out.2.1
 have HNLT := Lib.hid (show w.heap.size < w22.heap.size ∧ w10.heap.size < w22.heap.size ∧ w20.heap.size < w22.heap.size from ⟨by have := HGY.out; have := tw22.out.2.2; omega, aw22.out.2.2, bw22.out.2.2⟩)
 go_wp2_with fail
 refine (Device_any xs k2 w.heap.size w.heap.size AT cT L _ w22 (by have := HK1.out; have := HK2.out; omega) HTPw22.out ⟨HXFw22.out, fun x hx h => hx.2 (.inl (.inl h)), fun x hx => hx.1⟩ (fun d hd => (HVT.out.small d hd).2) (by have := HLN.out; omega)).mono ?_
 rintro e w30 ⟨d, A4, c4, k3, rfl, hfew_, hsl_, hk3_, ht_, hg_⟩
 clear ct0 cfa cfb
 have HBw30 := Lib.hid (HBw22.out.grown hg_ HBw22.out.size (fun q hq => by have := Option.some.inj hq; omega))
 have HTPw30 := Lib.hid ht_
 have tw30 := Lib.hid (tw22.out.kept hg_ (fun e => by have := Option.some.inj e; have := HGY.out; omega))
 have aw30 := Lib.hid (aw22.out.kept hg_ (fun e => by have := Option.some.inj e; have := HGY.out; omega))
 have bw30 := Lib.hid (bw22.out.kept hg_ (fun e => by have := Option.some.inj e; have := HGY.out; omega))
 have HXFw30 := Lib.hid (HXFw22.out.grown hg_ (.inl (.inl (.inl rfl))))
 have HFEW := Lib.hid hfew_; have HDA := Lib.hid (show FreeS (cN w.heap.size w10.heap.size w20.heap.size) w30 A4 c4 d.attrs from hsl_.free (fun x hx => ⟨hx.2, fun h => by have := HNLT.out; have := hx.1; rcases h with (h | h) | h <;> omega⟩)); have HK3 := Lib.hid (show k3 ≤ 5000 by have := HK1.out; have := HK2.out; omega)
 have HDD := Lib.hid (show devOk d from HFEW.out.ok)
 clear hfew_ hsl_ HNLT hk3_ hg_ ht_
 go_upto_region 9 with fail
 have HXFw30d := Lib.hid (show FreeS (fun x => (cN w.heap.size w10.heap.size w20.heap.size) x ∨ x = w30.heap.size) w30 _ _ _ from HXFw30.out.more (fun x hx h => by rcases h with h | h; exact h; omega))
 have HDAw30d := Lib.hid (show FreeS (fun x => (cN w.heap.size w10.heap.size w20.heap.size) x ∨ x = w30.heap.size) w30 _ _ _ from HDA.out.more (fun x hx h => by rcases h with h | h; exact h; omega))
 have HGDX := Lib.hid (show w20.heap.size < w30.heap.size from bw30.out.2.2)
 obtain ⟨w31, hw31⟩ : ∃ w31, w30.alloc (.cells #[.int .i64 d.idx, .int .i64 d.par, .string d.nm, .string d.orig, .string d.sub, .string d.drv, .string d.ali, .int .i64 d.kind, .int .i64 d.num, .slice A4 d.attrs.length c4] 34) = w31 := ⟨_, rfl⟩
 have hbw31 : Below w30.heap.size w30 w31 := by rw [← hw31]; exact (Below.refl _ _).alloc (Nat.le_refl _) _
 have HGw31 := Lib.hid (show w31.heap.size = w30.heap.size + 1 by rw [← hw31]; simp)
 have HXdw31 := Lib.hid (show BoxL w31 w30.heap.size [.int .i64 d.idx, .int .i64 d.par, .string d.nm, .string d.orig, .string d.sub, .string d.drv, .string d.ali, .int .i64 d.kind, .int .i64 d.num, .slice A4 d.attrs.length c4] from box_mk hw31)
 try simp only [hw31]
 have HSTEPw31 := Lib.hid hbw31
 have HSw31 := Lib.hid (show w30.heap.size ≤ w31.heap.size from hbw31.size)
 have HBw31 := Lib.hid (HBw30.out.trans (hbw31.mono HBw30.out.size))
 have tw31 := Lib.hid (tw30.out.kept (grown_none hbw31) (fun e => by cases e))
 have aw31 := Lib.hid (aw30.out.kept (grown_none hbw31) (fun e => by cases e))
 have bw31 := Lib.hid (bw30.out.kept (grown_none hbw31) (fun e => by cases e))
 have HTPw31 := Lib.hid (HTPw30.out.kept (grown_none hbw31) (fun e => by cases e) (fun g e => by cases e))
 have HXFw31 := Lib.hid (HXFw30d.out.below hbw31)
 have HDAw31 := Lib.hid (HDAw30d.out.below hbw31)
 clear hw31 hbw31
 try rw [show w30.heap.size + 1 = w31.heap.size from HGw31.out.symm]
 have HGD := Lib.hid (show w20.heap.size < w30.heap.size from HGDX.out)
 have ct0 := tw31.out.1 0 _ rfl
 have cfa := aw31.out.2.1
 have cfb := bw31.out.2.1
 have cfd := HXdw31.out.2.1
 obtain ⟨q, hq⟩ : ∃ q, (findD L n).isSome = q := ⟨_, rfl⟩
 have HQ := Lib.hid hq; clear hq
 go_wp2_with fail
 refine (RFind_any AT cT L n _ _ (Nat.le_refl _) HXFw31.out.out).mono ?_
 rintro e w32 ⟨hbw32, o, A3, c3, -, rfl, hok_, -⟩
 clear ct0 cfa cfb cfd
 have HSw32 := Lib.hid (show w31.heap.size ≤ w32.heap.size from hbw32.size)
 have HBw32 := Lib.hid (HBw31.out.trans (hbw32.mono HBw31.out.size))
 have tw32 := Lib.hid (tw31.out.kept (grown_none hbw32) (fun e => by cases e))
 have aw32 := Lib.hid (aw31.out.kept (grown_none hbw32) (fun e => by cases e))
 have bw32 := Lib.hid (bw31.out.kept (grown_none hbw32) (fun e => by cases e))
 have dw32 := Lib.hid (HXdw31.out.kept (grown_none hbw32) (fun e => by cases e))
 have HTPw32 := Lib.hid (HTPw31.out.kept (grown_none hbw32) (fun e => by cases e) (fun g e => by cases e))
 have HXFw32 := Lib.hid (HXFw31.out.below hbw32)
 have HDAw32 := Lib.hid (HDAw31.out.below hbw32)
 clear hbw32
 rw [HQ.out]
 have HOO := Lib.hid hok_; clear hok_
 have HGO := Lib.hid (show w30.heap.size < w32.heap.size from dw32.out.2.2)
 go_upto_region 10 with fail
 obtain ⟨w33, hw33⟩ : ∃ w33, w32.alloc (.cells #[.int .i64 o.idx, .int .i64 o.par, .string o.nm, .string o.orig, .string o.sub, .string o.drv, .string o.ali, .int .i64 o.kind, .int .i64 o.num, .slice A3 o.attrs.length c3] 34) = w33 := ⟨_, rfl⟩
 have hbw33 : Below w32.heap.size w32 w33 := by rw [← hw33]; exact (Below.refl _ _).alloc (Nat.le_refl _) _
 have HGw33 := Lib.hid (show w33.heap.size = w32.heap.size + 1 by rw [← hw33]; simp)
 have HXow33 := Lib.hid (show BoxL w33 w32.heap.size [.int .i64 o.idx, .int .i64 o.par, .string o.nm, .string o.orig, .string o.sub, .string o.drv, .string o.ali, .int .i64 o.kind, .int .i64 o.num, .slice A3 o.attrs.length c3] from box_mk hw33)
 try simp only [hw33]
 have HSTEPw33 := Lib.hid hbw33
 have HSw33 := Lib.hid (show w32.heap.size ≤ w33.heap.size from hbw33.size)
 have HBw33 := Lib.hid (HBw32.out.trans (hbw33.mono HBw32.out.size))
 have tw33 := Lib.hid (tw32.out.kept (grown_none hbw33) (fun e => by cases e))
 have aw33 := Lib.hid (aw32.out.kept (grown_none hbw33) (fun e => by cases e))
 have bw33 := Lib.hid (bw32.out.kept (grown_none hbw33) (fun e => by cases e))
 have dw33 := Lib.hid (dw32.out.kept (grown_none hbw33) (fun e => by cases e))
 have HTPw33 := Lib.hid (HTPw32.out.kept (grown_none hbw33) (fun e => by cases e) (fun g e => by cases e))
 have HXFw33 := Lib.hid (HXFw32.out.below hbw33)
 have HDAw33 := Lib.hid (HDAw32.out.below hbw33)
 clear hw33 hbw33
 try rw [show w32.heap.size + 1 = w33.heap.size from HGw33.out.symm]
 go_upto_if 55 with fail
 go_cut [] (fun wx => ∃ (d2 : Dev) (va vb : Value), Hid (ChgMid w w2.heap.size w10.heap.size w20.heap.size w30.heap.size AT cT L xs A4 c4 0 va vb d2 wx))
 case first =>
  cases q with
  | false =>
   have HDF := HDD
   go_wp2_with fail
   go_meet
   exact ⟨d, _, _, Lib.hid ⟨HBw33.out, tw33.out, aw33.out, bw33.out, dw33.out, HXFw33.out.more (fun x _ h => .inl h), HDAw33.out.more (fun x _ h => .inl h), HDF.out⟩⟩
  | true =>
   have cfa := aw33.out.2.1
   have cfb := bw33.out.2.1
   have cd0 := dw33.out.1 0 _ rfl
   have cfd := dw33.out.2.1
   have co0 := HXow33.out.1 0 _ rfl
   go_upto_region 12 with fail
   clear cfa cfb cd0 cfd co0
   have hgs := grown_one w33 w30.heap.size 0 (.int .i64 o.idx)
   have hbx_ := dw33.out.set_ (j := 0) (by simp) (.int .i64 o.idx)
   obtain ⟨w50, hw50⟩ : ∃ z, w33.setCell ⟨w30.heap.size, 0, none⟩ (.int .i64 o.idx) = z := ⟨_, rfl⟩
   rw [hw50] at hgs hbx_ ⊢
   clear hw50
   have dw50 := Lib.hid hbx_
   have HBw50 := Lib.hid (HBw33.out.grown hgs HBw33.out.size (fun q hq => by have := Option.some.inj hq; have := HGY.out; have := HGD.out; have := HGO.out; omega))
   have tw50 := Lib.hid (tw33.out.kept hgs (fun e => by have := Option.some.inj e; have := HGY.out; have := HGD.out; have := HGO.out; omega))
   have aw50 := Lib.hid (aw33.out.kept hgs (fun e => by have := Option.some.inj e; have := HGY.out; have := HGD.out; have := HGO.out; omega))
   have bw50 := Lib.hid (bw33.out.kept hgs (fun e => by have := Option.some.inj e; have := HGY.out; have := HGD.out; have := HGO.out; omega))
   have ow50 := Lib.hid (HXow33.out.kept hgs (fun e => by have := Option.some.inj e; have := HGY.out; have := HGD.out; have := HGO.out; omega))
   have HTPw50 := Lib.hid (HTPw33.out.kept hgs (fun e => by have := Option.some.inj e; have := HGY.out; have := HGD.out; have := HGO.out; omega) (fun q e => by have := Option.some.inj e; have := HGY.out; have := HGD.out; have := HGO.out; omega))
   have HXFw50 := Lib.hid (HXFw33.out.grown hgs (.inl (.inr rfl)))
   have HDAw50 := Lib.hid (HDAw33.out.grown hgs (.inl (.inr rfl)))
   clear hgs hbx_
   have HD50 := Lib.hid (show BoxL w50 w30.heap.size [.int .i64 o.idx, .int .i64 d.par, .string d.nm, .string d.orig, .string d.sub, .string d.drv, .string d.ali, .int .i64 d.kind, .int .i64 d.num, .slice A4 d.attrs.length c4] from dw50.out)
   go_wp2_with fail
   refine (Next_lit 6 xs k3 w.heap.size w.heap.size w50 (by have := HK3.out; omega) HTPw50.out (by omega) (by omega)).mono ?_
   rintro e w51 ⟨m, h0, h2, rfl, ht_, hg_⟩
   have HBw51 := Lib.hid (HBw50.out.grown hg_ HBw50.out.size (fun q hq => by have := Option.some.inj hq; omega))
   have HTPw51 := Lib.hid ht_
   have tw51 := Lib.hid (tw50.out.kept hg_ (fun e => by have := Option.some.inj e; have := HGY.out; have := HGD.out; have := HGO.out; omega))
   have aw51 := Lib.hid (aw50.out.kept hg_ (fun e => by have := Option.some.inj e; have := HGY.out; have := HGD.out; have := HGO.out; omega))
   have bw51 := Lib.hid (bw50.out.kept hg_ (fun e => by have := Option.some.inj e; have := HGY.out; have := HGD.out; have := HGO.out; omega))
   have dw51 := Lib.hid (HD50.out.kept hg_ (fun e => by have := Option.some.inj e; have := HGY.out; have := HGD.out; have := HGO.out; omega))
   have ow51 := Lib.hid (ow50.out.kept hg_ (fun e => by have := Option.some.inj e; have := HGY.out; have := HGD.out; have := HGO.out; omega))
   have HXFw51 := Lib.hid (HXFw50.out.grown hg_ (.inl (.inl (.inl (.inl rfl)))))
   have HDAw51 := Lib.hid (HDAw50.out.grown hg_ (.inl (.inl (.inl (.inl rfl)))))
   clear ht_ hg_ h2
   by_cases hm : 0 < m
   ·
    go_upto_region 13 with fail
    refine wp_region_held_drew (S := fun w' => BoxL w' w32.heap.size [.int .i64 o.idx, .int .i64 o.par, .string o.nm, .string o.orig, .string o.sub, .string o.drv, .string o.ali, .int .i64 o.kind, .int .i64 o.num, .slice A3 o.attrs.length c3]) (by kernel_rfl) ow51.out.drew (fun hS0 => ?_)
    obtain ⟨wd, hwd⟩ : ∃ z, World.drew w51 = z := ⟨_, rfl⟩
    rw [hwd] at hS0 ⊢
    have hb_ : Below w51.heap.size w51 wd := by rw [← hwd]; exact below_drewN_self _ _ 1
    clear hwd hS0
    have HSwd := Lib.hid (show w51.heap.size ≤ wd.heap.size from hb_.size)
    have HBwd := Lib.hid (HBw51.out.trans (hb_.mono HBw51.out.size))
    have twd := Lib.hid (tw51.out.kept (grown_none hb_) (fun e => by cases e))
    have awd := Lib.hid (aw51.out.kept (grown_none hb_) (fun e => by cases e))
    have bwd := Lib.hid (bw51.out.kept (grown_none hb_) (fun e => by cases e))
    have dwd := Lib.hid (dw51.out.kept (grown_none hb_) (fun e => by cases e))
    have owd := Lib.hid (ow51.out.kept (grown_none hb_) (fun e => by cases e))
    have HTPwd := Lib.hid (HTPw51.out.kept (grown_none hb_) (fun e => by cases e) (fun g e => by cases e))
    have HXFwd := Lib.hid (HXFw51.out.below hb_)
    have HDAwd := Lib.hid (HDAw51.out.below hb_)
    clear hb_
    refine wpAnyH_take (i := 0) (oi := ⟨some 62, _, _, _, _, _⟩) (v := .pointer (some ⟨w32.heap.size, 1, none⟩)) rfl (by kernel_rfl) (by kernel_rfl) (by kernel_rfl) (fun _ _ _ h => h) (Or.inl ⟨by rfl, fun w' hS => by go_simp⟩) owd.out ?_
    try simp only [Act.put, List.setIfInBounds_toArray, List.set_cons_zero, List.set_cons_succ]
    refine wpAnyH_take (i := 1) (oi := ⟨some 63, _, _, _, _, _⟩) (v := .int .i64 o.par) rfl (by kernel_rfl) (by kernel_rfl) (by kernel_rfl) (fun _ _ _ h => h) (Or.inl ⟨by rfl, fun w' hS => by (have u0_ := hS.1 1 _ rfl; go_simp)⟩) owd.out ?_
    try simp only [Act.put, List.setIfInBounds_toArray, List.set_cons_zero, List.set_cons_succ]
    refine wpAnyH_take (i := 2) (oi := ⟨some 64, _, _, _, _, _⟩) (v := .pointer (some ⟨w32.heap.size, 3, none⟩)) rfl (by kernel_rfl) (by kernel_rfl) (by kernel_rfl) (fun _ _ _ h => h) (Or.inl ⟨by rfl, fun w' hS => by go_simp⟩) owd.out ?_
    try simp only [Act.put, List.setIfInBounds_toArray, List.set_cons_zero, List.set_cons_succ]
    refine wpAnyH_take (i := 3) (oi := ⟨some 65, _, _, _, _, _⟩) (v := .string o.orig) rfl (by kernel_rfl) (by kernel_rfl) (by kernel_rfl) (fun _ _ _ h => h) (Or.inl ⟨by rfl, fun w' hS => by (have u0_ := hS.1 3 _ rfl; go_simp)⟩) owd.out ?_
    try simp only [Act.put, List.setIfInBounds_toArray, List.set_cons_zero, List.set_cons_succ]
    refine wpAnyH_take (i := 4) (oi := ⟨some 66, _, _, _, _, _⟩) (v := .pointer (some ⟨w32.heap.size, 7, none⟩)) rfl (by kernel_rfl) (by kernel_rfl) (by kernel_rfl) (fun _ _ _ h => h) (Or.inl ⟨by rfl, fun w' hS => by go_simp⟩) owd.out ?_
    try simp only [Act.put, List.setIfInBounds_toArray, List.set_cons_zero, List.set_cons_succ]
    refine wpAnyH_take (i := 5) (oi := ⟨some 67, _, _, _, _, _⟩) (v := .int .i64 o.kind) rfl (by kernel_rfl) (by kernel_rfl) (by kernel_rfl) (fun _ _ _ h => h) (Or.inl ⟨by rfl, fun w' hS => by (have u0_ := hS.1 7 _ rfl; go_simp)⟩) owd.out ?_
    try simp only [Act.put, List.setIfInBounds_toArray, List.set_cons_zero, List.set_cons_succ]
    refine wpAnyH_take (i := 6) (oi := ⟨some 68, _, _, _, _, _⟩) (v := .pointer (some ⟨w30.heap.size, 1, none⟩)) rfl (by kernel_rfl) (by kernel_rfl) (by kernel_rfl) (fun _ _ _ h => h) (Or.inl ⟨by rfl, fun w' hS => by go_simp⟩) owd.out ?_
    try simp only [Act.put, List.setIfInBounds_toArray, List.set_cons_zero, List.set_cons_succ]
    refine wpAnyH_ready (rs := [7]) (by kernel_rfl) (by simp) ?_
    refine AllReadyH.cons (o := ⟨none, .store _ _ _, _, _, _, _⟩) rfl (fun K hK => ?_) AllReadyH.nil
    have cd_ := dwd.out.1 1 _ rfl; have cdf := dwd.out.2.1
    go_simp
    clear cd_ cdf
    have hgs := grown_one wd w30.heap.size 1 (.int .i64 o.par)
    have hbx_ := dwd.out.set_ (j := 1) (by simp) (.int .i64 o.par)
    obtain ⟨w60, hw60⟩ : ∃ z, wd.setCell ⟨w30.heap.size, 1, none⟩ (.int .i64 o.par) = z := ⟨_, rfl⟩
    rw [hw60] at hgs hbx_ ⊢
    clear hw60
    have dw60 := Lib.hid hbx_
    have HBw60 := Lib.hid (HBwd.out.grown hgs HBwd.out.size (fun q hq => by have := Option.some.inj hq; have := HGY.out; have := HGD.out; have := HGO.out; omega))
    have tw60 := Lib.hid (twd.out.kept hgs (fun e => by have := Option.some.inj e; have := HGY.out; have := HGD.out; have := HGO.out; omega))
    have aw60 := Lib.hid (awd.out.kept hgs (fun e => by have := Option.some.inj e; have := HGY.out; have := HGD.out; have := HGO.out; omega))
    have bw60 := Lib.hid (bwd.out.kept hgs (fun e => by have := Option.some.inj e; have := HGY.out; have := HGD.out; have := HGO.out; omega))
    have ow60 := Lib.hid (owd.out.kept hgs (fun e => by have := Option.some.inj e; have := HGY.out; have := HGD.out; have := HGO.out; omega))
    have HTPw60 := Lib.hid (HTPwd.out.kept hgs (fun e => by have := Option.some.inj e; have := HGY.out; have := HGD.out; have := HGO.out; omega) (fun q e => by have := Option.some.inj e; have := HGY.out; have := HGD.out; have := HGO.out; omega))
    have HXFw60 := Lib.hid (HXFwd.out.grown hgs (.inl (.inr rfl)))
    have HDAw60 := Lib.hid (HDAwd.out.grown hgs (.inl (.inr rfl)))
    clear hgs hbx_
    have HDa0 := Lib.hid (show BoxL w60 w30.heap.size [.int .i64 o.idx, .int .i64 o.par, .string d.nm, .string d.orig, .string d.sub, .string d.drv, .string d.ali, .int .i64 d.kind, .int .i64 d.num, .slice A4 d.attrs.length c4] from dw60.out)
    refine hK.out _ _ ow60.out (fun _ => ?_)
    clear hK K
    try simp only [Act.put, List.setIfInBounds_toArray, List.set_cons_zero, List.set_cons_succ]
    refine wpAnyH_take (i := 8) (oi := ⟨some 69, _, _, _, _, _⟩) (v := .pointer (some ⟨w30.heap.size, 3, none⟩)) rfl (by kernel_rfl) (by kernel_rfl) (by kernel_rfl) (fun _ _ _ h => h) (Or.inl ⟨by rfl, fun w' hS => by go_simp⟩) ow60.out ?_
    try simp only [Act.put, List.setIfInBounds_toArray, List.set_cons_zero, List.set_cons_succ]
    refine wpAnyH_ready (rs := [9]) (by kernel_rfl) (by simp) ?_
    refine AllReadyH.cons (o := ⟨none, .store _ _ _, _, _, _, _⟩) rfl (fun K hK => ?_) AllReadyH.nil
    have cd_ := HDa0.out.1 3 _ rfl; have cdf := HDa0.out.2.1
    go_simp
    clear cd_ cdf
    have hgs := grown_one w60 w30.heap.size 3 (.string o.orig)
    have hbx_ := HDa0.out.set_ (j := 3) (by simp) (.string o.orig)
    obtain ⟨w61, hw61⟩ : ∃ z, w60.setCell ⟨w30.heap.size, 3, none⟩ (.string o.orig) = z := ⟨_, rfl⟩
    rw [hw61] at hgs hbx_ ⊢
    clear hw61
    have dw61 := Lib.hid hbx_
    have HBw61 := Lib.hid (HBw60.out.grown hgs HBw60.out.size (fun q hq => by have := Option.some.inj hq; have := HGY.out; have := HGD.out; have := HGO.out; omega))
    have tw61 := Lib.hid (tw60.out.kept hgs (fun e => by have := Option.some.inj e; have := HGY.out; have := HGD.out; have := HGO.out; omega))
    have aw61 := Lib.hid (aw60.out.kept hgs (fun e => by have := Option.some.inj e; have := HGY.out; have := HGD.out; have := HGO.out; omega))
    have bw61 := Lib.hid (bw60.out.kept hgs (fun e => by have := Option.some.inj e; have := HGY.out; have := HGD.out; have := HGO.out; omega))
    have ow61 := Lib.hid (ow60.out.kept hgs (fun e => by have := Option.some.inj e; have := HGY.out; have := HGD.out; have := HGO.out; omega))
    have HTPw61 := Lib.hid (HTPw60.out.kept hgs (fun e => by have := Option.some.inj e; have := HGY.out; have := HGD.out; have := HGO.out; omega) (fun q e => by have := Option.some.inj e; have := HGY.out; have := HGD.out; have := HGO.out; omega))
    have HXFw61 := Lib.hid (HXFw60.out.grown hgs (.inl (.inr rfl)))
    have HDAw61 := Lib.hid (HDAw60.out.grown hgs (.inl (.inr rfl)))
    clear hgs hbx_
    have HDa1 := Lib.hid (show BoxL w61 w30.heap.size [.int .i64 o.idx, .int .i64 o.par, .string d.nm, .string o.orig, .string d.sub, .string d.drv, .string d.ali, .int .i64 d.kind, .int .i64 d.num, .slice A4 d.attrs.length c4] from dw61.out)
    refine hK.out _ _ ow61.out (fun _ => ?_)
    clear hK K
    try simp only [Act.put, List.setIfInBounds_toArray, List.set_cons_zero, List.set_cons_succ]
    refine wpAnyH_take (i := 10) (oi := ⟨some 70, _, _, _, _, _⟩) (v := .pointer (some ⟨w30.heap.size, 7, none⟩)) rfl (by kernel_rfl) (by kernel_rfl) (by kernel_rfl) (fun _ _ _ h => h) (Or.inl ⟨by rfl, fun w' hS => by go_simp⟩) ow61.out ?_
    try simp only [Act.put, List.setIfInBounds_toArray, List.set_cons_zero, List.set_cons_succ]
    refine wpAnyH_ready (rs := [11]) (by kernel_rfl) (by simp) ?_
    refine AllReadyH.cons (o := ⟨none, .store _ _ _, _, _, _, _⟩) rfl (fun K hK => ?_) AllReadyH.nil
    have cd_ := HDa1.out.1 7 _ rfl; have cdf := HDa1.out.2.1
    go_simp
    clear cd_ cdf
    have hgs := grown_one w61 w30.heap.size 7 (.int .i64 o.kind)
    have hbx_ := HDa1.out.set_ (j := 7) (by simp) (.int .i64 o.kind)
    obtain ⟨w62, hw62⟩ : ∃ z, w61.setCell ⟨w30.heap.size, 7, none⟩ (.int .i64 o.kind) = z := ⟨_, rfl⟩
    rw [hw62] at hgs hbx_ ⊢
    clear hw62
    have dw62 := Lib.hid hbx_
    have HBw62 := Lib.hid (HBw61.out.grown hgs HBw61.out.size (fun q hq => by have := Option.some.inj hq; have := HGY.out; have := HGD.out; have := HGO.out; omega))
    have tw62 := Lib.hid (tw61.out.kept hgs (fun e => by have := Option.some.inj e; have := HGY.out; have := HGD.out; have := HGO.out; omega))
    have aw62 := Lib.hid (aw61.out.kept hgs (fun e => by have := Option.some.inj e; have := HGY.out; have := HGD.out; have := HGO.out; omega))
    have bw62 := Lib.hid (bw61.out.kept hgs (fun e => by have := Option.some.inj e; have := HGY.out; have := HGD.out; have := HGO.out; omega))
    have ow62 := Lib.hid (ow61.out.kept hgs (fun e => by have := Option.some.inj e; have := HGY.out; have := HGD.out; have := HGO.out; omega))
    have HTPw62 := Lib.hid (HTPw61.out.kept hgs (fun e => by have := Option.some.inj e; have := HGY.out; have := HGD.out; have := HGO.out; omega) (fun q e => by have := Option.some.inj e; have := HGY.out; have := HGD.out; have := HGO.out; omega))
    have HXFw62 := Lib.hid (HXFw61.out.grown hgs (.inl (.inr rfl)))
    have HDAw62 := Lib.hid (HDAw61.out.grown hgs (.inl (.inr rfl)))
    clear hgs hbx_
    have HDa2 := Lib.hid (show BoxL w62 w30.heap.size [.int .i64 o.idx, .int .i64 o.par, .string d.nm, .string o.orig, .string d.sub, .string d.drv, .string d.ali, .int .i64 o.kind, .int .i64 d.num, .slice A4 d.attrs.length c4] from dw62.out)
    refine hK.out _ _ ow62.out (fun _ => ?_)
    clear hK K
    try simp only [Act.put, List.setIfInBounds_toArray, List.set_cons_zero, List.set_cons_succ]
    refine wpAnyH_done (by kernel_rfl) ?_ _
    have cfa := aw62.out.2.1
    have cfb := bw62.out.2.1
    have cd2 := HDa2.out.1 2 _ rfl
    have cfd := HDa2.out.2.1
    have co2 := ow62.out.1 2 _ rfl
    go_upto_region 15 with fail
    clear cfa cfb cd2 cfd co2
    have hgs := grown_one w62 w30.heap.size 2 (.string o.nm)
    have hbx_ := HDa2.out.set_ (j := 2) (by simp) (.string o.nm)
    obtain ⟨w70, hw70⟩ : ∃ z, w62.setCell ⟨w30.heap.size, 2, none⟩ (.string o.nm) = z := ⟨_, rfl⟩
    rw [hw70] at hgs hbx_ ⊢
    clear hw70
    have dw70 := Lib.hid hbx_
    have HBw70 := Lib.hid (HBw62.out.grown hgs HBw62.out.size (fun q hq => by have := Option.some.inj hq; have := HGY.out; have := HGD.out; have := HGO.out; omega))
    have tw70 := Lib.hid (tw62.out.kept hgs (fun e => by have := Option.some.inj e; have := HGY.out; have := HGD.out; have := HGO.out; omega))
    have aw70 := Lib.hid (aw62.out.kept hgs (fun e => by have := Option.some.inj e; have := HGY.out; have := HGD.out; have := HGO.out; omega))
    have bw70 := Lib.hid (bw62.out.kept hgs (fun e => by have := Option.some.inj e; have := HGY.out; have := HGD.out; have := HGO.out; omega))
    have ow70 := Lib.hid (ow62.out.kept hgs (fun e => by have := Option.some.inj e; have := HGY.out; have := HGD.out; have := HGO.out; omega))
    have HTPw70 := Lib.hid (HTPw62.out.kept hgs (fun e => by have := Option.some.inj e; have := HGY.out; have := HGD.out; have := HGO.out; omega) (fun q e => by have := Option.some.inj e; have := HGY.out; have := HGD.out; have := HGO.out; omega))
    have HXFw70 := Lib.hid (HXFw62.out.grown hgs (.inl (.inr rfl)))
    have HDAw70 := Lib.hid (HDAw62.out.grown hgs (.inl (.inr rfl)))
    clear hgs hbx_
    have HD70 := Lib.hid (show BoxL w70 w30.heap.size [.int .i64 o.idx, .int .i64 o.par, .string o.nm, .string o.orig, .string d.sub, .string d.drv, .string d.ali, .int .i64 o.kind, .int .i64 d.num, .slice A4 d.attrs.length c4] from dw70.out)
    by_cases hk4 : o.kind = 4
    ·
     have ek : (o.kind == 4) = true := by rw [hk4]; rfl
     have ek1 : (o.kind == 1) = false := by rw [hk4]; rfl
     clear hk4
     have cfa := aw70.out.2.1
     have cfb := bw70.out.2.1
     have cd2 := HD70.out.1 2 _ rfl
     have cd7 := HD70.out.1 7 _ rfl
     have cfd := HD70.out.2.1
     go_wp2_with fail
     refine (One_lit [⟨#[101, 116, 104, 48]⟩, ⟨#[101, 116, 104, 49]⟩, ⟨#[108, 97, 110, 48]⟩, ⟨#[116, 97, 112]⟩] xs (k3 + 1) w.heap.size w.heap.size _ _ w70 4 rfl rfl (by have := HK3.out; omega) HTPw70.out (by simp) (by simp)).mono ?_
     rintro e w71 ⟨nm, hm_, rfl, ht_, hg_⟩
     clear cfa cfb cd2 cd7 cfd
     have HBw71 := Lib.hid (HBw70.out.grown hg_ HBw70.out.size (fun q hq => by have := Option.some.inj hq; omega))
     have HTPw71 := Lib.hid ht_
     have tw71 := Lib.hid (tw70.out.kept hg_ (fun e => by have := Option.some.inj e; have := HGY.out; have := HGD.out; have := HGO.out; omega))
     have aw71 := Lib.hid (aw70.out.kept hg_ (fun e => by have := Option.some.inj e; have := HGY.out; have := HGD.out; have := HGO.out; omega))
     have bw71 := Lib.hid (bw70.out.kept hg_ (fun e => by have := Option.some.inj e; have := HGY.out; have := HGD.out; have := HGO.out; omega))
     have dw71 := Lib.hid (HD70.out.kept hg_ (fun e => by have := Option.some.inj e; have := HGY.out; have := HGD.out; have := HGO.out; omega))
     have ow71 := Lib.hid (ow70.out.kept hg_ (fun e => by have := Option.some.inj e; have := HGY.out; have := HGD.out; have := HGO.out; omega))
     have HXFw71 := Lib.hid (HXFw70.out.grown hg_ (.inl (.inl (.inl (.inl rfl)))))
     have HDAw71 := Lib.hid (HDAw70.out.grown hg_ (.inl (.inl (.inl (.inl rfl)))))
     have HNM := Lib.hid (show nm.size ≤ maxLen from by simp only [List.mem_cons, List.not_mem_nil, or_false] at hm_; rcases hm_ with rfl | rfl | rfl | rfl <;> decide)
     clear hm_ ht_ hg_
     have cfa := aw71.out.2.1
     have cfb := bw71.out.2.1
     have cd2 := dw71.out.1 2 _ rfl
     have cfd := dw71.out.2.1
     go_upto_region 17 with fail
     clear cfa cfb cd2 cfd
     have hgs := grown_one w71 w30.heap.size 2 (.string nm)
     have hbx_ := dw71.out.set_ (j := 2) (by simp) (.string nm)
     obtain ⟨w72, hw72⟩ : ∃ z, w71.setCell ⟨w30.heap.size, 2, none⟩ (.string nm) = z := ⟨_, rfl⟩
     rw [hw72] at hgs hbx_ ⊢
     clear hw72
     have dw72 := Lib.hid hbx_
     have HBw72 := Lib.hid (HBw71.out.grown hgs HBw71.out.size (fun q hq => by have := Option.some.inj hq; have := HGY.out; have := HGD.out; have := HGO.out; omega))
     have tw72 := Lib.hid (tw71.out.kept hgs (fun e => by have := Option.some.inj e; have := HGY.out; have := HGD.out; have := HGO.out; omega))
     have aw72 := Lib.hid (aw71.out.kept hgs (fun e => by have := Option.some.inj e; have := HGY.out; have := HGD.out; have := HGO.out; omega))
     have bw72 := Lib.hid (bw71.out.kept hgs (fun e => by have := Option.some.inj e; have := HGY.out; have := HGD.out; have := HGO.out; omega))
     have ow72 := Lib.hid (ow71.out.kept hgs (fun e => by have := Option.some.inj e; have := HGY.out; have := HGD.out; have := HGO.out; omega))
     have HTPw72 := Lib.hid (HTPw71.out.kept hgs (fun e => by have := Option.some.inj e; have := HGY.out; have := HGD.out; have := HGO.out; omega) (fun q e => by have := Option.some.inj e; have := HGY.out; have := HGD.out; have := HGO.out; omega))
     have HXFw72 := Lib.hid (HXFw71.out.grown hgs (.inl (.inr rfl)))
     have HDAw72 := Lib.hid (HDAw71.out.grown hgs (.inl (.inr rfl)))
     clear hgs hbx_
     have HD72 := Lib.hid (show BoxL w72 w30.heap.size [.int .i64 o.idx, .int .i64 o.par, .string nm, .string o.orig, .string d.sub, .string d.drv, .string d.ali, .int .i64 o.kind, .int .i64 d.num, .slice A4 d.attrs.length c4] from dw72.out)
     have cfa := aw72.out.2.1
     have cfb := bw72.out.2.1
     have cd7 := HD72.out.1 7 _ rfl
     have cd8 := HD72.out.1 8 _ rfl
     have cfd := HD72.out.2.1
     go_wp2_with fail
     clear cfa cfb cd7 cd8 cfd
     have hgs := grown_one w72 w30.heap.size 8 (.int .i64 0)
     have hbx_ := HD72.out.set_ (j := 8) (by simp) (.int .i64 0)
     obtain ⟨w73, hw73⟩ : ∃ z, w72.setCell ⟨w30.heap.size, 8, none⟩ (.int .i64 0) = z := ⟨_, rfl⟩
     rw [hw73] at hgs hbx_ ⊢
     clear hw73
     have dw73 := Lib.hid hbx_
     have HBw73 := Lib.hid (HBw72.out.grown hgs HBw72.out.size (fun q hq => by have := Option.some.inj hq; have := HGY.out; have := HGD.out; have := HGO.out; omega))
     have tw73 := Lib.hid (tw72.out.kept hgs (fun e => by have := Option.some.inj e; have := HGY.out; have := HGD.out; have := HGO.out; omega))
     have aw73 := Lib.hid (aw72.out.kept hgs (fun e => by have := Option.some.inj e; have := HGY.out; have := HGD.out; have := HGO.out; omega))
     have bw73 := Lib.hid (bw72.out.kept hgs (fun e => by have := Option.some.inj e; have := HGY.out; have := HGD.out; have := HGO.out; omega))
     have ow73 := Lib.hid (ow72.out.kept hgs (fun e => by have := Option.some.inj e; have := HGY.out; have := HGD.out; have := HGO.out; omega))
     have HTPw73 := Lib.hid (HTPw72.out.kept hgs (fun e => by have := Option.some.inj e; have := HGY.out; have := HGD.out; have := HGO.out; omega) (fun q e => by have := Option.some.inj e; have := HGY.out; have := HGD.out; have := HGO.out; omega))
     have HXFw73 := Lib.hid (HXFw72.out.grown hgs (.inl (.inr rfl)))
     have HDAw73 := Lib.hid (HDAw72.out.grown hgs (.inl (.inr rfl)))
     clear hgs hbx_
     have HDw73 := Lib.hid (show BoxL w73 w30.heap.size [.int .i64 o.idx, .int .i64 o.par, .string nm, .string o.orig, .string d.sub, .string d.drv, .string d.ali, .int .i64 o.kind, .int .i64 0, .slice A4 d.attrs.length c4] from dw73.out)
     have HDF := Lib.hid (show devOk ({ d with idx := o.idx, par := o.par, nm := nm, orig := o.orig, kind := o.kind, num := 0 } : Dev) from ⟨HOO.out.1, HOO.out.2.1, HNM.out, HOO.out.2.2.2.1, HDD.out.2.2.2.2.1, HDD.out.2.2.2.2.2.1, HDD.out.2.2.2.2.2.2.1, HOO.out.2.2.2.2.2.2.2.1, HZ0.out⟩)
     go_meet
     exact ⟨({ d with idx := o.idx, par := o.par, nm := nm, orig := o.orig, kind := o.kind, num := 0 } : Dev), _, _, Lib.hid ⟨HBw73.out, tw73.out, aw73.out, bw73.out, HDw73.out, HXFw73.out.more (fun x _ h => .inl h), HDAw73.out.more (fun x _ h => .inl h), HDF.out⟩⟩
    ·
     have ek : (o.kind == 4) = false := by simpa using hk4
     have HNM := Lib.hid (show o.nm.size ≤ maxLen from HOO.out.2.2.1)
     clear hk4
     by_cases hk1 : o.kind = 1
     ·
      have ek1 : (o.kind == 1) = true := by rw [hk1]; rfl
      clear hk1
      have cfa := aw70.out.2.1
      have cfb := bw70.out.2.1
      have cd7 := HD70.out.1 7 _ rfl
      have cd8 := HD70.out.1 8 _ rfl
      have cfd := HD70.out.2.1
      go_wp2_with fail
      clear cfa cfb cd7 cd8 cfd
      have hgs := grown_one w70 w30.heap.size 8 (.int .i64 0)
      have hbx_ := HD70.out.set_ (j := 8) (by simp) (.int .i64 0)
      obtain ⟨w73, hw73⟩ : ∃ z, w70.setCell ⟨w30.heap.size, 8, none⟩ (.int .i64 0) = z := ⟨_, rfl⟩
      rw [hw73] at hgs hbx_ ⊢
      clear hw73
      have dw73 := Lib.hid hbx_
      have HBw73 := Lib.hid (HBw70.out.grown hgs HBw70.out.size (fun q hq => by have := Option.some.inj hq; have := HGY.out; have := HGD.out; have := HGO.out; omega))
      have tw73 := Lib.hid (tw70.out.kept hgs (fun e => by have := Option.some.inj e; have := HGY.out; have := HGD.out; have := HGO.out; omega))
      have aw73 := Lib.hid (aw70.out.kept hgs (fun e => by have := Option.some.inj e; have := HGY.out; have := HGD.out; have := HGO.out; omega))
      have bw73 := Lib.hid (bw70.out.kept hgs (fun e => by have := Option.some.inj e; have := HGY.out; have := HGD.out; have := HGO.out; omega))
      have ow73 := Lib.hid (ow70.out.kept hgs (fun e => by have := Option.some.inj e; have := HGY.out; have := HGD.out; have := HGO.out; omega))
      have HTPw73 := Lib.hid (HTPw70.out.kept hgs (fun e => by have := Option.some.inj e; have := HGY.out; have := HGD.out; have := HGO.out; omega) (fun q e => by have := Option.some.inj e; have := HGY.out; have := HGD.out; have := HGO.out; omega))
      have HXFw73 := Lib.hid (HXFw70.out.grown hgs (.inl (.inr rfl)))
      have HDAw73 := Lib.hid (HDAw70.out.grown hgs (.inl (.inr rfl)))
      clear hgs hbx_
      have HDw73 := Lib.hid (show BoxL w73 w30.heap.size [.int .i64 o.idx, .int .i64 o.par, .string o.nm, .string o.orig, .string d.sub, .string d.drv, .string d.ali, .int .i64 o.kind, .int .i64 0, .slice A4 d.attrs.length c4] from dw73.out)
      have HDF := Lib.hid (show devOk ({ d with idx := o.idx, par := o.par, nm := o.nm, orig := o.orig, kind := o.kind, num := 0 } : Dev) from ⟨HOO.out.1, HOO.out.2.1, HNM.out, HOO.out.2.2.2.1, HDD.out.2.2.2.2.1, HDD.out.2.2.2.2.2.1, HDD.out.2.2.2.2.2.2.1, HOO.out.2.2.2.2.2.2.2.1, HZ0.out⟩)
      go_meet
      exact ⟨({ d with idx := o.idx, par := o.par, nm := o.nm, orig := o.orig, kind := o.kind, num := 0 } : Dev), _, _, Lib.hid ⟨HBw73.out, tw73.out, aw73.out, bw73.out, HDw73.out, HXFw73.out.more (fun x _ h => .inl h), HDAw73.out.more (fun x _ h => .inl h), HDF.out⟩⟩
     ·
      have ek1 : (o.kind == 1) = false := by simpa using hk1
      clear hk1
      have cfa := aw70.out.2.1
      have cfb := bw70.out.2.1
      have cd7 := HD70.out.1 7 _ rfl
      have cd8 := HD70.out.1 8 _ rfl
      have cfd := HD70.out.2.1
      have HDF := Lib.hid (show devOk ({ d with idx := o.idx, par := o.par, nm := o.nm, orig := o.orig, kind := o.kind, num := d.num } : Dev) from ⟨HOO.out.1, HOO.out.2.1, HNM.out, HOO.out.2.2.2.1, HDD.out.2.2.2.2.1, HDD.out.2.2.2.2.2.1, HDD.out.2.2.2.2.2.2.1, HOO.out.2.2.2.2.2.2.2.1, HDD.out.2.2.2.2.2.2.2.2⟩)
      go_wp2_with fail
      go_meet
      exact ⟨({ d with idx := o.idx, par := o.par, nm := o.nm, orig := o.orig, kind := o.kind, num := d.num } : Dev), _, _, Lib.hid ⟨HBw70.out, tw70.out, aw70.out, bw70.out, HD70.out, HXFw70.out.more (fun x _ h => .inl h), HDAw70.out.more (fun x _ h => .inl h), HDF.out⟩⟩
   ·
    have HDF := Lib.hid (show devOk ({ d with idx := o.idx } : Dev) from ⟨HOO.out.1, HDD.out.2⟩)
    go_wp2_with fail
    go_meet
    exact ⟨({ d with idx := o.idx } : Dev), _, _, Lib.hid ⟨HBw51.out, tw51.out, aw51.out, bw51.out, dw51.out, HXFw51.out.more (fun x _ h => .inl h), HDAw51.out.more (fun x _ h => .inl h), HDF.out⟩⟩
 case rest =>
 obtain ⟨d2, va, vb, HCB⟩ := hcut
 obtain ⟨hb_, ht_, ha_, hbb_, hd_, hx_, hda_, hok2⟩ := HCB.out
 obtain ⟨wk, hwk⟩ : ∃ z, z = wc := ⟨_, rfl⟩
 subst hwk
 have HBk := Lib.hid hb_; have HTk := Lib.hid ht_; have HAk := Lib.hid ha_; have HBBk := Lib.hid hbb_; have HDk := Lib.hid (show BoxL wk w30.heap.size [.int .i64 d2.idx, .int .i64 d2.par, .string d2.nm, .string d2.orig, .string d2.sub, .string d2.drv, .string d2.ali, .int .i64 d2.kind, .int .i64 d2.num, .slice A4 d2.attrs.length c4] from hd_); have HXk := Lib.hid hx_; have HDAk := Lib.hid hda_; have HOK2 := Lib.hid hok2
 clear hb_ ht_ ha_ hbb_ hd_ hx_ hda_ hok2 HCB
 have HRk := Lib.hid (HRAW.out.old HBk.out (by have := HGI.out; omega))
 have HRAk := Lib.hid (show FreeS (cN w.heap.size w10.heap.size w20.heap.size) wk A2 c2 D.attrs from FreeS.old HA.out HBk.out (Nat.le_refl _) (fun x hx h => by have := HGY.out; rcases h with (h | h) | h <;> omega))
 have cd0 := HDk.out.1 0 _ rfl
 have cd1 := HDk.out.1 1 _ rfl
 have cd2 := HDk.out.1 2 _ rfl
 have cd3 := HDk.out.1 3 _ rfl
 have cd4 := HDk.out.1 4 _ rfl
 have cd5 := HDk.out.1 5 _ rfl
 have cd6 := HDk.out.1 6 _ rfl
 have cd7 := HDk.out.1 7 _ rfl
 have cd8 := HDk.out.1 8 _ rfl
 have cd9 := HDk.out.1 9 _ rfl
 have craw0 := HRk.out.1 0 _ rfl
 have craw1 := HRk.out.1 1 _ rfl
 have craw2 := HRk.out.1 2 _ rfl
 have craw3 := HRk.out.1 3 _ rfl
 have craw4 := HRk.out.1 4 _ rfl
 have craw5 := HRk.out.1 5 _ rfl
 have craw6 := HRk.out.1 6 _ rfl
 have craw7 := HRk.out.1 7 _ rfl
 have craw8 := HRk.out.1 8 _ rfl
 have craw9 := HRk.out.1 9 _ rfl
 go_upto_region 20 with fail
 clear cd0 cd1 cd2 cd3 cd4 cd5 cd6 cd7 cd8 cd9 craw0 craw1 craw2 craw3 craw4 craw5 craw6 craw7 craw8 craw9
 have HGLX := Lib.hid (show w2.heap.size < wk.heap.size ∧ w10.heap.size < wk.heap.size ∧ w20.heap.size < wk.heap.size from ⟨HTk.out.2.2, HAk.out.2.2, HBBk.out.2.2⟩)
 obtain ⟨w81, hw81⟩ : ∃ w81, wk.alloc (.cells #[.int .i64 D.idx, .int .i64 D.par, .string D.nm, .string D.orig, .string D.sub, .string D.drv, .string D.ali, .int .i64 D.kind, .int .i64 D.num, .slice A2 D.attrs.length c2, .int .i64 d2.idx, .int .i64 d2.par, .string d2.nm, .string d2.orig, .string d2.sub, .string d2.drv, .string d2.ali, .int .i64 d2.kind, .int .i64 d2.num, .slice A4 d2.attrs.length c4] 34) = w81 := ⟨_, rfl⟩
 have hbw81 : Below wk.heap.size wk w81 := by rw [← hw81]; exact (Below.refl _ _).alloc (Nat.le_refl _) _
 have HGw81 := Lib.hid (show w81.heap.size = wk.heap.size + 1 by rw [← hw81]; simp)
 have HXlw81 := Lib.hid (show BoxL w81 wk.heap.size [.int .i64 D.idx, .int .i64 D.par, .string D.nm, .string D.orig, .string D.sub, .string D.drv, .string D.ali, .int .i64 D.kind, .int .i64 D.num, .slice A2 D.attrs.length c2, .int .i64 d2.idx, .int .i64 d2.par, .string d2.nm, .string d2.orig, .string d2.sub, .string d2.drv, .string d2.ali, .int .i64 d2.kind, .int .i64 d2.num, .slice A4 d2.attrs.length c4] from box_mk hw81)
 try simp only [hw81]
 have HSTEPw81 := Lib.hid hbw81
 have HSw81 := Lib.hid (show wk.heap.size ≤ w81.heap.size from hbw81.size)
 have HBw81 := Lib.hid (HBk.out.trans (hbw81.mono HBk.out.size))
 have tw81 := Lib.hid (HTk.out.kept (grown_none hbw81) (fun e => by cases e))
 have aw81 := Lib.hid (HAk.out.kept (grown_none hbw81) (fun e => by cases e))
 have bw81 := Lib.hid (HBBk.out.kept (grown_none hbw81) (fun e => by cases e))
 have dw81 := Lib.hid (HDk.out.kept (grown_none hbw81) (fun e => by cases e))
 have raww81 := Lib.hid (HRk.out.kept (grown_none hbw81) (fun e => by cases e))
 have HXFw81 := Lib.hid (HXk.out.below hbw81)
 have HDAw81 := Lib.hid (HDAk.out.below hbw81)
 have HRAw81 := Lib.hid (HRAk.out.below hbw81)
 clear hw81 hbw81
 try rw [show wk.heap.size + 1 = w81.heap.size from HGw81.out.symm]
 have HGL := Lib.hid (show w2.heap.size < wk.heap.size ∧ w10.heap.size < wk.heap.size ∧ w20.heap.size < wk.heap.size from HGLX.out)
 have HLP := Lib.hid (show ChgLoop w w2.heap.size w10.heap.size w20.heap.size wk.heap.size AT cT L D A2 c2 d2 A4 c4 w81 from ⟨HBw81.out, tw81.out, ⟨_, aw81.out⟩, ⟨_, bw81.out⟩, HXlw81.out, HXFw81.out, HRAw81.out, HDAw81.out⟩)
 go_wp2_with fail
 go_loopw [16] (fun i wr => ∃ k : Nat, k ≤ 2 ∧ i = .int .i64 k ∧ Hid (ChgLoop w w2.heap.size w10.heap.size w20.heap.size wk.heap.size AT cT L D A2 c2 d2 A4 c4 wr)) (fun i _ => 2 - (intOf i).toNat)
 case atStart => exact ⟨0, by omega, rfl, HLP⟩
 case round =>
  clear HLP
  obtain ⟨k, hk, rfl, HLP⟩ := hrel
  obtain ⟨hb_, ht_, ⟨va, ha_⟩, ⟨vb, hbb_⟩, hl_, hx_, hra_, hda_⟩ := HLP.out
  have HBr := Lib.hid hb_; have HTr := Lib.hid ht_; have HAr := Lib.hid ha_; have HBBr := Lib.hid hbb_; have HLr := Lib.hid hl_; have HXr := Lib.hid hx_; have HRAr := Lib.hid hra_; have HDAr := Lib.hid hda_
  clear hb_ ht_ ha_ hbb_ hl_ hx_ hra_ hda_ HLP
  by_cases hlt : k < 2
  ·
   have i3 : (k : Int) < 2 := by omega
   obtain ⟨e, Ae, ce, hde, hoke, hfe⟩ : ∃ (e : Dev) (Ae : Option Addr) (ce : Nat), DIn wr wk.heap.size (k * 10) e Ae ce ∧ devOk e ∧ FreeS (cN w.heap.size w10.heap.size w20.heap.size) wr Ae ce e.attrs := by
    obtain ⟨q1, q2⟩ := two_devs HLr.out
    rcases (show k = 0 ∨ k = 1 by omega) with rfl | rfl
    · exact ⟨D, A2, c2, q1, HDO.out, HRAr.out⟩
    · exact ⟨d2, A4, c4, q2, HOK2.out, HDAr.out⟩
   have HDE := Lib.hid hde; have HOE := Lib.hid hoke; have HFE := Lib.hid hfe
   clear hde hoke hfe
   obtain ⟨z2, hz⟩ : ∃ z, chgE L e = z := ⟨_, rfl⟩
   obtain ⟨l2, hl⟩ : ∃ z, chgX L e = z := ⟨_, rfl⟩
   have HZ2 := Lib.hid hz; have HLZ2 := Lib.hid hl; clear hz hl
   go_upto_region 23 with fail
   refine wp_region_held_drew (S := fun w' => BoxL w' w2.heap.size [.slice AT L.length cT] ∧ DIn w' wk.heap.size (k * 10) e Ae ce) (by kernel_rfl) ⟨HTr.out.drew, HDE.out.drew⟩ (fun hS0 => ?_)
   obtain ⟨wd23, hwd23⟩ : ∃ z, World.drew wr = z := ⟨_, rfl⟩
   rw [hwd23] at hS0 ⊢
   have hb_ : Below wr.heap.size wr wd23 := by rw [← hwd23]; exact below_drewN_self _ _ 1
   clear hwd23 hS0
   have HSwd23 := Lib.hid (show wr.heap.size ≤ wd23.heap.size from hb_.size)
   have HBwd23 := Lib.hid (HBr.out.trans (hb_.mono HBr.out.size))
   have twd23 := Lib.hid (HTr.out.kept (grown_none hb_) (fun e => by cases e))
   have awd23 := Lib.hid (HAr.out.kept (grown_none hb_) (fun e => by cases e))
   have bwd23 := Lib.hid (HBBr.out.kept (grown_none hb_) (fun e => by cases e))
   have lwd23 := Lib.hid (HLr.out.kept (grown_none hb_) (fun e => by cases e))
   have HXFwd23 := Lib.hid (HXr.out.below hb_)
   have HDAwd23 := Lib.hid (HDAr.out.below hb_)
   have HRAwd23 := Lib.hid (HRAr.out.below hb_)
   have HDEwd23 := Lib.hid (HDE.out.below hb_)
   have HFEwd23 := Lib.hid (HFE.out.below hb_)
   clear hb_
   refine wpAnyH_take (i := 0) (oi := ⟨some 100, _, _, _, _, _⟩) (v := .agg #[.slice AT L.length cT]) rfl (by kernel_rfl) (by kernel_rfl) (by kernel_rfl) (fun _ _ _ h => h) (Or.inl ⟨by rfl, fun w' hS => by (have u0_ := hS.1.1 0 _ rfl; go_simp)⟩) ⟨twd23.out, HDEwd23.out⟩ ?_
   try simp only [Act.put, List.setIfInBounds_toArray, List.set_cons_zero, List.set_cons_succ]
   refine wpAnyH_take (i := 1) (oi := ⟨some 101, _, _, _, _, _⟩) (v := .slice (some ⟨wk.heap.size, 0, none⟩) 2 2) rfl (by kernel_rfl) (by kernel_rfl) (by kernel_rfl) (fun _ _ _ h => h) (Or.inl ⟨by rfl, fun w' hS => by go_simp⟩) ⟨twd23.out, HDEwd23.out⟩ ?_
   try simp only [Act.put, List.setIfInBounds_toArray, List.set_cons_zero, List.set_cons_succ]
   refine wpAnyH_take (i := 2) (oi := ⟨some 102, _, _, _, _, _⟩) (v := .int .i64 k) rfl (by kernel_rfl) (by kernel_rfl) (by kernel_rfl) (fun _ _ _ h => h) (Or.inl ⟨by rfl, fun w' hS => by go_simp⟩) ⟨twd23.out, HDEwd23.out⟩ ?_
   try simp only [Act.put, List.setIfInBounds_toArray, List.set_cons_zero, List.set_cons_succ]
   refine wpAnyH_take (i := 3) (oi := ⟨some 103, _, _, _, _, _⟩) (v := .pointer (some ⟨wk.heap.size, k * 10, none⟩)) rfl (by kernel_rfl) (by kernel_rfl) (by kernel_rfl) (fun _ _ _ h => h) (Or.inl ⟨by rfl, fun w' hS => by go_simp⟩) ⟨twd23.out, HDEwd23.out⟩ ?_
   try simp only [Act.put, List.setIfInBounds_toArray, List.set_cons_zero, List.set_cons_succ]
   refine wpAnyH_take (i := 4) (oi := ⟨some 104, _, _, _, _, _⟩) (v := .agg #[.int .i64 e.idx, .int .i64 e.par, .string e.nm, .string e.orig, .string e.sub, .string e.drv, .string e.ali, .int .i64 e.kind, .int .i64 e.num, .slice Ae e.attrs.length ce]) rfl (by kernel_rfl) (by kernel_rfl) (by kernel_rfl) (fun _ _ _ h => h) (Or.inl ⟨by rfl, fun w' hS => by (obtain ⟨u0, u1, u2, u3, u4, u5, u6, u7, u8, u9⟩ := hS.2.1; go_simp)⟩) ⟨twd23.out, HDEwd23.out⟩ ?_
   try simp only [Act.put, List.setIfInBounds_toArray, List.set_cons_zero, List.set_cons_succ]
   have HNLT := Lib.hid (show w.heap.size < wd23.heap.size ∧ w10.heap.size < wd23.heap.size ∧ w20.heap.size < wd23.heap.size from ⟨by have := HGY.out; have := twd23.out.2.2; omega, awd23.out.2.2, bwd23.out.2.2⟩)
   have hcc := Change_any AT cT L e Ae ce wd23 _ (Nat.le_refl _) HXFwd23.out.out HOE.out HFEwd23.out.out HVT.out (HOK.out.next HBwd23.out)
   rw [HZ2.out, HLZ2.out] at hcc
   have HCC := Lib.hid hcc; clear hcc
   refine wpAnyH_ready (rs := [5]) (by kernel_rfl) (by simp) ?_
   refine AllReadyH.cons (o := ⟨some 105, .call ⟨_, _, _⟩, _, _, _, _⟩) rfl (fun K hK => ?_) AllReadyH.nil
   go_simp
   go_at_call 46
   refine Calls.mono HCC.out ?_
   rintro e' q23 ⟨hb_, v, rfl, hown_⟩
   clear HCC
   have HSq23 := Lib.hid (show wd23.heap.size ≤ q23.heap.size from hb_.size)
   have HBq23 := Lib.hid (HBwd23.out.trans (hb_.mono HBwd23.out.size))
   have tq23 := Lib.hid (twd23.out.kept (grown_none hb_) (fun e => by cases e))
   have aq23 := Lib.hid (awd23.out.kept (grown_none hb_) (fun e => by cases e))
   have bq23 := Lib.hid (bwd23.out.kept (grown_none hb_) (fun e => by cases e))
   have lq23 := Lib.hid (lwd23.out.kept (grown_none hb_) (fun e => by cases e))
   have HXFq23 := Lib.hid (HXFwd23.out.below hb_)
   have HDAq23 := Lib.hid (HDAwd23.out.below hb_)
   have HRAq23 := Lib.hid (HRAwd23.out.below hb_)
   have HDEq23 := Lib.hid (HDEwd23.out.below hb_)
   have HFEq23 := Lib.hid (HFEwd23.out.below hb_)
   obtain ⟨A8, c8, rfl, hfr_⟩ := hown_.free (N := (cN w.heap.size w10.heap.size w20.heap.size)) (fun x hx => by have := HNLT.out; rcases hx with (h | h) | h <;> constructor <;> (try intro h9) <;> (try have h9 : _ ≤ x := h9) <;> omega)
   have HFa := Lib.hid hfr_; clear hown_ hfr_ HNLT hb_
   refine hK.out _ _ ⟨tq23.out, HDEq23.out⟩ (fun _ => ?_)
   clear hK K
   try simp only [Act.put, List.setIfInBounds_toArray, List.set_cons_zero, List.set_cons_succ]
   refine wpAnyH_take (i := 6) (oi := ⟨some 99, _, _, _, _, _⟩) (v := .tuple #[.agg #[.slice A8 l2.length c8], .int .i64 z2]) rfl (by kernel_rfl) (by kernel_rfl) (by kernel_rfl) (fun _ _ _ h => h) (Or.inl ⟨by rfl, fun w' hS => by go_simp⟩) ⟨tq23.out, HDEq23.out⟩ ?_
   try simp only [Act.put, List.setIfInBounds_toArray, List.set_cons_zero, List.set_cons_succ]
   refine wpAnyH_take (i := 7) (oi := ⟨some 106, _, _, _, _, _⟩) (v := .agg #[.slice A8 l2.length c8]) rfl (by kernel_rfl) (by kernel_rfl) (by kernel_rfl) (fun _ _ _ h => h) (Or.inl ⟨by rfl, fun w' hS => by go_simp⟩) ⟨tq23.out, HDEq23.out⟩ ?_
   try simp only [Act.put, List.setIfInBounds_toArray, List.set_cons_zero, List.set_cons_succ]
   refine wpAnyH_take (i := 8) (oi := ⟨some 107, _, _, _, _, _⟩) (v := .int .i64 z2) rfl (by kernel_rfl) (by kernel_rfl) (by kernel_rfl) (fun _ _ _ h => h) (Or.inl ⟨by rfl, fun w' hS => by go_simp⟩) ⟨tq23.out, HDEq23.out⟩ ?_
   try simp only [Act.put, List.setIfInBounds_toArray, List.set_cons_zero, List.set_cons_succ]
   refine wpAnyH_ready (rs := [9]) (by kernel_rfl) (by simp) ?_
   refine AllReadyH.cons (o := ⟨none, .store _ _ _, _, _, _, _⟩) rfl (fun K hK => ?_) AllReadyH.nil
   have cy0 := aq23.out.1 0 _ rfl; have cyf := aq23.out.2.1
   go_simp
   clear cy0 cyf
   have hgs := grown_one q23 w10.heap.size 0 (.slice A8 l2.length c8)
   have hbx_ := aq23.out.set_ (j := 0) (by simp) (.slice A8 l2.length c8)
   obtain ⟨wz23, hwz23⟩ : ∃ z, q23.setCell ⟨w10.heap.size, 0, none⟩ (.slice A8 l2.length c8) = z := ⟨_, rfl⟩
   rw [hwz23] at hgs hbx_ ⊢
   clear hwz23
   have awz23 := Lib.hid hbx_
   have HBwz23 := Lib.hid (HBq23.out.grown hgs HBq23.out.size (fun q hq => by have := Option.some.inj hq; have := HGY.out; have := HGL.out; omega))
   have twz23 := Lib.hid (tq23.out.kept hgs (fun e => by have := Option.some.inj e; have := HGY.out; have := HGL.out; omega))
   have bwz23 := Lib.hid (bq23.out.kept hgs (fun e => by have := Option.some.inj e; have := HGY.out; have := HGL.out; omega))
   have lwz23 := Lib.hid (lq23.out.kept hgs (fun e => by have := Option.some.inj e; have := HGY.out; have := HGL.out; omega))
   have HXFwz23 := Lib.hid (HXFq23.out.grown hgs (.inl (.inl (.inr rfl))))
   have HDAwz23 := Lib.hid (HDAq23.out.grown hgs (.inl (.inl (.inr rfl))))
   have HRAwz23 := Lib.hid (HRAq23.out.grown hgs (.inl (.inl (.inr rfl))))
   have HDEwz23 := Lib.hid (HDEq23.out.grown hgs (by have := HGL.out; omega))
   have HFEwz23 := Lib.hid (HFEq23.out.grown hgs (.inl (.inl (.inr rfl))))
   have HFawz23 := Lib.hid (HFa.out.grown hgs (.inl (.inl (.inr rfl))))
   clear hgs hbx_
   refine hK.out _ _ ⟨twz23.out, HDEwz23.out⟩ (fun _ => ?_)
   clear hK K
   try simp only [Act.put, List.setIfInBounds_toArray, List.set_cons_zero, List.set_cons_succ]
   refine wpAnyH_take (i := 10) (oi := ⟨some 9, _, _, _, _, _⟩) (v := .int .i64 z2) rfl (by kernel_rfl) (by kernel_rfl) (by kernel_rfl) (fun _ _ _ h => h) (Or.inl ⟨by rfl, fun w' hS => by go_simp⟩) ⟨twz23.out, HDEwz23.out⟩ ?_
   try simp only [Act.put, List.setIfInBounds_toArray, List.set_cons_zero, List.set_cons_succ]
   refine wpAnyH_done (by kernel_rfl) ?_ _
   go_upto_region 24 with fail
   refine wp_region_held_drew (S := fun w' => BoxL w' w2.heap.size [.slice AT L.length cT] ∧ DIn w' wk.heap.size (k * 10) e Ae ce) (by kernel_rfl) ⟨twz23.out.drew, HDEwz23.out.drew⟩ (fun hS0 => ?_)
   obtain ⟨wd24, hwd24⟩ : ∃ z, World.drew wz23 = z := ⟨_, rfl⟩
   rw [hwd24] at hS0 ⊢
   have hb_ : Below wz23.heap.size wz23 wd24 := by rw [← hwd24]; exact below_drewN_self _ _ 1
   clear hwd24 hS0
   have HSwd24 := Lib.hid (show wz23.heap.size ≤ wd24.heap.size from hb_.size)
   have HBwd24 := Lib.hid (HBwz23.out.trans (hb_.mono HBwz23.out.size))
   have twd24 := Lib.hid (twz23.out.kept (grown_none hb_) (fun e => by cases e))
   have awd24 := Lib.hid (awz23.out.kept (grown_none hb_) (fun e => by cases e))
   have bwd24 := Lib.hid (bwz23.out.kept (grown_none hb_) (fun e => by cases e))
   have lwd24 := Lib.hid (lwz23.out.kept (grown_none hb_) (fun e => by cases e))
   have HXFwd24 := Lib.hid (HXFwz23.out.below hb_)
   have HDAwd24 := Lib.hid (HDAwz23.out.below hb_)
   have HRAwd24 := Lib.hid (HRAwz23.out.below hb_)
   have HDEwd24 := Lib.hid (HDEwz23.out.below hb_)
   have HFEwd24 := Lib.hid (HFEwz23.out.below hb_)
   have HFawd24 := Lib.hid (HFawz23.out.below hb_)
   clear hb_
   refine wpAnyH_take (i := 0) (oi := ⟨some 109, _, _, _, _, _⟩) (v := .agg #[.slice AT L.length cT]) rfl (by kernel_rfl) (by kernel_rfl) (by kernel_rfl) (fun _ _ _ h => h) (Or.inl ⟨by rfl, fun w' hS => by (have u0_ := hS.1.1 0 _ rfl; go_simp)⟩) ⟨twd24.out, HDEwd24.out⟩ ?_
   try simp only [Act.put, List.setIfInBounds_toArray, List.set_cons_zero, List.set_cons_succ]
   refine wpAnyH_take (i := 1) (oi := ⟨some 110, _, _, _, _, _⟩) (v := .slice (some ⟨wk.heap.size, 0, none⟩) 2 2) rfl (by kernel_rfl) (by kernel_rfl) (by kernel_rfl) (fun _ _ _ h => h) (Or.inl ⟨by rfl, fun w' hS => by go_simp⟩) ⟨twd24.out, HDEwd24.out⟩ ?_
   try simp only [Act.put, List.setIfInBounds_toArray, List.set_cons_zero, List.set_cons_succ]
   refine wpAnyH_take (i := 2) (oi := ⟨some 111, _, _, _, _, _⟩) (v := .int .i64 k) rfl (by kernel_rfl) (by kernel_rfl) (by kernel_rfl) (fun _ _ _ h => h) (Or.inl ⟨by rfl, fun w' hS => by go_simp⟩) ⟨twd24.out, HDEwd24.out⟩ ?_
   try simp only [Act.put, List.setIfInBounds_toArray, List.set_cons_zero, List.set_cons_succ]
   refine wpAnyH_take (i := 3) (oi := ⟨some 112, _, _, _, _, _⟩) (v := .pointer (some ⟨wk.heap.size, k * 10, none⟩)) rfl (by kernel_rfl) (by kernel_rfl) (by kernel_rfl) (fun _ _ _ h => h) (Or.inl ⟨by rfl, fun w' hS => by go_simp⟩) ⟨twd24.out, HDEwd24.out⟩ ?_
   try simp only [Act.put, List.setIfInBounds_toArray, List.set_cons_zero, List.set_cons_succ]
   refine wpAnyH_take (i := 4) (oi := ⟨some 113, _, _, _, _, _⟩) (v := .agg #[.int .i64 e.idx, .int .i64 e.par, .string e.nm, .string e.orig, .string e.sub, .string e.drv, .string e.ali, .int .i64 e.kind, .int .i64 e.num, .slice Ae e.attrs.length ce]) rfl (by kernel_rfl) (by kernel_rfl) (by kernel_rfl) (fun _ _ _ h => h) (Or.inl ⟨by rfl, fun w' hS => by (obtain ⟨u0, u1, u2, u3, u4, u5, u6, u7, u8, u9⟩ := hS.2.1; go_simp)⟩) ⟨twd24.out, HDEwd24.out⟩ ?_
   try simp only [Act.put, List.setIfInBounds_toArray, List.set_cons_zero, List.set_cons_succ]
   have HNLT := Lib.hid (show w.heap.size < wd24.heap.size ∧ w10.heap.size < wd24.heap.size ∧ w20.heap.size < wd24.heap.size from ⟨by have := HGY.out; have := twd24.out.2.2; omega, awd24.out.2.2, bwd24.out.2.2⟩)
   have hcc := RChange_any AT cT L e Ae ce (fun x => x < wd24.heap.size ∧ ¬ (cN w.heap.size w10.heap.size w20.heap.size) x) wd24 _ (Nat.le_refl _) HXFwd24.out (fun x hx => hx.1) HOE.out HFEwd24.out HVT.out (HOK.out.next HBwd24.out)
   rw [HZ2.out, HLZ2.out] at hcc
   have HCC := Lib.hid hcc; clear hcc
   refine wpAnyH_ready (rs := [5]) (by kernel_rfl) (by simp) ?_
   refine AllReadyH.cons (o := ⟨some 114, .call ⟨_, _, _⟩, _, _, _, _⟩) rfl (fun K hK => ?_) AllReadyH.nil
   go_simp
   go_at_call 47
   refine Calls.mono HCC.out ?_
   rintro e' q24 ⟨hb_, v, rfl, hown_⟩
   clear HCC
   have HSq24 := Lib.hid (show wd24.heap.size ≤ q24.heap.size from hb_.size)
   have HBq24 := Lib.hid (HBwd24.out.trans (hb_.mono HBwd24.out.size))
   have tq24 := Lib.hid (twd24.out.kept (grown_none hb_) (fun e => by cases e))
   have aq24 := Lib.hid (awd24.out.kept (grown_none hb_) (fun e => by cases e))
   have bq24 := Lib.hid (bwd24.out.kept (grown_none hb_) (fun e => by cases e))
   have lq24 := Lib.hid (lwd24.out.kept (grown_none hb_) (fun e => by cases e))
   have HXFq24 := Lib.hid (HXFwd24.out.below hb_)
   have HDAq24 := Lib.hid (HDAwd24.out.below hb_)
   have HRAq24 := Lib.hid (HRAwd24.out.below hb_)
   have HDEq24 := Lib.hid (HDEwd24.out.below hb_)
   have HFEq24 := Lib.hid (HFEwd24.out.below hb_)
   have HFaq24 := Lib.hid (HFawd24.out.below hb_)
   obtain ⟨A9, c9, rfl, hfr_⟩ := hown_.free (N := (cN w.heap.size w10.heap.size w20.heap.size)) (fun x hx => ⟨by have := HNLT.out; rcases hx with (h | h) | h <;> omega, fun h => h.2 hx⟩)
   have HFb := Lib.hid hfr_; clear hown_ hfr_ HNLT hb_
   refine hK.out _ _ ⟨tq24.out, HDEq24.out⟩ (fun _ => ?_)
   clear hK K
   try simp only [Act.put, List.setIfInBounds_toArray, List.set_cons_zero, List.set_cons_succ]
   refine wpAnyH_take (i := 6) (oi := ⟨some 108, _, _, _, _, _⟩) (v := .tuple #[.agg #[.slice A9 l2.length c9], .int .i64 z2]) rfl (by kernel_rfl) (by kernel_rfl) (by kernel_rfl) (fun _ _ _ h => h) (Or.inl ⟨by rfl, fun w' hS => by go_simp⟩) ⟨tq24.out, HDEq24.out⟩ ?_
   try simp only [Act.put, List.setIfInBounds_toArray, List.set_cons_zero, List.set_cons_succ]
   refine wpAnyH_take (i := 7) (oi := ⟨some 115, _, _, _, _, _⟩) (v := .agg #[.slice A9 l2.length c9]) rfl (by kernel_rfl) (by kernel_rfl) (by kernel_rfl) (fun _ _ _ h => h) (Or.inl ⟨by rfl, fun w' hS => by go_simp⟩) ⟨tq24.out, HDEq24.out⟩ ?_
   try simp only [Act.put, List.setIfInBounds_toArray, List.set_cons_zero, List.set_cons_succ]
   refine wpAnyH_take (i := 8) (oi := ⟨some 116, _, _, _, _, _⟩) (v := .int .i64 z2) rfl (by kernel_rfl) (by kernel_rfl) (by kernel_rfl) (fun _ _ _ h => h) (Or.inl ⟨by rfl, fun w' hS => by go_simp⟩) ⟨tq24.out, HDEq24.out⟩ ?_
   try simp only [Act.put, List.setIfInBounds_toArray, List.set_cons_zero, List.set_cons_succ]
   refine wpAnyH_ready (rs := [9]) (by kernel_rfl) (by simp) ?_
   refine AllReadyH.cons (o := ⟨none, .store _ _ _, _, _, _, _⟩) rfl (fun K hK => ?_) AllReadyH.nil
   have cy0 := bq24.out.1 0 _ rfl; have cyf := bq24.out.2.1
   go_simp
   clear cy0 cyf
   have hgs := grown_one q24 w20.heap.size 0 (.slice A9 l2.length c9)
   have hbx_ := bq24.out.set_ (j := 0) (by simp) (.slice A9 l2.length c9)
   obtain ⟨wz24, hwz24⟩ : ∃ z, q24.setCell ⟨w20.heap.size, 0, none⟩ (.slice A9 l2.length c9) = z := ⟨_, rfl⟩
   rw [hwz24] at hgs hbx_ ⊢
   clear hwz24
   have bwz24 := Lib.hid hbx_
   have HBwz24 := Lib.hid (HBq24.out.grown hgs HBq24.out.size (fun q hq => by have := Option.some.inj hq; have := HGY.out; have := HGL.out; omega))
   have twz24 := Lib.hid (tq24.out.kept hgs (fun e => by have := Option.some.inj e; have := HGY.out; have := HGL.out; omega))
   have awz24 := Lib.hid (aq24.out.kept hgs (fun e => by have := Option.some.inj e; have := HGY.out; have := HGL.out; omega))
   have lwz24 := Lib.hid (lq24.out.kept hgs (fun e => by have := Option.some.inj e; have := HGY.out; have := HGL.out; omega))
   have HXFwz24 := Lib.hid (HXFq24.out.grown hgs (.inl (.inr rfl)))
   have HDAwz24 := Lib.hid (HDAq24.out.grown hgs (.inl (.inr rfl)))
   have HRAwz24 := Lib.hid (HRAq24.out.grown hgs (.inl (.inr rfl)))
   have HDEwz24 := Lib.hid (HDEq24.out.grown hgs (by have := HGL.out; omega))
   have HFEwz24 := Lib.hid (HFEq24.out.grown hgs (.inl (.inr rfl)))
   have HFawz24 := Lib.hid (HFaq24.out.grown hgs (.inl (.inr rfl)))
   have HFbwz24 := Lib.hid (HFb.out.grown hgs (.inl (.inr rfl)))
   clear hgs hbx_
   refine hK.out _ _ ⟨twz24.out, HDEwz24.out⟩ (fun _ => ?_)
   clear hK K
   try simp only [Act.put, List.setIfInBounds_toArray, List.set_cons_zero, List.set_cons_succ]
   refine wpAnyH_take (i := 10) (oi := ⟨some 11, _, _, _, _, _⟩) (v := .int .i64 z2) rfl (by kernel_rfl) (by kernel_rfl) (by kernel_rfl) (fun _ _ _ h => h) (Or.inl ⟨by rfl, fun w' hS => by go_simp⟩) ⟨twz24.out, HDEwz24.out⟩ ?_
   try simp only [Act.put, List.setIfInBounds_toArray, List.set_cons_zero, List.set_cons_succ]
   refine wpAnyH_done (by kernel_rfl) ?_ _
   have ca0 := awz24.out.1 0 _ rfl
   have cb0 := bwz24.out.1 0 _ rfl
   have ez : (z2 != z2) = false := by simp
   have ez2 : (z2 == z2) = true := by simp
   go_wp2_with fail
   refine (SameTree_same A8 A9 c8 c9 l2 _ _ _ (Nat.le_refl _) (Nat.le_refl _) HFawz24.out.out HFbwz24.out.out).mono ?_
   rintro e w82 ⟨rfl, hbw82⟩
   clear ca0 cb0
   have HSw82 := Lib.hid (show wz24.heap.size ≤ w82.heap.size from hbw82.size)
   have HBw82 := Lib.hid (HBwz24.out.trans (hbw82.mono HBwz24.out.size))
   have tw82 := Lib.hid (twz24.out.kept (grown_none hbw82) (fun e => by cases e))
   have aw82 := Lib.hid (awz24.out.kept (grown_none hbw82) (fun e => by cases e))
   have bw82 := Lib.hid (bwz24.out.kept (grown_none hbw82) (fun e => by cases e))
   have lw82 := Lib.hid (lwz24.out.kept (grown_none hbw82) (fun e => by cases e))
   have HXFw82 := Lib.hid (HXFwz24.out.below hbw82)
   have HDAw82 := Lib.hid (HDAwz24.out.below hbw82)
   have HRAw82 := Lib.hid (HRAwz24.out.below hbw82)
   have HDEw82 := Lib.hid (HDEwz24.out.below hbw82)
   have HFEw82 := Lib.hid (HFEwz24.out.below hbw82)
   have HFaw82 := Lib.hid (HFawz24.out.below hbw82)
   have HFbw82 := Lib.hid (HFbwz24.out.below hbw82)
   clear hbw82
   clear ez ez2
   have HLPn := Lib.hid (show ChgLoop w w2.heap.size w10.heap.size w20.heap.size wk.heap.size AT cT L D A2 c2 d2 A4 c4 w82 from ⟨HBw82.out, tw82.out, ⟨_, aw82.out⟩, ⟨_, bw82.out⟩, lw82.out, HXFw82.out, HRAw82.out, HDAw82.out⟩)
   go_wp2
   go_roundw
   case rel => exact ⟨k + 1, by omega, by go_num, HLPn⟩
   case measure => simp [intOf]; omega
  ·
   have i3 : ¬ (k : Int) < 2 := by omega
   go_wp2_with fail
   refine (known_any _ (HOK.out.next HBr.out)).mono ?_
   rintro e w83 ⟨rfl, hbw83⟩
   have HSw83 := Lib.hid (show wr.heap.size ≤ w83.heap.size from hbw83.size)
   have HBw83 := Lib.hid (HBr.out.trans (hbw83.mono HBr.out.size))
   have tw83 := Lib.hid (HTr.out.kept (grown_none hbw83) (fun e => by cases e))
   have aw83 := Lib.hid (HAr.out.kept (grown_none hbw83) (fun e => by cases e))
   have bw83 := Lib.hid (HBBr.out.kept (grown_none hbw83) (fun e => by cases e))
   have lw83 := Lib.hid (HLr.out.kept (grown_none hbw83) (fun e => by cases e))
   have HXFw83 := Lib.hid (HXr.out.below hbw83)
   have HDAw83 := Lib.hid (HDAr.out.below hbw83)
   have HRAw83 := Lib.hid (HRAr.out.below hbw83)
   clear hbw83
   go_wp2
   go_ret
   exact ⟨by try rfl, HBI.out.trans (HBw83.out.mono HBI.out.size)⟩
end Go.Proofs.YtidhbckalcjdpaaGreatDoor
namespace Go.Proofs.YtidhbckalcjdpaaGreatDoor
open Go.RowKit Go.Cold
namespace cTreeChanges
open Go.ChangeShapes Go.WideShapes Go.ChangeAt
open Go.ChangeMaps (open_string)
set_option maxRecDepth 100000
theorem reads (os : Os) {H : Type} (enc : TypeId × Value → H) : ∃ places, DataW.whole enc Tryz.prog ((World.laidAll Tryz.prog os Rows.treeChangesRow.laid).forCall (fun _ _ => 0) ⟨#[], #[.slice none 0 0, .agg #[.int .i64 0, .int .i64 0, .string ⟨#[]⟩, .string ⟨#[]⟩, .string ⟨#[]⟩, .string ⟨#[]⟩, .string ⟨#[]⟩, .int .i64 0, .int .i64 0, .slice none 0 0]], []⟩).memory Tryz.f10.params.toList Rows.treeChangesSpec.vars false (#[.slice none 0 0, .agg #[.int .i64 0, .int .i64 0, .string ⟨#[]⟩, .string ⟨#[]⟩, .string ⟨#[]⟩, .string ⟨#[]⟩, .string ⟨#[]⟩, .int .i64 0, .int .i64 0, .slice none 0 0]] : Array Value).toList 8 = some ([.nil, .agg [.lit (.int .i64 0), .lit (.int .i64 0), .lit (.string []), .lit (.string []), .lit (.string []), .lit (.string []), .lit (.string []), .lit (.int .i64 0), .lit (.int .i64 0), .nil]], [], places) :=
 ⟨[], by kernel_rfl⟩
theorem lifted (os : Os) (started : os.Started) (H : Type) (enc : TypeId × Value → H) (F : Stop.Interp) :
  ReturnsInHanded {} Tryz.checked os 10 .any ((OpenSpec.ofChange Rows.treeChangesSpec).preRow enc Tryz.prog Tryz.f10 Rows.treeChangesRow.domain false Rows.treeChangesRow.laid) (((OpenSpec.ofChange Rows.treeChangesSpec).at F).post enc Tryz.prog Tryz.f10 false true false false) := by
 obtain ⟨places, hx⟩ := reads os enc
 refine law_lifted os started H enc F (by kernel_rfl) Tryz.func10 #[.slice none 0 0, .agg #[.int .i64 0, .int .i64 0, .string ⟨#[]⟩, .string ⟨#[]⟩, .string ⟨#[]⟩, .string ⟨#[]⟩, .string ⟨#[]⟩, .int .i64 0, .int .i64 0, .slice none 0 0]] (World.shaped_of_ZipB (by kernel_rfl) (by kernel_rfl)) (by kernel_rfl)
  (OpenSpec.preRow_of_cond 8 hx (by kernel_rfl) (fun k hk => by cases hk) (by kernel_rfl) (laidMet_laidAll _ (by kernel_rfl) (by kernel_rfl))) rfl rfl
  (fun ds hl => by
   rw [Tryz.params10] at hl
   match ds, hl with
   | [d0, d1], _ => rfl) (by kernel_rfl) ?_
 intro W base args ds ps hval hA hlt hz hsh
 rw [Tryz.params10] at hA hval
 obtain ⟨v0, vs0, d0, ds0, p0, q0, hargs, rfl, rfl, h0, r0⟩ := trodAll_cons hA
 obtain ⟨v1, vs1, d1, ds1, p1, q1, rfl, rfl, rfl, h1, r1⟩ := trodAll_cons r0
 obtain ⟨rfl, rfl, rfl⟩ := trodAll_nil r1
 obtain rfl : args = #[v0, v1] := by cases args; simp_all
 obtain ⟨A0, c0, xs0, rfl, s0⟩ := open_nums Tryz.underlying23 Tryz.underlying3 (by kernel_rfl) (hval 0 23 v0 rfl rfl) h0 (fun x hx => hlt x (List.mem_append_left _ hx))
 obtain ⟨D1, A1, c1, rfl, w1, s1⟩ := open_dev (hval 1 34 v1 rfl rfl) h1
 exact lawChanges_any A0 c0 xs0 D1 A1 c1 W (show Ok W from Tryz.laysM146.s1_3 W hsh) s0 w1 s1
theorem said : Rows.TreeChangesSaid :=
 OpenClaim.holds_of_cond 10 Tryz.f10 rfl rfl rfl rfl rfl rfl rfl ⟨rfl, rfl, rfl, rfl, rfl⟩ rfl rfl rfl rfl rfl (by kernel_rfl) Tryz.func10 (by kernel_rfl)
  (of_decide_eq_true (by kernel_rfl)) (by unfold Func.isWrapper; first | (rw [if_pos (by decide +kernel)]; kernel_rfl) | (rw [if_neg (by decide +kernel)]; exact ⟨rfl, rfl⟩))
  (fun os started H enc _ F => by rw [OpenClaim.pre_eq_preRow]; exact lifted os started H enc F)
theorem plain (f : FuncId) (fn : Func) (hf : Tryz.pinned.checked.prog.funcNamed Rows.treeChangesRow.func = some f) (hfn : Tryz.pinned.checked.prog.funcs[f]? = some fn) :
  false = Tryz.pinned.checked.prog.looks [] ∧ ∀ (j : Nat) t, fn.params[j]? = some t → Tryz.pinned.checked.prog.wantsStandIn t = false := by
 obtain rfl : f = 10 := Option.some.inj ((show Tryz.prog.funcNamed Rows.treeChangesRow.func = some 10 by kernel_rfl).symm.trans hf) |>.symm
 obtain rfl : fn = Tryz.f10 := (Option.some.inj (Tryz.func10.symm.trans hfn)).symm
 refine ⟨by kernel_rfl, fun j t ht => ?_⟩
 rw [Tryz.params10] at ht
 have hm : t ∈ [23, 34] := by simpa using Array.mem_of_getElem? ht
 have hall : ([23, 34].all fun u => !Tryz.prog.wantsStandIn u) = true := by kernel_rfl
 exact (show Tryz.prog.wantsStandIn t = false by simpa using List.all_eq_true.1 hall t hm)
/-- The card. -/
theorem card : Rows.TreeChangesCardSaid :=
 Claim7.holds_tied_plain_at .later [] _ _ _ _ said (fun _ h => by cases h) (by kernel_rfl) (fun _ h => by cases h) treeChanges_row_tie rfl ⟨rfl, rfl⟩ (by kernel_rfl) rfl plain (by kernel_rfl)
end cTreeChanges
end Go.Proofs.YtidhbckalcjdpaaGreatDoor
