/-
  TreeStays: row and card.
 Conditions: those of the given row and card (the listed variables of the library hold what the text lays), nothing else.
-/
import Derived.Test.YtidhbckalcjdpaaGreatDoorHU
import Derived.Test.YtidhbckalcjdpaaGreatDoorHV
import Derived.Test.YtidhbckalcjdpaaGreatDoorHT
import Derived.Test.YtidhbckalcjdpaaGreatDoorHM
import Derived.ShutString
set_option linter.unusedSimpArgs false
set_option linter.unusedVariables false
namespace Go.Cold
open Go Go.RowKit
/-- The tape's block and the box of the tree that is made. -/
def tN (b g x : Nat) : Prop := x = b ∨ x = g
def StayP (L : List Dev) (z : Int) (l : List Dev) : Prop := (z ≠ 0 → l = []) ∧ (z = 0 → VT l ∧ ∀ n ∈ idxs L, n ∈ idxs l → strF l n = strF L n)
theorem stayI {L : List Dev} (h : VT L) (d : Dev) : StayP L (insE L d) (insR L d) := by
 unfold insR
 refine ⟨fun hz => by rw [if_neg hz], fun hz => ?_⟩
 rw [if_pos hz]
 obtain ⟨h1, h2⟩ := ins_VT h hz
 refine ⟨h1, fun n hn _ => ?_⟩
 have hne : ¬ n = d.idx := fun e => (ins_facts hz).2.1 (e ▸ hn)
 rw [strF_eq, strF_eq, h2, if_neg hne]
theorem stayR {L : List Dev} (h : VT L) (n : Int) : StayP L (remE L n) (remX L n) := by
 unfold remE remX
 by_cases hn : n ∈ idxs L
 ·
  rw [if_pos hn, if_pos hn]
  obtain ⟨h1, h2⟩ := rem_VT h n
  refine ⟨fun hz => absurd rfl hz, fun _ => ⟨h1, fun m _ hm => ?_⟩⟩
  obtain ⟨d, hd, rfl⟩ := List.mem_map.1 hm
  rw [strF_eq, strF_eq, h2 d hd]
 ·
  rw [if_neg hn, if_neg hn]
  exact ⟨fun _ => rfl, fun hz => absurd hz (by decide)⟩
theorem stayC {L : List Dev} (h : VT L) (d : Dev) : StayP L (chgE L d) (chgX L d) := by
 unfold chgX
 refine ⟨fun hz => by rw [if_neg hz], fun hz => ?_⟩
 rw [if_pos hz]
 obtain ⟨h1, h2, -⟩ := chg_VT h hz
 exact ⟨h1, fun n _ _ => by rw [strF_eq, strF_eq, h2]⟩
theorem chkAll_VT {L : List Dev} (h : VT L) : chkAll L = 0 := by
 have := h.size
 unfold chkAll
 rw [if_neg (by omega), chk_all this]
 exact (check_VT this).2 h
theorem wp_inblock {P : Program} {s : Code} {K : Act → World → Prop} {Q' : Exit → Act → World → Prop} {a : Act} {w : World} {id : Nat} (h : s.wp P (Exit.then K (Exit.inBlock id (Exit.then K Q'))) a w) : s.wp P (Exit.inBlock id (Exit.then K Q')) a w := by
 refine wp_mono h ?_
 intro e a' w' hq
 cases e <;> exact hq
theorem boxSet10 {w : World} {g : Nat} {c0 c1 c2 c3 c4 c5 c6 c7 c8 c9 : Value} (h : BoxL w g [c0, c1, c2, c3, c4, c5, c6, c7, c8, c9]) (v0 v1 v2 v3 v4 v5 v6 v7 v8 v9 : Value) : BoxL ((((((((((w.setCell ⟨g, 0, none⟩ (v0)).setCell ⟨g, 1, none⟩ (v1)).setCell ⟨g, 2, none⟩ (v2)).setCell ⟨g, 3, none⟩ (v3)).setCell ⟨g, 4, none⟩ (v4)).setCell ⟨g, 5, none⟩ (v5)).setCell ⟨g, 6, none⟩ (v6)).setCell ⟨g, 7, none⟩ (v7)).setCell ⟨g, 8, none⟩ (v8)).setCell ⟨g, 9, none⟩ (v9)) g [v0, v1, v2, v3, v4, v5, v6, v7, v8, v9] :=
 ((((((((((h.set_ (j := 0) (by simp) v0).set_ (j := 1) (by simp) v1).set_ (j := 2) (by simp) v2).set_ (j := 3) (by simp) v3).set_ (j := 4) (by simp) v4).set_ (j := 5) (by simp) v5).set_ (j := 6) (by simp) v6).set_ (j := 7) (by simp) v7).set_ (j := 8) (by simp) v8).set_ (j := 9) (by simp) v9)
/-- Where the law stands behind the choice. -/
def StaySt (w : World) (gt gy : Nat) (AT : Option Addr) (cT : Nat) (L : List Dev) (z : Int) (Ay : Option Addr) (cy : Nat) (l : List Dev) (wx : World) : Prop :=
 Below w.heap.size w wx ∧ BoxL wx gt [.slice AT L.length cT] ∧ BoxL wx gy [.slice Ay l.length cy] ∧ FreeS (tN w.heap.size gy) wx AT cT L ∧ FreeS (tN w.heap.size gy) wx Ay cy l ∧ StayP L z l
def StayD (w : World) (gt gy : Nat) (AT : Option Addr) (cT : Nat) (L : List Dev) (xs : List Int) (g7 k3 : Nat) (d : Dev) (A1 : Option Addr) (c1 : Nat) (wx : World) : Prop :=
 Below w.heap.size w wx ∧ BoxL wx gt [.slice AT L.length cT] ∧ BoxL wx gy [.slice none 0 0] ∧ BoxL wx g7 (devCells d A1 c1) ∧ FreeS (fun x => tN w.heap.size gy x ∨ x = g7) wx AT cT L ∧ TapeAt wx w.heap.size w.heap.size xs k3 ∧ k3 ≤ 5000 ∧ devOk d ∧ gy < g7
end Go.Cold
namespace Go.Proofs.YtidhbckalcjdpaaGreatDoor
open Go.RowKit Go.Cold
set_option maxHeartbeats 2000000 in
set_option maxRecDepth 100000 in
theorem lawStays_any (A : Option Addr) (c : Nat) (xs : List Int) (w : World) (hok : Ok w) (hx : Sl w w.heap.size A c xs) : Calls Tryz.prog 11 #[.slice A xs.length c] w fun e w' => e = .returned (.bool true) ∧ Below w.heap.size w w' := by
 have HOK := Lib.hid hok; have HX := Lib.hid hx; clear hok hx
 go_enter Tryz.func11, Tryz.ntmps11
 go_upto_region 2 with fail
 have htape := tape_new HX.out
 have HNG := Lib.hid (notG_of HOK.out)
 obtain ⟨w1, hw1⟩ : ∃ z, w.alloc (.cells #[.slice A xs.length c, .int .i64 0] 27) = z := ⟨_, rfl⟩
 rw [hw1] at htape
 have hb1 : Below w.heap.size w w1 := by rw [← hw1]; exact (Below.refl _ _).alloc (Nat.le_refl _) _
 have HGw1 := Lib.hid (show w1.heap.size = w.heap.size + 1 by rw [← hw1]; simp)
 try simp only [hw1]
 have HTAPE := Lib.hid htape
 clear hw1 htape
 have HSw1 := Lib.hid (show w.heap.size ≤ w1.heap.size from hb1.size)
 have HBw1 := Lib.hid hb1
 clear hb1
 go_wp2_with fail
 refine (Tree_any xs 0 w.heap.size w.heap.size 9 w1 (by decide) HTAPE.out ⟨by decide, by decide⟩ (HOK.out.next HBw1.out) HNG.out).mono ?_
 rintro e w2 ⟨AT, cT, L, k1, rfl, hvt, hln, hsl, hk1, htp, hg2⟩
 have hb2 : Below w.heap.size w w2 := below_of_grown HBw1.out hg2 HBw1.out.size (Nat.le_refl _)
 have HSB2 := Lib.hid (show w1.heap.size ≤ w2.heap.size from hg2.size)
 have hx1 := hsl.1; have hx2 := hsl.2.1
 unfold maxLen at hx2
 have hin : TreeIn w2 w.heap.size (fun x => w1.heap.size ≤ x ∧ x < w2.heap.size) AT cT L := ⟨hsl, fun x hx => by have := HGw1.out; omega, fun x hx => hx.2⟩
 have HVT := Lib.hid hvt; have HLN := Lib.hid (show L.length ≤ 9 by omega); have HIN := Lib.hid hin; have HK1 := Lib.hid hk1; have HTP := Lib.hid htp
 clear HTAPE hvt hln hsl hk1 htp hg2 hin
 have HBw2 := Lib.hid hb2
 clear hb2
 go_upto_region 3 with fail
 obtain ⟨w3, hw3⟩ : ∃ w3, w2.alloc (.cells #[.slice AT L.length cT] 29) = w3 := ⟨_, rfl⟩
 have hbw3 : Below w2.heap.size w2 w3 := by rw [← hw3]; exact (Below.refl _ _).alloc (Nat.le_refl _) _
 have HGw3 := Lib.hid (show w3.heap.size = w2.heap.size + 1 by rw [← hw3]; simp)
 have HXtw3 := Lib.hid (show BoxL w3 w2.heap.size [.slice AT L.length cT] from box_mk hw3)
 try simp only [hw3]
 have HSTEPw3 := Lib.hid hbw3
 have HSw3 := Lib.hid (show w2.heap.size ≤ w3.heap.size from hbw3.size)
 have HBw3 := Lib.hid (HBw2.out.trans (hbw3.mono HBw2.out.size))
 clear hw3 hbw3
 try rw [show w2.heap.size + 1 = w3.heap.size from HGw3.out.symm]
 have HIN3 := Lib.hid (show TreeIn w3 w.heap.size (fun x => w1.heap.size ≤ x ∧ x < w2.heap.size) AT cT L from ⟨HIN.out.sl.below (HSTEPw3.out) (fun x hx => hx.2), HIN.out.ne, fun x hx => by have := HGw3.out; have := hx.2; omega⟩)
 have HTP3 := Lib.hid (HTP.out.kept (grown_none HSTEPw3.out) (fun e => by cases e) (fun g e => by cases e))
 clear HIN HTP
 have ct0 := HXtw3.out.1 0 _ rfl
 have hzt := (zero_of_info (P := Tryz.prog) (t := 29) info_tree2).1
 have hzv := (zero_of_info (P := Tryz.prog) (t := 34) info_dev2).1
 have HZT := Lib.hid hzt; have HZV := Lib.hid hzv; clear hzt hzv
 have HVS := Lib.hid (show ∀ d ∈ L, d.orig.size ≤ 32 from fun d hd => (HVT.out.small d hd).1)
 have HFX := Lib.hid (show FreeS (fun x => x = w.heap.size) w3 AT cT L from HIN3.out.sl.free (fun x hx => ⟨HIN3.out.lt x hx, fun h => HIN3.out.ne x hx h⟩))
 go_wp2_with fail
 refine (TCheck_any AT cT L _ _ (Nat.le_refl _) HFX.out.out (fun d hd => by have := HVS.out d hd; omega) (HOK.out.next HBw3.out)).mono ?_
 rintro e w4 ⟨rfl, hbw4⟩
 clear ct0
 have HSw4 := Lib.hid (show w3.heap.size ≤ w4.heap.size from hbw4.size)
 have HBw4 := Lib.hid (HBw3.out.trans (hbw4.mono HBw3.out.size))
 have tw4 := Lib.hid (HXtw3.out.kept (grown_none hbw4) (fun e => by cases e))
 have HTPw4 := Lib.hid (HTP3.out.kept (grown_none hbw4) (fun e => by cases e) (fun g e => by cases e))
 have HFXw4 := Lib.hid (HFX.out.below hbw4)
 clear hbw4
 rw [chkAll_VT HVT.out]
 go_wp2_with fail
 refine (known_any _ (HOK.out.next HBw4.out)).mono ?_
 rintro e w5 ⟨rfl, hbw5⟩
 have HSw5 := Lib.hid (show w4.heap.size ≤ w5.heap.size from hbw5.size)
 have HBw5 := Lib.hid (HBw4.out.trans (hbw5.mono HBw4.out.size))
 have tw5 := Lib.hid (tw4.out.kept (grown_none hbw5) (fun e => by cases e))
 have HTPw5 := Lib.hid (HTPw4.out.kept (grown_none hbw5) (fun e => by cases e) (fun g e => by cases e))
 have HFXw5 := Lib.hid (HFXw4.out.below hbw5)
 clear hbw5
 have hzt := HZT.out
 go_upto_region 6 with fail
 clear hzt
 have HTLT := Lib.hid (show w2.heap.size < w5.heap.size from tw5.out.2.2)
 have HXF0 := Lib.hid (show FreeS (tN w.heap.size w5.heap.size) w5 AT cT L from HFXw5.out.more (fun x hx h => by rcases h with h | h; exact h; omega))
 obtain ⟨w6, hw6⟩ : ∃ w6, w5.alloc (.cells #[.slice none 0 0] 29) = w6 := ⟨_, rfl⟩
 have hbw6 : Below w5.heap.size w5 w6 := by rw [← hw6]; exact (Below.refl _ _).alloc (Nat.le_refl _) _
 have HGw6 := Lib.hid (show w6.heap.size = w5.heap.size + 1 by rw [← hw6]; simp)
 have HXyw6 := Lib.hid (show BoxL w6 w5.heap.size [.slice none 0 0] from box_mk hw6)
 try simp only [hw6]
 have HSTEPw6 := Lib.hid hbw6
 have HSw6 := Lib.hid (show w5.heap.size ≤ w6.heap.size from hbw6.size)
 have HBw6 := Lib.hid (HBw5.out.trans (hbw6.mono HBw5.out.size))
 have tw6 := Lib.hid (tw5.out.kept (grown_none hbw6) (fun e => by cases e))
 have HTPw6 := Lib.hid (HTPw5.out.kept (grown_none hbw6) (fun e => by cases e) (fun g e => by cases e))
 have HFXw6 := Lib.hid (HFXw5.out.below hbw6)
 have HSTEPY := Lib.hid hbw6
 clear hw6 hbw6
 try rw [show w5.heap.size + 1 = w6.heap.size from HGw6.out.symm]
 have HXF := Lib.hid (HXF0.out.below HSTEPY.out)
 have HGY := Lib.hid (show w.heap.size < w2.heap.size ∧ w2.heap.size < w5.heap.size from ⟨by have := HGw1.out; have := HSB2.out; omega, HTLT.out⟩)
 go_wp2_with fail
 refine (Next_lit 3 xs k1 w.heap.size w.heap.size _ (by have := HK1.out; omega) HTPw6.out (by omega) (by omega)).mono ?_
 rintro e w20 ⟨m, h0, h2, rfl, ht_, hg_⟩
 have HBw20 := Lib.hid (HBw6.out.grown hg_ HBw6.out.size (fun q hq => by have := Option.some.inj hq; omega))
 have HTPw20 := Lib.hid ht_
 have tw20 := Lib.hid (tw6.out.kept hg_ (fun e => by have := Option.some.inj e; have := HGY.out; omega))
 have yw20 := Lib.hid (HXyw6.out.kept hg_ (fun e => by have := Option.some.inj e; have := HGY.out; omega))
 have HXFw20 := Lib.hid (HXF.out.grown hg_ (.inl (.inl rfl)))
 clear hg_ ht_
 go_upto_if 53 with fail
 refine wp_inblock ?_
 go_cut [6] (fun s6 wx => ∃ (z : Int) (Ay : Option Addr) (cy : Nat) (l : List Dev), s6 = .int .i64 z ∧ Hid (StaySt w w2.heap.size w5.heap.size AT cT L z Ay cy l wx))
 case first =>
  rcases (show m = 0 ∨ m = 1 ∨ m = 2 by omega) with rfl | rfl | rfl
  ·
   clear h0 h2
   go_upto_region 14 with fail
   refine wp_region_held_drew (S := fun w' => BoxL w' w2.heap.size [.slice AT L.length cT]) (by kernel_rfl) tw20.out.drew (fun hS0 => ?_)
   obtain ⟨wd, hwd⟩ : ∃ z, World.drew w20 = z := ⟨_, rfl⟩
   rw [hwd] at hS0 ⊢
   have hb_ : Below w20.heap.size w20 wd := by rw [← hwd]; exact below_drewN_self _ _ 1
   clear hwd hS0
   have HSwd := Lib.hid (show w20.heap.size ≤ wd.heap.size from hb_.size)
   have HBwd := Lib.hid (HBw20.out.trans (hb_.mono HBw20.out.size))
   have twd := Lib.hid (tw20.out.kept (grown_none hb_) (fun e => by cases e))
   have ywd := Lib.hid (yw20.out.kept (grown_none hb_) (fun e => by cases e))
   have HTPwd := Lib.hid (HTPw20.out.kept (grown_none hb_) (fun e => by cases e) (fun g e => by cases e))
   have HXFwd := Lib.hid (HXFw20.out.below hb_)
   clear hb_
   refine wpAnyH_take (i := 0) (oi := ⟨some 56, _, _, _, _, _⟩) (v := .agg #[.slice AT L.length cT]) rfl (by kernel_rfl) (by kernel_rfl) (by kernel_rfl) (fun _ _ _ h => h) (Or.inl ⟨by rfl, fun w' hS => by (have u0_ := hS.1 0 _ rfl; go_simp)⟩) twd.out ?_
   try simp only [Act.put, List.setIfInBounds_toArray, List.set_cons_zero, List.set_cons_succ]
   refine wpAnyH_take (i := 1) (oi := ⟨some 57, _, _, _, _, _⟩) (v := .pointer (some ⟨w.heap.size, 0, none⟩)) rfl (by kernel_rfl) (by kernel_rfl) (by kernel_rfl) (fun _ _ _ h => h) (Or.inl ⟨by rfl, fun w' hS => by go_simp⟩) twd.out ?_
   try simp only [Act.put, List.setIfInBounds_toArray, List.set_cons_zero, List.set_cons_succ]
   refine wpAnyH_take (i := 2) (oi := ⟨some 58, _, _, _, _, _⟩) (v := .agg #[.slice AT L.length cT]) rfl (by kernel_rfl) (by kernel_rfl) (by kernel_rfl) (fun _ _ _ h => h) (Or.inl ⟨by rfl, fun w' hS => by (have u0_ := hS.1 0 _ rfl; go_simp)⟩) twd.out ?_
   try simp only [Act.put, List.setIfInBounds_toArray, List.set_cons_zero, List.set_cons_succ]
   refine wpAnyH_ready (rs := [3]) (by kernel_rfl) (by simp) ?_
   refine AllReadyH.cons (o := ⟨some 59, .call ⟨_, _, _⟩, _, _, _, _⟩) rfl (fun K hK => ?_) AllReadyH.nil
   have HNLT := Lib.hid (show w.heap.size < wd.heap.size ∧ w5.heap.size < wd.heap.size from ⟨by have := HGY.out; have := ywd.out.2.2; omega, ywd.out.2.2⟩)
   go_simp
   go_at_call 15
   refine (Device_any xs (k1 + 1) w.heap.size w.heap.size AT cT L _ wd (by have := HK1.out; omega) HTPwd.out ⟨HXFwd.out, fun x hx h => hx.2 (.inl h), fun x hx => hx.1⟩ (fun d hd => (HVT.out.small d hd).2) (by have := HLN.out; omega)).mono ?_
   rintro e' q31 ⟨d, A2, c2, k2, rfl, hfew_, hsl_, -, ht_, hg_⟩
   have HBq31 := Lib.hid (HBwd.out.grown hg_ HBwd.out.size (fun q hq => by have := Option.some.inj hq; omega))
   have HTPq31 := Lib.hid ht_
   have tq31 := Lib.hid (twd.out.kept hg_ (fun e => by have := Option.some.inj e; have := HGY.out; omega))
   have yq31 := Lib.hid (ywd.out.kept hg_ (fun e => by have := Option.some.inj e; have := HGY.out; omega))
   have HXFq31 := Lib.hid (HXFwd.out.grown hg_ (.inl (.inl rfl)))
   have HFEW := Lib.hid hfew_; have HDA := Lib.hid (show FreeS (tN w.heap.size w5.heap.size) q31 A2 c2 d.attrs from hsl_.free (fun x hx => ⟨hx.2, fun h => by have := HNLT.out; have := hx.1; rcases h with h | h <;> omega⟩)); clear hfew_ hsl_ HNLT
   clear hg_ ht_
   refine hK.out _ _ tq31.out (fun _ => ?_)
   clear hK K
   try simp only [Act.put, List.setIfInBounds_toArray, List.set_cons_zero, List.set_cons_succ]
   obtain ⟨z, hz⟩ : ∃ z, insE L d = z := ⟨_, rfl⟩
   obtain ⟨l, hl⟩ : ∃ z, insR L d = z := ⟨_, rfl⟩
   have HSP := Lib.hid (show StayP L z l by rw [← hz, ← hl]; exact stayI HVT.out d)
   have HZ := Lib.hid hz; have HLZ := Lib.hid hl; clear hz hl
   have HNLT := Lib.hid (show w.heap.size < q31.heap.size ∧ w5.heap.size < q31.heap.size from ⟨by have := HGY.out; have := yq31.out.2.2; omega, yq31.out.2.2⟩)
   refine wpAnyH_ready (rs := [4]) (by kernel_rfl) (by simp) ?_
   refine AllReadyH.cons (o := ⟨some 60, .call ⟨_, _, _⟩, _, _, _, _⟩) rfl (fun K hK => ?_) AllReadyH.nil
   go_simp
   go_at_call 18
   refine (Insert_any AT cT L d A2 c2 q31 _ (Nat.le_refl _) HXFq31.out.out HFEW.out.ok HDA.out.out (by have := HFEW.out.2.2.2.1; omega) HVT.out (HOK.out.next HBq31.out)).mono ?_
   rintro e' q32 ⟨hb_, v, rfl, hown_⟩
   have HSq32 := Lib.hid (show q31.heap.size ≤ q32.heap.size from hb_.size)
   have HBq32 := Lib.hid (HBq31.out.trans (hb_.mono HBq31.out.size))
   have tq32 := Lib.hid (tq31.out.kept (grown_none hb_) (fun e => by cases e))
   have yq32 := Lib.hid (yq31.out.kept (grown_none hb_) (fun e => by cases e))
   have HTPq32 := Lib.hid (HTPq31.out.kept (grown_none hb_) (fun e => by cases e) (fun g e => by cases e))
   have HXFq32 := Lib.hid (HXFq31.out.below hb_)
   have HDAq32 := Lib.hid (HDA.out.below hb_)
   rw [HZ.out]
   rw [HLZ.out] at hown_
   obtain ⟨Ay, cy, rfl, hfr_⟩ := hown_.free (N := (tN w.heap.size w5.heap.size)) (fun x hx => by have := HNLT.out; rcases hx with h | h <;> constructor <;> (try intro h9) <;> (try have h9 : _ ≤ x := h9) <;> omega)
   have HYF := Lib.hid hfr_; clear hown_ hfr_ HNLT
   clear hb_
   refine hK.out _ _ tq32.out (fun _ => ?_)
   clear hK K
   try simp only [Act.put, List.setIfInBounds_toArray, List.set_cons_zero, List.set_cons_succ]
   refine wpAnyH_take (i := 5) (oi := ⟨some 55, _, _, _, _, _⟩) (v := .tuple #[.agg #[.slice Ay l.length cy], .int .i64 z]) rfl (by kernel_rfl) (by kernel_rfl) (by kernel_rfl) (fun _ _ _ h => h) (Or.inl ⟨by rfl, fun w' hS => by go_simp⟩) tq32.out ?_
   try simp only [Act.put, List.setIfInBounds_toArray, List.set_cons_zero, List.set_cons_succ]
   refine wpAnyH_take (i := 6) (oi := ⟨some 61, _, _, _, _, _⟩) (v := .agg #[.slice Ay l.length cy]) rfl (by kernel_rfl) (by kernel_rfl) (by kernel_rfl) (fun _ _ _ h => h) (Or.inl ⟨by rfl, fun w' hS => by go_simp⟩) tq32.out ?_
   try simp only [Act.put, List.setIfInBounds_toArray, List.set_cons_zero, List.set_cons_succ]
   refine wpAnyH_take (i := 7) (oi := ⟨some 62, _, _, _, _, _⟩) (v := .int .i64 z) rfl (by kernel_rfl) (by kernel_rfl) (by kernel_rfl) (fun _ _ _ h => h) (Or.inl ⟨by rfl, fun w' hS => by go_simp⟩) tq32.out ?_
   try simp only [Act.put, List.setIfInBounds_toArray, List.set_cons_zero, List.set_cons_succ]
   refine wpAnyH_ready (rs := [8]) (by kernel_rfl) (by simp) ?_
   refine AllReadyH.cons (o := ⟨none, .store _ _ _, _, _, _, _⟩) rfl (fun K hK => ?_) AllReadyH.nil
   have cy0 := yq32.out.1 0 _ rfl; have cyf := yq32.out.2.1
   go_simp
   clear cy0 cyf
   have hgs := grown_one q32 w5.heap.size 0 (.slice Ay l.length cy)
   have hbx_ := yq32.out.set_ (j := 0) (by simp) (.slice Ay l.length cy)
   obtain ⟨wz, hwz⟩ : ∃ z, q32.setCell ⟨w5.heap.size, 0, none⟩ (.slice Ay l.length cy) = z := ⟨_, rfl⟩
   rw [hwz] at hgs hbx_ ⊢
   clear hwz
   have ywz := Lib.hid hbx_
   have HBwz := Lib.hid (HBq32.out.grown hgs HBq32.out.size (fun q hq => by have := Option.some.inj hq; have := HGY.out; omega))
   have twz := Lib.hid (tq32.out.kept hgs (fun e => by have := Option.some.inj e; have := HGY.out; omega))
   have HTPwz := Lib.hid (HTPq32.out.kept hgs (fun e => by have := Option.some.inj e; have := HGY.out; omega) (fun q e => by have := Option.some.inj e; have := HGY.out; omega))
   have HXFwz := Lib.hid (HXFq32.out.grown hgs (.inl (.inr rfl)))
   have HYFwz := Lib.hid (HYF.out.grown hgs (.inl (.inr rfl)))
   clear hgs hbx_
   refine hK.out _ _ twz.out (fun _ => ?_)
   clear hK K
   try simp only [Act.put, List.setIfInBounds_toArray, List.set_cons_zero, List.set_cons_succ]
   refine wpAnyH_take (i := 9) (oi := ⟨some 6, _, _, _, _, _⟩) (v := .int .i64 z) rfl (by kernel_rfl) (by kernel_rfl) (by kernel_rfl) (fun _ _ _ h => h) (Or.inl ⟨by rfl, fun w' hS => by go_simp⟩) twz.out ?_
   try simp only [Act.put, List.setIfInBounds_toArray, List.set_cons_zero, List.set_cons_succ]
   refine wpAnyH_done (by kernel_rfl) ?_ _
   go_wp2_with fail
   go_meet
   exact ⟨z, Ay, cy, l, rfl, Lib.hid ⟨HBwz.out, twz.out, ywz.out, HXFwz.out, HYFwz.out, HSP.out⟩⟩
  ·
   clear h0 h2
   go_upto_region 16 with fail
   refine wp_region_held_drew (S := fun w' => BoxL w' w2.heap.size [.slice AT L.length cT]) (by kernel_rfl) tw20.out.drew (fun hS0 => ?_)
   obtain ⟨wd, hwd⟩ : ∃ z, World.drew w20 = z := ⟨_, rfl⟩
   rw [hwd] at hS0 ⊢
   have hb_ : Below w20.heap.size w20 wd := by rw [← hwd]; exact below_drewN_self _ _ 1
   clear hwd hS0
   have HSwd := Lib.hid (show w20.heap.size ≤ wd.heap.size from hb_.size)
   have HBwd := Lib.hid (HBw20.out.trans (hb_.mono HBw20.out.size))
   have twd := Lib.hid (tw20.out.kept (grown_none hb_) (fun e => by cases e))
   have ywd := Lib.hid (yw20.out.kept (grown_none hb_) (fun e => by cases e))
   have HTPwd := Lib.hid (HTPw20.out.kept (grown_none hb_) (fun e => by cases e) (fun g e => by cases e))
   have HXFwd := Lib.hid (HXFw20.out.below hb_)
   clear hb_
   refine wpAnyH_take (i := 0) (oi := ⟨some 66, _, _, _, _, _⟩) (v := .agg #[.slice AT L.length cT]) rfl (by kernel_rfl) (by kernel_rfl) (by kernel_rfl) (fun _ _ _ h => h) (Or.inl ⟨by rfl, fun w' hS => by (have u0_ := hS.1 0 _ rfl; go_simp)⟩) twd.out ?_
   try simp only [Act.put, List.setIfInBounds_toArray, List.set_cons_zero, List.set_cons_succ]
   refine wpAnyH_take (i := 1) (oi := ⟨some 67, _, _, _, _, _⟩) (v := .pointer (some ⟨w.heap.size, 0, none⟩)) rfl (by kernel_rfl) (by kernel_rfl) (by kernel_rfl) (fun _ _ _ h => h) (Or.inl ⟨by rfl, fun w' hS => by go_simp⟩) twd.out ?_
   try simp only [Act.put, List.setIfInBounds_toArray, List.set_cons_zero, List.set_cons_succ]
   refine wpAnyH_take (i := 2) (oi := ⟨some 68, _, _, _, _, _⟩) (v := .agg #[.slice AT L.length cT]) rfl (by kernel_rfl) (by kernel_rfl) (by kernel_rfl) (fun _ _ _ h => h) (Or.inl ⟨by rfl, fun w' hS => by (have u0_ := hS.1 0 _ rfl; go_simp)⟩) twd.out ?_
   try simp only [Act.put, List.setIfInBounds_toArray, List.set_cons_zero, List.set_cons_succ]
   refine wpAnyH_ready (rs := [3]) (by kernel_rfl) (by simp) ?_
   refine AllReadyH.cons (o := ⟨some 69, .call ⟨_, _, _⟩, _, _, _, _⟩) rfl (fun K hK => ?_) AllReadyH.nil
   go_simp
   go_at_call 22
   refine (Some_any xs (k1 + 1) w.heap.size w.heap.size AT cT L _ wd (by have := HK1.out; omega) HTPwd.out ⟨HXFwd.out, fun x hx h => hx.2 (.inl h), fun x hx => hx.1⟩ (fun d hd => (HVT.out.small d hd).2) (by have := HLN.out; omega)).mono ?_
   rintro e' q33 ⟨n, k2, rfl, hn_, -, ht_, hg_⟩
   have HBq33 := Lib.hid (HBwd.out.grown hg_ HBwd.out.size (fun q hq => by have := Option.some.inj hq; omega))
   have HTPq33 := Lib.hid ht_
   have tq33 := Lib.hid (twd.out.kept hg_ (fun e => by have := Option.some.inj e; have := HGY.out; omega))
   have yq33 := Lib.hid (ywd.out.kept hg_ (fun e => by have := Option.some.inj e; have := HGY.out; omega))
   have HXFq33 := Lib.hid (HXFwd.out.grown hg_ (.inl (.inl rfl)))
   have HN := Lib.hid (show okI n by unfold okI; omega); clear hn_
   clear hg_ ht_
   refine hK.out _ _ tq33.out (fun _ => ?_)
   clear hK K
   try simp only [Act.put, List.setIfInBounds_toArray, List.set_cons_zero, List.set_cons_succ]
   obtain ⟨z, hz⟩ : ∃ z, remE L n = z := ⟨_, rfl⟩
   obtain ⟨l, hl⟩ : ∃ z, remX L n = z := ⟨_, rfl⟩
   have HSP := Lib.hid (show StayP L z l by rw [← hz, ← hl]; exact stayR HVT.out n)
   have HZ := Lib.hid hz; have HLZ := Lib.hid hl; clear hz hl
   have HNLT := Lib.hid (show w.heap.size < q33.heap.size ∧ w5.heap.size < q33.heap.size from ⟨by have := HGY.out; have := yq33.out.2.2; omega, yq33.out.2.2⟩)
   refine wpAnyH_ready (rs := [4]) (by kernel_rfl) (by simp) ?_
   refine AllReadyH.cons (o := ⟨some 70, .call ⟨_, _, _⟩, _, _, _, _⟩) rfl (fun K hK => ?_) AllReadyH.nil
   go_simp
   go_at_call 44
   refine (Remove_any AT cT L n q33 _ (Nat.le_refl _) HXFq33.out.out HVT.out HN.out).mono ?_
   rintro e' q34 ⟨hb_, v, rfl, hown_⟩
   have HSq34 := Lib.hid (show q33.heap.size ≤ q34.heap.size from hb_.size)
   have HBq34 := Lib.hid (HBq33.out.trans (hb_.mono HBq33.out.size))
   have tq34 := Lib.hid (tq33.out.kept (grown_none hb_) (fun e => by cases e))
   have yq34 := Lib.hid (yq33.out.kept (grown_none hb_) (fun e => by cases e))
   have HTPq34 := Lib.hid (HTPq33.out.kept (grown_none hb_) (fun e => by cases e) (fun g e => by cases e))
   have HXFq34 := Lib.hid (HXFq33.out.below hb_)
   rw [HZ.out]
   rw [HLZ.out] at hown_
   obtain ⟨Ay, cy, rfl, hfr_⟩ := hown_.free (N := (tN w.heap.size w5.heap.size)) (fun x hx => by have := HNLT.out; rcases hx with h | h <;> constructor <;> (try intro h9) <;> (try have h9 : _ ≤ x := h9) <;> omega)
   have HYF := Lib.hid hfr_; clear hown_ hfr_ HNLT
   clear hb_
   refine hK.out _ _ tq34.out (fun _ => ?_)
   clear hK K
   try simp only [Act.put, List.setIfInBounds_toArray, List.set_cons_zero, List.set_cons_succ]
   refine wpAnyH_take (i := 5) (oi := ⟨some 65, _, _, _, _, _⟩) (v := .tuple #[.agg #[.slice Ay l.length cy], .int .i64 z]) rfl (by kernel_rfl) (by kernel_rfl) (by kernel_rfl) (fun _ _ _ h => h) (Or.inl ⟨by rfl, fun w' hS => by go_simp⟩) tq34.out ?_
   try simp only [Act.put, List.setIfInBounds_toArray, List.set_cons_zero, List.set_cons_succ]
   refine wpAnyH_take (i := 6) (oi := ⟨some 71, _, _, _, _, _⟩) (v := .agg #[.slice Ay l.length cy]) rfl (by kernel_rfl) (by kernel_rfl) (by kernel_rfl) (fun _ _ _ h => h) (Or.inl ⟨by rfl, fun w' hS => by go_simp⟩) tq34.out ?_
   try simp only [Act.put, List.setIfInBounds_toArray, List.set_cons_zero, List.set_cons_succ]
   refine wpAnyH_take (i := 7) (oi := ⟨some 72, _, _, _, _, _⟩) (v := .int .i64 z) rfl (by kernel_rfl) (by kernel_rfl) (by kernel_rfl) (fun _ _ _ h => h) (Or.inl ⟨by rfl, fun w' hS => by go_simp⟩) tq34.out ?_
   try simp only [Act.put, List.setIfInBounds_toArray, List.set_cons_zero, List.set_cons_succ]
   refine wpAnyH_ready (rs := [8]) (by kernel_rfl) (by simp) ?_
   refine AllReadyH.cons (o := ⟨none, .store _ _ _, _, _, _, _⟩) rfl (fun K hK => ?_) AllReadyH.nil
   have cy0 := yq34.out.1 0 _ rfl; have cyf := yq34.out.2.1
   go_simp
   clear cy0 cyf
   have hgs := grown_one q34 w5.heap.size 0 (.slice Ay l.length cy)
   have hbx_ := yq34.out.set_ (j := 0) (by simp) (.slice Ay l.length cy)
   obtain ⟨wz, hwz⟩ : ∃ z, q34.setCell ⟨w5.heap.size, 0, none⟩ (.slice Ay l.length cy) = z := ⟨_, rfl⟩
   rw [hwz] at hgs hbx_ ⊢
   clear hwz
   have ywz := Lib.hid hbx_
   have HBwz := Lib.hid (HBq34.out.grown hgs HBq34.out.size (fun q hq => by have := Option.some.inj hq; have := HGY.out; omega))
   have twz := Lib.hid (tq34.out.kept hgs (fun e => by have := Option.some.inj e; have := HGY.out; omega))
   have HTPwz := Lib.hid (HTPq34.out.kept hgs (fun e => by have := Option.some.inj e; have := HGY.out; omega) (fun q e => by have := Option.some.inj e; have := HGY.out; omega))
   have HXFwz := Lib.hid (HXFq34.out.grown hgs (.inl (.inr rfl)))
   have HYFwz := Lib.hid (HYF.out.grown hgs (.inl (.inr rfl)))
   clear hgs hbx_
   refine hK.out _ _ twz.out (fun _ => ?_)
   clear hK K
   try simp only [Act.put, List.setIfInBounds_toArray, List.set_cons_zero, List.set_cons_succ]
   refine wpAnyH_take (i := 9) (oi := ⟨some 6, _, _, _, _, _⟩) (v := .int .i64 z) rfl (by kernel_rfl) (by kernel_rfl) (by kernel_rfl) (fun _ _ _ h => h) (Or.inl ⟨by rfl, fun w' hS => by go_simp⟩) twz.out ?_
   try simp only [Act.put, List.setIfInBounds_toArray, List.set_cons_zero, List.set_cons_succ]
   refine wpAnyH_done (by kernel_rfl) ?_ _
   go_wp2_with fail
   go_meet
   exact ⟨z, Ay, cy, l, rfl, Lib.hid ⟨HBwz.out, twz.out, ywz.out, HXFwz.out, HYFwz.out, HSP.out⟩⟩
  ·
   clear h0 h2
   go_upto_region 8 with fail
   go_cut [7] (fun s7 wx => ∃ (g7 k3 : Nat) (d : Dev) (A1 : Option Addr) (c1 : Nat), s7 = .pointer (some ⟨g7, 0, none⟩) ∧ Hid (StayD w w2.heap.size w5.heap.size AT cT L xs g7 k3 d A1 c1 wx))
   case first =>
    have hzv := HZV.out
    refine wp_region_held_drew (S := fun w' => BoxL w' w2.heap.size [.slice AT L.length cT]) (by kernel_rfl) tw20.out.drew (fun hS0 => ?_)
    obtain ⟨wd, hwd⟩ : ∃ z, World.drew w20 = z := ⟨_, rfl⟩
    rw [hwd] at hS0 ⊢
    have hb_ : Below w20.heap.size w20 wd := by rw [← hwd]; exact below_drewN_self _ _ 1
    clear hwd hS0
    have HSwd := Lib.hid (show w20.heap.size ≤ wd.heap.size from hb_.size)
    have HBwd := Lib.hid (HBw20.out.trans (hb_.mono HBw20.out.size))
    have twd := Lib.hid (tw20.out.kept (grown_none hb_) (fun e => by cases e))
    have ywd := Lib.hid (yw20.out.kept (grown_none hb_) (fun e => by cases e))
    have HTPwd := Lib.hid (HTPw20.out.kept (grown_none hb_) (fun e => by cases e) (fun g e => by cases e))
    have HXFwd := Lib.hid (HXFw20.out.below hb_)
    clear hb_
    refine wpAnyH_take (i := 0) (oi := ⟨some 29, _, _, _, _, _⟩) (v := .agg #[.slice AT L.length cT]) rfl (by kernel_rfl) (by kernel_rfl) (by kernel_rfl) (fun _ _ _ h => h) (Or.inl ⟨by rfl, fun w' hS => by (have u0_ := hS.1 0 _ rfl; go_simp)⟩) twd.out ?_
    try simp only [Act.put, List.setIfInBounds_toArray, List.set_cons_zero, List.set_cons_succ]
    refine wpAnyH_take (i := 1) (oi := ⟨some 30, _, _, _, _, _⟩) (v := .pointer (some ⟨w.heap.size, 0, none⟩)) rfl (by kernel_rfl) (by kernel_rfl) (by kernel_rfl) (fun _ _ _ h => h) (Or.inl ⟨by rfl, fun w' hS => by go_simp⟩) twd.out ?_
    try simp only [Act.put, List.setIfInBounds_toArray, List.set_cons_zero, List.set_cons_succ]
    refine wpAnyH_take (i := 2) (oi := ⟨some 31, _, _, _, _, _⟩) (v := .agg #[.slice AT L.length cT]) rfl (by kernel_rfl) (by kernel_rfl) (by kernel_rfl) (fun _ _ _ h => h) (Or.inl ⟨by rfl, fun w' hS => by (have u0_ := hS.1 0 _ rfl; go_simp)⟩) twd.out ?_
    try simp only [Act.put, List.setIfInBounds_toArray, List.set_cons_zero, List.set_cons_succ]
    refine wpAnyH_ready (rs := [3, 8]) (by kernel_rfl) (by simp) ?_
    refine AllReadyH.cons (o := ⟨some 32, .call ⟨_, _, _⟩, _, _, _, _⟩) rfl (fun K hK => ?_) (AllReadyH.cons (o := ⟨some 7, .alloc _, _, _, _, _⟩) rfl (fun K hK => ?_) (AllReadyH.nil))
    ·
     go_simp
     go_at_call 22
     refine (Some_any xs (k1 + 1) w.heap.size w.heap.size AT cT L _ wd (by have := HK1.out; omega) HTPwd.out ⟨HXFwd.out, fun x hx h => hx.2 (.inl h), fun x hx => hx.1⟩ (fun d hd => (HVT.out.small d hd).2) (by have := HLN.out; omega)).mono ?_
     rintro e' q35 ⟨n, k3, rfl, hn_, hk3_, ht_, hg_⟩
     have HBq35 := Lib.hid (HBwd.out.grown hg_ HBwd.out.size (fun q hq => by have := Option.some.inj hq; omega))
     have HTPq35 := Lib.hid ht_
     have tq35 := Lib.hid (twd.out.kept hg_ (fun e => by have := Option.some.inj e; have := HGY.out; omega))
     have yq35 := Lib.hid (ywd.out.kept hg_ (fun e => by have := Option.some.inj e; have := HGY.out; omega))
     have HXFq35 := Lib.hid (HXFwd.out.grown hg_ (.inl (.inl rfl)))
     have HK3 := Lib.hid (show k3 ≤ 5000 by have := HK1.out; omega); clear hn_ hk3_
     clear hg_ ht_
     refine hK.out _ _ tq35.out (fun _ => ?_)
     clear hK K
     try simp only [Act.put, List.setIfInBounds_toArray, List.set_cons_zero, List.set_cons_succ]
     refine wpAnyH_ready (rs := [4, 8]) (by kernel_rfl) (by simp) ?_
     refine AllReadyH.cons (o := ⟨some 33, .call ⟨_, _, _⟩, _, _, _, _⟩) rfl (fun K hK => ?_) (AllReadyH.cons (o := ⟨some 7, .alloc _, _, _, _, _⟩) rfl (fun K hK => ?_) (AllReadyH.nil))
     ·
      go_simp
      go_at_call 21
      refine (TFind_any AT cT L n q35 _ (Nat.le_refl _) HXFq35.out.out (fun d hd => attrs_le (HVT.out.chk d hd))).mono ?_
      rintro e' q36 ⟨hb_, d, A1, c1, -, rfl, hok_, -⟩
      have HSq36 := Lib.hid (show q35.heap.size ≤ q36.heap.size from hb_.size)
      have HBq36 := Lib.hid (HBq35.out.trans (hb_.mono HBq35.out.size))
      have tq36 := Lib.hid (tq35.out.kept (grown_none hb_) (fun e => by cases e))
      have yq36 := Lib.hid (yq35.out.kept (grown_none hb_) (fun e => by cases e))
      have HTPq36 := Lib.hid (HTPq35.out.kept (grown_none hb_) (fun e => by cases e) (fun g e => by cases e))
      have HXFq36 := Lib.hid (HXFq35.out.below hb_)
      have HDO := Lib.hid hok_; clear hok_
      obtain ⟨qf, hqf⟩ : ∃ q, (L.find? (byIdx n)).isSome = q := ⟨_, rfl⟩
      rw [hqf]
      clear hqf
      clear hb_
      refine hK.out _ _ tq36.out (fun _ => ?_)
      clear hK K
      try simp only [Act.put, List.setIfInBounds_toArray, List.set_cons_zero, List.set_cons_succ]
      refine wpAnyH_take (i := 5) (oi := ⟨some 28, _, _, _, _, _⟩) (v := .tuple #[.agg #[.int .i64 d.idx, .int .i64 d.par, .string d.nm, .string d.orig, .string d.sub, .string d.drv, .string d.ali, .int .i64 d.kind, .int .i64 d.num, .slice A1 d.attrs.length c1], .bool qf]) rfl (by kernel_rfl) (by kernel_rfl) (by kernel_rfl) (fun _ _ _ h => h) (Or.inl ⟨by rfl, fun w' hS => by go_simp⟩) tq36.out ?_
      try simp only [Act.put, List.setIfInBounds_toArray, List.set_cons_zero, List.set_cons_succ]
      refine wpAnyH_take (i := 6) (oi := ⟨some 34, _, _, _, _, _⟩) (v := .agg #[.int .i64 d.idx, .int .i64 d.par, .string d.nm, .string d.orig, .string d.sub, .string d.drv, .string d.ali, .int .i64 d.kind, .int .i64 d.num, .slice A1 d.attrs.length c1]) rfl (by kernel_rfl) (by kernel_rfl) (by kernel_rfl) (fun _ _ _ h => h) (Or.inl ⟨by rfl, fun w' hS => by go_simp⟩) tq36.out ?_
      try simp only [Act.put, List.setIfInBounds_toArray, List.set_cons_zero, List.set_cons_succ]
      refine wpAnyH_take (i := 7) (oi := ⟨some 35, _, _, _, _, _⟩) (v := .bool qf) rfl (by kernel_rfl) (by kernel_rfl) (by kernel_rfl) (fun _ _ _ h => h) (Or.inl ⟨by rfl, fun w' hS => by go_simp⟩) tq36.out ?_
      try simp only [Act.put, List.setIfInBounds_toArray, List.set_cons_zero, List.set_cons_succ]
      refine wpAnyH_ready (rs := [8]) (by kernel_rfl) (by simp) ?_
      refine AllReadyH.cons (o := ⟨some 7, .alloc _, _, _, _, _⟩) rfl (fun K hK => ?_) (AllReadyH.nil)
      have HNB := Lib.hid (show w5.heap.size < q36.heap.size from yq36.out.2.2)
      have HXN := Lib.hid (HXFq36.out.more (N' := fun x => (tN w.heap.size w5.heap.size) x ∨ x = q36.heap.size) (fun x hx h => by rcases h with h | h; exact h; omega))
      go_simp
      obtain ⟨q37, hq37⟩ : ∃ z, q36.alloc (.cells #[.int .i64 0, .int .i64 0, .string ByteArray.empty, .string ByteArray.empty, .string ByteArray.empty, .string ByteArray.empty, .string ByteArray.empty, .int .i64 0, .int .i64 0, .slice none 0 0] 34) = z := ⟨_, rfl⟩
      have hb_ : Below q36.heap.size q36 q37 := by rw [← hq37]; exact (Below.refl _ _).alloc (Nat.le_refl _) _
      have HXnq37 := Lib.hid (show BoxL q37 q36.heap.size [.int .i64 0, .int .i64 0, .string ByteArray.empty, .string ByteArray.empty, .string ByteArray.empty, .string ByteArray.empty, .string ByteArray.empty, .int .i64 0, .int .i64 0, .slice none 0 0] from box_mk hq37)
      try rw [hq37]
      clear hq37
      have HSq37 := Lib.hid (show q36.heap.size ≤ q37.heap.size from hb_.size)
      have HBq37 := Lib.hid (HBq36.out.trans (hb_.mono HBq36.out.size))
      have tq37 := Lib.hid (tq36.out.kept (grown_none hb_) (fun e => by cases e))
      have yq37 := Lib.hid (yq36.out.kept (grown_none hb_) (fun e => by cases e))
      have HTPq37 := Lib.hid (HTPq36.out.kept (grown_none hb_) (fun e => by cases e) (fun g e => by cases e))
      have HXFq37 := Lib.hid (HXFq36.out.below hb_)
      have HXNq37 := Lib.hid (HXN.out.below hb_)
      clear hb_
      refine hK.out _ _ tq37.out (fun _ => ?_)
      clear hK K
      try simp only [Act.put, List.setIfInBounds_toArray, List.set_cons_zero, List.set_cons_succ]
      refine wpAnyH_ready (rs := [9]) (by kernel_rfl) (by simp) ?_
      refine AllReadyH.cons (o := ⟨none, .store _ _ _, _, _, _, _⟩) rfl (fun K hK => ?_) AllReadyH.nil
      have cn0 := HXnq37.out.1 0 _ rfl
      have cn1 := HXnq37.out.1 1 _ rfl
      have cn2 := HXnq37.out.1 2 _ rfl
      have cn3 := HXnq37.out.1 3 _ rfl
      have cn4 := HXnq37.out.1 4 _ rfl
      have cn5 := HXnq37.out.1 5 _ rfl
      have cn6 := HXnq37.out.1 6 _ rfl
      have cn7 := HXnq37.out.1 7 _ rfl
      have cn8 := HXnq37.out.1 8 _ rfl
      have cn9 := HXnq37.out.1 9 _ rfl
      have cfn := HXnq37.out.2.1
      go_simp
      clear cn0 cn1 cn2 cn3 cn4 cn5 cn6 cn7 cn8 cn9 cfn
      obtain ⟨wz, hwz⟩ : ∃ z, ((((((((((q37.setCell ⟨q36.heap.size, 0, none⟩ (.int .i64 d.idx)).setCell ⟨q36.heap.size, 1, none⟩ (.int .i64 d.par)).setCell ⟨q36.heap.size, 2, none⟩ (.string d.nm)).setCell ⟨q36.heap.size, 3, none⟩ (.string d.orig)).setCell ⟨q36.heap.size, 4, none⟩ (.string d.sub)).setCell ⟨q36.heap.size, 5, none⟩ (.string d.drv)).setCell ⟨q36.heap.size, 6, none⟩ (.string d.ali)).setCell ⟨q36.heap.size, 7, none⟩ (.int .i64 d.kind)).setCell ⟨q36.heap.size, 8, none⟩ (.int .i64 d.num)).setCell ⟨q36.heap.size, 9, none⟩ (.slice A1 d.attrs.length c1)) = z := ⟨_, rfl⟩
      have HTz := Lib.hid (show BoxL wz w2.heap.size [.slice AT L.length cT] by rw [← hwz]; exact set10_ind (fun w' => BoxL w' w2.heap.size [.slice AT L.length cT]) (fun w' j v h => h.far (fun e => by have := HGY.out; have := HNB.out; omega) v) tq37.out _ _ _ _ _ _ _ _ _ _)
      have HYz := Lib.hid (show BoxL wz w5.heap.size [.slice none 0 0] by rw [← hwz]; exact set10_ind (fun w' => BoxL w' w5.heap.size [.slice none 0 0]) (fun w' j v h => h.far (fun e => by have := HGY.out; have := HNB.out; omega) v) yq37.out _ _ _ _ _ _ _ _ _ _)
      have HXz := Lib.hid (show FreeS (fun x => (tN w.heap.size w5.heap.size) x ∨ x = q36.heap.size) wz AT cT L by rw [← hwz]; exact set10_ind (fun w' => FreeS (fun x => (tN w.heap.size w5.heap.size) x ∨ x = q36.heap.size) w' AT cT L) (fun w' j v h => h.set_ (.inr rfl) j v) HXNq37.out _ _ _ _ _ _ _ _ _ _)
      have HTPz := Lib.hid (show TapeAt wz w.heap.size w.heap.size xs k3 by rw [← hwz]; exact set10_ind (fun w' => TapeAt w' w.heap.size w.heap.size xs k3) (fun w' j v h => h.set_ (by have := HGY.out; have := HNB.out; omega) (by have := HGY.out; have := HNB.out; omega) v) HTPq37.out _ _ _ _ _ _ _ _ _ _)
      have HNz := Lib.hid (show BoxL wz q36.heap.size [.int .i64 d.idx, .int .i64 d.par, .string d.nm, .string d.orig, .string d.sub, .string d.drv, .string d.ali, .int .i64 d.kind, .int .i64 d.num, .slice A1 d.attrs.length c1] by rw [← hwz]; exact boxSet10 HXnq37.out _ _ _ _ _ _ _ _ _ _)
      have HBz := Lib.hid (show Below w.heap.size w wz by rw [← hwz]; exact below10 HBq37.out (by have := HGY.out; have := HNB.out; omega) _ _ _ _ _ _ _ _ _ _)
      try rw [hwz]
      clear hwz
      refine hK.out _ _ HTz.out (fun _ => ?_)
      clear hK K
      try simp only [Act.put, List.setIfInBounds_toArray, List.set_cons_zero, List.set_cons_succ]
      refine wpAnyH_take (i := 10) (oi := ⟨some 8, _, _, _, _, _⟩) (v := .bool qf) rfl (by kernel_rfl) (by kernel_rfl) (by kernel_rfl) (fun _ _ _ h => h) (Or.inl ⟨by rfl, fun w' hS => by go_simp⟩) HTz.out ?_
      try simp only [Act.put, List.setIfInBounds_toArray, List.set_cons_zero, List.set_cons_succ]
      refine wpAnyH_done (by kernel_rfl) ?_ _
      go_wp2_with fail
      go_meet
      exact ⟨q36.heap.size, k3, d, A1, c1, rfl, Lib.hid ⟨HBz.out, HTz.out, HYz.out, HNz.out, HXz.out, HTPz.out, HK3.out, HDO.out, HNB.out⟩⟩
     ·
      have HNB := Lib.hid (show w5.heap.size < q35.heap.size from yq35.out.2.2)
      have HXN := Lib.hid (HXFq35.out.more (N' := fun x => (tN w.heap.size w5.heap.size) x ∨ x = q35.heap.size) (fun x hx h => by rcases h with h | h; exact h; omega))
      go_simp
      obtain ⟨q38, hq38⟩ : ∃ z, q35.alloc (.cells #[.int .i64 0, .int .i64 0, .string ByteArray.empty, .string ByteArray.empty, .string ByteArray.empty, .string ByteArray.empty, .string ByteArray.empty, .int .i64 0, .int .i64 0, .slice none 0 0] 34) = z := ⟨_, rfl⟩
      have hb_ : Below q35.heap.size q35 q38 := by rw [← hq38]; exact (Below.refl _ _).alloc (Nat.le_refl _) _
      have HXnq38 := Lib.hid (show BoxL q38 q35.heap.size [.int .i64 0, .int .i64 0, .string ByteArray.empty, .string ByteArray.empty, .string ByteArray.empty, .string ByteArray.empty, .string ByteArray.empty, .int .i64 0, .int .i64 0, .slice none 0 0] from box_mk hq38)
      try rw [hq38]
      clear hq38
      have HSq38 := Lib.hid (show q35.heap.size ≤ q38.heap.size from hb_.size)
      have HBq38 := Lib.hid (HBq35.out.trans (hb_.mono HBq35.out.size))
      have tq38 := Lib.hid (tq35.out.kept (grown_none hb_) (fun e => by cases e))
      have yq38 := Lib.hid (yq35.out.kept (grown_none hb_) (fun e => by cases e))
      have HTPq38 := Lib.hid (HTPq35.out.kept (grown_none hb_) (fun e => by cases e) (fun g e => by cases e))
      have HXFq38 := Lib.hid (HXFq35.out.below hb_)
      have HXNq38 := Lib.hid (HXN.out.below hb_)
      clear hb_
      refine hK.out _ _ tq38.out (fun _ => ?_)
      clear hK K
      try simp only [Act.put, List.setIfInBounds_toArray, List.set_cons_zero, List.set_cons_succ]
      refine wpAnyH_ready (rs := [4]) (by kernel_rfl) (by simp) ?_
      refine AllReadyH.cons (o := ⟨some 33, .call ⟨_, _, _⟩, _, _, _, _⟩) rfl (fun K hK => ?_) (AllReadyH.nil)
      go_simp
      go_at_call 21
      refine (TFind_any AT cT L n q38 _ (Nat.le_refl _) HXFq38.out.out (fun d hd => attrs_le (HVT.out.chk d hd))).mono ?_
      rintro e' q39 ⟨hb_, d, A1, c1, -, rfl, hok_, -⟩
      have HSq39 := Lib.hid (show q38.heap.size ≤ q39.heap.size from hb_.size)
      have HBq39 := Lib.hid (HBq38.out.trans (hb_.mono HBq38.out.size))
      have tq39 := Lib.hid (tq38.out.kept (grown_none hb_) (fun e => by cases e))
      have yq39 := Lib.hid (yq38.out.kept (grown_none hb_) (fun e => by cases e))
      have nq39 := Lib.hid (HXnq38.out.kept (grown_none hb_) (fun e => by cases e))
      have HTPq39 := Lib.hid (HTPq38.out.kept (grown_none hb_) (fun e => by cases e) (fun g e => by cases e))
      have HXFq39 := Lib.hid (HXFq38.out.below hb_)
      have HXNq39 := Lib.hid (HXNq38.out.below hb_)
      have HDO := Lib.hid hok_; clear hok_
      obtain ⟨qf, hqf⟩ : ∃ q, (L.find? (byIdx n)).isSome = q := ⟨_, rfl⟩
      rw [hqf]
      clear hqf
      clear hb_
      refine hK.out _ _ tq39.out (fun _ => ?_)
      clear hK K
      try simp only [Act.put, List.setIfInBounds_toArray, List.set_cons_zero, List.set_cons_succ]
      refine wpAnyH_take (i := 5) (oi := ⟨some 28, _, _, _, _, _⟩) (v := .tuple #[.agg #[.int .i64 d.idx, .int .i64 d.par, .string d.nm, .string d.orig, .string d.sub, .string d.drv, .string d.ali, .int .i64 d.kind, .int .i64 d.num, .slice A1 d.attrs.length c1], .bool qf]) rfl (by kernel_rfl) (by kernel_rfl) (by kernel_rfl) (fun _ _ _ h => h) (Or.inl ⟨by rfl, fun w' hS => by go_simp⟩) tq39.out ?_
      try simp only [Act.put, List.setIfInBounds_toArray, List.set_cons_zero, List.set_cons_succ]
      refine wpAnyH_take (i := 6) (oi := ⟨some 34, _, _, _, _, _⟩) (v := .agg #[.int .i64 d.idx, .int .i64 d.par, .string d.nm, .string d.orig, .string d.sub, .string d.drv, .string d.ali, .int .i64 d.kind, .int .i64 d.num, .slice A1 d.attrs.length c1]) rfl (by kernel_rfl) (by kernel_rfl) (by kernel_rfl) (fun _ _ _ h => h) (Or.inl ⟨by rfl, fun w' hS => by go_simp⟩) tq39.out ?_
      try simp only [Act.put, List.setIfInBounds_toArray, List.set_cons_zero, List.set_cons_succ]
      refine wpAnyH_take (i := 7) (oi := ⟨some 35, _, _, _, _, _⟩) (v := .bool qf) rfl (by kernel_rfl) (by kernel_rfl) (by kernel_rfl) (fun _ _ _ h => h) (Or.inl ⟨by rfl, fun w' hS => by go_simp⟩) tq39.out ?_
      try simp only [Act.put, List.setIfInBounds_toArray, List.set_cons_zero, List.set_cons_succ]
      refine wpAnyH_ready (rs := [9]) (by kernel_rfl) (by simp) ?_
      refine AllReadyH.cons (o := ⟨none, .store _ _ _, _, _, _, _⟩) rfl (fun K hK => ?_) AllReadyH.nil
      have cn0 := nq39.out.1 0 _ rfl
      have cn1 := nq39.out.1 1 _ rfl
      have cn2 := nq39.out.1 2 _ rfl
      have cn3 := nq39.out.1 3 _ rfl
      have cn4 := nq39.out.1 4 _ rfl
      have cn5 := nq39.out.1 5 _ rfl
      have cn6 := nq39.out.1 6 _ rfl
      have cn7 := nq39.out.1 7 _ rfl
      have cn8 := nq39.out.1 8 _ rfl
      have cn9 := nq39.out.1 9 _ rfl
      have cfn := nq39.out.2.1
      go_simp
      clear cn0 cn1 cn2 cn3 cn4 cn5 cn6 cn7 cn8 cn9 cfn
      obtain ⟨wz, hwz⟩ : ∃ z, ((((((((((q39.setCell ⟨q35.heap.size, 0, none⟩ (.int .i64 d.idx)).setCell ⟨q35.heap.size, 1, none⟩ (.int .i64 d.par)).setCell ⟨q35.heap.size, 2, none⟩ (.string d.nm)).setCell ⟨q35.heap.size, 3, none⟩ (.string d.orig)).setCell ⟨q35.heap.size, 4, none⟩ (.string d.sub)).setCell ⟨q35.heap.size, 5, none⟩ (.string d.drv)).setCell ⟨q35.heap.size, 6, none⟩ (.string d.ali)).setCell ⟨q35.heap.size, 7, none⟩ (.int .i64 d.kind)).setCell ⟨q35.heap.size, 8, none⟩ (.int .i64 d.num)).setCell ⟨q35.heap.size, 9, none⟩ (.slice A1 d.attrs.length c1)) = z := ⟨_, rfl⟩
      have HTz := Lib.hid (show BoxL wz w2.heap.size [.slice AT L.length cT] by rw [← hwz]; exact set10_ind (fun w' => BoxL w' w2.heap.size [.slice AT L.length cT]) (fun w' j v h => h.far (fun e => by have := HGY.out; have := HNB.out; omega) v) tq39.out _ _ _ _ _ _ _ _ _ _)
      have HYz := Lib.hid (show BoxL wz w5.heap.size [.slice none 0 0] by rw [← hwz]; exact set10_ind (fun w' => BoxL w' w5.heap.size [.slice none 0 0]) (fun w' j v h => h.far (fun e => by have := HGY.out; have := HNB.out; omega) v) yq39.out _ _ _ _ _ _ _ _ _ _)
      have HXz := Lib.hid (show FreeS (fun x => (tN w.heap.size w5.heap.size) x ∨ x = q35.heap.size) wz AT cT L by rw [← hwz]; exact set10_ind (fun w' => FreeS (fun x => (tN w.heap.size w5.heap.size) x ∨ x = q35.heap.size) w' AT cT L) (fun w' j v h => h.set_ (.inr rfl) j v) HXNq39.out _ _ _ _ _ _ _ _ _ _)
      have HTPz := Lib.hid (show TapeAt wz w.heap.size w.heap.size xs k3 by rw [← hwz]; exact set10_ind (fun w' => TapeAt w' w.heap.size w.heap.size xs k3) (fun w' j v h => h.set_ (by have := HGY.out; have := HNB.out; omega) (by have := HGY.out; have := HNB.out; omega) v) HTPq39.out _ _ _ _ _ _ _ _ _ _)
      have HNz := Lib.hid (show BoxL wz q35.heap.size [.int .i64 d.idx, .int .i64 d.par, .string d.nm, .string d.orig, .string d.sub, .string d.drv, .string d.ali, .int .i64 d.kind, .int .i64 d.num, .slice A1 d.attrs.length c1] by rw [← hwz]; exact boxSet10 nq39.out _ _ _ _ _ _ _ _ _ _)
      have HBz := Lib.hid (show Below w.heap.size w wz by rw [← hwz]; exact below10 HBq39.out (by have := HGY.out; have := HNB.out; omega) _ _ _ _ _ _ _ _ _ _)
      try rw [hwz]
      clear hwz
      refine hK.out _ _ HTz.out (fun _ => ?_)
      clear hK K
      try simp only [Act.put, List.setIfInBounds_toArray, List.set_cons_zero, List.set_cons_succ]
      refine wpAnyH_take (i := 10) (oi := ⟨some 8, _, _, _, _, _⟩) (v := .bool qf) rfl (by kernel_rfl) (by kernel_rfl) (by kernel_rfl) (fun _ _ _ h => h) (Or.inl ⟨by rfl, fun w' hS => by go_simp⟩) HTz.out ?_
      try simp only [Act.put, List.setIfInBounds_toArray, List.set_cons_zero, List.set_cons_succ]
      refine wpAnyH_done (by kernel_rfl) ?_ _
      go_wp2_with fail
      go_meet
      exact ⟨q35.heap.size, k3, d, A1, c1, rfl, Lib.hid ⟨HBz.out, HTz.out, HYz.out, HNz.out, HXz.out, HTPz.out, HK3.out, HDO.out, HNB.out⟩⟩
    ·
     have HNB := Lib.hid (show w5.heap.size < wd.heap.size from ywd.out.2.2)
     have HXN := Lib.hid (HXFwd.out.more (N' := fun x => (tN w.heap.size w5.heap.size) x ∨ x = wd.heap.size) (fun x hx h => by rcases h with h | h; exact h; omega))
     go_simp
     obtain ⟨q40, hq40⟩ : ∃ z, wd.alloc (.cells #[.int .i64 0, .int .i64 0, .string ByteArray.empty, .string ByteArray.empty, .string ByteArray.empty, .string ByteArray.empty, .string ByteArray.empty, .int .i64 0, .int .i64 0, .slice none 0 0] 34) = z := ⟨_, rfl⟩
     have hb_ : Below wd.heap.size wd q40 := by rw [← hq40]; exact (Below.refl _ _).alloc (Nat.le_refl _) _
     have HXnq40 := Lib.hid (show BoxL q40 wd.heap.size [.int .i64 0, .int .i64 0, .string ByteArray.empty, .string ByteArray.empty, .string ByteArray.empty, .string ByteArray.empty, .string ByteArray.empty, .int .i64 0, .int .i64 0, .slice none 0 0] from box_mk hq40)
     try rw [hq40]
     clear hq40
     have HSq40 := Lib.hid (show wd.heap.size ≤ q40.heap.size from hb_.size)
     have HBq40 := Lib.hid (HBwd.out.trans (hb_.mono HBwd.out.size))
     have tq40 := Lib.hid (twd.out.kept (grown_none hb_) (fun e => by cases e))
     have yq40 := Lib.hid (ywd.out.kept (grown_none hb_) (fun e => by cases e))
     have HTPq40 := Lib.hid (HTPwd.out.kept (grown_none hb_) (fun e => by cases e) (fun g e => by cases e))
     have HXFq40 := Lib.hid (HXFwd.out.below hb_)
     have HXNq40 := Lib.hid (HXN.out.below hb_)
     clear hb_
     refine hK.out _ _ tq40.out (fun _ => ?_)
     clear hK K
     try simp only [Act.put, List.setIfInBounds_toArray, List.set_cons_zero, List.set_cons_succ]
     refine wpAnyH_ready (rs := [3]) (by kernel_rfl) (by simp) ?_
     refine AllReadyH.cons (o := ⟨some 32, .call ⟨_, _, _⟩, _, _, _, _⟩) rfl (fun K hK => ?_) (AllReadyH.nil)
     go_simp
     go_at_call 22
     refine (Some_any xs (k1 + 1) w.heap.size w.heap.size AT cT L _ q40 (by have := HK1.out; omega) HTPq40.out ⟨HXFq40.out, fun x hx h => hx.2 (.inl h), fun x hx => hx.1⟩ (fun d hd => (HVT.out.small d hd).2) (by have := HLN.out; omega)).mono ?_
     rintro e' q41 ⟨n, k3, rfl, hn_, hk3_, ht_, hg_⟩
     have HBq41 := Lib.hid (HBq40.out.grown hg_ HBq40.out.size (fun q hq => by have := Option.some.inj hq; omega))
     have HTPq41 := Lib.hid ht_
     have tq41 := Lib.hid (tq40.out.kept hg_ (fun e => by have := Option.some.inj e; have := HGY.out; have := HNB.out; omega))
     have yq41 := Lib.hid (yq40.out.kept hg_ (fun e => by have := Option.some.inj e; have := HGY.out; have := HNB.out; omega))
     have nq41 := Lib.hid (HXnq40.out.kept hg_ (fun e => by have := Option.some.inj e; have := HGY.out; have := HNB.out; omega))
     have HXFq41 := Lib.hid (HXFq40.out.grown hg_ (.inl (.inl rfl)))
     have HXNq41 := Lib.hid (HXNq40.out.grown hg_ (.inl (.inl (.inl rfl))))
     have HK3 := Lib.hid (show k3 ≤ 5000 by have := HK1.out; omega); clear hn_ hk3_
     clear hg_ ht_
     refine hK.out _ _ tq41.out (fun _ => ?_)
     clear hK K
     try simp only [Act.put, List.setIfInBounds_toArray, List.set_cons_zero, List.set_cons_succ]
     refine wpAnyH_ready (rs := [4]) (by kernel_rfl) (by simp) ?_
     refine AllReadyH.cons (o := ⟨some 33, .call ⟨_, _, _⟩, _, _, _, _⟩) rfl (fun K hK => ?_) (AllReadyH.nil)
     go_simp
     go_at_call 21
     refine (TFind_any AT cT L n q41 _ (Nat.le_refl _) HXFq41.out.out (fun d hd => attrs_le (HVT.out.chk d hd))).mono ?_
     rintro e' q42 ⟨hb_, d, A1, c1, -, rfl, hok_, -⟩
     have HSq42 := Lib.hid (show q41.heap.size ≤ q42.heap.size from hb_.size)
     have HBq42 := Lib.hid (HBq41.out.trans (hb_.mono HBq41.out.size))
     have tq42 := Lib.hid (tq41.out.kept (grown_none hb_) (fun e => by cases e))
     have yq42 := Lib.hid (yq41.out.kept (grown_none hb_) (fun e => by cases e))
     have nq42 := Lib.hid (nq41.out.kept (grown_none hb_) (fun e => by cases e))
     have HTPq42 := Lib.hid (HTPq41.out.kept (grown_none hb_) (fun e => by cases e) (fun g e => by cases e))
     have HXFq42 := Lib.hid (HXFq41.out.below hb_)
     have HXNq42 := Lib.hid (HXNq41.out.below hb_)
     have HDO := Lib.hid hok_; clear hok_
     obtain ⟨qf, hqf⟩ : ∃ q, (L.find? (byIdx n)).isSome = q := ⟨_, rfl⟩
     rw [hqf]
     clear hqf
     clear hb_
     refine hK.out _ _ tq42.out (fun _ => ?_)
     clear hK K
     try simp only [Act.put, List.setIfInBounds_toArray, List.set_cons_zero, List.set_cons_succ]
     refine wpAnyH_take (i := 5) (oi := ⟨some 28, _, _, _, _, _⟩) (v := .tuple #[.agg #[.int .i64 d.idx, .int .i64 d.par, .string d.nm, .string d.orig, .string d.sub, .string d.drv, .string d.ali, .int .i64 d.kind, .int .i64 d.num, .slice A1 d.attrs.length c1], .bool qf]) rfl (by kernel_rfl) (by kernel_rfl) (by kernel_rfl) (fun _ _ _ h => h) (Or.inl ⟨by rfl, fun w' hS => by go_simp⟩) tq42.out ?_
     try simp only [Act.put, List.setIfInBounds_toArray, List.set_cons_zero, List.set_cons_succ]
     refine wpAnyH_take (i := 6) (oi := ⟨some 34, _, _, _, _, _⟩) (v := .agg #[.int .i64 d.idx, .int .i64 d.par, .string d.nm, .string d.orig, .string d.sub, .string d.drv, .string d.ali, .int .i64 d.kind, .int .i64 d.num, .slice A1 d.attrs.length c1]) rfl (by kernel_rfl) (by kernel_rfl) (by kernel_rfl) (fun _ _ _ h => h) (Or.inl ⟨by rfl, fun w' hS => by go_simp⟩) tq42.out ?_
     try simp only [Act.put, List.setIfInBounds_toArray, List.set_cons_zero, List.set_cons_succ]
     refine wpAnyH_take (i := 7) (oi := ⟨some 35, _, _, _, _, _⟩) (v := .bool qf) rfl (by kernel_rfl) (by kernel_rfl) (by kernel_rfl) (fun _ _ _ h => h) (Or.inl ⟨by rfl, fun w' hS => by go_simp⟩) tq42.out ?_
     try simp only [Act.put, List.setIfInBounds_toArray, List.set_cons_zero, List.set_cons_succ]
     refine wpAnyH_ready (rs := [9]) (by kernel_rfl) (by simp) ?_
     refine AllReadyH.cons (o := ⟨none, .store _ _ _, _, _, _, _⟩) rfl (fun K hK => ?_) AllReadyH.nil
     have cn0 := nq42.out.1 0 _ rfl
     have cn1 := nq42.out.1 1 _ rfl
     have cn2 := nq42.out.1 2 _ rfl
     have cn3 := nq42.out.1 3 _ rfl
     have cn4 := nq42.out.1 4 _ rfl
     have cn5 := nq42.out.1 5 _ rfl
     have cn6 := nq42.out.1 6 _ rfl
     have cn7 := nq42.out.1 7 _ rfl
     have cn8 := nq42.out.1 8 _ rfl
     have cn9 := nq42.out.1 9 _ rfl
     have cfn := nq42.out.2.1
     go_simp
     clear cn0 cn1 cn2 cn3 cn4 cn5 cn6 cn7 cn8 cn9 cfn
     obtain ⟨wz, hwz⟩ : ∃ z, ((((((((((q42.setCell ⟨wd.heap.size, 0, none⟩ (.int .i64 d.idx)).setCell ⟨wd.heap.size, 1, none⟩ (.int .i64 d.par)).setCell ⟨wd.heap.size, 2, none⟩ (.string d.nm)).setCell ⟨wd.heap.size, 3, none⟩ (.string d.orig)).setCell ⟨wd.heap.size, 4, none⟩ (.string d.sub)).setCell ⟨wd.heap.size, 5, none⟩ (.string d.drv)).setCell ⟨wd.heap.size, 6, none⟩ (.string d.ali)).setCell ⟨wd.heap.size, 7, none⟩ (.int .i64 d.kind)).setCell ⟨wd.heap.size, 8, none⟩ (.int .i64 d.num)).setCell ⟨wd.heap.size, 9, none⟩ (.slice A1 d.attrs.length c1)) = z := ⟨_, rfl⟩
     have HTz := Lib.hid (show BoxL wz w2.heap.size [.slice AT L.length cT] by rw [← hwz]; exact set10_ind (fun w' => BoxL w' w2.heap.size [.slice AT L.length cT]) (fun w' j v h => h.far (fun e => by have := HGY.out; have := HNB.out; omega) v) tq42.out _ _ _ _ _ _ _ _ _ _)
     have HYz := Lib.hid (show BoxL wz w5.heap.size [.slice none 0 0] by rw [← hwz]; exact set10_ind (fun w' => BoxL w' w5.heap.size [.slice none 0 0]) (fun w' j v h => h.far (fun e => by have := HGY.out; have := HNB.out; omega) v) yq42.out _ _ _ _ _ _ _ _ _ _)
     have HXz := Lib.hid (show FreeS (fun x => (tN w.heap.size w5.heap.size) x ∨ x = wd.heap.size) wz AT cT L by rw [← hwz]; exact set10_ind (fun w' => FreeS (fun x => (tN w.heap.size w5.heap.size) x ∨ x = wd.heap.size) w' AT cT L) (fun w' j v h => h.set_ (.inr rfl) j v) HXNq42.out _ _ _ _ _ _ _ _ _ _)
     have HTPz := Lib.hid (show TapeAt wz w.heap.size w.heap.size xs k3 by rw [← hwz]; exact set10_ind (fun w' => TapeAt w' w.heap.size w.heap.size xs k3) (fun w' j v h => h.set_ (by have := HGY.out; have := HNB.out; omega) (by have := HGY.out; have := HNB.out; omega) v) HTPq42.out _ _ _ _ _ _ _ _ _ _)
     have HNz := Lib.hid (show BoxL wz wd.heap.size [.int .i64 d.idx, .int .i64 d.par, .string d.nm, .string d.orig, .string d.sub, .string d.drv, .string d.ali, .int .i64 d.kind, .int .i64 d.num, .slice A1 d.attrs.length c1] by rw [← hwz]; exact boxSet10 nq42.out _ _ _ _ _ _ _ _ _ _)
     have HBz := Lib.hid (show Below w.heap.size w wz by rw [← hwz]; exact below10 HBq42.out (by have := HGY.out; have := HNB.out; omega) _ _ _ _ _ _ _ _ _ _)
     try rw [hwz]
     clear hwz
     refine hK.out _ _ HTz.out (fun _ => ?_)
     clear hK K
     try simp only [Act.put, List.setIfInBounds_toArray, List.set_cons_zero, List.set_cons_succ]
     refine wpAnyH_take (i := 10) (oi := ⟨some 8, _, _, _, _, _⟩) (v := .bool qf) rfl (by kernel_rfl) (by kernel_rfl) (by kernel_rfl) (fun _ _ _ h => h) (Or.inl ⟨by rfl, fun w' hS => by go_simp⟩) HTz.out ?_
     try simp only [Act.put, List.setIfInBounds_toArray, List.set_cons_zero, List.set_cons_succ]
     refine wpAnyH_done (by kernel_rfl) ?_ _
     go_wp2_with fail
     go_meet
     exact ⟨wd.heap.size, k3, d, A1, c1, rfl, Lib.hid ⟨HBz.out, HTz.out, HYz.out, HNz.out, HXz.out, HTPz.out, HK3.out, HDO.out, HNB.out⟩⟩
   case rest =>
   obtain ⟨g7, k3, d, A1, c1, rfl, HCB⟩ := hcut
   obtain ⟨hb_, ht_, hy_, hn_, hx_, htp_, hk3, hdo, hg7⟩ := HCB.out
   obtain ⟨wk, hwk⟩ : ∃ z, z = wc := ⟨_, rfl⟩
   subst hwk
   have HBk := Lib.hid hb_; have HTk := Lib.hid ht_; have HYk := Lib.hid hy_; have HNk := Lib.hid (show BoxL wk g7 [.int .i64 d.idx, .int .i64 d.par, .string d.nm, .string d.orig, .string d.sub, .string d.drv, .string d.ali, .int .i64 d.kind, .int .i64 d.num, .slice A1 d.attrs.length c1] from hn_); have HXk := Lib.hid hx_; have HTPk := Lib.hid htp_; have HK3 := Lib.hid hk3; have HDO := Lib.hid hdo; have HG7 := Lib.hid hg7
   clear hb_ ht_ hy_ hn_ hx_ htp_ hk3 hdo hg7 HCB
   go_wp2_with fail
   refine (Attrs_any xs k3 w.heap.size w.heap.size wk (by have := HK3.out; omega) HTPk.out).mono ?_
   rintro e w40 ⟨v, l4, j4, rfl, hown_, hfew_, hj_, ht_, hg_⟩
   have HBw40 := Lib.hid (HBk.out.grown hg_ HBk.out.size (fun q hq => by have := Option.some.inj hq; omega))
   have HTPw40 := Lib.hid ht_
   have tw40 := Lib.hid (HTk.out.kept hg_ (fun e => by have := Option.some.inj e; have := HGY.out; have := HG7.out; omega))
   have yw40 := Lib.hid (HYk.out.kept hg_ (fun e => by have := Option.some.inj e; have := HGY.out; have := HG7.out; omega))
   have nw40 := Lib.hid (HNk.out.kept hg_ (fun e => by have := Option.some.inj e; have := HGY.out; have := HG7.out; omega))
   have HXNw40 := Lib.hid (HXk.out.grown hg_ (.inl (.inl (.inl rfl))))
   have HJ4 := Lib.hid hj_; have HF4 := Lib.hid hfew_
   obtain ⟨A4, c4, rfl, hfr_⟩ := hown_.free (N := fun x => (tN w.heap.size w5.heap.size) x ∨ x = g7) (fun x hx => by have := HGY.out; have := HG7.out; have := HNk.out.2.2; refine ⟨by rcases hx with (h | h) | h <;> omega, fun h => h⟩)
   have HA4 := Lib.hid hfr_
   clear hown_ hfew_ hj_ ht_ hg_ hfr_
   have cn0 := nw40.out.1 0 _ rfl
   have cn1 := nw40.out.1 1 _ rfl
   have cn2 := nw40.out.1 2 _ rfl
   have cn3 := nw40.out.1 3 _ rfl
   have cn4 := nw40.out.1 4 _ rfl
   have cn5 := nw40.out.1 5 _ rfl
   have cn6 := nw40.out.1 6 _ rfl
   have cn7 := nw40.out.1 7 _ rfl
   have cn8 := nw40.out.1 8 _ rfl
   have cn9 := nw40.out.1 9 _ rfl
   have cfn := nw40.out.2.1
   go_upto_region 10 with fail
   clear cn0 cn1 cn2 cn3 cn4 cn5 cn6 cn7 cn8 cn9 cfn
   have hgs := grown_one w40 g7 5 (.string ⟨#[111, 116, 104, 101, 114]⟩)
   have hbx_ := nw40.out.set_ (j := 5) (by simp) (.string ⟨#[111, 116, 104, 101, 114]⟩)
   obtain ⟨w41, hw41⟩ : ∃ z, w40.setCell ⟨g7, 5, none⟩ (.string ⟨#[111, 116, 104, 101, 114]⟩) = z := ⟨_, rfl⟩
   rw [hw41] at hgs hbx_ ⊢
   clear hw41
   have nw41 := Lib.hid hbx_
   have HBw41 := Lib.hid (HBw40.out.grown hgs HBw40.out.size (fun q hq => by have := Option.some.inj hq; have := HGY.out; have := HG7.out; omega))
   have tw41 := Lib.hid (tw40.out.kept hgs (fun e => by have := Option.some.inj e; have := HGY.out; have := HG7.out; omega))
   have yw41 := Lib.hid (yw40.out.kept hgs (fun e => by have := Option.some.inj e; have := HGY.out; have := HG7.out; omega))
   have HTPw41 := Lib.hid (HTPw40.out.kept hgs (fun e => by have := Option.some.inj e; have := HGY.out; have := HG7.out; omega) (fun q e => by have := Option.some.inj e; have := HGY.out; have := HG7.out; omega))
   have HXNw41 := Lib.hid (HXNw40.out.grown hgs (.inl (.inr rfl)))
   have HA4w41 := Lib.hid (HA4.out.grown hgs (.inl (.inr rfl)))
   clear hgs hbx_
   have hgs := grown_one w41 g7 9 (.slice A4 l4.length c4)
   have hbx_ := nw41.out.set_ (j := 9) (by simp) (.slice A4 l4.length c4)
   obtain ⟨w42, hw42⟩ : ∃ z, w41.setCell ⟨g7, 9, none⟩ (.slice A4 l4.length c4) = z := ⟨_, rfl⟩
   rw [hw42] at hgs hbx_ ⊢
   clear hw42
   have nw42 := Lib.hid hbx_
   have HBw42 := Lib.hid (HBw41.out.grown hgs HBw41.out.size (fun q hq => by have := Option.some.inj hq; have := HGY.out; have := HG7.out; omega))
   have tw42 := Lib.hid (tw41.out.kept hgs (fun e => by have := Option.some.inj e; have := HGY.out; have := HG7.out; omega))
   have yw42 := Lib.hid (yw41.out.kept hgs (fun e => by have := Option.some.inj e; have := HGY.out; have := HG7.out; omega))
   have HTPw42 := Lib.hid (HTPw41.out.kept hgs (fun e => by have := Option.some.inj e; have := HGY.out; have := HG7.out; omega) (fun q e => by have := Option.some.inj e; have := HGY.out; have := HG7.out; omega))
   have HXNw42 := Lib.hid (HXNw41.out.grown hgs (.inl (.inr rfl)))
   have HA4w42 := Lib.hid (HA4w41.out.grown hgs (.inl (.inr rfl)))
   clear hgs hbx_
   have HN42 := Lib.hid (show BoxL w42 g7 [.int .i64 d.idx, .int .i64 d.par, .string d.nm, .string d.orig, .string d.sub, .string ⟨#[111, 116, 104, 101, 114]⟩, .string d.ali, .int .i64 d.kind, .int .i64 d.num, .slice A4 l4.length c4] from nw42.out)
   by_cases hk4 : d.kind = 4
   ·
    have ek : (d.kind == 4) = true := by rw [hk4]; rfl
    have cn0 := HN42.out.1 0 _ rfl
    have cn1 := HN42.out.1 1 _ rfl
    have cn2 := HN42.out.1 2 _ rfl
    have cn3 := HN42.out.1 3 _ rfl
    have cn4 := HN42.out.1 4 _ rfl
    have cn5 := HN42.out.1 5 _ rfl
    have cn6 := HN42.out.1 6 _ rfl
    have cn7 := HN42.out.1 7 _ rfl
    have cn8 := HN42.out.1 8 _ rfl
    have cn9 := HN42.out.1 9 _ rfl
    have cfn := HN42.out.2.1
    go_wp2_with fail
    refine (One_lit [⟨#[101, 116, 104, 48]⟩, ⟨#[101, 116, 104, 49]⟩, ⟨#[108, 97, 110, 48]⟩, ⟨#[116, 97, 112]⟩] xs (k3 + j4) w.heap.size w.heap.size _ _ w42 4 rfl rfl (by have := HK3.out; have := HJ4.out; omega) HTPw42.out (by simp) (by simp)).mono ?_
    rintro e w51 ⟨nm, hm_, rfl, ht_, hg_⟩
    clear cn0 cn1 cn2 cn3 cn4 cn5 cn6 cn7 cn8 cn9 cfn
    have HBw51 := Lib.hid (HBw42.out.grown hg_ HBw42.out.size (fun q hq => by have := Option.some.inj hq; omega))
    have HTPw51 := Lib.hid ht_
    have tw51 := Lib.hid (tw42.out.kept hg_ (fun e => by have := Option.some.inj e; have := HGY.out; have := HG7.out; omega))
    have yw51 := Lib.hid (yw42.out.kept hg_ (fun e => by have := Option.some.inj e; have := HGY.out; have := HG7.out; omega))
    have nw51 := Lib.hid (HN42.out.kept hg_ (fun e => by have := Option.some.inj e; have := HGY.out; have := HG7.out; omega))
    have HXNw51 := Lib.hid (HXNw42.out.grown hg_ (.inl (.inl (.inl rfl))))
    have HA4w51 := Lib.hid (HA4w42.out.grown hg_ (.inl (.inl (.inl rfl))))
    have HNMS := Lib.hid (show nm.size ≤ maxLen from by simp only [List.mem_cons, List.not_mem_nil, or_false] at hm_; rcases hm_ with rfl | rfl | rfl | rfl <;> decide)
    clear hm_ ht_ hg_ ek hk4
    have cn0 := nw51.out.1 0 _ rfl
    have cn1 := nw51.out.1 1 _ rfl
    have cn2 := nw51.out.1 2 _ rfl
    have cn3 := nw51.out.1 3 _ rfl
    have cn4 := nw51.out.1 4 _ rfl
    have cn5 := nw51.out.1 5 _ rfl
    have cn6 := nw51.out.1 6 _ rfl
    have cn7 := nw51.out.1 7 _ rfl
    have cn8 := nw51.out.1 8 _ rfl
    have cn9 := nw51.out.1 9 _ rfl
    have cfn := nw51.out.2.1
    go_upto_region 12 with fail
    clear cn0 cn1 cn2 cn3 cn4 cn5 cn6 cn7 cn8 cn9 cfn
    have hgs := grown_one w51 g7 2 (.string nm)
    have hbx_ := nw51.out.set_ (j := 2) (by simp) (.string nm)
    obtain ⟨w52, hw52⟩ : ∃ z, w51.setCell ⟨g7, 2, none⟩ (.string nm) = z := ⟨_, rfl⟩
    rw [hw52] at hgs hbx_ ⊢
    clear hw52
    have nw52 := Lib.hid hbx_
    have HBw52 := Lib.hid (HBw51.out.grown hgs HBw51.out.size (fun q hq => by have := Option.some.inj hq; have := HGY.out; have := HG7.out; omega))
    have tw52 := Lib.hid (tw51.out.kept hgs (fun e => by have := Option.some.inj e; have := HGY.out; have := HG7.out; omega))
    have yw52 := Lib.hid (yw51.out.kept hgs (fun e => by have := Option.some.inj e; have := HGY.out; have := HG7.out; omega))
    have HTPw52 := Lib.hid (HTPw51.out.kept hgs (fun e => by have := Option.some.inj e; have := HGY.out; have := HG7.out; omega) (fun q e => by have := Option.some.inj e; have := HGY.out; have := HG7.out; omega))
    have HXNw52 := Lib.hid (HXNw51.out.grown hgs (.inl (.inr rfl)))
    have HA4w52 := Lib.hid (HA4w51.out.grown hgs (.inl (.inr rfl)))
    clear hgs hbx_
    have HN52 := Lib.hid (show BoxL w52 g7 [.int .i64 d.idx, .int .i64 d.par, .string nm, .string d.orig, .string d.sub, .string ⟨#[111, 116, 104, 101, 114]⟩, .string d.ali, .int .i64 d.kind, .int .i64 d.num, .slice A4 l4.length c4] from nw52.out)
    have ct0 := tw52.out.1 0 _ rfl
    have cn0 := HN52.out.1 0 _ rfl
    have cn1 := HN52.out.1 1 _ rfl
    have cn2 := HN52.out.1 2 _ rfl
    have cn3 := HN52.out.1 3 _ rfl
    have cn4 := HN52.out.1 4 _ rfl
    have cn5 := HN52.out.1 5 _ rfl
    have cn6 := HN52.out.1 6 _ rfl
    have cn7 := HN52.out.1 7 _ rfl
    have cn8 := HN52.out.1 8 _ rfl
    have cn9 := HN52.out.1 9 _ rfl
    have cfn := HN52.out.2.1
    have HDD := Lib.hid (show devOk ({ d with nm := nm, drv := ⟨#[111, 116, 104, 101, 114]⟩, attrs := l4 } : Dev) from by
     obtain ⟨h1, h2, h3, h4, h5, h6, h7, h8, h9⟩ := HDO.out
     exact ⟨h1, h2, HNMS.out, h4, h5, by show (⟨#[111, 116, 104, 101, 114]⟩ : ByteArray).size ≤ maxLen; decide, h7, h8, h9⟩)
    obtain ⟨z, hz⟩ : ∃ z, chgE L ({ d with nm := nm, drv := ⟨#[111, 116, 104, 101, 114]⟩, attrs := l4 } : Dev) = z := ⟨_, rfl⟩
    obtain ⟨l, hl⟩ : ∃ z, chgX L ({ d with nm := nm, drv := ⟨#[111, 116, 104, 101, 114]⟩, attrs := l4 } : Dev) = z := ⟨_, rfl⟩
    have HSP := Lib.hid (show StayP L z l by rw [← hz, ← hl]; exact stayC HVT.out _)
    have HZ := Lib.hid hz; have HLZ := Lib.hid hl; clear hz hl
    have HNLT := Lib.hid (show w.heap.size < w52.heap.size ∧ w5.heap.size < w52.heap.size from ⟨by have := HGY.out; have := yw52.out.2.2; omega, yw52.out.2.2⟩)
    have hcc := Change_any AT cT L ({ d with nm := nm, drv := ⟨#[111, 116, 104, 101, 114]⟩, attrs := l4 } : Dev) A4 c4 w52 _ (Nat.le_refl _) HXNw52.out.out HDD.out HA4w52.out.out HVT.out (HOK.out.next HBw52.out)
    rw [HZ.out, HLZ.out] at hcc
    have HCC := Lib.hid hcc; clear hcc
    go_wp2_with fail
    refine Calls.mono HCC.out ?_
    rintro e w60 ⟨hb_, v, rfl, hown_⟩
    clear HCC
    clear ct0 cn0 cn1 cn2 cn3 cn4 cn5 cn6 cn7 cn8 cn9 cfn
    have HSw60 := Lib.hid (show w52.heap.size ≤ w60.heap.size from hb_.size)
    have HBw60 := Lib.hid (HBw52.out.trans (hb_.mono HBw52.out.size))
    have tw60 := Lib.hid (tw52.out.kept (grown_none hb_) (fun e => by cases e))
    have yw60 := Lib.hid (yw52.out.kept (grown_none hb_) (fun e => by cases e))
    have nw60 := Lib.hid (HN52.out.kept (grown_none hb_) (fun e => by cases e))
    have HTPw60 := Lib.hid (HTPw52.out.kept (grown_none hb_) (fun e => by cases e) (fun g e => by cases e))
    have HXNw60 := Lib.hid (HXNw52.out.below hb_)
    have HA4w60 := Lib.hid (HA4w52.out.below hb_)
    obtain ⟨Ay, cy, rfl, hfr_⟩ := hown_.free (N := (tN w.heap.size w5.heap.size)) (fun x hx => by have := HNLT.out; rcases hx with h | h <;> constructor <;> (try intro h9) <;> (try have h9 : _ ≤ x := h9) <;> omega)
    have HYF := Lib.hid hfr_; clear hown_ hfr_ HNLT
    clear hb_
    have HXF := Lib.hid (HXNw60.out.more (N' := (tN w.heap.size w5.heap.size)) (fun x _ h => .inl h))
    have cy0 := yw60.out.1 0 _ rfl
    have cyf := yw60.out.2.1
    go_wp2_with fail
    clear cyf
    clear cy0
    have hgs := grown_one w60 w5.heap.size 0 (.slice Ay l.length cy)
    have hbx_ := yw60.out.set_ (j := 0) (by simp) (.slice Ay l.length cy)
    obtain ⟨wz, hwz⟩ : ∃ z, w60.setCell ⟨w5.heap.size, 0, none⟩ (.slice Ay l.length cy) = z := ⟨_, rfl⟩
    rw [hwz] at hgs hbx_ ⊢
    clear hwz
    have ywz := Lib.hid hbx_
    have HBwz := Lib.hid (HBw60.out.grown hgs HBw60.out.size (fun q hq => by have := Option.some.inj hq; have := HGY.out; omega))
    have twz := Lib.hid (tw60.out.kept hgs (fun e => by have := Option.some.inj e; have := HGY.out; omega))
    have HXFwz := Lib.hid (HXF.out.grown hgs (.inl (.inr rfl)))
    have HYFwz := Lib.hid (HYF.out.grown hgs (.inl (.inr rfl)))
    clear hgs hbx_
    go_meet
    exact ⟨z, Ay, cy, l, rfl, Lib.hid ⟨HBwz.out, twz.out, ywz.out, HXFwz.out, HYFwz.out, HSP.out⟩⟩
   ·
    have ek : (d.kind == 4) = false := by simpa using hk4
    have HNMS := Lib.hid (show d.nm.size ≤ maxLen from HDO.out.2.2.1)
    clear hk4
    have ct0 := tw42.out.1 0 _ rfl
    have cn0 := HN42.out.1 0 _ rfl
    have cn1 := HN42.out.1 1 _ rfl
    have cn2 := HN42.out.1 2 _ rfl
    have cn3 := HN42.out.1 3 _ rfl
    have cn4 := HN42.out.1 4 _ rfl
    have cn5 := HN42.out.1 5 _ rfl
    have cn6 := HN42.out.1 6 _ rfl
    have cn7 := HN42.out.1 7 _ rfl
    have cn8 := HN42.out.1 8 _ rfl
    have cn9 := HN42.out.1 9 _ rfl
    have cfn := HN42.out.2.1
    go_upto_region 12 with fail
    clear ek
    clear ct0 cn0 cn1 cn2 cn3 cn4 cn5 cn6 cn7 cn8 cn9 cfn
    have ct0 := tw42.out.1 0 _ rfl
    have cn0 := HN42.out.1 0 _ rfl
    have cn1 := HN42.out.1 1 _ rfl
    have cn2 := HN42.out.1 2 _ rfl
    have cn3 := HN42.out.1 3 _ rfl
    have cn4 := HN42.out.1 4 _ rfl
    have cn5 := HN42.out.1 5 _ rfl
    have cn6 := HN42.out.1 6 _ rfl
    have cn7 := HN42.out.1 7 _ rfl
    have cn8 := HN42.out.1 8 _ rfl
    have cn9 := HN42.out.1 9 _ rfl
    have cfn := HN42.out.2.1
    have HDD := Lib.hid (show devOk ({ d with nm := d.nm, drv := ⟨#[111, 116, 104, 101, 114]⟩, attrs := l4 } : Dev) from by
     obtain ⟨h1, h2, h3, h4, h5, h6, h7, h8, h9⟩ := HDO.out
     exact ⟨h1, h2, HNMS.out, h4, h5, by show (⟨#[111, 116, 104, 101, 114]⟩ : ByteArray).size ≤ maxLen; decide, h7, h8, h9⟩)
    obtain ⟨z, hz⟩ : ∃ z, chgE L ({ d with nm := d.nm, drv := ⟨#[111, 116, 104, 101, 114]⟩, attrs := l4 } : Dev) = z := ⟨_, rfl⟩
    obtain ⟨l, hl⟩ : ∃ z, chgX L ({ d with nm := d.nm, drv := ⟨#[111, 116, 104, 101, 114]⟩, attrs := l4 } : Dev) = z := ⟨_, rfl⟩
    have HSP := Lib.hid (show StayP L z l by rw [← hz, ← hl]; exact stayC HVT.out _)
    have HZ := Lib.hid hz; have HLZ := Lib.hid hl; clear hz hl
    have HNLT := Lib.hid (show w.heap.size < w42.heap.size ∧ w5.heap.size < w42.heap.size from ⟨by have := HGY.out; have := yw42.out.2.2; omega, yw42.out.2.2⟩)
    have hcc := Change_any AT cT L ({ d with nm := d.nm, drv := ⟨#[111, 116, 104, 101, 114]⟩, attrs := l4 } : Dev) A4 c4 w42 _ (Nat.le_refl _) HXNw42.out.out HDD.out HA4w42.out.out HVT.out (HOK.out.next HBw42.out)
    rw [HZ.out, HLZ.out] at hcc
    have HCC := Lib.hid hcc; clear hcc
    go_wp2_with fail
    refine Calls.mono HCC.out ?_
    rintro e w60 ⟨hb_, v, rfl, hown_⟩
    clear HCC
    clear ct0 cn0 cn1 cn2 cn3 cn4 cn5 cn6 cn7 cn8 cn9 cfn
    have HSw60 := Lib.hid (show w42.heap.size ≤ w60.heap.size from hb_.size)
    have HBw60 := Lib.hid (HBw42.out.trans (hb_.mono HBw42.out.size))
    have tw60 := Lib.hid (tw42.out.kept (grown_none hb_) (fun e => by cases e))
    have yw60 := Lib.hid (yw42.out.kept (grown_none hb_) (fun e => by cases e))
    have nw60 := Lib.hid (HN42.out.kept (grown_none hb_) (fun e => by cases e))
    have HTPw60 := Lib.hid (HTPw42.out.kept (grown_none hb_) (fun e => by cases e) (fun g e => by cases e))
    have HXNw60 := Lib.hid (HXNw42.out.below hb_)
    have HA4w60 := Lib.hid (HA4w42.out.below hb_)
    obtain ⟨Ay, cy, rfl, hfr_⟩ := hown_.free (N := (tN w.heap.size w5.heap.size)) (fun x hx => by have := HNLT.out; rcases hx with h | h <;> constructor <;> (try intro h9) <;> (try have h9 : _ ≤ x := h9) <;> omega)
    have HYF := Lib.hid hfr_; clear hown_ hfr_ HNLT
    clear hb_
    have HXF := Lib.hid (HXNw60.out.more (N' := (tN w.heap.size w5.heap.size)) (fun x _ h => .inl h))
    have cy0 := yw60.out.1 0 _ rfl
    have cyf := yw60.out.2.1
    go_wp2_with fail
    clear cyf
    clear cy0
    have hgs := grown_one w60 w5.heap.size 0 (.slice Ay l.length cy)
    have hbx_ := yw60.out.set_ (j := 0) (by simp) (.slice Ay l.length cy)
    obtain ⟨wz, hwz⟩ : ∃ z, w60.setCell ⟨w5.heap.size, 0, none⟩ (.slice Ay l.length cy) = z := ⟨_, rfl⟩
    rw [hwz] at hgs hbx_ ⊢
    clear hwz
    have ywz := Lib.hid hbx_
    have HBwz := Lib.hid (HBw60.out.grown hgs HBw60.out.size (fun q hq => by have := Option.some.inj hq; have := HGY.out; omega))
    have twz := Lib.hid (tw60.out.kept hgs (fun e => by have := Option.some.inj e; have := HGY.out; omega))
    have HXFwz := Lib.hid (HXF.out.grown hgs (.inl (.inr rfl)))
    have HYFwz := Lib.hid (HYF.out.grown hgs (.inl (.inr rfl)))
    clear hgs hbx_
    go_meet
    exact ⟨z, Ay, cy, l, rfl, Lib.hid ⟨HBwz.out, twz.out, ywz.out, HXFwz.out, HYFwz.out, HSP.out⟩⟩
 case rest =>
 obtain ⟨z, Ay, cy, l, rfl, HCB⟩ := hcut
 obtain ⟨hb_, ht_, hy_, hx_, hyf_, hsp⟩ := HCB.out
 obtain ⟨wk, hwk⟩ : ∃ z, z = wc := ⟨_, rfl⟩
 subst hwk
 have HBk := Lib.hid hb_; have HTk := Lib.hid ht_; have HYk := Lib.hid hy_; have HXF := Lib.hid hx_; have HYF := Lib.hid hyf_; have HSP := Lib.hid hsp
 have hyl := hyf_.1; have hyl2 := hyf_.2.1
 unfold maxLen at hyl2
 clear hb_ ht_ hy_ hx_ hyf_ hsp HCB h0 h2
 have ct0 := HTk.out.1 0 _ rfl
 have cy0 := HYk.out.1 0 _ rfl
 by_cases hz : z = 0
 ·
  subst hz
  have HVL := Lib.hid (HSP.out.2 rfl)
  have HVM := Lib.hid (show ∀ d ∈ l, d.orig.size ≤ 32 from fun d hd => (HVL.out.1.small d hd).1)
  go_wp2_with fail
  refine (TCheck_any Ay cy l _ _ (Nat.le_refl _) HYF.out.out (fun d hd => by have := HVM.out d hd; omega) (HOK.out.next HBk.out)).mono ?_
  rintro e w61 ⟨rfl, hbw61⟩
  clear ct0 cy0
  have HSw61 := Lib.hid (show wk.heap.size ≤ w61.heap.size from hbw61.size)
  have HBw61 := Lib.hid (HBk.out.trans (hbw61.mono HBk.out.size))
  have tw61 := Lib.hid (HTk.out.kept (grown_none hbw61) (fun e => by cases e))
  have yw61 := Lib.hid (HYk.out.kept (grown_none hbw61) (fun e => by cases e))
  have HXFw61 := Lib.hid (HXF.out.below hbw61)
  have HYFw61 := Lib.hid (HYF.out.below hbw61)
  clear hbw61
  rw [chkAll_VT HVL.out.1]
  go_wp2_with fail
  go_loopw [9] (fun i wr => ∃ k : Nat, k ≤ L.length ∧ i = .int .i64 k ∧ Hid (Below w61.heap.size w61 wr)) (fun i _ => L.length - (intOf i).toNat)
  case atStart => exact ⟨0, Nat.zero_le _, rfl, Lib.hid (Below.refl _ _)⟩
  case round =>
   obtain ⟨k, hk, rfl, HBR⟩ := hrel
   have hbr := HBR.out
   have HSwr := Lib.hid (show w61.heap.size ≤ wr.heap.size from hbr.size)
   have HBwr := Lib.hid (HBw61.out.trans (hbr.mono HBw61.out.size))
   have twr := Lib.hid (tw61.out.kept (grown_none hbr) (fun e => by cases e))
   have ywr := Lib.hid (yw61.out.kept (grown_none hbr) (fun e => by cases e))
   have HXFwr := Lib.hid (HXFw61.out.below hbr)
   have HYFwr := Lib.hid (HYFw61.out.below hbr)
   clear hbr
   have ct0 := twr.out.1 0 _ rfl
   by_cases hlt : k < L.length
   ·
    have i3 : (k : Int) < (L.length : Int) := by omega
    obtain ⟨b5, o5, rfl, -, A4, c4, hok4, -, hdin⟩ := HXFwr.out.dev hlt
    have hxk : L[k]? = some L[k] := List.getElem?_eq_getElem hlt
    obtain ⟨x, hx⟩ : ∃ x, L[k]'hlt = x := ⟨_, rfl⟩
    rw [hx] at hok4 hdin hxk
    have HXI := Lib.hid (show x.idx ∈ idxs L from mem_idxs (List.mem_of_getElem? hxk)); have HDX := Lib.hid hdin; have HOX := Lib.hid hok4.1
    clear hok4 hdin hxk hx
    have HSA := Lib.hid (HSP.out.2 rfl).2
    obtain ⟨u, hu⟩ : ∃ u, strF L x.idx = u := ⟨_, rfl⟩
    have HU := Lib.hid hu; clear hu
    obtain ⟨q, hq⟩ : ∃ q, (idxs l).contains x.idx = q := ⟨_, rfl⟩
    have HQ := Lib.hid hq; clear hq
    obtain ⟨u9, hu9⟩ : ∃ u, strF l x.idx = u := ⟨_, rfl⟩
    have HU9 := Lib.hid hu9; clear hu9
    have HEQ := Lib.hid (show q = true → u9 = u from fun h => by rw [← HU9.out, ← HU.out]; exact HSA.out _ HXI.out (List.contains_iff_mem.1 (HQ.out.trans h)))
    have HW := Lib.hid (Below.refl wr.heap.size wr)
    have HLC := Lib.hid (show (idxs L).contains x.idx = true from List.contains_iff_mem.2 HXI.out)
    go_upto_region 24 with fail
    refine wp_region_held_drew (S := fun w' => BoxL w' w2.heap.size [.slice (some ⟨b5, o5, none⟩) L.length cT] ∧ BoxL w' w5.heap.size [.slice Ay l.length cy] ∧ DIn w' b5 (o5 + k * 10) x A4 c4) (by kernel_rfl) ⟨twr.out.drew, ywr.out.drew, HDX.out.drew⟩ (fun hS0 => ?_)
    obtain ⟨wd24, hwd24⟩ : ∃ z, World.drew wr = z := ⟨_, rfl⟩
    rw [hwd24] at hS0 ⊢
    have hb_ : Below wr.heap.size wr wd24 := by rw [← hwd24]; exact below_drewN_self _ _ 1
    clear hwd24 hS0
    clear ct0
    have HSwd24 := Lib.hid (show wr.heap.size ≤ wd24.heap.size from hb_.size)
    have HBwd24 := Lib.hid (HBwr.out.trans (hb_.mono HBwr.out.size))
    have twd24 := Lib.hid (twr.out.kept (grown_none hb_) (fun e => by cases e))
    have ywd24 := Lib.hid (ywr.out.kept (grown_none hb_) (fun e => by cases e))
    have HXFwd24 := Lib.hid (HXFwr.out.below hb_)
    have HYFwd24 := Lib.hid (HYFwr.out.below hb_)
    have HDXwd24 := Lib.hid (HDX.out.below hb_)
    have HWwd24 := Lib.hid (below_next HW.out hb_)
    clear hb_
    refine wpAnyH_take (i := 0) (oi := ⟨some 90, _, _, _, _, _⟩) (v := .agg #[.slice (some ⟨b5, o5, none⟩) L.length cT]) rfl (by kernel_rfl) (by kernel_rfl) (by kernel_rfl) (fun _ _ _ h => h) (Or.inl ⟨by rfl, fun w' hS => by (have u0_ := hS.1.1 0 _ rfl; go_simp)⟩) ⟨twd24.out, ywd24.out, HDXwd24.out⟩ ?_
    try simp only [Act.put, List.setIfInBounds_toArray, List.set_cons_zero, List.set_cons_succ]
    refine wpAnyH_take (i := 1) (oi := ⟨some 91, _, _, _, _, _⟩) (v := .pointer (some ⟨w2.heap.size, 0, none⟩)) rfl (by kernel_rfl) (by kernel_rfl) (by kernel_rfl) (fun _ _ _ h => h) (Or.inl ⟨by rfl, fun w' hS => by go_simp⟩) ⟨twd24.out, ywd24.out, HDXwd24.out⟩ ?_
    try simp only [Act.put, List.setIfInBounds_toArray, List.set_cons_zero, List.set_cons_succ]
    refine wpAnyH_take (i := 2) (oi := ⟨some 92, _, _, _, _, _⟩) (v := .slice (some ⟨b5, o5, none⟩) L.length cT) rfl (by kernel_rfl) (by kernel_rfl) (by kernel_rfl) (fun _ _ _ h => h) (Or.inl ⟨by rfl, fun w' hS => by (have u0_ := hS.1.1 0 _ rfl; go_simp)⟩) ⟨twd24.out, ywd24.out, HDXwd24.out⟩ ?_
    try simp only [Act.put, List.setIfInBounds_toArray, List.set_cons_zero, List.set_cons_succ]
    refine wpAnyH_take (i := 3) (oi := ⟨some 93, _, _, _, _, _⟩) (v := .int .i64 k) rfl (by kernel_rfl) (by kernel_rfl) (by kernel_rfl) (fun _ _ _ h => h) (Or.inl ⟨by rfl, fun w' hS => by go_simp⟩) ⟨twd24.out, ywd24.out, HDXwd24.out⟩ ?_
    try simp only [Act.put, List.setIfInBounds_toArray, List.set_cons_zero, List.set_cons_succ]
    refine wpAnyH_take (i := 4) (oi := ⟨some 94, _, _, _, _, _⟩) (v := .pointer (some ⟨b5, o5 + k * 10, none⟩)) rfl (by kernel_rfl) (by kernel_rfl) (by kernel_rfl) (fun _ _ _ h => h) (Or.inl ⟨by rfl, fun w' hS => by go_simp⟩) ⟨twd24.out, ywd24.out, HDXwd24.out⟩ ?_
    try simp only [Act.put, List.setIfInBounds_toArray, List.set_cons_zero, List.set_cons_succ]
    refine wpAnyH_take (i := 5) (oi := ⟨some 95, _, _, _, _, _⟩) (v := .pointer (some ⟨b5, o5 + k * 10, none⟩)) rfl (by kernel_rfl) (by kernel_rfl) (by kernel_rfl) (fun _ _ _ h => h) (Or.inl ⟨by rfl, fun w' hS => by go_simp⟩) ⟨twd24.out, ywd24.out, HDXwd24.out⟩ ?_
    try simp only [Act.put, List.setIfInBounds_toArray, List.set_cons_zero, List.set_cons_succ]
    refine wpAnyH_take (i := 6) (oi := ⟨some 96, _, _, _, _, _⟩) (v := .int .i64 x.idx) rfl (by kernel_rfl) (by kernel_rfl) (by kernel_rfl) (fun _ _ _ h => h) (Or.inl ⟨by rfl, fun w' hS => by (have u0_ := hS.2.2.1.1; go_simp)⟩) ⟨twd24.out, ywd24.out, HDXwd24.out⟩ ?_
    try simp only [Act.put, List.setIfInBounds_toArray, List.set_cons_zero, List.set_cons_succ]
    refine wpAnyH_ready (rs := [7]) (by kernel_rfl) (by simp) ?_
    refine AllReadyH.cons (o := ⟨some 97, .call ⟨_, _, _⟩, _, _, _, _⟩) rfl (fun K hK => ?_) AllReadyH.nil
    go_simp
    go_at_call 23
    refine (Origin_any (some ⟨b5, o5, none⟩) cT L x.idx wd24 _ (Nat.le_refl _) HXFwd24.out.out HVS.out (by have := HLN.out; omega) HOX.out).mono ?_
    rintro e' q62 ⟨rfl, hb_⟩
    have HSq62 := Lib.hid (show wd24.heap.size ≤ q62.heap.size from hb_.size)
    have HBq62 := Lib.hid (HBwd24.out.trans (hb_.mono HBwd24.out.size))
    have tq62 := Lib.hid (twd24.out.kept (grown_none hb_) (fun e => by cases e))
    have yq62 := Lib.hid (ywd24.out.kept (grown_none hb_) (fun e => by cases e))
    have HXFq62 := Lib.hid (HXFwd24.out.below hb_)
    have HYFq62 := Lib.hid (HYFwd24.out.below hb_)
    have HDXq62 := Lib.hid (HDXwd24.out.below hb_)
    have HWq62 := Lib.hid (below_next HWwd24.out hb_)
    rw [HU.out, HLC.out]
    clear hb_
    refine hK.out _ _ ⟨tq62.out, yq62.out, HDXq62.out⟩ (fun _ => ?_)
    clear hK K
    try simp only [Act.put, List.setIfInBounds_toArray, List.set_cons_zero, List.set_cons_succ]
    refine wpAnyH_take (i := 8) (oi := ⟨some 89, _, _, _, _, _⟩) (v := .tuple #[.string u, .bool true]) rfl (by kernel_rfl) (by kernel_rfl) (by kernel_rfl) (fun _ _ _ h => h) (Or.inl ⟨by rfl, fun w' hS => by go_simp⟩) ⟨tq62.out, yq62.out, HDXq62.out⟩ ?_
    try simp only [Act.put, List.setIfInBounds_toArray, List.set_cons_zero, List.set_cons_succ]
    refine wpAnyH_take (i := 9) (oi := ⟨some 98, _, _, _, _, _⟩) (v := .string u) rfl (by kernel_rfl) (by kernel_rfl) (by kernel_rfl) (fun _ _ _ h => h) (Or.inl ⟨by rfl, fun w' hS => by go_simp⟩) ⟨tq62.out, yq62.out, HDXq62.out⟩ ?_
    try simp only [Act.put, List.setIfInBounds_toArray, List.set_cons_zero, List.set_cons_succ]
    refine wpAnyH_take (i := 10) (oi := ⟨some 99, _, _, _, _, _⟩) (v := .bool true) rfl (by kernel_rfl) (by kernel_rfl) (by kernel_rfl) (fun _ _ _ h => h) (Or.inl ⟨by rfl, fun w' hS => by go_simp⟩) ⟨tq62.out, yq62.out, HDXq62.out⟩ ?_
    try simp only [Act.put, List.setIfInBounds_toArray, List.set_cons_zero, List.set_cons_succ]
    refine wpAnyH_take (i := 11) (oi := ⟨some 10, _, _, _, _, _⟩) (v := .string u) rfl (by kernel_rfl) (by kernel_rfl) (by kernel_rfl) (fun _ _ _ h => h) (Or.inl ⟨by rfl, fun w' hS => by go_simp⟩) ⟨tq62.out, yq62.out, HDXq62.out⟩ ?_
    try simp only [Act.put, List.setIfInBounds_toArray, List.set_cons_zero, List.set_cons_succ]
    refine wpAnyH_take (i := 12) (oi := ⟨some 11, _, _, _, _, _⟩) (v := .bool true) rfl (by kernel_rfl) (by kernel_rfl) (by kernel_rfl) (fun _ _ _ h => h) (Or.inl ⟨by rfl, fun w' hS => by go_simp⟩) ⟨tq62.out, yq62.out, HDXq62.out⟩ ?_
    try simp only [Act.put, List.setIfInBounds_toArray, List.set_cons_zero, List.set_cons_succ]
    refine wpAnyH_done (by kernel_rfl) ?_ _
    go_upto_region 25 with fail
    refine wp_region_held_drew (S := fun w' => BoxL w' w2.heap.size [.slice (some ⟨b5, o5, none⟩) L.length cT] ∧ BoxL w' w5.heap.size [.slice Ay l.length cy] ∧ DIn w' b5 (o5 + k * 10) x A4 c4) (by kernel_rfl) ⟨tq62.out.drew, yq62.out.drew, HDXq62.out.drew⟩ (fun hS0 => ?_)
    obtain ⟨wd25, hwd25⟩ : ∃ z, World.drew q62 = z := ⟨_, rfl⟩
    rw [hwd25] at hS0 ⊢
    have hb_ : Below q62.heap.size q62 wd25 := by rw [← hwd25]; exact below_drewN_self _ _ 1
    clear hwd25 hS0
    have HSwd25 := Lib.hid (show q62.heap.size ≤ wd25.heap.size from hb_.size)
    have HBwd25 := Lib.hid (HBq62.out.trans (hb_.mono HBq62.out.size))
    have twd25 := Lib.hid (tq62.out.kept (grown_none hb_) (fun e => by cases e))
    have ywd25 := Lib.hid (yq62.out.kept (grown_none hb_) (fun e => by cases e))
    have HXFwd25 := Lib.hid (HXFq62.out.below hb_)
    have HYFwd25 := Lib.hid (HYFq62.out.below hb_)
    have HDXwd25 := Lib.hid (HDXq62.out.below hb_)
    have HWwd25 := Lib.hid (below_next HWq62.out hb_)
    clear hb_
    refine wpAnyH_take (i := 0) (oi := ⟨some 101, _, _, _, _, _⟩) (v := .agg #[.slice Ay l.length cy]) rfl (by kernel_rfl) (by kernel_rfl) (by kernel_rfl) (fun _ _ _ h => h) (Or.inl ⟨by rfl, fun w' hS => by (have u0_ := hS.2.1.1 0 _ rfl; go_simp)⟩) ⟨twd25.out, ywd25.out, HDXwd25.out⟩ ?_
    try simp only [Act.put, List.setIfInBounds_toArray, List.set_cons_zero, List.set_cons_succ]
    refine wpAnyH_take (i := 1) (oi := ⟨some 102, _, _, _, _, _⟩) (v := .pointer (some ⟨w2.heap.size, 0, none⟩)) rfl (by kernel_rfl) (by kernel_rfl) (by kernel_rfl) (fun _ _ _ h => h) (Or.inl ⟨by rfl, fun w' hS => by go_simp⟩) ⟨twd25.out, ywd25.out, HDXwd25.out⟩ ?_
    try simp only [Act.put, List.setIfInBounds_toArray, List.set_cons_zero, List.set_cons_succ]
    refine wpAnyH_take (i := 2) (oi := ⟨some 103, _, _, _, _, _⟩) (v := .slice (some ⟨b5, o5, none⟩) L.length cT) rfl (by kernel_rfl) (by kernel_rfl) (by kernel_rfl) (fun _ _ _ h => h) (Or.inl ⟨by rfl, fun w' hS => by (have u0_ := hS.1.1 0 _ rfl; go_simp)⟩) ⟨twd25.out, ywd25.out, HDXwd25.out⟩ ?_
    try simp only [Act.put, List.setIfInBounds_toArray, List.set_cons_zero, List.set_cons_succ]
    refine wpAnyH_take (i := 3) (oi := ⟨some 104, _, _, _, _, _⟩) (v := .int .i64 k) rfl (by kernel_rfl) (by kernel_rfl) (by kernel_rfl) (fun _ _ _ h => h) (Or.inl ⟨by rfl, fun w' hS => by go_simp⟩) ⟨twd25.out, ywd25.out, HDXwd25.out⟩ ?_
    try simp only [Act.put, List.setIfInBounds_toArray, List.set_cons_zero, List.set_cons_succ]
    refine wpAnyH_take (i := 4) (oi := ⟨some 105, _, _, _, _, _⟩) (v := .pointer (some ⟨b5, o5 + k * 10, none⟩)) rfl (by kernel_rfl) (by kernel_rfl) (by kernel_rfl) (fun _ _ _ h => h) (Or.inl ⟨by rfl, fun w' hS => by go_simp⟩) ⟨twd25.out, ywd25.out, HDXwd25.out⟩ ?_
    try simp only [Act.put, List.setIfInBounds_toArray, List.set_cons_zero, List.set_cons_succ]
    refine wpAnyH_take (i := 5) (oi := ⟨some 106, _, _, _, _, _⟩) (v := .pointer (some ⟨b5, o5 + k * 10, none⟩)) rfl (by kernel_rfl) (by kernel_rfl) (by kernel_rfl) (fun _ _ _ h => h) (Or.inl ⟨by rfl, fun w' hS => by go_simp⟩) ⟨twd25.out, ywd25.out, HDXwd25.out⟩ ?_
    try simp only [Act.put, List.setIfInBounds_toArray, List.set_cons_zero, List.set_cons_succ]
    refine wpAnyH_take (i := 6) (oi := ⟨some 107, _, _, _, _, _⟩) (v := .int .i64 x.idx) rfl (by kernel_rfl) (by kernel_rfl) (by kernel_rfl) (fun _ _ _ h => h) (Or.inl ⟨by rfl, fun w' hS => by (have u0_ := hS.2.2.1.1; go_simp)⟩) ⟨twd25.out, ywd25.out, HDXwd25.out⟩ ?_
    try simp only [Act.put, List.setIfInBounds_toArray, List.set_cons_zero, List.set_cons_succ]
    refine wpAnyH_ready (rs := [7]) (by kernel_rfl) (by simp) ?_
    refine AllReadyH.cons (o := ⟨some 108, .call ⟨_, _, _⟩, _, _, _, _⟩) rfl (fun K hK => ?_) AllReadyH.nil
    go_simp
    go_at_call 23
    refine (Origin_any Ay cy l x.idx wd25 _ (Nat.le_refl _) HYFwd25.out.out HVM.out (by exact HVL.out.1.size) HOX.out).mono ?_
    rintro e' q63 ⟨rfl, hb_⟩
    have HSq63 := Lib.hid (show wd25.heap.size ≤ q63.heap.size from hb_.size)
    have HBq63 := Lib.hid (HBwd25.out.trans (hb_.mono HBwd25.out.size))
    have tq63 := Lib.hid (twd25.out.kept (grown_none hb_) (fun e => by cases e))
    have yq63 := Lib.hid (ywd25.out.kept (grown_none hb_) (fun e => by cases e))
    have HXFq63 := Lib.hid (HXFwd25.out.below hb_)
    have HYFq63 := Lib.hid (HYFwd25.out.below hb_)
    have HDXq63 := Lib.hid (HDXwd25.out.below hb_)
    have HWq63 := Lib.hid (below_next HWwd25.out hb_)
    rw [HU9.out, HQ.out]
    clear hb_
    refine hK.out _ _ ⟨tq63.out, yq63.out, HDXq63.out⟩ (fun _ => ?_)
    clear hK K
    try simp only [Act.put, List.setIfInBounds_toArray, List.set_cons_zero, List.set_cons_succ]
    refine wpAnyH_take (i := 8) (oi := ⟨some 100, _, _, _, _, _⟩) (v := .tuple #[.string u9, .bool q]) rfl (by kernel_rfl) (by kernel_rfl) (by kernel_rfl) (fun _ _ _ h => h) (Or.inl ⟨by rfl, fun w' hS => by go_simp⟩) ⟨tq63.out, yq63.out, HDXq63.out⟩ ?_
    try simp only [Act.put, List.setIfInBounds_toArray, List.set_cons_zero, List.set_cons_succ]
    refine wpAnyH_take (i := 9) (oi := ⟨some 109, _, _, _, _, _⟩) (v := .string u9) rfl (by kernel_rfl) (by kernel_rfl) (by kernel_rfl) (fun _ _ _ h => h) (Or.inl ⟨by rfl, fun w' hS => by go_simp⟩) ⟨tq63.out, yq63.out, HDXq63.out⟩ ?_
    try simp only [Act.put, List.setIfInBounds_toArray, List.set_cons_zero, List.set_cons_succ]
    refine wpAnyH_take (i := 10) (oi := ⟨some 110, _, _, _, _, _⟩) (v := .bool q) rfl (by kernel_rfl) (by kernel_rfl) (by kernel_rfl) (fun _ _ _ h => h) (Or.inl ⟨by rfl, fun w' hS => by go_simp⟩) ⟨tq63.out, yq63.out, HDXq63.out⟩ ?_
    try simp only [Act.put, List.setIfInBounds_toArray, List.set_cons_zero, List.set_cons_succ]
    refine wpAnyH_take (i := 11) (oi := ⟨some 12, _, _, _, _, _⟩) (v := .string u9) rfl (by kernel_rfl) (by kernel_rfl) (by kernel_rfl) (fun _ _ _ h => h) (Or.inl ⟨by rfl, fun w' hS => by go_simp⟩) ⟨tq63.out, yq63.out, HDXq63.out⟩ ?_
    try simp only [Act.put, List.setIfInBounds_toArray, List.set_cons_zero, List.set_cons_succ]
    refine wpAnyH_take (i := 12) (oi := ⟨some 13, _, _, _, _, _⟩) (v := .bool q) rfl (by kernel_rfl) (by kernel_rfl) (by kernel_rfl) (fun _ _ _ h => h) (Or.inl ⟨by rfl, fun w' hS => by go_simp⟩) ⟨tq63.out, yq63.out, HDXq63.out⟩ ?_
    try simp only [Act.put, List.setIfInBounds_toArray, List.set_cons_zero, List.set_cons_succ]
    refine wpAnyH_done (by kernel_rfl) ?_ _
    have HBN := Lib.hid (show Below w61.heap.size w61 q63 from below_next HBR.out HWq63.out)
    cases q with
    | true =>
     obtain rfl := HEQ.out rfl
     have ee : (u9.toList == u9.toList) = true := by simp
     have ee2 : (u9.toList != u9.toList) = false := by simp
     go_wp2
     go_roundw
     case rel => exact ⟨k + 1, by omega, by go_num, HBN⟩
     case measure => simp [intOf]; omega
    | false =>
     go_wp2
     go_roundw
     case rel => exact ⟨k + 1, by omega, by go_num, HBN⟩
     case measure => simp [intOf]; omega
   ·
    have i3 : ¬ (k : Int) < (L.length : Int) := by omega
    go_wp2
    go_ret
    exact ⟨by try rfl, HBwr.out⟩
 ·
  have hz2 : (z != 0) = true := by simpa using hz
  obtain rfl : l = [] := HSP.out.1 hz
  go_wp2
  go_ret
  exact ⟨by try rfl, HBk.out⟩
end Go.Proofs.YtidhbckalcjdpaaGreatDoor
namespace Go.Proofs.YtidhbckalcjdpaaGreatDoor
open Go.RowKit Go.Cold
namespace cTreeStays
open Go.ChangeShapes Go.WideShapes Go.ChangeAt
open Go.ChangeMaps (open_string)
set_option maxRecDepth 100000
theorem reads (os : Os) {H : Type} (enc : TypeId × Value → H) : ∃ places, DataW.whole enc Tryz.prog ((World.laidAll Tryz.prog os Rows.treeStaysRow.laid).forCall (fun _ _ => 0) ⟨#[], #[.slice none 0 0], []⟩).memory Tryz.f11.params.toList Rows.treeStaysSpec.vars false (#[.slice none 0 0] : Array Value).toList 8 = some ([.nil], [], places) :=
 ⟨[], by kernel_rfl⟩
theorem lifted (os : Os) (started : os.Started) (H : Type) (enc : TypeId × Value → H) (F : Stop.Interp) :
  ReturnsInHanded {} Tryz.checked os 11 .any ((OpenSpec.ofChange Rows.treeStaysSpec).preRow enc Tryz.prog Tryz.f11 Rows.treeStaysRow.domain false Rows.treeStaysRow.laid) (((OpenSpec.ofChange Rows.treeStaysSpec).at F).post enc Tryz.prog Tryz.f11 false true false false) := by
 obtain ⟨places, hx⟩ := reads os enc
 refine law_lifted os started H enc F (by kernel_rfl) Tryz.func11 #[.slice none 0 0] (World.shaped_of_ZipB (by kernel_rfl) (by kernel_rfl)) (by kernel_rfl)
  (OpenSpec.preRow_of_cond 8 hx (by kernel_rfl) (fun k hk => by cases hk) (by kernel_rfl) (laidMet_laidAll _ (by kernel_rfl) (by kernel_rfl))) rfl rfl
  (fun ds hl => by
   rw [Tryz.params11] at hl
   match ds, hl with
   | [d0], _ => rfl) (by kernel_rfl) ?_
 intro W base args ds ps hval hA hlt hz hsh
 rw [Tryz.params11] at hA hval
 obtain ⟨v0, vs0, d0, ds0, p0, q0, hargs, rfl, rfl, h0, r0⟩ := trodAll_cons hA
 obtain ⟨rfl, rfl, rfl⟩ := trodAll_nil r0
 obtain rfl : args = #[v0] := by cases args; simp_all
 obtain ⟨A0, c0, xs0, rfl, s0⟩ := open_nums Tryz.underlying23 Tryz.underlying3 (by kernel_rfl) (hval 0 23 v0 rfl rfl) h0 (fun x hx => hlt x (List.mem_append_left _ hx))
 exact lawStays_any A0 c0 xs0 W (show Ok W from Tryz.laysM146.s1_3 W hsh) s0
theorem said : Rows.TreeStaysSaid :=
 OpenClaim.holds_of_cond 11 Tryz.f11 rfl rfl rfl rfl rfl rfl rfl ⟨rfl, rfl, rfl, rfl, rfl⟩ rfl rfl rfl rfl rfl (by kernel_rfl) Tryz.func11 (by kernel_rfl)
  (of_decide_eq_true (by kernel_rfl)) (by unfold Func.isWrapper; first | (rw [if_pos (by decide +kernel)]; kernel_rfl) | (rw [if_neg (by decide +kernel)]; exact ⟨rfl, rfl⟩))
  (fun os started H enc _ F => by rw [OpenClaim.pre_eq_preRow]; exact lifted os started H enc F)
theorem plain (f : FuncId) (fn : Func) (hf : Tryz.pinned.checked.prog.funcNamed Rows.treeStaysRow.func = some f) (hfn : Tryz.pinned.checked.prog.funcs[f]? = some fn) :
  false = Tryz.pinned.checked.prog.looks [] ∧ ∀ (j : Nat) t, fn.params[j]? = some t → Tryz.pinned.checked.prog.wantsStandIn t = false := by
 obtain rfl : f = 11 := Option.some.inj ((show Tryz.prog.funcNamed Rows.treeStaysRow.func = some 11 by kernel_rfl).symm.trans hf) |>.symm
 obtain rfl : fn = Tryz.f11 := (Option.some.inj (Tryz.func11.symm.trans hfn)).symm
 refine ⟨by kernel_rfl, fun j t ht => ?_⟩
 rw [Tryz.params11] at ht
 have hm : t ∈ [23] := by simpa using Array.mem_of_getElem? ht
 have hall : ([23].all fun u => !Tryz.prog.wantsStandIn u) = true := by kernel_rfl
 exact (show Tryz.prog.wantsStandIn t = false by simpa using List.all_eq_true.1 hall t hm)
/-- The card. -/
theorem card : Rows.TreeStaysCardSaid :=
 Claim7.holds_tied_plain_at .later [] _ _ _ _ said (fun _ h => by cases h) (by kernel_rfl) (fun _ h => by cases h) treeStays_row_tie rfl ⟨rfl, rfl⟩ (by kernel_rfl) rfl plain (by kernel_rfl)
end cTreeStays
end Go.Proofs.YtidhbckalcjdpaaGreatDoor
