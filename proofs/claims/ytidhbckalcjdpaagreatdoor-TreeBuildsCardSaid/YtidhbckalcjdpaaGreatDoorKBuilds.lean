/-
  TreeBuilds: row and card.
 Conditions: those of the given row and card (the listed variables of the library hold what the text lays), nothing else.
-/
import Derived.Test.YtidhbckalcjdpaaGreatDoorHU
import Derived.Test.YtidhbckalcjdpaaGreatDoorHT
import Derived.Test.YtidhbckalcjdpaaGreatDoorHM
import Derived.ShutString
set_option linter.unusedSimpArgs false
set_option linter.unusedVariables false
namespace Go.Cold
open Go Go.RowKit
/-- The tape's block and the box of the tree that is built. -/
def bN (b g x : Nat) : Prop := x = b ∨ x = g
def lenW : Value → Nat
 | .slice _ n _ => n
 | _ => 0
/-- Where the law's loop stands. -/
def BdSt (w : World) (gt gy : Nat) (AT : Option Addr) (cT : Nat) (L : List Dev) (xs : List Int) (p : Dev → Bool) (A5 : Option Addr) (c5 : Nat) (Ay : Option Addr) (cy k1 : Nat) (wr : World) : Prop :=
 Shut L p ∧ k1 + (L.filter (notP p)).length ≤ 2 ^ 38 ∧ Below w.heap.size w wr ∧ TapeAt wr w.heap.size w.heap.size xs k1 ∧ BoxL wr gt [.slice AT L.length cT] ∧ BoxL wr gy [.slice Ay (L.filter p).length cy] ∧
 FreeS (bN w.heap.size gy) wr AT cT L ∧ FreeS (bN w.heap.size gy) wr A5 c5 (L.filter (notP p)) ∧ FreeS (bN w.heap.size gy) wr Ay cy (L.filter p)
theorem find_in {Y : List Dev} {n : Int} (h : (Y.find? (fun d => decide (d.idx = n))).isSome = true) : n ∈ idxs Y := by
 obtain ⟨d, hd⟩ := Option.isSome_iff_exists.1 h
 obtain ⟨h1, h2⟩ := find_some (L := Y) hd
 exact h2 ▸ mem_idxs h1
end Go.Cold
namespace Go.Proofs.YtidhbckalcjdpaaGreatDoor
open Go.RowKit Go.Cold
set_option maxHeartbeats 2000000 in
set_option maxRecDepth 100000 in
theorem lawBuilds_any (A : Option Addr) (c : Nat) (xs : List Int) (w : World) (hok : Ok w) (hx : Sl w w.heap.size A c xs) : Calls Tryz.prog 5 #[.slice A xs.length c] w fun e w' => e = .returned (.bool true) ∧ Below w.heap.size w w' := by
 have HOK := Lib.hid hok; have HX := Lib.hid hx; clear hok hx
 go_enter Tryz.func5, Tryz.ntmps5
 go_upto_region 2 with fail
 have htape := tape_new HX.out
 have HNG := Lib.hid (notG_of HOK.out)
 obtain ⟨w1, hw1⟩ : ∃ z, w.alloc (.cells #[.slice A xs.length c, .int .i64 0] 27) = z := ⟨_, rfl⟩
 rw [hw1] at htape
 have hb1 : Below w.heap.size w w1 := by rw [← hw1]; exact (Below.refl _ _).alloc (Nat.le_refl _) _
 have HGw1 := Lib.hid (show w1.heap.size = w.heap.size + 1 by rw [← hw1]; simp)
 try simp only [hw1]
 have HTAPE := Lib.hid htape
 clear hw1 htape
 have HSw1 := Lib.hid (show w.heap.size ≤ w1.heap.size from hb1.size)
 have HBw1 := Lib.hid hb1
 clear hb1
 go_wp2_with fail
 refine (Tree_any xs 0 w.heap.size w.heap.size 9 w1 (by decide) HTAPE.out ⟨by decide, by decide⟩ (HOK.out.next HBw1.out) HNG.out).mono ?_
 rintro e w2 ⟨AT, cT, L, k1, rfl, hvt, hln, hsl, hk1, htp, hg2⟩
 have hb2 : Below w.heap.size w w2 := below_of_grown HBw1.out hg2 HBw1.out.size (Nat.le_refl _)
 have HSB2 := Lib.hid (show w1.heap.size ≤ w2.heap.size from hg2.size)
 have hx1 := hsl.1; have hx2 := hsl.2.1
 unfold maxLen at hx2
 have hin : TreeIn w2 w.heap.size (fun x => w1.heap.size ≤ x ∧ x < w2.heap.size) AT cT L := ⟨hsl, fun x hx => by have := HGw1.out; omega, fun x hx => hx.2⟩
 have HVT := Lib.hid hvt; have HLN := Lib.hid (show L.length ≤ 9 by omega); have HIN := Lib.hid hin; have HK1 := Lib.hid hk1; have HTP := Lib.hid htp
 clear HTAPE hvt hln hsl hk1 htp hg2 hin
 have HBw2 := Lib.hid hb2
 clear hb2
 go_upto_region 3 with fail
 obtain ⟨w3, hw3⟩ : ∃ w3, w2.alloc (.cells #[.slice AT L.length cT] 29) = w3 := ⟨_, rfl⟩
 have hbw3 : Below w2.heap.size w2 w3 := by rw [← hw3]; exact (Below.refl _ _).alloc (Nat.le_refl _) _
 have HGw3 := Lib.hid (show w3.heap.size = w2.heap.size + 1 by rw [← hw3]; simp)
 have HXtw3 := Lib.hid (show BoxL w3 w2.heap.size [.slice AT L.length cT] from box_mk hw3)
 try simp only [hw3]
 have HSTEPw3 := Lib.hid hbw3
 have HSw3 := Lib.hid (show w2.heap.size ≤ w3.heap.size from hbw3.size)
 have HBw3 := Lib.hid (HBw2.out.trans (hbw3.mono HBw2.out.size))
 clear hw3 hbw3
 try rw [show w2.heap.size + 1 = w3.heap.size from HGw3.out.symm]
 have HIN3 := Lib.hid (show TreeIn w3 w.heap.size (fun x => w1.heap.size ≤ x ∧ x < w2.heap.size) AT cT L from ⟨HIN.out.sl.below (HSTEPw3.out) (fun x hx => hx.2), HIN.out.ne, fun x hx => by have := HGw3.out; have := hx.2; omega⟩)
 have HTP3 := Lib.hid (HTP.out.kept (grown_none HSTEPw3.out) (fun e => by cases e) (fun g e => by cases e))
 clear HIN HTP
 have ct0 := HXtw3.out.1 0 _ rfl
 have hzt := (zero_of_info (P := Tryz.prog) (t := 29) info_tree2).1
 have hzv := (zero_of_info (P := Tryz.prog) (t := 34) info_dev2).1
 have HZT := Lib.hid hzt; have HZV := Lib.hid hzv; clear hzt hzv
 have HSL3 := Lib.hid (show SlS w3 (fun b => (fun x => w1.heap.size ≤ x ∧ x < w2.heap.size) b ∧ b < w3.heap.size ∧ (.slice none 0 0 : Value).ownBlock ≠ some b) AT cT L from HIN3.out.sl.mono (fun x hx => ⟨hx, by have := HGw3.out; have := hx.2; omega, fun h => by cases h⟩) (fun _ _ _ _ hu => hu))
 go_upto_region 4 with (at_builtin; go_must (refine wpList_app rfl _ _ rfl (.slice none 0 0) (.slice AT L.length cT) rfl rfl (run_appL E_dev _ (.slice none 0 0) ([] : List Dev) (OwnsS.nil_ (fun x => w1.heap.size ≤ x ∧ x < w2.heap.size) w3 w3.heap.size _) AT cT L (.inl HSL3.out) (by have := HLN.out; simp only [List.length_nil]; unfold maxLen; omega) (by have := HLN.out; simp only [List.length_nil]; omega) (Nat.le_refl _)) ?_); intro v1 w9 h_; obtain ⟨hown_, hg_, hnew_⟩ := h_; rw [List.nil_append] at hown_; have HG9 := Lib.hid (below_own (Below.refl w3.heap.size w3) hg_ (Nat.le_refl _) (fun k hk => by cases hk)); obtain ⟨A9, c9, hv_, hfr_⟩ := hown_.free (N := fun x => x = w.heap.size) (fun x (hx : x = w.heap.size) => ⟨by have := HGw1.out; have := HSB2.out; have := HGw3.out; omega, fun h => by have := h.1; have := HGw1.out; omega⟩); subst hv_; have HLF9 := Lib.hid hfr_; have HN9 := Lib.hid (show okI 0 from ⟨by decide, by decide⟩); clear hown_ hg_ hnew_ hfr_)
 clear ct0
 have hb9 := HG9.out
 have HSw9 := Lib.hid (show w3.heap.size ≤ w9.heap.size from hb9.size)
 have HBw9 := Lib.hid (HBw3.out.trans (hb9.mono HBw3.out.size))
 have tw9 := Lib.hid (HXtw3.out.kept (grown_none hb9) (fun e => by cases e))
 have HTPw9 := Lib.hid (HTP3.out.kept (grown_none hb9) (fun e => by cases e) (fun g e => by cases e))
 clear hb9
 have hzt := HZT.out
 go_upto_region 5 with fail
 clear hzt
 obtain ⟨w10, hw10⟩ : ∃ w10, w9.alloc (.cells #[.slice none 0 0] 29) = w10 := ⟨_, rfl⟩
 have hbw10 : Below w9.heap.size w9 w10 := by rw [← hw10]; exact (Below.refl _ _).alloc (Nat.le_refl _) _
 have HGw10 := Lib.hid (show w10.heap.size = w9.heap.size + 1 by rw [← hw10]; simp)
 have HXyw10 := Lib.hid (show BoxL w10 w9.heap.size [.slice none 0 0] from box_mk hw10)
 try simp only [hw10]
 have HSTEPw10 := Lib.hid hbw10
 have HSw10 := Lib.hid (show w9.heap.size ≤ w10.heap.size from hbw10.size)
 have HBw10 := Lib.hid (HBw9.out.trans (hbw10.mono HBw9.out.size))
 have tw10 := Lib.hid (tw9.out.kept (grown_none hbw10) (fun e => by cases e))
 have HTPw10 := Lib.hid (HTPw9.out.kept (grown_none hbw10) (fun e => by cases e) (fun g e => by cases e))
 have HSTEPY := Lib.hid hbw10
 clear hw10 hbw10
 try rw [show w9.heap.size + 1 = w10.heap.size from HGw10.out.symm]
 have HX0 := Lib.hid (show FreeS (bN w.heap.size w9.heap.size) w10 AT cT L from ((HIN3.out.sl.free (N := (bN w.heap.size w9.heap.size)) (fun x hx => ⟨by have := hx.2; have := HGw3.out; omega, fun h => by rcases h with h | h; have := hx.1; have := HGw1.out; omega; have := hx.2; have := HG9.out.size; have := HGw3.out; omega⟩)).below HG9.out).below HSTEPY.out)
 have HLF0 := Lib.hid (show FreeS (bN w.heap.size w9.heap.size) w10 A9 c9 L from (HLF9.out.more (N' := (bN w.heap.size w9.heap.size)) (fun x hx h => by rcases h with h | h; exact h; omega)).below HSTEPY.out)
 obtain ⟨hb0, hb1, hb2⟩ := build_none L
 have HST := Lib.hid (show BdSt w w2.heap.size w9.heap.size AT cT L xs noneD A9 c9 none 0 k1 w10 from ⟨hb0, by rw [hb2]; have := HK1.out; have := HLN.out; omega, HBw10.out, HTPw10.out, tw10.out, by rw [hb1]; exact HXyw10.out, HX0.out, by rw [hb2]; exact HLF0.out, by rw [hb1]; exact FreeS.nil_⟩)
 have HB2 := Lib.hid hb2; clear hb0 hb1 hb2
 have HGY := Lib.hid (show w.heap.size < w2.heap.size ∧ w2.heap.size < w9.heap.size ∧ w.heap.size < w9.heap.size from ⟨by have := HGw1.out; have := HSB2.out; omega, by have := HGw3.out; have := HG9.out.size; omega, by have := HGw1.out; have := HSB2.out; have := HGw3.out; have := HG9.out.size; omega⟩)
 go_wp2_with fail
 go_loopw [5] (fun v5 wr => ∃ (p : Dev → Bool) (A5 : Option Addr) (c5 : Nat) (Ay : Option Addr) (cy k1 : Nat), v5 = .slice A5 (L.filter (notP p)).length c5 ∧ Hid (BdSt w w2.heap.size w9.heap.size AT cT L xs p A5 c5 Ay cy k1 wr)) (fun v5 _ => lenW v5)
 case atStart => exact ⟨noneD, A9, c9, none, 0, k1, by rw [HB2.out], HST⟩
 case round =>
  clear HST HX0 HLF0 HLF9 HB2 HSTEPY HG9 HSL3
  obtain ⟨p, A5, c5, Ay, cy, k1, rfl, HST⟩ := hrel
  obtain ⟨hsh, hkb, hbr, htp, hxt, hxy, hfx, hfl, hfy⟩ := HST.out
  have HSH := Lib.hid hsh; have HKB := Lib.hid hkb; have HBR := Lib.hid hbr; have HTP := Lib.hid htp; have HTR := Lib.hid hxt
  obtain ⟨Y, hY⟩ : ∃ z, L.filter p = z := ⟨_, rfl⟩
  obtain ⟨lf, hlf⟩ : ∃ z, L.filter (notP p) = z := ⟨_, rfl⟩
  rw [hY] at hxy hfy
  rw [hlf] at hfl hkb ⊢
  have HYE := Lib.hid hY; have HLE := Lib.hid hlf; have HYR := Lib.hid hxy; have HXF := Lib.hid hfx; have HLF := Lib.hid hfl; have HYF := Lib.hid hfy; have HKC := Lib.hid hkb
  have hc5 := hfl.1; have hc6 := hfl.2.1; have hcy := hfy.1; have hcy2 := hfy.2.1
  unfold maxLen at hc6 hcy2
  have hlfn : lf.length ≤ 9 := by rw [← hlf]; exact Nat.le_trans (List.length_filter_le _ _) (by have := HLN.out; omega)
  have hyn : Y.length ≤ 9 := by rw [← hY]; exact Nat.le_trans (List.length_filter_le _ _) (by have := HLN.out; omega)
  clear hY hlf hsh hkb hbr htp hxt hxy hfx hfl hfy HST
  by_cases hlt : 0 < lf.length
  ·
   have i1 : (0 : Int) < (lf.length : Int) := by omega
   go_wp2_with fail
   refine (Next_lit (lf.length : Int) xs k1 w.heap.size w.heap.size wr (by have := HKC.out; omega) HTP.out (by omega) (by omega)).mono ?_
   rintro e w6 ⟨m, h0, h2, rfl, ht, hg⟩
   obtain ⟨k, rfl⟩ : ∃ k : Nat, m = k := ⟨m.toNat, by omega⟩
   have hk : k < lf.length := by omega
   clear h0 h2
   have HB6 := Lib.hid (HBR.out.grown hg HBR.out.size (fun q hq => by have := Option.some.inj hq; omega))
   have HT6 := Lib.hid (HTR.out.kept hg (fun e => by have := Option.some.inj e; have := HGY.out; omega)); have HY6 := Lib.hid (HYR.out.kept hg (fun e => by have := Option.some.inj e; have := HGY.out; omega))
   have HXF6 := Lib.hid (HXF.out.grown hg (.inl (.inl rfl))); have HLF6 := Lib.hid (HLF.out.grown hg (.inl (.inl rfl))); have HYF6 := Lib.hid (HYF.out.grown hg (.inl (.inl rfl)))
   have HTP6 := Lib.hid ht
   clear hg ht HBR HTR HYR HXF HLF HYF HTP
   obtain ⟨b5, o5, rfl, hn5, A4, c4, hok4, hat4, hdin⟩ := HLF6.out.dev hk
   have hxk : lf[k]? = some lf[k] := List.getElem?_eq_getElem hk
   obtain ⟨x, hx⟩ : ∃ x, lf[k]'hk = x := ⟨_, rfl⟩
   rw [hx] at hok4 hdin hxk
   have HXK := Lib.hid hxk; have HDX := Lib.hid hdin
   clear hat4 hok4 hdin hxk hx hn5
   have HW := Lib.hid (Below.refl w6.heap.size w6)
   have HLT := Lib.hid (show w9.heap.size < w6.heap.size ∧ b5 < w6.heap.size from ⟨HY6.out.2.2, HDX.out.2⟩)
   obtain ⟨q, hq⟩ : ∃ q, (Y.find? (byIdx x.par)).isSome = q := ⟨_, rfl⟩
   have HQ := Lib.hid hq; clear hq
   have HYA := Lib.hid (show ∀ d ∈ Y, d.attrs.length ≤ 1000000 from fun d hd => attrs_le (HVT.out.chk d (by rw [← HYE.out] at hd; exact (List.mem_filter.1 hd).1)))
   go_upto_region 7 with fail
   go_cut [9] (fun s9 wx => s9 = .bool q ∧ Hid (Below w6.heap.size w6 wx))
   case first =>
    have hzv := HZV.out
    have ik : (k : Int) < (lf.length : Int) := by omega
    have ik2 : k < lf.length := hk
    refine wp_region_held_drew (S := fun w' => BoxL w' w9.heap.size [.slice Ay Y.length cy] ∧ DIn w' b5 (o5 + k * 10) x A4 c4) (by kernel_rfl) ⟨HY6.out.drew, HDX.out.drew⟩ (fun hS0 => ?_)
    obtain ⟨wd, hwd⟩ : ∃ z, World.drew w6 = z := ⟨_, rfl⟩
    rw [hwd] at hS0 ⊢
    have hb_ : Below w6.heap.size w6 wd := by rw [← hwd]; exact below_drewN_self _ _ 1
    clear hwd hS0
    have HSwd := Lib.hid (show w6.heap.size ≤ wd.heap.size from hb_.size)
    have HBwd := Lib.hid (HB6.out.trans (hb_.mono HB6.out.size))
    have twd := Lib.hid (HT6.out.kept (grown_none hb_) (fun e => by cases e))
    have ywd := Lib.hid (HY6.out.kept (grown_none hb_) (fun e => by cases e))
    have HXFwd := Lib.hid (HXF6.out.below hb_)
    have HLFwd := Lib.hid (HLF6.out.below hb_)
    have HYFwd := Lib.hid (HYF6.out.below hb_)
    have HTPwd := Lib.hid (HTP6.out.kept (grown_none hb_) (fun e => by cases e) (fun g e => by cases e))
    have HDXwd := Lib.hid (HDX.out.below hb_)
    have HWwd := Lib.hid (below_next HW.out hb_)
    clear hb_
    refine wpAnyH_take (i := 0) (oi := ⟨some 28, _, _, _, _, _⟩) (v := .agg #[.slice Ay Y.length cy]) rfl (by kernel_rfl) (by kernel_rfl) (by kernel_rfl) (fun _ _ _ h => h) (Or.inl ⟨by rfl, fun w' hS => by (have u0_ := hS.1.1 0 _ rfl; go_simp)⟩) ⟨ywd.out, HDXwd.out⟩ ?_
    try simp only [Act.put, List.setIfInBounds_toArray, List.set_cons_zero, List.set_cons_succ]
    refine wpAnyH_take (i := 1) (oi := ⟨some 29, _, _, _, _, _⟩) (v := .slice (some ⟨b5, o5, none⟩) lf.length c5) rfl (by kernel_rfl) (by kernel_rfl) (by kernel_rfl) (fun _ _ _ h => h) (Or.inl ⟨by rfl, fun w' hS => by go_simp⟩) ⟨ywd.out, HDXwd.out⟩ ?_
    try simp only [Act.put, List.setIfInBounds_toArray, List.set_cons_zero, List.set_cons_succ]
    refine wpAnyH_take (i := 2) (oi := ⟨some 30, _, _, _, _, _⟩) (v := .int .i64 k) rfl (by kernel_rfl) (by kernel_rfl) (by kernel_rfl) (fun _ _ _ h => h) (Or.inl ⟨by rfl, fun w' hS => by go_simp⟩) ⟨ywd.out, HDXwd.out⟩ ?_
    try simp only [Act.put, List.setIfInBounds_toArray, List.set_cons_zero, List.set_cons_succ]
    refine wpAnyH_take (i := 3) (oi := ⟨some 31, _, _, _, _, _⟩) (v := .pointer (some ⟨b5, o5 + k * 10, none⟩)) rfl (by kernel_rfl) (by kernel_rfl) (by kernel_rfl) (fun _ _ _ h => h) (Or.inl ⟨by rfl, fun w' hS => by go_simp⟩) ⟨ywd.out, HDXwd.out⟩ ?_
    try simp only [Act.put, List.setIfInBounds_toArray, List.set_cons_zero, List.set_cons_succ]
    refine wpAnyH_take (i := 4) (oi := ⟨some 32, _, _, _, _, _⟩) (v := .pointer (some ⟨b5, o5 + k * 10 + 1, none⟩)) rfl (by kernel_rfl) (by kernel_rfl) (by kernel_rfl) (fun _ _ _ h => h) (Or.inl ⟨by rfl, fun w' hS => by go_simp⟩) ⟨ywd.out, HDXwd.out⟩ ?_
    try simp only [Act.put, List.setIfInBounds_toArray, List.set_cons_zero, List.set_cons_succ]
    refine wpAnyH_take (i := 5) (oi := ⟨some 33, _, _, _, _, _⟩) (v := .int .i64 x.par) rfl (by kernel_rfl) (by kernel_rfl) (by kernel_rfl) (fun _ _ _ h => h) (Or.inl ⟨by rfl, fun w' hS => by (obtain ⟨u0, u1, u2, u3, u4, u5, u6, u7, u8, u9⟩ := hS.2.1; go_simp)⟩) ⟨ywd.out, HDXwd.out⟩ ?_
    try simp only [Act.put, List.setIfInBounds_toArray, List.set_cons_zero, List.set_cons_succ]
    refine wpAnyH_ready (rs := [6, 10]) (by kernel_rfl) (by simp) ?_
    refine AllReadyH.cons (o := ⟨some 34, .call ⟨_, _, _⟩, _, _, _, _⟩) rfl (fun K hK => ?_) (AllReadyH.cons (o := ⟨some 8, .alloc _, _, _, _, _⟩) rfl (fun K hK => ?_) (AllReadyH.nil))
    ·
     go_simp
     go_at_call 21
     refine (TFind_any Ay cy Y x.par wd _ (Nat.le_refl _) HYFwd.out.out HYA.out).mono ?_
     rintro e' q21 ⟨hb_, d1, A1, c1, -, rfl, -, -⟩
     have HSq21 := Lib.hid (show wd.heap.size ≤ q21.heap.size from hb_.size)
     have HBq21 := Lib.hid (HBwd.out.trans (hb_.mono HBwd.out.size))
     have tq21 := Lib.hid (twd.out.kept (grown_none hb_) (fun e => by cases e))
     have yq21 := Lib.hid (ywd.out.kept (grown_none hb_) (fun e => by cases e))
     have HXFq21 := Lib.hid (HXFwd.out.below hb_)
     have HLFq21 := Lib.hid (HLFwd.out.below hb_)
     have HYFq21 := Lib.hid (HYFwd.out.below hb_)
     have HTPq21 := Lib.hid (HTPwd.out.kept (grown_none hb_) (fun e => by cases e) (fun g e => by cases e))
     have HDXq21 := Lib.hid (HDXwd.out.below hb_)
     have HWq21 := Lib.hid (below_next HWwd.out hb_)
     rw [HQ.out]
     clear hb_
     refine hK.out _ _ ⟨yq21.out, HDXq21.out⟩ (fun _ => ?_)
     clear hK K
     try simp only [Act.put, List.setIfInBounds_toArray, List.set_cons_zero, List.set_cons_succ]
     refine wpAnyH_take (i := 7) (oi := ⟨some 27, _, _, _, _, _⟩) (v := .tuple #[.agg #[.int .i64 d1.idx, .int .i64 d1.par, .string d1.nm, .string d1.orig, .string d1.sub, .string d1.drv, .string d1.ali, .int .i64 d1.kind, .int .i64 d1.num, .slice A1 d1.attrs.length c1], .bool q]) rfl (by kernel_rfl) (by kernel_rfl) (by kernel_rfl) (fun _ _ _ h => h) (Or.inl ⟨by rfl, fun w' hS => by go_simp⟩) ⟨yq21.out, HDXq21.out⟩ ?_
     try simp only [Act.put, List.setIfInBounds_toArray, List.set_cons_zero, List.set_cons_succ]
     refine wpAnyH_take (i := 8) (oi := ⟨some 35, _, _, _, _, _⟩) (v := .agg #[.int .i64 d1.idx, .int .i64 d1.par, .string d1.nm, .string d1.orig, .string d1.sub, .string d1.drv, .string d1.ali, .int .i64 d1.kind, .int .i64 d1.num, .slice A1 d1.attrs.length c1]) rfl (by kernel_rfl) (by kernel_rfl) (by kernel_rfl) (fun _ _ _ h => h) (Or.inl ⟨by rfl, fun w' hS => by go_simp⟩) ⟨yq21.out, HDXq21.out⟩ ?_
     try simp only [Act.put, List.setIfInBounds_toArray, List.set_cons_zero, List.set_cons_succ]
     refine wpAnyH_take (i := 9) (oi := ⟨some 36, _, _, _, _, _⟩) (v := .bool q) rfl (by kernel_rfl) (by kernel_rfl) (by kernel_rfl) (fun _ _ _ h => h) (Or.inl ⟨by rfl, fun w' hS => by go_simp⟩) ⟨yq21.out, HDXq21.out⟩ ?_
     try simp only [Act.put, List.setIfInBounds_toArray, List.set_cons_zero, List.set_cons_succ]
     refine wpAnyH_ready (rs := [10]) (by kernel_rfl) (by simp) ?_
     refine AllReadyH.cons (o := ⟨some 8, .alloc _, _, _, _, _⟩) rfl (fun K hK => ?_) (AllReadyH.nil)
     go_simp
     obtain ⟨q22, hq22⟩ : ∃ z, q21.alloc (.cells #[.int .i64 0, .int .i64 0, .string ByteArray.empty, .string ByteArray.empty, .string ByteArray.empty, .string ByteArray.empty, .string ByteArray.empty, .int .i64 0, .int .i64 0, .slice none 0 0] 34) = z := ⟨_, rfl⟩
     have hb_ : Below q21.heap.size q21 q22 := by rw [← hq22]; exact (Below.refl _ _).alloc (Nat.le_refl _) _
     have HXnq22 := Lib.hid (show BoxL q22 q21.heap.size [.int .i64 0, .int .i64 0, .string ByteArray.empty, .string ByteArray.empty, .string ByteArray.empty, .string ByteArray.empty, .string ByteArray.empty, .int .i64 0, .int .i64 0, .slice none 0 0] from box_mk hq22)
     try rw [hq22]
     clear hq22
     have HSq22 := Lib.hid (show q21.heap.size ≤ q22.heap.size from hb_.size)
     have HBq22 := Lib.hid (HBq21.out.trans (hb_.mono HBq21.out.size))
     have tq22 := Lib.hid (tq21.out.kept (grown_none hb_) (fun e => by cases e))
     have yq22 := Lib.hid (yq21.out.kept (grown_none hb_) (fun e => by cases e))
     have HXFq22 := Lib.hid (HXFq21.out.below hb_)
     have HLFq22 := Lib.hid (HLFq21.out.below hb_)
     have HYFq22 := Lib.hid (HYFq21.out.below hb_)
     have HTPq22 := Lib.hid (HTPq21.out.kept (grown_none hb_) (fun e => by cases e) (fun g e => by cases e))
     have HDXq22 := Lib.hid (HDXq21.out.below hb_)
     have HWq22 := Lib.hid (below_next HWq21.out hb_)
     clear hb_
     refine hK.out _ _ ⟨yq22.out, HDXq22.out⟩ (fun _ => ?_)
     clear hK K
     try simp only [Act.put, List.setIfInBounds_toArray, List.set_cons_zero, List.set_cons_succ]
     have HNB := Lib.hid (show w6.heap.size ≤ q21.heap.size from HWq21.out.size)
     refine wpAnyH_ready (rs := [11]) (by kernel_rfl) (by simp) ?_
     refine AllReadyH.cons (o := ⟨none, .store _ _ _, _, _, _, _⟩) rfl (fun K hK => ?_) AllReadyH.nil
     have cn0 := HXnq22.out.1 0 _ rfl
     have cn1 := HXnq22.out.1 1 _ rfl
     have cn2 := HXnq22.out.1 2 _ rfl
     have cn3 := HXnq22.out.1 3 _ rfl
     have cn4 := HXnq22.out.1 4 _ rfl
     have cn5 := HXnq22.out.1 5 _ rfl
     have cn6 := HXnq22.out.1 6 _ rfl
     have cn7 := HXnq22.out.1 7 _ rfl
     have cn8 := HXnq22.out.1 8 _ rfl
     have cn9 := HXnq22.out.1 9 _ rfl
     have cfn := HXnq22.out.2.1
     go_simp
     refine hK.out _ _ (set10_ind (fun w' => BoxL w' w9.heap.size [.slice Ay Y.length cy] ∧ DIn w' b5 (o5 + k * 10) x A4 c4) (fun w' j v h => ⟨h.1.far (fun e => by have := HLT.out; have := HNB.out; omega) v, h.2.grown (grown_one w' q21.heap.size j v) (by have := HLT.out; have := HNB.out; omega)⟩) ⟨yq22.out, HDXq22.out⟩ _ _ _ _ _ _ _ _ _ _) (fun _ => ?_)
     clear hK K cn0 cn1 cn2 cn3 cn4 cn5 cn6 cn7 cn8 cn9 cfn
     try simp only [Act.put, List.setIfInBounds_toArray, List.set_cons_zero, List.set_cons_succ]
     have HSF := Lib.hid (show ∀ v0 v1 v2 v3 v4 v5 v6 v7 v8 v9, (fun w' => BoxL w' w9.heap.size [.slice Ay Y.length cy] ∧ DIn w' b5 (o5 + k * 10) x A4 c4) _ from fun v0 v1 v2 v3 v4 v5 v6 v7 v8 v9 => set10_ind (g := q21.heap.size) (fun w' => BoxL w' w9.heap.size [.slice Ay Y.length cy] ∧ DIn w' b5 (o5 + k * 10) x A4 c4) (fun w' j v h => ⟨h.1.far (fun e => by have := HLT.out; have := HNB.out; omega) v, h.2.grown (grown_one w' q21.heap.size j v) (by have := HLT.out; have := HNB.out; omega)⟩) ⟨yq22.out, HDXq22.out⟩ v0 v1 v2 v3 v4 v5 v6 v7 v8 v9)
     refine wpAnyH_take (i := 12) (oi := ⟨some 9, _, _, _, _, _⟩) (v := .bool q) rfl (by kernel_rfl) (by kernel_rfl) (by kernel_rfl) (fun _ _ _ h => h) (Or.inl ⟨by rfl, fun w' hS => by go_simp⟩) (HSF.out _ _ _ _ _ _ _ _ _ _) ?_
     try simp only [Act.put, List.setIfInBounds_toArray, List.set_cons_zero, List.set_cons_succ]
     refine wpAnyH_done (by kernel_rfl) ?_ _
     go_wp2_with fail
     go_meet
     exact ⟨rfl, Lib.hid (below10 HWq22.out HNB.out _ _ _ _ _ _ _ _ _ _)⟩
    ·
     go_simp
     obtain ⟨q23, hq23⟩ : ∃ z, wd.alloc (.cells #[.int .i64 0, .int .i64 0, .string ByteArray.empty, .string ByteArray.empty, .string ByteArray.empty, .string ByteArray.empty, .string ByteArray.empty, .int .i64 0, .int .i64 0, .slice none 0 0] 34) = z := ⟨_, rfl⟩
     have hb_ : Below wd.heap.size wd q23 := by rw [← hq23]; exact (Below.refl _ _).alloc (Nat.le_refl _) _
     have HXnq23 := Lib.hid (show BoxL q23 wd.heap.size [.int .i64 0, .int .i64 0, .string ByteArray.empty, .string ByteArray.empty, .string ByteArray.empty, .string ByteArray.empty, .string ByteArray.empty, .int .i64 0, .int .i64 0, .slice none 0 0] from box_mk hq23)
     try rw [hq23]
     clear hq23
     have HSq23 := Lib.hid (show wd.heap.size ≤ q23.heap.size from hb_.size)
     have HBq23 := Lib.hid (HBwd.out.trans (hb_.mono HBwd.out.size))
     have tq23 := Lib.hid (twd.out.kept (grown_none hb_) (fun e => by cases e))
     have yq23 := Lib.hid (ywd.out.kept (grown_none hb_) (fun e => by cases e))
     have HXFq23 := Lib.hid (HXFwd.out.below hb_)
     have HLFq23 := Lib.hid (HLFwd.out.below hb_)
     have HYFq23 := Lib.hid (HYFwd.out.below hb_)
     have HTPq23 := Lib.hid (HTPwd.out.kept (grown_none hb_) (fun e => by cases e) (fun g e => by cases e))
     have HDXq23 := Lib.hid (HDXwd.out.below hb_)
     have HWq23 := Lib.hid (below_next HWwd.out hb_)
     clear hb_
     refine hK.out _ _ ⟨yq23.out, HDXq23.out⟩ (fun _ => ?_)
     clear hK K
     try simp only [Act.put, List.setIfInBounds_toArray, List.set_cons_zero, List.set_cons_succ]
     refine wpAnyH_ready (rs := [6]) (by kernel_rfl) (by simp) ?_
     refine AllReadyH.cons (o := ⟨some 34, .call ⟨_, _, _⟩, _, _, _, _⟩) rfl (fun K hK => ?_) (AllReadyH.nil)
     go_simp
     go_at_call 21
     refine (TFind_any Ay cy Y x.par q23 _ (Nat.le_refl _) HYFq23.out.out HYA.out).mono ?_
     rintro e' q24 ⟨hb_, d1, A1, c1, -, rfl, -, -⟩
     have HSq24 := Lib.hid (show q23.heap.size ≤ q24.heap.size from hb_.size)
     have HBq24 := Lib.hid (HBq23.out.trans (hb_.mono HBq23.out.size))
     have tq24 := Lib.hid (tq23.out.kept (grown_none hb_) (fun e => by cases e))
     have yq24 := Lib.hid (yq23.out.kept (grown_none hb_) (fun e => by cases e))
     have nq24 := Lib.hid (HXnq23.out.kept (grown_none hb_) (fun e => by cases e))
     have HXFq24 := Lib.hid (HXFq23.out.below hb_)
     have HLFq24 := Lib.hid (HLFq23.out.below hb_)
     have HYFq24 := Lib.hid (HYFq23.out.below hb_)
     have HTPq24 := Lib.hid (HTPq23.out.kept (grown_none hb_) (fun e => by cases e) (fun g e => by cases e))
     have HDXq24 := Lib.hid (HDXq23.out.below hb_)
     have HWq24 := Lib.hid (below_next HWq23.out hb_)
     rw [HQ.out]
     clear hb_
     refine hK.out _ _ ⟨yq24.out, HDXq24.out⟩ (fun _ => ?_)
     clear hK K
     try simp only [Act.put, List.setIfInBounds_toArray, List.set_cons_zero, List.set_cons_succ]
     refine wpAnyH_take (i := 7) (oi := ⟨some 27, _, _, _, _, _⟩) (v := .tuple #[.agg #[.int .i64 d1.idx, .int .i64 d1.par, .string d1.nm, .string d1.orig, .string d1.sub, .string d1.drv, .string d1.ali, .int .i64 d1.kind, .int .i64 d1.num, .slice A1 d1.attrs.length c1], .bool q]) rfl (by kernel_rfl) (by kernel_rfl) (by kernel_rfl) (fun _ _ _ h => h) (Or.inl ⟨by rfl, fun w' hS => by go_simp⟩) ⟨yq24.out, HDXq24.out⟩ ?_
     try simp only [Act.put, List.setIfInBounds_toArray, List.set_cons_zero, List.set_cons_succ]
     refine wpAnyH_take (i := 8) (oi := ⟨some 35, _, _, _, _, _⟩) (v := .agg #[.int .i64 d1.idx, .int .i64 d1.par, .string d1.nm, .string d1.orig, .string d1.sub, .string d1.drv, .string d1.ali, .int .i64 d1.kind, .int .i64 d1.num, .slice A1 d1.attrs.length c1]) rfl (by kernel_rfl) (by kernel_rfl) (by kernel_rfl) (fun _ _ _ h => h) (Or.inl ⟨by rfl, fun w' hS => by go_simp⟩) ⟨yq24.out, HDXq24.out⟩ ?_
     try simp only [Act.put, List.setIfInBounds_toArray, List.set_cons_zero, List.set_cons_succ]
     refine wpAnyH_take (i := 9) (oi := ⟨some 36, _, _, _, _, _⟩) (v := .bool q) rfl (by kernel_rfl) (by kernel_rfl) (by kernel_rfl) (fun _ _ _ h => h) (Or.inl ⟨by rfl, fun w' hS => by go_simp⟩) ⟨yq24.out, HDXq24.out⟩ ?_
     try simp only [Act.put, List.setIfInBounds_toArray, List.set_cons_zero, List.set_cons_succ]
     have HNB := Lib.hid (show w6.heap.size ≤ wd.heap.size from HWwd.out.size)
     refine wpAnyH_ready (rs := [11]) (by kernel_rfl) (by simp) ?_
     refine AllReadyH.cons (o := ⟨none, .store _ _ _, _, _, _, _⟩) rfl (fun K hK => ?_) AllReadyH.nil
     have cn0 := nq24.out.1 0 _ rfl
     have cn1 := nq24.out.1 1 _ rfl
     have cn2 := nq24.out.1 2 _ rfl
     have cn3 := nq24.out.1 3 _ rfl
     have cn4 := nq24.out.1 4 _ rfl
     have cn5 := nq24.out.1 5 _ rfl
     have cn6 := nq24.out.1 6 _ rfl
     have cn7 := nq24.out.1 7 _ rfl
     have cn8 := nq24.out.1 8 _ rfl
     have cn9 := nq24.out.1 9 _ rfl
     have cfn := nq24.out.2.1
     go_simp
     refine hK.out _ _ (set10_ind (fun w' => BoxL w' w9.heap.size [.slice Ay Y.length cy] ∧ DIn w' b5 (o5 + k * 10) x A4 c4) (fun w' j v h => ⟨h.1.far (fun e => by have := HLT.out; have := HNB.out; omega) v, h.2.grown (grown_one w' wd.heap.size j v) (by have := HLT.out; have := HNB.out; omega)⟩) ⟨yq24.out, HDXq24.out⟩ _ _ _ _ _ _ _ _ _ _) (fun _ => ?_)
     clear hK K cn0 cn1 cn2 cn3 cn4 cn5 cn6 cn7 cn8 cn9 cfn
     try simp only [Act.put, List.setIfInBounds_toArray, List.set_cons_zero, List.set_cons_succ]
     have HSF := Lib.hid (show ∀ v0 v1 v2 v3 v4 v5 v6 v7 v8 v9, (fun w' => BoxL w' w9.heap.size [.slice Ay Y.length cy] ∧ DIn w' b5 (o5 + k * 10) x A4 c4) _ from fun v0 v1 v2 v3 v4 v5 v6 v7 v8 v9 => set10_ind (g := wd.heap.size) (fun w' => BoxL w' w9.heap.size [.slice Ay Y.length cy] ∧ DIn w' b5 (o5 + k * 10) x A4 c4) (fun w' j v h => ⟨h.1.far (fun e => by have := HLT.out; have := HNB.out; omega) v, h.2.grown (grown_one w' wd.heap.size j v) (by have := HLT.out; have := HNB.out; omega)⟩) ⟨yq24.out, HDXq24.out⟩ v0 v1 v2 v3 v4 v5 v6 v7 v8 v9)
     refine wpAnyH_take (i := 12) (oi := ⟨some 9, _, _, _, _, _⟩) (v := .bool q) rfl (by kernel_rfl) (by kernel_rfl) (by kernel_rfl) (fun _ _ _ h => h) (Or.inl ⟨by rfl, fun w' hS => by go_simp⟩) (HSF.out _ _ _ _ _ _ _ _ _ _) ?_
     try simp only [Act.put, List.setIfInBounds_toArray, List.set_cons_zero, List.set_cons_succ]
     refine wpAnyH_done (by kernel_rfl) ?_ _
     go_wp2_with fail
     go_meet
     exact ⟨rfl, Lib.hid (below10 HWq24.out HNB.out _ _ _ _ _ _ _ _ _ _)⟩
   case rest =>
   obtain ⟨rfl, HCB⟩ := hcut
   obtain ⟨wk, hwk⟩ : ∃ z, z = wc := ⟨_, rfl⟩
   subst hwk
   have hbk := HCB.out
   have HSwk := Lib.hid (show w6.heap.size ≤ wk.heap.size from hbk.size)
   have HBwk := Lib.hid (HB6.out.trans (hbk.mono HB6.out.size))
   have twk := Lib.hid (HT6.out.kept (grown_none hbk) (fun e => by cases e))
   have ywk := Lib.hid (HY6.out.kept (grown_none hbk) (fun e => by cases e))
   have HXFwk := Lib.hid (HXF6.out.below hbk)
   have HLFwk := Lib.hid (HLF6.out.below hbk)
   have HYFwk := Lib.hid (HYF6.out.below hbk)
   have HTPwk := Lib.hid (HTP6.out.kept (grown_none hbk) (fun e => by cases e) (fun g e => by cases e))
   have HDXwk := Lib.hid (HDX.out.below hbk)
   have HWwk := Lib.hid (below_next HW.out hbk)
   clear hbk HCB
   obtain ⟨e8, he8⟩ : ∃ e, (decide (x.par ≠ 0) && !q) = e := ⟨_, rfl⟩
   have HE8 := Lib.hid he8; clear he8
   have ik : (k : Int) < (lf.length : Int) := by omega
   obtain ⟨dd0, dd1, dd2, dd3, dd4, dd5, dd6, dd7, dd8, dd9⟩ := HDXwk.out.1
   go_upto_region 8 with fail
   go_cut [46] (fun s46 wx => s46 = .bool e8 ∧ wk = wx)
   case first =>
    by_cases hp : x.par = 0
    ·
     have ep : (x.par != 0) = false := by rw [hp]; rfl
     have HR := Lib.hid (show false = e8 by rw [← HE8.out]; simp [hp]); clear hp
     go_wp2_with fail
     go_meet
     exact ⟨by rw [← HR.out], rfl⟩
    ·
     have ep : (x.par != 0) = true := by simpa using hp
     have HR := Lib.hid (show (!q) = e8 by rw [← HE8.out]; simp [hp]); clear hp
     go_wp2_with fail
     go_meet
     exact ⟨by rw [← HR.out], rfl⟩
   case rest =>
   obtain ⟨rfl, rfl⟩ := hcut
   clear dd0 dd1 dd2 dd3 dd4 dd5 dd6 dd7 dd8 dd9
   go_upto_if 46 with fail
   go_cut [7] (fun s7 wx => ∃ k' : Nat, s7 = .int .i64 k' ∧ Hid (k' < lf.length ∧ ∃ t, lf[k']? = some t ∧ (t.par = 0 ∨ t.par ∈ idxs Y)) ∧ wk = wx)
   case first =>
    cases e8 with
    | true =>
     have HF0 := Lib.hid (show 0 < lf.length ∧ ∃ t, lf[0]? = some t ∧ (t.par = 0 ∨ t.par ∈ idxs Y) from ⟨hlt, by
      rcases hz : lf with _ | ⟨t, r⟩
      · rw [hz] at hlt; simp at hlt
      · exact ⟨t, rfl, by rw [← HYE.out]; exact build_first HVT.out (HLE.out.trans hz)⟩⟩)
     go_wp2_with fail
     go_meet
     exact ⟨0, rfl, HF0, rfl⟩
    | false =>
     have HF0 := Lib.hid (show k < lf.length ∧ ∃ t, lf[k]? = some t ∧ (t.par = 0 ∨ t.par ∈ idxs Y) from ⟨hk, x, HXK.out, by
      by_cases h0 : x.par = 0
      · exact .inl h0
      ·
       right
       have h1 := HE8.out
       rw [decide_eq_true h0] at h1
       cases hq : q with
       | true => exact find_in (HQ.out.trans hq)
       | false => rw [hq] at h1; cases h1⟩)
     go_wp2_with fail
     go_meet
     exact ⟨k, rfl, HF0, rfl⟩
   case rest =>
   obtain ⟨k3, rfl, HK3, rfl⟩ := hcut
   obtain ⟨hk3, x3, hx3, hpar3⟩ := HK3.out
   clear ik HK3
   obtain ⟨b6, o6, hA6, -, A6, c6, hok6, hat6, hd6⟩ := HLFwk.out.dev hk3
   obtain ⟨rfl, rfl⟩ : b5 = b6 ∧ o5 = o6 := by injection hA6 with e; injection e with e1 e2; exact ⟨e1, e2⟩
   obtain rfl : lf[k3] = x3 := (List.getElem?_eq_some_iff.1 hx3).2
   obtain ⟨t, ht⟩ : ∃ t, lf[k3]'hk3 = t := ⟨_, rfl⟩
   rw [ht] at hok6 hd6 hx3 hpar3 hat6
   have HX3 := Lib.hid hx3; have HD6 := Lib.hid hd6; have HOK6 := Lib.hid hok6; have HAT6 := Lib.hid hat6
   have hin := build_in (show (L.filter (notP p))[k3]? = some t by rw [HLE.out]; exact hx3)
   have HTIN := Lib.hid hin
   have hpq : t.par = 0 ∨ t.par ∈ idxs (L.filter p) := by rw [HYE.out]; exact hpar3
   have hins := build_ins HVT.out HSH.out hin.1 hin.2 hpq
   have hshn := build_shut HVT.out HSH.out hin.1 hpq
   have hnx := build_next HVT.out (show (L.filter (notP p))[k3]? = some t by rw [HLE.out]; exact hx3)
   rw [HLE.out] at hnx
   rw [HYE.out] at hins
   have HVY := Lib.hid (show VT Y by rw [← HYE.out]; exact HVT.out.part p HSH.out)
   have HSHN := Lib.hid hshn; have HINS := Lib.hid hins.1; have HNX := Lib.hid hnx
   obtain ⟨Y2, hY2⟩ : ∃ z, L.filter (also p t) = z := ⟨_, rfl⟩
   have HINR := Lib.hid (show insR Y t = Y2 by unfold insR; rw [if_pos hins.1, hins.2, hY2])
   have HY2 := Lib.hid hY2
   have hy2n : Y2.length ≤ 9 := by rw [← hY2]; exact Nat.le_trans (List.length_filter_le _ _) (by have := HLN.out; omega)
   clear hx3 hd6 hok6 hat6 hin hpq hins hshn hnx hY2 hpar3 ht hA6
   have HTS := Lib.hid (show t.orig.size ≤ 32 from (HVT.out.small t HTIN.out.1).1)
   have HW2 := Lib.hid (Below.refl wk.heap.size wk)
   have HLT2 := Lib.hid (show w9.heap.size < wk.heap.size ∧ b5 < wk.heap.size from ⟨ywk.out.2.2, HD6.out.2⟩)
   go_upto_region 10 with fail
   go_cut [10, 11] (fun s10 s11 wx => ∃ (g10 : Nat) (A9 : Option Addr) (c9 : Nat), s10 = .pointer (some ⟨g10, 0, none⟩) ∧ s11 = .int .i64 0 ∧ Hid (Below wk.heap.size wk wx ∧ wx.cell? ⟨g10, 0, none⟩ = some (.slice A9 Y2.length c9) ∧ FreeS (bN w.heap.size w9.heap.size) wx A9 c9 Y2))
   case first =>
    have hzt := HZT.out
    have ik : (k3 : Int) < (lf.length : Int) := by omega
    refine wp_region_held_drew (S := fun w' => BoxL w' w9.heap.size [.slice Ay Y.length cy] ∧ DIn w' b5 (o5 + k3 * 10) t A6 c6) (by kernel_rfl) ⟨ywk.out.drew, HD6.out.drew⟩ (fun hS0 => ?_)
    obtain ⟨wd, hwd⟩ : ∃ z, World.drew wk = z := ⟨_, rfl⟩
    rw [hwd] at hS0 ⊢
    have hb_ : Below wk.heap.size wk wd := by rw [← hwd]; exact below_drewN_self _ _ 1
    clear hwd hS0
    have HSwd := Lib.hid (show wk.heap.size ≤ wd.heap.size from hb_.size)
    have HBwd := Lib.hid (HBwk.out.trans (hb_.mono HBwk.out.size))
    have twd := Lib.hid (twk.out.kept (grown_none hb_) (fun e => by cases e))
    have ywd := Lib.hid (ywk.out.kept (grown_none hb_) (fun e => by cases e))
    have HXFwd := Lib.hid (HXFwk.out.below hb_)
    have HLFwd := Lib.hid (HLFwk.out.below hb_)
    have HYFwd := Lib.hid (HYFwk.out.below hb_)
    have HTPwd := Lib.hid (HTPwk.out.kept (grown_none hb_) (fun e => by cases e) (fun g e => by cases e))
    have HWwd := Lib.hid (below_next HW2.out hb_)
    have HD6wd := Lib.hid (HD6.out.below hb_)
    have HATwd := Lib.hid (HAT6.out.below hb_)
    clear hb_
    refine wpAnyH_take (i := 0) (oi := ⟨some 48, _, _, _, _, _⟩) (v := .agg #[.slice Ay Y.length cy]) rfl (by kernel_rfl) (by kernel_rfl) (by kernel_rfl) (fun _ _ _ h => h) (Or.inl ⟨by rfl, fun w' hS => by (have u0_ := hS.1.1 0 _ rfl; go_simp)⟩) ⟨ywd.out, HD6wd.out⟩ ?_
    try simp only [Act.put, List.setIfInBounds_toArray, List.set_cons_zero, List.set_cons_succ]
    refine wpAnyH_take (i := 1) (oi := ⟨some 49, _, _, _, _, _⟩) (v := .slice (some ⟨b5, o5, none⟩) lf.length c5) rfl (by kernel_rfl) (by kernel_rfl) (by kernel_rfl) (fun _ _ _ h => h) (Or.inl ⟨by rfl, fun w' hS => by go_simp⟩) ⟨ywd.out, HD6wd.out⟩ ?_
    try simp only [Act.put, List.setIfInBounds_toArray, List.set_cons_zero, List.set_cons_succ]
    refine wpAnyH_take (i := 2) (oi := ⟨some 50, _, _, _, _, _⟩) (v := .int .i64 k3) rfl (by kernel_rfl) (by kernel_rfl) (by kernel_rfl) (fun _ _ _ h => h) (Or.inl ⟨by rfl, fun w' hS => by go_simp⟩) ⟨ywd.out, HD6wd.out⟩ ?_
    try simp only [Act.put, List.setIfInBounds_toArray, List.set_cons_zero, List.set_cons_succ]
    refine wpAnyH_take (i := 3) (oi := ⟨some 51, _, _, _, _, _⟩) (v := .pointer (some ⟨b5, o5 + k3 * 10, none⟩)) rfl (by kernel_rfl) (by kernel_rfl) (by kernel_rfl) (fun _ _ _ h => h) (Or.inl ⟨by rfl, fun w' hS => by go_simp⟩) ⟨ywd.out, HD6wd.out⟩ ?_
    try simp only [Act.put, List.setIfInBounds_toArray, List.set_cons_zero, List.set_cons_succ]
    refine wpAnyH_take (i := 4) (oi := ⟨some 52, _, _, _, _, _⟩) (v := .agg #[.int .i64 t.idx, .int .i64 t.par, .string t.nm, .string t.orig, .string t.sub, .string t.drv, .string t.ali, .int .i64 t.kind, .int .i64 t.num, .slice A6 t.attrs.length c6]) rfl (by kernel_rfl) (by kernel_rfl) (by kernel_rfl) (fun _ _ _ h => h) (Or.inl ⟨by rfl, fun w' hS => by (obtain ⟨u0, u1, u2, u3, u4, u5, u6, u7, u8, u9⟩ := hS.2.1; go_simp)⟩) ⟨ywd.out, HD6wd.out⟩ ?_
    try simp only [Act.put, List.setIfInBounds_toArray, List.set_cons_zero, List.set_cons_succ]
    refine wpAnyH_ready (rs := [5, 9]) (by kernel_rfl) (by simp) ?_
    refine AllReadyH.cons (o := ⟨some 53, .call ⟨_, _, _⟩, _, _, _, _⟩) rfl (fun K hK => ?_) (AllReadyH.cons (o := ⟨some 10, .alloc _, _, _, _, _⟩) rfl (fun K hK => ?_) (AllReadyH.nil))
    ·
     go_simp
     go_at_call 18
     refine (Insert_any Ay cy Y t A6 c6 wd _ (Nat.le_refl _) HYFwd.out.out HOK6.out HATwd.out.out (by have := HTS.out; omega) HVY.out (HOK.out.next HBwd.out)).mono ?_
     rintro e' q25 ⟨hb_, v, rfl, hown_⟩
     have HSq25 := Lib.hid (show wd.heap.size ≤ q25.heap.size from hb_.size)
     have HBq25 := Lib.hid (HBwd.out.trans (hb_.mono HBwd.out.size))
     have tq25 := Lib.hid (twd.out.kept (grown_none hb_) (fun e => by cases e))
     have yq25 := Lib.hid (ywd.out.kept (grown_none hb_) (fun e => by cases e))
     have HXFq25 := Lib.hid (HXFwd.out.below hb_)
     have HLFq25 := Lib.hid (HLFwd.out.below hb_)
     have HYFq25 := Lib.hid (HYFwd.out.below hb_)
     have HTPq25 := Lib.hid (HTPwd.out.kept (grown_none hb_) (fun e => by cases e) (fun g e => by cases e))
     have HWq25 := Lib.hid (below_next HWwd.out hb_)
     have HD6q25 := Lib.hid (HD6wd.out.below hb_)
     have HATq25 := Lib.hid (HATwd.out.below hb_)
     rw [HINR.out] at hown_
     rw [HINS.out]
     obtain ⟨A9, c9, rfl, hfr_⟩ := hown_.free (N := (bN w.heap.size w9.heap.size)) (fun x hx => by rcases hx with h | h <;> constructor <;> (try intro h9) <;> (try have h9 : wd.heap.size ≤ x := h9) <;> have := HLT2.out <;> have := HGY.out <;> have := HWwd.out.size <;> omega)
     have HFN := Lib.hid hfr_; clear hown_ hfr_
     clear hb_
     refine hK.out _ _ ⟨yq25.out, HD6q25.out⟩ (fun _ => ?_)
     clear hK K
     try simp only [Act.put, List.setIfInBounds_toArray, List.set_cons_zero, List.set_cons_succ]
     refine wpAnyH_take (i := 6) (oi := ⟨some 47, _, _, _, _, _⟩) (v := .tuple #[.agg #[.slice A9 Y2.length c9], .int .i64 0]) rfl (by kernel_rfl) (by kernel_rfl) (by kernel_rfl) (fun _ _ _ h => h) (Or.inl ⟨by rfl, fun w' hS => by go_simp⟩) ⟨yq25.out, HD6q25.out⟩ ?_
     try simp only [Act.put, List.setIfInBounds_toArray, List.set_cons_zero, List.set_cons_succ]
     refine wpAnyH_take (i := 7) (oi := ⟨some 54, _, _, _, _, _⟩) (v := .agg #[.slice A9 Y2.length c9]) rfl (by kernel_rfl) (by kernel_rfl) (by kernel_rfl) (fun _ _ _ h => h) (Or.inl ⟨by rfl, fun w' hS => by go_simp⟩) ⟨yq25.out, HD6q25.out⟩ ?_
     try simp only [Act.put, List.setIfInBounds_toArray, List.set_cons_zero, List.set_cons_succ]
     refine wpAnyH_take (i := 8) (oi := ⟨some 55, _, _, _, _, _⟩) (v := .int .i64 0) rfl (by kernel_rfl) (by kernel_rfl) (by kernel_rfl) (fun _ _ _ h => h) (Or.inl ⟨by rfl, fun w' hS => by go_simp⟩) ⟨yq25.out, HD6q25.out⟩ ?_
     try simp only [Act.put, List.setIfInBounds_toArray, List.set_cons_zero, List.set_cons_succ]
     refine wpAnyH_ready (rs := [9]) (by kernel_rfl) (by simp) ?_
     refine AllReadyH.cons (o := ⟨some 10, .alloc _, _, _, _, _⟩) rfl (fun K hK => ?_) (AllReadyH.nil)
     have HFM := Lib.hid (HFN.out.more (N' := (fun x => (bN w.heap.size w9.heap.size) x ∨ x = q25.heap.size)) (fun x hx h => by rcases h with h | h; exact h; omega))
     go_simp
     obtain ⟨q26, hq26⟩ : ∃ z, q25.alloc (.cells #[.slice none 0 0] 29) = z := ⟨_, rfl⟩
     have hb_ : Below q25.heap.size q25 q26 := by rw [← hq26]; exact (Below.refl _ _).alloc (Nat.le_refl _) _
     have HXnq26 := Lib.hid (show BoxL q26 q25.heap.size [.slice none 0 0] from box_mk hq26)
     try rw [hq26]
     clear hq26
     have HSq26 := Lib.hid (show q25.heap.size ≤ q26.heap.size from hb_.size)
     have HBq26 := Lib.hid (HBq25.out.trans (hb_.mono HBq25.out.size))
     have tq26 := Lib.hid (tq25.out.kept (grown_none hb_) (fun e => by cases e))
     have yq26 := Lib.hid (yq25.out.kept (grown_none hb_) (fun e => by cases e))
     have HXFq26 := Lib.hid (HXFq25.out.below hb_)
     have HLFq26 := Lib.hid (HLFq25.out.below hb_)
     have HYFq26 := Lib.hid (HYFq25.out.below hb_)
     have HTPq26 := Lib.hid (HTPq25.out.kept (grown_none hb_) (fun e => by cases e) (fun g e => by cases e))
     have HWq26 := Lib.hid (below_next HWq25.out hb_)
     have HD6q26 := Lib.hid (HD6q25.out.below hb_)
     have HATq26 := Lib.hid (HATq25.out.below hb_)
     have HFNq26 := Lib.hid (HFM.out.below hb_)
     clear hb_
     refine hK.out _ _ ⟨yq26.out, HD6q26.out⟩ (fun _ => ?_)
     clear hK K
     try simp only [Act.put, List.setIfInBounds_toArray, List.set_cons_zero, List.set_cons_succ]
     have HNB := Lib.hid (show wk.heap.size ≤ q25.heap.size from HWq25.out.size)
     refine wpAnyH_ready (rs := [10]) (by kernel_rfl) (by simp) ?_
     refine AllReadyH.cons (o := ⟨none, .store _ _ _, _, _, _, _⟩) rfl (fun K hK => ?_) AllReadyH.nil
     have cn0 := HXnq26.out.1 0 _ rfl
     have cfn := HXnq26.out.2.1
     go_simp
     have hgs := grown_one q26 q25.heap.size 0 (.slice A9 Y2.length c9)
     have hnx_ := HXnq26.out.set_ (j := 0) (by simp) (.slice A9 Y2.length c9)
     obtain ⟨wz, hwz⟩ : ∃ z, q26.setCell ⟨q25.heap.size, 0, none⟩ (.slice A9 Y2.length c9) = z := ⟨_, rfl⟩
     rw [hwz] at hgs hnx_ ⊢
     clear hwz cn0 cfn
     have HYz := Lib.hid (yq26.out.kept hgs (fun e => by have := Option.some.inj e; have := HLT2.out; have := HNB.out; omega)); have HDz := Lib.hid (HD6q26.out.grown hgs (by have := HLT2.out; have := HNB.out; omega))
     have HFz := Lib.hid ((HFNq26.out.grown hgs (.inl (.inr rfl))).more (N' := (bN w.heap.size w9.heap.size)) (fun x _ h => .inl h))
     have HCz := Lib.hid (hnx_.1 0 _ rfl)
     have HWz := Lib.hid (HWq26.out.grown hgs HWq26.out.size (fun q hq => by have := Option.some.inj hq; have := HNB.out; omega))
     clear hgs hnx_
     refine hK.out _ _ ⟨HYz.out, HDz.out⟩ (fun _ => ?_)
     clear hK K
     try simp only [Act.put, List.setIfInBounds_toArray, List.set_cons_zero, List.set_cons_succ]
     refine wpAnyH_take (i := 11) (oi := ⟨some 11, _, _, _, _, _⟩) (v := .int .i64 0) rfl (by kernel_rfl) (by kernel_rfl) (by kernel_rfl) (fun _ _ _ h => h) (Or.inl ⟨by rfl, fun w' hS => by go_simp⟩) ⟨HYz.out, HDz.out⟩ ?_
     try simp only [Act.put, List.setIfInBounds_toArray, List.set_cons_zero, List.set_cons_succ]
     refine wpAnyH_done (by kernel_rfl) ?_ _
     go_wp2_with fail
     go_meet
     exact ⟨q25.heap.size, A9, c9, rfl, rfl, Lib.hid ⟨HWz.out, HCz.out, HFz.out⟩⟩
    ·
     go_simp
     obtain ⟨q27, hq27⟩ : ∃ z, wd.alloc (.cells #[.slice none 0 0] 29) = z := ⟨_, rfl⟩
     have hb_ : Below wd.heap.size wd q27 := by rw [← hq27]; exact (Below.refl _ _).alloc (Nat.le_refl _) _
     have HXnq27 := Lib.hid (show BoxL q27 wd.heap.size [.slice none 0 0] from box_mk hq27)
     try rw [hq27]
     clear hq27
     have HSq27 := Lib.hid (show wd.heap.size ≤ q27.heap.size from hb_.size)
     have HBq27 := Lib.hid (HBwd.out.trans (hb_.mono HBwd.out.size))
     have tq27 := Lib.hid (twd.out.kept (grown_none hb_) (fun e => by cases e))
     have yq27 := Lib.hid (ywd.out.kept (grown_none hb_) (fun e => by cases e))
     have HXFq27 := Lib.hid (HXFwd.out.below hb_)
     have HLFq27 := Lib.hid (HLFwd.out.below hb_)
     have HYFq27 := Lib.hid (HYFwd.out.below hb_)
     have HTPq27 := Lib.hid (HTPwd.out.kept (grown_none hb_) (fun e => by cases e) (fun g e => by cases e))
     have HWq27 := Lib.hid (below_next HWwd.out hb_)
     have HD6q27 := Lib.hid (HD6wd.out.below hb_)
     have HATq27 := Lib.hid (HATwd.out.below hb_)
     clear hb_
     refine hK.out _ _ ⟨yq27.out, HD6q27.out⟩ (fun _ => ?_)
     clear hK K
     try simp only [Act.put, List.setIfInBounds_toArray, List.set_cons_zero, List.set_cons_succ]
     refine wpAnyH_ready (rs := [5]) (by kernel_rfl) (by simp) ?_
     refine AllReadyH.cons (o := ⟨some 53, .call ⟨_, _, _⟩, _, _, _, _⟩) rfl (fun K hK => ?_) (AllReadyH.nil)
     have HNL := Lib.hid (show wd.heap.size < q27.heap.size from HXnq27.out.2.2)
     go_simp
     go_at_call 18
     refine (Insert_any Ay cy Y t A6 c6 q27 _ (Nat.le_refl _) HYFq27.out.out HOK6.out HATq27.out.out (by have := HTS.out; omega) HVY.out (HOK.out.next HBq27.out)).mono ?_
     rintro e' q28 ⟨hb_, v, rfl, hown_⟩
     have HSq28 := Lib.hid (show q27.heap.size ≤ q28.heap.size from hb_.size)
     have HBq28 := Lib.hid (HBq27.out.trans (hb_.mono HBq27.out.size))
     have tq28 := Lib.hid (tq27.out.kept (grown_none hb_) (fun e => by cases e))
     have yq28 := Lib.hid (yq27.out.kept (grown_none hb_) (fun e => by cases e))
     have nq28 := Lib.hid (HXnq27.out.kept (grown_none hb_) (fun e => by cases e))
     have HXFq28 := Lib.hid (HXFq27.out.below hb_)
     have HLFq28 := Lib.hid (HLFq27.out.below hb_)
     have HYFq28 := Lib.hid (HYFq27.out.below hb_)
     have HTPq28 := Lib.hid (HTPq27.out.kept (grown_none hb_) (fun e => by cases e) (fun g e => by cases e))
     have HWq28 := Lib.hid (below_next HWq27.out hb_)
     have HD6q28 := Lib.hid (HD6q27.out.below hb_)
     have HATq28 := Lib.hid (HATq27.out.below hb_)
     rw [HINR.out] at hown_
     rw [HINS.out]
     obtain ⟨A9, c9, rfl, hfr_⟩ := hown_.free (N := (fun x => (bN w.heap.size w9.heap.size) x ∨ x = wd.heap.size)) (fun x hx => by rcases hx with (h | h) | h <;> constructor <;> (try intro h9) <;> (try have h9 : q27.heap.size ≤ x := h9) <;> have := HLT2.out <;> have := HGY.out <;> have := HWq27.out.size <;> have := HNL.out <;> omega)
     have HFN := Lib.hid hfr_; clear hown_ hfr_
     clear hb_
     refine hK.out _ _ ⟨yq28.out, HD6q28.out⟩ (fun _ => ?_)
     clear hK K
     try simp only [Act.put, List.setIfInBounds_toArray, List.set_cons_zero, List.set_cons_succ]
     refine wpAnyH_take (i := 6) (oi := ⟨some 47, _, _, _, _, _⟩) (v := .tuple #[.agg #[.slice A9 Y2.length c9], .int .i64 0]) rfl (by kernel_rfl) (by kernel_rfl) (by kernel_rfl) (fun _ _ _ h => h) (Or.inl ⟨by rfl, fun w' hS => by go_simp⟩) ⟨yq28.out, HD6q28.out⟩ ?_
     try simp only [Act.put, List.setIfInBounds_toArray, List.set_cons_zero, List.set_cons_succ]
     refine wpAnyH_take (i := 7) (oi := ⟨some 54, _, _, _, _, _⟩) (v := .agg #[.slice A9 Y2.length c9]) rfl (by kernel_rfl) (by kernel_rfl) (by kernel_rfl) (fun _ _ _ h => h) (Or.inl ⟨by rfl, fun w' hS => by go_simp⟩) ⟨yq28.out, HD6q28.out⟩ ?_
     try simp only [Act.put, List.setIfInBounds_toArray, List.set_cons_zero, List.set_cons_succ]
     refine wpAnyH_take (i := 8) (oi := ⟨some 55, _, _, _, _, _⟩) (v := .int .i64 0) rfl (by kernel_rfl) (by kernel_rfl) (by kernel_rfl) (fun _ _ _ h => h) (Or.inl ⟨by rfl, fun w' hS => by go_simp⟩) ⟨yq28.out, HD6q28.out⟩ ?_
     try simp only [Act.put, List.setIfInBounds_toArray, List.set_cons_zero, List.set_cons_succ]
     have HNB := Lib.hid (show wk.heap.size ≤ wd.heap.size from HWwd.out.size)
     refine wpAnyH_ready (rs := [10]) (by kernel_rfl) (by simp) ?_
     refine AllReadyH.cons (o := ⟨none, .store _ _ _, _, _, _, _⟩) rfl (fun K hK => ?_) AllReadyH.nil
     have cn0 := nq28.out.1 0 _ rfl
     have cfn := nq28.out.2.1
     go_simp
     have hgs := grown_one q28 wd.heap.size 0 (.slice A9 Y2.length c9)
     have hnx_ := nq28.out.set_ (j := 0) (by simp) (.slice A9 Y2.length c9)
     obtain ⟨wz, hwz⟩ : ∃ z, q28.setCell ⟨wd.heap.size, 0, none⟩ (.slice A9 Y2.length c9) = z := ⟨_, rfl⟩
     rw [hwz] at hgs hnx_ ⊢
     clear hwz cn0 cfn
     have HYz := Lib.hid (yq28.out.kept hgs (fun e => by have := Option.some.inj e; have := HLT2.out; have := HNB.out; omega)); have HDz := Lib.hid (HD6q28.out.grown hgs (by have := HLT2.out; have := HNB.out; omega))
     have HFz := Lib.hid ((HFN.out.grown hgs (.inl (.inr rfl))).more (N' := (bN w.heap.size w9.heap.size)) (fun x _ h => .inl h))
     have HCz := Lib.hid (hnx_.1 0 _ rfl)
     have HWz := Lib.hid (HWq28.out.grown hgs HWq28.out.size (fun q hq => by have := Option.some.inj hq; have := HNB.out; omega))
     clear hgs hnx_
     refine hK.out _ _ ⟨HYz.out, HDz.out⟩ (fun _ => ?_)
     clear hK K
     try simp only [Act.put, List.setIfInBounds_toArray, List.set_cons_zero, List.set_cons_succ]
     refine wpAnyH_take (i := 11) (oi := ⟨some 11, _, _, _, _, _⟩) (v := .int .i64 0) rfl (by kernel_rfl) (by kernel_rfl) (by kernel_rfl) (fun _ _ _ h => h) (Or.inl ⟨by rfl, fun w' hS => by go_simp⟩) ⟨HYz.out, HDz.out⟩ ?_
     try simp only [Act.put, List.setIfInBounds_toArray, List.set_cons_zero, List.set_cons_succ]
     refine wpAnyH_done (by kernel_rfl) ?_ _
     go_wp2_with fail
     go_meet
     exact ⟨wd.heap.size, A9, c9, rfl, rfl, Lib.hid ⟨HWz.out, HCz.out, HFz.out⟩⟩
   case rest =>
   obtain ⟨g10, A9, c9, rfl, rfl, HCB⟩ := hcut
   obtain ⟨hbk, hc10, hfn⟩ := HCB.out
   obtain ⟨wm, hwm⟩ : ∃ z, z = wc := ⟨_, rfl⟩
   subst hwm
   have HFN := Lib.hid hfn; clear hfn
   have HSwm := Lib.hid (show wk.heap.size ≤ wm.heap.size from hbk.size)
   have HBwm := Lib.hid (HBwk.out.trans (hbk.mono HBwk.out.size))
   have twm := Lib.hid (twk.out.kept (grown_none hbk) (fun e => by cases e))
   have ywm := Lib.hid (ywk.out.kept (grown_none hbk) (fun e => by cases e))
   have HXFwm := Lib.hid (HXFwk.out.below hbk)
   have HLFwm := Lib.hid (HLFwk.out.below hbk)
   have HYFwm := Lib.hid (HYFwk.out.below hbk)
   have HTPwm := Lib.hid (HTPwk.out.kept (grown_none hbk) (fun e => by cases e) (fun g e => by cases e))
   clear hbk HCB
   have y0_ := ywm.out.1 0 _ rfl; have yf_ := ywm.out.2.1
   go_upto_region 14 with fail
   clear hc10 y0_ yf_
   have hgs := grown_one wm w9.heap.size 0 (.slice A9 Y2.length c9)
   have hyx := ywm.out.set_ (j := 0) (by simp) (.slice A9 Y2.length c9)
   obtain ⟨wz, hwz⟩ : ∃ z, wm.setCell ⟨w9.heap.size, 0, none⟩ (.slice A9 Y2.length c9) = z := ⟨_, rfl⟩
   rw [hwz] at hgs hyx
   rw [hwz]
   clear hwz
   have HYz := Lib.hid (show BoxL wz w9.heap.size [.slice A9 Y2.length c9] from hyx); have HTz := Lib.hid (twm.out.kept hgs (fun e => by have := Option.some.inj e; have := HGY.out; omega))
   have HXFz := Lib.hid (HXFwm.out.grown hgs (.inl (.inr rfl))); have HLFz := Lib.hid (HLFwm.out.grown hgs (.inl (.inr rfl))); have HFNz := Lib.hid (HFN.out.grown hgs (.inl (.inr rfl)))
   have HTPz := Lib.hid (HTPwm.out.kept hgs (fun e => by have := Option.some.inj e; have := HGY.out; omega) (fun q e => by have := Option.some.inj e; have := HGY.out; omega))
   have HBz := Lib.hid (HBwm.out.grown hgs HBwm.out.size (fun q e => by have := Option.some.inj e; have := HGY.out; omega))
   clear hgs hyx HFN
   have ik : (k3 : Int) ≤ (lf.length : Int) := by omega
   have ik2 : (k3 : Int) ≤ (c5 : Int) := by omega
   have ik3 : k3 ≤ c5 := by omega
   have ij : ((k3 : Int) + 1) ≤ (lf.length : Int) := by omega
   have hwr : IntKind.i64.wrap ((k3 : Int) + 1) = ((k3 + 1 : Nat) : Int) := by rw [IntKind.wrap_i64]; omega
   have ij2 : ((k3 + 1 : Nat) : Int) ≤ (lf.length : Int) := by omega
   have ij3 : ((k3 + 1 : Nat) : Int) ≤ (c5 : Int) := by omega
   have ij4 : k3 + 1 ≤ lf.length := by omega
   refine wp_region_held_drew (S := fun w' => BoxL w' w9.heap.size [.slice A9 Y2.length c9]) (by kernel_rfl) HYz.out.drew (fun hS0 => ?_)
   obtain ⟨wd, hwd⟩ : ∃ z, World.drew wz = z := ⟨_, rfl⟩
   rw [hwd] at hS0 ⊢
   have hb_ : Below wz.heap.size wz wd := by rw [← hwd]; exact below_drewN_self _ _ 1
   have HDSTEP := Lib.hid hb_
   clear hwd hS0
   have HSwd := Lib.hid (show wz.heap.size ≤ wd.heap.size from hb_.size)
   have HBwd := Lib.hid (HBz.out.trans (hb_.mono HBz.out.size))
   have twd := Lib.hid (HTz.out.kept (grown_none hb_) (fun e => by cases e))
   have ywd := Lib.hid (HYz.out.kept (grown_none hb_) (fun e => by cases e))
   have HXFwd := Lib.hid (HXFz.out.below hb_)
   have HFNwd := Lib.hid (HFNz.out.below hb_)
   have HTPwd := Lib.hid (HTPz.out.kept (grown_none hb_) (fun e => by cases e) (fun g e => by cases e))
   clear hb_
   refine wpAnyH_take (i := 0) (oi := ⟨some 59, _, _, _, _, _⟩) (v := .slice (some ⟨b5, o5, none⟩) lf.length c5) rfl (by kernel_rfl) (by kernel_rfl) (by kernel_rfl) (fun _ _ _ h => h) (Or.inl ⟨by rfl, fun w' hS => by go_simp⟩) ywd.out ?_
   try simp only [Act.put, List.setIfInBounds_toArray, List.set_cons_zero, List.set_cons_succ]
   refine wpAnyH_take (i := 1) (oi := ⟨some 60, _, _, _, _, _⟩) (v := .int .i64 k3) rfl (by kernel_rfl) (by kernel_rfl) (by kernel_rfl) (fun _ _ _ h => h) (Or.inl ⟨by rfl, fun w' hS => by go_simp⟩) ywd.out ?_
   try simp only [Act.put, List.setIfInBounds_toArray, List.set_cons_zero, List.set_cons_succ]
   refine wpAnyH_take (i := 2) (oi := ⟨some 61, _, _, _, _, _⟩) (v := .slice (some ⟨b5, o5, none⟩) k3 c5) rfl (by kernel_rfl) (by kernel_rfl) (by kernel_rfl) (fun _ _ _ h => h) (Or.inl ⟨by rfl, fun w' hS => by (rw [← sliced_take (A := some ⟨b5, o5, none⟩) (c := c5) (m := k3) (s := 10)]; go_simp)⟩) ywd.out ?_
   try simp only [Act.put, List.setIfInBounds_toArray, List.set_cons_zero, List.set_cons_succ]
   refine wpAnyH_take (i := 4) (oi := ⟨some 63, _, _, _, _, _⟩) (v := .slice (some ⟨b5, o5, none⟩) lf.length c5) rfl (by kernel_rfl) (by kernel_rfl) (by kernel_rfl) (fun _ _ _ h => h) (Or.inl ⟨by rfl, fun w' hS => by go_simp⟩) ywd.out ?_
   try simp only [Act.put, List.setIfInBounds_toArray, List.set_cons_zero, List.set_cons_succ]
   refine wpAnyH_take (i := 5) (oi := ⟨some 64, _, _, _, _, _⟩) (v := .int .i64 k3) rfl (by kernel_rfl) (by kernel_rfl) (by kernel_rfl) (fun _ _ _ h => h) (Or.inl ⟨by rfl, fun w' hS => by go_simp⟩) ywd.out ?_
   try simp only [Act.put, List.setIfInBounds_toArray, List.set_cons_zero, List.set_cons_succ]
   refine wpAnyH_take (i := 6) (oi := ⟨some 65, _, _, _, _, _⟩) (v := .int .i64 ((k3 + 1 : Nat) : Int)) rfl (by kernel_rfl) (by kernel_rfl) (by kernel_rfl) (fun _ _ _ h => h) (Or.inl ⟨by rfl, fun w' hS => by go_simp⟩) ywd.out ?_
   try simp only [Act.put, List.setIfInBounds_toArray, List.set_cons_zero, List.set_cons_succ]
   obtain ⟨Ad, hAd⟩ : ∃ z, (if c5 = k3 + 1 then some (⟨b5, o5, none⟩ : Addr) else (some (⟨b5, o5, none⟩ : Addr)).map (·.add ((k3 + 1) * 10))) = z := ⟨_, rfl⟩
   have HAD := Lib.hid hAd; clear hAd
   refine wpAnyH_take (i := 7) (oi := ⟨some 66, _, _, _, _, _⟩) (v := .slice Ad (lf.length - (k3 + 1)) (c5 - (k3 + 1))) rfl (by kernel_rfl) (by kernel_rfl) (by kernel_rfl) (fun _ _ _ h => h) (Or.inl ⟨by rfl, fun w' hS => by (rw [show (Value.slice Ad (lf.length - (k3 + 1)) (c5 - (k3 + 1))) = sliced (some ⟨b5, o5, none⟩) (k3 + 1) lf.length c5 10 by unfold sliced; rw [HAD.out]]; go_simp; try (intro h9; omega))⟩) ywd.out ?_
   try simp only [Act.put, List.setIfInBounds_toArray, List.set_cons_zero, List.set_cons_succ]
   have HLFd := Lib.hid (show SlS wd (fun x => x < wz.heap.size ∧ ¬ (bN w.heap.size w9.heap.size) x) (some ⟨b5, o5, none⟩) c5 lf from SlS.below HLFz.out HDSTEP.out (fun x hx => hx.1))
   have htl : (lf.take k3).length = k3 := by rw [List.length_take]; omega
   have hdl : (lf.drop (k3 + 1)).length = lf.length - (k3 + 1) := List.length_drop
   refine wpAnyH_ready (rs := [3]) (by kernel_rfl) (by simp) ?_
   refine AllReadyH.cons (o := ⟨some 62, .call ⟨_, _, _⟩, _, _, _, _⟩) rfl (fun K hK => ?_) (AllReadyH.nil)
   have HS3 := Lib.hid (show SlS wd (fun b => (fun x => ¬ (bN w.heap.size w9.heap.size) x) b ∧ b < wd.heap.size ∧ (.slice none 0 0 : Value).ownBlock ≠ some b) (some ⟨b5, o5, none⟩) c5 (lf.take k3) from (SlS.take_ HLFd.out (by omega)).mono (fun x hx => ⟨hx.2, by have := hx.1; have := HDSTEP.out.size; omega, fun h => by cases h⟩) (fun _ _ _ _ hu => hu))
   refine step_app rfl _ _ rfl (.slice none 0 0) (.slice (some ⟨b5, o5, none⟩) (lf.take k3).length c5) (by simp [Act.eval, Act.put]) (by rw [htl]; simp [Act.eval, Act.put]) (run_appL E_dev _ (.slice none 0 0) ([] : List Dev) (OwnsS.nil_ (fun x => ¬ (bN w.heap.size w9.heap.size) x) wd wd.heap.size _) (some ⟨b5, o5, none⟩) c5 (lf.take k3) (.inl HS3.out) (by rw [htl]; simp only [List.length_nil]; unfold maxLen; omega) (by rw [htl]; simp only [List.length_nil]; omega) (Nat.le_refl _)) ?_
   rintro v1 q1 ⟨hown_, hg_, hnew_⟩
   rw [List.nil_append] at hown_
   have hb_ := below_own (Below.refl wd.heap.size wd) hg_ (Nat.le_refl _) (fun k hk => by cases hk)
   have HOW1 := Lib.hid hown_; have HST1 := Lib.hid hb_
   clear hown_ hg_ hnew_
   have HSq1 := Lib.hid (show wd.heap.size ≤ q1.heap.size from hb_.size)
   have HBq1 := Lib.hid (HBwd.out.trans (hb_.mono HBwd.out.size))
   have tq1 := Lib.hid (twd.out.kept (grown_none hb_) (fun e => by cases e))
   have yq1 := Lib.hid (ywd.out.kept (grown_none hb_) (fun e => by cases e))
   have HXFq1 := Lib.hid (HXFwd.out.below hb_)
   have HFNq1 := Lib.hid (HFNwd.out.below hb_)
   have HTPq1 := Lib.hid (HTPwd.out.kept (grown_none hb_) (fun e => by cases e) (fun g e => by cases e))
   clear hb_
   refine hK.out _ _ yq1.out (fun _ => ?_)
   clear hK K
   try simp only [Act.put, List.setIfInBounds_toArray, List.set_cons_zero, List.set_cons_succ]
   refine wpAnyH_ready (rs := [8]) (by kernel_rfl) (by simp) ?_
   refine AllReadyH.cons (o := ⟨some 67, .call ⟨_, _, _⟩, _, _, _, _⟩) rfl (fun K hK => ?_) (AllReadyH.nil)
   have HS8 := Lib.hid (show SlS q1 (fun b => (fun x => ¬ (bN w.heap.size w9.heap.size) x) b ∧ b < q1.heap.size ∧ v1.ownBlock ≠ some b) Ad (c5 - (k3 + 1)) (lf.drop (k3 + 1)) ∨ lf.drop (k3 + 1) = [] by
    rw [← HAD.out]
    exact (SlS.drop_ (SlS.below (SlS.mono (fun x hx => (⟨by have := hx.1; have := HDSTEP.out.size; omega, hx.2, by have := hx.1; omega⟩ : x < wd.heap.size ∧ ¬ (bN w.heap.size w9.heap.size) x ∧ x < wz.heap.size)) (fun _ _ _ _ hu => hu) HLFd.out) HST1.out (fun x hx => hx.1)) (m := k3 + 1)).imp (fun h => h.mono (fun x hx => ⟨hx.2.1, by have := hx.1; have := HST1.out.size; omega, fun h => by have := (HOW1.out.lt _ h).1; have := hx.1; omega⟩) (fun _ _ _ _ hu => hu)) id)
   have hlow : ∀ k, v1.ownBlock = some k → wd.heap.size ≤ k := fun k hk => (HOW1.out.lt k hk).1
   refine step_app rfl _ _ rfl v1 (.slice Ad (lf.drop (k3 + 1)).length (c5 - (k3 + 1))) (by simp [Act.eval, Act.put]) (by rw [hdl]; simp [Act.eval, Act.put]) (run_appL E_dev _ v1 (lf.take k3) HOW1.out Ad (c5 - (k3 + 1)) (lf.drop (k3 + 1)) HS8.out (by rw [htl, hdl]; unfold maxLen; omega) (by rw [htl, hdl]; omega) HST1.out.size) ?_
   rintro v2 q2 ⟨hown_, hg_, hnew_⟩
   rw [HNX.out] at hown_
   have hgz : Below wz.heap.size wz q2 := below_own (below_next HDSTEP.out HST1.out) hg_ (by have := HDSTEP.out.size; have := HST1.out.size; omega) (fun k hk => by have := hlow k hk; have := HDSTEP.out.size; omega)
   have HGZ := Lib.hid hgz
   obtain ⟨A8, c8, hv8, hf8⟩ := hown_.free (N := (bN w.heap.size w9.heap.size)) (fun x hx => ⟨by have := HGY.out; have := HYz.out.2.2; have := HBz.out.size; have := HDSTEP.out.size; rcases hx with h | h <;> omega, fun h => h hx⟩)
   subst hv8
   have HF8 := Lib.hid hf8
   clear hown_ hg_ hnew_ hlow hgz hf8
   have HY8 := Lib.hid (HYz.out.kept (grown_none HGZ.out) (fun e => by cases e))
   refine hK.out _ _ HY8.out (fun _ => ?_)
   clear hK K
   try simp only [Act.put, List.setIfInBounds_toArray, List.set_cons_zero, List.set_cons_succ]
   refine wpAnyH_take (i := 9) (oi := ⟨some 5, _, _, _, _, _⟩) (v := .slice A8 (L.filter (notP (also p t))).length c8) rfl (by kernel_rfl) (by kernel_rfl) (by kernel_rfl) (fun _ _ _ h => h) (Or.inl ⟨by rfl, fun w' hS => by go_simp⟩) HY8.out ?_
   try simp only [Act.put, List.setIfInBounds_toArray, List.set_cons_zero, List.set_cons_succ]
   refine wpAnyH_done (by kernel_rfl) ?_ _
   have HNL := Lib.hid (show (L.filter (notP (also p t))).length + 1 = lf.length by rw [← HNX.out, List.length_append, htl, hdl]; omega)
   have HSTn := Lib.hid (show BdSt w w2.heap.size w9.heap.size AT cT L xs (also p t) A8 c8 A9 c9 (k1 + 1) q2 from ⟨HSHN.out, by have := HNL.out; have := HKC.out; omega, HBz.out.trans (HGZ.out.mono HBz.out.size), HTPz.out.kept (grown_none HGZ.out) (fun e => by cases e) (fun g e => by cases e), HTz.out.kept (grown_none HGZ.out) (fun e => by cases e), by rw [HY2.out]; exact HY8.out, HXFz.out.below HGZ.out, HF8.out, by rw [HY2.out]; exact HFNz.out.below HGZ.out⟩)
   go_wp2
   go_roundw
   case rel => exact ⟨also p t, A8, c8, A9, c9, k1 + 1, by first | rfl | simp, HSTn⟩
   case measure => simp only [lenW]; have := HNL.out; omega
  ·
   have i1 : ¬ (0 : Int) < (lf.length : Int) := by omega
   obtain rfl : lf = [] := List.eq_nil_of_length_eq_zero (by omega)
   obtain rfl : L = Y := (build_all HLE.out).symm.trans HYE.out
   have ct0 := HTR.out.1 0 _ rfl
   have cy0 := HYR.out.1 0 _ rfl
   go_wp2_with fail
   refine (SameTree_same AT Ay cT cy L _ _ _ (Nat.le_refl _) (Nat.le_refl _) HXF.out.out HYF.out.out).mono ?_
   rintro e w29 ⟨rfl, hbw29⟩
   clear ct0 cy0
   have HSw29 := Lib.hid (show wr.heap.size ≤ w29.heap.size from hbw29.size)
   have HBw29 := Lib.hid (HBR.out.trans (hbw29.mono HBR.out.size))
   have tw29 := Lib.hid (HTR.out.kept (grown_none hbw29) (fun e => by cases e))
   have yw29 := Lib.hid (HYR.out.kept (grown_none hbw29) (fun e => by cases e))
   have HXFw29 := Lib.hid (HXF.out.below hbw29)
   have HYFw29 := Lib.hid (HYF.out.below hbw29)
   clear hbw29
   go_wp2_with fail
   refine (known_any _ (HOK.out.next HBw29.out)).mono ?_
   rintro e w30 ⟨rfl, hbw30⟩
   have HSw30 := Lib.hid (show w29.heap.size ≤ w30.heap.size from hbw30.size)
   have HBw30 := Lib.hid (HBw29.out.trans (hbw30.mono HBw29.out.size))
   have tw30 := Lib.hid (tw29.out.kept (grown_none hbw30) (fun e => by cases e))
   have yw30 := Lib.hid (yw29.out.kept (grown_none hbw30) (fun e => by cases e))
   have HXFw30 := Lib.hid (HXFw29.out.below hbw30)
   have HYFw30 := Lib.hid (HYFw29.out.below hbw30)
   clear hbw30
   go_wp2
   go_ret
   exact ⟨by try rfl, HBw30.out⟩
end Go.Proofs.YtidhbckalcjdpaaGreatDoor
namespace Go.Proofs.YtidhbckalcjdpaaGreatDoor
open Go.RowKit Go.Cold
namespace cTreeBuilds
open Go.ChangeShapes Go.WideShapes Go.ChangeAt
open Go.ChangeMaps (open_string)
set_option maxRecDepth 100000
theorem reads (os : Os) {H : Type} (enc : TypeId × Value → H) : ∃ places, DataW.whole enc Tryz.prog ((World.laidAll Tryz.prog os Rows.treeBuildsRow.laid).forCall (fun _ _ => 0) ⟨#[], #[.slice none 0 0], []⟩).memory Tryz.f5.params.toList Rows.treeBuildsSpec.vars false (#[.slice none 0 0] : Array Value).toList 8 = some ([.nil], [], places) :=
 ⟨[], by kernel_rfl⟩
theorem lifted (os : Os) (started : os.Started) (H : Type) (enc : TypeId × Value → H) (F : Stop.Interp) :
  ReturnsInHanded {} Tryz.checked os 5 .any ((OpenSpec.ofChange Rows.treeBuildsSpec).preRow enc Tryz.prog Tryz.f5 Rows.treeBuildsRow.domain false Rows.treeBuildsRow.laid) (((OpenSpec.ofChange Rows.treeBuildsSpec).at F).post enc Tryz.prog Tryz.f5 false true false false) := by
 obtain ⟨places, hx⟩ := reads os enc
 refine law_lifted os started H enc F (by kernel_rfl) Tryz.func5 #[.slice none 0 0] (World.shaped_of_ZipB (by kernel_rfl) (by kernel_rfl)) (by kernel_rfl)
  (OpenSpec.preRow_of_cond 8 hx (by kernel_rfl) (fun k hk => by cases hk) (by kernel_rfl) (laidMet_laidAll _ (by kernel_rfl) (by kernel_rfl))) rfl rfl
  (fun ds hl => by
   rw [Tryz.params5] at hl
   match ds, hl with
   | [d0], _ => rfl) (by kernel_rfl) ?_
 intro W base args ds ps hval hA hlt hz hsh
 rw [Tryz.params5] at hA hval
 obtain ⟨v0, vs0, d0, ds0, p0, q0, hargs, rfl, rfl, h0, r0⟩ := trodAll_cons hA
 obtain ⟨rfl, rfl, rfl⟩ := trodAll_nil r0
 obtain rfl : args = #[v0] := by cases args; simp_all
 obtain ⟨A0, c0, xs0, rfl, s0⟩ := open_nums Tryz.underlying23 Tryz.underlying3 (by kernel_rfl) (hval 0 23 v0 rfl rfl) h0 (fun x hx => hlt x (List.mem_append_left _ hx))
 exact lawBuilds_any A0 c0 xs0 W (show Ok W from Tryz.laysM146.s1_3 W hsh) s0
theorem said : Rows.TreeBuildsSaid :=
 OpenClaim.holds_of_cond 5 Tryz.f5 rfl rfl rfl rfl rfl rfl rfl ⟨rfl, rfl, rfl, rfl, rfl⟩ rfl rfl rfl rfl rfl (by kernel_rfl) Tryz.func5 (by kernel_rfl)
  (of_decide_eq_true (by kernel_rfl)) (by unfold Func.isWrapper; first | (rw [if_pos (by decide +kernel)]; kernel_rfl) | (rw [if_neg (by decide +kernel)]; exact ⟨rfl, rfl⟩))
  (fun os started H enc _ F => by rw [OpenClaim.pre_eq_preRow]; exact lifted os started H enc F)
theorem plain (f : FuncId) (fn : Func) (hf : Tryz.pinned.checked.prog.funcNamed Rows.treeBuildsRow.func = some f) (hfn : Tryz.pinned.checked.prog.funcs[f]? = some fn) :
  false = Tryz.pinned.checked.prog.looks [] ∧ ∀ (j : Nat) t, fn.params[j]? = some t → Tryz.pinned.checked.prog.wantsStandIn t = false := by
 obtain rfl : f = 5 := Option.some.inj ((show Tryz.prog.funcNamed Rows.treeBuildsRow.func = some 5 by kernel_rfl).symm.trans hf) |>.symm
 obtain rfl : fn = Tryz.f5 := (Option.some.inj (Tryz.func5.symm.trans hfn)).symm
 refine ⟨by kernel_rfl, fun j t ht => ?_⟩
 rw [Tryz.params5] at ht
 have hm : t ∈ [23] := by simpa using Array.mem_of_getElem? ht
 have hall : ([23].all fun u => !Tryz.prog.wantsStandIn u) = true := by kernel_rfl
 exact (show Tryz.prog.wantsStandIn t = false by simpa using List.all_eq_true.1 hall t hm)
/-- The card. -/
theorem card : Rows.TreeBuildsCardSaid :=
 Claim7.holds_tied_plain_at .later [] _ _ _ _ said (fun _ h => by cases h) (by kernel_rfl) (fun _ h => by cases h) treeBuilds_row_tie rfl ⟨rfl, rfl⟩ (by kernel_rfl) rfl plain (by kernel_rfl)
end cTreeBuilds
end Go.Proofs.YtidhbckalcjdpaaGreatDoor
