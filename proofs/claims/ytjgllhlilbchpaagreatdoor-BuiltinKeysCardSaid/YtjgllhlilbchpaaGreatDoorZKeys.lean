/-
  BuiltinKeys: row and card.
 Conditions: those of the given row and card (the listed variables of the library hold what the text lays), nothing else.
-/
import Derived.Test.YtjgllhlilbchpaaGreatDoorHUE
import Derived.Test.YtjgllhlilbchpaaGreatDoorHM
import Derived.ShutString
set_option linter.unusedSimpArgs false
set_option linter.unusedVariables false
namespace Go.Proofs.YtjgllhlilbchpaaGreatDoor
open Go.RowKit Go.Cold
set_option maxRecDepth 100000 in
set_option maxHeartbeats 8000000 in
theorem lawKeys11_any (key : ByteArray) (A : Option Addr) (c : Nat) (xs : List Int) (w : World) (hok : Ok w) (h7 : Ok7 w) (hu : OkU w) (hx : Sl w w.heap.size A c xs) :
  Calls Tryz.prog 4 #[.string key, .slice A xs.length c] w fun e w' => e = .returned (.bool true) ∧ Below w.heap.size w w' := by
 have HOK := Lib.hid hok; have HX := Lib.hid hx; have H7 := Lib.hid h7; have HK8 := Lib.hid (show Ok8 w from hok); have HU := Lib.hid hu; clear hok hx h7 hu
 go_enter Tryz.func4, Tryz.ntmps4
 go_upto_region 2 with fail
 have htape := tape_new HX.out
 have HNG := Lib.hid (notG_of HOK.out)
 obtain ⟨w1, hw1⟩ : ∃ z, w.alloc (.cells #[.slice A xs.length c, .int .i64 0] 25) = z := ⟨_, rfl⟩
 rw [hw1] at htape
 have hb1 : Below w.heap.size w w1 := by rw [← hw1]; exact (Below.refl _ _).alloc (Nat.le_refl _) _
 have HGw1 := Lib.hid (show w1.heap.size = w.heap.size + 1 by rw [← hw1]; simp)
 try simp only [hw1]
 have HTAPE := Lib.hid htape
 clear hw1 htape
 have HSw1 := Lib.hid (show w.heap.size ≤ w1.heap.size from hb1.size)
 have HBw1 := Lib.hid hb1
 clear hb1
 go_wp2_with fail
 refine (Tree_any xs 0 w.heap.size w.heap.size 9 w1 (by decide) HTAPE.out ⟨by decide, by decide⟩ (HOK.out.next HBw1.out) HNG.out).mono ?_
 rintro e w2 ⟨AT, cT, L, k1, rfl, hvt, hln, hsl, hk1, htp, hg2⟩
 have hb2 : Below w.heap.size w w2 := below_of_grown HBw1.out hg2 HBw1.out.size (Nat.le_refl _)
 have HSB2 := Lib.hid (show w1.heap.size ≤ w2.heap.size from hg2.size)
 have hx1 := hsl.1; have hx2 := hsl.2.1
 unfold maxLen at hx2
 have hin : TreeIn w2 w.heap.size (fun x => w1.heap.size ≤ x ∧ x < w2.heap.size) AT cT L := ⟨hsl, fun x hx => by have := HGw1.out; omega, fun x hx => hx.2⟩
 have HVT := Lib.hid hvt; have HLN := Lib.hid (show L.length ≤ 9 by omega); have HIN := Lib.hid hin; have HK1 := Lib.hid hk1; have HTP := Lib.hid htp
 clear HTAPE hvt hln hsl hk1 htp hg2 hin
 have HBw2 := Lib.hid hb2
 clear hb2
 go_upto_region 3 with fail
 obtain ⟨w3, hw3⟩ : ∃ w3, w2.alloc (.cells #[.slice AT L.length cT] 28) = w3 := ⟨_, rfl⟩
 have hbw3 : Below w2.heap.size w2 w3 := by rw [← hw3]; exact (Below.refl _ _).alloc (Nat.le_refl _) _
 have HGw3 := Lib.hid (show w3.heap.size = w2.heap.size + 1 by rw [← hw3]; simp)
 have HXtw3 := Lib.hid (show BoxL w3 w2.heap.size [.slice AT L.length cT] from box_mk hw3)
 try simp only [hw3]
 have HSTEPw3 := Lib.hid hbw3
 have HSw3 := Lib.hid (show w2.heap.size ≤ w3.heap.size from hbw3.size)
 have HBw3 := Lib.hid (HBw2.out.trans (hbw3.mono HBw2.out.size))
 clear hw3 hbw3
 try rw [show w2.heap.size + 1 = w3.heap.size from HGw3.out.symm]
 have HIN3 := Lib.hid (show TreeIn w3 w.heap.size (fun x => w1.heap.size ≤ x ∧ x < w2.heap.size) AT cT L from ⟨HIN.out.sl.below (HSTEPw3.out) (fun x hx => hx.2), HIN.out.ne, fun x hx => by have := HGw3.out; have := hx.2; omega⟩)
 have HTP3 := Lib.hid (HTP.out.kept (grown_none HSTEPw3.out) (fun e => by cases e) (fun g e => by cases e))
 clear HIN HTP
 have ct0 := HXtw3.out.1 0 _ rfl
 clear ct0
 have HGY := Lib.hid (show w.heap.size < w2.heap.size by have := HGw1.out; have := HSB2.out; omega)
 have HXF := Lib.hid (show FreeS (fun x => x = w.heap.size) w3 AT cT L from HIN3.out.sl.free (fun x hx => ⟨HIN3.out.lt x hx, fun h => HIN3.out.ne x hx h⟩))
 refine wp_region_held_drew (S := fun w' => BoxL w' (w2.heap.size) [.slice AT L.length cT]) (by kernel_rfl) HXtw3.out.drew (fun hS0 => ?_)
 obtain ⟨wd, hwd⟩ : ∃ z, World.drew w3 = z := ⟨_, rfl⟩
 rw [hwd] at hS0 ⊢
 have hb_ : Below w3.heap.size w3 wd := by rw [← hwd]; exact below_drewN_self _ _ 1
 clear hwd hS0
 have HSwd := Lib.hid (show w3.heap.size ≤ wd.heap.size from hb_.size)
 have HBwd := Lib.hid (HBw3.out.trans (hb_.mono HBw3.out.size))
 have twd := Lib.hid (HXtw3.out.kept (grown_none hb_) (fun e => by cases e))
 have HTPwd := Lib.hid (HTP3.out.kept (grown_none hb_) (fun e => by cases e) (fun g e => by cases e))
 have HXFwd := Lib.hid (HXF.out.below hb_)
 clear hb_
 refine wpAnyH_take (i := 0) (oi := ⟨some 14, _, _, _, _, _⟩) (v := .agg #[.slice AT L.length cT]) rfl (by kernel_rfl) (by kernel_rfl) (by kernel_rfl) (fun _ _ _ h => h) (Or.inl ⟨by rfl, fun w' hS => by (have u0_ := hS.1 0 _ rfl; go_simp)⟩) twd.out ?_
 try simp only [Act.put, List.setIfInBounds_toArray, List.set_cons_zero, List.set_cons_succ]
 refine wpAnyH_take (i := 1) (oi := ⟨some 15, _, _, _, _, _⟩) (v := .pointer (some ⟨w.heap.size, 0, none⟩)) rfl (by kernel_rfl) (by kernel_rfl) (by kernel_rfl) (fun _ _ _ h => h) (Or.inl ⟨by rfl, fun w' hS => by go_simp⟩) twd.out ?_
 try simp only [Act.put, List.setIfInBounds_toArray, List.set_cons_zero, List.set_cons_succ]
 refine wpAnyH_take (i := 2) (oi := ⟨some 16, _, _, _, _, _⟩) (v := .agg #[.slice AT L.length cT]) rfl (by kernel_rfl) (by kernel_rfl) (by kernel_rfl) (fun _ _ _ h => h) (Or.inl ⟨by rfl, fun w' hS => by (have u0_ := hS.1 0 _ rfl; go_simp)⟩) twd.out ?_
 try simp only [Act.put, List.setIfInBounds_toArray, List.set_cons_zero, List.set_cons_succ]
 refine wpAnyH_ready (rs := [3]) (by kernel_rfl) (by simp) ?_
 refine AllReadyH.cons (o := ⟨some 17, .call ⟨_, _, _⟩, _, _, _, _⟩) rfl (fun K hK => ?_) AllReadyH.nil
 go_simp
 go_at_call 16
 refine (Some_any xs k1 w.heap.size w.heap.size AT cT L _ wd (by have := HK1.out; omega) HTPwd.out ⟨HXFwd.out, fun x hx h => hx.2 h, fun x hx => hx.1⟩ (fun d hd => (HVT.out.small d hd).2) (by have := HLN.out; omega)).mono ?_
 rintro e' wt ⟨n, k2, rfl, hn_, hk2_, ht_, hg_⟩
 have HBwt := Lib.hid (HBwd.out.grown hg_ HBwd.out.size (fun q hq => by have := Option.some.inj hq; omega))
 have HTPwt := Lib.hid ht_
 have twt := Lib.hid (twd.out.kept hg_ (fun e => by have := Option.some.inj e; have := HGY.out; omega))
 have HXFwt := Lib.hid (HXFwd.out.grown hg_ (.inl rfl))
 have HN := Lib.hid (show okI n by unfold okI; omega)
 clear hn_ hk2_
 clear hg_ ht_
 refine hK.out _ _ twt.out (fun _ => ?_)
 clear hK K
 try simp only [Act.put, List.setIfInBounds_toArray, List.set_cons_zero, List.set_cons_succ]
 obtain ⟨lb, hlb⟩ : ∃ z, baseL L n = z := ⟨_, rfl⟩
 have HLB := Lib.hid hlb; clear hlb
 refine wpAnyH_ready (rs := [4]) (by kernel_rfl) (by simp) ?_
 refine AllReadyH.cons (o := ⟨some 18, .call ⟨_, _, _⟩, _, _, _, _⟩) rfl (fun K hK => ?_) AllReadyH.nil
 go_simp
 go_at_call 14
 refine (Base_any AT cT L n _ _ (Nat.le_refl _) HXFwt.out.out HVT.out (H7.out.below HBwt.out) (HOK.out.next HBwt.out) HN.out).mono ?_
 rintro e' wb ⟨hb_, A5, c5, rfl, hs_⟩
 rw [HLB.out] at hs_ ⊢
 have hl1 := hs_.1; have hl2 := hs_.2.1
 unfold maxLen at hl2
 have HSwb := Lib.hid (show wt.heap.size ≤ wb.heap.size from hb_.size)
 have HBwb := Lib.hid (HBwt.out.trans (hb_.mono HBwt.out.size))
 have twb := Lib.hid (twt.out.kept (grown_none hb_) (fun e => by cases e))
 have HTPwb := Lib.hid (HTPwt.out.kept (grown_none hb_) (fun e => by cases e) (fun g e => by cases e))
 have HXFwb := Lib.hid (HXFwt.out.below hb_)
 have HS5 := Lib.hid hs_; clear hs_ hb_
 refine hK.out _ _ twb.out (fun _ => ?_)
 clear hK K
 try simp only [Act.put, List.setIfInBounds_toArray, List.set_cons_zero, List.set_cons_succ]
 refine wpAnyH_take (i := 5) (oi := ⟨some 7, _, _, _, _, _⟩) (v := .slice A5 lb.length c5) rfl (by kernel_rfl) (by kernel_rfl) (by kernel_rfl) (fun _ _ _ h => h) (Or.inl ⟨by rfl, fun w' hS => by go_simp⟩) twb.out ?_
 try simp only [Act.put, List.setIfInBounds_toArray, List.set_cons_zero, List.set_cons_succ]
 refine wpAnyH_done (by kernel_rfl) ?_ _
 have HKEY := Lib.hid (show ∀ a ∈ lb, baseK a.name = true from fun a ha => by rw [← HLB.out] at ha; exact List.any_eq_true.2 ⟨_, base_mem ha, decide_eq_true rfl⟩)
 go_wp2_with fail
 go_loopw [8] (fun i wr => ∃ k : Nat, k ≤ lb.length ∧ i = .int .i64 (k : Int) ∧ Hid (Below wb.heap.size wb wr)) (fun i _ => lb.length - (intOf i).toNat)
 case atStart => exact ⟨0, Nat.zero_le _, rfl, Below.refl _ _⟩
 case round =>
  obtain ⟨k, hk, rfl, HBR⟩ := hrel
  have HBwr := Lib.hid (HBwb.out.trans (HBR.out.mono HBwb.out.size))
  by_cases hlt : k < lb.length
  ·
   have i1 : (k : Int) < (lb.length : Int) := by omega
   obtain ⟨b5, o5, rfl, -, -, a0, -⟩ := Sl.attr (HS5.out.next (Nat.le_refl _) HBR.out) hlt
   have hkey := HKEY.out _ (List.getElem_mem hlt)
   obtain ⟨nk, hnk⟩ : ∃ z, (lb[k]'hlt).name = z := ⟨_, rfl⟩
   rw [hnk] at a0 hkey
   have HKK := Lib.hid hkey; have HLT := Lib.hid hlt; clear hnk hkey
   go_wp2_with fail
   refine (BKey_any nk _).mono ?_
   rintro e w4 ⟨rfl, hbw4⟩
   have HSw4 := Lib.hid (show wr.heap.size ≤ w4.heap.size from hbw4.size)
   have HBw4 := Lib.hid (HBwr.out.trans (hbw4.mono HBwr.out.size))
   have HBRw4 := Lib.hid (below_onto HBR.out hbw4)
   clear hbw4
   rw [HKK.out]
   go_wp2
   go_roundw
   case rel => exact ⟨k + 1, by have := HLT.out; omega, by go_num, HBRw4⟩
   case measure => have := HLT.out; simp [intOf]; omega
  ·
   have i1 : ¬ (k : Int) < (lb.length : Int) := by omega
   go_wp2_with fail
   refine (BKey_any key _).mono ?_
   rintro e w5 ⟨rfl, hbw5⟩
   have HSw5 := Lib.hid (show wr.heap.size ≤ w5.heap.size from hbw5.size)
   have HBw5 := Lib.hid (HBwr.out.trans (hbw5.mono HBwr.out.size))
   have HBRw5 := Lib.hid (below_onto HBR.out hbw5)
   clear hbw5
   obtain ⟨z, hz⟩ : ∃ z, baseK key = z := ⟨_, rfl⟩
   rw [hz]
   have HZ := Lib.hid hz; clear hz
   go_wp2_with fail
   refine (RBKey_any key _).mono ?_
   rintro e w9 ⟨rfl, hw_⟩
   rw [hw_, HZ.out]; clear hw_ w9
   have hzz : (z == z) = true := by simp
   go_wp2_with fail
   refine (known_any _ (HOK.out.next HBw5.out) (H7.out.below HBw5.out) (Ok8.below HK8.out HBw5.out) (HU.out.below HBw5.out)).mono ?_
   rintro e w6 ⟨rfl, hbw6⟩
   have HSw6 := Lib.hid (show w5.heap.size ≤ w6.heap.size from hbw6.size)
   have HBw6 := Lib.hid (HBw5.out.trans (hbw6.mono HBw5.out.size))
   have HBRw6 := Lib.hid (below_onto HBRw5.out hbw6)
   clear hbw6
   go_wp2
   go_ret
   exact ⟨by try rfl, HBw6.out⟩
end Go.Proofs.YtjgllhlilbchpaaGreatDoor
namespace Go.Proofs.YtjgllhlilbchpaaGreatDoor
open Go.RowKit Go.Cold
namespace cBuiltinKeys
open Go.ChangeShapes Go.WideShapes Go.ChangeAt
open Go.ChangeMaps (open_string)
set_option maxRecDepth 100000
theorem reads (os : Os) {H : Type} (enc : TypeId × Value → H) : ∃ places, DataW.whole enc Tryz.prog ((World.laidAll Tryz.prog os Rows.builtinKeysRow.laid).forCall (fun _ _ => 0) ⟨#[], #[.string ⟨#[]⟩, .slice none 0 0], []⟩).memory Tryz.f4.params.toList Rows.builtinKeysSpec.vars false (#[.string ⟨#[]⟩, .slice none 0 0] : Array Value).toList 8 = some ([.lit (.string []), .nil], [], places) :=
 ⟨[], by kernel_rfl⟩
theorem lifted (os : Os) (started : os.Started) (H : Type) (enc : TypeId × Value → H) (F : Stop.Interp) :
  ReturnsInHanded {} Tryz.checked os 4 .any ((OpenSpec.ofChange Rows.builtinKeysSpec).preRow enc Tryz.prog Tryz.f4 Rows.builtinKeysRow.domain false Rows.builtinKeysRow.laid) (((OpenSpec.ofChange Rows.builtinKeysSpec).at F).post enc Tryz.prog Tryz.f4 false true false false) := by
 obtain ⟨places, hx⟩ := reads os enc
 refine law_lifted os started H enc F (by kernel_rfl) Tryz.func4 #[.string ⟨#[]⟩, .slice none 0 0] (World.shaped_of_ZipB (by kernel_rfl) (by kernel_rfl)) (by kernel_rfl)
  (OpenSpec.preRow_of_cond 8 hx (by kernel_rfl) (fun k hk => by cases hk) (by kernel_rfl) (laidMet_laidAll _ (by kernel_rfl) (by kernel_rfl))) rfl rfl
  (fun ds hl => by
   rw [Tryz.params4] at hl
   match ds, hl with
   | [d0, d1], _ => rfl) (by kernel_rfl) ?_
 intro W base args ds ps hval hA hlt hz hsh hlaid
 rw [Tryz.params4] at hA hval
 obtain ⟨v0, vs0, d0, ds0, p0, q0, hargs, rfl, rfl, h0, r0⟩ := trodAll_cons hA
 obtain ⟨v1, vs1, d1, ds1, p1, q1, rfl, rfl, rfl, h1, r1⟩ := trodAll_cons r0
 obtain ⟨rfl, rfl, rfl⟩ := trodAll_nil r1
 obtain rfl : args = #[v0, v1] := by cases args; simp_all
 obtain ⟨a0, rfl, rfl, rfl, w0⟩ := open_string Tryz.underlying9 (hval 0 9 v0 rfl rfl) h0
 obtain ⟨A1, c1, xs1, rfl, s1⟩ := open_nums Tryz.underlying22 Tryz.underlying3 (by kernel_rfl) (hval 1 22 v1 rfl rfl) h1 (fun x hx => hlt x (List.mem_append_right _ (List.mem_append_left _ hx)))
 exact lawKeys11_any a0 A1 c1 xs1 W (show Ok W from Tryz.laysM146.s1_3 W hsh) (okb7 hlaid).1 (okb7 hlaid).2 s1
theorem said : Rows.BuiltinKeysSaid :=
 OpenClaim.holds_of_cond 4 Tryz.f4 rfl rfl rfl rfl rfl rfl rfl ⟨rfl, rfl, rfl, rfl, rfl⟩ rfl rfl rfl rfl rfl (by kernel_rfl) Tryz.func4 (by kernel_rfl)
  (of_decide_eq_true (by kernel_rfl)) (by unfold Func.isWrapper; first | (rw [if_pos (by decide +kernel)]; kernel_rfl) | (rw [if_neg (by decide +kernel)]; exact ⟨rfl, rfl⟩))
  (fun os started H enc _ F => by rw [OpenClaim.pre_eq_preRow]; exact lifted os started H enc F)
theorem plain (f : FuncId) (fn : Func) (hf : Tryz.pinned.checked.prog.funcNamed Rows.builtinKeysRow.func = some f) (hfn : Tryz.pinned.checked.prog.funcs[f]? = some fn) :
  true = Tryz.pinned.checked.prog.looks [] ∧ ∀ (j : Nat) t, fn.params[j]? = some t → Tryz.pinned.checked.prog.wantsStandIn t = false := by
 obtain rfl : f = 4 := Option.some.inj ((show Tryz.prog.funcNamed Rows.builtinKeysRow.func = some 4 by kernel_rfl).symm.trans hf) |>.symm
 obtain rfl : fn = Tryz.f4 := (Option.some.inj (Tryz.func4.symm.trans hfn)).symm
 refine ⟨by kernel_rfl, fun j t ht => ?_⟩
 rw [Tryz.params4] at ht
 have hm : t ∈ [9, 22] := by simpa using Array.mem_of_getElem? ht
 have hall : ([9, 22].all fun u => !Tryz.prog.wantsStandIn u) = true := by kernel_rfl
 exact (show Tryz.prog.wantsStandIn t = false by simpa using List.all_eq_true.1 hall t hm)
/-- The card. -/
theorem card : Rows.BuiltinKeysCardSaid :=
 Claim7.holds_tied_plain_at .later [] _ _ _ _ said (fun _ h => by cases h) (by kernel_rfl) (fun _ h => by cases h) builtinKeys_row_tie rfl ⟨rfl, rfl⟩ (by kernel_rfl) rfl plain (by kernel_rfl)
end cBuiltinKeys
end Go.Proofs.YtjgllhlilbchpaaGreatDoor
