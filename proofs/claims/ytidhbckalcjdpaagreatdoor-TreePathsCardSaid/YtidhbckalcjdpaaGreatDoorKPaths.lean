/-
  TreePaths: row and card.
  Conditions: those of the given row and card (the listed variables of the library hold what the text lays), nothing else.
-/
import Derived.Test.YtidhbckalcjdpaaGreatDoorGL
import Derived.Test.YtidhbckalcjdpaaGreatDoorGM
import Derived.ShutString
set_option linter.unusedSimpArgs false
set_option linter.unusedVariables false
namespace Go.Proofs.YtidhbckalcjdpaaGreatDoor
open Go.RowKit Go.Cold
set_option maxHeartbeats 4000000 in
set_option maxRecDepth 100000 in
theorem lawPaths_any (A : Option Addr) (c : Nat) (xs : List Int) (w : World) (hok : Ok w) (hx : Sl w w.heap.size A c xs) : Calls Tryz.prog 6 #[.slice A xs.length c] w fun e w' => e = .returned (.bool true) ∧ Below w.heap.size w w' := by
  have HOK := Lib.hid hok; have HX := Lib.hid hx; clear hok hx
  go_enter Tryz.func6, Tryz.ntmps6
  go_upto_region 2 with fail
  have htape := tape_new HX.out
  have HNG := Lib.hid (notG_of HOK.out)
  obtain ⟨w1, hw1⟩ : ∃ z, w.alloc (.cells #[.slice A xs.length c, .int .i64 0] 27) = z := ⟨_, rfl⟩
  rw [hw1] at htape
  have hb1 : Below w.heap.size w w1 := by rw [← hw1]; exact (Below.refl _ _).alloc (Nat.le_refl _) _
  have HGw1 := Lib.hid (show w1.heap.size = w.heap.size + 1 by rw [← hw1]; simp)
  try simp only [hw1]
  have HTAPE := Lib.hid htape
  clear hw1 htape
  have HSw1 := Lib.hid (show w.heap.size ≤ w1.heap.size from hb1.size)
  have HBw1 := Lib.hid hb1
  clear hb1
  go_wp2_with fail
  refine (Tree_any xs 0 w.heap.size w.heap.size 9 w1 (by decide) HTAPE.out ⟨by decide, by decide⟩ (HOK.out.next HBw1.out) HNG.out).mono ?_
  rintro e w2 ⟨AT, cT, L, k1, rfl, hvt, hln, hsl, hk1, htp, hg2⟩
  have hb2 : Below w.heap.size w w2 := below_of_grown HBw1.out hg2 HBw1.out.size (Nat.le_refl _)
  have HSB2 := Lib.hid (show w1.heap.size ≤ w2.heap.size from hg2.size)
  have hx1 := hsl.1; have hx2 := hsl.2.1
  unfold maxLen at hx2
  have hin : TreeIn w2 w.heap.size (fun x => w1.heap.size ≤ x ∧ x < w2.heap.size) AT cT L := ⟨hsl, fun x hx => by have := HGw1.out; omega, fun x hx => hx.2⟩
  have HVT := Lib.hid hvt; have HLN := Lib.hid (show L.length ≤ 9 by omega); have HIN := Lib.hid hin; have HK1 := Lib.hid hk1; have HTP := Lib.hid htp
  clear HTAPE hvt hln hsl hk1 htp hg2 hin
  have HBw2 := Lib.hid hb2
  clear hb2
  go_upto_region 3 with fail
  obtain ⟨w3, hw3⟩ : ∃ w3, w2.alloc (.cells #[.slice AT L.length cT] 29) = w3 := ⟨_, rfl⟩
  have hbw3 : Below w2.heap.size w2 w3 := by rw [← hw3]; exact (Below.refl _ _).alloc (Nat.le_refl _) _
  have HGw3 := Lib.hid (show w3.heap.size = w2.heap.size + 1 by rw [← hw3]; simp)
  have HXtw3 := Lib.hid (show BoxL w3 w2.heap.size [.slice AT L.length cT] from box_mk hw3)
  try simp only [hw3]
  have HSTEPw3 := Lib.hid hbw3
  have HSw3 := Lib.hid (show w2.heap.size ≤ w3.heap.size from hbw3.size)
  have HBw3 := Lib.hid (HBw2.out.trans (hbw3.mono HBw2.out.size))
  clear hw3 hbw3
  try rw [show w2.heap.size + 1 = w3.heap.size from HGw3.out.symm]
  have HIN3 := Lib.hid (show TreeIn w3 w.heap.size (fun x => w1.heap.size ≤ x ∧ x < w2.heap.size) AT cT L from ⟨HIN.out.sl.below (HSTEPw3.out) (fun x hx => hx.2), HIN.out.ne, fun x hx => by have := HGw3.out; have := hx.2; omega⟩)
  have HTP3 := Lib.hid (HTP.out.kept (grown_none HSTEPw3.out) (fun e => by cases e) (fun g e => by cases e))
  clear HIN HTP
  have ct0 := HXtw3.out.1 0 _ rfl
  go_wp2_with fail
  refine (Some_any xs k1 w.heap.size w.heap.size AT cT L _ w3 (by have := HK1.out; omega) HTP3.out HIN3.out (fun d hd => (HVT.out.small d hd).2) (by have := HLN.out; omega)).mono ?_
  rintro e w4 ⟨n, k2, rfl, hn, hk2, htp, hg4⟩
  clear ct0
  have hb4 : Below w.heap.size w w4 := HBw3.out.grown hg4 HBw3.out.size (fun q hq => by have := Option.some.inj hq; omega)
  have HSw4 := Lib.hid hg4.size
  have HIN4 := Lib.hid (HIN3.out.tape hg4)
  have HTP4 := Lib.hid htp
  have HBw4 := Lib.hid hb4
  have HXtw4 := Lib.hid (HXtw3.out.kept hg4 (fun e => by have := Option.some.inj e; have := HGw1.out; have := HSB2.out; omega))
  have HN := Lib.hid (show okI n by unfold okI; omega)
  have HNR := Lib.hid hn
  have HK2 := Lib.hid hk2
  clear hb4 htp hg4 hn hk2 HIN3 HTP3
  have HSL := Lib.hid HIN4.out.out
  have ct0 := HXtw4.out.1 0 _ rfl
  have HSML := Lib.hid (show ∀ d ∈ L, d.orig.size ≤ 32 from fun d hd => (HVT.out.small d hd).1)
  obtain ⟨q, hq⟩ : ∃ q, (idxs L).contains n = q := ⟨_, rfl⟩
  obtain ⟨s1, hs1⟩ : ∃ s, strF L n = s := ⟨_, rfl⟩
  obtain ⟨s2, hs2⟩ : ∃ s, pthF (chainO L n) = s := ⟨_, rfl⟩
  have HQ := Lib.hid hq; have HS1 := Lib.hid hs1; have HS2 := Lib.hid hs2
  clear hq hs1 hs2
  go_wp2_with fail
  refine (Origin_any AT cT L n _ _ (Nat.le_refl _) HSL.out HSML.out (by have := HLN.out; omega) HN.out).mono ?_
  rintro e w5 ⟨rfl, hbw5⟩
  clear ct0
  have HSw5 := Lib.hid (show w4.heap.size ≤ w5.heap.size from hbw5.size)
  have HBw5 := Lib.hid (HBw4.out.trans (hbw5.mono HBw4.out.size))
  have tw5 := Lib.hid (HXtw4.out.kept (grown_none hbw5) (fun e => by cases e))
  have HSLw5 := Lib.hid (HSL.out.next (Nat.le_refl _) hbw5)
  clear hbw5
  have ct0 := tw5.out.1 0 _ rfl
  rw [HQ.out, HS1.out]
  go_wp2_with fail
  refine (Path_any AT cT L n _ _ (Nat.le_refl _) HSLw5.out HVT.out HN.out).mono ?_
  rintro e w6 ⟨rfl, hbw6⟩
  clear ct0
  have HSw6 := Lib.hid (show w5.heap.size ≤ w6.heap.size from hbw6.size)
  have HBw6 := Lib.hid (HBw5.out.trans (hbw6.mono HBw5.out.size))
  have tw6 := Lib.hid (tw5.out.kept (grown_none hbw6) (fun e => by cases e))
  have HSLw6 := Lib.hid (HSLw5.out.next (Nat.le_refl _) hbw6)
  clear hbw6
  have ct0 := tw6.out.1 0 _ rfl
  rw [pth_has HVT.out, HQ.out, HS2.out]
  go_wp2_with fail
  refine (RFind_any AT cT L n _ _ (Nat.le_refl _) HSLw6.out).mono ?_
  rintro e w7 ⟨hbw7, d, A2, c2, -, rfl, -, -⟩
  clear ct0
  have HSw7 := Lib.hid (show w6.heap.size ≤ w7.heap.size from hbw7.size)
  have HBw7 := Lib.hid (HBw6.out.trans (hbw7.mono HBw6.out.size))
  have tw7 := Lib.hid (tw6.out.kept (grown_none hbw7) (fun e => by cases e))
  have HSLw7 := Lib.hid (HSLw6.out.next (Nat.le_refl _) hbw7)
  clear hbw7
  have ct0 := tw7.out.1 0 _ rfl
  rw [find_has, HQ.out]
  go_upto_region 7 with fail
  obtain ⟨w8, hw8⟩ : ∃ w8, w7.alloc (.cells #[.int .i64 d.idx, .int .i64 d.par, .string d.nm, .string d.orig, .string d.sub, .string d.drv, .string d.ali, .int .i64 d.kind, .int .i64 d.num, .slice A2 d.attrs.length c2] 34) = w8 := ⟨_, rfl⟩
  have hbw8 : Below w7.heap.size w7 w8 := by rw [← hw8]; exact (Below.refl _ _).alloc (Nat.le_refl _) _
  have HGw8 := Lib.hid (show w8.heap.size = w7.heap.size + 1 by rw [← hw8]; simp)
  have HXdw8 := Lib.hid (show BoxL w8 w7.heap.size [.int .i64 d.idx, .int .i64 d.par, .string d.nm, .string d.orig, .string d.sub, .string d.drv, .string d.ali, .int .i64 d.kind, .int .i64 d.num, .slice A2 d.attrs.length c2] from box_mk hw8)
  try simp only [hw8]
  have HSTEPw8 := Lib.hid hbw8
  have HSw8 := Lib.hid (show w7.heap.size ≤ w8.heap.size from hbw8.size)
  have HBw8 := Lib.hid (HBw7.out.trans (hbw8.mono HBw7.out.size))
  have tw8 := Lib.hid (tw7.out.kept (grown_none hbw8) (fun e => by cases e))
  have HSLw8 := Lib.hid (HSLw7.out.next (Nat.le_refl _) hbw8)
  clear hw8 hbw8
  try rw [show w7.heap.size + 1 = w8.heap.size from HGw8.out.symm]
  clear ct0
  have ct0 := tw8.out.1 0 _ rfl
  go_wp2_with fail
  refine (RPlace_any AT cT L n _ _ (Nat.le_refl _) HSLw8.out HVT.out HN.out).mono ?_
  rintro e w9 ⟨rfl, hbw9⟩
  clear ct0
  have HSw9 := Lib.hid (show w8.heap.size ≤ w9.heap.size from hbw9.size)
  have HBw9 := Lib.hid (HBw8.out.trans (hbw9.mono HBw8.out.size))
  have tw9 := Lib.hid (tw8.out.kept (grown_none hbw9) (fun e => by cases e))
  have dw9 := Lib.hid (HXdw8.out.kept (grown_none hbw9) (fun e => by cases e))
  have HSLw9 := Lib.hid (HSLw8.out.next (Nat.le_refl _) hbw9)
  clear hbw9
  rw [HS1.out]
  have ct0 := tw9.out.1 0 _ rfl
  go_wp2_with fail
  refine (RPath_any AT cT L n _ _ (Nat.le_refl _) HSLw9.out HVT.out HN.out).mono ?_
  rintro e w10 ⟨rfl, hbw10⟩
  clear ct0
  have HSw10 := Lib.hid (show w9.heap.size ≤ w10.heap.size from hbw10.size)
  have HBw10 := Lib.hid (HBw9.out.trans (hbw10.mono HBw9.out.size))
  have tw10 := Lib.hid (tw9.out.kept (grown_none hbw10) (fun e => by cases e))
  have dw10 := Lib.hid (dw9.out.kept (grown_none hbw10) (fun e => by cases e))
  have HSLw10 := Lib.hid (HSLw9.out.next (Nat.le_refl _) hbw10)
  clear hbw10
  rw [HS2.out]
  have ct0 := tw10.out.1 0 _ rfl
  go_wp2_with fail
  refine (known_any _ (HOK.out.next HBw10.out)).mono ?_
  rintro e w11 ⟨rfl, hbw11⟩
  clear ct0
  have HSw11 := Lib.hid (show w10.heap.size ≤ w11.heap.size from hbw11.size)
  have HBw11 := Lib.hid (HBw10.out.trans (hbw11.mono HBw10.out.size))
  have tw11 := Lib.hid (tw10.out.kept (grown_none hbw11) (fun e => by cases e))
  have dw11 := Lib.hid (dw10.out.kept (grown_none hbw11) (fun e => by cases e))
  have HSLw11 := Lib.hid (HSLw10.out.next (Nat.le_refl _) hbw11)
  clear hbw11
  go_wp2
  go_ret
  exact ⟨by try rfl, HBw11.out⟩
end Go.Proofs.YtidhbckalcjdpaaGreatDoor
namespace Go.Proofs.YtidhbckalcjdpaaGreatDoor
open Go.RowKit Go.Cold
namespace cTreePaths
open Go.ChangeShapes Go.WideShapes Go.ChangeAt
open Go.ChangeMaps (open_string)
set_option maxRecDepth 100000
theorem reads (os : Os) {H : Type} (enc : TypeId × Value → H) : ∃ places, DataW.whole enc Tryz.prog ((World.laidAll Tryz.prog os Rows.treePathsRow.laid).forCall (fun _ _ => 0) ⟨#[], #[.slice none 0 0], []⟩).memory Tryz.f6.params.toList Rows.treePathsSpec.vars false (#[.slice none 0 0] : Array Value).toList 8 = some ([.nil], [], places) :=
  ⟨[], by kernel_rfl⟩
theorem lifted (os : Os) (started : os.Started) (H : Type) (enc : TypeId × Value → H) (F : Stop.Interp) :
    ReturnsInHanded {} Tryz.checked os 6 .any ((OpenSpec.ofChange Rows.treePathsSpec).preRow enc Tryz.prog Tryz.f6 Rows.treePathsRow.domain false Rows.treePathsRow.laid) (((OpenSpec.ofChange Rows.treePathsSpec).at F).post enc Tryz.prog Tryz.f6 false true false false) := by
  obtain ⟨places, hx⟩ := reads os enc
  refine law_lifted os started H enc F (by kernel_rfl) Tryz.func6 #[.slice none 0 0] (World.shaped_of_ZipB (by kernel_rfl) (by kernel_rfl)) (by kernel_rfl)
    (OpenSpec.preRow_of_cond 8 hx (by kernel_rfl) (fun k hk => by cases hk) (by kernel_rfl) (laidMet_laidAll _ (by kernel_rfl) (by kernel_rfl))) rfl rfl
    (fun ds hl => by
      rw [Tryz.params6] at hl
      match ds, hl with
      | [d0], _ => rfl) (by kernel_rfl) ?_
  intro W base args ds ps hval hA hlt hz hsh
  rw [Tryz.params6] at hA hval
  obtain ⟨v0, vs0, d0, ds0, p0, q0, hargs, rfl, rfl, h0, r0⟩ := trodAll_cons hA
  obtain ⟨rfl, rfl, rfl⟩ := trodAll_nil r0
  obtain rfl : args = #[v0] := by cases args; simp_all
  obtain ⟨A0, c0, xs0, rfl, s0⟩ := open_nums Tryz.underlying23 Tryz.underlying3 (by kernel_rfl) (hval 0 23 v0 rfl rfl) h0 (fun x hx => hlt x (List.mem_append_left _ hx))
  exact lawPaths_any A0 c0 xs0 W (ok_of_shape W hsh) s0
theorem said : Rows.TreePathsSaid :=
  OpenClaim.holds_of_cond 6 Tryz.f6 rfl rfl rfl rfl rfl rfl rfl ⟨rfl, rfl, rfl, rfl, rfl⟩ rfl rfl rfl rfl rfl (by kernel_rfl) Tryz.func6 (by kernel_rfl)
    (of_decide_eq_true (by kernel_rfl)) (by unfold Func.isWrapper; first | (rw [if_pos (by decide +kernel)]; kernel_rfl) | (rw [if_neg (by decide +kernel)]; exact ⟨rfl, rfl⟩))
    (fun os started H enc _ F => by rw [OpenClaim.pre_eq_preRow]; exact lifted os started H enc F)
theorem plain (f : FuncId) (fn : Func) (hf : Tryz.pinned.checked.prog.funcNamed Rows.treePathsRow.func = some f) (hfn : Tryz.pinned.checked.prog.funcs[f]? = some fn) :
    false = Tryz.pinned.checked.prog.looks [] ∧ ∀ (j : Nat) t, fn.params[j]? = some t → Tryz.pinned.checked.prog.wantsStandIn t = false := by
  obtain rfl : f = 6 := Option.some.inj ((show Tryz.prog.funcNamed Rows.treePathsRow.func = some 6 by kernel_rfl).symm.trans hf) |>.symm
  obtain rfl : fn = Tryz.f6 := (Option.some.inj (Tryz.func6.symm.trans hfn)).symm
  refine ⟨by kernel_rfl, fun j t ht => ?_⟩
  rw [Tryz.params6] at ht
  have hm : t ∈ [23] := by simpa using Array.mem_of_getElem? ht
  have hall : ([23].all fun u => !Tryz.prog.wantsStandIn u) = true := by kernel_rfl
  exact (show Tryz.prog.wantsStandIn t = false by simpa using List.all_eq_true.1 hall t hm)
/-- The card. -/
theorem card : Rows.TreePathsCardSaid :=
  Claim7.holds_tied_plain_at .later [] _ _ _ _ said (fun _ h => by cases h) (by kernel_rfl) (fun _ h => by cases h) treePaths_row_tie rfl ⟨rfl, rfl⟩ (by kernel_rfl) rfl plain (by kernel_rfl)
end cTreePaths
end Go.Proofs.YtidhbckalcjdpaaGreatDoor
