/-
  AssignBegins: row and card.
 Conditions: those of the given row and card (the listed variables of the library hold what the text lays), nothing else.
-/
import Derived.Test.YtjpoljlgkgmdkaaGreatDoorYVI
import Derived.Test.YtjpoljlgkgmdkaaGreatDoorYVJ
import Derived.Test.YtjpoljlgkgmdkaaGreatDoorYH
import Derived.ShutString
set_option linter.unusedSimpArgs false
set_option linter.unusedVariables false
namespace Go.Cold
open Go Go.RowKit Go.Proofs.YtjpoljlgkgmdkaaGreatDoor
theorem base_len (L : List Dev) (n : Int) : (baseL L n).length ≤ 64 := by
 unfold baseL
 cases findD L n with
 | none => simp
 | some d =>
  simp only
  refine Nat.le_trans (putAll_len _) ?_
  unfold baseP
  split <;> split <;> simp
end Go.Cold
namespace Go.Proofs.YtjpoljlgkgmdkaaGreatDoor
open Go.RowKit Go.Cold
set_option maxRecDepth 100000 in
set_option maxHeartbeats 8000000 in
theorem lawBegins13_any (A : Option Addr) (c : Nat) (xs : List Int) (w : World) (hok : Ok w) (h7 : Ok7 w) (hx : Sl w w.heap.size A c xs) :
  Calls Tryz.prog 5 #[.slice A xs.length c] w fun e w' => e = .returned (.bool true) ∧ Below w.heap.size w w' := by
 have HNG := Lib.hid (notG_of hok)
 have HOK := Lib.hid hok; have H7 := Lib.hid h7; have HX := Lib.hid hx; clear hok h7 hx
 go_enter Tryz.func5, Tryz.ntmps5
 go_upto_region 2 with fail
 have htape := tape_new HX.out
 obtain ⟨w1, hw1⟩ : ∃ z, w.alloc (.cells #[.slice A xs.length c, .int .i64 0] 25) = z := ⟨_, rfl⟩
 rw [hw1] at htape
 have hb1 : Below w.heap.size w w1 := by rw [← hw1]; exact (Below.refl _ _).alloc (Nat.le_refl _) _
 have HGw1 := Lib.hid (show w1.heap.size = w.heap.size + 1 by rw [← hw1]; simp)
 try simp only [hw1]
 have HTP := Lib.hid htape
 clear hw1 htape
 have HSw1 := Lib.hid (show w.heap.size ≤ w1.heap.size from hb1.size)
 have HBw1 := Lib.hid hb1
 clear hb1
 go_wp2_with fail
 refine (Tree_any xs 0 w.heap.size w.heap.size 5 w1 (by decide) HTP.out ⟨by decide, by decide⟩ (HOK.out.next HBw1.out) HNG.out).mono ?_
 rintro e w2 ⟨AT, cT, L, k1, rfl, hvt, hln, hsl, hk1, htp, hg2⟩
 have hb2 : Below w.heap.size w w2 := below_of_grown HBw1.out hg2 HBw1.out.size (Nat.le_refl _)
 have HVT := Lib.hid hvt; have HSL := Lib.hid (hsl.sl (B := w2.heap.size) (fun x hx => hx.2)); have HBw2 := Lib.hid hb2
 clear HTP hvt hln hsl hk1 htp hg2 hb2
 go_wp2_with fail
 refine (RBase_any AT cT L 1 w2 w2.heap.size (Nat.le_refl _) HSL.out HVT.out (H7.out.below HBw2.out) (HOK.out.next HBw2.out) (by unfold okI; decide)).mono ?_
 rintro e w3 ⟨hb, A5, c5, rfl, hs⟩
 have hbl := base_len L 1
 obtain ⟨bl, hbl_⟩ : ∃ z, baseL L 1 = z := ⟨_, rfl⟩
 rw [hbl_] at hs hbl ⊢
 have HS := Lib.hid hs; have HBL := Lib.hid hbl; clear hs hbl hbl_
 have HSw3 := Lib.hid (show w2.heap.size ≤ w3.heap.size from hb.size)
 have HBw3 := Lib.hid (HBw2.out.trans (hb.mono HBw2.out.size))
 clear hb
 go_wp2_with fail
 refine (Begin_any A5 c5 bl (fun _ => False) w3 (fun _ h => h.elim) HS.out.freeN (by have := HBL.out; omega)).mono ?_
 rintro e w4 ⟨hb, h0, rfl, hd⟩
 obtain ⟨d0, hd0⟩ : ∃ z, beginD bl = z := ⟨_, rfl⟩
 have HD0 := Lib.hid hd0
 rw [hd0] at hd ⊢
 clear hd0
 have HSw4 := Lib.hid (show w3.heap.size ≤ w4.heap.size from hb.size)
 have HBw4 := Lib.hid (HBw3.out.trans (hb.mono HBw3.out.size))
 have HSw4 := Lib.hid ((HS.out).next (Nat.le_refl _) hb)
 clear hb
 have HF0 := Lib.hid hd.sl; clear hd
 go_wp2_with fail
 refine (RBegin_any A5 c5 bl (fun _ => False) w4 (fun _ h => h.elim) HSw4.out.freeN (by have := HBL.out; omega)).mono ?_
 rintro e w5 ⟨hb, h1, rfl, hd⟩
 rw [HD0.out] at hd ⊢
 have HSw5 := Lib.hid (show w4.heap.size ≤ w5.heap.size from hb.size)
 have HBw5 := Lib.hid (HBw4.out.trans (hb.mono HBw4.out.size))
 have HSw5 := Lib.hid ((HSw4.out).next (Nat.le_refl _) hb)
 have HF0w5 := Lib.hid ((HF0.out).next (Nat.le_refl _) hb)
 clear hb
 have HF1 := Lib.hid hd.sl; clear hd
 go_wp2_with fail
 refine (SameDraft_same d0 h0 h1 _ HF0w5.out HF1.out).mono ?_
 rintro e w6 ⟨rfl, hbw6⟩
 have HSw6 := Lib.hid (show w5.heap.size ≤ w6.heap.size from hbw6.size)
 have HBw6 := Lib.hid (HBw5.out.trans (hbw6.mono HBw5.out.size))
 have HSw6 := Lib.hid ((HSw5.out).next (Nat.le_refl _) hbw6)
 have HF0w6 := Lib.hid ((HF0w5.out).next (Nat.le_refl _) hbw6)
 have HF1w6 := Lib.hid ((HF1.out).next (Nat.le_refl _) hbw6)
 clear hbw6
 go_wp2_with fail
 refine (known13_any _ (HOK.out.next HBw6.out) (H7.out.below HBw6.out)).mono ?_
 rintro e w_ ⟨rfl, hb_⟩
 have HBE := Lib.hid (below_next HBw6.out hb_); clear hb_
 go_wp2
 go_ret
 exact ⟨by try rfl, HBE.out⟩
end Go.Proofs.YtjpoljlgkgmdkaaGreatDoor
namespace Go.Proofs.YtjpoljlgkgmdkaaGreatDoor
open Go.RowKit Go.Cold
namespace cAssignBegins
open Go.ChangeShapes Go.WideShapes Go.ChangeAt
open Go.ChangeMaps (open_string)
set_option maxRecDepth 100000
theorem reads (os : Os) {H : Type} (enc : TypeId × Value → H) : ∃ places, DataW.whole enc Tryz.prog ((World.laidAll Tryz.prog os Rows.assignBeginsRow.laid).forCall (fun _ _ => 0) ⟨#[], #[.slice none 0 0], []⟩).memory Tryz.f5.params.toList Rows.assignBeginsSpec.vars false (#[.slice none 0 0] : Array Value).toList 8 = some ([.nil], [], places) :=
 ⟨[], by kernel_rfl⟩
theorem lifted (os : Os) (started : os.Started) (H : Type) (enc : TypeId × Value → H) (F : Stop.Interp) :
  ReturnsInHanded {} Tryz.checked os 5 .any ((OpenSpec.ofChange Rows.assignBeginsSpec).preRow enc Tryz.prog Tryz.f5 Rows.assignBeginsRow.domain false Rows.assignBeginsRow.laid) (((OpenSpec.ofChange Rows.assignBeginsSpec).at F).post enc Tryz.prog Tryz.f5 false true false false) := by
 obtain ⟨places, hx⟩ := reads os enc
 refine law_lifted os started H enc F (by kernel_rfl) Tryz.func5 #[.slice none 0 0] (World.shaped_of_ZipB (by kernel_rfl) (by kernel_rfl)) (by kernel_rfl)
  (OpenSpec.preRow_of_cond 8 hx (by kernel_rfl) (fun k hk => by cases hk) (by kernel_rfl) (laidMet_laidAll _ (by kernel_rfl) (by kernel_rfl))) rfl rfl
  (fun ds hl => by
   rw [Tryz.params5] at hl
   match ds, hl with
   | [d0], _ => rfl) (by kernel_rfl) ?_
 intro W base args ds ps hval hA hlt hz hsh hlaid
 rw [Tryz.params5] at hA hval
 obtain ⟨v0, vs0, d0, ds0, p0, q0, hargs, rfl, rfl, h0, r0⟩ := trodAll_cons hA
 obtain ⟨rfl, rfl, rfl⟩ := trodAll_nil r0
 obtain rfl : args = #[v0] := by cases args; simp_all
 obtain ⟨A0, c0, xs0, rfl, s0⟩ := open_nums Tryz.underlying22 Tryz.underlying3 (by kernel_rfl) (hval 0 22 v0 rfl rfl) h0 (fun x hx => hlt x (List.mem_append_left _ hx))
 exact lawBegins13_any A0 c0 xs0 W (show Ok W from Tryz.laysM146.s1_3 W hsh) (okf8 hlaid) s0
theorem said : Rows.AssignBeginsSaid :=
 OpenClaim.holds_of_cond 5 Tryz.f5 rfl rfl rfl rfl rfl rfl rfl ⟨rfl, rfl, rfl, rfl, rfl⟩ rfl rfl rfl rfl rfl (by kernel_rfl) Tryz.func5 (by kernel_rfl)
  (of_decide_eq_true (by kernel_rfl)) (by unfold Func.isWrapper; first | (rw [if_pos (by decide +kernel)]; kernel_rfl) | (rw [if_neg (by decide +kernel)]; exact ⟨rfl, rfl⟩))
  (fun os started H enc _ F => by rw [OpenClaim.pre_eq_preRow]; exact lifted os started H enc F)
theorem plain (f : FuncId) (fn : Func) (hf : Tryz.pinned.checked.prog.funcNamed Rows.assignBeginsRow.func = some f) (hfn : Tryz.pinned.checked.prog.funcs[f]? = some fn) :
  true = Tryz.pinned.checked.prog.looks [] ∧ ∀ (j : Nat) t, fn.params[j]? = some t → Tryz.pinned.checked.prog.wantsStandIn t = false := by
 obtain rfl : f = 5 := Option.some.inj ((show Tryz.prog.funcNamed Rows.assignBeginsRow.func = some 5 by kernel_rfl).symm.trans hf) |>.symm
 obtain rfl : fn = Tryz.f5 := (Option.some.inj (Tryz.func5.symm.trans hfn)).symm
 refine ⟨by kernel_rfl, fun j t ht => ?_⟩
 rw [Tryz.params5] at ht
 have hm : t ∈ [22] := by simpa using Array.mem_of_getElem? ht
 have hall : ([22].all fun u => !Tryz.prog.wantsStandIn u) = true := by kernel_rfl
 exact (show Tryz.prog.wantsStandIn t = false by simpa using List.all_eq_true.1 hall t hm)
theorem card : Rows.AssignBeginsCardSaid :=
 Claim7.holds_tied_plain_at .later [] _ _ _ _ said (fun _ h => by cases h) (by kernel_rfl) (fun _ h => by cases h) assignBegins_row_tie rfl ⟨rfl, rfl⟩ (by kernel_rfl) rfl plain (by kernel_rfl)
end cAssignBegins
end Go.Proofs.YtjpoljlgkgmdkaaGreatDoor
