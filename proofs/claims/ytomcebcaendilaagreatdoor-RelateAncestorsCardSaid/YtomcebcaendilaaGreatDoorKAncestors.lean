/-
  RelateAncestors: row and card.
 Conditions: those of the given row and card (the listed variables of the library hold what the text lays), nothing else.
-/
import Derived.Test.YtomcebcaendilaaGreatDoorHRH
import Derived.Test.YtomcebcaendilaaGreatDoorHRG
import Derived.Test.YtomcebcaendilaaGreatDoorHL
import Derived.Test.YtomcebcaendilaaGreatDoorHRA
import Derived.Test.YtomcebcaendilaaGreatDoorHM
import Derived.ShutString
set_option linter.unusedSimpArgs false
set_option linter.unusedVariables false
namespace Go.Proofs.YtomcebcaendilaaGreatDoor
open Go.RowKit Go.Cold
set_option maxRecDepth 100000 in
set_option maxHeartbeats 8000000 in
theorem lawAncestors_any (a b : ByteArray) (w : World) (hok : Ok w) (hoa : OkA w) (ha : a.size ≤ 140737488351232) (hb : b.size ≤ 140737488351232) :
  Calls Tryz.prog 3 #[.string a, .string b] w fun e w' => e = .returned (.bool true) ∧ Below w.heap.size w w' := by
 have HOK := Lib.hid hok; have HOA := Lib.hid hoa; have hwr : IntKind.i64.wrap ((a.size : Int) + (b.size : Int)) = (a.size : Int) + (b.size : Int) := IntWalk.i64_in _ (by omega)
 clear hok hoa
 go_enter Tryz.func3, Tryz.ntmps3
 by_cases hr : 2000 < a.size + b.size
 ·
  have i0 : (2000 : Int) < (a.size : Int) + (b.size : Int) := by omega
  go_wp2_with fail
  refine (known_any _ HOK.out HOA.out).mono ?_
  rintro e w' ⟨rfl, hb⟩
  go_wp2
  go_ret
  exact ⟨by try rfl, hb⟩
 have i0 : ¬ (2000 : Int) < (a.size : Int) + (b.size : Int) := by omega
 have HA := Lib.hid (show a.size ≤ 2000 by omega); have HB := Lib.hid (show b.size ≤ 2000 by omega)
 have hadd : ¬ 9223372036854775807 < a.size + 2 := by omega
 have HAX := Lib.hid (show (a ++ ⟨#[47, 120]⟩ : ByteArray).size ≤ 2002 by rw [ByteArray.size_append]; have := HA.out; show a.size + 2 ≤ 2002; omega)
 clear ha hb hr
 obtain ⟨ax, hax⟩ : ∃ z, a ++ (⟨#[47, 120]⟩ : ByteArray) = z := ⟨_, rfl⟩
 rw [hax] at HAX
 go_wp2_with fail
 refine (Ancestor_any a b _ (by have := HA.out; omega) (by have := HB.out; omega) HOK.out).mono ?_
 rintro e w1 ⟨rfl, hbw1⟩
 have HSw1 := Lib.hid (show w.heap.size ≤ w1.heap.size from hbw1.size)
 have HBw1 := Lib.hid hbw1
 clear hbw1
 have hs1 := anc_same a b
 obtain ⟨z1, hz1⟩ : ∃ z, underP a b = z := ⟨_, rfl⟩
 rw [hz1] at hs1 ⊢
 have HS1 := Lib.hid hs1.symm; clear hs1 hz1
 go_wp2_with fail
 refine (RAncestor_any a b _ (by have := HA.out; omega) (by have := HB.out; omega) (HOK.out.next HBw1.out)).mono ?_
 rintro e w2 ⟨rfl, hbw2⟩
 have HSw2 := Lib.hid (show w1.heap.size ≤ w2.heap.size from hbw2.size)
 have HBw2 := Lib.hid (HBw1.out.trans (hbw2.mono HBw1.out.size))
 clear hbw2
 rw [HS1.out]
 have hzz1 : (z1 == z1) = true := by cases z1 <;> rfl
 go_wp2_with fail
 refine (Ancestor_any a ax _ (by have := HA.out; omega) (by have := HAX.out; omega) (HOK.out.next HBw2.out)).mono ?_
 rintro e w3 ⟨rfl, hbw3⟩
 have HSw3 := Lib.hid (show w2.heap.size ≤ w3.heap.size from hbw3.size)
 have HBw3 := Lib.hid (HBw2.out.trans (hbw3.mono HBw2.out.size))
 clear hbw3
 have hs2 := anc_same a ax
 obtain ⟨z2, hz2⟩ : ∃ z, underP a ax = z := ⟨_, rfl⟩
 rw [hz2] at hs2 ⊢
 have HS2 := Lib.hid hs2.symm; clear hs2 hz2
 go_wp2_with fail
 refine (RAncestor_any a ax _ (by have := HA.out; omega) (by have := HAX.out; omega) (HOK.out.next HBw3.out)).mono ?_
 rintro e w4 ⟨rfl, hbw4⟩
 have HSw4 := Lib.hid (show w3.heap.size ≤ w4.heap.size from hbw4.size)
 have HBw4 := Lib.hid (HBw3.out.trans (hbw4.mono HBw3.out.size))
 clear hbw4
 rw [HS2.out]
 have hzz2 : (z2 == z2) = true := by cases z2 <;> rfl
 go_wp2_with fail
 refine (Ancestor_any a a _ (by have := HA.out; omega) (by have := HA.out; omega) (HOK.out.next HBw4.out)).mono ?_
 rintro e w5 ⟨rfl, hbw5⟩
 have HSw5 := Lib.hid (show w4.heap.size ≤ w5.heap.size from hbw5.size)
 have HBw5 := Lib.hid (HBw4.out.trans (hbw5.mono HBw4.out.size))
 clear hbw5
 rw [under_none]
 go_wp2_with fail
 refine (known_any _ (HOK.out.next HBw5.out) (HOA.out.next HBw5.out)).mono ?_
 rintro e w6 ⟨rfl, hbw6⟩
 have HSw6 := Lib.hid (show w5.heap.size ≤ w6.heap.size from hbw6.size)
 have HBw6 := Lib.hid (HBw5.out.trans (hbw6.mono HBw5.out.size))
 clear hbw6
 go_wp2
 go_ret
 exact ⟨by try rfl, HBw6.out⟩
end Go.Proofs.YtomcebcaendilaaGreatDoor
namespace Go.Proofs.YtomcebcaendilaaGreatDoor
open Go.RowKit Go.Cold
namespace cRelateAncestors
open Go.ChangeShapes Go.WideShapes Go.ChangeAt
open Go.ChangeMaps (open_string)
set_option maxRecDepth 100000
theorem reads (os : Os) {H : Type} (enc : TypeId × Value → H) : ∃ places, DataW.whole enc Tryz.prog ((World.laidAll Tryz.prog os Rows.relateAncestorsRow.laid).forCall (fun _ _ => 0) ⟨#[], #[.string ⟨#[]⟩, .string ⟨#[]⟩], []⟩).memory Tryz.f3.params.toList Rows.relateAncestorsSpec.vars false (#[.string ⟨#[]⟩, .string ⟨#[]⟩] : Array Value).toList 8 = some ([.lit (.string []), .lit (.string [])], [], places) :=
 ⟨[], by kernel_rfl⟩
theorem lifted (os : Os) (started : os.Started) (H : Type) (enc : TypeId × Value → H) (F : Stop.Interp) :
  ReturnsInHanded {} Tryz.checked os 3 .any ((OpenSpec.ofChange Rows.relateAncestorsSpec).preRow enc Tryz.prog Tryz.f3 Rows.relateAncestorsRow.domain false Rows.relateAncestorsRow.laid) (((OpenSpec.ofChange Rows.relateAncestorsSpec).at F).post enc Tryz.prog Tryz.f3 false true false false) := by
 obtain ⟨places, hx⟩ := reads os enc
 refine law_lifted os started H enc F (by kernel_rfl) Tryz.func3 #[.string ⟨#[]⟩, .string ⟨#[]⟩] (World.shaped_of_ZipB (by kernel_rfl) (by kernel_rfl)) (by kernel_rfl)
  (OpenSpec.preRow_of_cond 8 hx (by kernel_rfl) (fun k hk => by cases hk) (by kernel_rfl) (laidMet_laidAll _ (by kernel_rfl) (by kernel_rfl))) rfl rfl
  (fun ds hl => by
   rw [Tryz.params3] at hl
   match ds, hl with
   | [d0, d1], _ => rfl) (by kernel_rfl) ?_
 intro W base args ds ps hval hA hlt hz hsh hlaid
 rw [Tryz.params3] at hA hval
 obtain ⟨v0, vs0, d0, ds0, p0, q0, hargs, rfl, rfl, h0, r0⟩ := trodAll_cons hA
 obtain ⟨v1, vs1, d1, ds1, p1, q1, rfl, rfl, rfl, h1, r1⟩ := trodAll_cons r0
 obtain ⟨rfl, rfl, rfl⟩ := trodAll_nil r1
 obtain rfl : args = #[v0, v1] := by cases args; simp_all
 obtain ⟨a0, rfl, rfl, rfl, w0⟩ := open_string Tryz.underlying9 (hval 0 9 v0 rfl rfl) h0
 obtain ⟨a1, rfl, rfl, rfl, w1⟩ := open_string Tryz.underlying9 (hval 1 9 v1 rfl rfl) h1
 have hzz := hz
 rw [Tryz.params3] at hzz
 simp [DataW.weightsEach, DataW.weights, reachBytes] at hzz
 exact lawAncestors_any a0 a1 W (show Ok W from Tryz.laysM146.s1_3 W hsh) (oka_of_laid hlaid) (of_decide_eq_true hzz.1) (of_decide_eq_true hzz.2)
theorem said : Rows.RelateAncestorsSaid :=
 OpenClaim.holds_of_cond 3 Tryz.f3 rfl rfl rfl rfl rfl rfl rfl ⟨rfl, rfl, rfl, rfl, rfl⟩ rfl rfl rfl rfl rfl (by kernel_rfl) Tryz.func3 (by kernel_rfl)
  (of_decide_eq_true (by kernel_rfl)) (by unfold Func.isWrapper; first | (rw [if_pos (by decide +kernel)]; kernel_rfl) | (rw [if_neg (by decide +kernel)]; exact ⟨rfl, rfl⟩))
  (fun os started H enc _ F => by rw [OpenClaim.pre_eq_preRow]; exact lifted os started H enc F)
theorem plain (f : FuncId) (fn : Func) (hf : Tryz.pinned.checked.prog.funcNamed Rows.relateAncestorsRow.func = some f) (hfn : Tryz.pinned.checked.prog.funcs[f]? = some fn) :
  true = Tryz.pinned.checked.prog.looks [] ∧ ∀ (j : Nat) t, fn.params[j]? = some t → Tryz.pinned.checked.prog.wantsStandIn t = false := by
 obtain rfl : f = 3 := Option.some.inj ((show Tryz.prog.funcNamed Rows.relateAncestorsRow.func = some 3 by kernel_rfl).symm.trans hf) |>.symm
 obtain rfl : fn = Tryz.f3 := (Option.some.inj (Tryz.func3.symm.trans hfn)).symm
 refine ⟨by kernel_rfl, fun j t ht => ?_⟩
 rw [Tryz.params3] at ht
 have hm : t ∈ [9, 9] := by simpa using Array.mem_of_getElem? ht
 have hall : ([9, 9].all fun u => !Tryz.prog.wantsStandIn u) = true := by kernel_rfl
 exact (show Tryz.prog.wantsStandIn t = false by simpa using List.all_eq_true.1 hall t hm)
/-- The card. -/
theorem card : Rows.RelateAncestorsCardSaid :=
 Claim7.holds_tied_plain_at .later [] _ _ _ _ said (fun _ h => by cases h) (by kernel_rfl) (fun _ h => by cases h) relateAncestors_row_tie rfl ⟨rfl, rfl⟩ (by kernel_rfl) rfl plain (by kernel_rfl)
end cRelateAncestors
end Go.Proofs.YtomcebcaendilaaGreatDoor
