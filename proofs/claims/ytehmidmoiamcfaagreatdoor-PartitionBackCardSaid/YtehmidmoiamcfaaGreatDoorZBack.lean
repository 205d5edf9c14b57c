/-
  PartitionBack: row and card.
 Conditions: those of the given row and card (the listed variables of the library hold what the text lays), nothing else.
-/
import Derived.Test.YtehmidmoiamcfaaGreatDoorHTC
import Derived.Test.YtehmidmoiamcfaaGreatDoorHSH
import Derived.ShutString
set_option linter.unusedSimpArgs false
set_option linter.unusedVariables false
namespace Go.Proofs.YtehmidmoiamcfaaGreatDoor
open Go.RowKit Go.Cold
namespace cPartitionBack
open Go.ChangeShapes Go.WideShapes Go.ChangeAt
open Go.ChangeMaps (open_string)
set_option maxRecDepth 100000
theorem reads (os : Os) {H : Type} (enc : TypeId × Value → H) : ∃ places, DataW.whole enc Tryz.prog ((World.laidAll Tryz.prog os Rows.partitionBackRow.laid).forCall (fun _ _ => 0) ⟨#[], #[.string ⟨#[]⟩, .string ⟨#[]⟩, .int .i64 0], []⟩).memory Tryz.f4.params.toList Rows.partitionBackSpec.vars false (#[.string ⟨#[]⟩, .string ⟨#[]⟩, .int .i64 0] : Array Value).toList 8 = some ([.lit (.string []), .lit (.string []), .lit (.int .i64 0)], [], places) :=
 ⟨[], by kernel_rfl⟩
theorem lifted (os : Os) (started : os.Started) (H : Type) (enc : TypeId × Value → H) (F : Stop.Interp) :
  ReturnsInHanded {} Tryz.checked os 4 .any ((OpenSpec.ofChange Rows.partitionBackSpec).preRow enc Tryz.prog Tryz.f4 Rows.partitionBackRow.domain false Rows.partitionBackRow.laid) (((OpenSpec.ofChange Rows.partitionBackSpec).at F).post enc Tryz.prog Tryz.f4 false true false false) := by
 obtain ⟨places, hx⟩ := reads os enc
 refine law_lifted os started H enc F (by kernel_rfl) Tryz.func4 #[.string ⟨#[]⟩, .string ⟨#[]⟩, .int .i64 0] (World.shaped_of_ZipB (by kernel_rfl) (by kernel_rfl)) (by kernel_rfl)
  (OpenSpec.preRow_of_cond 8 hx (by kernel_rfl) (fun k hk => by cases hk) (by kernel_rfl) (laidMet_laidAll _ (by kernel_rfl) (by kernel_rfl))) rfl rfl
  (fun ds hl => by
   rw [Tryz.params4] at hl
   match ds, hl with
   | [d0, d1, d2], _ => rfl) (by kernel_rfl) ?_
 intro W base args ds ps hval hA hlt hz hsh hlaid
 rw [Tryz.params4] at hA hval
 obtain ⟨v0, vs0, d0, ds0, p0, q0, hargs, rfl, rfl, h0, r0⟩ := trodAll_cons hA
 obtain ⟨v1, vs1, d1, ds1, p1, q1, rfl, rfl, rfl, h1, r1⟩ := trodAll_cons r0
 obtain ⟨v2, vs2, d2, ds2, p2, q2, rfl, rfl, rfl, h2, r2⟩ := trodAll_cons r1
 obtain ⟨rfl, rfl, rfl⟩ := trodAll_nil r2
 obtain rfl : args = #[v0, v1, v2] := by cases args; simp_all
 obtain ⟨a0, rfl, rfl, rfl, w0⟩ := open_string Tryz.underlying9 (hval 0 9 v0 rfl rfl) h0
 obtain ⟨a1, rfl, rfl, rfl, w1⟩ := open_string Tryz.underlying9 (hval 1 9 v1 rfl rfl) h1
 obtain ⟨a2, rfl, rfl, rfl, w2⟩ := open_int Tryz.underlying3 (hval 2 3 v2 rfl rfl) h2
 have hzz := hz
 rw [Tryz.params4] at hzz
 simp [DataW.weightsEach, DataW.weights, reachBytes] at hzz
 exact lawBack31_any a0 a1 a2 W (show Ok W from Tryz.laysM146.s1_3 W hsh) (ok7_of_laid hlaid) (Nat.le_trans (of_decide_eq_true hzz.1) (by decide)) (Nat.le_trans (of_decide_eq_true hzz.2) (by decide)) (wf_i64.1 w2)
theorem said : Rows.PartitionBackSaid :=
 OpenClaim.holds_of_cond 4 Tryz.f4 rfl rfl rfl rfl rfl rfl rfl ⟨rfl, rfl, rfl, rfl, rfl⟩ rfl rfl rfl rfl rfl (by kernel_rfl) Tryz.func4 (by kernel_rfl)
  (of_decide_eq_true (by kernel_rfl)) (by unfold Func.isWrapper; first | (rw [if_pos (by decide +kernel)]; kernel_rfl) | (rw [if_neg (by decide +kernel)]; exact ⟨rfl, rfl⟩))
  (fun os started H enc _ F => by rw [OpenClaim.pre_eq_preRow]; exact lifted os started H enc F)
theorem plain (f : FuncId) (fn : Func) (hf : Tryz.pinned.checked.prog.funcNamed Rows.partitionBackRow.func = some f) (hfn : Tryz.pinned.checked.prog.funcs[f]? = some fn) :
  true = Tryz.pinned.checked.prog.looks [] ∧ ∀ (j : Nat) t, fn.params[j]? = some t → Tryz.pinned.checked.prog.wantsStandIn t = false := by
 obtain rfl : f = 4 := Option.some.inj ((show Tryz.prog.funcNamed Rows.partitionBackRow.func = some 4 by kernel_rfl).symm.trans hf) |>.symm
 obtain rfl : fn = Tryz.f4 := (Option.some.inj (Tryz.func4.symm.trans hfn)).symm
 refine ⟨by kernel_rfl, fun j t ht => ?_⟩
 rw [Tryz.params4] at ht
 have hm : t ∈ [9, 9, 3] := by simpa using Array.mem_of_getElem? ht
 have hall : ([9, 9, 3].all fun u => !Tryz.prog.wantsStandIn u) = true := by kernel_rfl
 exact (show Tryz.prog.wantsStandIn t = false by simpa using List.all_eq_true.1 hall t hm)
/-- The card. -/
theorem card : Rows.PartitionBackCardSaid :=
 Claim7.holds_tied_plain_at .later [] _ _ _ _ said (fun _ h => by cases h) (by kernel_rfl) (fun _ h => by cases h) partitionBack_row_tie rfl ⟨rfl, rfl⟩ (by kernel_rfl) rfl plain (by kernel_rfl)
end cPartitionBack
end Go.Proofs.YtehmidmoiamcfaaGreatDoor
