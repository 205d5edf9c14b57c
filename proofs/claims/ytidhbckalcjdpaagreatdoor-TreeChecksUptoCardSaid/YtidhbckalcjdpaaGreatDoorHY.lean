/-
  The row's last step of a law, where what came in is of a bounded bulk.
-/
import Derived.Test.YtidhbckalcjdpaaGreatDoorHM
set_option linter.unusedSimpArgs false
set_option linter.unusedVariables false
namespace Go.Proofs.YtidhbckalcjdpaaGreatDoor
open Go.ChangeShapes Go.WideShapes Go.ChangeAt Go.RowKit

set_option maxRecDepth 100000 in
/-- The row's step of a law: whatever its parameters are, it is enough that the call returns true and leaves what there was. -/
theorem law_lifted_upto {f : FuncId} {fn : Func} {s : ChangeSpec} {laid : List (String × DataW Unit)} (os : Os) (started : os.Started) (H : Type) (enc : TypeId × Value → H) (F : Stop.Interp)
  (noInit : Tryz.prog.inits.idxOf? f = none) (hfn : Tryz.prog.funcs[f]? = some fn) (args0 : Array Value)
  (hsh0 : ((World.laidAll Tryz.prog os laid).forCall (fun _ _ => 0) ⟨#[], args0, []⟩).Shaped Tryz.prog)
  (hok0 : Input.okWideB Tryz.prog ((World.laidAll Tryz.prog os laid).forCall (fun _ _ => 0) ⟨#[], args0, []⟩) f ⟨#[], args0, []⟩ = true)
  (hrow0 : (Rows.OpenSpec.upto s).preRow enc Tryz.prog fn [] false laid ((World.laidAll Tryz.prog os laid).forCall (fun _ _ => 0) ⟨#[], args0, []⟩).memory args0)
  (hvars : s.vars = []) (hres : fn.resultTypes = #[4])
  (hs : ∀ ds : List (DataW H), ds.length = fn.params.toList.length → s.fn H (ds ++ []) = { results := [.lit (.bool true)], args := ds })
  (hr : (fn.params.toList.all fun t => Tryz.prog.readableRec t && decide (t < Tryz.prog.types.size)) = true)
  (law : ∀ (W : World) (base : Nat) (args : Array Value) (ds : List (DataW H)) (ps : List MemPlace),
   (∀ (j : Nat) t v, fn.params[j]? = some t → args[j]? = some v → Value.okWide Tryz.prog W .any base t v) →
   DataW.TrodAll enc Tryz.prog W 0 (fun _ => true) true fn.params.toList args.toList ds ps → (∀ p ∈ ps, p.block < W.heap.size) →
   (DataW.weightsEach Tryz.checked.prog (fn.params.toList ++ (Rows.OpenSpec.upto s).bare.plain.varTypes Tryz.checked.prog) (ds ++ [])).all (· ≤ reachBytes) = true → W.ShapedOpen Tryz.checked.prog → laidMetH Tryz.prog laid W → Rows.uptoBulkAll ds ≤ 1048576 →
   Calls Tryz.prog f args W fun e W' => e = .returned (.bool true) ∧ Below W.heap.size W W') :
  ReturnsInHanded {} Tryz.checked os f .any ((Rows.OpenSpec.upto s).preRow enc Tryz.prog fn [] false laid) (((Rows.OpenSpec.upto s).at F).post enc Tryz.prog fn false true false false) := by
 refine returnsInHanded_of_row (C := Tryz.checked) (s := Rows.OpenSpec.upto s) own started noInit hfn
  (witness_row_shaped (enc := enc) (C := Tryz.checked) false (World.laidAll Tryz.prog os laid) args0 (World.laidAll_os _ _ _) hsh0 hok0 hrow0) ?_
 intro W base args ds gs before hval hW _ hcond hz hlaid hsh _
 have hlt : ∀ p ∈ before, p.block < W.heap.size := fun p hp => hW.lt p hp
 have hW' := hW
 obtain ⟨p, q, hA0, hV, rfl, hfz, hnd⟩ := hW
 have hA : DataW.TrodAll enc Tryz.prog W 0 (fun _ => true) true fn.params.toList args.toList ds p := hA0
 have hv : (Rows.OpenSpec.upto s).vars = [] := hvars
 rw [hv] at hV
 obtain ⟨rfl, rfl⟩ := trodVars_none hV
 simp only [List.append_nil] at hW' hlt
 have hlen : ds.length = fn.params.toList.length := trodAll_length hA
 refine (law W base args ds p hval hA hlt hz hsh hlaid (by simpa [Rows.uptoSmall] using hcond _ rfl)).mono fun e W' ⟨he, hb⟩ => ?_
 subst he
 have e1 := hs ds hlen
 have hrt : fn.resultTypes.toList = [4] := by rw [hres]
 have hrl : (Value.bool true).resultList fn.resultTypes.size = [.bool true] := by rw [hres]; rfl
 refine ⟨_, rfl, post_of_below (s := s) (pa := p) (pv := []) hW' (fun _ _ _ => ?_) (fun sp hsp => ?_) (fun _ _ => ?_) (by simp) hb ?_⟩
 · rw [hrt, hrl, e1]; exact trodAll_mk1 (shut_bool Tryz.underlying4 _)
 · rw [e1]; exact trodAll_stays laidOut hr hA (fun x hx => hb.same (hlt x hx)) (fun x hx => hsp x hx)
 · rw [e1, hvars]; rfl
 ·
  intro j t r hj hr'
  rw [hres] at hj
  rw [hrl] at hr'
  rcases j with _ | j
  ·
   simp at hj hr'
   subst hj; subst hr'
   exact okWide_bool_mk Tryz.underlying4 _
  · simp at hr'

end Go.Proofs.YtidhbckalcjdpaaGreatDoor
