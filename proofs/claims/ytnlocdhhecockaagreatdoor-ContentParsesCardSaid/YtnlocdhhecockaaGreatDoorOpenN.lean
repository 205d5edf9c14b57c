/-
  A list of numbers that came in, opened.
-/
import Derived.ChangeSlices
import Derived.ProofKit
import Derived.OpenShut
import Derived.WideKeyArgs
import Derived.Test.YtnlocdhhecockaaGreatDoorBase
namespace Go.Proofs.YtnlocdhhecockaaGreatDoor
open Go.ChangeShapes Go.WideShapes Go.ChangeAt Go.RowKit
section
variable {H : Type} {enc : TypeId × Value → H} {P : Program}
theorem open_nums {W : World} {base : Nat} {t e : TypeId} {v : Value} {d : DataW H} {ps : List MemPlace} (ht : P.underlying t = some (.slice e)) (he : P.underlying e = some (.int .i64)) (hc : P.cellsOf e = 1)
    (hok : Value.okWide P W .any base t v) (h : DataW.Trod enc P W 0 (fun _ => true) true t v d ps) (hlt : ∀ p ∈ ps, p.block < W.heap.size) :
    ∃ A c, ∃ xs : List Int, v = .slice A xs.length c ∧ Cold.Sl W W.heap.size A c xs := by
  obtain ⟨a0, len, cap, rfl⟩ := okWide_slice ht hok
  obtain ⟨fuel, hf⟩ := h
  rcases open_ints ht he hc hf with ⟨hcs, hx⟩ | ⟨a, len', cap', ss, hcs, _, hl, hm, hlen, hx, hcell, hws⟩
  · simp [Value.cells] at hcs
    obtain ⟨rfl, rfl, rfl⟩ := hcs
    exact ⟨none, 0, [], rfl, Cold.Sl.nil_⟩
  · simp [Value.cells] at hcs
    obtain ⟨rfl, rfl, rfl⟩ := hcs
    simp only [if_true] at hlen
    simp only [Prod.mk.injEq] at hx
    obtain ⟨_, rfl⟩ := hx
    have htl : (ss.take len).length = len := by rw [List.length_take]; omega
    refine ⟨some a, cap, ss.take len, by rw [htl], ⟨by rw [htl]; exact hl, hm, fun h0 => ?_⟩⟩
    rw [htl] at h0
    have hb : a.block < W.heap.size := hlt (.cell a.block (a.off + 0)) (MemPlace.mem_row.2 ⟨0, by omega, rfl⟩)
    have h00 := hcell 0 (by omega)
    have hspot : a.spot = none := by
      have e : a.add 0 = a := by simp [Addr.add]
      rw [e] at h00
      cases hs : a.spot with
      | none => rfl
      | some z => simp [World.cell?, hs] at h00; split at h00 <;> simp_all
    obtain ⟨b, o, sp⟩ := a
    simp only at hspot hb
    subst hspot
    refine ⟨b, o, rfl, hb, fun i x hx => ?_⟩
    rw [List.getElem?_take] at hx
    split at hx
    case isFalse => cases hx
    have hi : i < ss.length := (List.getElem?_eq_some_iff.1 hx).1
    have hwf := hws x (List.mem_of_getElem? hx)
    simp only [Lit.wf, Bool.and_eq_true, decide_eq_true_eq] at hwf
    refine ⟨[.int .i64 x], ⟨rfl, hwf.1, hwf.2⟩, fun j u hu => ?_⟩
    have hj : j = 0 := by
      rcases j with _ | j
      · rfl
      · simp at hu
    subst hj
    simp at hu
    subst hu
    have h1 := hcell i hi
    rw [Cold.add_mk] at h1
    have h2 : ss.getD i 0 = x := by simp [List.getD, hx]
    rw [h2] at h1
    simpa [Cold.Rep.size] using h1
end
end Go.Proofs.YtnlocdhhecockaaGreatDoor
