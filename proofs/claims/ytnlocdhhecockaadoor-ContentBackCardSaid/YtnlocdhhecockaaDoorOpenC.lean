/-
  A content that came in, opened.
-/
import Derived.ChangeSlices
import Derived.ProofKit
import Derived.OpenShut
import Derived.WideKeyArgs
import Derived.Test.YtnlocdhhecockaaDoorCnA
namespace Go.Proofs.YtnlocdhhecockaaDoor
open Go.ChangeShapes Go.WideShapes Go.ChangeAt Go.RowKit Go.Cold
set_option maxRecDepth 100000
section
variable {H : Type} {enc : TypeId × Value → H}
theorem cells_int : Tryd.prog.cellsOf 3 = 1 := by kernel_rfl
theorem cells_str : Tryd.prog.cellsOf 9 = 1 := by kernel_rfl
theorem cells_sl : Tryd.prog.cellsOf 22 = 1 := by kernel_rfl
theorem cells_cont : Tryd.prog.cellsOf 24 = 7 := by kernel_rfl
/-- A list of witnesses. -/
theorem list_of {α : Type} {p : Nat → α → Prop} : ∀ n : Nat, (∀ i, i < n → ∃ x, p i x) → ∃ xs : List α, xs.length = n ∧ ∀ (i : Nat) x, xs[i]? = some x → p i x
  | 0, _ => ⟨[], rfl, fun i x h => by simp at h⟩
  | n + 1, h => by
    obtain ⟨xs, h1, h2⟩ := list_of n (fun i hi => h i (by omega))
    obtain ⟨y, hy⟩ := h n (by omega)
    refine ⟨xs ++ [y], by simp [h1], fun i x hx => ?_⟩
    by_cases hi : i < xs.length
    · rw [List.getElem?_append_left hi] at hx; exact h2 i x hx
    · rw [List.getElem?_append_right (by omega)] at hx
      have hi0 : i - xs.length = 0 := by
        have := (List.getElem?_eq_some_iff.1 hx).1
        simp at this; omega
      rw [hi0] at hx
      simp at hx
      subst hx
      rw [show i = n by omega]; exact hy
theorem wf_ok {n : Int} (h : (Lit.int .i64 n).wf = true) : okInt n := by
  simp only [Lit.wf, Bool.and_eq_true, decide_eq_true_eq] at h
  exact ⟨h.1, h.2⟩
theorem trod_cont {W : World} : ∀ (fuel : Nat) (cs : List Value) (x : DataW H × List MemPlace), DataW.trod enc Tryd.prog W 0 (fun _ => true) true fuel 24 cs = some x → ∃ C, CRd W W.heap.size C cs := by
  intro fuel
  induction fuel using Nat.strongRecOn with
  | ind fuel ih =>
    intro cs x h
    obtain ⟨xs, n, rfl, -, hl, hlen, hf⟩ := DataW.trod_struct Tryd.underlying24 h
    rw [cells_cont] at hl
    match cs, hl with
    | [c0, c1, c2, c3, c4, c5, c6], _ =>
    have hx7 : xs.length = 7 := hlen
    have f0 : DataW.trod enc Tryd.prog W 0 (fun _ => true) true n 3 (([c0, c1, c2, c3, c4, c5, c6].drop 0).take (Tryd.prog.cellsOf 3)) = xs[0]? := hf 0 _ rfl
    have f1 : DataW.trod enc Tryd.prog W 0 (fun _ => true) true n 9 (([c0, c1, c2, c3, c4, c5, c6].drop 1).take (Tryd.prog.cellsOf 9)) = xs[1]? := hf 1 _ rfl
    have f2 : DataW.trod enc Tryd.prog W 0 (fun _ => true) true n 9 (([c0, c1, c2, c3, c4, c5, c6].drop 2).take (Tryd.prog.cellsOf 9)) = xs[2]? := hf 2 _ rfl
    have f3 : DataW.trod enc Tryd.prog W 0 (fun _ => true) true n 3 (([c0, c1, c2, c3, c4, c5, c6].drop 3).take (Tryd.prog.cellsOf 3)) = xs[3]? := hf 3 _ rfl
    have f4 : DataW.trod enc Tryd.prog W 0 (fun _ => true) true n 3 (([c0, c1, c2, c3, c4, c5, c6].drop 4).take (Tryd.prog.cellsOf 3)) = xs[4]? := hf 4 _ rfl
    have f5 : DataW.trod enc Tryd.prog W 0 (fun _ => true) true n 3 (([c0, c1, c2, c3, c4, c5, c6].drop 5).take (Tryd.prog.cellsOf 3)) = xs[5]? := hf 5 _ rfl
    have f6 : DataW.trod enc Tryd.prog W 0 (fun _ => true) true n 22 (([c0, c1, c2, c3, c4, c5, c6].drop 6).take (Tryd.prog.cellsOf 22)) = xs[6]? := hf 6 _ rfl
    rw [List.getElem?_eq_getElem (by omega)] at f0 f1 f2 f3 f4 f5 f6

    rw [cells_int] at f0 f3 f4 f5
    rw [cells_str] at f1 f2
    rw [cells_sl] at f6
    simp only [List.drop_succ_cons, List.drop_zero, List.take_succ_cons, List.take_zero] at f0 f1 f2 f3 f4 f5 f6
    obtain ⟨k, e0, -, w0⟩ := DataW.trod_int Tryd.underlying3 f0
    obtain ⟨i, e1, -, w1⟩ := DataW.trod_string Tryd.underlying9 f1
    obtain ⟨l, e2, -, w2⟩ := DataW.trod_string Tryd.underlying9 f2
    obtain ⟨s, e3, -, w3⟩ := DataW.trod_int Tryd.underlying3 f3
    obtain ⟨t, e4, -, w4⟩ := DataW.trod_int Tryd.underlying3 f4
    obtain ⟨e, e5, -, w5⟩ := DataW.trod_int Tryd.underlying3 f5
    simp only [List.cons.injEq, and_true] at e0 e1 e2 e3 e4 e5
    subst e0 e1 e2 e3 e4 e5
    have hok := And.intro (wf_ok w0) (And.intro w1 (And.intro w2 (And.intro (wf_ok w3) (And.intro (wf_ok w4) (wf_ok w5)))))
    rcases DataW.trod_slice Tryd.underlying22 f6 with ⟨e6, -⟩ | ⟨a, len, cap, elems, rest, m, rfl, e6, -, -, hlc, hcm, hel, hat, -, -⟩
    · simp only [List.cons.injEq, and_true] at e6
      subst e6
      exact ⟨.mk k i l s t e [], CRd_iff.2 ⟨none, 0, rfl, hok, Sl.nil_⟩⟩
    · simp only [List.cons.injEq, and_true] at e6
      subst e6
      have each : ∀ j, j < len → ∃ C : Cont, ∃ ds, CRd W W.heap.size C ds ∧ W.cells? 0 (a.add (j * 7)) 7 = some ds := by
        intro j hj
        have h1 := hat j hj
        rw [List.getElem?_eq_getElem (by omega), cells_cont, Option.bind_eq_some_iff] at h1
        obtain ⟨ds, h2, h3⟩ := h1
        obtain ⟨C, hC⟩ := ih m (by omega) ds _ h3
        exact ⟨C, ds, hC, h2⟩
      obtain ⟨Cs, hCl, hCs⟩ := list_of len each
      subst hCl
      refine ⟨.mk k i l s t e Cs, CRd_iff.2 ⟨some a, cap, rfl, hok, hlc, hcm, fun h0 => ?_⟩⟩
      obtain ⟨C0, ds0, -, h00⟩ := each 0 h0
      have hb := World.cells?_block h00 (by decide)
      obtain ⟨-, hs00, hs0⟩ := World.cells?_some h00
      have h000 := hs0 0 (by decide)
      have hspot : a.spot = none := by
        cases hs : a.spot with
        | none => rfl
        | some z =>
          exfalso
          have hlen0 : 0 < ds0.length := by omega
          rw [List.getElem?_eq_getElem hlen0] at h000
          simp [World.cell?, Addr.add, hs] at h000
          split at h000 <;> simp_all
      obtain ⟨b, o, sp⟩ := a
      simp only at hspot
      subst hspot
      refine ⟨b, o, rfl, hb, fun j C hC => ?_⟩
      obtain ⟨ds, h1, h2⟩ := hCs j C hC
      refine ⟨ds, h1, fun q u hu => ?_⟩
      obtain ⟨-, hdl, hds⟩ := World.cells?_some h2
      have hq : q < 7 := by have := (List.getElem?_eq_some_iff.1 hu).1; omega
      have h3 := hds q hq
      rw [hu, add_mk, add_mk] at h3
      show W.cell? ⟨b, o + (j * 7 + q), none⟩ = some u
      rw [← Nat.add_assoc]
      exact h3
theorem open_cont {W : World} {base : Nat} {v : Value} {d : DataW H} {ps : List MemPlace} (hok : Value.okWide Tryd.prog W .any base 24 v) (h : DataW.Trod enc Tryd.prog W 0 (fun _ => true) true 24 v d ps) :
    ∃ C, ∃ cs : List Value, v = .agg cs.toArray ∧ CRd W W.heap.size C cs := by
  obtain ⟨cs, rfl, -⟩ := okWide_struct Tryd.underlying24 hok
  obtain ⟨fuel, hf⟩ := h
  obtain ⟨C, hC⟩ := trod_cont fuel _ _ hf
  exact ⟨C, cs.toList, by simp, by simpa [Value.cells] using hC⟩
end
end Go.Proofs.YtnlocdhhecockaaDoor
