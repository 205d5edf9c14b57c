/-
  The walks of layer 7: slots, and the library's IndexFunc and ContainsFunc at lists of contents.
-/
import Derived.Test.YtnlocdhhecockaaGreatDoorCnH
import Derived.Test.YtnlocdhhecockaaGreatDoorCnC
set_option linter.unusedSimpArgs false
set_option linter.unusedVariables false
namespace Go.Cold
open Go Go.RowKit
def withinB (n high : Int) : Bool := decide (1 ≤ n) && decide (n ≤ high)
def slotsB : Cont → Bool
  | .mk _ _ _ s t _ _ => withinB t 16 && withinB s t
end Go.Cold
namespace Go.Proofs.YtnlocdhhecockaaGreatDoor
open Go.RowKit Go.Cold

theorem slots_any (a : Cont) (cs : List Value) (w : World) (h : CRd w w.heap.size a cs) : Calls Tryz.prog 46 #[.agg cs.toArray] w fun e w' => e = .returned (.bool (slotsB a)) ∧ Below w.heap.size w w' := by
  obtain ⟨kk, i, l, s, t, e, xs⟩ := a
  obtain ⟨A, c, rfl, hok, hsl⟩ := CRd_iff.1 h
  clear h hsl
  simp only [contCells]
  obtain ⟨w0, hw0⟩ : ∃ w0, w.alloc (.cells #[.int .i64 kk, .string i, .string l, .int .i64 s, .int .i64 t, .int .i64 e, .slice A xs.length c] 31) = w0 := ⟨_, rfl⟩
  obtain ⟨hb0, hg0, hbox⟩ := box7 hw0
  obtain ⟨d0, d1, d2, d3, d4, d5, d6⟩ := hbox.zero
  go_enter Tryz.func46, Tryz.ntmps46
  go_wp2_with fail
  refine (within_any t 16 _).mono ?_; rintro e' w' ⟨rfl, rfl⟩
  cases h1 : (decide (1 ≤ t) && decide (t ≤ 16)) with
  | true =>
    have H1 := Lib.hid h1; clear h1
    go_wp2_with fail
    refine (within_any s t _).mono ?_; rintro e' w' ⟨rfl, rfl⟩
    obtain ⟨z, hz⟩ : ∃ z, (decide (1 ≤ s) && decide (s ≤ t)) = z := ⟨_, rfl⟩
    rw [hz]
    have HZ := Lib.hid hz; clear hz
    go_wp2
    go_ret
    exact ⟨ret_bool (by rw [slotsB, withinB, withinB, H1.out, HZ.out]; rfl), hb0⟩
  | false =>
    have H1 := Lib.hid h1; clear h1
    go_wp2
    go_ret
    exact ⟨ret_bool (by rw [slotsB, withinB, H1.out]; rfl), hb0⟩

/-- A function value that decides a content. -/
structure PredC (g : FuncId) (caps : Array Value) (w : World) (p : Cont → Bool) : Prop where
  enters : ∀ args w, (callFunc g args).run Tryz.prog w = .ok (.enter g args) w
  gives : ∀ (x : Cont) (cs : List Value) (W : World), CRd W W.heap.size x cs → Below w.heap.size w W → Calls Tryz.prog g (#[.agg cs.toArray] ++ caps) W fun e W' => e = .returned (.bool (p x)) ∧ Below W.heap.size W W'

set_option maxRecDepth 10000 in
/-- slices.IndexFunc at a list of contents. -/
theorem IndexFuncC_any (A : Option Addr) (c : Nat) (xs : List Cont) (g : FuncId) (caps : Array Value) (p : Cont → Bool) (w : World) (hx : Sl w w.heap.size A c xs) (hp : PredC g caps w p) :
    Calls Tryz.prog 42 #[.slice A xs.length c, .func (.func g) #[] caps] w fun e w' => e = .returned (.int .i64 (idxInt p xs)) ∧ Below w.heap.size w w' := by
  have hc := hx.1; have hc2 := hx.2.1
  unfold maxLen at hc2
  have hen := hp.enters
  have HP := Lib.hid hp; clear hp
  have HSl := Lib.hid hx; clear hx
  go_enter Tryz.func42, Tryz.ntmps42
  go_wp2
  go_loopw [8] (fun i wr => ∃ k : Nat, k ≤ xs.length ∧ i = .int .i64 k ∧ Hid ((xs.take k).all (fun x => !p x) = true) ∧ Below w.heap.size w wr) (fun i _ => xs.length - (intOf i).toNat)
  case atStart => exact ⟨0, Nat.zero_le _, rfl, rfl, Below.refl _ _⟩
  case round =>
    obtain ⟨k, hk, rfl, HA, hb⟩ := hrel
    by_cases hlt : k < xs.length
    · obtain ⟨b3, o3, rfl, hb3, cs, hcs, hcells⟩ := (HSl.out.next (Nat.le_refl _) hb).cont hlt
      have hxk : xs[k]? = some xs[k] := List.getElem?_eq_getElem hlt
      obtain ⟨x, hx⟩ : ∃ x, xs[k] = x := ⟨_, rfl⟩
      rw [hx] at hcs hxk
      have HX := Lib.hid hxk; clear hxk
      have HXX := Lib.hid hx; clear hx
      have i1 : (k : Int) < (xs.length : Int) := by omega
      obtain ⟨kk2, i2, l2, s2, t2, e2, xs2⟩ := x
      obtain ⟨A2, c2, rfl, -, -⟩ := CRd_iff.1 hcs
      obtain ⟨c0, c1, c2', c3, c4, c5, c6⟩ := cells7 hcells
      have hcall := HP.out.gives (.mk kk2 i2 l2 s2 t2 e2 xs2) _ wr hcs hb
      have HCALL := Lib.hid hcall
      clear hcells hcs hcall
      go_wp2_with fail
      refine Calls.mono (R := fun e W' => e = .returned (.bool (p (.mk kk2 i2 l2 s2 t2 e2 xs2))) ∧ Below wr.heap.size wr W') ?_ ?_
      · first | exact HCALL.out | simpa [contCells] using HCALL.out
      rintro e w1 ⟨rfl, hb1⟩
      have hb2 := hb.trans (hb1.mono hb.size)
      clear hb1 hb c0 c1 c2' c3 c4 c5 c6
      cases hpx : p (.mk kk2 i2 l2 s2 t2 e2 xs2) with
      | true =>
        have HPX := Lib.hid hpx; clear hpx
        go_wp2
        go_ret
        exact ⟨ret_int (idxInt_some hlt HA.out (by rw [HXX.out]; exact HPX.out)).symm, hb2⟩
      | false =>
        have HPX := Lib.hid hpx; clear hpx
        go_wp2
        go_roundw
        case rel => exact ⟨k + 1, by omega, by go_num, all_step HA.out HX.out (by rw [HPX.out]; rfl), hb2⟩
        case measure => simp [intOf]; omega
    · go_wp2
      go_ret
      exact ⟨ret_int (idxInt_none (all_end HA.out (by omega))).symm, hb⟩
/-- slices.ContainsFunc at a list of contents. -/
theorem ContainsFuncC_any (A : Option Addr) (c : Nat) (xs : List Cont) (g : FuncId) (caps : Array Value) (p : Cont → Bool) (w : World) (hx : Sl w w.heap.size A c xs) (hp : PredC g caps w p) :
    Calls Tryz.prog 27 #[.slice A xs.length c, .func (.func g) #[] caps] w fun e w' => e = .returned (.bool (xs.any p)) ∧ Below w.heap.size w w' := by
  go_enter Tryz.func27, Tryz.ntmps27
  go_wp2_with fail
  refine (IndexFuncC_any A c xs g caps p w hx hp).mono ?_
  rintro e w1 ⟨rfl, hb⟩
  go_wp2
  go_ret
  exact ⟨ret_bool (idxInt_any p xs), hb⟩
end Go.Proofs.YtnlocdhhecockaaGreatDoor
