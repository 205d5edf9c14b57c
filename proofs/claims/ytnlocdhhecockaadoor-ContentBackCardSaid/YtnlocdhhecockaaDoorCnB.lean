/-
  The walks of layer 7: the reference's depth.
-/
import Derived.Test.YtnlocdhhecockaaDoorCnA
set_option linter.unusedSimpArgs false
set_option linter.unusedVariables false
namespace Go.Cold
open Go Go.RowKit
mutual
/-- The reference's depth: a content of kind 0 has none. -/
def depthR : Cont → Int
  | .mk k _ _ _ _ _ xs => if k = 0 then 0 else depthRL xs + 1
def depthRL : List Cont → Int
  | [] => 0
  | x :: xs => max (depthR x) (depthRL xs)
end
theorem depthRL_app (x : Cont) : ∀ xs : List Cont, depthRL (xs ++ [x]) = max (depthRL xs) (depthR x)
  | [] => by rw [List.nil_append, depthRL, depthRL, depthRL, Int.max_comm]
  | y :: ys => by rw [List.cons_append, depthRL, depthRL, depthRL_app x ys, Int.max_assoc]
mutual
theorem depthR_nonneg : ∀ a : Cont, 0 ≤ depthR a
  | .mk k _ _ _ _ _ xs => by
    have := depthRL_nonneg xs
    rw [depthR]; split <;> omega
theorem depthRL_nonneg : ∀ xs : List Cont, 0 ≤ depthRL xs
  | [] => by rw [depthRL]; omega
  | x :: xs => by
    have := depthR_nonneg x
    have := depthRL_nonneg xs
    rw [depthRL]; omega
end
mutual
theorem depthR_le_C : ∀ a : Cont, depthR a ≤ depthC a
  | .mk k _ _ _ _ _ xs => by
    have := depthRL_le_L xs
    have := depthL_nonneg xs
    rw [depthR, depthC]; split <;> omega
theorem depthRL_le_L : ∀ xs : List Cont, depthRL xs ≤ depthL xs
  | [] => by rw [depthRL, depthL]; omega
  | x :: xs => by
    have := depthR_le_C x
    have := depthRL_le_L xs
    rw [depthRL, depthL]; omega
end
end Go.Cold
namespace Go.Proofs.YtnlocdhhecockaaDoor
open Go.RowKit Go.Cold

set_option maxRecDepth 100000 in
theorem RDepth_all (N : Nat) : ∀ (a : Cont) (cs : List Value) (w : World), szC a < N → CRd w w.heap.size a cs → depthC a ≤ 2 ^ 60 → Calls Tryd.prog 21 #[.agg cs.toArray] w fun e w' => e = .returned (.int .i64 (depthR a)) ∧ Below w.heap.size w w' := by
  induction N with
  | zero => intro a cs w h; omega
  | succ N ih =>
    intro a cs w hsz hrd hdep
    obtain ⟨kk, i, l, s, t, e, xs⟩ := a
    obtain ⟨A, c, rfl, hok, hsl⟩ := CRd_iff.1 hrd
    clear hrd
    have IH := Lib.hid ih; clear ih
    have hx1 := hsl.1; have hx2 := hsl.2.1
    unfold maxLen at hx2
    have HSl := Lib.hid hsl; clear hsl
    have HSZ := Lib.hid hsz; clear hsz
    have HD := Lib.hid hdep; clear hdep
    have HOK := Lib.hid hok; clear hok
    simp only [contCells]
    obtain ⟨w0, hw0⟩ : ∃ w0, w.alloc (.cells #[.int .i64 kk, .string i, .string l, .int .i64 s, .int .i64 t, .int .i64 e, .slice A xs.length c] 24) = w0 := ⟨_, rfl⟩
    obtain ⟨hb0, hg0, hbox⟩ := box7 hw0
    obtain ⟨d0, d1, d2, d3, d4, d5, d6⟩ := hbox.zero
    go_enter Tryd.func21, Tryd.ntmps21
    go_wp2_with fail
    have HBOX := Lib.hid hbox; clear hbox hw0 d0 d1 d2 d3 d4 d5 d6
    generalize hgg : w.heap.size = g at *
    go_loopw [3, 4] (fun d i wr => ∃ k : Nat, k ≤ xs.length ∧ i = .int .i64 k ∧ d = .int .i64 (depthRL (xs.take k)) ∧ Below w0.heap.size w0 wr) (fun _ i _ => xs.length - (intOf i).toNat)
    case atStart => exact ⟨0, Nat.zero_le _, rfl, by simp [depthRL], Below.refl _ _⟩
    case round =>
      obtain ⟨k, hk, rfl, rfl, hb⟩ := hrel
      have hbw : Below g w wr := hb0.trans (hb.mono (by omega))
      obtain ⟨d0, d1, d2, d3, d4, d5, d6⟩ := (HBOX.out.keep hb (by omega)).zero
      by_cases hlt : k < xs.length
      · have hslr := HSl.out.next (by omega) (hgg ▸ hbw)
        obtain ⟨b3, o3, rfl, hb3, cs, hcs, hcells⟩ := hslr.cont hlt
        obtain ⟨x, hx⟩ : ∃ x, xs[k] = x := ⟨_, rfl⟩
        have hxm : x ∈ xs := hx ▸ List.getElem_mem hlt
        have htk : xs.take (k + 1) = xs.take k ++ [x] := by rw [← hx]; exact List.take_succ_eq_append_getElem hlt
        rw [hx] at hcs
        clear hslr
        have hszx := szC_mem (k := kk) (i := i) (l := l) (s := s) (t := t) (e := e) hxm
        have hdx : depthC x ≤ 2 ^ 60 := Int.le_trans (Int.le_trans (depthL_mem hxm) depthL_le) HD.out
        obtain ⟨kk2, i2, l2, s2, t2, e2, xs2⟩ := x
        obtain ⟨A2, c2, rfl, hok2, hsl2⟩ := CRd_iff.1 hcs
        obtain ⟨c0, c1, c2', c3, c4, c5, c6⟩ := cells7 hcells
        have i1 : (k : Int) < (xs.length : Int) := by omega
        have hcall := IH.out (.mk kk2 i2 l2 s2 t2 e2 xs2) _ wr (by have := HSZ.out; omega) hcs hdx
        clear hcells hcs hok2 hsl2 hx hxm hdx hszx
        have HCALL := Lib.hid hcall; clear hcall
        have HTK := Lib.hid htk; clear htk
        go_wp2_with fail
        refine HCALL.out.mono ?_
        rintro e' w2 ⟨rfl, hb2⟩
        have hdep : depthRL (xs.take (k + 1)) = max (depthRL (xs.take k)) (depthR (.mk kk2 i2 l2 s2 t2 e2 xs2)) := by rw [HTK.out, depthRL_app]
        have hbn : Below w0.heap.size w0 w2 := hb.trans (hb2.mono hb.size)
        obtain ⟨z, hz⟩ : ∃ z, depthR (.mk kk2 i2 l2 s2 t2 e2 xs2) = z := ⟨_, rfl⟩
        rw [hz] at hdep ⊢
        obtain ⟨y, hy⟩ : ∃ y, depthRL (xs.take k) = y := ⟨_, rfl⟩
        rw [hy] at hdep ⊢
        have HDEP := Lib.hid hdep; clear hdep hz hy
        clear c0 c1 c2' c3 c4 c5 c6 d0 d1 d2 d3 d4 d5 d6
        go_wp2
        go_roundw
        case rel => exact ⟨k + 1, by omega, by go_num, by rw [HDEP.out], hbn⟩
        case measure => simp [intOf]; omega
      · have hkk : k = xs.length := by omega
        subst hkk
        rw [List.take_length]
        have hd3 := depthRL_nonneg xs
        have hd4 : depthRL xs ≤ 2 ^ 60 := Int.le_trans (Int.le_trans (depthRL_le_L xs) depthL_le) HD.out
        by_cases hk0 : kk = 0
        · have hd : 0 = depthR (.mk kk i l s t e xs) := by rw [depthR, if_pos hk0]
          obtain ⟨y, hy⟩ : ∃ y, depthRL xs = y := ⟨_, rfl⟩
          rw [hy]
          have HDD := Lib.hid hd; clear hd hy hd3 hd4
          have hk1 : (kk == 0) = true := by simpa using hk0
          go_wp2
          go_ret
          exact ⟨ret_int HDD.out, by rw [hgg]; exact hbw⟩
        · have hd : depthRL xs + 1 = depthR (.mk kk i l s t e xs) := by rw [depthR, if_neg hk0]
          obtain ⟨y, hy⟩ : ∃ y, depthRL xs = y := ⟨_, rfl⟩
          rw [hy] at hd hd3 hd4 ⊢
          have HDD := Lib.hid hd; clear hd hy
          have hk1 : (kk == 0) = false := by simpa using hk0
          go_wp2
          go_ret
          exact ⟨ret_int (by rw [← HDD.out]), by rw [hgg]; exact hbw⟩
theorem RDepth_any (a : Cont) (cs : List Value) (w : World) (h : CRd w w.heap.size a cs) (hd : depthC a ≤ 2 ^ 60) : Calls Tryd.prog 21 #[.agg cs.toArray] w fun e w' => e = .returned (.int .i64 (depthR a)) ∧ Below w.heap.size w w' :=
  RDepth_all _ a cs w (Nat.lt_succ_self _) h hd
end Go.Proofs.YtnlocdhhecockaaDoor
