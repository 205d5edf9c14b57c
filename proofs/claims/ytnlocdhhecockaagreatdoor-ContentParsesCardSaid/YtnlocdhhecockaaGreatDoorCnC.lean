/-
  The walks of layer 7: when two contents are the same.
-/
import Derived.Test.YtnlocdhhecockaaGreatDoorCnB
set_option linter.unusedSimpArgs false
set_option linter.unusedVariables false
namespace Go.Proofs.YtnlocdhhecockaaGreatDoor
open Go.RowKit Go.Cold

/-- What content.Same does, at contents below some size. -/
def SameP (N : Nat) : Prop := ∀ (a b : Cont) (csa csb : List Value) (w : World), szC a < N → CRd w w.heap.size a csa → CRd w w.heap.size b csb →
  Calls Tryz.prog 44 #[.agg csa.toArray, .agg csb.toArray] w fun e w' => e = .returned (.bool (sameC a b)) ∧ Below w.heap.size w w'

theorem sameL_len {xs ys : List Cont} (h : ¬ xs.length = ys.length) : sameL xs ys = false := by
  unfold sameL; simp; rintro rfl; exact h rfl
theorem sameL_all {xs ys : List Cont} {k : Nat} (h : xs.take k = ys.take k) (hx : xs.length ≤ k) (hy : ys.length ≤ k) : sameL xs ys = true := by
  unfold sameL; simp; exact take_all h hx hy
theorem sameL_at {xs ys : List Cont} {k : Nat} {x y : Cont} (hx : xs[k]? = some x) (hy : ys[k]? = some y) (h : sameC x y = false) : sameL xs ys = false := by
  unfold sameL; simp; rintro rfl
  rw [hx] at hy
  obtain rfl := Option.some.inj hy
  rw [sameC_self] at h; cases h
theorem take_same {xs ys : List Cont} {k : Nat} {x y : Cont} (h : xs.take k = ys.take k) (hx : xs[k]? = some x) (hy : ys[k]? = some y) (hs : sameC x y = true) : xs.take (k + 1) = ys.take (k + 1) := by
  obtain rfl := sameC_iff.1 hs
  rw [List.take_add_one, List.take_add_one, hx, hy, h]

set_option maxRecDepth 100000 in
theorem EqualFunc_of (N : Nat) (hN : SameP N) (A B : Option Addr) (c d : Nat) (xs ys : List Cont) (w : World) (hsz : ∀ x ∈ xs, szC x < N) (hx : Sl w w.heap.size A c xs) (hy : Sl w w.heap.size B d ys) :
    Calls Tryz.prog 61 #[.slice A xs.length c, .slice B ys.length d, .func (.func 44) #[] #[]] w fun e w' => e = .returned (.bool (sameL xs ys)) ∧ Below w.heap.size w w' := by
  have hx1 := hx.1; have hx2 := hx.2.1; have hy1 := hy.1; have hy2 := hy.2.1
  unfold maxLen at hx2 hy2
  have HN := Lib.hid hN; clear hN
  have HSZ := Lib.hid hsz; clear hsz
  have HX := Lib.hid hx; clear hx
  have HY := Lib.hid hy; clear hy
  have hen : ∀ args w, (callFunc 44 args).run Tryz.prog w = .ok (.enter 44 args) w := enters_of Tryz.func44 (by kernel_rfl) rfl
  by_cases hlen : xs.length = ys.length
  · have HL := Lib.hid hlen
    go_enter Tryz.func61, Tryz.ntmps61
    go_wp2_with fail
    clear hlen
    generalize hgg : w.heap.size = g at *
    go_loopw [17] (fun i wr => ∃ k : Nat, k ≤ xs.length ∧ i = .int .i64 k ∧ Hid (xs.take k = ys.take k) ∧ Below g w wr) (fun i _ => xs.length - (intOf i).toNat)
    case atStart => exact ⟨0, Nat.zero_le _, rfl, rfl, Below.refl _ _⟩
    case round =>
      obtain ⟨k, hk, rfl, HT, hbw⟩ := hrel
      by_cases hlt : k < xs.length
      · have hlty : k < ys.length := by have := HL.out; omega
        obtain ⟨b3, o3, rfl, hb3, cs, hcs, hcells⟩ := (HX.out.next (by omega) (hgg ▸ hbw)).cont hlt
        obtain ⟨b4, o4, rfl, hb4, ds, hds, hdells⟩ := (HY.out.next (by omega) (hgg ▸ hbw)).cont hlty
        obtain ⟨x, hx⟩ : ∃ x, xs[k] = x := ⟨_, rfl⟩
        obtain ⟨y, hy⟩ : ∃ y, ys[k] = y := ⟨_, rfl⟩
        have hxm : x ∈ xs := hx ▸ List.getElem_mem hlt
        have hxk : xs[k]? = some x := by rw [← hx]; exact List.getElem?_eq_getElem hlt
        have hyk : ys[k]? = some y := by rw [← hy]; exact List.getElem?_eq_getElem hlty
        rw [hx] at hcs; rw [hy] at hds
        have hszx := HSZ.out x hxm
        have HXK := Lib.hid hxk; have HYK := Lib.hid hyk
        clear hxk hyk hx hy hxm
        obtain ⟨kk2, i2, l2, s2, t2, e2, xs2⟩ := x
        obtain ⟨A2, c2, rfl, -, -⟩ := CRd_iff.1 hcs
        obtain ⟨kk3, i3, l3, s3, t3, e3, xs3⟩ := y
        obtain ⟨A3, c3, rfl, -, -⟩ := CRd_iff.1 hds
        obtain ⟨w1, hw1⟩ : ∃ w1, wr.alloc (.cells #[.int .i64 kk2, .string i2, .string l2, .int .i64 s2, .int .i64 t2, .int .i64 e2, .slice A2 xs2.length c2] 31) = w1 := ⟨_, rfl⟩
        obtain ⟨w2, hw2⟩ : ∃ w2, w1.alloc (.cells #[.int .i64 kk3, .string i3, .string l3, .int .i64 s3, .int .i64 t3, .int .i64 e3, .slice A3 xs3.length c3] 31) = w2 := ⟨_, rfl⟩
        obtain ⟨hb1, hg1, hbox1⟩ := box7 hw1
        obtain ⟨hb2, hg2, hbox2⟩ := box7 hw2
        rw [hg1] at hbox2
        obtain ⟨c0, c1, c2', c3', c4, c5, c6⟩ := cells7 hcells
        obtain ⟨d0, d1, d2, d3, d4, d5, d6⟩ := (cells7 hdells).keep hb1 hb4
        obtain ⟨f0, f1, f2, f3, f4, f5, f6⟩ := (hbox1.keep hb2 (by omega)).zero
        obtain ⟨g0, g1, g2, g3, g4, g5, g6⟩ := hbox2.zero
        have hb12 : Below wr.heap.size wr w2 := hb1.trans (hb2.mono (by omega))
        have i1 : (k : Int) < (xs.length : Int) := by omega
        have i2' : (k : Int) < (ys.length : Int) := by omega
        have hcall := HN.out (.mk kk2 i2 l2 s2 t2 e2 xs2) (.mk kk3 i3 l3 s3 t3 e3 xs3) _ _ w2 hszx (CRd_more (by omega) _ _ (CRd_keep hb12 _ _ hcs)) (CRd_more (by omega) _ _ (CRd_keep hb12 _ _ hds))
        have HCALL := Lib.hid hcall
        clear hcall hcells hdells hcs hds hszx
        go_wp2_with fail
        refine HCALL.out.mono ?_
        rintro e' w3 ⟨rfl, hb3'⟩
        have hbn : Below g w w3 := hbw.trans ((hb12.trans (hb3'.mono hb12.size)).mono (by have := hbw.size; omega))
        clear c0 c1 c2' c3' c4 c5 c6 d0 d1 d2 d3 d4 d5 d6 f0 f1 f2 f3 f4 f5 f6 g0 g1 g2 g3 g4 g5 g6 hw1 hw2
        cases hs : sameC (.mk kk2 i2 l2 s2 t2 e2 xs2) (.mk kk3 i3 l3 s3 t3 e3 xs3) with
        | true =>
          have HS := Lib.hid hs; clear hs
          go_wp2
          go_roundw
          case rel => exact ⟨k + 1, by omega, by go_num, take_same HT.out HXK.out HYK.out HS.out, hbn⟩
          case measure => simp [intOf]; omega
        | false =>
          have HS := Lib.hid hs; clear hs
          go_wp2
          go_ret
          exact ⟨ret_bool (sameL_at HXK.out HYK.out HS.out).symm, by rw [hgg]; exact hbn⟩
      · have i2' : ¬ (k : Int) < (ys.length : Int) := by have := HL.out; omega
        go_wp2
        go_ret
        exact ⟨ret_bool (sameL_all HT.out (by omega) (by have := HL.out; omega)).symm, by first | exact hbw | (rw [hgg]; exact hbw)⟩
  · have hs := sameL_len hlen
    have HS := Lib.hid hs; clear hs
    have hlen' : ¬ (xs.length : Int) = ys.length := by omega
    go_enter Tryz.func61, Tryz.ntmps61
    go_wp2
    go_ret
    exact ⟨ret_bool HS.out.symm, Below.refl _ _⟩

theorem ba_beq' (a b : ByteArray) : (a.toList == b.toList) = decide (a = b) := ba_beq a b
set_option maxRecDepth 100000 in
theorem Same_all (N : Nat) : SameP N := by
  induction N with
  | zero => intro a b csa csb w h; omega
  | succ N ih =>
    intro a b csa csb w hsz ha hb
    obtain ⟨k1, i1, l1, s1, t1, e1, xs⟩ := a
    obtain ⟨k2, i2, l2, s2, t2, e2, ys⟩ := b
    obtain ⟨A, c, rfl, -, hx⟩ := CRd_iff.1 ha
    obtain ⟨B, d, rfl, -, hy⟩ := CRd_iff.1 hb
    clear ha hb
    have hmem : ∀ x ∈ xs, szC x < N := fun x hxm => by have := szC_mem (k := k1) (i := i1) (l := l1) (s := s1) (t := t1) (e := e1) hxm; omega
    simp only [contCells]
    obtain ⟨w1, hw1⟩ : ∃ w1, w.alloc (.cells #[.int .i64 k1, .string i1, .string l1, .int .i64 s1, .int .i64 t1, .int .i64 e1, .slice A xs.length c] 31) = w1 := ⟨_, rfl⟩
    obtain ⟨w2, hw2⟩ : ∃ w2, w1.alloc (.cells #[.int .i64 k2, .string i2, .string l2, .int .i64 s2, .int .i64 t2, .int .i64 e2, .slice B ys.length d] 31) = w2 := ⟨_, rfl⟩
    obtain ⟨hb1, hg1, hbox1⟩ := box7 hw1
    obtain ⟨hb2, hg2, hbox2⟩ := box7 hw2
    rw [hg1] at hbox2
    obtain ⟨f0, f1, f2, f3, f4, f5, f6⟩ := (hbox1.keep hb2 (by omega)).zero
    obtain ⟨g0, g1, g2, g3, g4, g5, g6⟩ := hbox2.zero
    have hb12 : Below w.heap.size w w2 := hb1.trans (hb2.mono (by omega))
    have hcall := EqualFunc_of N ih A B c d xs ys w2 hmem ((hx.keep hb12).more (by omega)) ((hy.keep hb12).more (by omega))
    have HCALL := Lib.hid hcall
    have hmk := @sameC_mk k1 k2 i1 i2 l1 l2 s1 s2 t1 t2 e1 e2 xs ys
    clear hcall ih hmem hx hy hsz hbox1 hbox2
    by_cases q0 : (k1 == k2) = true
    · by_cases q1 : i1 = i2
      · by_cases q2 : l1 = l2
        · by_cases q3 : (s1 == s2) = true
          · by_cases q4 : (t1 == t2) = true
            · by_cases q5 : (e1 == e2) = true
              · rw [q0, q3, q4, q5, decide_eq_true q1, decide_eq_true q2] at hmk
                simp only [Bool.true_and] at hmk
                have HMK := Lib.hid hmk; clear hmk
                have p1 : (i1.toList == i2.toList) = true := by rw [ba_beq]; exact decide_eq_true q1
                have p2 : (l1.toList == l2.toList) = true := by rw [ba_beq]; exact decide_eq_true q2
                have Q1 := Lib.hid q1; have Q2 := Lib.hid q2; clear q1 q2
                go_enter Tryz.func44, Tryz.ntmps44
                go_wp2_with fail
                refine HCALL.out.mono ?_
                rintro e' w3 ⟨rfl, hb3⟩
                obtain ⟨z, hz⟩ : ∃ z, sameL xs ys = z := ⟨_, rfl⟩
                rw [hz]
                have HZ := Lib.hid hz; clear hz
                go_wp2
                go_ret
                exact ⟨ret_bool (by rw [HMK.out, HZ.out]), hb12.trans (hb3.mono hb12.size)⟩
              · have q5' : (e1 == e2) = false := by simpa using q5
                have hf : sameC (.mk k1 i1 l1 s1 t1 e1 xs) (.mk k2 i2 l2 s2 t2 e2 ys) = false := by rw [hmk, q5']; simp
                have HF := Lib.hid hf; clear hf hmk q5
                have p1 : (i1.toList == i2.toList) = true := by rw [ba_beq]; exact decide_eq_true q1
                have p2 : (l1.toList == l2.toList) = true := by rw [ba_beq]; exact decide_eq_true q2
                have Q1 := Lib.hid q1; have Q2 := Lib.hid q2; clear q1 q2
                go_enter Tryz.func44, Tryz.ntmps44
                go_wp2
                go_ret
                exact ⟨ret_bool HF.out.symm, hb12⟩
            · have q4' : (t1 == t2) = false := by simpa using q4
              have hf : sameC (.mk k1 i1 l1 s1 t1 e1 xs) (.mk k2 i2 l2 s2 t2 e2 ys) = false := by rw [hmk, q4']; simp
              have HF := Lib.hid hf; clear hf hmk q4
              have p1 : (i1.toList == i2.toList) = true := by rw [ba_beq]; exact decide_eq_true q1
              have p2 : (l1.toList == l2.toList) = true := by rw [ba_beq]; exact decide_eq_true q2
              have Q1 := Lib.hid q1; have Q2 := Lib.hid q2; clear q1 q2
              go_enter Tryz.func44, Tryz.ntmps44
              go_wp2
              go_ret
              exact ⟨ret_bool HF.out.symm, hb12⟩
          · have q3' : (s1 == s2) = false := by simpa using q3
            have hf : sameC (.mk k1 i1 l1 s1 t1 e1 xs) (.mk k2 i2 l2 s2 t2 e2 ys) = false := by rw [hmk, q3']; simp
            have HF := Lib.hid hf; clear hf hmk q3
            have p1 : (i1.toList == i2.toList) = true := by rw [ba_beq]; exact decide_eq_true q1
            have p2 : (l1.toList == l2.toList) = true := by rw [ba_beq]; exact decide_eq_true q2
            have Q1 := Lib.hid q1; have Q2 := Lib.hid q2; clear q1 q2
            go_enter Tryz.func44, Tryz.ntmps44
            go_wp2
            go_ret
            exact ⟨ret_bool HF.out.symm, hb12⟩
        · have hf : sameC (.mk k1 i1 l1 s1 t1 e1 xs) (.mk k2 i2 l2 s2 t2 e2 ys) = false := by rw [hmk, decide_eq_false q2]; simp
          have HF := Lib.hid hf; clear hf hmk
          have p1 : (i1.toList == i2.toList) = true := by rw [ba_beq]; exact decide_eq_true q1
          have p2 : (l1.toList == l2.toList) = false := by rw [ba_beq]; exact decide_eq_false q2
          have Q1 := Lib.hid q1; clear q1 q2
          go_enter Tryz.func44, Tryz.ntmps44
          go_wp2
          go_ret
          exact ⟨ret_bool HF.out.symm, hb12⟩
      · have hf : sameC (.mk k1 i1 l1 s1 t1 e1 xs) (.mk k2 i2 l2 s2 t2 e2 ys) = false := by rw [hmk, decide_eq_false q1]; simp
        have HF := Lib.hid hf; clear hf hmk
        have p1 : (i1.toList == i2.toList) = false := by rw [ba_beq]; exact decide_eq_false q1
        clear q1
        go_enter Tryz.func44, Tryz.ntmps44
        go_wp2
        go_ret
        exact ⟨ret_bool HF.out.symm, hb12⟩
    · have q0' : (k1 == k2) = false := by simpa using q0
      have hf : sameC (.mk k1 i1 l1 s1 t1 e1 xs) (.mk k2 i2 l2 s2 t2 e2 ys) = false := by rw [hmk, q0']; simp
      have HF := Lib.hid hf; clear hf hmk q0
      go_enter Tryz.func44, Tryz.ntmps44
      go_wp2
      go_ret
      exact ⟨ret_bool HF.out.symm, hb12⟩
theorem Same_any (a b : Cont) (csa csb : List Value) (w : World) (ha : CRd w w.heap.size a csa) (hb : CRd w w.heap.size b csb) :
    Calls Tryz.prog 44 #[.agg csa.toArray, .agg csb.toArray] w fun e w' => e = .returned (.bool (sameC a b)) ∧ Below w.heap.size w w' :=
  Same_all _ a b csa csb w (Nat.lt_succ_self _) ha hb
end Go.Proofs.YtnlocdhhecockaaGreatDoor
