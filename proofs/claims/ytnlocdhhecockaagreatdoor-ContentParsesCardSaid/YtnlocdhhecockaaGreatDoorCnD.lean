/-
  The walk of layer 7: the reference's Same.
-/
import Derived.Test.YtnlocdhhecockaaGreatDoorCnC
import Derived.Deep.RegionHeld3
set_option linter.unusedSimpArgs false
set_option linter.unusedVariables false
namespace Go.Proofs.YtnlocdhhecockaaGreatDoor
open Go.RowKit Go.Cold

/-- What the reference's Same does, at contents below some size. -/
def RSameP (N : Nat) : Prop := ∀ (a b : Cont) (csa csb : List Value) (w : World), szC a < N → CRd w w.heap.size a csa → CRd w w.heap.size b csb →
  Calls Tryz.prog 8 #[.agg csa.toArray, .agg csb.toArray] w fun e w' => e = .returned (.bool (sameC a b)) ∧ Below w.heap.size w w'

set_option maxRecDepth 100000 in
theorem RSame_all (N : Nat) : RSameP N := by
  induction N with
  | zero => intro a b csa csb w h; omega
  | succ N ih =>
    intro a b csa csb w hsz ha hb
    obtain ⟨k1, i1, l1, s1, t1, e1, xs⟩ := a
    obtain ⟨k2, i2, l2, s2, t2, e2, ys⟩ := b
    obtain ⟨A, c, rfl, -, hx⟩ := CRd_iff.1 ha
    obtain ⟨B, d, rfl, -, hy⟩ := CRd_iff.1 hb
    clear ha hb
    have hmem : ∀ x ∈ xs, szC x < N := fun x hxm => by have := szC_mem (k := k1) (i := i1) (l := l1) (s := s1) (t := t1) (e := e1) hxm; omega
    simp only [contCells]
    obtain ⟨w1, hw1⟩ : ∃ w1, w.alloc (.cells #[.int .i64 k1, .string i1, .string l1, .int .i64 s1, .int .i64 t1, .int .i64 e1, .slice A xs.length c] 31) = w1 := ⟨_, rfl⟩
    obtain ⟨w2, hw2⟩ : ∃ w2, w1.alloc (.cells #[.int .i64 k2, .string i2, .string l2, .int .i64 s2, .int .i64 t2, .int .i64 e2, .slice B ys.length d] 31) = w2 := ⟨_, rfl⟩
    obtain ⟨hb1, hg1, hbox1⟩ := box7 hw1
    obtain ⟨hb2, hg2, hbox2⟩ := box7 hw2
    rw [hg1] at hbox2
    obtain ⟨f0, f1, f2, f3, f4, f5, f6⟩ := (hbox1.keep hb2 (by omega)).zero
    obtain ⟨g0, g1, g2, g3, g4, g5, g6⟩ := hbox2.zero
    have hb12 : Below w.heap.size w w2 := hb1.trans (hb2.mono (by omega))
    have hx1 := hx.1; have hx2 := hx.2.1; have hy1 := hy.1; have hy2 := hy.2.1
    unfold maxLen at hx2 hy2
    have IH := Lib.hid ih
    have HMEM := Lib.hid hmem
    have HX := Lib.hid hx
    have HY := Lib.hid hy
    have HB1 := Lib.hid (hbox1.keep hb2 (by omega))
    have HB2 := Lib.hid hbox2
    have hmk := @sameC_mk k1 k2 i1 i2 l1 l2 s1 s2 t1 t2 e1 e2 xs ys
    clear ih hmem hx hy hsz hbox1 hbox2
    by_cases q0 : (k1 == k2) = true
    · by_cases q1 : i1 = i2
      · by_cases q2 : l1 = l2
        · by_cases q3 : (s1 == s2) = true
          · by_cases q4 : (t1 == t2) = true
            · by_cases q5 : (e1 == e2) = true
              · rw [q0, q3, q4, q5, decide_eq_true q1, decide_eq_true q2] at hmk
                simp only [Bool.true_and] at hmk
                have HMK := Lib.hid hmk; clear hmk
                have p1 : (i1.toList == i2.toList) = true := by rw [ba_beq]; exact decide_eq_true q1
                have p2 : (l1.toList == l2.toList) = true := by rw [ba_beq]; exact decide_eq_true q2
                have Q1 := Lib.hid q1; have Q2 := Lib.hid q2; clear q1 q2
                by_cases hlen : xs.length = ys.length
                · have HL := Lib.hid hlen
                  have hlenb : ((xs.length : Int) != ys.length) = false := by simp [hlen]
                  clear hlen
                  have n0 : (k1 != k2) = false := by rw [bne, q0]; rfl
                  have n1 : (!i1.toList == i2.toList) = false := by rw [p1]; rfl
                  have n1b : (i1.toList != i2.toList) = false := n1
                  have n2 : (!l1.toList == l2.toList) = false := by rw [p2]; rfl
                  have n2b : (l1.toList != l2.toList) = false := n2
                  have n3 : (s1 != s2) = false := by rw [bne, q3]; rfl
                  have n4 : (t1 != t2) = false := by rw [bne, q4]; rfl
                  have n5 : (e1 != e2) = false := by rw [bne, q5]; rfl
                  go_enter Tryz.func8, Tryz.ntmps8
                  go_wp2_with fail
                  clear hlenb f0 f1 f2 f3 f4 f5 f6 g0 g1 g2 g3 g4 g5 g6 p1 p2 q0 q3 q4 q5 n0 n1 n2 n1b n2b n3 n4 n5
                  generalize hgg : w.heap.size = g at *
                  go_loopw [5] (fun i wr => ∃ k : Nat, k ≤ xs.length ∧ i = .int .i64 k ∧ Hid (xs.take k = ys.take k) ∧ Below w2.heap.size w2 wr) (fun i _ => xs.length - (intOf i).toNat)
                  case atStart => exact ⟨0, Nat.zero_le _, rfl, rfl, Below.refl _ _⟩
                  case round =>
                    obtain ⟨k, hk, rfl, HT, hbr⟩ := hrel
                    have hbw : Below g w wr := hb12.trans (hbr.mono (by omega))
                    obtain ⟨f0, f1, f2, f3, f4, f5, f6⟩ := (HB1.out.keep hbr (by omega)).zero
                    obtain ⟨g0, g1, g2, g3, g4, g5, g6⟩ := (HB2.out.keep hbr (by omega)).zero
                    by_cases hlt : k < xs.length
                    · have hlty : k < ys.length := by have := HL.out; omega
                      obtain ⟨b3, o3, rfl, hb3, cs, hcs, hcells⟩ := (HX.out.next (by omega) (hgg ▸ hbw)).cont hlt
                      obtain ⟨b4, o4, rfl, hb4, ds, hds, hdells⟩ := (HY.out.next (by omega) (hgg ▸ hbw)).cont hlty
                      obtain ⟨x, hx⟩ : ∃ x, xs[k] = x := ⟨_, rfl⟩
                      obtain ⟨y, hy⟩ : ∃ y, ys[k] = y := ⟨_, rfl⟩
                      have hxm : x ∈ xs := hx ▸ List.getElem_mem hlt
                      have hxk : xs[k]? = some x := by rw [← hx]; exact List.getElem?_eq_getElem hlt
                      have hyk : ys[k]? = some y := by rw [← hy]; exact List.getElem?_eq_getElem hlty
                      rw [hx] at hcs; rw [hy] at hds
                      have hszx := HMEM.out x hxm
                      have HXK := Lib.hid hxk; have HYK := Lib.hid hyk
                      clear hxk hyk hx hy hxm
                      obtain ⟨kk2, j2, m2, r2, u2, v2, xs2⟩ := x
                      obtain ⟨A2, c2, rfl, -, -⟩ := CRd_iff.1 hcs
                      obtain ⟨kk3, j3, m3, r3, u3, v3, xs3⟩ := y
                      obtain ⟨A3, c3, rfl, -, -⟩ := CRd_iff.1 hds
                      have HC := Lib.hid (cells7 hcells)
                      have HD := Lib.hid (cells7 hdells)
                      have i1 : (k : Int) < (xs.length : Int) := by omega
                      have i2' : (k : Int) < (ys.length : Int) := by omega
                      have HCS := Lib.hid hcs; have HDS := Lib.hid hds
                      clear hcells hdells hcs hds
                      go_wp2_with fail
                      refine wp_region_held_drew (S := fun w' => Below wr.heap.size wr w') (by kernel_rfl) (below_drewN_self wr wr.heap.size 1) (fun _ => ?_)
                      refine wpAnyH_take (i := 0) (oi := ⟨some 62, _, _, _, _, _⟩) (v := .pointer (some ⟨g, 6, none⟩)) rfl (by kernel_rfl) (by kernel_rfl) (by kernel_rfl) (fun _ _ _ h => h) (Or.inl ⟨by rfl, fun w' hS => by go_simp⟩) (by assumption) ?_
                      try simp only [Act.put, List.setIfInBounds_toArray, List.set_cons_zero, List.set_cons_succ]
                      refine wpAnyH_take (i := 1) (oi := ⟨some 63, _, _, _, _, _⟩) (v := .slice (some ⟨b3, o3, none⟩) xs.length c) rfl (by kernel_rfl) (by kernel_rfl) (by kernel_rfl) (fun _ _ _ h => h) (Or.inl ⟨by rfl, fun w' hS => by (obtain ⟨z0, z1, z2, z3, z4, z5, z6⟩ := ((HB1.out.keep hbr (by omega)).keep hS (by have := hbr.size; omega)).zero; go_simp)⟩) (by assumption) ?_
                      try simp only [Act.put, List.setIfInBounds_toArray, List.set_cons_zero, List.set_cons_succ]
                      refine wpAnyH_take (i := 2) (oi := ⟨some 64, _, _, _, _, _⟩) (v := .int .i64 k) rfl (by kernel_rfl) (by kernel_rfl) (by kernel_rfl) (fun _ _ _ h => h) (Or.inl ⟨by rfl, fun w' hS => by go_simp⟩) (by assumption) ?_
                      try simp only [Act.put, List.setIfInBounds_toArray, List.set_cons_zero, List.set_cons_succ]
                      refine wpAnyH_take (i := 3) (oi := ⟨some 65, _, _, _, _, _⟩) (v := .pointer (some ⟨b3, o3 + k * 7, none⟩)) rfl (by kernel_rfl) (by kernel_rfl) (by kernel_rfl) (fun _ _ _ h => h) (Or.inl ⟨by rfl, fun w' hS => by go_simp⟩) (by assumption) ?_
                      try simp only [Act.put, List.setIfInBounds_toArray, List.set_cons_zero, List.set_cons_succ]
                      refine wpAnyH_take (i := 4) (oi := ⟨some 66, _, _, _, _, _⟩) (v := (.agg #[.int .i64 kk2, .string j2, .string m2, .int .i64 r2, .int .i64 u2, .int .i64 v2, .slice A2 xs2.length c2])) rfl (by kernel_rfl) (by kernel_rfl) (by kernel_rfl) (fun _ _ _ h => h) (Or.inl ⟨by rfl, fun w' hS => by (obtain ⟨z0, z1, z2, z3, z4, z5, z6⟩ := HC.out.keep hS hb3; go_simp)⟩) (by assumption) ?_
                      try simp only [Act.put, List.setIfInBounds_toArray, List.set_cons_zero, List.set_cons_succ]
                      refine wpAnyH_take (i := 5) (oi := ⟨some 67, _, _, _, _, _⟩) (v := .pointer (some ⟨g + 1, 6, none⟩)) rfl (by kernel_rfl) (by kernel_rfl) (by kernel_rfl) (fun _ _ _ h => h) (Or.inl ⟨by rfl, fun w' hS => by go_simp⟩) (by assumption) ?_
                      try simp only [Act.put, List.setIfInBounds_toArray, List.set_cons_zero, List.set_cons_succ]
                      refine wpAnyH_take (i := 6) (oi := ⟨some 68, _, _, _, _, _⟩) (v := .slice (some ⟨b4, o4, none⟩) ys.length d) rfl (by kernel_rfl) (by kernel_rfl) (by kernel_rfl) (fun _ _ _ h => h) (Or.inl ⟨by rfl, fun w' hS => by (obtain ⟨z0, z1, z2, z3, z4, z5, z6⟩ := ((HB2.out.keep hbr (by omega)).keep hS (by have := hbr.size; omega)).zero; go_simp)⟩) (by assumption) ?_
                      try simp only [Act.put, List.setIfInBounds_toArray, List.set_cons_zero, List.set_cons_succ]
                      refine wpAnyH_take (i := 7) (oi := ⟨some 69, _, _, _, _, _⟩) (v := .int .i64 k) rfl (by kernel_rfl) (by kernel_rfl) (by kernel_rfl) (fun _ _ _ h => h) (Or.inl ⟨by rfl, fun w' hS => by go_simp⟩) (by assumption) ?_
                      try simp only [Act.put, List.setIfInBounds_toArray, List.set_cons_zero, List.set_cons_succ]
                      refine wpAnyH_take (i := 8) (oi := ⟨some 70, _, _, _, _, _⟩) (v := .pointer (some ⟨b4, o4 + k * 7, none⟩)) rfl (by kernel_rfl) (by kernel_rfl) (by kernel_rfl) (fun _ _ _ h => h) (Or.inl ⟨by rfl, fun w' hS => by go_simp⟩) (by assumption) ?_
                      try simp only [Act.put, List.setIfInBounds_toArray, List.set_cons_zero, List.set_cons_succ]
                      refine wpAnyH_take (i := 9) (oi := ⟨some 71, _, _, _, _, _⟩) (v := (.agg #[.int .i64 kk3, .string j3, .string m3, .int .i64 r3, .int .i64 u3, .int .i64 v3, .slice A3 xs3.length c3])) rfl (by kernel_rfl) (by kernel_rfl) (by kernel_rfl) (fun _ _ _ h => h) (Or.inl ⟨by rfl, fun w' hS => by (obtain ⟨z0, z1, z2, z3, z4, z5, z6⟩ := HD.out.keep hS hb4; go_simp)⟩) (by assumption) ?_
                      try simp only [Act.put, List.setIfInBounds_toArray, List.set_cons_zero, List.set_cons_succ]
                      refine wpAnyH_ready (rs := [10]) (by kernel_rfl) (by simp) ?_
                      refine AllReadyH.cons (o := ⟨some 72, .call ⟨_, _, _⟩, _, _, _, _⟩) rfl (fun K hK => ?_) AllReadyH.nil
                      go_simp
                      go_at_call 8
                      have hbd := below_drewN_self wr wr.heap.size 1
                      refine (IH.out (.mk kk2 j2 m2 r2 u2 v2 xs2) (.mk kk3 j3 m3 r3 u3 v3 xs3) _ _ wr.drew hszx (CRd_more (Nat.le_refl _) _ _ (CRd_keep hbd _ _ HCS.out)) (CRd_more (Nat.le_refl _) _ _ (CRd_keep hbd _ _ HDS.out))).mono ?_
                      rintro e' w3 ⟨rfl, hb3'⟩
                      have hbn : Below wr.heap.size wr w3 := hbd.trans hb3'
                      refine hK.out _ _ hbn (fun _ => ?_)
                      clear hK K
                      try simp only [Act.put, List.setIfInBounds_toArray, List.set_cons_zero, List.set_cons_succ]
                      have hbm : Below w2.heap.size w2 w3 := hbr.trans (hbn.mono hbr.size)
                      have hbo : Below g w w3 := hb12.trans (hbm.mono (by omega))
                      cases hs : sameC (.mk kk2 j2 m2 r2 u2 v2 xs2) (.mk kk3 j3 m3 r3 u3 v3 xs3) with
                      | true =>
                        have HS := Lib.hid hs; clear hs
                        refine wpAnyH_take (i := 11) (oi := ⟨some 73, _, _, _, _, _⟩) (v := .bool false) rfl (by kernel_rfl) (by kernel_rfl) (by kernel_rfl) (fun _ _ _ h => h) (Or.inl ⟨by rfl, fun w' hS => by go_simp⟩) hbn ?_
                        try simp only [Act.put, List.setIfInBounds_toArray, List.set_cons_zero, List.set_cons_succ]
                        refine wpAnyH_done (by kernel_rfl) ?_ _
                        clear f0 f1 f2 f3 f4 f5 f6 g0 g1 g2 g3 g4 g5 g6
                        go_wp2
                        go_roundw
                        case rel => exact ⟨k + 1, by omega, by go_num, take_same HT.out HXK.out HYK.out HS.out, hbm⟩
                        case measure => simp [intOf]; omega
                      | false =>
                        have HS := Lib.hid hs; clear hs
                        refine wpAnyH_take (i := 11) (oi := ⟨some 73, _, _, _, _, _⟩) (v := .bool true) rfl (by kernel_rfl) (by kernel_rfl) (by kernel_rfl) (fun _ _ _ h => h) (Or.inl ⟨by rfl, fun w' hS => by go_simp⟩) hbn ?_
                        try simp only [Act.put, List.setIfInBounds_toArray, List.set_cons_zero, List.set_cons_succ]
                        refine wpAnyH_done (by kernel_rfl) ?_ _
                        clear f0 f1 f2 f3 f4 f5 f6 g0 g1 g2 g3 g4 g5 g6
                        go_wp2
                        go_ret
                        exact ⟨ret_bool (by rw [HMK.out]; exact (sameL_at HXK.out HYK.out HS.out).symm), by first | exact hbo | (rw [hgg]; exact hbo)⟩
                    · have i2' : ¬ (k : Int) < (ys.length : Int) := by have := HL.out; omega
                      have i1 : ¬ (k : Int) < (xs.length : Int) := by omega
                      go_wp2
                      go_ret
                      exact ⟨ret_bool (by rw [HMK.out]; exact (sameL_all HT.out (by omega) (by have := HL.out; omega)).symm), by first | exact hbw | (rw [hgg]; exact hbw)⟩
                · have hs := sameL_len hlen
                  have HS := Lib.hid hs; clear hs
                  have hlenb : ((xs.length : Int) != ys.length) = true := by simpa using (show ¬ (xs.length : Int) = ys.length by omega)
                  have hlen' : ((xs.length : Int) == ys.length) = false := by simpa using (show ¬ (xs.length : Int) = ys.length by omega)
                  have n0 : (k1 != k2) = false := by rw [bne, q0]; rfl
                  have n1 : (!i1.toList == i2.toList) = false := by rw [p1]; rfl
                  have n1b : (i1.toList != i2.toList) = false := n1
                  have n2 : (!l1.toList == l2.toList) = false := by rw [p2]; rfl
                  have n2b : (l1.toList != l2.toList) = false := n2
                  have n3 : (s1 != s2) = false := by rw [bne, q3]; rfl
                  have n4 : (t1 != t2) = false := by rw [bne, q4]; rfl
                  have n5 : (e1 != e2) = false := by rw [bne, q5]; rfl
                  go_enter Tryz.func8, Tryz.ntmps8
                  go_wp2
                  go_ret
                  exact ⟨ret_bool (by rw [HMK.out, HS.out]), hb12⟩
              · have q5' : (e1 == e2) = false := by simpa using q5
                have hf : sameC (.mk k1 i1 l1 s1 t1 e1 xs) (.mk k2 i2 l2 s2 t2 e2 ys) = false := by rw [hmk, q5']; simp
                have HF := Lib.hid hf; clear hf hmk q5
                have p1 : (i1.toList == i2.toList) = true := by rw [ba_beq]; exact decide_eq_true q1
                have p2 : (l1.toList == l2.toList) = true := by rw [ba_beq]; exact decide_eq_true q2
                have Q1 := Lib.hid q1; have Q2 := Lib.hid q2; clear q1 q2
                have n0 : (k1 != k2) = false := by rw [bne, q0]; rfl
                have n1 : (!i1.toList == i2.toList) = false := by rw [p1]; rfl
                have n1b : (i1.toList != i2.toList) = false := n1
                have n2 : (!l1.toList == l2.toList) = false := by rw [p2]; rfl
                have n2b : (l1.toList != l2.toList) = false := n2
                have n3 : (s1 != s2) = false := by rw [bne, q3]; rfl
                have n4 : (t1 != t2) = false := by rw [bne, q4]; rfl
                have n5 : (e1 != e2) = true := by rw [bne, q5']; rfl
                go_enter Tryz.func8, Tryz.ntmps8
                go_wp2
                go_ret
                exact ⟨ret_bool HF.out.symm, hb12⟩
            · have q4' : (t1 == t2) = false := by simpa using q4
              have hf : sameC (.mk k1 i1 l1 s1 t1 e1 xs) (.mk k2 i2 l2 s2 t2 e2 ys) = false := by rw [hmk, q4']; simp
              have HF := Lib.hid hf; clear hf hmk q4
              have p1 : (i1.toList == i2.toList) = true := by rw [ba_beq]; exact decide_eq_true q1
              have p2 : (l1.toList == l2.toList) = true := by rw [ba_beq]; exact decide_eq_true q2
              have Q1 := Lib.hid q1; have Q2 := Lib.hid q2; clear q1 q2
              have n0 : (k1 != k2) = false := by rw [bne, q0]; rfl
              have n1 : (!i1.toList == i2.toList) = false := by rw [p1]; rfl
              have n1b : (i1.toList != i2.toList) = false := n1
              have n2 : (!l1.toList == l2.toList) = false := by rw [p2]; rfl
              have n2b : (l1.toList != l2.toList) = false := n2
              have n3 : (s1 != s2) = false := by rw [bne, q3]; rfl
              have n4 : (t1 != t2) = true := by rw [bne, q4']; rfl
              go_enter Tryz.func8, Tryz.ntmps8
              go_wp2
              go_ret
              exact ⟨ret_bool HF.out.symm, hb12⟩
          · have q3' : (s1 == s2) = false := by simpa using q3
            have hf : sameC (.mk k1 i1 l1 s1 t1 e1 xs) (.mk k2 i2 l2 s2 t2 e2 ys) = false := by rw [hmk, q3']; simp
            have HF := Lib.hid hf; clear hf hmk q3
            have p1 : (i1.toList == i2.toList) = true := by rw [ba_beq]; exact decide_eq_true q1
            have p2 : (l1.toList == l2.toList) = true := by rw [ba_beq]; exact decide_eq_true q2
            have Q1 := Lib.hid q1; have Q2 := Lib.hid q2; clear q1 q2
            have n0 : (k1 != k2) = false := by rw [bne, q0]; rfl
            have n1 : (!i1.toList == i2.toList) = false := by rw [p1]; rfl
            have n1b : (i1.toList != i2.toList) = false := n1
            have n2 : (!l1.toList == l2.toList) = false := by rw [p2]; rfl
            have n2b : (l1.toList != l2.toList) = false := n2
            have n3 : (s1 != s2) = true := by rw [bne, q3']; rfl
            go_enter Tryz.func8, Tryz.ntmps8
            go_wp2
            go_ret
            exact ⟨ret_bool HF.out.symm, hb12⟩
        · have hf : sameC (.mk k1 i1 l1 s1 t1 e1 xs) (.mk k2 i2 l2 s2 t2 e2 ys) = false := by rw [hmk, decide_eq_false q2]; simp
          have HF := Lib.hid hf; clear hf hmk
          have p1 : (i1.toList == i2.toList) = true := by rw [ba_beq]; exact decide_eq_true q1
          have p2 : (l1.toList == l2.toList) = false := by rw [ba_beq]; exact decide_eq_false q2
          have Q1 := Lib.hid q1; clear q1 q2
          have n0 : (k1 != k2) = false := by rw [bne, q0]; rfl
          have n1 : (!i1.toList == i2.toList) = false := by rw [p1]; rfl
          have n1b : (i1.toList != i2.toList) = false := n1
          have n2 : (!l1.toList == l2.toList) = true := by rw [p2]; rfl
          have n2b : (l1.toList != l2.toList) = true := n2
          go_enter Tryz.func8, Tryz.ntmps8
          go_wp2
          go_ret
          exact ⟨ret_bool HF.out.symm, hb12⟩
      · have hf : sameC (.mk k1 i1 l1 s1 t1 e1 xs) (.mk k2 i2 l2 s2 t2 e2 ys) = false := by rw [hmk, decide_eq_false q1]; simp
        have HF := Lib.hid hf; clear hf hmk
        have p1 : (i1.toList == i2.toList) = false := by rw [ba_beq]; exact decide_eq_false q1
        clear q1
        have n0 : (k1 != k2) = false := by rw [bne, q0]; rfl
        have n1 : (!i1.toList == i2.toList) = true := by rw [p1]; rfl
        have n1b : (i1.toList != i2.toList) = true := n1
        go_enter Tryz.func8, Tryz.ntmps8
        go_wp2
        go_ret
        exact ⟨ret_bool HF.out.symm, hb12⟩
    · have q0' : (k1 == k2) = false := by simpa using q0
      have hf : sameC (.mk k1 i1 l1 s1 t1 e1 xs) (.mk k2 i2 l2 s2 t2 e2 ys) = false := by rw [hmk, q0']; simp
      have HF := Lib.hid hf; clear hf hmk q0
      have n0 : (k1 != k2) = true := by rw [bne, q0']; rfl
      go_enter Tryz.func8, Tryz.ntmps8
      go_wp2
      go_ret
      exact ⟨ret_bool HF.out.symm, hb12⟩
theorem RSame_any (a b : Cont) (csa csb : List Value) (w : World) (ha : CRd w w.heap.size a csa) (hb : CRd w w.heap.size b csb) :
    Calls Tryz.prog 8 #[.agg csa.toArray, .agg csb.toArray] w fun e w' => e = .returned (.bool (sameC a b)) ∧ Below w.heap.size w w' :=
  RSame_all _ a b csa csb w (Nat.lt_succ_self _) ha hb
end Go.Proofs.YtnlocdhhecockaaGreatDoor
