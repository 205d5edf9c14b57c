/-
  ContentDepths answers true for every tape: program and reference find the same depth of a valid content, and the same contents in it.
  Conditions: those of the given row and card, nothing else.
-/
import Derived.Test.YtnlocdhhecockaaDoorCqA
import Derived.Test.YtnlocdhhecockaaDoorCpE
import Derived.Test.YtnlocdhhecockaaDoorCnG
import Derived.Test.YtnlocdhhecockaaDoorCnD
import Derived.Lib.QuietBelow
import Derived.BigQuiet
set_option linter.unusedSimpArgs false
set_option linter.unusedVariables false
namespace Go.Proofs.YtnlocdhhecockaaDoor
open Go.RowKit Go.Cold Go.Sort

/-- A tape that a law has boxed. -/
theorem tape_new {w : World} {A : Option Addr} {c : Nat} {xs : List Int} (h : Sl w w.heap.size A c xs) : TapeAt (w.alloc (.cells #[.slice A xs.length c, .int .i64 0] 28)) w.heap.size w.heap.size xs 0 := by
  refine ⟨A, c, ?_, ?_, fun j => World.frozen?_alloc_at _ _ _ _ rfl, h.keep ((Below.refl _ _).alloc (Nat.le_refl _) _), Nat.le_refl _, by simp⟩ <;> (rw [World.cell?_alloc_at _ _ _ _ rfl]; rfl)

set_option maxHeartbeats 2000000 in
set_option maxRecDepth 100000 in
theorem lawDepths_any (A : Option Addr) (c : Nat) (xs : List Int) (w : World) (hok : Ok7 w) (hx : Sl w w.heap.size A c xs) : Calls Tryd.prog 5 #[.slice A xs.length c] w fun e w' => e = .returned (.bool true) ∧ Below w.heap.size w w' := by
  have HOK := Lib.hid hok; have HX := Lib.hid hx; clear hok hx
  go_enter Tryd.func5, Tryd.ntmps5
  go_wp2_with fail
  have htape := tape_new HX.out
  obtain ⟨w1, hw1⟩ : ∃ w1, w.alloc (.cells #[.slice A xs.length c, .int .i64 0] 28) = w1 := ⟨_, rfl⟩
  rw [hw1] at htape ⊢
  have hb1 : Below w.heap.size w w1 := by rw [← hw1]; exact (Below.refl _ _).alloc (Nat.le_refl _) _
  have hs1 : w1.heap.size = w.heap.size + 1 := by rw [← hw1]; simp
  have HB1 := Lib.hid hb1; have HS1 := Lib.hid hs1
  have hcall := valid_any xs w.heap.size w.heap.size 5 0 w1 (by decide) htape
  clear hw1 hb1 hs1 htape
  refine Calls.mono (hcall : Calls Tryd.prog 9 #[.pointer (some ⟨w.heap.size, 0, none⟩), .int .i64 5] w1 _) ?_
  rintro e w2 ⟨cc, cs, k', rfl, hnew, -, hg2, hall, hdep, hnod, -⟩
  clear hcall
  have hb2 : Below w.heap.size w w2 := below_of_grown HB1.out hg2 (by have := HS1.out; omega) (Nat.le_refl _)
  have hrd2 := hnew.crd
  obtain ⟨kk, i, l, s, t, le, ys⟩ := cc
  obtain ⟨A3, c3, rfl⟩ := CRdS_cells hnew
  simp only [contCells] at hrd2 ⊢
  obtain ⟨C, hC⟩ : ∃ C, Cont.mk kk i l s t le ys = C := ⟨_, rfl⟩
  rw [hC] at hrd2 hall hdep hnod
  have HB2 := Lib.hid hb2; have HRD2 := Lib.hid hrd2; have HALL := Lib.hid hall; have HDEP := Lib.hid (show depthC C ≤ 5 from hdep); have HNOD := Lib.hid (show nodesC C ≤ 2 ^ 40 by have h : nodesC C ≤ 4 ^ 5 := hnod; omega)
  clear hb2 hrd2 hall hdep hnod hnew hg2 hC
  go_upto_region 2 with fail
  obtain ⟨w3, hw3⟩ : ∃ w3, w2.alloc (.cells #[.int .i64 kk, .string i, .string l, .int .i64 s, .int .i64 t, .int .i64 le, .slice A3 ys.length c3] 24) = w3 := ⟨_, rfl⟩
  obtain ⟨hb3, hg3, hbox3⟩ := box7 hw3
  rw [hw3]
  have hb03 : Below w.heap.size w w3 := HB2.out.trans (hb3.mono HB2.out.size)
  have hrd3 := CRd_more (show w2.heap.size ≤ w3.heap.size by omega) _ _ (CRd_keep hb3 _ _ HRD2.out)
  have HB3 := Lib.hid hb03; have HRD3 := Lib.hid hrd3; have HBOX := Lib.hid hbox3; have HG3 := Lib.hid hg3
  clear hw3 hb3 hg3 hbox3 hb03 hrd3
  refine wp_region_held_drew (S := fun w' => Below w3.heap.size w3 w') (by kernel_rfl) (below_drewN_self w3 w3.heap.size 1) (fun hS0 => ?_)
  refine wpAnyH_take (i := 0) (oi := ⟨some 11, _, _, _, _, _⟩) (v := .agg #[.int .i64 kk, .string i, .string l, .int .i64 s, .int .i64 t, .int .i64 le, .slice A3 ys.length c3]) rfl (by kernel_rfl) (by kernel_rfl) (by kernel_rfl) (fun _ _ _ h => h) (Or.inl ⟨by rfl, fun w' hS => by (obtain ⟨z0, z1, z2, z3, z4, z5, z6⟩ := (HBOX.out.keep hS (by have := HG3.out; omega)).zero; go_simp)⟩) hS0 ?_
  try simp only [Act.put, List.setIfInBounds_toArray, List.set_cons_zero, List.set_cons_succ]
  refine wpAnyH_take (i := 2) (oi := ⟨some 13, _, _, _, _, _⟩) (v := .agg #[.int .i64 kk, .string i, .string l, .int .i64 s, .int .i64 t, .int .i64 le, .slice A3 ys.length c3]) rfl (by kernel_rfl) (by kernel_rfl) (by kernel_rfl) (fun _ _ _ h => h) (Or.inl ⟨by rfl, fun w' hS => by (obtain ⟨z0, z1, z2, z3, z4, z5, z6⟩ := (HBOX.out.keep hS (by have := HG3.out; omega)).zero; go_simp)⟩) hS0 ?_
  try simp only [Act.put, List.setIfInBounds_toArray, List.set_cons_zero, List.set_cons_succ]
  refine wpAnyH_ready (rs := [1]) (by kernel_rfl) (by simp) ?_
  refine AllReadyH.cons (o := ⟨some 12, .call ⟨_, _, _⟩, _, _, _, _⟩) rfl (fun K hK => ?_) AllReadyH.nil
  go_simp
  go_at_call 18
  refine (Walk_any C _ w3.drew (CRd_keep hS0 _ _ HRD3.out) HNOD.out).mono ?_
  rintro e' w4 ⟨v1, rfl, ho1, hb4⟩
  obtain ⟨A1, c1, rfl, hsl1⟩ := ho1.sl
  have hS1 : Below w3.heap.size w3 w4 := hS0.trans hb4
  refine hK.out _ _ hS1 (fun _ => ?_)
  clear hK K
  try simp only [Act.put, List.setIfInBounds_toArray, List.set_cons_zero, List.set_cons_succ]
  refine wpAnyH_ready (rs := [3]) (by kernel_rfl) (by simp) ?_
  refine AllReadyH.cons (o := ⟨some 14, .call ⟨_, _, _⟩, _, _, _, _⟩) rfl (fun K hK => ?_) AllReadyH.nil
  go_simp
  go_at_call 19
  refine (RWalk_any C _ w3.heap.size w4 hS1.size (CRd_keep hS1 _ _ HRD3.out) HNOD.out).mono ?_
  rintro e' w5 ⟨v2, rfl, ho2, hb5⟩
  obtain ⟨A2, c2, rfl, hsl2⟩ := ho2.sl
  have hS2 : Below w3.heap.size w3 w5 := hS1.trans (hb5.mono hS1.size)
  refine hK.out _ _ hS2 (fun _ => ?_)
  clear hK K
  try simp only [Act.put, List.setIfInBounds_toArray, List.set_cons_zero, List.set_cons_succ]
  refine wpAnyH_take (i := 4) (oi := ⟨some 4, _, _, _, _, _⟩) (v := .slice A1 (walkC C).length c1) rfl (by kernel_rfl) (by kernel_rfl) (by kernel_rfl) (fun _ _ _ h => h) (Or.inl ⟨by rfl, fun w' hS => by go_simp⟩) hS2 ?_
  try simp only [Act.put, List.setIfInBounds_toArray, List.set_cons_zero, List.set_cons_succ]
  refine wpAnyH_take (i := 5) (oi := ⟨some 5, _, _, _, _, _⟩) (v := .slice A2 (walkC C).length c2) rfl (by kernel_rfl) (by kernel_rfl) (by kernel_rfl) (fun _ _ _ h => h) (Or.inl ⟨by rfl, fun w' hS => by go_simp⟩) hS2 ?_
  try simp only [Act.put, List.setIfInBounds_toArray, List.set_cons_zero, List.set_cons_succ]
  refine wpAnyH_done (by kernel_rfl) ?_ _
  have hs15 := hsl1.next (Nat.le_refl _) hb5
  obtain ⟨L, hL⟩ : ∃ L, walkC C = L := ⟨_, rfl⟩
  rw [hL] at hs15 hsl2 ⊢
  have hn1 := hs15.1; have hn2 := hs15.2.1; have hn3 := hsl2.1; have hn4 := hsl2.2.1
  unfold maxLen at hn2 hn4
  have HSL1 := Lib.hid hs15; have HSL2 := Lib.hid hsl2; have HL := Lib.hid hL; have HS2 := Lib.hid hS2
  clear hs15 hsl2 hsl1 hL hS2 hS1 hS0 hb4 hb5 ho1 ho2
  have hd1 := depth_same C HALL.out
  have hd2 : depthC C ≤ 2 ^ 60 := by have := HDEP.out; omega
  obtain ⟨x0, x1, x2, x3, x4, x5, x6⟩ := (HBOX.out.keep HS2.out (by have := HG3.out; omega)).zero
  have k0 := cell_regrown x0; have k1 := cell_regrown x1; have k2 := cell_regrown x2; have k3 := cell_regrown x3; have k4 := cell_regrown x4; have k5 := cell_regrown x5; have k6 := cell_regrown x6
  obtain ⟨z, hz⟩ : ∃ z, depthC C = z := ⟨_, rfl⟩
  have hrd5 := CRd_more HS2.out.size _ _ (CRd_keep HS2.out _ _ HRD3.out)
  have cD : ∀ d os, Calls Tryd.prog 20 #[.agg #[.int .i64 kk, .string i, .string l, .int .i64 s, .int .i64 t, .int .i64 le, .slice A3 ys.length c3]] (grow (redrawn w5 d) os) fun e w'' => e = .returned (.int .i64 z) ∧ ∃ p : Regrown, w'' = grow (redrawn w5 p.d) p.os := fun d os => by
    have h := Depth_any C _ (grow (redrawn w5 d) os) (CRd_more (below_regrown w5 d os).size _ _ (CRd_keep (below_regrown w5 d os) _ _ hrd5)) hd2
    rw [hz] at h
    exact Calls.regrown_of h
  have cR : ∀ d os, Calls Tryd.prog 21 #[.agg #[.int .i64 kk, .string i, .string l, .int .i64 s, .int .i64 t, .int .i64 le, .slice A3 ys.length c3]] (grow (redrawn w5 d) os) fun e w'' => e = .returned (.int .i64 z) ∧ ∃ p : Regrown, w'' = grow (redrawn w5 p.d) p.os := fun d os => by
    have h := RDepth_any C _ (grow (redrawn w5 d) os) (CRd_more (below_regrown w5 d os).size _ _ (CRd_keep (below_regrown w5 d os) _ _ hrd5)) hd2
    rw [hd1, hz] at h
    exact Calls.regrown_of h
  have HZ := Lib.hid hz; have HRD5 := Lib.hid hrd5; have HD2 := Lib.hid hd2
  clear x0 x1 x2 x3 x4 x5 x6 hz hrd5 hd1 hd2
  go_wp2_with fail
  refine wp_region_quiet_below (by kernel_rfl) (by kernel_rfl) ?_
  repeat (quiet_step (first | (go_at_call 20; exact cD _ _) | (go_at_call 21; exact cR _ _)))
  refine wpQuiet_nil ?_
  intro _ hw'
  obtain ⟨⟨dq, osq⟩, hw''⟩ := hw'
  subst hw''
  clear cD cR k0 k1 k2 k3 k4 k5 k6
  have hb6 := below_regrown w5 dq osq
  obtain ⟨w6, hw6⟩ : ∃ w6, grow (redrawn w5 dq) osq = w6 := ⟨_, rfl⟩
  rw [hw6] at hb6
  simp only [hw6]
  have HB6 := Lib.hid hb6; clear hb6 hw6
  have hb06 : Below w.heap.size w w6 := HB3.out.trans ((HS2.out.trans (HB6.out.mono HS2.out.size)).mono HB3.out.size)
  have HB06 := Lib.hid hb06; clear hb06
  go_wp2_with fail
  go_loopw [6] (fun i wr => ∃ m : Nat, m ≤ L.length ∧ i = .int .i64 m ∧ Below w6.heap.size w6 wr) (fun i _ => L.length - (intOf i).toNat)
  case atStart => exact ⟨0, Nat.zero_le _, rfl, Below.refl _ _⟩
  case round =>
    obtain ⟨m, hm, rfl, hb⟩ := hrel
    have h56 : Below w5.heap.size w5 wr := HB6.out.trans (hb.mono HB6.out.size)
    have h36 : Below w3.heap.size w3 wr := HS2.out.trans (h56.mono HS2.out.size)
    have h06 : Below w.heap.size w wr := HB06.out.trans (hb.mono HB06.out.size)
    by_cases hlt : m < L.length
    · have i1 : (m : Int) < (L.length : Int) := by omega
      obtain ⟨b4, o4, rfl, hb4, ds, hds, hdc⟩ := (HSL1.out.next (Nat.le_refl _) h56).cont hlt
      obtain ⟨b5, o5, rfl, hb5, es, hes, hec⟩ := (HSL2.out.next (Nat.le_refl _) h56).cont hlt
      obtain ⟨x, hx⟩ : ∃ x, L[m] = x := ⟨_, rfl⟩
      rw [hx] at hds hes
      have hxm : (walkC C)[m]? = some x := by rw [HL.out, ← hx]; exact List.getElem?_eq_getElem hlt
      have hxd : depthC x ≤ depthC C := depth_walk C x (List.mem_of_getElem? hxm)
      have hxl : 0 < m → depthC x < depthC C := fun h => depth_less HALL.out hxm h
      obtain ⟨kk2, i2, l2, s2, t2, e2, xs2⟩ := x
      obtain ⟨A4, c4, rfl, -, -⟩ := CRd_iff.1 hds
      obtain ⟨A5, c5, rfl, -, -⟩ := CRd_iff.1 hes
      obtain ⟨a0, a1, a2, a3, a4, a5, a6⟩ := cells7 hdc
      obtain ⟨e0, e1, e2', e3, e4, e5, e6⟩ := cells7 hec
      obtain ⟨x0, x1, x2, x3, x4, x5, x6⟩ := (HBOX.out.keep h36 (by have := HG3.out; omega)).zero
      have k0 := cell_regrown x0; have k1 := cell_regrown x1; have k2 := cell_regrown x2; have k3 := cell_regrown x3; have k4 := cell_regrown x4; have k5 := cell_regrown x5; have k6 := cell_regrown x6
      have j0 := cell_regrown a0; have j1 := cell_regrown a1; have j2 := cell_regrown a2; have j3 := cell_regrown a3; have j4 := cell_regrown a4; have j5 := cell_regrown a5; have j6 := cell_regrown a6
      have q0 := cell_regrown e0; have q1 := cell_regrown e1; have q2 := cell_regrown e2'; have q3 := cell_regrown e3; have q4 := cell_regrown e4; have q5 := cell_regrown e5; have q6 := cell_regrown e6
      obtain ⟨X, hX⟩ : ∃ X, Cont.mk kk2 i2 l2 s2 t2 e2 xs2 = X := ⟨_, rfl⟩
      rw [hX] at hds hes hxd hxl
      obtain ⟨y, hy⟩ : ∃ y, depthC X = y := ⟨_, rfl⟩
      have hr1 := hds
      have hr2 := hes
      have hr0 := CRd_more h56.size _ _ (CRd_keep h56 _ _ HRD5.out)
      have HC1 := Lib.hid (cells7 hdc); have HC2 := Lib.hid (cells7 hec)
      have HSAME := Lib.hid (show ∀ W, Below wr.heap.size wr W → Calls Tryd.prog 16 #[.agg #[.int .i64 kk2, .string i2, .string l2, .int .i64 s2, .int .i64 t2, .int .i64 e2, .slice A4 xs2.length c4], .agg #[.int .i64 kk2, .string i2, .string l2, .int .i64 s2, .int .i64 t2, .int .i64 e2, .slice A5 xs2.length c5]] W (fun e w' => e = .returned (.bool true) ∧ Below W.heap.size W w') from fun W hW => by
        have h := RSame_any X X _ _ W (CRd_more hW.size _ _ (CRd_keep hW _ _ hr1)) (CRd_more hW.size _ _ (CRd_keep hW _ _ hr2))
        rw [sameC_self] at h
        exact h)
      have cS : ∀ d os, Calls Tryd.prog 16 #[.agg #[.int .i64 kk2, .string i2, .string l2, .int .i64 s2, .int .i64 t2, .int .i64 e2, .slice A4 xs2.length c4], .agg #[.int .i64 kk2, .string i2, .string l2, .int .i64 s2, .int .i64 t2, .int .i64 e2, .slice A5 xs2.length c5]] (grow (redrawn wr d) os) fun e w'' => e = .returned (.bool true) ∧ ∃ p : Regrown, w'' = grow (redrawn wr p.d) p.os := fun d os => by
        have h := RSame_any X X _ _ (grow (redrawn wr d) os) (CRd_more (below_regrown wr d os).size _ _ (CRd_keep (below_regrown wr d os) _ _ hr1)) (CRd_more (below_regrown wr d os).size _ _ (CRd_keep (below_regrown wr d os) _ _ hr2))
        rw [sameC_self] at h
        exact Calls.regrown_of h
      have cX : ∀ d os, Calls Tryd.prog 20 #[.agg #[.int .i64 kk2, .string i2, .string l2, .int .i64 s2, .int .i64 t2, .int .i64 e2, .slice A4 xs2.length c4]] (grow (redrawn wr d) os) fun e w'' => e = .returned (.int .i64 y) ∧ ∃ p : Regrown, w'' = grow (redrawn wr p.d) p.os := fun d os => by
        have h := Depth_any X _ (grow (redrawn wr d) os) (CRd_more (below_regrown wr d os).size _ _ (CRd_keep (below_regrown wr d os) _ _ hr1)) (Int.le_trans hxd HD2.out)
        rw [hy] at h
        exact Calls.regrown_of h
      have cC : ∀ d os, Calls Tryd.prog 20 #[.agg #[.int .i64 kk, .string i, .string l, .int .i64 s, .int .i64 t, .int .i64 le, .slice A3 ys.length c3]] (grow (redrawn wr d) os) fun e w'' => e = .returned (.int .i64 z) ∧ ∃ p : Regrown, w'' = grow (redrawn wr p.d) p.os := fun d os => by
        have h := Depth_any C _ (grow (redrawn wr d) os) (CRd_more (below_regrown wr d os).size _ _ (CRd_keep (below_regrown wr d os) _ _ hr0)) HD2.out
        rw [HZ.out] at h
        exact Calls.regrown_of h
      rw [HZ.out, hy] at hxl
      have H06 := Lib.hid h06; have HB := Lib.hid hb; have HXL := Lib.hid hxl
      clear x0 x1 x2 x3 x4 x5 x6 a0 a1 a2 a3 a4 a5 a6 e0 e1 e2' e3 e4 e5 e6 hds hes hdc hec hxd hxl hxm hX hy hr0 hr1 hr2 hx h56 h36 h06 hb
      by_cases hm0 : m = 0
      · have hdec : decide (0 < m) = false := by simp [hm0]
        have HM0 := Lib.hid hm0; clear hm0
        go_wp2_with fail
        refine wp_region_held_drew (S := fun w' => Below wr.heap.size wr w') (by kernel_rfl) (below_drewN_self wr wr.heap.size 1) (fun hS0 => ?_)
        refine wpAnyH_take (i := 0) (oi := ⟨some 33, _, _, _, _, _⟩) (v := .slice (some ⟨b4, o4, none⟩) L.length c1) rfl (by kernel_rfl) (by kernel_rfl) (by kernel_rfl) (fun _ _ _ h => h) (Or.inl ⟨by rfl, fun w' hS => by go_simp⟩) hS0 ?_
        try simp only [Act.put, List.setIfInBounds_toArray, List.set_cons_zero, List.set_cons_succ]
        refine wpAnyH_take (i := 1) (oi := ⟨some 34, _, _, _, _, _⟩) (v := .int .i64 m) rfl (by kernel_rfl) (by kernel_rfl) (by kernel_rfl) (fun _ _ _ h => h) (Or.inl ⟨by rfl, fun w' hS => by go_simp⟩) hS0 ?_
        try simp only [Act.put, List.setIfInBounds_toArray, List.set_cons_zero, List.set_cons_succ]
        refine wpAnyH_take (i := 2) (oi := ⟨some 35, _, _, _, _, _⟩) (v := .pointer (some ⟨b4, o4 + m * 7, none⟩)) rfl (by kernel_rfl) (by kernel_rfl) (by kernel_rfl) (fun _ _ _ h => h) (Or.inl ⟨by rfl, fun w' hS => by go_simp⟩) hS0 ?_
        try simp only [Act.put, List.setIfInBounds_toArray, List.set_cons_zero, List.set_cons_succ]
        refine wpAnyH_take (i := 3) (oi := ⟨some 36, _, _, _, _, _⟩) (v := .agg #[.int .i64 kk2, .string i2, .string l2, .int .i64 s2, .int .i64 t2, .int .i64 e2, .slice A4 xs2.length c4]) rfl (by kernel_rfl) (by kernel_rfl) (by kernel_rfl) (fun _ _ _ h => h) (Or.inl ⟨by rfl, fun w' hS => by (obtain ⟨z0, z1, z2, z3, z4, z5, z6⟩ := HC1.out.keep hS hb4; go_simp)⟩) hS0 ?_
        try simp only [Act.put, List.setIfInBounds_toArray, List.set_cons_zero, List.set_cons_succ]
        refine wpAnyH_take (i := 4) (oi := ⟨some 37, _, _, _, _, _⟩) (v := .slice (some ⟨b5, o5, none⟩) L.length c2) rfl (by kernel_rfl) (by kernel_rfl) (by kernel_rfl) (fun _ _ _ h => h) (Or.inl ⟨by rfl, fun w' hS => by go_simp⟩) hS0 ?_
        try simp only [Act.put, List.setIfInBounds_toArray, List.set_cons_zero, List.set_cons_succ]
        refine wpAnyH_take (i := 5) (oi := ⟨some 38, _, _, _, _, _⟩) (v := .int .i64 m) rfl (by kernel_rfl) (by kernel_rfl) (by kernel_rfl) (fun _ _ _ h => h) (Or.inl ⟨by rfl, fun w' hS => by go_simp⟩) hS0 ?_
        try simp only [Act.put, List.setIfInBounds_toArray, List.set_cons_zero, List.set_cons_succ]
        refine wpAnyH_take (i := 6) (oi := ⟨some 39, _, _, _, _, _⟩) (v := .pointer (some ⟨b5, o5 + m * 7, none⟩)) rfl (by kernel_rfl) (by kernel_rfl) (by kernel_rfl) (fun _ _ _ h => h) (Or.inl ⟨by rfl, fun w' hS => by go_simp⟩) hS0 ?_
        try simp only [Act.put, List.setIfInBounds_toArray, List.set_cons_zero, List.set_cons_succ]
        refine wpAnyH_take (i := 7) (oi := ⟨some 40, _, _, _, _, _⟩) (v := .agg #[.int .i64 kk2, .string i2, .string l2, .int .i64 s2, .int .i64 t2, .int .i64 e2, .slice A5 xs2.length c5]) rfl (by kernel_rfl) (by kernel_rfl) (by kernel_rfl) (fun _ _ _ h => h) (Or.inl ⟨by rfl, fun w' hS => by (obtain ⟨z0, z1, z2, z3, z4, z5, z6⟩ := HC2.out.keep hS hb5; go_simp)⟩) hS0 ?_
        try simp only [Act.put, List.setIfInBounds_toArray, List.set_cons_zero, List.set_cons_succ]
        refine wpAnyH_ready (rs := [8]) (by kernel_rfl) (by simp) ?_
        refine AllReadyH.cons (o := ⟨some 41, .call ⟨_, _, _⟩, _, _, _, _⟩) rfl (fun K hK => ?_) AllReadyH.nil
        go_simp
        go_at_call 16
        refine (HSAME.out _ hS0).mono ?_
        rintro e' w7 ⟨rfl, hb7⟩
        have hS1 : Below wr.heap.size wr w7 := hS0.trans hb7
        refine hK.out _ _ hS1 (fun _ => ?_)
        clear hK K
        try simp only [Act.put, List.setIfInBounds_toArray, List.set_cons_zero, List.set_cons_succ]
        refine wpAnyH_take (i := 9) (oi := ⟨some 42, _, _, _, _, _⟩) (v := .bool false) rfl (by kernel_rfl) (by kernel_rfl) (by kernel_rfl) (fun _ _ _ h => h) (Or.inl ⟨by rfl, fun w' hS => by go_simp⟩) hS1 ?_
        try simp only [Act.put, List.setIfInBounds_toArray, List.set_cons_zero, List.set_cons_succ]
        refine wpAnyH_take (i := 10) (oi := ⟨some 43, _, _, _, _, _⟩) (v := .bool false) rfl (by kernel_rfl) (by kernel_rfl) (by kernel_rfl) (fun _ _ _ h => h) (Or.inl ⟨by rfl, fun w' hS => by go_simp⟩) hS1 ?_
        try simp only [Act.put, List.setIfInBounds_toArray, List.set_cons_zero, List.set_cons_succ]
        refine wpAnyH_take (i := 11) (oi := ⟨some 44, _, _, _, _, _⟩) (v := .int .i64 m) rfl (by kernel_rfl) (by kernel_rfl) (by kernel_rfl) (fun _ _ _ h => h) (Or.inl ⟨by rfl, fun w' hS => by go_simp⟩) hS1 ?_
        try simp only [Act.put, List.setIfInBounds_toArray, List.set_cons_zero, List.set_cons_succ]
        refine wpAnyH_take (i := 12) (oi := ⟨some 45, _, _, _, _, _⟩) (v := .bool false) rfl (by kernel_rfl) (by kernel_rfl) (by kernel_rfl) (fun _ _ _ h => h) (Or.inl ⟨by rfl, fun w' hS => by (go_simp; try rw [hdec])⟩) hS1 ?_
        try simp only [Act.put, List.setIfInBounds_toArray, List.set_cons_zero, List.set_cons_succ]
        refine wpAnyH_take (i := 13) (oi := ⟨some 46, _, _, _, _, _⟩) (v := .bool false) rfl (by kernel_rfl) (by kernel_rfl) (by kernel_rfl) (fun _ _ _ h => h) (Or.inl ⟨by rfl, fun w' hS => by go_simp⟩) hS1 ?_
        try simp only [Act.put, List.setIfInBounds_toArray, List.set_cons_zero, List.set_cons_succ]
        refine wpAnyH_take (i := 14) (oi := ⟨some 47, _, _, _, _, _⟩) (v := undef) rfl (by kernel_rfl) (by kernel_rfl) (by kernel_rfl) (fun _ _ _ h => h) (Or.inr ⟨by rfl, by rfl⟩) hS1 ?_
        try simp only [Act.put, List.setIfInBounds_toArray, List.set_cons_zero, List.set_cons_succ]
        refine wpAnyH_take (i := 15) (oi := ⟨some 48, _, _, _, _, _⟩) (v := undef) rfl (by kernel_rfl) (by kernel_rfl) (by kernel_rfl) (fun _ _ _ h => h) (Or.inr ⟨by rfl, by rfl⟩) hS1 ?_
        try simp only [Act.put, List.setIfInBounds_toArray, List.set_cons_zero, List.set_cons_succ]
        refine wpAnyH_take (i := 16) (oi := ⟨some 49, _, _, _, _, _⟩) (v := undef) rfl (by kernel_rfl) (by kernel_rfl) (by kernel_rfl) (fun _ _ _ h => h) (Or.inr ⟨by rfl, by rfl⟩) hS1 ?_
        try simp only [Act.put, List.setIfInBounds_toArray, List.set_cons_zero, List.set_cons_succ]
        refine wpAnyH_take (i := 17) (oi := ⟨some 50, _, _, _, _, _⟩) (v := undef) rfl (by kernel_rfl) (by kernel_rfl) (by kernel_rfl) (fun _ _ _ h => h) (Or.inr ⟨by rfl, by rfl⟩) hS1 ?_
        try simp only [Act.put, List.setIfInBounds_toArray, List.set_cons_zero, List.set_cons_succ]
        refine wpAnyH_take (i := 18) (oi := ⟨some 51, _, _, _, _, _⟩) (v := undef) rfl (by kernel_rfl) (by kernel_rfl) (by kernel_rfl) (fun _ _ _ h => h) (Or.inr ⟨by rfl, by rfl⟩) hS1 ?_
        try simp only [Act.put, List.setIfInBounds_toArray, List.set_cons_zero, List.set_cons_succ]
        refine wpAnyH_take (i := 19) (oi := ⟨some 52, _, _, _, _, _⟩) (v := undef) rfl (by kernel_rfl) (by kernel_rfl) (by kernel_rfl) (fun _ _ _ h => h) (Or.inr ⟨by rfl, by rfl⟩) hS1 ?_
        try simp only [Act.put, List.setIfInBounds_toArray, List.set_cons_zero, List.set_cons_succ]
        refine wpAnyH_take (i := 20) (oi := ⟨some 53, _, _, _, _, _⟩) (v := undef) rfl (by kernel_rfl) (by kernel_rfl) (by kernel_rfl) (fun _ _ _ h => h) (Or.inr ⟨by rfl, by rfl⟩) hS1 ?_
        try simp only [Act.put, List.setIfInBounds_toArray, List.set_cons_zero, List.set_cons_succ]
        refine wpAnyH_take (i := 21) (oi := ⟨some 54, _, _, _, _, _⟩) (v := undef) rfl (by kernel_rfl) (by kernel_rfl) (by kernel_rfl) (fun _ _ _ h => h) (Or.inr ⟨by rfl, by rfl⟩) hS1 ?_
        try simp only [Act.put, List.setIfInBounds_toArray, List.set_cons_zero, List.set_cons_succ]
        refine wpAnyH_take (i := 22) (oi := ⟨some 55, _, _, _, _, _⟩) (v := .bool false) rfl (by kernel_rfl) (by kernel_rfl) (by kernel_rfl) (fun _ _ _ h => h) (Or.inl ⟨by rfl, fun w' hS => by go_simp⟩) hS1 ?_
        try simp only [Act.put, List.setIfInBounds_toArray, List.set_cons_zero, List.set_cons_succ]
        refine wpAnyH_take (i := 23) (oi := ⟨some 56, _, _, _, _, _⟩) (v := .bool false) rfl (by kernel_rfl) (by kernel_rfl) (by kernel_rfl) (fun _ _ _ h => h) (Or.inl ⟨by rfl, fun w' hS => by go_simp⟩) hS1 ?_
        try simp only [Act.put, List.setIfInBounds_toArray, List.set_cons_zero, List.set_cons_succ]
        refine wpAnyH_done (by kernel_rfl) ?_ _
        clear cS cX cC k0 k1 k2 k3 k4 k5 k6 j0 j1 j2 j3 j4 j5 j6 q0 q1 q2 q3 q4 q5 q6
        have hbq : Below wr.heap.size wr w7 := hS1
        go_wp2
        go_roundw
        case rel => exact ⟨m + 1, by omega, by go_num, HB.out.trans (hbq.mono HB.out.size)⟩
        case measure => simp [intOf]; omega
      · have hdec : decide (0 < m) = true := by simp; omega
        have hm1 : 0 < m := by omega
        have hyz : ¬ z ≤ y := by have := HXL.out (by omega); omega
        go_wp2_with fail
        refine wp_region_quiet_below (by kernel_rfl) (by kernel_rfl) ?_
        repeat (quiet_step ((go_at_call 16; exact cS _ _)))
        quiet_step ((go_at_call 20; exact cX _ _))
        quiet_step (fail)
        quiet_step ((go_at_call 20; exact cC _ _))
        repeat (quiet_step (fail))
        refine wpQuiet_nil ?_
        intro _ hw'
        obtain ⟨⟨dr, osr⟩, hw''⟩ := hw'
        subst hw''
        clear cS cX cC k0 k1 k2 k3 k4 k5 k6 j0 j1 j2 j3 j4 j5 j6 q0 q1 q2 q3 q4 q5 q6
        have hbq := below_regrown wr dr osr
        go_wp2
        go_roundw
        case rel => exact ⟨m + 1, by omega, by go_num, HB.out.trans (hbq.mono HB.out.size)⟩
        case measure => simp [intOf]; omega
    · have i1 : ¬ (m : Int) < (L.length : Int) := by omega
      have hkn := known_any wr (HOK.out.below h06)
      have HKN := Lib.hid hkn; have H06 := Lib.hid h06
      clear hkn h06 h36 h56 hb
      go_wp2_with fail
      refine HKN.out.mono ?_
      rintro e w7 ⟨rfl, hb7⟩
      go_wp2
      go_ret
      exact ⟨rfl, H06.out.trans (hb7.mono H06.out.size)⟩
end Go.Proofs.YtnlocdhhecockaaDoor
