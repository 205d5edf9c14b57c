/-
  ContentSames answers true for all contents and every tape: program and reference say of the same contents that they are equal.
  Conditions: those of the given row and card, nothing else.
-/
import Derived.Test.YtnlocdhhecockaaDoorCqB
import Derived.Test.YtnlocdhhecockaaDoorCpE
import Derived.Test.YtnlocdhhecockaaDoorCnD
import Derived.Lib.QuietBelow
set_option linter.unusedSimpArgs false
set_option linter.unusedVariables false
namespace Go.Proofs.YtnlocdhhecockaaDoor
open Go.RowKit Go.Cold Go.Sort

theorem tape_at {w : World} {B : Nat} {A : Option Addr} {c : Nat} {xs : List Int} (h : Sl w B A c xs) (hB : B ≤ w.heap.size) : TapeAt (w.alloc (.cells #[.slice A xs.length c, .int .i64 0] 28)) B w.heap.size xs 0 := by
  refine ⟨A, c, ?_, ?_, fun j => World.frozen?_alloc_at _ _ _ _ rfl, h.keep ((Below.refl _ _).alloc hB _), hB, by simp⟩ <;> (rw [World.cell?_alloc_at _ _ _ _ rfl]; rfl)
theorem box_new {w w' : World} {t : TypeId} {cs : Array Value} (h : w.alloc (.cells cs t) = w') : BoxL w' w.heap.size cs.toList := by
  refine ⟨fun j u hu => ?_, box7f h, by rw [← h]; simp⟩
  rw [← h, World.cell?_alloc_at _ _ _ _ rfl]
  simpa using hu
/-- A contract that ends in 'Below', in a world of the quiet walk's class. -/
theorem quiet_of {P : Program} {f : FuncId} {args : Array Value} {w : World} {v : Value} (h : ∀ W, Below w.heap.size w W → Calls P f args W fun e w' => e = .returned v ∧ Below W.heap.size W w') (d : Nat) (os : Array Obj) :
    Calls P f args (grow (redrawn w d) os) fun e w'' => e = .returned v ∧ ∃ p : Regrown, w'' = grow (redrawn w p.d) p.os :=
  Calls.regrown_of (h _ (below_regrown w d os))

set_option maxHeartbeats 4000000 in
set_option maxRecDepth 100000 in
theorem lawSames_any (Ca : Cont) (csa : List Value) (Cb : Cont) (csb : List Value) (A : Option Addr) (c : Nat) (xs : List Int) (w : World) (hok : Ok7 w) (ha : CRd w w.heap.size Ca csa) (hb : CRd w w.heap.size Cb csb) (hx : Sl w w.heap.size A c xs) :
    Calls Tryd.prog 6 #[.agg csa.toArray, .agg csb.toArray, .slice A xs.length c] w fun e w' => e = .returned (.bool true) ∧ Below w.heap.size w w' := by
  obtain ⟨ka, ia, la, sa, ta, ea, ya⟩ := Ca
  obtain ⟨A1, c1, rfl, -, -⟩ := CRd_iff.1 ha
  obtain ⟨kb, ib, lb, sb, tb, eb, yb⟩ := Cb
  obtain ⟨A2, c2, rfl, -, -⟩ := CRd_iff.1 hb
  simp only [contCells] at ha hb ⊢
  obtain ⟨Ca, hCa⟩ : ∃ C, Cont.mk ka ia la sa ta ea ya = C := ⟨_, rfl⟩
  obtain ⟨Cb, hCb⟩ : ∃ C, Cont.mk kb ib lb sb tb eb yb = C := ⟨_, rfl⟩
  rw [hCa] at ha; rw [hCb] at hb
  have HOK := Lib.hid hok; have HX := Lib.hid hx; have HA := Lib.hid ha; have HB := Lib.hid hb
  clear hok hx ha hb hCa hCb
  go_enter Tryd.func6, Tryd.ntmps6
  go_upto_region 2 with fail
  obtain ⟨w1, hw1⟩ : ∃ w1, w.alloc (.cells #[.int .i64 ka, .string ia, .string la, .int .i64 sa, .int .i64 ta, .int .i64 ea, .slice A1 ya.length c1] 24) = w1 := ⟨_, rfl⟩
  obtain ⟨w2, hw2⟩ : ∃ w2, w1.alloc (.cells #[.int .i64 kb, .string ib, .string lb, .int .i64 sb, .int .i64 tb, .int .i64 eb, .slice A2 yb.length c2] 24) = w2 := ⟨_, rfl⟩
  obtain ⟨w3, hw3⟩ : ∃ w3, w2.alloc (.cells #[.slice A xs.length c, .int .i64 0] 28) = w3 := ⟨_, rfl⟩
  obtain ⟨hb1, hg1, -⟩ := box7 hw1
  obtain ⟨hb2, hg2, -⟩ := box7 hw2
  have hba := box_new hw1
  have hbb := box_new hw2
  have hb12 : Below w.heap.size w w2 := hb1.trans (hb2.mono hb1.size)
  have htape := tape_at (HX.out.keep hb12) hb12.size
  rw [hw3] at htape
  have hb3 : Below w2.heap.size w2 w3 := by rw [← hw3]; exact (Below.refl _ _).alloc (Nat.le_refl _) _
  have hg3 : w3.heap.size = w2.heap.size + 1 := by rw [← hw3]; simp
  have hb03 : Below w.heap.size w w3 := hb12.trans (hb3.mono hb12.size)
  try rw [hw1, hw2, hw3]
  have hba3 := (hba.kept (grown_none hb2) (fun e => by cases e)).kept (grown_none hb3) (fun e => by cases e)
  have hbb3 := hbb.kept (grown_none hb3) (fun e => by cases e)
  have e1 : w.heap.size + 1 = w1.heap.size := hg1.symm
  have e2 : w1.heap.size + 1 = w2.heap.size := hg2.symm
  try rw [show w.heap.size + 1 + 1 = w2.heap.size by omega]
  try rw [show w.heap.size + 2 = w2.heap.size by omega]
  try rw [e1]
  try rw [e2]
  have hcall := valid_any xs w.heap.size w2.heap.size 3 0 w3 (by decide) htape
  have HS := Lib.hid (And.intro hg1 (And.intro hg2 hg3)); have HBA := Lib.hid hba3; have HBB := Lib.hid hbb3; have HB03 := Lib.hid hb03
  have HV := Lib.hid hcall
  clear hw1 hw2 hw3 hb1 hb2 hb3 hg1 hg2 hg3 hba hbb hb12 htape hb03 hba3 hbb3 e1 e2 hcall
  go_wp2_with fail
  refine Calls.mono (HV.out : Calls Tryd.prog 9 #[.pointer (some ⟨w2.heap.size, 0, none⟩), .int .i64 3] w3 _) ?_
  rintro e w4 ⟨Cc, cs, k4, rfl, hnew, ht4, hg4, -, -, hnod, hk4⟩
  obtain ⟨kc, ic, lc, sc, tc, ec, yc⟩ := Cc
  obtain ⟨A3, c3, rfl⟩ := CRdS_cells hnew
  simp only [contCells] at hnew ⊢
  have HNEW := Lib.hid hnew; have HT4 := Lib.hid ht4; have HG4 := Lib.hid hg4; have HNOD := Lib.hid (show nodesC (Cont.mk kc ic lc sc tc ec yc) ≤ 64 from hnod); have HK4 := Lib.hid (show k4 ≤ 0 + 6 * 64 from hk4)
  clear hnew ht4 hg4 hnod hk4
  go_upto_region 3 with fail
  obtain ⟨w5, hw5⟩ : ∃ w5, w4.alloc (.cells #[.int .i64 kc, .string ic, .string lc, .int .i64 sc, .int .i64 tc, .int .i64 ec, .slice A3 yc.length c3] 24) = w5 := ⟨_, rfl⟩
  obtain ⟨hb5, hg5, -⟩ := box7 hw5
  have hbc := box_new hw5
  rw [hw5]
  have hsz := HS.out
  have hs34 := HG4.out.size
  have hg05 := grown_below (grown_trans (show w3.grownBy w3 (some w2.heap.size) from ⟨rfl, rfl, rfl, Nat.le_refl _, fun _ _ _ => rfl⟩) HG4.out) hb5
  have hba5 := HBA.out.kept hg05 (fun e => by have := Option.some.inj e; omega)
  have hbb5 := HBB.out.kept hg05 (fun e => by have := Option.some.inj e; omega)
  have ht5 := HT4.out.kept (grown_none hb5) (fun e => by cases e) (fun g hg => by cases hg)
  have hcc : CRdS w5 (fun x => x < w5.heap.size ∧ x ≠ w2.heap.size) (.mk kc ic lc sc tc ec yc) [.int .i64 kc, .string ic, .string lc, .int .i64 sc, .int .i64 tc, .int .i64 ec, .slice A3 yc.length c3] :=
    CRdS_mono (fun y hy => ⟨by have := hy.2; omega, by have := hy.1; omega⟩) (fun y o u hy hu => (hb5.cell (p := ⟨y, o, none⟩) (by exact hy.2)).trans hu) _ _ HNEW.out
  have hcall := spoilt_any xs w.heap.size w2.heap.size k4 _ _ w5 (by have := HK4.out; omega) ht5 hcc (by have := HNOD.out; omega)
  have hs05 := hg05.size
  have HSP := Lib.hid hcall; have HBC := Lib.hid hbc; have HBA5 := Lib.hid hba5; have HBB5 := Lib.hid hbb5; have HCC := Lib.hid hcc; have HG5 := Lib.hid hg5; have HG05 := Lib.hid hg05; have HS34 := Lib.hid hs34
  clear hcall hbc hba5 hbb5 hcc hg5 hg05 hsz hs34 hs05 ht5 hw5 hb5
  have x0 := HBC.out.1 0 _ rfl; have x1 := HBC.out.1 1 _ rfl; have x2 := HBC.out.1 2 _ rfl; have x3 := HBC.out.1 3 _ rfl; have x4 := HBC.out.1 4 _ rfl; have x5 := HBC.out.1 5 _ rfl; have x6 := HBC.out.1 6 _ rfl
  go_wp2_with fail
  refine HSP.out.mono ?_
  rintro e w6 ⟨Cd, cs6, k6, rfl, hcd, -, hg6, -⟩
  clear x0 x1 x2 x3 x4 x5 x6
  obtain ⟨kd, i4, l4, s4, t4, e4, y4⟩ := Cd
  obtain ⟨A4, c4, rfl⟩ := CRdS_cells hcd
  simp only [contCells] at hcd ⊢
  have HCD := Lib.hid hcd; have HG6 := Lib.hid hg6
  clear hcd hg6
  go_upto_region 4 with fail
  obtain ⟨w7, hw7⟩ : ∃ w7, w6.alloc (.cells #[.int .i64 kd, .string i4, .string l4, .int .i64 s4, .int .i64 t4, .int .i64 e4, .slice A4 y4.length c4] 24) = w7 := ⟨_, rfl⟩
  obtain ⟨hb7, hg7, -⟩ := box7 hw7
  have hbd := box_new hw7
  rw [hw7]
  have hsz := HS.out
  have h34 := HS34.out
  have h5 := HG5.out
  have hg57 := grown_below HG6.out hb7
  have hba7 := HBA5.out.kept hg57 (fun e => by have := Option.some.inj e; omega)
  have hbb7 := HBB5.out.kept hg57 (fun e => by have := Option.some.inj e; omega)
  have hbc7 := HBC.out.kept hg57 (fun e => by have := Option.some.inj e; omega)
  have hb07 : Below w.heap.size w w7 := below_of_grown (below_of_grown HB03.out HG05.out (by omega) (by omega)) hg57 (by have := HG05.out.size; omega) (by omega)
  have hcc7 : CRdS w7 (fun x => x < w7.heap.size ∧ x ≠ w2.heap.size) (.mk kc ic lc sc tc ec yc) [.int .i64 kc, .string ic, .string lc, .int .i64 sc, .int .i64 tc, .int .i64 ec, .slice A3 yc.length c3] :=
    CRdS_mono (fun y hy => ⟨Nat.lt_of_lt_of_le hy.1 hg57.size, hy.2⟩) (fun y o u hy hu => hg57.cell hu (fun e => hy.2 (Option.some.inj e))) _ _ HCC.out
  have hcd7 : CRdS w7 (fun x => x < w7.heap.size ∧ x ≠ w2.heap.size) (.mk kd i4 l4 s4 t4 e4 y4) [.int .i64 kd, .string i4, .string l4, .int .i64 s4, .int .i64 t4, .int .i64 e4, .slice A4 y4.length c4] :=
    CRdS_mono (fun y hy => ⟨by have := hy.1; omega, hy.2⟩) (fun y o u hy hu => (hb7.cell (p := ⟨y, o, none⟩) (by exact hy.1)).trans hu) _ _ HCD.out
  have ha7 := CRd_more hb07.size _ _ (CRd_keep hb07 _ _ HA.out)
  have hb7' := CRd_more hb07.size _ _ (CRd_keep hb07 _ _ HB.out)
  have hc7 : CRd w7 w7.heap.size _ _ := CRdS_mono (fun _ h => h.1) (fun _ _ _ _ hu => hu) _ _ hcc7
  have hd7 : CRd w7 w7.heap.size _ _ := CRdS_mono (fun _ h => h.1) (fun _ _ _ _ hu => hu) _ _ hcd7
  obtain ⟨Cc, hCc⟩ : ∃ C, Cont.mk kc ic lc sc tc ec yc = C := ⟨_, rfl⟩
  obtain ⟨Cd, hCd⟩ : ∃ C, Cont.mk kd i4 l4 s4 t4 e4 y4 = C := ⟨_, rfl⟩
  rw [hCc] at hc7; rw [hCd] at hd7
  obtain ⟨z1, hz1⟩ : ∃ z, sameC Ca Cb = z := ⟨_, rfl⟩
  obtain ⟨z2, hz2⟩ : ∃ z, sameC Cc Cd = z := ⟨_, rfl⟩
  have q1 := fun d os => quiet_of (P := Tryd.prog) (f := 22) (args := #[.agg #[.int .i64 ka, .string ia, .string la, .int .i64 sa, .int .i64 ta, .int .i64 ea, .slice A1 ya.length c1], .agg #[.int .i64 kb, .string ib, .string lb, .int .i64 sb, .int .i64 tb, .int .i64 eb, .slice A2 yb.length c2]]) (w := w7) (v := .bool z1) (fun W hW => by
    have h := Same_any Ca Cb _ _ W (CRd_more hW.size _ _ (CRd_keep hW _ _ ha7)) (CRd_more hW.size _ _ (CRd_keep hW _ _ hb7'))
    rw [hz1] at h
    exact h) d os
  have q2 := fun d os => quiet_of (P := Tryd.prog) (f := 16) (args := #[.agg #[.int .i64 ka, .string ia, .string la, .int .i64 sa, .int .i64 ta, .int .i64 ea, .slice A1 ya.length c1], .agg #[.int .i64 kb, .string ib, .string lb, .int .i64 sb, .int .i64 tb, .int .i64 eb, .slice A2 yb.length c2]]) (w := w7) (v := .bool z1) (fun W hW => by
    have h := RSame_any Ca Cb _ _ W (CRd_more hW.size _ _ (CRd_keep hW _ _ ha7)) (CRd_more hW.size _ _ (CRd_keep hW _ _ hb7'))
    rw [hz1] at h
    exact h) d os
  have q3 := fun d os => quiet_of (P := Tryd.prog) (f := 22) (args := #[.agg #[.int .i64 kc, .string ic, .string lc, .int .i64 sc, .int .i64 tc, .int .i64 ec, .slice A3 yc.length c3], .agg #[.int .i64 kd, .string i4, .string l4, .int .i64 s4, .int .i64 t4, .int .i64 e4, .slice A4 y4.length c4]]) (w := w7) (v := .bool z2) (fun W hW => by
    have h := Same_any Cc Cd _ _ W (CRd_more hW.size _ _ (CRd_keep hW _ _ hc7)) (CRd_more hW.size _ _ (CRd_keep hW _ _ hd7))
    rw [hz2] at h
    exact h) d os
  have q4 := fun d os => quiet_of (P := Tryd.prog) (f := 16) (args := #[.agg #[.int .i64 kc, .string ic, .string lc, .int .i64 sc, .int .i64 tc, .int .i64 ec, .slice A3 yc.length c3], .agg #[.int .i64 kd, .string i4, .string l4, .int .i64 s4, .int .i64 t4, .int .i64 e4, .slice A4 y4.length c4]]) (w := w7) (v := .bool z2) (fun W hW => by
    have h := RSame_any Cc Cd _ _ W (CRd_more hW.size _ _ (CRd_keep hW _ _ hc7)) (CRd_more hW.size _ _ (CRd_keep hW _ _ hd7))
    rw [hz2] at h
    exact h) d os
  have q5 := fun d os => quiet_of (P := Tryd.prog) (f := 22) (args := #[.agg #[.int .i64 ka, .string ia, .string la, .int .i64 sa, .int .i64 ta, .int .i64 ea, .slice A1 ya.length c1], .agg #[.int .i64 ka, .string ia, .string la, .int .i64 sa, .int .i64 ta, .int .i64 ea, .slice A1 ya.length c1]]) (w := w7) (v := .bool true) (fun W hW => by
    have h := Same_any Ca Ca _ _ W (CRd_more hW.size _ _ (CRd_keep hW _ _ ha7)) (CRd_more hW.size _ _ (CRd_keep hW _ _ ha7))
    rw [sameC_self] at h
    exact h) d os
  have q6 := fun d os => quiet_of (P := Tryd.prog) (f := 10) (args := #[]) (w := w7) (v := .bool true) (fun W hW => known_any W ((HOK.out.below hb07).below hW)) d os
  have ar0 := cell_regrown (hba7.1 0 _ rfl); have ar1 := cell_regrown (hba7.1 1 _ rfl); have ar2 := cell_regrown (hba7.1 2 _ rfl); have ar3 := cell_regrown (hba7.1 3 _ rfl); have ar4 := cell_regrown (hba7.1 4 _ rfl); have ar5 := cell_regrown (hba7.1 5 _ rfl); have ar6 := cell_regrown (hba7.1 6 _ rfl)
  have br0 := cell_regrown (hbb7.1 0 _ rfl); have br1 := cell_regrown (hbb7.1 1 _ rfl); have br2 := cell_regrown (hbb7.1 2 _ rfl); have br3 := cell_regrown (hbb7.1 3 _ rfl); have br4 := cell_regrown (hbb7.1 4 _ rfl); have br5 := cell_regrown (hbb7.1 5 _ rfl); have br6 := cell_regrown (hbb7.1 6 _ rfl)
  have cr0 := cell_regrown (hbc7.1 0 _ rfl); have cr1 := cell_regrown (hbc7.1 1 _ rfl); have cr2 := cell_regrown (hbc7.1 2 _ rfl); have cr3 := cell_regrown (hbc7.1 3 _ rfl); have cr4 := cell_regrown (hbc7.1 4 _ rfl); have cr5 := cell_regrown (hbc7.1 5 _ rfl); have cr6 := cell_regrown (hbc7.1 6 _ rfl)
  have dr0 := cell_regrown (hbd.1 0 _ rfl); have dr1 := cell_regrown (hbd.1 1 _ rfl); have dr2 := cell_regrown (hbd.1 2 _ rfl); have dr3 := cell_regrown (hbd.1 3 _ rfl); have dr4 := cell_regrown (hbd.1 4 _ rfl); have dr5 := cell_regrown (hbd.1 5 _ rfl); have dr6 := cell_regrown (hbd.1 6 _ rfl)
  have HB07 := Lib.hid hb07
  have Q1 := Lib.hid q1; have Q2 := Lib.hid q2; have Q3 := Lib.hid q3; have Q4 := Lib.hid q4; have Q5 := Lib.hid q5; have Q6 := Lib.hid q6
  clear hw7 hb7 hg7 hbd hsz h34 h5 hg57 hba7 hbb7 hbc7 hb07 hcc7 hcd7 ha7 hb7' hc7 hd7 hCc hCd hz1 hz2 q1 q2 q3 q4 q5 q6
  go_wp2_with fail
  refine wp_region_quiet_below (by kernel_rfl) (by kernel_rfl) ?_
  quiet_step (fail)
  quiet_step (fail)
  quiet_step ((go_at_call 22; exact Q1.out _ _))
  quiet_step (fail)
  quiet_step (fail)
  quiet_step ((go_at_call 16; exact Q2.out _ _))
  quiet_step (fail)
  quiet_step (fail)
  quiet_step (fail)
  quiet_step (fail)
  quiet_step ((go_at_call 22; exact Q3.out _ _))
  quiet_step (fail)
  quiet_step (fail)
  quiet_step ((go_at_call 16; exact Q4.out _ _))
  quiet_step (fail)
  quiet_step (fail)
  quiet_step (fail)
  quiet_step (fail)
  quiet_step (fail)
  quiet_step ((go_at_call 22; exact Q5.out _ _))
  quiet_step (fail)
  quiet_step (fail)
  quiet_step ((go_at_call 10; exact Q6.out _ _))
  quiet_step (fail)
  quiet_step (fail)
  refine wpQuiet_nil ?_
  intro _ hw'
  obtain ⟨⟨dq, osq⟩, hw''⟩ := hw'
  subst hw''
  have hb8 := below_regrown w7 dq osq
  clear ar0 ar1 ar2 ar3 ar4 ar5 ar6 br0 br1 br2 br3 br4 br5 br6 cr0 cr1 cr2 cr3 cr4 cr5 cr6 dr0 dr1 dr2 dr3 dr4 dr5 dr6
  go_wp2
  go_ret
  exact ⟨rfl, HB07.out.trans (hb8.mono HB07.out.size)⟩
end Go.Proofs.YtnlocdhhecockaaDoor
