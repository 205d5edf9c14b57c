/-
  ContentNests answers true for every tape and number: a valid content of depth 6 cannot be put into another one, and all others can.
  Conditions: those of the given row and card, nothing else.
-/
import Derived.Test.YtnlocdhhecockaaDoorCqA
import Derived.Test.YtnlocdhhecockaaDoorCpE
import Derived.Test.YtnlocdhhecockaaDoorCnK
set_option linter.unusedSimpArgs false
set_option linter.unusedVariables false
namespace Go.Proofs.YtnlocdhhecockaaDoor
open Go.RowKit Go.Cold Go.Sort

/-- A tape that a law has boxed. -/
theorem tape_newN {w : World} {A : Option Addr} {c : Nat} {xs : List Int} (h : Sl w w.heap.size A c xs) : TapeAt (w.alloc (.cells #[.slice A xs.length c, .int .i64 0] 28)) w.heap.size w.heap.size xs 0 := by
  refine ⟨A, c, ?_, ?_, fun j => World.frozen?_alloc_at _ _ _ _ rfl, h.keep ((Below.refl _ _).alloc (Nat.le_refl _) _), Nat.le_refl _, by simp⟩ <;> (rw [World.cell?_alloc_at _ _ _ _ rfl]; rfl)
/-- The content that is put into the next one: it lies in block g, what it reaches elsewhere. -/
def NestRel (w : World) (g : Nat) (C : Cont) (n : Nat) (wr : World) : Prop := ∃ cs, BoxL wr g cs ∧ CRdS wr (fun x => x < wr.heap.size ∧ x ≠ g) C cs ∧ AllOk C ∧ depthC C ≤ 6 ∧ nodesC C ≤ n ∧ Below w.heap.size w wr ∧ w.heap.size ≤ g
theorem NestRel.crd {w : World} {g n : Nat} {C : Cont} {wr : World} {cs : List Value} (h : CRdS wr (fun x => x < wr.heap.size ∧ x ≠ g) C cs) : CRd wr wr.heap.size C cs := CRdS_mono (fun _ h => h.1) (fun _ _ _ _ hu => hu) _ _ h
theorem empty_data : ByteArray.empty = (⟨#[]⟩ : ByteArray) := by kernel_rfl
/-- The next content, laid: its list in block gb. -/
theorem nest_next {w' : World} {gb g : Nat} {C : Cont} {cs : List Value} (hc : CRdS w' (fun x => x < w'.heap.size ∧ x ≠ g) C cs) (hb : BoxL w' gb cs) (hne : gb ≠ g) :
    CRdS w' (fun x => x < w'.heap.size ∧ x ≠ g) (crypt1 C) [.int .i64 3, .string ⟨#[107]⟩, .string ⟨#[]⟩, .int .i64 0, .int .i64 0, .int .i64 0, .slice (some ⟨gb, 0, none⟩) 1 1] := by
  unfold crypt1
  rw [empty_data, CRdS]
  refine ⟨some ⟨gb, 0, none⟩, 1, rfl, ⟨by unfold okInt; omega, by unfold maxLen; decide, by unfold maxLen; decide, by unfold okInt; omega, by unfold okInt; omega, by unfold okInt; omega⟩, Nat.le_refl _, by unfold maxLen; decide, fun _ => ⟨gb, 0, rfl, ⟨hb.2.2, hne⟩, ?_⟩⟩
  rw [CsAtS, CsAtS]
  exact ⟨⟨cs, hc, fun j u hu => by rw [Nat.zero_add]; exact hb.1 j u hu⟩, trivial⟩

set_option maxHeartbeats 4000000 in
set_option maxRecDepth 100000 in
theorem lawNests_any (A : Option Addr) (c : Nat) (xs : List Int) (more : Int) (w : World) (hok : Ok7 w) (hx : Sl w w.heap.size A c xs) (hmo : okInt more) : Calls Tryd.prog 7 #[.slice A xs.length c, .int .i64 more] w fun e w' => e = .returned (.bool true) ∧ Below w.heap.size w w' := by
  have HOK := Lib.hid hok; have HX := Lib.hid hx; have HMO := Lib.hid hmo; clear hok hx hmo
  go_enter Tryd.func7, Tryd.ntmps7
  go_wp2_with fail
  have htape := tape_newN HX.out
  obtain ⟨w1, hw1⟩ : ∃ w1, w.alloc (.cells #[.slice A xs.length c, .int .i64 0] 28) = w1 := ⟨_, rfl⟩
  rw [hw1] at htape ⊢
  have hb1 : Below w.heap.size w w1 := by rw [← hw1]; exact (Below.refl _ _).alloc (Nat.le_refl _) _
  have hs1 : w1.heap.size = w.heap.size + 1 := by rw [← hw1]; simp
  have HB1 := Lib.hid hb1; have HS1 := Lib.hid hs1
  have hcall := valid_any xs w.heap.size w.heap.size 2 0 w1 (by decide) htape
  clear hw1 hb1 hs1 htape
  refine Calls.mono (hcall : Calls Tryd.prog 9 #[.pointer (some ⟨w.heap.size, 0, none⟩), .int .i64 2] w1 _) ?_
  rintro e w2 ⟨C0, cs, k', rfl, hnew, -, hg2, hall, hdep, hnod, -⟩
  clear hcall
  have hb2 : Below w.heap.size w w2 := below_of_grown HB1.out hg2 (by have := HS1.out; omega) (Nat.le_refl _)
  obtain ⟨kk, i, l, s, t, le, ys⟩ := C0
  obtain ⟨A3, c3, rfl⟩ := CRdS_cells hnew
  simp only [contCells]
  go_upto_region 2 with fail
  obtain ⟨w3, hw3⟩ : ∃ w3, w2.alloc (.cells #[.int .i64 kk, .string i, .string l, .int .i64 s, .int .i64 t, .int .i64 le, .slice A3 ys.length c3] 24) = w3 := ⟨_, rfl⟩
  obtain ⟨hb3, hg3, -⟩ := box7 hw3
  rw [hw3]
  have hbox : BoxL w3 w2.heap.size (contCells kk i l s t le A3 ys.length c3) := by
    refine ⟨fun j u hu => ?_, box7f hw3, by omega⟩
    rw [← hw3, World.cell?_alloc_at _ _ _ _ rfl]
    simpa [contCells] using hu
  have hrel0 : NestRel w w2.heap.size (.mk kk i l s t le ys) 16 w3 := by
    refine ⟨_, hbox, CRdS_mono (fun y hy => ⟨by have := hy.2; omega, by have := hy.2; omega⟩) (fun y o u hy hu => (hb3.cell (p := ⟨y, o, none⟩) (by exact hy.2)).trans hu) _ _ hnew, hall, by have h : depthC _ ≤ ((2 : Nat) : Int) := hdep; omega, by have h : nodesC _ ≤ 4 ^ 2 := hnod; omega, hb2.trans (hb3.mono hb2.size), hb2.size⟩
  obtain ⟨g, hg⟩ : ∃ g, w2.heap.size = g := ⟨_, rfl⟩
  rw [hg] at hrel0 ⊢
  obtain ⟨C0, hC0⟩ : ∃ C0, Cont.mk kk i l s t le ys = C0 := ⟨_, rfl⟩
  rw [hC0] at hrel0
  have HREL0 := Lib.hid hrel0
  have hfr := @foldI_range more 8 (by omega)
  obtain ⟨z, hz⟩ : ∃ z, foldI more 8 = z := ⟨_, rfl⟩
  have HZ := Lib.hid hz
  rw [hz] at hfr
  clear hz hrel0 hbox hb3 hg3 hw3 hnew hall hdep hnod hg2 hb2 hg hC0
  go_wp2_with fail
  refine (Fold_any more 8 _ HMO.out (by unfold okInt; omega)).mono ?_
  rintro e w' ⟨rfl, rfl⟩
  rw [HZ.out]
  obtain ⟨n0, rfl⟩ := Int.eq_ofNat_of_zero_le hfr.1
  have hn0 : n0 ≤ 8 := by omega
  clear hfr
  go_wp2_with fail
  go_loopw [6] (fun i wr => ∃ m : Nat, m ≤ 8 ∧ i = .int .i64 m ∧ Hid (∃ C, NestRel w g C (24 - m) wr)) (fun i _ => (intOf i).toNat)
  case atStart => exact ⟨n0, hn0, rfl, Lib.hid ⟨C0, by obtain ⟨cs, q1, q2, q3, q4, q5, q6⟩ := HREL0.out; exact ⟨cs, q1, q2, q3, q4, by omega, q6⟩⟩⟩
  case round =>
    obtain ⟨m, hm, rfl, HR⟩ := hrel
    obtain ⟨C, cs, hbx, hcr, hall, hdep, hnod, hbw, hgw⟩ := HR.out
    clear HR HREL0
    have hrd := NestRel.crd (w := w) (n := 0) hcr
    obtain ⟨k1, i1, l1, s1, t1, e1, y1⟩ := C
    obtain ⟨A1, c1, rfl⟩ := CRdS_cells hcr
    have x0 := hbx.1 0 _ rfl; have x1 := hbx.1 1 _ rfl; have x2 := hbx.1 2 _ rfl; have x3 := hbx.1 3 _ rfl; have x4 := hbx.1 4 _ rfl; have x5 := hbx.1 5 _ rfl; have x6 := hbx.1 6 _ rfl
    obtain ⟨C, hC⟩ : ∃ C, Cont.mk k1 i1 l1 s1 t1 e1 y1 = C := ⟨_, rfl⟩
    rw [hC] at hcr hall hdep hnod hrd
    have hds := depth_same C hall
    have hdn := depthC_nonneg C
    have HBX := Lib.hid hbx; have HCR := Lib.hid hcr; have HALL := Lib.hid hall; have HNOD := Lib.hid hnod; have HBW := Lib.hid hbw; have HGW := Lib.hid hgw; have HRD := Lib.hid hrd
    have hd60 : depthC C ≤ 2 ^ 60 := by omega
    have hrdep := RDepth_any C _ wr hrd hd60
    rw [hds] at hrdep
    have hchk := Check_any C _ wr hrd (by omega)
    rw [checkE_ok (bad_of hall hdep)] at hchk
    obtain ⟨z2, hz2⟩ : ∃ z2, depthC C = z2 := ⟨_, rfl⟩
    rw [hz2] at hdep hdn hrdep
    have HZ2 := Lib.hid hz2; have HRDEP := Lib.hid hrdep; have HCHK := Lib.hid hchk
    clear hbx hcr hall hnod hbw hgw hrd hds hd60 hrdep hz2 hC hchk
    simp only [contCells] at HRDEP HCHK
    by_cases hm0 : m = 0
    · have i2 : ¬ (0 : Int) < (m : Int) := by omega
      go_wp2_with fail
      refine HCHK.out.mono ?_
      rintro e w5 ⟨rfl, hb5⟩
      have hb05 := HBW.out.trans (hb5.mono HBW.out.size)
      have hkn := known_any w5 (HOK.out.below hb05)
      have HKN := Lib.hid hkn; have HB05 := Lib.hid hb05
      clear hkn hb05 hb5
      go_wp2_with fail
      refine HKN.out.mono ?_
      rintro e w7 ⟨rfl, hb7⟩
      go_wp2
      go_ret
      exact ⟨rfl, HB05.out.trans (hb7.mono HB05.out.size)⟩
    · have i2 : (0 : Int) < (m : Int) := by omega
      go_wp2_with fail
      refine HRDEP.out.mono ?_
      rintro e w4 ⟨rfl, hb4⟩
      have hgl := HBX.out.2.2
      have hbx4 := HBX.out.kept (grown_none hb4) (fun e => by cases e)
      have hcr4 : CRdS w4 (fun x => x < wr.heap.size ∧ x ≠ g) C (contCells k1 i1 l1 s1 t1 e1 A1 y1.length c1) := CRdS_mono (fun _ h => h) (fun y o u hy hu => (hb4.cell (p := ⟨y, o, none⟩) (by exact hy.1)).trans hu) _ _ HCR.out
      have hb04 := HBW.out.trans (hb4.mono HBW.out.size)
      have hsz4 := hb4.size
      clear x0 x1 x2 x3 x4 x5 x6
      have x0 := hbx4.1 0 _ rfl; have x1 := hbx4.1 1 _ rfl; have x2 := hbx4.1 2 _ rfl; have x3 := hbx4.1 3 _ rfl; have x4 := hbx4.1 4 _ rfl; have x5 := hbx4.1 5 _ rfl; have x6 := hbx4.1 6 _ rfl
      have HB4 := Lib.hid hb4
      have HBX4 := Lib.hid hbx4; have HCR4 := Lib.hid hcr4; have HB04 := Lib.hid hb04; have HSZ4 := Lib.hid hsz4; have HGL := Lib.hid hgl
      clear hbx4 hcr4 hb04 hsz4 hgl hb4
      have hstep : ∃ wb wd, w4.alloc (.cells #[.int .i64 k1, .string i1, .string l1, .int .i64 s1, .int .i64 t1, .int .i64 e1, .slice A1 y1.length c1] 24) = wb ∧
          wb.alloc (.cells #[.int .i64 3, .string ⟨#[107]⟩, .string ⟨#[]⟩, .int .i64 0, .int .i64 0, .int .i64 0, .slice (some ⟨w4.heap.size, 0, none⟩) 1 1] 24) = wd := ⟨_, _, rfl, rfl⟩
      obtain ⟨wb, wd, hwb, hwd⟩ := hstep
      obtain ⟨hbb, hgb, -⟩ := box7 hwb
      obtain ⟨hbd, hgd, hboxd⟩ := box7 hwd
      have hboxb : BoxL wb w4.heap.size (contCells k1 i1 l1 s1 t1 e1 A1 y1.length c1) := by
        refine ⟨fun j u hu => ?_, box7f hwb, by omega⟩
        rw [← hwb, World.cell?_alloc_at _ _ _ _ rfl]
        simpa [contCells] using hu
      have hboxb2 := hboxb.kept (grown_none hbd) (fun e => by cases e)
      have hbd4 : Below w4.heap.size w4 wd := hbb.trans (hbd.mono (by omega))
      have hcrd : CRdS wd (fun x => x < wd.heap.size ∧ x ≠ g) C (contCells k1 i1 l1 s1 t1 e1 A1 y1.length c1) := CRdS_mono (fun y hy => ⟨by have := hy.1; have := HSZ4.out; omega, hy.2⟩) (fun y o u hy hu => (hbd4.cell (p := ⟨y, o, none⟩) (by show y < w4.heap.size; have := hy.1; have := HSZ4.out; omega)).trans hu) _ _ HCR4.out
      have hnx := nest_next hcrd hboxb2 (show w4.heap.size ≠ g by have := HGL.out; have := HSZ4.out; omega)
      have hck := Check_any (crypt1 C) _ wd (CRdS_mono (fun _ h => h.1) (fun _ _ _ _ hu => hu) _ _ hnx) (by rw [crypt1_nodes]; have := HNOD.out; omega)
      have hbx5 := HBX4.out.kept (grown_none hbd4) (fun e => by cases e)
      have HNX := Lib.hid hnx; have HCK := Lib.hid hck; have HBX5 := Lib.hid hbx5; have HBOXD := Lib.hid hboxd; have HGD := Lib.hid (show wd.heap.size = w4.heap.size + 2 by omega); have HGB := Lib.hid hgb
      have HBD4 := Lib.hid hbd4
      have HB0D := Lib.hid (HB04.out.trans (hbd4.mono HB04.out.size))
      clear hbb hgb hbd hgd hboxd hboxb hboxb2 hbd4 hcrd hnx hck hbx5
      by_cases hz6 : z2 ≥ 6
      · have hz6' : 6 ≤ z2 := hz6
        have hbad : badC (crypt1 C) = true := bad_deep (by rw [crypt1_depth]; have := HZ2.out; omega)
        have hck := HCK.out
        rw [checkE_bad hbad] at hck
        have HCK2 := Lib.hid hck
        clear hck hbad HCK
        go_upto_region 9 with fail
        try rw [hwb]
        try rw [hwd]
        clear hwb hwd x0 x1 x2 x3 x4 x5 x6
        obtain ⟨d0, d1, d2, d3, d4, d5, d6⟩ := HBOXD.out.zero
        go_wp2_with fail
        refine HCK2.out.mono ?_
        rintro e w6 ⟨rfl, hb6⟩
        clear d0 d1 d2 d3 d4 d5 d6
        have hbx6 := HBX5.out.kept (grown_none hb6) (fun e => by cases e)
        have x0 := hbx6.1 0 _ rfl; have x1 := hbx6.1 1 _ rfl; have x2 := hbx6.1 2 _ rfl; have x3 := hbx6.1 3 _ rfl; have x4 := hbx6.1 4 _ rfl; have x5 := hbx6.1 5 _ rfl; have x6 := hbx6.1 6 _ rfl
        have hb46 : Below wr.heap.size wr w6 := HB4.out.trans ((HBD4.out.trans (hb6.mono HBD4.out.size)).mono HB4.out.size)
        have hck2 := Check_any C _ w6 (CRd_more hb46.size _ _ (CRd_keep hb46 _ _ HRD.out)) (by have := HNOD.out; omega)
        rw [checkE_ok (bad_of HALL.out (by rw [HZ2.out]; omega))] at hck2
        have HCK3 := Lib.hid hck2
        have HB06 := Lib.hid (HB0D.out.trans (hb6.mono HB0D.out.size))
        clear hck2 hb46 hb6 hbx6
        simp only [contCells] at HCK3
        go_wp2_with fail
        refine HCK3.out.mono ?_
        rintro e w7 ⟨rfl, hb7⟩
        have hb07 := HB06.out.trans (hb7.mono HB06.out.size)
        have hkn := known_any w7 (HOK.out.below hb07)
        have HKN := Lib.hid hkn; have HB07 := Lib.hid hb07
        clear hkn hb07 hb7
        go_wp2_with fail
        refine HKN.out.mono ?_
        rintro e w8 ⟨rfl, hb8⟩
        go_wp2
        go_ret
        exact ⟨rfl, HB07.out.trans (hb8.mono HB07.out.size)⟩
      · have hz6' : ¬ 6 ≤ z2 := hz6
        have hgood : AllOk (crypt1 C) ∧ depthC (crypt1 C) ≤ 6 := ⟨crypt1_ok HALL.out, by rw [crypt1_depth]; have := HZ2.out; omega⟩
        have hck := HCK.out
        rw [checkE_ok (bad_of hgood.1 hgood.2)] at hck
        have HCK2 := Lib.hid hck; have HGOOD := Lib.hid hgood
        clear hck hgood HCK
        go_upto_region 9 with fail
        try rw [hwb]
        try rw [hwd]
        clear hwb hwd x0 x1 x2 x3 x4 x5 x6
        obtain ⟨d0, d1, d2, d3, d4, d5, d6⟩ := HBOXD.out.zero
        go_wp2_with fail
        refine HCK2.out.mono ?_
        rintro e w6 ⟨rfl, hb6⟩
        clear d0 d1 d2 d3 d4 d5 d6
        obtain ⟨d0, d1, d2, d3, d4, d5, d6⟩ := (HBOXD.out.keep hb6 (by have := HGD.out; have := HGB.out; omega)).zero
        have hbx6 := HBX5.out.kept (grown_none hb6) (fun e => by cases e)
        have x0 := hbx6.1 0 _ rfl; have x1 := hbx6.1 1 _ rfl; have x2 := hbx6.1 2 _ rfl; have x3 := hbx6.1 3 _ rfl; have x4 := hbx6.1 4 _ rfl; have x5 := hbx6.1 5 _ rfl; have x6 := hbx6.1 6 _ rfl; have xf := hbx6.2.1
        have hrel6 : NestRel w g (crypt1 C) (24 - (m - 1)) (((((((w6.setCell ⟨g, 0, none⟩ (.int .i64 3)).setCell ⟨g, 1, none⟩ (.string ⟨#[107]⟩)).setCell ⟨g, 2, none⟩ (.string ⟨#[]⟩)).setCell ⟨g, 3, none⟩ (.int .i64 0)).setCell ⟨g, 4, none⟩ (.int .i64 0)).setCell ⟨g, 5, none⟩ (.int .i64 0)).setCell ⟨g, 6, none⟩ (.slice (some ⟨w4.heap.size, 0, none⟩) 1 1)) := by
          have hb := ((((((hbx6.set_ (j := 0) (by simp [contCells]) (.int .i64 3)).set_ (j := 1) (by simp [contCells]) (.string ⟨#[107]⟩)).set_ (j := 2) (by simp [contCells]) (.string ⟨#[]⟩)).set_ (j := 3) (by simp [contCells]) (.int .i64 0)).set_ (j := 4) (by simp [contCells]) (.int .i64 0)).set_ (j := 5) (by simp [contCells]) (.int .i64 0)).set_ (j := 6) (by simp [contCells]) (.slice (some ⟨w4.heap.size, 0, none⟩) 1 1)
          simp only [contCells, List.set_cons_zero, List.set_cons_succ] at hb
          have hb06 := HB0D.out.trans (hb6.mono HB0D.out.size)
          refine ⟨_, hb, ?_, HGOOD.out.1, HGOOD.out.2, by rw [crypt1_nodes]; have := HNOD.out; omega, ((((((hb06.setCell (by exact HGW.out) _).setCell (by exact HGW.out) _).setCell (by exact HGW.out) _).setCell (by exact HGW.out) _).setCell (by exact HGW.out) _).setCell (by exact HGW.out) _).setCell (by exact HGW.out) _, HGW.out⟩
          rw [fin_size]
          exact CRdS_mono (fun y hy => ⟨by have := hy.1; have := hb6.size; omega, hy.2⟩) (fun y o u hy hu => fin_cells _ _ _ _ _ _ _ y o u (fun e => hy.2 e.symm) ((hb6.cell (p := ⟨y, o, none⟩) (by exact hy.1)).trans hu)) _ _ HNX.out
        have HREL6 := Lib.hid hrel6
        clear hrel6 hbx6 hb6
        go_wp2
        go_roundw
        case rel => exact ⟨m - 1, by omega, by (try go_num) <;> omega, Lib.hid ⟨_, HREL6.out⟩⟩
        case measure => simp [intOf]; omega
end Go.Proofs.YtnlocdhhecockaaDoor
