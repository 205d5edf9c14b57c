/-
  The walk of layer 7's Parse.
-/
import Derived.Test.YtnlocdhhecockaaGreatDoorCpC
import Derived.Test.YtnlocdhhecockaaGreatDoorCnK
set_option linter.unusedSimpArgs false
set_option linter.unusedVariables false
namespace Go.Cold
open Go Go.RowKit
/-- The content whose text this is. -/
noncomputable def parseC (s : ByteArray) : Option Cont := if 256 < s.size then none else match contP s (s.size + 1) 0 with
  | some (c, k) => if k = s.size ∧ badC c = false then some c else none
  | none => none
theorem below_of_grown {B b : Nat} {a w w' : World} (h : Below B a w) (hg : w.grownBy w' (some b)) (hB : B ≤ w.heap.size) (hb : B ≤ b) : Below B a w' :=
  h.grown hg hB (fun k hk => by have := Option.some.inj hk; omega)
end Go.Cold
namespace Go.Proofs.YtnlocdhhecockaaGreatDoor
open Go.RowKit Go.Cold

def zeroA : Value := .agg #[.int .i64 0, .string ByteArray.empty, .string ByteArray.empty, .int .i64 0, .int .i64 0, .int .i64 0, .slice none 0 0]
def ParsePost (s : ByteArray) (w : World) (e : Ending) (w' : World) : Prop := Below w.heap.size w w' ∧
  ((∃ c cs, parseC s = some c ∧ e = .returned (.tuple #[.agg cs.toArray, .int .i64 0]) ∧ NewC w w' c cs ∧ nodesC c ≤ 257) ∨ (parseC s = none ∧ e = .returned (.tuple #[zeroA, .int .i64 (if 256 < s.size then 71 else 70)])))
set_option maxHeartbeats 4000000 in
set_option maxRecDepth 100000 in
theorem Parse_any (s : ByteArray) (hix : s.size ≤ 256 → IxOk s) (w : World) (hsz : s.size ≤ maxLen) (hok : Ok7 w) : Calls Tryz.prog 6 #[.string s] w (ParsePost s w) := by
  have hzv := (zero_of_info (P := Tryz.prog) (t := 31) info_cont2).1
  unfold maxLen at hsz
  by_cases hs : s.size ≤ 256
  · have hix := hix hs
    have HIX := Lib.hid hix; have HOK := Lib.hid hok; clear hix hok hsz
    have i1 : (s.size : Int) ≤ 256 := by omega
    go_enter Tryz.func6, Tryz.ntmps6
    go_upto_region 4 with fail
    obtain ⟨w1, hw1⟩ : ∃ w1, w.alloc (.cells #[.int .i64 0, .string ByteArray.empty, .string ByteArray.empty, .int .i64 0, .int .i64 0, .int .i64 0, .slice none 0 0] 31) = w1 := ⟨_, rfl⟩
    obtain ⟨w2, hw2⟩ : ∃ w2, w1.alloc (.cells #[.string s, .int .i64 0, .bool false] 47) = w2 := ⟨_, rfl⟩
    obtain ⟨hb1, hg1, -⟩ := box7 hw1
    have hf1 := box7f hw1
    have hf2 := box7f hw2
    have hb2 : Below w1.heap.size w1 w2 := by rw [← hw2]; exact (Below.refl _ _).alloc (Nat.le_refl _) _
    have hg2 : w2.heap.size = w1.heap.size + 1 := by rw [← hw2]; simp
    have hr1 : BoxL w1 w.heap.size zeroL := by
      refine ⟨fun j u hu => ?_, hf1, by omega⟩
      rw [← hw1, World.cell?_alloc_at _ _ _ _ rfl]
      simpa [zeroL] using hu
    have hcur : CurAt w2 w1.heap.size s 0 false := by
      refine ⟨?_, ?_, ?_, hf2, by omega⟩ <;> (rw [← hw2, World.cell?_alloc_at _ _ _ _ rfl]; rfl)
    have hg12 : w1.grownBy w2 none := ⟨hb2.os, hb2.tape, hb2.output, hb2.size, fun k hk _ => hb2.block k hk⟩
    have HR2 := Lib.hid (hr1.kept hg12 (fun e => by cases e))
    have HCUR := Lib.hid hcur
    have hb02 : Below w.heap.size w w2 := hb1.trans (hb2.mono (by omega))
    have HB02 := Lib.hid hb02
    have HOK2 := Lib.hid (HOK.out.below hb02)
    have HG1 := Lib.hid hg1; have HG2 := Lib.hid hg2
    have HGB := Lib.hid (HOK.out.gb (show w.heap.size ≤ w1.heap.size by omega))
    rw [hw1, hw2]
    clear hw1 hw2 hb1 hb2 hf1 hf2 hr1 hcur hg12 hb02 hg1 hg2
    go_wp2_with fail
    rw [← HG1.out]
    refine (content_any s (by omega) HIX.out (s.size + 1) 0 (s.size + 1) false w1.heap.size w2 (by omega) (by omega) (fun _ => by omega) HCUR.out HOK2.out HGB.out).mono ?_
    rintro e w3 ⟨cs, c, k, bad, rfl, hnew, hc3, hg3, hbd, hsp⟩
    obtain ⟨kk, i, l, sl, t, le, xs⟩ := c
    obtain ⟨A, cp, rfl⟩ := CRdS_cells hnew
    simp only [contCells]
    have hpc : parseC s = if bad = false ∧ k = s.size ∧ badC (.mk kk i l sl t le xs) = false then some (.mk kk i l sl t le xs) else none := by
      rw [if_neg (by decide)] at hsp
      unfold parseC
      rw [if_neg (by omega), hsp]
      cases bad
      · simp
      · simp
    have HPC := Lib.hid hpc; have HNEW := Lib.hid hnew
    obtain ⟨w4, hw4⟩ : ∃ w4, w3.alloc (.cells #[.int .i64 kk, .string i, .string l, .int .i64 sl, .int .i64 t, .int .i64 le, .slice A xs.length cp] 31) = w4 := ⟨_, rfl⟩
    obtain ⟨hb4, hg4, hbox4⟩ := box7 hw4
    have hsz3 : w2.heap.size ≤ w3.heap.size := hg3.size
    have hb03 : Below w.heap.size w w3 := below_of_grown HB02.out hg3 (by have := HG1.out; have := HG2.out; omega) (by have := HG1.out; omega)
    have hb04 : Below w.heap.size w w4 := hb03.trans (hb4.mono (by have := HG1.out; have := HG2.out; omega))
    have hr3 := HR2.out.kept hg3 (fun e => by have := Option.some.inj e; have := HG1.out; omega)
    have hg34 : w3.grownBy w4 none := ⟨hb4.os, hb4.tape, hb4.output, hb4.size, fun k hk _ => hb4.block k hk⟩
    have hr4 := hr3.kept hg34 (fun e => by cases e)
    have hc4 := (hc3.below hb4).1
    have hx4 : CRd w4 w4.heap.size (.mk kk i l sl t le xs) (contCells kk i l sl t le A xs.length cp) := CRd_more (by omega) _ _ (CRd_keep hb4 _ _ hnew.crd)
    have hnd : nodesC (.mk kk i l sl t le xs) ≤ 257 := by have := hbd.2.1; have := hbd.2.2; omega
    have HND := Lib.hid hnd
    have hnew4 : CRdS w4 (fun x => w2.heap.size ≤ x ∧ x < w3.heap.size) (.mk kk i l sl t le xs) (contCells kk i l sl t le A xs.length cp) :=
      CRdS_mono (fun _ h => h) (fun y o u hy hu => (hb4.cell (p := ⟨y, o, none⟩) (by exact hy.2)).trans hu) _ _ hnew
    have HB04 := Lib.hid hb04; have HR4 := Lib.hid hr4; have HC4 := Lib.hid hc4; have HX4 := Lib.hid hx4; have HNEW4 := Lib.hid hnew4; have HBOX4 := Lib.hid hbox4; have HKS := Lib.hid hbd.2.1
    have HSZ3 := Lib.hid hsz3; have HG4 := Lib.hid hg4
    clear hpc hnew hb4 hg4 hb03 hb04 hr3 hg34 hr4 hc4 hx4 hnew4 hnd hbox4 hsz3 hbd hsp hc3 hg3
    go_upto_region 5 with fail
    try rw [hw4]
    clear hw4
    obtain ⟨d0, d1, d2, d3, d4, d5, d6⟩ := HBOX4.out.zero
    obtain ⟨p0, p1, p2, pf, plt⟩ := HC4.out
    have y0 := HR4.out.1 0 _ rfl; have y1 := HR4.out.1 1 _ rfl; have y2 := HR4.out.1 2 _ rfl; have y3 := HR4.out.1 3 _ rfl; have y4 := HR4.out.1 4 _ rfl; have y5 := HR4.out.1 5 _ rfl; have y6 := HR4.out.1 6 _ rfl; have yf := HR4.out.2.1
    have hfail : parseC s = none → ∀ (w5 : World), Below w4.heap.size w4 w5 → ParsePost s w (.returned (.tuple #[zeroA, .int .i64 70])) (((((((w5.setCell ⟨w.heap.size, 0, none⟩ (.int .i64 0)).setCell ⟨w.heap.size, 1, none⟩ (.string ByteArray.empty)).setCell ⟨w.heap.size, 2, none⟩ (.string ByteArray.empty)).setCell ⟨w.heap.size, 3, none⟩ (.int .i64 0)).setCell ⟨w.heap.size, 4, none⟩ (.int .i64 0)).setCell ⟨w.heap.size, 5, none⟩ (.int .i64 0)).setCell ⟨w.heap.size, 6, none⟩ (.slice none 0 0)) := by
      intro h w5 hb5
      have hb05 : Below w.heap.size w w5 := HB04.out.trans (hb5.mono HB04.out.size)
      exact ⟨((((((hb05.setCell (by simp) _).setCell (by simp) _).setCell (by simp) _).setCell (by simp) _).setCell (by simp) _).setCell (by simp) _).setCell (by simp) _, .inr ⟨h, by rw [if_neg (by omega)]⟩⟩
    have HFAIL := Lib.hid hfail; clear hfail
    cases bad with
    | true =>
      have hn : parseC s = none := by rw [HPC.out]; simp
      have HN := Lib.hid hn; clear hn
      go_wp2
      exact bodyPost_ret (v := .tuple #[.agg #[.int .i64 0, .string ByteArray.empty, .string ByteArray.empty, .int .i64 0, .int .i64 0, .int .i64 0, .slice none 0 0], .int .i64 70]) (by simp [results, Tryz.results6, go_sem, y0, y1, y2, y3, y4, y5, y6]) rfl (HFAIL.out HN.out _ (Below.refl _ _))
    | false =>
      by_cases hk : k = s.size
      · have hk1 : ((k : Int) != (s.size : Int)) = false := by simp [hk]
        have hk2 : ((k : Int) == (s.size : Int)) = true := by simp [hk]
        have HK := Lib.hid hk; clear hk
        have hcall := Check_any (.mk kk i l sl t le xs) _ w4 HX4.out (by have := HND.out; omega)
        have HCALL := Lib.hid hcall; clear hcall
        go_wp2_with fail
        refine HCALL.out.mono ?_
        rintro e w5 ⟨rfl, hb5⟩
        have hsz4 := HR4.out.2.2
        have hszb := HB04.out.size
        have hr5 := HR4.out.kept (row := none) ⟨hb5.os, hb5.tape, hb5.output, hb5.size, fun k hk _ => hb5.block k hk⟩ (fun e => by cases e)
        obtain ⟨f0, f1, f2, f3, f4, f5, f6⟩ := (HBOX4.out.keep hb5 (by have := HG4.out; omega)).zero
        clear d0 d1 d2 d3 d4 d5 d6 y0 y1 y2 y3 y4 y5 y6 yf p0 p1 p2 pf plt hk1 hk2
        have y0 := hr5.1 0 _ rfl; have y1 := hr5.1 1 _ rfl; have y2 := hr5.1 2 _ rfl; have y3 := hr5.1 3 _ rfl; have y4 := hr5.1 4 _ rfl; have y5 := hr5.1 5 _ rfl; have y6 := hr5.1 6 _ rfl; have yf := hr5.2.1
        have HB5 := Lib.hid hb5; clear hb5 hr5 hsz4 hszb
        cases hbad : badC (.mk kk i l sl t le xs) with
        | true =>
          have hn : parseC s = none := by rw [HPC.out, hbad]; simp
          have HN := Lib.hid hn; clear hn
          rw [checkE_bad hbad]
          clear hbad
          go_wp2
          exact bodyPost_ret (v := .tuple #[.agg #[.int .i64 0, .string ByteArray.empty, .string ByteArray.empty, .int .i64 0, .int .i64 0, .int .i64 0, .slice none 0 0], .int .i64 70]) (by simp [results, Tryz.results6, go_sem, y0, y1, y2, y3, y4, y5, y6]) rfl (HFAIL.out HN.out _ HB5.out)
        | false =>
          have hn : parseC s = some (.mk kk i l sl t le xs) := by rw [HPC.out, hbad, HK.out]; simp
          have HN := Lib.hid hn; clear hn
          rw [checkE_ok hbad]
          clear hbad
          go_wp2
          refine bodyPost_ret (v := .tuple #[.agg #[.int .i64 kk, .string i, .string l, .int .i64 sl, .int .i64 t, .int .i64 le, .slice A xs.length cp], .int .i64 0]) (by simp [results, Tryz.results6, go_sem, y0, y1, y2, y3, y4, y5, y6]) rfl ⟨?_, .inl ⟨_, contCells kk i l sl t le A xs.length cp, HN.out, rfl, ?_, HND.out⟩⟩
          · have hb05 : Below w.heap.size w w5 := HB04.out.trans (HB5.out.mono HB04.out.size)
            exact ((((((hb05.setCell (by simp) _).setCell (by simp) _).setCell (by simp) _).setCell (by simp) _).setCell (by simp) _).setCell (by simp) _).setCell (by simp) _
          · unfold NewC
            rw [fin_size]
            refine CRdS_mono (fun y hy => ⟨by have := hy.1; have := HG1.out; have := HG2.out; omega, by have := hy.2; have := HG4.out; have := HB5.out.size; omega⟩) (fun y o u hy hu => ?_) _ _ HNEW4.out
            exact fin_cells _ _ _ _ _ _ _ y o u (by have := hy.1; have := HG1.out; have := HG2.out; omega) ((HB5.out.cell (p := ⟨y, o, none⟩) (by show y < w4.heap.size; have := hy.2; have := HG4.out; omega)).trans hu)
      · have hk1 : ((k : Int) != (s.size : Int)) = true := by simp; omega
        have hk2 : ((k : Int) == (s.size : Int)) = false := by simp; omega
        have hn : parseC s = none := by rw [HPC.out]; simp [hk]
        have HN := Lib.hid hn; clear hn hk
        go_wp2
        exact bodyPost_ret (v := .tuple #[.agg #[.int .i64 0, .string ByteArray.empty, .string ByteArray.empty, .int .i64 0, .int .i64 0, .int .i64 0, .slice none 0 0], .int .i64 70]) (by simp [results, Tryz.results6, go_sem, y0, y1, y2, y3, y4, y5, y6]) rfl (HFAIL.out HN.out _ (Below.refl _ _))
  · have i1 : ¬ (s.size : Int) ≤ 256 := by omega
    have hn : parseC s = none := by unfold parseC; rw [if_pos (by omega)]
    have HN := Lib.hid hn; clear hn
    go_enter Tryz.func6, Tryz.ntmps6
    go_wp2
    refine bodyPost_ret (v := .tuple #[.agg #[.int .i64 0, .string ByteArray.empty, .string ByteArray.empty, .int .i64 0, .int .i64 0, .int .i64 0, .slice none 0 0], .int .i64 71]) (by simp [results, Tryz.results6, go_sem]) rfl ⟨?_, .inr ⟨HN.out, by rw [if_pos (by omega)]; rfl⟩⟩
    (repeat first | refine Below.setCell ?_ (by first | (simp; done) | (simp; omega)) _ | refine Below.alloc ?_ (by first | (simp; done) | (simp; omega)) _); exact Below.refl _ _
end Go.Proofs.YtnlocdhhecockaaGreatDoor
