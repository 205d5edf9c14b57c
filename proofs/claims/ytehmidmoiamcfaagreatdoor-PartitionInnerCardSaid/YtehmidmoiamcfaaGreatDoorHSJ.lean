/-
  The walk of layer 7's Parse.
-/
import Derived.Test.YtehmidmoiamcfaaGreatDoorHA
import Derived.Test.YtehmidmoiamcfaaGreatDoorHD
import Derived.Test.YtehmidmoiamcfaaGreatDoorHSI
import Derived.Test.YtehmidmoiamcfaaGreatDoorHSB
import Derived.Test.YtehmidmoiamcfaaGreatDoorHSC
import Derived.Deep.AppendLies
import Derived.Deep.RegionHeld3
import Derived.Deep.DeepCutAuto
import Derived.Test.YtehmidmoiamcfaaGreatDoorHRF
set_option linter.unusedSimpArgs false
set_option linter.unusedVariables false
namespace Go.Cold
open Go Go.RowKit
/-- The content whose text this is. -/
noncomputable def parseC (s : ByteArray) : Option Cont := if 256 < s.size then none else match contP s (s.size + 1) 0 with
 | some (c, k) => if k = s.size ∧ badC c = false then some c else none
 | none => none
end Go.Cold
namespace Go.Proofs.YtehmidmoiamcfaaGreatDoor
open Go.RowKit Go.Cold

def zeroA : Value := .agg #[.int .i64 0, .string ByteArray.empty, .string ByteArray.empty, .int .i64 0, .int .i64 0, .int .i64 0, .slice none 0 0]
def ParsePost (s : ByteArray) (w : World) (e : Ending) (w' : World) : Prop := Below w.heap.size w w' ∧
 ((∃ c cs, parseC s = some c ∧ e = .returned (.tuple #[.agg cs.toArray, .int .i64 0]) ∧ NewC w w' c cs ∧ nodesC c ≤ 257) ∨ (parseC s = none ∧ e = .returned (.tuple #[zeroA, .int .i64 (if 256 < s.size then 71 else 70)])))
set_option maxHeartbeats 4000000 in
set_option maxRecDepth 100000 in
theorem Parse_any (s : ByteArray) (hix : s.size ≤ 256 → IxOk s) (w : World) (hsz : s.size ≤ maxLen) (hok : Ok7 w) : Calls Tryz.prog 17 #[.string s] w (ParsePost s w) := by
 have hzv := (zero_of_info (P := Tryz.prog) (t := 36) info_cont2).1
 unfold maxLen at hsz
 by_cases hs : s.size ≤ 256
 ·
  have hix := hix hs
  have HIX := Lib.hid hix; have HOK := Lib.hid hok; clear hix hok hsz
  have i1 : (s.size : Int) ≤ 256 := by omega
  go_enter Tryz.func17, Tryz.ntmps17
  go_upto_region 4 with fail
  obtain ⟨w1, hw1⟩ : ∃ w1, w.alloc (.cells #[.int .i64 0, .string ByteArray.empty, .string ByteArray.empty, .int .i64 0, .int .i64 0, .int .i64 0, .slice none 0 0] 36) = w1 := ⟨_, rfl⟩
  obtain ⟨w2, hw2⟩ : ∃ w2, w1.alloc (.cells #[.string s, .int .i64 0, .bool false] 77) = w2 := ⟨_, rfl⟩
  obtain ⟨hb1, hg1, -⟩ := box7 hw1
  have hf1 := box7f hw1
  have hf2 := box7f hw2
  have hb2 : Below w1.heap.size w1 w2 := by rw [← hw2]; exact (Below.refl _ _).alloc (Nat.le_refl _) _
  have hg2 : w2.heap.size = w1.heap.size + 1 := by rw [← hw2]; simp
  have hr1 : BoxL w1 w.heap.size zeroL := by
   refine ⟨fun j u hu => ?_, hf1, by omega⟩
   rw [← hw1, World.cell?_alloc_at _ _ _ _ rfl]
   simpa [zeroL] using hu
  have hcur : CurAt w2 w1.heap.size s 0 false := by
   refine ⟨?_, ?_, ?_, hf2, by omega⟩ <;> (rw [← hw2, World.cell?_alloc_at _ _ _ _ rfl]; rfl)
  have hg12 : w1.grownBy w2 none := ⟨hb2.os, hb2.tape, hb2.output, hb2.size, fun k hk _ => hb2.block k hk⟩
  have HR2 := Lib.hid (hr1.kept hg12 (fun e => by cases e))
  have HCUR := Lib.hid hcur
  have hb02 : Below w.heap.size w w2 := hb1.trans (hb2.mono (by omega))
  have HB02 := Lib.hid hb02
  have HOK2 := Lib.hid (HOK.out.below hb02)
  have HG1 := Lib.hid hg1; have HG2 := Lib.hid hg2
  have HGB := Lib.hid (HOK.out.gb (show w.heap.size ≤ w1.heap.size by omega))
  rw [hw1, hw2]
  clear hw1 hw2 hb1 hb2 hf1 hf2 hr1 hcur hg12 hb02 hg1 hg2
  go_wp2_with fail
  rw [← HG1.out]
  refine (content_any s (by omega) HIX.out (s.size + 1) 0 (s.size + 1) false w1.heap.size w2 (by omega) (by omega) (fun _ => by omega) HCUR.out HOK2.out HGB.out).mono ?_
  rintro e w3 ⟨cs, c, k, bad, rfl, hnew, hc3, hg3, hbd, hsp⟩
  obtain ⟨kk, i, l, sl, t, le, xs⟩ := c
  obtain ⟨A, cp, rfl⟩ := CRdS_cells hnew
  simp only [contCells]
  have hpc : parseC s = if bad = false ∧ k = s.size ∧ badC (.mk kk i l sl t le xs) = false then some (.mk kk i l sl t le xs) else none := by
   rw [if_neg (by decide)] at hsp
   unfold parseC
   rw [if_neg (by omega), hsp]
   cases bad
   · simp
   · simp
  have HPC := Lib.hid hpc; have HNEW := Lib.hid hnew
  obtain ⟨w4, hw4⟩ : ∃ w4, w3.alloc (.cells #[.int .i64 kk, .string i, .string l, .int .i64 sl, .int .i64 t, .int .i64 le, .slice A xs.length cp] 36) = w4 := ⟨_, rfl⟩
  obtain ⟨hb4, hg4, hbox4⟩ := box7 hw4
  have hsz3 : w2.heap.size ≤ w3.heap.size := hg3.size
  have hb03 : Below w.heap.size w w3 := below_of_grown HB02.out hg3 (by have := HG1.out; have := HG2.out; omega) (by have := HG1.out; omega)
  have hb04 : Below w.heap.size w w4 := hb03.trans (hb4.mono (by have := HG1.out; have := HG2.out; omega))
  have hr3 := HR2.out.kept hg3 (fun e => by have := Option.some.inj e; have := HG1.out; omega)
  have hg34 : w3.grownBy w4 none := ⟨hb4.os, hb4.tape, hb4.output, hb4.size, fun k hk _ => hb4.block k hk⟩
  have hr4 := hr3.kept hg34 (fun e => by cases e)
  have hc4 := (hc3.below hb4).1
  have hx4 : CRd w4 w4.heap.size (.mk kk i l sl t le xs) (contCells kk i l sl t le A xs.length cp) := CRd_more (by omega) _ _ (CRd_keep hb4 _ _ hnew.crd)
  have hnd : nodesC (.mk kk i l sl t le xs) ≤ 257 := by have := hbd.2.1; have := hbd.2.2; omega
  have HND := Lib.hid hnd
  have hnew4 : CRdS w4 (fun x => w2.heap.size ≤ x ∧ x < w3.heap.size) (.mk kk i l sl t le xs) (contCells kk i l sl t le A xs.length cp) :=
   CRdS_mono (fun _ h => h) (fun y o u hy hu => (hb4.cell (p := ⟨y, o, none⟩) (by exact hy.2)).trans hu) _ _ hnew
  have HB04 := Lib.hid hb04; have HR4 := Lib.hid hr4; have HC4 := Lib.hid hc4; have HX4 := Lib.hid hx4; have HNEW4 := Lib.hid hnew4; have HBOX4 := Lib.hid hbox4; have HKS := Lib.hid hbd.2.1
  have HSZ3 := Lib.hid hsz3; have HG4 := Lib.hid hg4
  clear hpc hnew hb4 hg4 hb03 hb04 hr3 hg34 hr4 hc4 hx4 hnew4 hnd hbox4 hsz3 hbd hsp hc3 hg3
  go_upto_region 5 with fail
  try rw [hw4]
  clear hw4
  obtain ⟨d0, d1, d2, d3, d4, d5, d6⟩ := HBOX4.out.zero
  obtain ⟨p0, p1, p2, pf, plt⟩ := HC4.out
  have y0 := HR4.out.1 0 _ rfl; have y1 := HR4.out.1 1 _ rfl; have y2 := HR4.out.1 2 _ rfl; have y3 := HR4.out.1 3 _ rfl; have y4 := HR4.out.1 4 _ rfl; have y5 := HR4.out.1 5 _ rfl; have y6 := HR4.out.1 6 _ rfl; have yf := HR4.out.2.1
  have hfail : parseC s = none → ∀ (w5 : World), Below w4.heap.size w4 w5 → ParsePost s w (.returned (.tuple #[zeroA, .int .i64 70])) (((((((w5.setCell ⟨w.heap.size, 0, none⟩ (.int .i64 0)).setCell ⟨w.heap.size, 1, none⟩ (.string ByteArray.empty)).setCell ⟨w.heap.size, 2, none⟩ (.string ByteArray.empty)).setCell ⟨w.heap.size, 3, none⟩ (.int .i64 0)).setCell ⟨w.heap.size, 4, none⟩ (.int .i64 0)).setCell ⟨w.heap.size, 5, none⟩ (.int .i64 0)).setCell ⟨w.heap.size, 6, none⟩ (.slice none 0 0)) := by
   intro h w5 hb5
   have hb05 : Below w.heap.size w w5 := HB04.out.trans (hb5.mono HB04.out.size)
   exact ⟨((((((hb05.setCell (by simp) _).setCell (by simp) _).setCell (by simp) _).setCell (by simp) _).setCell (by simp) _).setCell (by simp) _).setCell (by simp) _, .inr ⟨h, by rw [if_neg (by omega)]⟩⟩
  have HFAIL := Lib.hid hfail; clear hfail
  cases bad with
  | true =>
   have hn : parseC s = none := by rw [HPC.out]; simp
   have HN := Lib.hid hn; clear hn
   go_wp2
   exact bodyPost_ret (v := .tuple #[.agg #[.int .i64 0, .string ByteArray.empty, .string ByteArray.empty, .int .i64 0, .int .i64 0, .int .i64 0, .slice none 0 0], .int .i64 70]) (by simp [results, Tryz.results17, go_sem, y0, y1, y2, y3, y4, y5, y6]) rfl (HFAIL.out HN.out _ (Below.refl _ _))
  | false =>
   by_cases hk : k = s.size
   ·
    have hk1 : ((k : Int) != (s.size : Int)) = false := by simp [hk]
    have hk2 : ((k : Int) == (s.size : Int)) = true := by simp [hk]
    have HK := Lib.hid hk; clear hk
    have hcall := c7Check_any (.mk kk i l sl t le xs) _ w4 HX4.out (by have := HND.out; omega)
    have HCALL := Lib.hid hcall; clear hcall
    go_wp2_with fail
    refine HCALL.out.mono ?_
    rintro e w5 ⟨rfl, hb5⟩
    have hsz4 := HR4.out.2.2
    have hszb := HB04.out.size
    have hr5 := HR4.out.kept (row := none) ⟨hb5.os, hb5.tape, hb5.output, hb5.size, fun k hk _ => hb5.block k hk⟩ (fun e => by cases e)
    obtain ⟨f0, f1, f2, f3, f4, f5, f6⟩ := (HBOX4.out.keep hb5 (by have := HG4.out; omega)).zero
    clear d0 d1 d2 d3 d4 d5 d6 y0 y1 y2 y3 y4 y5 y6 yf p0 p1 p2 pf plt hk1 hk2
    have y0 := hr5.1 0 _ rfl; have y1 := hr5.1 1 _ rfl; have y2 := hr5.1 2 _ rfl; have y3 := hr5.1 3 _ rfl; have y4 := hr5.1 4 _ rfl; have y5 := hr5.1 5 _ rfl; have y6 := hr5.1 6 _ rfl; have yf := hr5.2.1
    have HB5 := Lib.hid hb5; clear hb5 hr5 hsz4 hszb
    cases hbad : badC (.mk kk i l sl t le xs) with
    | true =>
     have hn : parseC s = none := by rw [HPC.out, hbad]; simp
     have HN := Lib.hid hn; clear hn
     rw [checkE_bad hbad]
     clear hbad
     go_wp2
     exact bodyPost_ret (v := .tuple #[.agg #[.int .i64 0, .string ByteArray.empty, .string ByteArray.empty, .int .i64 0, .int .i64 0, .int .i64 0, .slice none 0 0], .int .i64 70]) (by simp [results, Tryz.results17, go_sem, y0, y1, y2, y3, y4, y5, y6]) rfl (HFAIL.out HN.out _ HB5.out)
    | false =>
     have hn : parseC s = some (.mk kk i l sl t le xs) := by rw [HPC.out, hbad, HK.out]; simp
     have HN := Lib.hid hn; clear hn
     rw [checkE_ok hbad]
     clear hbad
     go_wp2
     refine bodyPost_ret (v := .tuple #[.agg #[.int .i64 kk, .string i, .string l, .int .i64 sl, .int .i64 t, .int .i64 le, .slice A xs.length cp], .int .i64 0]) (by simp [results, Tryz.results17, go_sem, y0, y1, y2, y3, y4, y5, y6]) rfl ⟨?_, .inl ⟨_, contCells kk i l sl t le A xs.length cp, HN.out, rfl, ?_, HND.out⟩⟩
     ·
      have hb05 : Below w.heap.size w w5 := HB04.out.trans (HB5.out.mono HB04.out.size)
      exact ((((((hb05.setCell (by simp) _).setCell (by simp) _).setCell (by simp) _).setCell (by simp) _).setCell (by simp) _).setCell (by simp) _).setCell (by simp) _
     ·
      unfold NewC
      rw [fin_size]
      refine CRdS_mono (fun y hy => ⟨by have := hy.1; have := HG1.out; have := HG2.out; omega, by have := hy.2; have := HG4.out; have := HB5.out.size; omega⟩) (fun y o u hy hu => ?_) _ _ HNEW4.out
      exact fin_cells _ _ _ _ _ _ _ y o u (by have := hy.1; have := HG1.out; have := HG2.out; omega) ((HB5.out.cell (p := ⟨y, o, none⟩) (by show y < w4.heap.size; have := hy.2; have := HG4.out; omega)).trans hu)
   ·
    have hk1 : ((k : Int) != (s.size : Int)) = true := by simp; omega
    have hk2 : ((k : Int) == (s.size : Int)) = false := by simp; omega
    have hn : parseC s = none := by rw [HPC.out]; simp [hk]
    have HN := Lib.hid hn; clear hn hk
    go_wp2
    exact bodyPost_ret (v := .tuple #[.agg #[.int .i64 0, .string ByteArray.empty, .string ByteArray.empty, .int .i64 0, .int .i64 0, .int .i64 0, .slice none 0 0], .int .i64 70]) (by simp [results, Tryz.results17, go_sem, y0, y1, y2, y3, y4, y5, y6]) rfl (HFAIL.out HN.out _ (Below.refl _ _))
 ·
  have i1 : ¬ (s.size : Int) ≤ 256 := by omega
  have hn : parseC s = none := by unfold parseC; rw [if_pos (by omega)]
  have HN := Lib.hid hn; clear hn
  go_enter Tryz.func17, Tryz.ntmps17
  go_wp2
  refine bodyPost_ret (v := .tuple #[.agg #[.int .i64 0, .string ByteArray.empty, .string ByteArray.empty, .int .i64 0, .int .i64 0, .int .i64 0, .slice none 0 0], .int .i64 71]) (by simp [results, Tryz.results17, go_sem]) rfl ⟨?_, .inr ⟨HN.out, by rw [if_pos (by omega)]; rfl⟩⟩
  (repeat first | refine Below.setCell ?_ (by first | (simp; done) | (simp; omega)) _ | refine Below.alloc ?_ (by first | (simp; done) | (simp; omega)) _); exact Below.refl _ _
end Go.Proofs.YtehmidmoiamcfaaGreatDoor
namespace Go.Cold
open Go Go.RowKit
end Go.Cold
namespace Go.Proofs.YtehmidmoiamcfaaGreatDoor
open Go.RowKit Go.Cold

/-- content.Format. -/
theorem Format2_any (a : Cont) (cs : List Value) (w : World) (h : CRd w w.heap.size a cs) (hn : nodesC a ≤ 2 ^ 40) : Calls Tryz.prog 79 #[.agg cs.toArray] w (FormatPost a (textC a) w) :=
 Format_any a cs w h hn (textC a) fun hbad W ds hd => text_any a ds W hd (ok_of_bad hbad).1 hn

end Go.Proofs.YtehmidmoiamcfaaGreatDoor
namespace Go.Cold
open Go Go.RowKit
section
variable {w0 w w' : World} {B b gr gc k k' : Nat} {xs : List Int} {cs : List Value}
end
end Go.Cold
namespace Go.Proofs.YtehmidmoiamcfaaGreatDoor
open Go.RowKit Go.Cold

end Go.Proofs.YtehmidmoiamcfaaGreatDoor
namespace Go.Proofs.YtehmidmoiamcfaaGreatDoor
open Go.RowKit Go.Cold

set_option maxHeartbeats 16000000 in
set_option maxRecDepth 100000 in
theorem rvalid_all (N : Nat) : ∀ (a : Cont) (cs : List Value) (d : Nat) (w : World), szC a < N → CRd w w.heap.size a cs → d ≤ 100 → Calls Tryz.prog 121 #[.agg cs.toArray, .int .i64 d] w fun e' w' => e' = .returned (.bool (refB d a)) ∧ Below w.heap.size w w' := by
 induction N with
 | zero => intro a cs d w h; omega
 | succ N ih =>
  intro a cs d w hsz hrd hd
  obtain ⟨kk, i, l, s, t, e, xs⟩ := a
  obtain ⟨A, c, rfl, hok, hsl⟩ := CRd_iff.1 hrd
  clear hrd
  have hiz := hok.2.1; have hlz := hok.2.2.1
  have HIZ := Lib.hid hiz; have HLZ := Lib.hid hlz; clear hiz hlz
  have HOK := Lib.hid hok; clear hok
  have IH := Lib.hid ih; clear ih
  have hx1 := hsl.1; have hx2 := hsl.2.1
  unfold maxLen at hx2
  have HSl := Lib.hid hsl; clear hsl
  have HSZ := Lib.hid hsz; clear hsz
  simp only [contCells]
  obtain ⟨w0, hw0⟩ : ∃ w0, w.alloc (.cells #[.int .i64 kk, .string i, .string l, .int .i64 s, .int .i64 t, .int .i64 e, .slice A xs.length c] 36) = w0 := ⟨_, rfl⟩
  obtain ⟨hb0, hg0, hbox⟩ := box7 hw0
  obtain ⟨d0, d1, d2, d3, d4, d5, d6⟩ := hbox.zero
  go_enter Tryz.func121, Tryz.ntmps121
  go_wp2_with fail
  have HBOX := Lib.hid hbox
  clear hbox hw0 d0 d1 d2 d3 d4 d5 d6
  have hrefB : refB d (.mk kk i l s t e xs) = (refL d xs && ((decide (kk = 0) || decide (0 < d)) && ownB (.mk kk i l s t e xs))) := by rw [refB]
  have HREF := Lib.hid hrefB; clear hrefB
  generalize hgg : w.heap.size = g at *
  go_loopw [5] (fun i wr => ∃ k : Nat, k ≤ xs.length ∧ i = .int .i64 k ∧ Hid (refL d (xs.take k) = true) ∧ Below w0.heap.size w0 wr) (fun i _ => xs.length - (intOf i).toNat)
  case atStart => exact ⟨0, Nat.zero_le _, rfl, (by rw [List.take_zero, refL]; exact Lib.hid rfl), Below.refl _ _⟩
  case round =>
   obtain ⟨k, hk, rfl, HT, hb⟩ := hrel
   have hbw : Below g w wr := hb0.trans (hb.mono (by omega))
   obtain ⟨d0, d1, d2, d3, d4, d5, d6⟩ := (HBOX.out.keep hb (by omega)).zero
   by_cases hlt : k < xs.length
   ·
    have hslr := HSl.out.next (by omega) (hgg ▸ hbw)
    obtain ⟨b3, o3, rfl, hb3, cs, hcs, hcells⟩ := hslr.cont hlt
    obtain ⟨x, hx⟩ : ∃ x, xs[k] = x := ⟨_, rfl⟩
    have hxm : x ∈ xs := hx ▸ List.getElem_mem hlt
    have htk : xs.take (k + 1) = xs.take k ++ [x] := by rw [← hx]; exact List.take_succ_eq_append_getElem hlt
    have hxk : xs[k]? = some x := by rw [← hx]; exact List.getElem?_eq_getElem hlt
    rw [hx] at hcs
    clear hslr
    have hszx := szC_mem (k := kk) (i := i) (l := l) (s := s) (t := t) (e := e) hxm
    have HTK := Lib.hid htk; have HXK := Lib.hid hxk; clear htk hxk hx hxm
    obtain ⟨kk2, i2, l2, s2, t2, e2, xs2⟩ := x
    obtain ⟨A2, c2, rfl, hok2, hsl2⟩ := CRd_iff.1 hcs
    obtain ⟨c0, c1, c2', c3, c4, c5, c6⟩ := cells7 hcells
    have i1 : (k : Int) < (xs.length : Int) := by omega
    rcases Nat.eq_zero_or_pos d with hd0 | hd0
    ·
     have hd1 : (d : Int) ≤ 0 := by omega
     have HD0 := Lib.hid hd0; clear hd0
     go_wp2
     go_ret
     exact ⟨ret_bool (by rw [HREF.out, refL_bad HXK.out (by rw [HD0.out]; rfl)]; rfl), by first | exact hbw | (rw [hgg]; exact hbw)⟩
    ·
     have hcall := IH.out (.mk kk2 i2 l2 s2 t2 e2 xs2) _ (d - 1) wr (by have := HSZ.out; omega) (CRd_more (by have := hbw.size; omega) _ _ hcs) (by omega)
     have HCALL := Lib.hid hcall; clear hcall hcells hcs hok2 hsl2 hszx
     have jq2 : ¬ (d : Int) ≤ 0 := by omega
     have jq3 : (d : Int) - 1 = ((d - 1 : Nat) : Int) := by omega
     have HD0 := Lib.hid hd0; clear hd0
     have JQ3 := Lib.hid jq3; clear jq3
     go_wp2_with fail
     rw [JQ3.out]
     refine HCALL.out.mono ?_
     rintro e' w3 ⟨rfl, hb3'⟩
     have hb5 : Below w0.heap.size w0 w3 := hb.trans (hb3'.mono hb.size)
     have hb6 : Below g w w3 := hb0.trans (hb5.mono (by omega))
     cases hq : refB (d - 1) (.mk kk2 i2 l2 s2 t2 e2 xs2) with
     | true =>
      have HQ := Lib.hid hq; clear hq
      clear c0 c1 c2' c3 c4 c5 c6 d0 d1 d2 d3 d4 d5 d6
      go_wp2
      go_roundw
      case rel =>
       have hnext : Hid (refL d (xs.take (k + 1)) = true) := Lib.hid (by
        rw [HTK.out, refL_app, HT.out, HQ.out]
        simp [HD0.out])
       first | exact ⟨k + 1, by omega, by go_num, hnext, hb5⟩ | (trace_state; (repeat apply Exists.intro); exact ⟨⟨k + 1, by omega, by go_num, hnext, hb5⟩, rfl⟩)
      case measure => simp [intOf]; omega
     | false =>
      have HQ := Lib.hid hq; clear hq
      clear c0 c1 c2' c3 c4 c5 c6 d0 d1 d2 d3 d4 d5 d6
      go_wp2
      go_ret
      exact ⟨ret_bool (by rw [HREF.out, refL_bad HXK.out (by rw [HQ.out]; simp)]; rfl), by first | exact hb6 | (rw [hgg]; exact hb6)⟩
   ·
    have hkk : k = xs.length := by omega
    subst hkk
    rw [List.take_length] at HT
    have hz0 : ¬ (xs.length : Int) < (xs.length : Int) := by omega
    have hr2 : refB d (.mk kk i l s t e xs) = ((decide (kk = 0) || decide (0 < d)) && ownB (.mk kk i l s t e xs)) := by rw [HREF.out, HT.out]; rfl
    have HR2 := Lib.hid hr2; clear hr2 HREF HT
    go_upto_region 6 with fail
    go_cut [6] (fun cv wx => cv = .bool (slots2 s t) ∧ wx = wr)
    case first =>
     by_cases h1 : 1 ≤ t
     ·
      by_cases h2 : t ≤ 16
      ·
       by_cases h3 : 1 ≤ s
       ·
        by_cases h4 : s ≤ t
        ·
         go_wp2_with fail
         go_meet
         exact ⟨by simp [slots2, c7withinB, h1, h2, h3, h4] <;> omega, rfl⟩
        ·
         go_wp2_with fail
         go_meet
         exact ⟨by simp [slots2, c7withinB, h1, h2, h3, h4] <;> omega, rfl⟩
       ·
        go_wp2_with fail
        go_meet
        exact ⟨by simp [slots2, c7withinB, h1, h2, h3] <;> omega, rfl⟩
      ·
       go_wp2_with fail
       go_meet
       exact ⟨by simp [slots2, c7withinB, h1, h2] <;> omega, rfl⟩
     ·
      go_wp2_with fail
      go_meet
      exact ⟨by simp [slots2, c7withinB, h1] <;> omega, rfl⟩
    case rest =>
    obtain ⟨hc6, hc7⟩ := hcut
    subst hc7
    obtain rfl := hc6
    go_upto_region 7 with fail
    go_cut [7] (fun cv wx => cv = .bool (noneB s t e) ∧ wx = wc)
    case first =>
     by_cases h1 : t = 0
     ·
      by_cases h2 : s = 0
      ·
       by_cases h3 : e = 0
       ·
        subst h1; subst h2; subst h3
        go_wp2_with fail
        go_meet
        exact ⟨by simp [noneB] <;> omega, rfl⟩
       ·
        have e3 : (e == 0) = false := by simpa using h3
        subst h1; subst h2
        go_wp2_with fail
        go_meet
        exact ⟨by simp [noneB, h3] <;> omega, rfl⟩
      ·
       have e2 : (s == 0) = false := by simpa using h2
       subst h1
       go_wp2_with fail
       go_meet
       exact ⟨by simp [noneB, h2] <;> omega, rfl⟩
     ·
      have e1 : (t == 0) = false := by simpa using h1
      go_wp2_with fail
      go_meet
      exact ⟨by simp [noneB, h1] <;> omega, rfl⟩
    case rest =>
    obtain ⟨hc6, hc7⟩ := hcut
    subst hc7
    obtain rfl := hc6
    obtain ⟨z6, hz6⟩ : ∃ z, slots2 s t = z := ⟨_, rfl⟩
    obtain ⟨z7, hz7⟩ : ∃ z, noneB s t e = z := ⟨_, rfl⟩
    rw [hz6, hz7]
    have HZ6 := Lib.hid hz6; have HZ7 := Lib.hid hz7; clear hz6 hz7 hz0 hk
    obtain ⟨n, hn⟩ : ∃ n, xs.length = n := ⟨_, rfl⟩
    rw [hn] at d6 ⊢
    have HN := Lib.hid hn
    rw [hn] at hx1
    clear hn
    by_cases g0 : kk = 0
    ·
     subst g0
     cases hi : i.toList.isEmpty with
     | true =>
      have hi1 : i.toList = [] := by simpa using hi
      have HIE := Lib.hid hi; have HIF := Lib.hid hi1
      cases hl : l.toList.isEmpty with
      | true =>
       have hl1 : l.toList = [] := by simpa using hl
       have HLE := Lib.hid hl; have HLF := Lib.hid hl1
       cases z7 with
       | true =>
        by_cases q0 : n = 0
        ·
         have b0 : ((n : Int) == 0) = true := by simp [q0]
         have Q0 := Lib.hid q0; clear q0
         go_wp2
         go_ret
         exact ⟨ret_bool (by rw [HR2.out]; simp [ownB, HIF.out, HLF.out, HZ7.out, HN.out, Q0.out] <;> (intros; omega)), by first | assumption | (rw [hgg]; assumption)⟩
        ·
         have b0 : ((n : Int) == 0) = false := by simp; omega
         have Q0 := Lib.hid q0; clear q0
         go_wp2
         go_ret
         exact ⟨ret_bool (by rw [HR2.out]; simp [ownB, HIF.out, HLF.out, HZ7.out, HN.out, Q0.out] <;> (intros; omega)), by first | assumption | (rw [hgg]; assumption)⟩
       | false =>
        go_wp2
        go_ret
        exact ⟨ret_bool (by rw [HR2.out]; simp [ownB, HIF.out, HLF.out, HZ7.out] <;> (intros; omega)), by first | assumption | (rw [hgg]; assumption)⟩
      | false =>
       have hl1 : ¬ l.toList = [] := by simpa using hl
       have HLE := Lib.hid hl; have HLF := Lib.hid hl1
       go_wp2
       go_ret
       exact ⟨ret_bool (by rw [HR2.out]; simp [ownB, HIF.out, HLF.out] <;> (intros; omega)), by first | assumption | (rw [hgg]; assumption)⟩
     | false =>
      have hi1 : ¬ i.toList = [] := by simpa using hi
      have HIE := Lib.hid hi; have HIF := Lib.hid hi1
      go_wp2
      go_ret
      exact ⟨ret_bool (by rw [HR2.out]; simp [ownB, HIF.out] <;> (intros; omega)), by first | assumption | (rw [hgg]; assumption)⟩
    have k0 : (kk == 0) = false := by simpa using g0
    have G0 := Lib.hid g0; clear g0
    rcases Nat.eq_zero_or_pos d with hd0 | hd0
    ·
     have hd1 : (d : Int) ≤ 0 := by omega
     have HD0 := Lib.hid hd0; clear hd0
     go_wp2
     go_ret
     exact ⟨ret_bool (by rw [HR2.out]; simp [ownB, HD0.out, G0.out] <;> (intros; omega)), by first | assumption | (rw [hgg]; assumption)⟩
    have hd1 : ¬ (d : Int) ≤ 0 := by omega
    have HD0 := Lib.hid hd0; clear hd0
    go_wp2_with fail
    refine (RID_any i _ HIZ.out).mono ?_; rintro e' w' ⟨rfl, rfl⟩
    cases hid : idB i with
    | false =>
     have HI := Lib.hid hid; clear hid
     go_wp2
     go_ret
     exact ⟨ret_bool (by rw [HR2.out]; simp [ownB, HD0.out, G0.out, HI.out] <;> (intros; omega)), by first | assumption | (rw [hgg]; assumption)⟩
    | true =>
     have HI := Lib.hid hid; clear hid
     by_cases g1 : kk = 1
     ·
      subst g1
      cases hl : l.toList.isEmpty with
      | true =>
       have hl1 : l.toList = [] := by simpa using hl
       have HLE := Lib.hid hl; have HLF := Lib.hid hl1
       cases z7 with
       | true =>
        by_cases q0 : n = 0
        ·
         have b0 : ((n : Int) == 0) = true := by simp [q0]
         have Q0 := Lib.hid q0; clear q0
         go_wp2
         go_ret
         exact ⟨ret_bool (by rw [HR2.out]; simp [ownB, HD0.out, HI.out, HLF.out, HZ7.out, HN.out, Q0.out] <;> (intros; omega)), by first | assumption | (rw [hgg]; assumption)⟩
        ·
         have b0 : ((n : Int) == 0) = false := by simp; omega
         have Q0 := Lib.hid q0; clear q0
         go_wp2
         go_ret
         exact ⟨ret_bool (by rw [HR2.out]; simp [ownB, HD0.out, HI.out, HLF.out, HZ7.out, HN.out, Q0.out] <;> (intros; omega)), by first | assumption | (rw [hgg]; assumption)⟩
       | false =>
        go_wp2
        go_ret
        exact ⟨ret_bool (by rw [HR2.out]; simp [ownB, HD0.out, HI.out, HLF.out, HZ7.out] <;> (intros; omega)), by first | assumption | (rw [hgg]; assumption)⟩
      | false =>
       have hl1 : ¬ l.toList = [] := by simpa using hl
       have HLE := Lib.hid hl; have HLF := Lib.hid hl1
       go_wp2_with fail
       refine (RID_any l _ HLZ.out).mono ?_; rintro e' w' ⟨rfl, rfl⟩
       cases hil : idB l with
       | true =>
        have HIL := Lib.hid hil; clear hil
        cases z7 with
        | true =>
         by_cases q0 : n = 0
         ·
          have b0 : ((n : Int) == 0) = true := by simp [q0]
          have Q0 := Lib.hid q0; clear q0
          go_wp2
          go_ret
          exact ⟨ret_bool (by rw [HR2.out]; simp [ownB, HD0.out, HI.out, HLF.out, HIL.out, HZ7.out, HN.out, Q0.out] <;> (intros; omega)), by first | assumption | (rw [hgg]; assumption)⟩
         ·
          have b0 : ((n : Int) == 0) = false := by simp; omega
          have Q0 := Lib.hid q0; clear q0
          go_wp2
          go_ret
          exact ⟨ret_bool (by rw [HR2.out]; simp [ownB, HD0.out, HI.out, HLF.out, HIL.out, HZ7.out, HN.out, Q0.out] <;> (intros; omega)), by first | assumption | (rw [hgg]; assumption)⟩
        | false =>
         go_wp2
         go_ret
         exact ⟨ret_bool (by rw [HR2.out]; simp [ownB, HD0.out, HI.out, HLF.out, HIL.out, HZ7.out] <;> (intros; omega)), by first | assumption | (rw [hgg]; assumption)⟩
       | false =>
        have HIL := Lib.hid hil; clear hil
        go_wp2
        go_ret
        exact ⟨ret_bool (by rw [HR2.out]; simp [ownB, HD0.out, HI.out, HLF.out, HIL.out] <;> (intros; omega)), by first | assumption | (rw [hgg]; assumption)⟩
     have k1 : (kk == 1) = false := by simpa using g1
     have G1 := Lib.hid g1; clear g1
     by_cases g2 : kk = 2
     ·
      subst g2
      cases hl : l.toList.isEmpty with
      | true =>
       have hl1 : l.toList = [] := by simpa using hl
       have HLE := Lib.hid hl; have HLF := Lib.hid hl1
       cases z6 with
       | true =>
        by_cases re : 1 ≤ e
        ·
         have RE3 := Lib.hid re
         by_cases rt : e ≤ t
         ·
          have RT3 := Lib.hid rt
          by_cases q1 : n = 1
          ·
           have b1 : ((n : Int) == 1) = true := by simp [q1]
           have Q1 := Lib.hid q1; clear q1
           go_wp2
           go_ret
           exact ⟨ret_bool (by rw [HR2.out]; simp [ownB, HD0.out, HI.out, HLF.out, HZ6.out, c7withinB, RE3.out, c7withinB, RT3.out, HN.out, Q1.out] <;> (intros; omega)), by first | assumption | (rw [hgg]; assumption)⟩
          ·
           have b1 : ((n : Int) == 1) = false := by simp; omega
           have Q1 := Lib.hid q1; clear q1
           go_wp2
           go_ret
           exact ⟨ret_bool (by rw [HR2.out]; simp [ownB, HD0.out, HI.out, HLF.out, HZ6.out, c7withinB, RE3.out, c7withinB, RT3.out, HN.out, Q1.out] <;> (intros; omega)), by first | assumption | (rw [hgg]; assumption)⟩
         ·
          have RT3 := Lib.hid rt
          go_wp2
          go_ret
          exact ⟨ret_bool (by rw [HR2.out]; simp [ownB, HD0.out, HI.out, HLF.out, HZ6.out, c7withinB, RE3.out, c7withinB, RT3.out] <;> (intros; omega)), by first | assumption | (rw [hgg]; assumption)⟩
        ·
         have RE3 := Lib.hid re
         go_wp2
         go_ret
         exact ⟨ret_bool (by rw [HR2.out]; simp [ownB, HD0.out, HI.out, HLF.out, HZ6.out, c7withinB, RE3.out] <;> (intros; omega)), by first | assumption | (rw [hgg]; assumption)⟩
       | false =>
        go_wp2
        go_ret
        exact ⟨ret_bool (by rw [HR2.out]; simp [ownB, HD0.out, HI.out, HLF.out, HZ6.out] <;> (intros; omega)), by first | assumption | (rw [hgg]; assumption)⟩
      | false =>
       have hl1 : ¬ l.toList = [] := by simpa using hl
       have HLE := Lib.hid hl; have HLF := Lib.hid hl1
       go_wp2
       go_ret
       exact ⟨ret_bool (by rw [HR2.out]; simp [ownB, HD0.out, HI.out, HLF.out] <;> (intros; omega)), by first | assumption | (rw [hgg]; assumption)⟩
     have k2 : (kk == 2) = false := by simpa using g2
     have G2 := Lib.hid g2; clear g2
     by_cases g3 : kk = 3
     ·
      subst g3
      cases hl : l.toList.isEmpty with
      | true =>
       have hl1 : l.toList = [] := by simpa using hl
       have HLE := Lib.hid hl; have HLF := Lib.hid hl1
       cases z7 with
       | true =>
        by_cases q1 : n = 1
        ·
         have b1 : ((n : Int) == 1) = true := by simp [q1]
         have Q1 := Lib.hid q1; clear q1
         go_wp2
         go_ret
         exact ⟨ret_bool (by rw [HR2.out]; simp [ownB, HD0.out, HI.out, HLF.out, HZ7.out, HN.out, Q1.out] <;> (intros; omega)), by first | assumption | (rw [hgg]; assumption)⟩
        ·
         have b1 : ((n : Int) == 1) = false := by simp; omega
         have Q1 := Lib.hid q1; clear q1
         go_wp2
         go_ret
         exact ⟨ret_bool (by rw [HR2.out]; simp [ownB, HD0.out, HI.out, HLF.out, HZ7.out, HN.out, Q1.out] <;> (intros; omega)), by first | assumption | (rw [hgg]; assumption)⟩
       | false =>
        go_wp2
        go_ret
        exact ⟨ret_bool (by rw [HR2.out]; simp [ownB, HD0.out, HI.out, HLF.out, HZ7.out] <;> (intros; omega)), by first | assumption | (rw [hgg]; assumption)⟩
      | false =>
       have hl1 : ¬ l.toList = [] := by simpa using hl
       have HLE := Lib.hid hl; have HLF := Lib.hid hl1
       go_wp2
       go_ret
       exact ⟨ret_bool (by rw [HR2.out]; simp [ownB, HD0.out, HI.out, HLF.out] <;> (intros; omega)), by first | assumption | (rw [hgg]; assumption)⟩
     have k3 : (kk == 3) = false := by simpa using g3
     have G3 := Lib.hid g3; clear g3
     by_cases g4 : kk = 4
     ·
      subst g4
      cases hl : l.toList.isEmpty with
      | true =>
       have hl1 : l.toList = [] := by simpa using hl
       have HLE := Lib.hid hl; have HLF := Lib.hid hl1
       cases z6 with
       | true =>
        by_cases r0 : e = 0
        ·
         have b0 : (e == 0) = true := by simpa using r0
         have R0 := Lib.hid r0; clear r0
         by_cases qg : 1 ≤ (n : Int)
         ·
          have qg2 : 0 < n := by omega
          have QG3 := Lib.hid qg
          by_cases ql : (n : Int) ≤ 16
          ·
           have ql2 : n ≤ 16 := by omega
           have QL3 := Lib.hid ql
           go_wp2
           go_ret
           exact ⟨ret_bool (by rw [HR2.out]; simp [ownB, HD0.out, HI.out, HLF.out, HZ6.out, R0.out, c7withinB, HN.out, QG3.out, c7withinB, HN.out, QL3.out] <;> (intros; omega)), by first | assumption | (rw [hgg]; assumption)⟩
          ·
           have ql2 : ¬ n ≤ 16 := by omega
           have QL3 := Lib.hid ql
           go_wp2
           go_ret
           exact ⟨ret_bool (by rw [HR2.out]; simp [ownB, HD0.out, HI.out, HLF.out, HZ6.out, R0.out, c7withinB, HN.out, QG3.out, c7withinB, HN.out, QL3.out] <;> (intros; omega)), by first | assumption | (rw [hgg]; assumption)⟩
         ·
          have qg2 : ¬ 0 < n := by omega
          have QG3 := Lib.hid qg
          go_wp2
          go_ret
          exact ⟨ret_bool (by rw [HR2.out]; simp [ownB, HD0.out, HI.out, HLF.out, HZ6.out, R0.out, c7withinB, HN.out, QG3.out] <;> (intros; omega)), by first | assumption | (rw [hgg]; assumption)⟩
        ·
         have b0 : (e == 0) = false := by simpa using r0
         have R0 := Lib.hid r0; clear r0
         go_wp2
         go_ret
         exact ⟨ret_bool (by rw [HR2.out]; simp [ownB, HD0.out, HI.out, HLF.out, HZ6.out, R0.out] <;> (intros; omega)), by first | assumption | (rw [hgg]; assumption)⟩
       | false =>
        go_wp2
        go_ret
        exact ⟨ret_bool (by rw [HR2.out]; simp [ownB, HD0.out, HI.out, HLF.out, HZ6.out] <;> (intros; omega)), by first | assumption | (rw [hgg]; assumption)⟩
      | false =>
       have hl1 : ¬ l.toList = [] := by simpa using hl
       have HLE := Lib.hid hl; have HLF := Lib.hid hl1
       go_wp2
       go_ret
       exact ⟨ret_bool (by rw [HR2.out]; simp [ownB, HD0.out, HI.out, HLF.out] <;> (intros; omega)), by first | assumption | (rw [hgg]; assumption)⟩
     have k4 : (kk == 4) = false := by simpa using g4
     have G4 := Lib.hid g4; clear g4
     by_cases g5 : kk = 5
     ·
      subst g5
      cases hl : l.toList.isEmpty with
      | true =>
       have hl1 : l.toList = [] := by simpa using hl
       have HLE := Lib.hid hl; have HLF := Lib.hid hl1
       cases z7 with
       | true =>
        by_cases qg : 1 ≤ (n : Int)
        ·
         have qg2 : 0 < n := by omega
         have QG3 := Lib.hid qg
         by_cases ql : (n : Int) ≤ 16
         ·
          have ql2 : n ≤ 16 := by omega
          have QL3 := Lib.hid ql
          go_wp2
          go_ret
          exact ⟨ret_bool (by rw [HR2.out]; simp [ownB, HD0.out, HI.out, HLF.out, HZ7.out, c7withinB, HN.out, QG3.out, c7withinB, HN.out, QL3.out] <;> (intros; omega)), by first | assumption | (rw [hgg]; assumption)⟩
         ·
          have ql2 : ¬ n ≤ 16 := by omega
          have QL3 := Lib.hid ql
          go_wp2
          go_ret
          exact ⟨ret_bool (by rw [HR2.out]; simp [ownB, HD0.out, HI.out, HLF.out, HZ7.out, c7withinB, HN.out, QG3.out, c7withinB, HN.out, QL3.out] <;> (intros; omega)), by first | assumption | (rw [hgg]; assumption)⟩
        ·
         have qg2 : ¬ 0 < n := by omega
         have QG3 := Lib.hid qg
         go_wp2
         go_ret
         exact ⟨ret_bool (by rw [HR2.out]; simp [ownB, HD0.out, HI.out, HLF.out, HZ7.out, c7withinB, HN.out, QG3.out] <;> (intros; omega)), by first | assumption | (rw [hgg]; assumption)⟩
       | false =>
        go_wp2
        go_ret
        exact ⟨ret_bool (by rw [HR2.out]; simp [ownB, HD0.out, HI.out, HLF.out, HZ7.out] <;> (intros; omega)), by first | assumption | (rw [hgg]; assumption)⟩
      | false =>
       have hl1 : ¬ l.toList = [] := by simpa using hl
       have HLE := Lib.hid hl; have HLF := Lib.hid hl1
       go_wp2
       go_ret
       exact ⟨ret_bool (by rw [HR2.out]; simp [ownB, HD0.out, HI.out, HLF.out] <;> (intros; omega)), by first | assumption | (rw [hgg]; assumption)⟩
     have k5 : (kk == 5) = false := by simpa using g5
     have G5 := Lib.hid g5; clear g5
     go_wp2
     go_ret
     exact ⟨ret_bool (by rw [HR2.out]; simp [ownB, HD0.out, HI.out, G0.out, G1.out, G2.out, G3.out, G4.out, G5.out] <;> (intros; omega)), by first | assumption | (rw [hgg]; assumption)⟩
theorem rvalid_any (a : Cont) (cs : List Value) (d : Nat) (w : World) (h : CRd w w.heap.size a cs) (hd : d ≤ 100) : Calls Tryz.prog 121 #[.agg cs.toArray, .int .i64 d] w fun e' w' => e' = .returned (.bool (refB d a)) ∧ Below w.heap.size w w' :=
 rvalid_all _ a cs d w (Nat.lt_succ_self _) h hd
end Go.Proofs.YtehmidmoiamcfaaGreatDoor
namespace Go.Proofs.YtehmidmoiamcfaaGreatDoor
open Go.RowKit Go.Cold

set_option maxRecDepth 10000 in
/-- The reference's Valid. -/
theorem c7RValid_any (a : Cont) (cs : List Value) (w : World) (h : CRd w w.heap.size a cs) : Calls Tryz.prog 81 #[.agg cs.toArray] w fun e' w' => e' = .returned (.bool (!badC a)) ∧ Below w.heap.size w w' := by
 have hcells : ∃ k i l s t e A n c, cs = contCells k i l s t e A n c := by
  obtain ⟨k, i, l, s, t, e, xs⟩ := a
  obtain ⟨A, c, rfl, -, -⟩ := CRd_iff.1 h
  exact ⟨_, _, _, _, _, _, _, _, _, rfl⟩
 obtain ⟨k, i, l, s, t, e, A, n, c, rfl⟩ := hcells
 simp only [contCells]
 obtain ⟨w0, hw0⟩ : ∃ w0, w.alloc (.cells #[.int .i64 k, .string i, .string l, .int .i64 s, .int .i64 t, .int .i64 e, .slice A n c] 36) = w0 := ⟨_, rfl⟩
 obtain ⟨hb0, hg0, hbox⟩ := box7 hw0
 obtain ⟨d0, d1, d2, d3, d4, d5, d6⟩ := hbox.zero
 have hr0 := CRd_more (show w.heap.size ≤ w0.heap.size by omega) _ _ (CRd_keep hb0 _ _ h)
 have hcall := rvalid_any a _ 6 w0 hr0 (by decide)
 rw [ref_bad] at hcall
 have HCALL := Lib.hid hcall; clear hcall hr0 h hbox
 go_enter Tryz.func81, Tryz.ntmps81
 go_wp2_with fail
 refine Calls.mono (HCALL.out : Calls Tryz.prog 121 #[.agg #[.int .i64 k, .string i, .string l, .int .i64 s, .int .i64 t, .int .i64 e, .slice A n c], .int .i64 6] w0 _) ?_
 rintro e' w2 ⟨rfl, hb2⟩
 go_wp2
 go_ret
 exact ⟨rfl, hb0.trans (hb2.mono (by omega))⟩
end Go.Proofs.YtehmidmoiamcfaaGreatDoor
