/-
  The walk of layer 7's Parse.
-/
import Derived.Test.YtjgllhlilbchpaaGreatDoorJA
import Derived.Test.YtjgllhlilbchpaaGreatDoorJD
import Derived.Test.YtjgllhlilbchpaaGreatDoorJSI
import Derived.Test.YtjgllhlilbchpaaGreatDoorJSB
import Derived.Test.YtjgllhlilbchpaaGreatDoorJSC
import Derived.Deep.AppendLies
import Derived.Deep.RegionHeld3
import Derived.Deep.DeepCutAuto
import Derived.Test.YtjgllhlilbchpaaGreatDoorJG
set_option linter.unusedSimpArgs false
set_option linter.unusedVariables false
namespace Go.Cold
open Go Go.RowKit
noncomputable def parseC (s : ByteArray) : Option Cont := if 256 < s.size then none else match contP s (s.size + 1) 0 with
 | some (c, k) => if k = s.size ∧ badC c = false then some c else none
 | none => none
end Go.Cold
namespace Go.Proofs.YtjgllhlilbchpaaGreatDoor
open Go.RowKit Go.Cold

def zeroA : Value := .agg #[.int .i64 0, .string ByteArray.empty, .string ByteArray.empty, .int .i64 0, .int .i64 0, .int .i64 0, .slice none 0 0]
def ParsePost (s : ByteArray) (w : World) (e : Ending) (w' : World) : Prop := Below w.heap.size w w' ∧
 ((∃ c cs, parseC s = some c ∧ e = .returned (.tuple #[.agg cs.toArray, .int .i64 0]) ∧ NewC w w' c cs ∧ nodesC c ≤ 257) ∨ (parseC s = none ∧ e = .returned (.tuple #[zeroA, .int .i64 (if 256 < s.size then 71 else 70)])))
set_option maxHeartbeats 4000000 in
set_option maxRecDepth 100000 in
theorem Parse_any (s : ByteArray) (hix : s.size ≤ 256 → IxOk s) (w : World) (hsz : s.size ≤ maxLen) (hok : Ok7 w) : Calls Tryz.prog 54 #[.string s] w (ParsePost s w) := by
 have hzv := (zero_of_info (P := Tryz.prog) (t := 72) info_cont2).1
 unfold maxLen at hsz
 by_cases hs : s.size ≤ 256
 ·
  have hix := hix hs
  have HIX := Lib.hid hix; have HOK := Lib.hid hok; clear hix hok hsz
  have i1 : (s.size : Int) ≤ 256 := by omega
  go_enter Tryz.func54, Tryz.ntmps54
  go_upto_region 4 with fail
  obtain ⟨w1, hw1⟩ : ∃ w1, w.alloc (.cells #[.int .i64 0, .string ByteArray.empty, .string ByteArray.empty, .int .i64 0, .int .i64 0, .int .i64 0, .slice none 0 0] 72) = w1 := ⟨_, rfl⟩
  obtain ⟨w2, hw2⟩ : ∃ w2, w1.alloc (.cells #[.string s, .int .i64 0, .bool false] 136) = w2 := ⟨_, rfl⟩
  obtain ⟨hb1, hg1, -⟩ := box7 hw1
  have hf1 := box7f hw1
  have hf2 := box7f hw2
  have hb2 : Below w1.heap.size w1 w2 := by rw [← hw2]; exact (Below.refl _ _).alloc (Nat.le_refl _) _
  have hg2 : w2.heap.size = w1.heap.size + 1 := by rw [← hw2]; simp
  have hr1 : BoxL w1 w.heap.size zeroL := by
   refine ⟨fun j u hu => ?_, hf1, by omega⟩
   rw [← hw1, World.cell?_alloc_at _ _ _ _ rfl]
   simpa [zeroL] using hu
  have hcur : CurAt w2 w1.heap.size s 0 false := by
   refine ⟨?_, ?_, ?_, hf2, by omega⟩ <;> (rw [← hw2, World.cell?_alloc_at _ _ _ _ rfl]; rfl)
  have hg12 : w1.grownBy w2 none := ⟨hb2.os, hb2.tape, hb2.output, hb2.size, fun k hk _ => hb2.block k hk⟩
  have HR2 := Lib.hid (hr1.kept hg12 (fun e => by cases e))
  have HCUR := Lib.hid hcur
  have hb02 : Below w.heap.size w w2 := hb1.trans (hb2.mono (by omega))
  have HB02 := Lib.hid hb02
  have HOK2 := Lib.hid (HOK.out.below hb02)
  have HG1 := Lib.hid hg1; have HG2 := Lib.hid hg2
  have HGB := Lib.hid (HOK.out.gb (show w.heap.size ≤ w1.heap.size by omega))
  rw [hw1, hw2]
  clear hw1 hw2 hb1 hb2 hf1 hf2 hr1 hcur hg12 hb02 hg1 hg2
  go_wp2_with fail
  rw [← HG1.out]
  refine (content_any s (by omega) HIX.out (s.size + 1) 0 (s.size + 1) false w1.heap.size w2 (by omega) (by omega) (fun _ => by omega) HCUR.out HOK2.out HGB.out).mono ?_
  rintro e w3 ⟨cs, c, k, bad, rfl, hnew, hc3, hg3, hbd, hsp⟩
  obtain ⟨kk, i, l, sl, t, le, xs⟩ := c
  obtain ⟨A, cp, rfl⟩ := CRdS_cells hnew
  simp only [contCells]
  have hpc : parseC s = if bad = false ∧ k = s.size ∧ badC (.mk kk i l sl t le xs) = false then some (.mk kk i l sl t le xs) else none := by
   rw [if_neg (by decide)] at hsp
   unfold parseC
   rw [if_neg (by omega), hsp]
   cases bad
   · simp
   · simp
  have HPC := Lib.hid hpc; have HNEW := Lib.hid hnew
  obtain ⟨w4, hw4⟩ : ∃ w4, w3.alloc (.cells #[.int .i64 kk, .string i, .string l, .int .i64 sl, .int .i64 t, .int .i64 le, .slice A xs.length cp] 72) = w4 := ⟨_, rfl⟩
  obtain ⟨hb4, hg4, hbox4⟩ := box7 hw4
  have hsz3 : w2.heap.size ≤ w3.heap.size := hg3.size
  have hb03 : Below w.heap.size w w3 := below_of_grown HB02.out hg3 (by have := HG1.out; have := HG2.out; omega) (by have := HG1.out; omega)
  have hb04 : Below w.heap.size w w4 := hb03.trans (hb4.mono (by have := HG1.out; have := HG2.out; omega))
  have hr3 := HR2.out.kept hg3 (fun e => by have := Option.some.inj e; have := HG1.out; omega)
  have hg34 : w3.grownBy w4 none := ⟨hb4.os, hb4.tape, hb4.output, hb4.size, fun k hk _ => hb4.block k hk⟩
  have hr4 := hr3.kept hg34 (fun e => by cases e)
  have hc4 := (hc3.below hb4).1
  have hx4 : CRd w4 w4.heap.size (.mk kk i l sl t le xs) (contCells kk i l sl t le A xs.length cp) := CRd_more (by omega) _ _ (CRd_keep hb4 _ _ hnew.crd)
  have hnd : nodesC (.mk kk i l sl t le xs) ≤ 257 := by have := hbd.2.1; have := hbd.2.2; omega
  have HND := Lib.hid hnd
  have hnew4 : CRdS w4 (fun x => w2.heap.size ≤ x ∧ x < w3.heap.size) (.mk kk i l sl t le xs) (contCells kk i l sl t le A xs.length cp) :=
   CRdS_mono (fun _ h => h) (fun y o u hy hu => (hb4.cell (p := ⟨y, o, none⟩) (by exact hy.2)).trans hu) _ _ hnew
  have HB04 := Lib.hid hb04; have HR4 := Lib.hid hr4; have HC4 := Lib.hid hc4; have HX4 := Lib.hid hx4; have HNEW4 := Lib.hid hnew4; have HBOX4 := Lib.hid hbox4; have HKS := Lib.hid hbd.2.1
  have HSZ3 := Lib.hid hsz3; have HG4 := Lib.hid hg4
  clear hpc hnew hb4 hg4 hb03 hb04 hr3 hg34 hr4 hc4 hx4 hnew4 hnd hbox4 hsz3 hbd hsp hc3 hg3
  go_upto_region 5 with fail
  try rw [hw4]
  clear hw4
  obtain ⟨d0, d1, d2, d3, d4, d5, d6⟩ := HBOX4.out.zero
  obtain ⟨p0, p1, p2, pf, plt⟩ := HC4.out
  have y0 := HR4.out.1 0 _ rfl; have y1 := HR4.out.1 1 _ rfl; have y2 := HR4.out.1 2 _ rfl; have y3 := HR4.out.1 3 _ rfl; have y4 := HR4.out.1 4 _ rfl; have y5 := HR4.out.1 5 _ rfl; have y6 := HR4.out.1 6 _ rfl; have yf := HR4.out.2.1
  have hfail : parseC s = none → ∀ (w5 : World), Below w4.heap.size w4 w5 → ParsePost s w (.returned (.tuple #[zeroA, .int .i64 70])) (((((((w5.setCell ⟨w.heap.size, 0, none⟩ (.int .i64 0)).setCell ⟨w.heap.size, 1, none⟩ (.string ByteArray.empty)).setCell ⟨w.heap.size, 2, none⟩ (.string ByteArray.empty)).setCell ⟨w.heap.size, 3, none⟩ (.int .i64 0)).setCell ⟨w.heap.size, 4, none⟩ (.int .i64 0)).setCell ⟨w.heap.size, 5, none⟩ (.int .i64 0)).setCell ⟨w.heap.size, 6, none⟩ (.slice none 0 0)) := by
   intro h w5 hb5
   have hb05 : Below w.heap.size w w5 := HB04.out.trans (hb5.mono HB04.out.size)
   exact ⟨((((((hb05.setCell (by simp) _).setCell (by simp) _).setCell (by simp) _).setCell (by simp) _).setCell (by simp) _).setCell (by simp) _).setCell (by simp) _, .inr ⟨h, by rw [if_neg (by omega)]⟩⟩
  have HFAIL := Lib.hid hfail; clear hfail
  cases bad with
  | true =>
   have hn : parseC s = none := by rw [HPC.out]; simp
   have HN := Lib.hid hn; clear hn
   go_wp2
   exact bodyPost_ret (v := .tuple #[.agg #[.int .i64 0, .string ByteArray.empty, .string ByteArray.empty, .int .i64 0, .int .i64 0, .int .i64 0, .slice none 0 0], .int .i64 70]) (by simp [results, Tryz.results54, go_sem, y0, y1, y2, y3, y4, y5, y6]) rfl (HFAIL.out HN.out _ (Below.refl _ _))
  | false =>
   by_cases hk : k = s.size
   ·
    have hk1 : ((k : Int) != (s.size : Int)) = false := by simp [hk]
    have hk2 : ((k : Int) == (s.size : Int)) = true := by simp [hk]
    have HK := Lib.hid hk; clear hk
    have hcall := c7Check_any (.mk kk i l sl t le xs) _ w4 HX4.out (by have := HND.out; omega)
    have HCALL := Lib.hid hcall; clear hcall
    go_wp2_with fail
    refine HCALL.out.mono ?_
    rintro e w5 ⟨rfl, hb5⟩
    have hsz4 := HR4.out.2.2
    have hszb := HB04.out.size
    have hr5 := HR4.out.kept (row := none) ⟨hb5.os, hb5.tape, hb5.output, hb5.size, fun k hk _ => hb5.block k hk⟩ (fun e => by cases e)
    obtain ⟨f0, f1, f2, f3, f4, f5, f6⟩ := (HBOX4.out.keep hb5 (by have := HG4.out; omega)).zero
    clear d0 d1 d2 d3 d4 d5 d6 y0 y1 y2 y3 y4 y5 y6 yf p0 p1 p2 pf plt hk1 hk2
    have y0 := hr5.1 0 _ rfl; have y1 := hr5.1 1 _ rfl; have y2 := hr5.1 2 _ rfl; have y3 := hr5.1 3 _ rfl; have y4 := hr5.1 4 _ rfl; have y5 := hr5.1 5 _ rfl; have y6 := hr5.1 6 _ rfl; have yf := hr5.2.1
    have HB5 := Lib.hid hb5; clear hb5 hr5 hsz4 hszb
    cases hbad : badC (.mk kk i l sl t le xs) with
    | true =>
     have hn : parseC s = none := by rw [HPC.out, hbad]; simp
     have HN := Lib.hid hn; clear hn
     rw [checkE_bad hbad]
     clear hbad
     go_wp2
     exact bodyPost_ret (v := .tuple #[.agg #[.int .i64 0, .string ByteArray.empty, .string ByteArray.empty, .int .i64 0, .int .i64 0, .int .i64 0, .slice none 0 0], .int .i64 70]) (by simp [results, Tryz.results54, go_sem, y0, y1, y2, y3, y4, y5, y6]) rfl (HFAIL.out HN.out _ HB5.out)
    | false =>
     have hn : parseC s = some (.mk kk i l sl t le xs) := by rw [HPC.out, hbad, HK.out]; simp
     have HN := Lib.hid hn; clear hn
     rw [checkE_ok hbad]
     clear hbad
     go_wp2
     refine bodyPost_ret (v := .tuple #[.agg #[.int .i64 kk, .string i, .string l, .int .i64 sl, .int .i64 t, .int .i64 le, .slice A xs.length cp], .int .i64 0]) (by simp [results, Tryz.results54, go_sem, y0, y1, y2, y3, y4, y5, y6]) rfl ⟨?_, .inl ⟨_, contCells kk i l sl t le A xs.length cp, HN.out, rfl, ?_, HND.out⟩⟩
     ·
      have hb05 : Below w.heap.size w w5 := HB04.out.trans (HB5.out.mono HB04.out.size)
      exact ((((((hb05.setCell (by simp) _).setCell (by simp) _).setCell (by simp) _).setCell (by simp) _).setCell (by simp) _).setCell (by simp) _).setCell (by simp) _
     ·
      unfold NewC
      rw [fin_size]
      refine CRdS_mono (fun y hy => ⟨by have := hy.1; have := HG1.out; have := HG2.out; omega, by have := hy.2; have := HG4.out; have := HB5.out.size; omega⟩) (fun y o u hy hu => ?_) _ _ HNEW4.out
      exact fin_cells _ _ _ _ _ _ _ y o u (by have := hy.1; have := HG1.out; have := HG2.out; omega) ((HB5.out.cell (p := ⟨y, o, none⟩) (by show y < w4.heap.size; have := hy.2; have := HG4.out; omega)).trans hu)
   ·
    have hk1 : ((k : Int) != (s.size : Int)) = true := by simp; omega
    have hk2 : ((k : Int) == (s.size : Int)) = false := by simp; omega
    have hn : parseC s = none := by rw [HPC.out]; simp [hk]
    have HN := Lib.hid hn; clear hn hk
    go_wp2
    exact bodyPost_ret (v := .tuple #[.agg #[.int .i64 0, .string ByteArray.empty, .string ByteArray.empty, .int .i64 0, .int .i64 0, .int .i64 0, .slice none 0 0], .int .i64 70]) (by simp [results, Tryz.results54, go_sem, y0, y1, y2, y3, y4, y5, y6]) rfl (HFAIL.out HN.out _ (Below.refl _ _))
 ·
  have i1 : ¬ (s.size : Int) ≤ 256 := by omega
  have hn : parseC s = none := by unfold parseC; rw [if_pos (by omega)]
  have HN := Lib.hid hn; clear hn
  go_enter Tryz.func54, Tryz.ntmps54
  go_wp2
  refine bodyPost_ret (v := .tuple #[.agg #[.int .i64 0, .string ByteArray.empty, .string ByteArray.empty, .int .i64 0, .int .i64 0, .int .i64 0, .slice none 0 0], .int .i64 71]) (by simp [results, Tryz.results54, go_sem]) rfl ⟨?_, .inr ⟨HN.out, by rw [if_pos (by omega)]; rfl⟩⟩
  (repeat first | refine Below.setCell ?_ (by first | (simp; done) | (simp; omega)) _ | refine Below.alloc ?_ (by first | (simp; done) | (simp; omega)) _); exact Below.refl _ _
end Go.Proofs.YtjgllhlilbchpaaGreatDoor
namespace Go.Cold
open Go Go.RowKit
end Go.Cold
namespace Go.Proofs.YtjgllhlilbchpaaGreatDoor
open Go.RowKit Go.Cold

end Go.Proofs.YtjgllhlilbchpaaGreatDoor
namespace Go.Cold
open Go Go.RowKit
section
variable {w0 w w' : World} {B b gr gc k k' : Nat} {xs : List Int} {cs : List Value}
end
end Go.Cold
namespace Go.Proofs.YtjgllhlilbchpaaGreatDoor
open Go.RowKit Go.Cold

end Go.Proofs.YtjgllhlilbchpaaGreatDoor
namespace Go.Cold
open Go Go.RowKit
end Go.Cold
namespace Go.Cold
open Go Go.RowKit
end Go.Cold
namespace Go.Cold
open Go Go.RowKit Go.Proofs.YtjgllhlilbchpaaGreatDoor
end Go.Cold
namespace Go.Cold
open Go Go.RowKit Go.Proofs.YtjgllhlilbchpaaGreatDoor
theorem AllOk_parse {s : ByteArray} {c : Cont} (h : parseC s = some c) : AllOk c ∧ depthC c ≤ 6 ∧ s.size ≤ 256 ∧ contP s (s.size + 1) 0 = some (c, s.size) := by
 unfold parseC at h
 split at h
 · cases h
 ·
  rename_i h1
  split at h
  ·
   rename_i c' k' h2
   split at h
   ·
    rename_i h3
    cases h
    obtain ⟨rfl, h4⟩ := h3
    obtain ⟨h5, h6⟩ := ok_of_bad h4
    exact ⟨h5, h6, by omega, h2⟩
   · cases h
  · cases h
end Go.Cold
namespace Go.Cold
open Go Go.RowKit
def Shut (L : List Dev) (p : Dev → Bool) : Prop := ∀ d ∈ L, p d = true → ∀ e ∈ L, e.idx = d.par → p e = true
end Go.Cold
namespace Go.Cold
open Go Go.RowKit
def chgE (L : List Dev) (d : Dev) : Int :=
 match findD L d.idx with
 | none => 45
 | some o => if checkD d ≠ 0 then 41 else if o.par = d.par ∧ o.orig = d.orig ∧ o.kind = d.kind then (if clashesB L d then 44 else 0) else 42
def chgL (L : List Dev) (d : Dev) : List Dev := L.map fun x => if x.idx = d.idx then d else x
theorem chgE_none {L : List Dev} {d : Dev} (h : d.idx ∉ idxs L) : chgE L d = 45 := by unfold chgE; rw [find_none.2 h]
theorem chgE_some {L : List Dev} {d o : Dev} (h : WF L) (ho : o ∈ L) (hi : o.idx = d.idx) : chgE L d = if checkD d ≠ 0 then 41 else if o.par = d.par ∧ o.orig = d.orig ∧ o.kind = d.kind then (if clashesB L d then 44 else 0) else 42 := by
 unfold chgE
 rw [← hi, find_of h.uniq ho]
theorem chg_split {L : List Dev} {d o : Dev} (h : WF L) {A B : List Dev} (hL : L = A ++ o :: B) (hi : o.idx = d.idx) : (∀ x ∈ A ++ B, x.idx ≠ d.idx) ∧ chgL L d = A ++ d :: B := by
 have hu := h.uniq
 unfold idxs at hu
 rw [hL, List.map_append, List.map_cons] at hu
 obtain ⟨u1, u2, u3⟩ := List.pairwise_append.1 hu
 obtain ⟨u4, u5⟩ := List.pairwise_cons.1 u2
 have hA : ∀ x ∈ A, x.idx ≠ d.idx := fun x hx => by rw [← hi]; exact u3 x.idx (List.mem_map_of_mem hx) o.idx List.mem_cons_self
 have hB : ∀ x ∈ B, x.idx ≠ d.idx := fun x hx => by rw [← hi]; exact Ne.symm (u4 x.idx (List.mem_map_of_mem hx))
 refine ⟨fun x hx => (List.mem_append.1 hx).elim (hA x) (hB x), ?_⟩
 unfold chgL
 rw [hL, List.map_append, List.map_cons, if_pos hi]
 have e1 : A.map (fun x => if x.idx = d.idx then d else x) = A := by
  conv => rhs; rw [← List.map_id A]
  exact List.map_congr_left fun x hx => by rw [if_neg (hA x hx)]; rfl
 have e2 : B.map (fun x => if x.idx = d.idx then d else x) = B := by
  conv => rhs; rw [← List.map_id B]
  exact List.map_congr_left fun x hx => by rw [if_neg (hB x hx)]; rfl
 rw [e1, e2]
theorem split_at {α : Type} {L : List α} {i : Nat} {o : α} (h : L[i]? = some o) : L = L.take i ++ o :: L.drop (i + 1) := by
 obtain ⟨hlt, hge⟩ := List.getElem?_eq_some_iff.1 h
 rw [← hge, List.getElem_cons_drop, List.take_append_drop]
theorem chg_set {L : List Dev} {d o : Dev} (h : WF L) {i : Nat} (hx : L[i]? = some o) (hi : o.idx = d.idx) : L.set i d = chgL L d := by
 rw [(chg_split h (split_at hx) hi).2]
 obtain ⟨hlt, hge⟩ := List.getElem?_eq_some_iff.1 hx
 rw [List.set_eq_take_append_cons_drop, if_pos hlt]
theorem chg_VT {L : List Dev} {d : Dev} (h : VT L) (he : chgE L d = 0) : VT (chgL L d) ∧ (∀ n, orgF (chgL L d) n = orgF L n) ∧ d.idx ∈ idxs L := by
 by_cases hd : d.idx ∈ idxs L
 ·
  obtain ⟨o, ho, hi⟩ := List.mem_map.1 hd
  rw [chgE_some h.wf ho hi] at he
  split at he
  · cases he
  rename_i hc
  split at he
  ·
   rename_i hp
   split at he
   · cases he
   rename_i hcl
   obtain ⟨A, B, hL⟩ := List.append_of_mem ho
   obtain ⟨hne, hcg⟩ := chg_split h.wf hL hi
   have hs := VT.set_ (d := o) (e := d) (hL ▸ h) hi.symm hp.1.symm hp.2.1.symm (by simpa using hc) (fun t ht => by
    cases hcb : clashB t d with
    | false => rfl
    | true =>
     exfalso; apply hcl
     unfold clashesB
     refine List.any_eq_true.2 ⟨t, ?_, by rw [hcb, decide_eq_true (hne t ht)]; rfl⟩
     rw [hL]
     rcases List.mem_append.1 ht with h1 | h1
     · exact List.mem_append_left _ h1
     · exact List.mem_append_right _ (List.mem_cons_of_mem _ h1))
   rw [hcg]
   refine ⟨hs.1, fun n => ?_, hd⟩
   have := hs.2 n
   conv => rhs; rw [hL]
   exact this
  · cases he
 · rw [chgE_none hd] at he; cases he
end Go.Cold
namespace Go.Cold
open Go Go.RowKit
def FreeS {α : Type} [RepS α] (N : Nat → Prop) (w : World) (A : Option Addr) (c : Nat) (l : List α) : Prop := SlS w (fun x => x < w.heap.size ∧ ¬ N x) A c l
section
variable {α : Type} [RepS α] {N N' F : Nat → Prop} {w w' : World} {A : Option Addr} {c q base : Nat} {T : TypeId} {v : Value} {l : List α}
theorem FreeS.below (h : FreeS N w A c l) (hb : Below w.heap.size w w') : FreeS N w' A c l :=
 SlS.mono (fun x hx => ⟨Nat.lt_of_lt_of_le hx.1 hb.size, hx.2⟩) (fun _ _ _ _ hu => hu) (SlS.below h hb (fun x hx => hx.1))
theorem FreeS.grown (h : FreeS N w A c l) (hg : w.grownBy w' (some q)) (hq : N q ∨ w.heap.size ≤ q) : FreeS N w' A c l :=
 SlS.mono (fun x hx => ⟨Nat.lt_of_lt_of_le hx.1 hg.size, hx.2⟩) (fun b o u hb hu => hg.cell hu (fun e => by have e : b = q := Option.some.inj e; subst e; rcases hq with h1 | h1; exact hb.2 h1; have := hb.1; omega)) h
theorem FreeS.set_ (h : FreeS N w A c l) (hq : N q) (j : Nat) (v : Value) : FreeS N (w.setCell ⟨q, j, none⟩ v) A c l := h.grown (grown_one w q j v) (.inl hq)
theorem FreeS.out (h : FreeS N w A c l) : Sl w w.heap.size A c l := SlS.sl h (fun x hx => hx.1)
theorem FreeS.more (h : FreeS N w A c l) (hN : ∀ x, x < w.heap.size → N' x → N x) : FreeS N' w A c l := SlS.mono (fun x hx => ⟨hx.1, fun h1 => hx.2 (hN x hx.1 h1)⟩) (fun _ _ _ _ hu => hu) h
theorem SlS.free {S : Nat → Prop} (h : SlS w S A c l) (hS : ∀ x, S x → x < w.heap.size ∧ ¬ N x) : FreeS N w A c l := SlS.mono hS (fun _ _ _ _ hu => hu) h
end
end Go.Cold
