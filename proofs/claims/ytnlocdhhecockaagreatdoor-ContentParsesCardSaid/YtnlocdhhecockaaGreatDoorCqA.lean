/-
  The walk of layer 7's law: valid, which makes valid contents off a tape.
-/
import Derived.Test.YtnlocdhhecockaaGreatDoorCpC
import Derived.Test.YtnlocdhhecockaaGreatDoorCnL
import Derived.Test.YtnlocdhhecockaaGreatDoorCnX
import Derived.Deep.AppendLies
import Derived.Deep.RegionHeld3
import Derived.Deep.DeepCutAuto
set_option linter.unusedSimpArgs false
set_option linter.unusedVariables false
namespace Go.Cold
open Go Go.RowKit
theorem TapeAt.kept {w w' : World} {B b k : Nat} {xs : List Int} {row : Option Nat} (h : TapeAt w B b xs k) (hg : w.grownBy w' row) (hne : some b ≠ row) (hB : ∀ g, row = some g → B ≤ g) : TapeAt w' B b xs k := by
  obtain ⟨A, c, h0, h1, hf, hsl, hBb, hlt⟩ := h
  have hh := hg.block b hlt hne
  have hbl : Below B w w' := (Below.refl B w).grown hg (by omega) hB
  exact ⟨A, c, (cell_heap hh 0).trans h0, (cell_heap hh 1).trans h1, fun j => (frozen_heap hh j).trans (hf j), hsl.keep hbl, hBb, Nat.lt_of_lt_of_le hlt hg.size⟩
theorem TapeAt.set_ {w : World} {B b k g j : Nat} {xs : List Int} (h : TapeAt w B b xs k) (hne : g ≠ b) (hB : B ≤ g) (v : Value) : TapeAt (w.setCell ⟨g, j, none⟩ v) B b xs k := by
  obtain ⟨A, c, h0, h1, hf, hsl, hBb, hlt⟩ := h
  exact ⟨A, c, (cell_set_far w ⟨g, j, none⟩ v b 0 hne).trans h0, (cell_set_far w ⟨g, j, none⟩ v b 1 hne).trans h1, fun i => (World.frozen?_setCell w _ _ _).trans (hf i), hsl.keep ((Below.refl _ _).setCell (by exact hB) _), hBb, by simpa using hlt⟩
theorem grown_none {w w' : World} (hb : Below w.heap.size w w') : w.grownBy w' none := ⟨hb.os, hb.tape, hb.output, hb.size, fun k hk _ => hb.block k hk⟩
/-- Where the maker stands: the tape, the content so far in block gc, the result's in gr. -/
def StT (w0 : World) (B b gr gc : Nat) (xs : List Int) (w : World) (k : Nat) (cs : List Value) : Prop :=
  TapeAt w B b xs k ∧ w0.grownBy w (some b) ∧ BoxL w gc cs ∧ BoxL w gr zeroL ∧ (B ≤ b ∧ b < w0.heap.size ∧ w0.heap.size ≤ gr ∧ gr < gc)
section
variable {w0 w w' : World} {B b gr gc k k' : Nat} {xs : List Int} {cs : List Value}
theorem gtrans {a b c : World} {row : Option Nat} (h : a.grownBy b row) (k : b.grownBy c row) : a.grownBy c row :=
  ⟨k.os.trans h.os, k.tape.trans h.tape, k.output.trans h.output, Nat.le_trans h.size k.size, fun i hi hne => (k.block i (Nat.lt_of_lt_of_le hi h.size) hne).trans (h.block i hi hne)⟩
theorem StT.go (h : StT w0 B b gr gc xs w k cs) (ht : TapeAt w' B b xs k') (hg : w.grownBy w' (some b)) : StT w0 B b gr gc xs w' k' cs := by
  obtain ⟨h1, h2, h3, h4, h5, h6, h7, h8⟩ := h
  exact ⟨ht, gtrans h2 hg, h3.kept hg (fun e => by have := Option.some.inj e; omega), h4.kept hg (fun e => by have := Option.some.inj e; omega), h5, h6, h7, h8⟩
theorem StT.set_ (h : StT w0 B b gr gc xs w k cs) {j : Nat} (hj : j < cs.length) (v : Value) : StT w0 B b gr gc xs (w.setCell ⟨gc, j, none⟩ v) k (cs.set j v) := by
  obtain ⟨h1, h2, h3, h4, h5, h6, h7, h8⟩ := h
  exact ⟨h1.set_ (by omega) (by omega) v, grown_set h2 (by omega) v, h3.set_ hj v, h4.far (by omega) v, h5, h6, h7, h8⟩
theorem StT.below (h : StT w0 B b gr gc xs w k cs) (hb : Below w.heap.size w w') : StT w0 B b gr gc xs w' k cs := by
  obtain ⟨h1, h2, h3, h4, h5, h6, h7, h8⟩ := h
  have hg := grown_none hb
  exact ⟨h1.kept hg (fun e => by cases e) (fun g hg => by cases hg), grown_below h2 hb, h3.kept hg (fun e => by cases e), h4.kept hg (fun e => by cases e), h5, h6, h7, h8⟩
/-- Behind a change of a row that the call has made after the boxes. -/
theorem StT.row {row : Option Nat} (h : StT w0 B b gr gc xs w k cs) (hg : w.grownBy w' row) (hr : ∀ q, row = some q → gc < q) : StT w0 B b gr gc xs w' k cs := by
  obtain ⟨h1, h2, h3, h4, h5, h6, h7, h8⟩ := h
  exact ⟨h1.kept hg (fun e => by have := hr b e.symm; omega) (fun g hq => by have := hr g hq; omega), grown_new h2 hg (fun q hq => by have := hr q hq; omega), h3.kept hg (fun e => by have := hr gc e.symm; omega), h4.kept hg (fun e => by have := hr gr e.symm; omega), h5, h6, h7, h8⟩
end
theorem grown_one (w : World) (g j : Nat) (v : Value) : w.grownBy (w.setCell ⟨g, j, none⟩ v) (some g) :=
  ⟨rfl, rfl, rfl, by simp, fun i hi hne => Below.heap_setCell _ _ _ _ (fun e => hne (by have e : i = g := e; rw [e]))⟩
theorem fin_tape {w0 w : World} {B b gr k : Nat} {xs : List Int} (v0 v1 v2 v3 v4 v5 v6 : Value) (h : TapeAt w B b xs k) (hg : w0.grownBy w (some b)) (hne : gr ≠ b) (hB : B ≤ gr) (hgr : w0.heap.size ≤ gr) :
    TapeAt (((((((w.setCell ⟨gr, 0, none⟩ v0).setCell ⟨gr, 1, none⟩ v1).setCell ⟨gr, 2, none⟩ v2).setCell ⟨gr, 3, none⟩ v3).setCell ⟨gr, 4, none⟩ v4).setCell ⟨gr, 5, none⟩ v5).setCell ⟨gr, 6, none⟩ v6) B b xs k ∧
    w0.grownBy (((((((w.setCell ⟨gr, 0, none⟩ v0).setCell ⟨gr, 1, none⟩ v1).setCell ⟨gr, 2, none⟩ v2).setCell ⟨gr, 3, none⟩ v3).setCell ⟨gr, 4, none⟩ v4).setCell ⟨gr, 5, none⟩ v5).setCell ⟨gr, 6, none⟩ v6) (some b) :=
  ⟨((((((h.set_ hne hB v0).set_ hne hB v1).set_ hne hB v2).set_ hne hB v3).set_ hne hB v4).set_ hne hB v5).set_ hne hB v6, grown_set (grown_set (grown_set (grown_set (grown_set (grown_set (grown_set hg hgr v0) hgr v1) hgr v2) hgr v3) hgr v4) hgr v5) hgr v6⟩
def idsL : List ByteArray := [⟨#[97]⟩, ⟨#[114, 49]⟩, ⟨#[120, 46, 121, 45, 122]⟩]
def labL : List ByteArray := [⟨#[]⟩, ⟨#[114, 111, 111, 116]⟩]
theorem getD_mem {ys : List ByteArray} {n : Nat} (h : n < ys.length) : ys.getD n ⟨#[]⟩ ∈ ys := by
  rw [List.getD_eq_getElem?_getD, List.getElem?_eq_getElem h]; exact List.getElem_mem h
theorem ids_ok : ∀ y ∈ idsL, idB y = true ∧ y.size ≤ 16 := by decide +kernel
theorem lab_ok : ∀ y ∈ labL, (y.toList.isEmpty || idB y) = true ∧ y.size ≤ 16 := by decide +kernel
theorem foldI_pos {v n : Int} (h : 1 ≤ n) : 0 ≤ foldI v n ∧ foldI v n < n := by
  by_cases h1 : 1 < n
  · exact foldI_range h1
  · unfold foldI; rw [if_pos (by omega)]; omega
theorem cells_new (w : World) (t : TypeId) (cs : Array Value) (i : Nat) (v : Value) (h : cs[i]? = some v) : (w.alloc (.cells cs t)).cell? ⟨w.heap.size, 0 + i, none⟩ = some v := by
  rw [Nat.zero_add, World.cell?_alloc_at _ _ _ _ rfl]; exact h
end Go.Cold
namespace Go.Proofs.YtnlocdhhecockaaGreatDoor
open Go.RowKit Go.Cold

def ValidPost (xs : List Int) (k B b d : Nat) (w : World) (e : Ending) (w' : World) : Prop := ∃ (c : Cont) (cs : List Value) (k' : Nat), e = .returned (.agg cs.toArray) ∧ NewC w w' c cs ∧ TapeAt w' B b xs k' ∧ w.grownBy w' (some b) ∧
  AllOk c ∧ depthC c ≤ d ∧ nodesC c ≤ 4 ^ d ∧ k' ≤ k + 6 * 4 ^ d
def ValidCalls (xs : List Int) (B b d : Nat) : Prop := ∀ (k : Nat) (w : World), k + 6 * 4 ^ d ≤ 2 ^ 40 → TapeAt w B b xs k →
  Calls Tryz.prog 12 #[.pointer (some ⟨b, 0, none⟩), .int .i64 d] w (ValidPost xs k B b d w)
/-- The making of the inner contents: i are made. -/
def MakeRel (w0 : World) (B b gr gc lo : Nat) (xs : List Int) (d k0 i : Nat) (k1 : Int) (id : ByteArray) (s t e : Int) (wr : World) : Prop := ∃ (v : Value) (ys : List Cont) (kr : Nat), ys.length = i ∧ StT w0 B b gr gc xs wr kr [.int .i64 k1, .string id, .string ByteArray.empty, .int .i64 s, .int .i64 t, .int .i64 e, v] ∧
  OwnsC (fun x => lo ≤ x) wr lo 31 v ys ∧ (∀ y ∈ ys, AllOk y) ∧ depthL ys + 1 ≤ d ∧ nodesL ys ≤ i * 4 ^ (d - 1) ∧ kr ≤ k0 + 5 + i * (6 * 4 ^ (d - 1))
theorem depthL_snoc (x : Cont) (xs : List Cont) (m : Int) (h1 : depthL xs ≤ m) (h2 : depthC x ≤ m) : depthL (xs ++ [x]) ≤ m := by
  rw [depthL_app]; omega

set_option maxHeartbeats 16000000 in
set_option maxRecDepth 100000 in
theorem valid_step (xs : List Int) (B b d : Nat) (IH : 0 < d → ValidCalls xs B b (d - 1)) : ValidCalls xs B b d := by
  intro k w hkb ht
  obtain ⟨i0, hi0, hz0, hz1, hz2⟩ := info_parts info_cont
  have HI0 := Lib.hid hi0; clear hi0
  have HZ0 := Lib.hid hz0; clear hz0
  have HZ1 := Lib.hid hz1; clear hz1
  have HZ2 := Lib.hid hz2; clear hz2
  have hzv := (zero_of_info (P := Tryz.prog) (t := 31) info_cont2).1
  have hbw : b < w.heap.size := ht.choose_spec.choose_spec.2.2.2.2.2
  have hBb : B ≤ b := ht.choose_spec.choose_spec.2.2.2.2.1
  have h4 : 1 ≤ 4 ^ d := Nat.one_le_pow _ _ (by decide)
  have hdb : d ≤ 2 ^ 40 := by have := @Nat.lt_pow_self d 4 (by decide); omega
  have HKB := Lib.hid hkb; have HIH := Lib.hid IH; have H4 := Lib.hid h4; have HT := Lib.hid ht
  clear hkb IH h4 ht
  go_enter Tryz.func12, Tryz.ntmps12
  go_upto_region 1 with fail
  obtain ⟨wA, hwA⟩ : ∃ wA, w.alloc (.cells #[.int .i64 0, .string ByteArray.empty, .string ByteArray.empty, .int .i64 0, .int .i64 0, .int .i64 0, .slice none 0 0] 31) = wA := ⟨_, rfl⟩
  obtain ⟨hbA, hgA, -⟩ := box7 hwA
  have hBA : BoxL wA w.heap.size zeroL := by
    refine ⟨fun j u hu => ?_, box7f hwA, by omega⟩
    rw [← hwA, World.cell?_alloc_at _ _ _ _ rfl]
    simpa [zeroL] using hu
  rw [hwA]
  have htA := HT.out.kept (grown_none hbA) (fun e => by cases e) (fun g hg => by cases hg)
  have HTA := Lib.hid htA; have HBA := Lib.hid hBA; have HBELA := Lib.hid hbA; have HGA := Lib.hid hgA
  clear hwA hbA hgA hBA htA
  go_wp2_with fail
  refine (Next_any xs k B b 6 wA (by unfold okInt; omega) (by have := HKB.out; omega) HTA.out).mono ?_
  rintro e w1 ⟨rfl, ht1, hg1⟩
  have hfr := @foldI_range (tapeI xs k) 6 (by omega)
  obtain ⟨z, hz⟩ : ∃ z, foldI (tapeI xs k) 6 = z := ⟨_, rfl⟩
  rw [hz] at hfr ⊢
  have HB1 := Lib.hid (HBA.out.kept hg1 (fun e => by have := Option.some.inj e; omega)); have HT1 := Lib.hid ht1; have HG1 := Lib.hid (gtrans (grown_below (row := some b) ⟨rfl, rfl, rfl, Nat.le_refl _, fun _ _ _ => rfl⟩ HBELA.out) hg1)
  have HSZ1 := Lib.hid (show w.heap.size < w1.heap.size by have := HGA.out; have := hg1.size; omega)
  clear ht1 hg1 hz
  rcases Nat.eq_zero_or_pos d with hd0 | hd0
  · have hd1 : (d : Int) ≤ 0 := by omega
    go_upto_region 5 with fail
    obtain ⟨w2, hw2⟩ : ∃ w2, w1.alloc (.cells #[.int .i64 0, .string ByteArray.empty, .string ByteArray.empty, .int .i64 0, .int .i64 0, .int .i64 0, .slice none 0 0] 31) = w2 := ⟨_, rfl⟩
    obtain ⟨hb2, hg2, -⟩ := box7 hw2
    have hbox2 : BoxL w2 w1.heap.size [.int .i64 0, .string ByteArray.empty, .string ByteArray.empty, .int .i64 0, .int .i64 0, .int .i64 0, .slice none 0 0] := by
      refine ⟨fun j u hu => ?_, box7f hw2, by omega⟩
      rw [← hw2, World.cell?_alloc_at _ _ _ _ rfl]
      simpa using hu
    have HST0 : Hid (StT w B b w.heap.size w1.heap.size xs w2 (k + 1) [.int .i64 0, .string ByteArray.empty, .string ByteArray.empty, .int .i64 0, .int .i64 0, .int .i64 0, .slice none 0 0]) := Lib.hid ⟨HT1.out.kept (grown_none hb2) (fun e => by cases e) (fun g hg => by cases hg), grown_below HG1.out hb2, hbox2, HB1.out.kept (grown_none hb2) (fun e => by cases e), hBb, hbw, Nat.le_refl _, HSZ1.out⟩
    rw [hw2]
    have HG2 := Lib.hid hg2
    clear hw2 hb2 hg2 hbox2
    have x0 := HST0.out.2.2.1.1 0 _ rfl; have x1 := HST0.out.2.2.1.1 1 _ rfl; have x2 := HST0.out.2.2.1.1 2 _ rfl; have x3 := HST0.out.2.2.1.1 3 _ rfl; have x4 := HST0.out.2.2.1.1 4 _ rfl; have x5 := HST0.out.2.2.1.1 5 _ rfl; have x6 := HST0.out.2.2.1.1 6 _ rfl; have xf := HST0.out.2.2.1.2.1
    have y0 := HST0.out.2.2.2.1.1 0 _ rfl; have y1 := HST0.out.2.2.2.1.1 1 _ rfl; have y2 := HST0.out.2.2.2.1.1 2 _ rfl; have y3 := HST0.out.2.2.2.1.1 3 _ rfl; have y4 := HST0.out.2.2.2.1.1 4 _ rfl; have y5 := HST0.out.2.2.2.1.1 5 _ rfl; have y6 := HST0.out.2.2.2.1.1 6 _ rfl; have yf := HST0.out.2.2.2.1.2.1
    obtain ⟨q1, q2⟩ := fin_tape (.int .i64 0) (.string ByteArray.empty) (.string ByteArray.empty) (.int .i64 0) (.int .i64 0) (.int .i64 0) (.slice none 0 0) HST0.out.1 HST0.out.2.1 (show w.heap.size ≠ b by omega) (show B ≤ w.heap.size by omega) (Nat.le_refl _)
    have HQ1 := Lib.hid q1; have HQ2 := Lib.hid q2; clear q1 q2
    go_wp2
    refine bodyPost_ret (v := .agg #[.int .i64 0, .string ByteArray.empty, .string ByteArray.empty, .int .i64 0, .int .i64 0, .int .i64 0, .slice none 0 0]) (by simp [results, Tryz.results12, go_sem, y0, y1, y2, y3, y4, y5, y6]) rfl ⟨.mk 0 ByteArray.empty ByteArray.empty 0 0 0 [], contCells 0 ByteArray.empty ByteArray.empty 0 0 0 none 0 0, _, rfl, ?_, HQ1.out, HQ2.out, ?_, ?_, ?_, ?_⟩
    · unfold NewC
      rw [CRdS]
      exact ⟨none, 0, rfl, ⟨by unfold okInt; omega, by unfold maxLen; decide, by unfold maxLen; decide, by unfold okInt; omega, by unfold okInt; omega, by unfold okInt; omega⟩, Nat.le_refl _, by unfold maxLen; omega, fun h => by simp at h⟩
    · exact AllOk_mk.2 ⟨by decide +kernel, fun x hx => by cases hx⟩
    · rw [depthC, depthL]; split <;> omega
    · rw [nodesC, nodesL]; have := H4.out; omega
    · have := H4.out; omega
  have hd1 : ¬ (d : Int) ≤ 0 := by omega
  obtain ⟨kn, rfl⟩ := Int.eq_ofNat_of_zero_le hfr.1
  have hk6 : kn = 0 ∨ kn = 1 ∨ kn = 2 ∨ kn = 3 ∨ kn = 4 ∨ kn = 5 := by omega
  clear hfr
  rcases hk6 with rfl | rfl | rfl | rfl | rfl | rfl
  · go_upto_region 5 with fail
    try simp only [Int.ofNat_zero]
    obtain ⟨w2, hw2⟩ : ∃ w2, w1.alloc (.cells #[.int .i64 0, .string ByteArray.empty, .string ByteArray.empty, .int .i64 0, .int .i64 0, .int .i64 0, .slice none 0 0] 31) = w2 := ⟨_, rfl⟩
    obtain ⟨hb2, hg2, -⟩ := box7 hw2
    have hbox2 : BoxL w2 w1.heap.size [.int .i64 0, .string ByteArray.empty, .string ByteArray.empty, .int .i64 0, .int .i64 0, .int .i64 0, .slice none 0 0] := by
      refine ⟨fun j u hu => ?_, box7f hw2, by omega⟩
      rw [← hw2, World.cell?_alloc_at _ _ _ _ rfl]
      simpa using hu
    have HST0 : Hid (StT w B b w.heap.size w1.heap.size xs w2 (k + 1) [.int .i64 0, .string ByteArray.empty, .string ByteArray.empty, .int .i64 0, .int .i64 0, .int .i64 0, .slice none 0 0]) := Lib.hid ⟨HT1.out.kept (grown_none hb2) (fun e => by cases e) (fun g hg => by cases hg), grown_below HG1.out hb2, hbox2, HB1.out.kept (grown_none hb2) (fun e => by cases e), hBb, hbw, Nat.le_refl _, HSZ1.out⟩
    rw [hw2]
    have HG2 := Lib.hid hg2
    clear hw2 hb2 hg2 hbox2
    have x0 := HST0.out.2.2.1.1 0 _ rfl; have x1 := HST0.out.2.2.1.1 1 _ rfl; have x2 := HST0.out.2.2.1.1 2 _ rfl; have x3 := HST0.out.2.2.1.1 3 _ rfl; have x4 := HST0.out.2.2.1.1 4 _ rfl; have x5 := HST0.out.2.2.1.1 5 _ rfl; have x6 := HST0.out.2.2.1.1 6 _ rfl; have xf := HST0.out.2.2.1.2.1
    have y0 := HST0.out.2.2.2.1.1 0 _ rfl; have y1 := HST0.out.2.2.2.1.1 1 _ rfl; have y2 := HST0.out.2.2.2.1.1 2 _ rfl; have y3 := HST0.out.2.2.2.1.1 3 _ rfl; have y4 := HST0.out.2.2.2.1.1 4 _ rfl; have y5 := HST0.out.2.2.2.1.1 5 _ rfl; have y6 := HST0.out.2.2.2.1.1 6 _ rfl; have yf := HST0.out.2.2.2.1.2.1
    obtain ⟨q1, q2⟩ := fin_tape (.int .i64 0) (.string ByteArray.empty) (.string ByteArray.empty) (.int .i64 0) (.int .i64 0) (.int .i64 0) (.slice none 0 0) HST0.out.1 HST0.out.2.1 (show w.heap.size ≠ b by omega) (show B ≤ w.heap.size by omega) (Nat.le_refl _)
    have HQ1 := Lib.hid q1; have HQ2 := Lib.hid q2; clear q1 q2
    go_wp2
    refine bodyPost_ret (v := .agg #[.int .i64 0, .string ByteArray.empty, .string ByteArray.empty, .int .i64 0, .int .i64 0, .int .i64 0, .slice none 0 0]) (by simp [results, Tryz.results12, go_sem, y0, y1, y2, y3, y4, y5, y6]) rfl ⟨.mk 0 ByteArray.empty ByteArray.empty 0 0 0 [], contCells 0 ByteArray.empty ByteArray.empty 0 0 0 none 0 0, _, rfl, ?_, HQ1.out, HQ2.out, ?_, ?_, ?_, ?_⟩
    · unfold NewC
      rw [CRdS]
      exact ⟨none, 0, rfl, ⟨by unfold okInt; omega, by unfold maxLen; decide, by unfold maxLen; decide, by unfold okInt; omega, by unfold okInt; omega, by unfold okInt; omega⟩, Nat.le_refl _, by unfold maxLen; omega, fun h => by simp at h⟩
    · exact AllOk_mk.2 ⟨by decide +kernel, fun x hx => by cases hx⟩
    · rw [depthC, depthL]; split <;> omega
    · rw [nodesC, nodesL]; have := H4.out; omega
    · have := H4.out; omega
  · go_upto_region 5 with fail
    try simp only [Int.ofNat_one, Int.Nat.cast_ofNat_Int]
    obtain ⟨w2, hw2⟩ : ∃ w2, w1.alloc (.cells #[.int .i64 1, .string ByteArray.empty, .string ByteArray.empty, .int .i64 0, .int .i64 0, .int .i64 0, .slice none 0 0] 31) = w2 := ⟨_, rfl⟩
    obtain ⟨hb2, hg2, -⟩ := box7 hw2
    have hbox2 : BoxL w2 w1.heap.size [.int .i64 1, .string ByteArray.empty, .string ByteArray.empty, .int .i64 0, .int .i64 0, .int .i64 0, .slice none 0 0] := by
      refine ⟨fun j u hu => ?_, box7f hw2, by omega⟩
      rw [← hw2, World.cell?_alloc_at _ _ _ _ rfl]
      simpa using hu
    have HST0 : Hid (StT w B b w.heap.size w1.heap.size xs w2 (k + 1) [.int .i64 1, .string ByteArray.empty, .string ByteArray.empty, .int .i64 0, .int .i64 0, .int .i64 0, .slice none 0 0]) := Lib.hid ⟨HT1.out.kept (grown_none hb2) (fun e => by cases e) (fun g hg => by cases hg), grown_below HG1.out hb2, hbox2, HB1.out.kept (grown_none hb2) (fun e => by cases e), hBb, hbw, Nat.le_refl _, HSZ1.out⟩
    rw [hw2]
    have HG2 := Lib.hid hg2
    clear hw2 hb2 hg2 hbox2
    go_wp2_with fail
    have hbx : Below w2.heap.size w2 (w2.alloc (.cells #[.string ⟨#[97]⟩, .string ⟨#[114, 49]⟩, .string ⟨#[120, 46, 121, 45, 122]⟩] 9)) := (Below.refl _ _).alloc (Nat.le_refl _) _
    have hstx := HST0.out.below hbx
    refine (One_any xs (k + 1) B b idsL w2.heap.size 0 idsL.length _ (by have := HKB.out; have := H4.out; omega) hstx.1 (by decide) (by decide) (Nat.le_refl _) (by unfold maxLen; decide) (by have := HST0.out.1.choose_spec.choose_spec.2.2.2.2.2; omega) (fun i y hy => cells_new _ _ _ i _ (by simp only [idsL] at hy; rcases i with _ | _ | _ | i <;> simp at hy ⊢ <;> exact hy))).mono ?_
    rintro e' w3 ⟨rfl, htq, hgq⟩
    have hmem : idsL.getD (foldI (tapeI xs (k + 1)) idsL.length).toNat ⟨#[]⟩ ∈ idsL := getD_mem (by have := @foldI_range (tapeI xs (k + 1)) idsL.length (by decide); omega)
    obtain ⟨id, hid⟩ : ∃ y, idsL.getD (foldI (tapeI xs (k + 1)) idsL.length).toNat ⟨#[]⟩ = y := ⟨_, rfl⟩
    rw [hid] at hmem ⊢
    have HMid := Lib.hid (ids_ok id hmem); have HST3 := Lib.hid (hstx.go htq hgq)
    clear hbx hstx htq hgq hmem hid
    have x0 := HST3.out.2.2.1.1 0 _ rfl; have x1 := HST3.out.2.2.1.1 1 _ rfl; have x2 := HST3.out.2.2.1.1 2 _ rfl; have x3 := HST3.out.2.2.1.1 3 _ rfl; have x4 := HST3.out.2.2.1.1 4 _ rfl; have x5 := HST3.out.2.2.1.1 5 _ rfl; have x6 := HST3.out.2.2.1.1 6 _ rfl; have xf := HST3.out.2.2.1.2.1
    go_upto_region 11 with fail
    clear x0 x1 x2 x3 x4 x5 x6 xf
    have HST4 := Lib.hid (HST3.out.set_ (j := 1) (by simp) (.string id))
    simp only [List.set_cons_zero, List.set_cons_succ] at HST4
    obtain ⟨w4, hw4⟩ : ∃ w4, w3.setCell ⟨w1.heap.size, 1, none⟩ (.string id) = w4 := ⟨_, rfl⟩
    rw [hw4] at HST4 ⊢
    clear hw4
    go_wp2_with fail
    have hbx : Below w4.heap.size w4 (w4.alloc (.cells #[.string ⟨#[]⟩, .string ⟨#[114, 111, 111, 116]⟩] 9)) := (Below.refl _ _).alloc (Nat.le_refl _) _
    have hstx := HST4.out.below hbx
    refine (One_any xs (k + 2) B b labL w4.heap.size 0 labL.length _ (by have := HKB.out; have := H4.out; omega) hstx.1 (by decide) (by decide) (Nat.le_refl _) (by unfold maxLen; decide) (by have := HST4.out.1.choose_spec.choose_spec.2.2.2.2.2; omega) (fun i y hy => cells_new _ _ _ i _ (by simp only [labL] at hy; rcases i with _ | _ | _ | i <;> simp at hy ⊢ <;> exact hy))).mono ?_
    rintro e' w5 ⟨rfl, htq, hgq⟩
    have hmem : labL.getD (foldI (tapeI xs (k + 2)) labL.length).toNat ⟨#[]⟩ ∈ labL := getD_mem (by have := @foldI_range (tapeI xs (k + 2)) labL.length (by decide); omega)
    obtain ⟨lb, hlb⟩ : ∃ y, labL.getD (foldI (tapeI xs (k + 2)) labL.length).toNat ⟨#[]⟩ = y := ⟨_, rfl⟩
    rw [hlb] at hmem ⊢
    have HMlb := Lib.hid (lab_ok lb hmem); have HST5 := Lib.hid (hstx.go htq hgq)
    clear hbx hstx htq hgq hmem hlb
    have x0 := HST5.out.2.2.1.1 0 _ rfl; have x1 := HST5.out.2.2.1.1 1 _ rfl; have x2 := HST5.out.2.2.1.1 2 _ rfl; have x3 := HST5.out.2.2.1.1 3 _ rfl; have x4 := HST5.out.2.2.1.1 4 _ rfl; have x5 := HST5.out.2.2.1.1 5 _ rfl; have x6 := HST5.out.2.2.1.1 6 _ rfl; have xf := HST5.out.2.2.1.2.1
    go_upto_region 12 with fail
    clear x0 x1 x2 x3 x4 x5 x6 xf
    have HST6 := Lib.hid (HST5.out.set_ (j := 2) (by simp) (.string lb))
    simp only [List.set_cons_zero, List.set_cons_succ] at HST6
    have x0 := HST6.out.2.2.1.1 0 _ rfl; have x1 := HST6.out.2.2.1.1 1 _ rfl; have x2 := HST6.out.2.2.1.1 2 _ rfl; have x3 := HST6.out.2.2.1.1 3 _ rfl; have x4 := HST6.out.2.2.1.1 4 _ rfl; have x5 := HST6.out.2.2.1.1 5 _ rfl; have x6 := HST6.out.2.2.1.1 6 _ rfl; have xf := HST6.out.2.2.1.2.1
    have y0 := HST6.out.2.2.2.1.1 0 _ rfl; have y1 := HST6.out.2.2.2.1.1 1 _ rfl; have y2 := HST6.out.2.2.2.1.1 2 _ rfl; have y3 := HST6.out.2.2.2.1.1 3 _ rfl; have y4 := HST6.out.2.2.2.1.1 4 _ rfl; have y5 := HST6.out.2.2.2.1.1 5 _ rfl; have y6 := HST6.out.2.2.2.1.1 6 _ rfl; have yf := HST6.out.2.2.2.1.2.1
    obtain ⟨q1, q2⟩ := fin_tape (.int .i64 1) (.string id) (.string lb) (.int .i64 0) (.int .i64 0) (.int .i64 0) (.slice none 0 0) HST6.out.1 HST6.out.2.1 (show w.heap.size ≠ b by omega) (show B ≤ w.heap.size by omega) (Nat.le_refl _)
    have HQ1 := Lib.hid q1; have HQ2 := Lib.hid q2; clear q1 q2
    go_wp2
    refine bodyPost_ret (v := .agg #[.int .i64 1, .string id, .string lb, .int .i64 0, .int .i64 0, .int .i64 0, .slice none 0 0]) (by simp [results, Tryz.results12, go_sem, y0, y1, y2, y3, y4, y5, y6]) rfl ⟨.mk 1 id lb 0 0 0 [], contCells 1 id lb 0 0 0 none 0 0, _, rfl, ?_, HQ1.out, HQ2.out, ?_, ?_, ?_, ?_⟩
    · unfold NewC
      rw [CRdS]
      exact ⟨none, 0, rfl, ⟨by unfold okInt; omega, by unfold maxLen; have := HMid.out.2; omega, by unfold maxLen; have := HMlb.out.2; omega, by unfold okInt; omega, by unfold okInt; omega, by unfold okInt; omega⟩, Nat.le_refl _, by unfold maxLen; omega, fun h => by simp at h⟩
    · exact AllOk_mk.2 ⟨by have := HMid.out.1; have h2 := HMlb.out.1; simp [ownB, noneB, this]; simpa using h2, fun x hx => by cases hx⟩
    · rw [depthC, depthL]; split <;> omega
    · rw [nodesC, nodesL]; have := H4.out; omega
    · have := H4.out; omega
  · go_upto_region 5 with fail
    try simp only [Int.ofNat_one, Int.Nat.cast_ofNat_Int]
    obtain ⟨w2, hw2⟩ : ∃ w2, w1.alloc (.cells #[.int .i64 2, .string ByteArray.empty, .string ByteArray.empty, .int .i64 0, .int .i64 0, .int .i64 0, .slice none 0 0] 31) = w2 := ⟨_, rfl⟩
    obtain ⟨hb2, hg2, -⟩ := box7 hw2
    have hbox2 : BoxL w2 w1.heap.size [.int .i64 2, .string ByteArray.empty, .string ByteArray.empty, .int .i64 0, .int .i64 0, .int .i64 0, .slice none 0 0] := by
      refine ⟨fun j u hu => ?_, box7f hw2, by omega⟩
      rw [← hw2, World.cell?_alloc_at _ _ _ _ rfl]
      simpa using hu
    have HST0 : Hid (StT w B b w.heap.size w1.heap.size xs w2 (k + 1) [.int .i64 2, .string ByteArray.empty, .string ByteArray.empty, .int .i64 0, .int .i64 0, .int .i64 0, .slice none 0 0]) := Lib.hid ⟨HT1.out.kept (grown_none hb2) (fun e => by cases e) (fun g hg => by cases hg), grown_below HG1.out hb2, hbox2, HB1.out.kept (grown_none hb2) (fun e => by cases e), hBb, hbw, Nat.le_refl _, HSZ1.out⟩
    rw [hw2]
    have HG2 := Lib.hid hg2
    clear hw2 hb2 hg2 hbox2
    go_wp2_with fail
    have hbx : Below w2.heap.size w2 (w2.alloc (.cells #[.string ⟨#[97]⟩, .string ⟨#[114, 49]⟩, .string ⟨#[120, 46, 121, 45, 122]⟩] 9)) := (Below.refl _ _).alloc (Nat.le_refl _) _
    have hstx := HST0.out.below hbx
    refine (One_any xs (k + 1) B b idsL w2.heap.size 0 idsL.length _ (by have := HKB.out; have := H4.out; omega) hstx.1 (by decide) (by decide) (Nat.le_refl _) (by unfold maxLen; decide) (by have := HST0.out.1.choose_spec.choose_spec.2.2.2.2.2; omega) (fun i y hy => cells_new _ _ _ i _ (by simp only [idsL] at hy; rcases i with _ | _ | _ | i <;> simp at hy ⊢ <;> exact hy))).mono ?_
    rintro e' w3 ⟨rfl, htq, hgq⟩
    have hmem : idsL.getD (foldI (tapeI xs (k + 1)) idsL.length).toNat ⟨#[]⟩ ∈ idsL := getD_mem (by have := @foldI_range (tapeI xs (k + 1)) idsL.length (by decide); omega)
    obtain ⟨id, hid⟩ : ∃ y, idsL.getD (foldI (tapeI xs (k + 1)) idsL.length).toNat ⟨#[]⟩ = y := ⟨_, rfl⟩
    rw [hid] at hmem ⊢
    have HMid := Lib.hid (ids_ok id hmem); have HST3 := Lib.hid (hstx.go htq hgq)
    clear hbx hstx htq hgq hmem hid
    have x0 := HST3.out.2.2.1.1 0 _ rfl; have x1 := HST3.out.2.2.1.1 1 _ rfl; have x2 := HST3.out.2.2.1.1 2 _ rfl; have x3 := HST3.out.2.2.1.1 3 _ rfl; have x4 := HST3.out.2.2.1.1 4 _ rfl; have x5 := HST3.out.2.2.1.1 5 _ rfl; have x6 := HST3.out.2.2.1.1 6 _ rfl; have xf := HST3.out.2.2.1.2.1
    go_upto_region 14 with fail
    clear x0 x1 x2 x3 x4 x5 x6 xf
    have HST4 := Lib.hid (HST3.out.set_ (j := 1) (by simp) (.string id))
    simp only [List.set_cons_zero, List.set_cons_succ] at HST4
    obtain ⟨w4, hwf⟩ : ∃ z, w3.setCell ⟨w1.heap.size, 1, none⟩ (.string id) = z := ⟨_, rfl⟩
    rw [hwf] at HST4 ⊢
    clear hwf
    go_wp2_with fail
    refine (Next_any xs (k + 1 + 1) B b 12 _ (by unfold okInt; omega) (by have := HKB.out; have := H4.out; omega) HST4.out.1).mono ?_
    rintro e' w5 ⟨rfl, htq, hgq⟩
    have hrft := @foldI_pos (tapeI xs (k + 1 + 1)) 12 (by omega)
    obtain ⟨ft, hft⟩ : ∃ y, foldI (tapeI xs (k + 1 + 1)) 12 = y := ⟨_, rfl⟩
    rw [hft] at hrft ⊢
    have HST5 := Lib.hid (HST4.out.go htq hgq)
    clear htq hgq hft
    have x0 := HST5.out.2.2.1.1 0 _ rfl; have x1 := HST5.out.2.2.1.1 1 _ rfl; have x2 := HST5.out.2.2.1.1 2 _ rfl; have x3 := HST5.out.2.2.1.1 3 _ rfl; have x4 := HST5.out.2.2.1.1 4 _ rfl; have x5 := HST5.out.2.2.1.1 5 _ rfl; have x6 := HST5.out.2.2.1.1 6 _ rfl; have xf := HST5.out.2.2.1.2.1
    go_upto_region 15 with fail
    clear x0 x1 x2 x3 x4 x5 x6 xf
    have HST6 := Lib.hid (HST5.out.set_ (j := 4) (by simp) (.int .i64 (1 + ft)))
    simp only [List.set_cons_zero, List.set_cons_succ] at HST6
    obtain ⟨w6, hwf⟩ : ∃ z, w5.setCell ⟨w1.heap.size, 4, none⟩ (.int .i64 (1 + ft)) = z := ⟨_, rfl⟩
    rw [hwf] at HST6 ⊢
    clear hwf
    have x0 := HST6.out.2.2.1.1 0 _ rfl; have x1 := HST6.out.2.2.1.1 1 _ rfl; have x2 := HST6.out.2.2.1.1 2 _ rfl; have x3 := HST6.out.2.2.1.1 3 _ rfl; have x4 := HST6.out.2.2.1.1 4 _ rfl; have x5 := HST6.out.2.2.1.1 5 _ rfl; have x6 := HST6.out.2.2.1.1 6 _ rfl; have xf := HST6.out.2.2.1.2.1
    go_wp2_with fail
    have HST6d := Lib.hid (HST6.out.below (below_drewN_self w6 _ 1))
    refine wp_region_held_drew (S := fun w' => w'.cell? ⟨w1.heap.size, 4, none⟩ = some (.int .i64 (1 + ft))) (by kernel_rfl) x4 (fun _ => ?_)
    refine wpAnyH_take (i := 0) (oi := ⟨some 36, _, _, _, _, _⟩) (v := .pointer (some ⟨b, 0, none⟩)) rfl (by kernel_rfl) (by kernel_rfl) (by kernel_rfl) (fun _ _ _ h => h) (Or.inl ⟨by rfl, fun w' hS => by go_simp⟩) (by assumption) ?_
    try simp only [Act.put, List.setIfInBounds_toArray, List.set_cons_zero, List.set_cons_succ]
    refine wpAnyH_take (i := 1) (oi := ⟨some 37, _, _, _, _, _⟩) (v := .pointer (some ⟨w1.heap.size, 4, none⟩)) rfl (by kernel_rfl) (by kernel_rfl) (by kernel_rfl) (fun _ _ _ h => h) (Or.inl ⟨by rfl, fun w' hS => by go_simp⟩) (by assumption) ?_
    try simp only [Act.put, List.setIfInBounds_toArray, List.set_cons_zero, List.set_cons_succ]
    refine wpAnyH_take (i := 2) (oi := ⟨some 38, _, _, _, _, _⟩) (v := .int .i64 (1 + ft)) rfl (by kernel_rfl) (by kernel_rfl) (by kernel_rfl) (fun _ _ _ h => h) (Or.inl ⟨by rfl, fun w' hS => by go_simp⟩) (by assumption) ?_
    try simp only [Act.put, List.setIfInBounds_toArray, List.set_cons_zero, List.set_cons_succ]
    refine wpAnyH_take (i := 5) (oi := ⟨some 41, _, _, _, _, _⟩) (v := .pointer (some ⟨b, 0, none⟩)) rfl (by kernel_rfl) (by kernel_rfl) (by kernel_rfl) (fun _ _ _ h => h) (Or.inl ⟨by rfl, fun w' hS => by go_simp⟩) (by assumption) ?_
    try simp only [Act.put, List.setIfInBounds_toArray, List.set_cons_zero, List.set_cons_succ]
    refine wpAnyH_take (i := 6) (oi := ⟨some 42, _, _, _, _, _⟩) (v := .pointer (some ⟨w1.heap.size, 4, none⟩)) rfl (by kernel_rfl) (by kernel_rfl) (by kernel_rfl) (fun _ _ _ h => h) (Or.inl ⟨by rfl, fun w' hS => by go_simp⟩) (by assumption) ?_
    try simp only [Act.put, List.setIfInBounds_toArray, List.set_cons_zero, List.set_cons_succ]
    refine wpAnyH_take (i := 7) (oi := ⟨some 43, _, _, _, _, _⟩) (v := .int .i64 (1 + ft)) rfl (by kernel_rfl) (by kernel_rfl) (by kernel_rfl) (fun _ _ _ h => h) (Or.inl ⟨by rfl, fun w' hS => by go_simp⟩) (by assumption) ?_
    try simp only [Act.put, List.setIfInBounds_toArray, List.set_cons_zero, List.set_cons_succ]
    refine wpAnyH_ready (rs := [3]) (by kernel_rfl) (by simp) ?_
    refine AllReadyH.cons (o := ⟨some 39, .call ⟨_, _, _⟩, _, _, _, _⟩) rfl (fun K hK => ?_) AllReadyH.nil
    go_simp
    go_at_call 13
    refine (Next_any xs (k + 1 + 1 + 1) B b (1 + ft) _ (by unfold okInt; omega) (by have := HKB.out; have := H4.out; omega) HST6d.out.1).mono ?_
    rintro e' w7 ⟨rfl, htq, hgq⟩
    have hrfs := @foldI_pos (tapeI xs (k + 1 + 1 + 1)) (1 + ft) (by omega)
    obtain ⟨fs, hfs⟩ : ∃ y, foldI (tapeI xs (k + 1 + 1 + 1)) (1 + ft) = y := ⟨_, rfl⟩
    rw [hfs] at hrfs ⊢
    have HST7 := Lib.hid (HST6d.out.go htq hgq)
    clear htq hgq hfs
    have S7 := HST7.out.2.2.1.1 4 _ rfl
    refine hK.out _ _ S7 (fun _ => ?_)
    clear hK K
    try simp only [Act.put, List.setIfInBounds_toArray, List.set_cons_zero, List.set_cons_succ]
    refine wpAnyH_take (i := 4) (oi := ⟨some 40, _, _, _, _, _⟩) (v := .int .i64 (1 + fs)) rfl (by kernel_rfl) (by kernel_rfl) (by kernel_rfl) (fun _ _ _ h => h) (Or.inl ⟨by rfl, fun w' hS => by (have hwr : IntKind.i64.wrap (1 + fs) = 1 + fs := (by rw [IntKind.wrap_i64]; omega)); go_simp; try rw [hwr]⟩) S7 ?_
    try simp only [Act.put, List.setIfInBounds_toArray, List.set_cons_zero, List.set_cons_succ]
    refine wpAnyH_take (i := 10) (oi := ⟨some 46, _, _, _, _, _⟩) (v := .pointer (some ⟨w1.heap.size, 3, none⟩)) rfl (by kernel_rfl) (by kernel_rfl) (by kernel_rfl) (fun _ _ _ h => h) (Or.inl ⟨by rfl, fun w' hS => by go_simp⟩) S7 ?_
    try simp only [Act.put, List.setIfInBounds_toArray, List.set_cons_zero, List.set_cons_succ]
    refine wpAnyH_ready (rs := [8]) (by kernel_rfl) (by simp) ?_
    refine AllReadyH.cons (o := ⟨some 44, .call ⟨_, _, _⟩, _, _, _, _⟩) rfl (fun K hK => ?_) AllReadyH.nil
    go_simp
    go_at_call 13
    refine (Next_any xs (k + 1 + 1 + 1 + 1) B b (1 + ft) _ (by unfold okInt; omega) (by have := HKB.out; have := H4.out; omega) HST7.out.1).mono ?_
    rintro e' w8 ⟨rfl, htq, hgq⟩
    have hrfl := @foldI_pos (tapeI xs (k + 1 + 1 + 1 + 1)) (1 + ft) (by omega)
    obtain ⟨fl, hfl⟩ : ∃ y, foldI (tapeI xs (k + 1 + 1 + 1 + 1)) (1 + ft) = y := ⟨_, rfl⟩
    rw [hfl] at hrfl ⊢
    have HST8 := Lib.hid (HST7.out.go htq hgq)
    clear htq hgq hfl
    have S8 := HST8.out.2.2.1.1 4 _ rfl
    refine hK.out _ _ S8 (fun _ => ?_)
    clear hK K
    try simp only [Act.put, List.setIfInBounds_toArray, List.set_cons_zero, List.set_cons_succ]
    refine wpAnyH_take (i := 9) (oi := ⟨some 45, _, _, _, _, _⟩) (v := .int .i64 (1 + fl)) rfl (by kernel_rfl) (by kernel_rfl) (by kernel_rfl) (fun _ _ _ h => h) (Or.inl ⟨by rfl, fun w' hS => by (have hwr : IntKind.i64.wrap (1 + fl) = 1 + fl := (by rw [IntKind.wrap_i64]; omega)); go_simp; try rw [hwr]⟩) S8 ?_
    try simp only [Act.put, List.setIfInBounds_toArray, List.set_cons_zero, List.set_cons_succ]
    clear x0 x1 x2 x3 x4 x5 x6 xf
    have x0 := HST8.out.2.2.1.1 0 _ rfl; have x1 := HST8.out.2.2.1.1 1 _ rfl; have x2 := HST8.out.2.2.1.1 2 _ rfl; have x3 := HST8.out.2.2.1.1 3 _ rfl; have x4 := HST8.out.2.2.1.1 4 _ rfl; have x5 := HST8.out.2.2.1.1 5 _ rfl; have x6 := HST8.out.2.2.1.1 6 _ rfl; have xf := HST8.out.2.2.1.2.1
    have HSTa := Lib.hid (HST8.out.set_ (j := 3) (by simp) (.int .i64 (1 + fs)))
    have HSTb := Lib.hid (HSTa.out.set_ (j := 5) (by simp) (.int .i64 (1 + fl)))
    simp only [List.set_cons_zero, List.set_cons_succ] at HSTa HSTb
    have Sa := HSTa.out.2.2.1.1 4 _ rfl; have Sb := HSTb.out.2.2.1.1 4 _ rfl
    have a5 := HSTa.out.2.2.1.1 5 _ rfl; have af := HSTa.out.2.2.1.2.1
    refine wpAnyH_ready (rs := [11]) (by kernel_rfl) (by simp) ?_
    refine AllReadyH.cons (o := ⟨none, .store _ _ _, _, _, _, _⟩) rfl (fun K hK => ?_) AllReadyH.nil
    go_simp
    refine hK.out _ _ Sa (fun _ => ?_)
    clear hK K
    try simp only [Act.put, List.setIfInBounds_toArray, List.set_cons_zero, List.set_cons_succ]
    refine wpAnyH_take (i := 12) (oi := ⟨some 47, _, _, _, _, _⟩) (v := .pointer (some ⟨w1.heap.size, 5, none⟩)) rfl (by kernel_rfl) (by kernel_rfl) (by kernel_rfl) (fun _ _ _ h => h) (Or.inl ⟨by rfl, fun w' hS => by go_simp⟩) Sa ?_
    try simp only [Act.put, List.setIfInBounds_toArray, List.set_cons_zero, List.set_cons_succ]
    refine wpAnyH_ready (rs := [13]) (by kernel_rfl) (by simp) ?_
    refine AllReadyH.cons (o := ⟨none, .store _ _ _, _, _, _, _⟩) rfl (fun K hK => ?_) AllReadyH.nil
    go_simp
    refine hK.out _ _ Sb (fun _ => ?_)
    clear hK K
    try simp only [Act.put, List.setIfInBounds_toArray, List.set_cons_zero, List.set_cons_succ]
    refine wpAnyH_done (by kernel_rfl) ?_ _
    clear x0 x1 x2 x3 x4 x5 x6 xf
    clear Sa Sb a5 af S7 S8
    obtain ⟨wf, hwf⟩ : ∃ z, (w8.setCell ⟨w1.heap.size, 3, none⟩ (.int .i64 (1 + fs))).setCell ⟨w1.heap.size, 5, none⟩ (.int .i64 (1 + fl)) = z := ⟨_, rfl⟩
    rw [hwf] at HSTb ⊢
    clear hwf
    go_upto_region 22 with fail
    have hn3 : 1 ≤ 1 ∧ 1 ≤ 3 := by omega
    have HN3 := Lib.hid (show 1 ≤ 1 ∧ 1 ≤ 3 by omega)
    have HD1 := Lib.hid (show 1 ≤ d by omega)
    have h44 : 4 ^ d = 4 * 4 ^ (d - 1) := by rw [← Nat.pow_succ', show (d - 1).succ = d by omega]
    have h41 : 1 ≤ 4 ^ (d - 1) := Nat.one_le_pow _ _ (by decide)
    have H44 := Lib.hid h44; have H41 := Lib.hid h41; clear h44 h41
    have hrel0 : MakeRel w B b w.heap.size w1.heap.size (w1.heap.size + 1) xs d k 0 2 id (1 + fs) (1 + ft) (1 + fl) wf := by
      refine ⟨.slice none 0 0, [], _, rfl, HSTb.out, OwnsC.nil_ _ _ _ _, (fun y hy => by cases hy), by rw [depthL]; have := HD1.out; omega, by rw [nodesL]; omega, by omega⟩
    have HREL0 := Lib.hid hrel0; clear hrel0 hn3
    go_wp2_with fail
    go_loopw [8] (fun i wr => ∃ m : Nat, m ≤ 1 ∧ i = .int .i64 m ∧ Hid (MakeRel w B b w.heap.size w1.heap.size (w1.heap.size + 1) xs d k m 2 id (1 + fs) (1 + ft) (1 + fl) wr)) (fun i _ => 1 - (intOf i).toNat)
    case atStart => exact ⟨0, Nat.zero_le _, rfl, HREL0⟩
    case round =>
      obtain ⟨m, hm, rfl, HR⟩ := hrel
      obtain ⟨v, ys, kr, hyl, hst, hown, hall, hdep, hnod, hkr⟩ := HR.out
      clear HR HREL0
      have HST9 := Lib.hid hst; have HOWN := Lib.hid hown; have HALL := Lib.hid hall; have HDEP := Lib.hid hdep; have HNOD := Lib.hid hnod; have HKR := Lib.hid hkr; have HYL := Lib.hid hyl
      clear hst hown hall hdep hnod hkr hyl
      have x0 := HST9.out.2.2.1.1 0 _ rfl; have x1 := HST9.out.2.2.1.1 1 _ rfl; have x2 := HST9.out.2.2.1.1 2 _ rfl; have x3 := HST9.out.2.2.1.1 3 _ rfl; have x4 := HST9.out.2.2.1.1 4 _ rfl; have x5 := HST9.out.2.2.1.1 5 _ rfl; have x6 := HST9.out.2.2.1.1 6 _ rfl; have xf := HST9.out.2.2.1.2.1
      by_cases hlt : m < 1
      · have i1 : (m : Int) < 1 := by omega
        have hm2 : m * (6 * 4 ^ (d - 1)) ≤ 2 * (6 * 4 ^ (d - 1)) := Nat.mul_le_mul_right _ (by have := HN3.out; omega)
        have hcall := HIH.out (by have := HD1.out; omega) kr wr.drew (by have := HKB.out; have := H44.out; have := H41.out; have := HKR.out; omega) (HST9.out.below (below_drewN_self wr _ 1)).1
        have HJ := Lib.hid (show (d : Int) - 1 = ((d - 1 : Nat) : Int) by have := HD1.out; omega)
        have HCALL := Lib.hid hcall; clear hcall hm2
        go_wp2_with fail
        refine wp_region_held_drew (S := fun _ => True) (by kernel_rfl) trivial (fun _ => ?_)
        refine wpAnyH_take (i := 0) (oi := ⟨some 73, _, _, _, _, _⟩) (v := .pointer (some ⟨w1.heap.size, 6, none⟩)) rfl (by kernel_rfl) (by kernel_rfl) (by kernel_rfl) (fun _ _ _ h => h) (Or.inl ⟨by rfl, fun w' hS => by go_simp⟩) trivial ?_
        try simp only [Act.put, List.setIfInBounds_toArray, List.set_cons_zero, List.set_cons_succ]
        refine wpAnyH_take (i := 2) (oi := ⟨some 75, _, _, _, _, _⟩) (v := .pointer (some ⟨b, 0, none⟩)) rfl (by kernel_rfl) (by kernel_rfl) (by kernel_rfl) (fun _ _ _ h => h) (Or.inl ⟨by rfl, fun w' hS => by go_simp⟩) trivial ?_
        try simp only [Act.put, List.setIfInBounds_toArray, List.set_cons_zero, List.set_cons_succ]
        refine wpAnyH_take (i := 3) (oi := ⟨some 76, _, _, _, _, _⟩) (v := .int .i64 d) rfl (by kernel_rfl) (by kernel_rfl) (by kernel_rfl) (fun _ _ _ h => h) (Or.inl ⟨by rfl, fun w' hS => by go_simp⟩) trivial ?_
        try simp only [Act.put, List.setIfInBounds_toArray, List.set_cons_zero, List.set_cons_succ]
        refine wpAnyH_take (i := 4) (oi := ⟨some 77, _, _, _, _, _⟩) (v := .int .i64 ((d : Int) - 1)) rfl (by kernel_rfl) (by kernel_rfl) (by kernel_rfl) (fun _ _ _ h => h) (Or.inl ⟨by rfl, fun w' hS => by (have hwr : IntKind.i64.wrap ((d : Int) - 1) = (d : Int) - 1 := (by rw [IntKind.wrap_i64]; omega)); go_simp; try rw [hwr]⟩) trivial ?_
        try simp only [Act.put, List.setIfInBounds_toArray, List.set_cons_zero, List.set_cons_succ]
        refine wpAnyH_ready (rs := [1, 5]) (by kernel_rfl) (by simp) ?_
        refine AllReadyH.cons (o := ⟨some 74, .load _ _, _, _, _, _⟩) rfl (fun K hK => ?_) (AllReadyH.cons (o := ⟨some 78, .call ⟨_, _, _⟩, _, _, _, _⟩) rfl (fun K hK => ?_) AllReadyH.nil)
        · skip
          go_simp
          refine hK.out _ _ trivial (fun _ => ?_)
          clear hK K
          try simp only [Act.put, List.setIfInBounds_toArray, List.set_cons_zero, List.set_cons_succ]
          refine wpAnyH_ready (rs := [5]) (by kernel_rfl) (by simp) ?_
          refine AllReadyH.cons (o := ⟨some 78, .call ⟨_, _, _⟩, _, _, _, _⟩) rfl (fun K hK => ?_) AllReadyH.nil
          go_simp
          go_at_call 12
          try rw [HJ.out]
          refine HCALL.out.mono ?_
          rintro e' w3 ⟨x, cs3, k3, rfl, hnew, ht3, hg3, hax, hdx, hnx, hkx⟩
          refine hK.out _ _ trivial (fun _ => ?_)
          clear hK K
          try simp only [Act.put, List.setIfInBounds_toArray, List.set_cons_zero, List.set_cons_succ]
          obtain ⟨kk2, i2, l2, s2, t2, e2, xs2⟩ := x
          obtain ⟨A3, c3', rfl⟩ := CRdS_cells hnew
          simp only [contCells]
          have HST3 := Lib.hid ((HST9.out.below (below_drewN_self wr _ 1)).go ht3 hg3)
          have HNEW := Lib.hid hnew; have HAX := Lib.hid hax; have HDX := Lib.hid hdx; have HNX := Lib.hid hnx; have HKX := Lib.hid hkx
          have hown3 := (HOWN.out.below (below_drewN_self wr _ 1)).grownb hg3 (fun y hy e => by have := HST9.out.2.2.2.2; omega) (by have := HST9.out.2.2.2.2; omega)
          have HSZ3 := Lib.hid (show w1.heap.size + 1 ≤ w3.heap.size from by have := HST9.out.2.2.1.2.2; have h := hg3.size; have h2 : wr.drew.heap.size = wr.heap.size := rfl; omega)
          have HOWN3 := Lib.hid hown3
          have u0 := HST3.out.2.2.1.1 0 _ rfl; have u6 := HST3.out.2.2.1.1 6 _ rfl; have uf := HST3.out.2.2.1.2.1
          clear hnew ht3 hg3 hax hdx hnx hkx hown3
          refine wpAnyH_ready (rs := [6]) (by kernel_rfl) (by simp) ?_
          refine AllReadyH.cons (o := ⟨some 79, .buildSlice _ _ _, _, _, _, _⟩) rfl (fun K hK => ?_) AllReadyH.nil
          go_simp
          refine hK.out _ _ trivial (fun _ => ?_)
          clear hK K
          try simp only [Act.put, List.setIfInBounds_toArray, List.set_cons_zero, List.set_cons_succ]
          obtain ⟨w4, hw4⟩ : ∃ w4, w3.alloc (.cells #[.int .i64 kk2, .string i2, .string l2, .int .i64 s2, .int .i64 t2, .int .i64 e2, .slice A3 xs2.length c3'] 31) = w4 := ⟨_, rfl⟩
          have hnews := cell7_new w3 31 kk2 i2 l2 s2 t2 e2 A3 xs2.length c3'
          obtain ⟨hb4, hg4, -⟩ := box7 hw4
          rw [hw4] at hnews ⊢
          have HNEWS := Lib.hid hnews; have HW4 := Lib.hid hg4; have HB4 := Lib.hid hb4
          obtain ⟨css, o1, o2, o3'⟩ := HOWN3.out.below hb4
          have HO1 := Lib.hid o1; have HO2 := Lib.hid o2; have HO3 := Lib.hid o3'
          have HST4 := Lib.hid (HST3.out.below hb4)
          clear hnews hb4 hg4 o1 o2 o3' u0 u6 uf hw4
          have u0 := HST4.out.2.2.1.1 0 _ rfl; have u6 := HST4.out.2.2.1.1 6 _ rfl; have uf := HST4.out.2.2.1.2.1
          refine wpAnyH_ready (rs := [7]) (by kernel_rfl) (by simp) ?_
          refine AllReadyH.cons (o := ⟨some 80, .call ⟨_, _, _⟩, _, _, _, _⟩) rfl (fun K hK => ?_) AllReadyH.nil
          refine step_append_lies w4 rfl (.tmp 74) (.tmp 79) 29 rfl (w1.heap.size + 1) 31 i0 _ 7 88 Tryz.underlying29 HI0.out HZ0.out HZ1.out HZ2.out rfl (by decide) v ys.length css.flatten (by simp [Act.eval, Act.put]) HO1.out ⟨w3.heap.size, 0, none⟩ 1 1 (contCells kk2 i2 l2 s2 t2 e2 A3 xs2.length c3') (by simp [Act.eval, Act.put]) rfl HNEWS.out (CRdS_one HNEW.out) (by decide) (by have := HYL.out; have := HN3.out; unfold maxLen; omega) (by have := HYL.out; have := HN3.out; omega) (by have := HW4.out; have := HSZ3.out; omega) _ rfl ?_
          intro g5 cap w5 hown' hgrow hat hltv
          refine hK.out _ _ trivial (fun _ => ?_)
          clear hK K
          try simp only [Act.put, List.setIfInBounds_toArray, List.set_cons_zero, List.set_cons_succ]
          have HOWN5 := Lib.hid hown'; have HGROW := Lib.hid hgrow; have HAT := Lib.hid hat
          have HROWS := Lib.hid (show ∀ q, v.ownBlock = some q → w1.heap.size < q from fun q hq => by have := (HOWN.out.lt q hq).1; omega)
          have HST5 := Lib.hid (HST4.out.row hgrow HROWS.out)
          clear hown' hgrow hat hltv u0 u6 uf
          have u0 := HST5.out.2.2.1.1 0 _ rfl; have u6 := HST5.out.2.2.1.1 6 _ rfl; have uf := HST5.out.2.2.1.2.1
          refine wpAnyH_take (i := 8) (oi := ⟨some 81, _, _, _, _, _⟩) (v := .pointer (some ⟨w1.heap.size, 6, none⟩)) rfl (by kernel_rfl) (by kernel_rfl) (by kernel_rfl) (fun _ _ _ h => h) (Or.inl ⟨by rfl, fun w' hS => by go_simp⟩) trivial ?_
          try simp only [Act.put, List.setIfInBounds_toArray, List.set_cons_zero, List.set_cons_succ]
          refine wpAnyH_ready (rs := [9]) (by kernel_rfl) (by simp) ?_
          refine AllReadyH.cons (o := ⟨none, .store _ _ _, _, _, _, _⟩) rfl (fun K hK => ?_) AllReadyH.nil
          go_simp
          refine hK.out _ _ trivial (fun _ => ?_)
          clear hK K
          try simp only [Act.put, List.setIfInBounds_toArray, List.set_cons_zero, List.set_cons_succ]
          refine wpAnyH_done (by kernel_rfl) ?_ _
          clear u0 u6 uf x0 x1 x2 x3 x4 x5 x6 xf
          have hx4 : CRdS w4 (fun y => w1.heap.size + 1 ≤ y ∧ y < w4.heap.size ∧ v.ownBlock ≠ some y) (.mk kk2 i2 l2 s2 t2 e2 xs2) (contCells kk2 i2 l2 s2 t2 e2 A3 xs2.length c3') :=
            CRdS_mono (fun y hy => ⟨by have h := HST9.out.2.2.1.2.2; have h1 := hy.1; have h2 : wr.drew.heap.size = wr.heap.size := rfl; omega, by have := hy.2; have := HW4.out; omega, fun h => by
              have h0 := (HOWN.out.lt y h).2; have h1 := hy.1; have h2 : wr.drew.heap.size = wr.heap.size := rfl; omega⟩) (fun y o u hy hu => (HB4.out.cell (p := ⟨y, o, none⟩) (by exact hy.2)).trans hu) _ _ HNEW.out
          have hown5 := OwnsC.app (w := w4) HO1.out HO2.out HO3.out hx4 HOWN5.out HGROW.out (fun q hq => by
            have hq2 : q = g5 := (Option.some.inj hq).symm
            subst hq2
            rcases HAT.out with h | h
            · exact .inl h
            · exact .inr (by omega))
          have hown6 := hown5.grownb (grown_one w5 w1.heap.size 6 (.slice (some ⟨g5, 0, none⟩) (ys.length + 1) cap)) (fun y hy e => by omega) (by omega)
          have hst6 := HST5.out.set_ (j := 6) (by simp) (.slice (some ⟨g5, 0, none⟩) (ys.length + 1) cap)
          simp only [List.set_cons_zero, List.set_cons_succ] at hst6
          have hrel6 : MakeRel w B b w.heap.size w1.heap.size (w1.heap.size + 1) xs d k (m + 1) 2 id (1 + fs) (1 + ft) (1 + fl) (w5.setCell ⟨w1.heap.size, 6, none⟩ (.slice (some ⟨g5, 0, none⟩) (ys.length + 1) cap)) := by
            refine ⟨_, ys ++ [.mk kk2 i2 l2 s2 t2 e2 xs2], k3, by rw [List.length_append, HYL.out]; rfl, hst6, hown6, fun y hy => ?_, ?_, ?_, ?_⟩
            · rcases List.mem_append.1 hy with h | h
              · exact HALL.out y h
              · simp only [List.mem_singleton] at h; subst h; exact HAX.out
            · have h1 := HDEP.out; have h2 := HDX.out; have h3 := HD1.out
              have := depthL_snoc (.mk kk2 i2 l2 s2 t2 e2 xs2) ys ((d : Int) - 1) (by omega) (by omega)
              omega
            · rw [nodesL_app, Nat.succ_mul]; have h1 := HNOD.out; have h2 := HNX.out; omega
            · rw [Nat.succ_mul]; have h1 := HKR.out; have h2 := HKX.out; omega
          have HREL6 := Lib.hid hrel6
          clear hrel6 hst6 hown6 hown5 hx4
          go_wp2
          go_roundw
          case rel => exact ⟨m + 1, by omega, by go_num, HREL6⟩
          case measure => simp [intOf]; omega
        · skip
          go_simp
          go_at_call 12
          try rw [HJ.out]
          refine HCALL.out.mono ?_
          rintro e' w3 ⟨x, cs3, k3, rfl, hnew, ht3, hg3, hax, hdx, hnx, hkx⟩
          refine hK.out _ _ trivial (fun _ => ?_)
          clear hK K
          try simp only [Act.put, List.setIfInBounds_toArray, List.set_cons_zero, List.set_cons_succ]
          obtain ⟨kk2, i2, l2, s2, t2, e2, xs2⟩ := x
          obtain ⟨A3, c3', rfl⟩ := CRdS_cells hnew
          simp only [contCells]
          have HST3 := Lib.hid ((HST9.out.below (below_drewN_self wr _ 1)).go ht3 hg3)
          have HNEW := Lib.hid hnew; have HAX := Lib.hid hax; have HDX := Lib.hid hdx; have HNX := Lib.hid hnx; have HKX := Lib.hid hkx
          have hown3 := (HOWN.out.below (below_drewN_self wr _ 1)).grownb hg3 (fun y hy e => by have := HST9.out.2.2.2.2; omega) (by have := HST9.out.2.2.2.2; omega)
          have HSZ3 := Lib.hid (show w1.heap.size + 1 ≤ w3.heap.size from by have := HST9.out.2.2.1.2.2; have h := hg3.size; have h2 : wr.drew.heap.size = wr.heap.size := rfl; omega)
          have HOWN3 := Lib.hid hown3
          have u0 := HST3.out.2.2.1.1 0 _ rfl; have u6 := HST3.out.2.2.1.1 6 _ rfl; have uf := HST3.out.2.2.1.2.1
          clear hnew ht3 hg3 hax hdx hnx hkx hown3
          refine wpAnyH_ready (rs := [1, 6]) (by kernel_rfl) (by simp) ?_
          refine AllReadyH.cons (o := ⟨some 74, .load _ _, _, _, _, _⟩) rfl (fun K hK => ?_) (AllReadyH.cons (o := ⟨some 79, .buildSlice _ _ _, _, _, _, _⟩) rfl (fun K hK => ?_) AllReadyH.nil)
          · skip
            go_simp
            refine hK.out _ _ trivial (fun _ => ?_)
            clear hK K
            try simp only [Act.put, List.setIfInBounds_toArray, List.set_cons_zero, List.set_cons_succ]
            refine wpAnyH_ready (rs := [6]) (by kernel_rfl) (by simp) ?_
            refine AllReadyH.cons (o := ⟨some 79, .buildSlice _ _ _, _, _, _, _⟩) rfl (fun K hK => ?_) AllReadyH.nil
            go_simp
            refine hK.out _ _ trivial (fun _ => ?_)
            clear hK K
            try simp only [Act.put, List.setIfInBounds_toArray, List.set_cons_zero, List.set_cons_succ]
            obtain ⟨w4, hw4⟩ : ∃ w4, w3.alloc (.cells #[.int .i64 kk2, .string i2, .string l2, .int .i64 s2, .int .i64 t2, .int .i64 e2, .slice A3 xs2.length c3'] 31) = w4 := ⟨_, rfl⟩
            have hnews := cell7_new w3 31 kk2 i2 l2 s2 t2 e2 A3 xs2.length c3'
            obtain ⟨hb4, hg4, -⟩ := box7 hw4
            rw [hw4] at hnews ⊢
            have HNEWS := Lib.hid hnews; have HW4 := Lib.hid hg4; have HB4 := Lib.hid hb4
            obtain ⟨css, o1, o2, o3'⟩ := HOWN3.out.below hb4
            have HO1 := Lib.hid o1; have HO2 := Lib.hid o2; have HO3 := Lib.hid o3'
            have HST4 := Lib.hid (HST3.out.below hb4)
            clear hnews hb4 hg4 o1 o2 o3' u0 u6 uf hw4
            have u0 := HST4.out.2.2.1.1 0 _ rfl; have u6 := HST4.out.2.2.1.1 6 _ rfl; have uf := HST4.out.2.2.1.2.1
            refine wpAnyH_ready (rs := [7]) (by kernel_rfl) (by simp) ?_
            refine AllReadyH.cons (o := ⟨some 80, .call ⟨_, _, _⟩, _, _, _, _⟩) rfl (fun K hK => ?_) AllReadyH.nil
            refine step_append_lies w4 rfl (.tmp 74) (.tmp 79) 29 rfl (w1.heap.size + 1) 31 i0 _ 7 88 Tryz.underlying29 HI0.out HZ0.out HZ1.out HZ2.out rfl (by decide) v ys.length css.flatten (by simp [Act.eval, Act.put]) HO1.out ⟨w3.heap.size, 0, none⟩ 1 1 (contCells kk2 i2 l2 s2 t2 e2 A3 xs2.length c3') (by simp [Act.eval, Act.put]) rfl HNEWS.out (CRdS_one HNEW.out) (by decide) (by have := HYL.out; have := HN3.out; unfold maxLen; omega) (by have := HYL.out; have := HN3.out; omega) (by have := HW4.out; have := HSZ3.out; omega) _ rfl ?_
            intro g5 cap w5 hown' hgrow hat hltv
            refine hK.out _ _ trivial (fun _ => ?_)
            clear hK K
            try simp only [Act.put, List.setIfInBounds_toArray, List.set_cons_zero, List.set_cons_succ]
            have HOWN5 := Lib.hid hown'; have HGROW := Lib.hid hgrow; have HAT := Lib.hid hat
            have HROWS := Lib.hid (show ∀ q, v.ownBlock = some q → w1.heap.size < q from fun q hq => by have := (HOWN.out.lt q hq).1; omega)
            have HST5 := Lib.hid (HST4.out.row hgrow HROWS.out)
            clear hown' hgrow hat hltv u0 u6 uf
            have u0 := HST5.out.2.2.1.1 0 _ rfl; have u6 := HST5.out.2.2.1.1 6 _ rfl; have uf := HST5.out.2.2.1.2.1
            refine wpAnyH_take (i := 8) (oi := ⟨some 81, _, _, _, _, _⟩) (v := .pointer (some ⟨w1.heap.size, 6, none⟩)) rfl (by kernel_rfl) (by kernel_rfl) (by kernel_rfl) (fun _ _ _ h => h) (Or.inl ⟨by rfl, fun w' hS => by go_simp⟩) trivial ?_
            try simp only [Act.put, List.setIfInBounds_toArray, List.set_cons_zero, List.set_cons_succ]
            refine wpAnyH_ready (rs := [9]) (by kernel_rfl) (by simp) ?_
            refine AllReadyH.cons (o := ⟨none, .store _ _ _, _, _, _, _⟩) rfl (fun K hK => ?_) AllReadyH.nil
            go_simp
            refine hK.out _ _ trivial (fun _ => ?_)
            clear hK K
            try simp only [Act.put, List.setIfInBounds_toArray, List.set_cons_zero, List.set_cons_succ]
            refine wpAnyH_done (by kernel_rfl) ?_ _
            clear u0 u6 uf x0 x1 x2 x3 x4 x5 x6 xf
            have hx4 : CRdS w4 (fun y => w1.heap.size + 1 ≤ y ∧ y < w4.heap.size ∧ v.ownBlock ≠ some y) (.mk kk2 i2 l2 s2 t2 e2 xs2) (contCells kk2 i2 l2 s2 t2 e2 A3 xs2.length c3') :=
              CRdS_mono (fun y hy => ⟨by have h := HST9.out.2.2.1.2.2; have h1 := hy.1; have h2 : wr.drew.heap.size = wr.heap.size := rfl; omega, by have := hy.2; have := HW4.out; omega, fun h => by
                have h0 := (HOWN.out.lt y h).2; have h1 := hy.1; have h2 : wr.drew.heap.size = wr.heap.size := rfl; omega⟩) (fun y o u hy hu => (HB4.out.cell (p := ⟨y, o, none⟩) (by exact hy.2)).trans hu) _ _ HNEW.out
            have hown5 := OwnsC.app (w := w4) HO1.out HO2.out HO3.out hx4 HOWN5.out HGROW.out (fun q hq => by
              have hq2 : q = g5 := (Option.some.inj hq).symm
              subst hq2
              rcases HAT.out with h | h
              · exact .inl h
              · exact .inr (by omega))
            have hown6 := hown5.grownb (grown_one w5 w1.heap.size 6 (.slice (some ⟨g5, 0, none⟩) (ys.length + 1) cap)) (fun y hy e => by omega) (by omega)
            have hst6 := HST5.out.set_ (j := 6) (by simp) (.slice (some ⟨g5, 0, none⟩) (ys.length + 1) cap)
            simp only [List.set_cons_zero, List.set_cons_succ] at hst6
            have hrel6 : MakeRel w B b w.heap.size w1.heap.size (w1.heap.size + 1) xs d k (m + 1) 2 id (1 + fs) (1 + ft) (1 + fl) (w5.setCell ⟨w1.heap.size, 6, none⟩ (.slice (some ⟨g5, 0, none⟩) (ys.length + 1) cap)) := by
              refine ⟨_, ys ++ [.mk kk2 i2 l2 s2 t2 e2 xs2], k3, by rw [List.length_append, HYL.out]; rfl, hst6, hown6, fun y hy => ?_, ?_, ?_, ?_⟩
              · rcases List.mem_append.1 hy with h | h
                · exact HALL.out y h
                · simp only [List.mem_singleton] at h; subst h; exact HAX.out
              · have h1 := HDEP.out; have h2 := HDX.out; have h3 := HD1.out
                have := depthL_snoc (.mk kk2 i2 l2 s2 t2 e2 xs2) ys ((d : Int) - 1) (by omega) (by omega)
                omega
              · rw [nodesL_app, Nat.succ_mul]; have h1 := HNOD.out; have h2 := HNX.out; omega
              · rw [Nat.succ_mul]; have h1 := HKR.out; have h2 := HKX.out; omega
            have HREL6 := Lib.hid hrel6
            clear hrel6 hst6 hown6 hown5 hx4
            go_wp2
            go_roundw
            case rel => exact ⟨m + 1, by omega, by go_num, HREL6⟩
            case measure => simp [intOf]; omega
          · skip
            go_simp
            refine hK.out _ _ trivial (fun _ => ?_)
            clear hK K
            try simp only [Act.put, List.setIfInBounds_toArray, List.set_cons_zero, List.set_cons_succ]
            obtain ⟨w4, hw4⟩ : ∃ w4, w3.alloc (.cells #[.int .i64 kk2, .string i2, .string l2, .int .i64 s2, .int .i64 t2, .int .i64 e2, .slice A3 xs2.length c3'] 31) = w4 := ⟨_, rfl⟩
            have hnews := cell7_new w3 31 kk2 i2 l2 s2 t2 e2 A3 xs2.length c3'
            obtain ⟨hb4, hg4, -⟩ := box7 hw4
            rw [hw4] at hnews ⊢
            have HNEWS := Lib.hid hnews; have HW4 := Lib.hid hg4; have HB4 := Lib.hid hb4
            obtain ⟨css, o1, o2, o3'⟩ := HOWN3.out.below hb4
            have HO1 := Lib.hid o1; have HO2 := Lib.hid o2; have HO3 := Lib.hid o3'
            have HST4 := Lib.hid (HST3.out.below hb4)
            clear hnews hb4 hg4 o1 o2 o3' u0 u6 uf hw4
            have u0 := HST4.out.2.2.1.1 0 _ rfl; have u6 := HST4.out.2.2.1.1 6 _ rfl; have uf := HST4.out.2.2.1.2.1
            refine wpAnyH_ready (rs := [1]) (by kernel_rfl) (by simp) ?_
            refine AllReadyH.cons (o := ⟨some 74, .load _ _, _, _, _, _⟩) rfl (fun K hK => ?_) AllReadyH.nil
            go_simp
            refine hK.out _ _ trivial (fun _ => ?_)
            clear hK K
            try simp only [Act.put, List.setIfInBounds_toArray, List.set_cons_zero, List.set_cons_succ]
            refine wpAnyH_ready (rs := [7]) (by kernel_rfl) (by simp) ?_
            refine AllReadyH.cons (o := ⟨some 80, .call ⟨_, _, _⟩, _, _, _, _⟩) rfl (fun K hK => ?_) AllReadyH.nil
            refine step_append_lies w4 rfl (.tmp 74) (.tmp 79) 29 rfl (w1.heap.size + 1) 31 i0 _ 7 88 Tryz.underlying29 HI0.out HZ0.out HZ1.out HZ2.out rfl (by decide) v ys.length css.flatten (by simp [Act.eval, Act.put]) HO1.out ⟨w3.heap.size, 0, none⟩ 1 1 (contCells kk2 i2 l2 s2 t2 e2 A3 xs2.length c3') (by simp [Act.eval, Act.put]) rfl HNEWS.out (CRdS_one HNEW.out) (by decide) (by have := HYL.out; have := HN3.out; unfold maxLen; omega) (by have := HYL.out; have := HN3.out; omega) (by have := HW4.out; have := HSZ3.out; omega) _ rfl ?_
            intro g5 cap w5 hown' hgrow hat hltv
            refine hK.out _ _ trivial (fun _ => ?_)
            clear hK K
            try simp only [Act.put, List.setIfInBounds_toArray, List.set_cons_zero, List.set_cons_succ]
            have HOWN5 := Lib.hid hown'; have HGROW := Lib.hid hgrow; have HAT := Lib.hid hat
            have HROWS := Lib.hid (show ∀ q, v.ownBlock = some q → w1.heap.size < q from fun q hq => by have := (HOWN.out.lt q hq).1; omega)
            have HST5 := Lib.hid (HST4.out.row hgrow HROWS.out)
            clear hown' hgrow hat hltv u0 u6 uf
            have u0 := HST5.out.2.2.1.1 0 _ rfl; have u6 := HST5.out.2.2.1.1 6 _ rfl; have uf := HST5.out.2.2.1.2.1
            refine wpAnyH_take (i := 8) (oi := ⟨some 81, _, _, _, _, _⟩) (v := .pointer (some ⟨w1.heap.size, 6, none⟩)) rfl (by kernel_rfl) (by kernel_rfl) (by kernel_rfl) (fun _ _ _ h => h) (Or.inl ⟨by rfl, fun w' hS => by go_simp⟩) trivial ?_
            try simp only [Act.put, List.setIfInBounds_toArray, List.set_cons_zero, List.set_cons_succ]
            refine wpAnyH_ready (rs := [9]) (by kernel_rfl) (by simp) ?_
            refine AllReadyH.cons (o := ⟨none, .store _ _ _, _, _, _, _⟩) rfl (fun K hK => ?_) AllReadyH.nil
            go_simp
            refine hK.out _ _ trivial (fun _ => ?_)
            clear hK K
            try simp only [Act.put, List.setIfInBounds_toArray, List.set_cons_zero, List.set_cons_succ]
            refine wpAnyH_done (by kernel_rfl) ?_ _
            clear u0 u6 uf x0 x1 x2 x3 x4 x5 x6 xf
            have hx4 : CRdS w4 (fun y => w1.heap.size + 1 ≤ y ∧ y < w4.heap.size ∧ v.ownBlock ≠ some y) (.mk kk2 i2 l2 s2 t2 e2 xs2) (contCells kk2 i2 l2 s2 t2 e2 A3 xs2.length c3') :=
              CRdS_mono (fun y hy => ⟨by have h := HST9.out.2.2.1.2.2; have h1 := hy.1; have h2 : wr.drew.heap.size = wr.heap.size := rfl; omega, by have := hy.2; have := HW4.out; omega, fun h => by
                have h0 := (HOWN.out.lt y h).2; have h1 := hy.1; have h2 : wr.drew.heap.size = wr.heap.size := rfl; omega⟩) (fun y o u hy hu => (HB4.out.cell (p := ⟨y, o, none⟩) (by exact hy.2)).trans hu) _ _ HNEW.out
            have hown5 := OwnsC.app (w := w4) HO1.out HO2.out HO3.out hx4 HOWN5.out HGROW.out (fun q hq => by
              have hq2 : q = g5 := (Option.some.inj hq).symm
              subst hq2
              rcases HAT.out with h | h
              · exact .inl h
              · exact .inr (by omega))
            have hown6 := hown5.grownb (grown_one w5 w1.heap.size 6 (.slice (some ⟨g5, 0, none⟩) (ys.length + 1) cap)) (fun y hy e => by omega) (by omega)
            have hst6 := HST5.out.set_ (j := 6) (by simp) (.slice (some ⟨g5, 0, none⟩) (ys.length + 1) cap)
            simp only [List.set_cons_zero, List.set_cons_succ] at hst6
            have hrel6 : MakeRel w B b w.heap.size w1.heap.size (w1.heap.size + 1) xs d k (m + 1) 2 id (1 + fs) (1 + ft) (1 + fl) (w5.setCell ⟨w1.heap.size, 6, none⟩ (.slice (some ⟨g5, 0, none⟩) (ys.length + 1) cap)) := by
              refine ⟨_, ys ++ [.mk kk2 i2 l2 s2 t2 e2 xs2], k3, by rw [List.length_append, HYL.out]; rfl, hst6, hown6, fun y hy => ?_, ?_, ?_, ?_⟩
              · rcases List.mem_append.1 hy with h | h
                · exact HALL.out y h
                · simp only [List.mem_singleton] at h; subst h; exact HAX.out
              · have h1 := HDEP.out; have h2 := HDX.out; have h3 := HD1.out
                have := depthL_snoc (.mk kk2 i2 l2 s2 t2 e2 xs2) ys ((d : Int) - 1) (by omega) (by omega)
                omega
              · rw [nodesL_app, Nat.succ_mul]; have h1 := HNOD.out; have h2 := HNX.out; omega
              · rw [Nat.succ_mul]; have h1 := HKR.out; have h2 := HKX.out; omega
            have HREL6 := Lib.hid hrel6
            clear hrel6 hst6 hown6 hown5 hx4
            go_wp2
            go_roundw
            case rel => exact ⟨m + 1, by omega, by go_num, HREL6⟩
            case measure => simp [intOf]; omega
      · obtain rfl : m = 1 := by omega
        obtain ⟨A5, c5, rfl, hc51, hc52, hc53⟩ := HOWN.out.cs
        have HC51 := Lib.hid hc51; have HC52 := Lib.hid hc52; have HC53 := Lib.hid hc53; clear hc51 hc52 hc53
        have y0 := HST9.out.2.2.2.1.1 0 _ rfl; have y1 := HST9.out.2.2.2.1.1 1 _ rfl; have y2 := HST9.out.2.2.2.1.1 2 _ rfl; have y3 := HST9.out.2.2.2.1.1 3 _ rfl; have y4 := HST9.out.2.2.2.1.1 4 _ rfl; have y5 := HST9.out.2.2.2.1.1 5 _ rfl; have y6 := HST9.out.2.2.2.1.1 6 _ rfl; have yf := HST9.out.2.2.2.1.2.1
        obtain ⟨q1, q2⟩ := fin_tape (.int .i64 2) (.string id) (.string ByteArray.empty) (.int .i64 (1 + fs)) (.int .i64 (1 + ft)) (.int .i64 (1 + fl)) (.slice A5 ys.length c5) HST9.out.1 HST9.out.2.1 (show w.heap.size ≠ b by omega) (show B ≤ w.heap.size by omega) (Nat.le_refl _)
        have HQ1 := Lib.hid q1; have HQ2 := Lib.hid q2; clear q1 q2
        go_wp2
        refine bodyPost_ret (v := .agg #[.int .i64 2, .string id, .string ByteArray.empty, .int .i64 (1 + fs), .int .i64 (1 + ft), .int .i64 (1 + fl), .slice A5 ys.length c5]) (by simp [results, Tryz.results12, go_sem, y0, y1, y2, y3, y4, y5, y6]) rfl ⟨.mk 2 id ByteArray.empty (1 + fs) (1 + ft) (1 + fl) ys, contCells 2 id ByteArray.empty (1 + fs) (1 + ft) (1 + fl) A5 ys.length c5, _, rfl, ?_, HQ1.out, HQ2.out, ?_, ?_, ?_, ?_⟩
        · unfold NewC
          rw [CRdS, fin_size]
          refine ⟨A5, c5, rfl, ⟨by unfold okInt; omega, by unfold maxLen; have := HMid.out.2; omega, by unfold maxLen; decide, by unfold okInt; omega, by unfold okInt; omega, by unfold okInt; omega⟩, HC51.out, HC52.out, fun hn => ?_⟩
          obtain ⟨bb, o, hA, hbb, hcs⟩ := HC53.out hn
          have hs1 := HSZ1.out
          exact ⟨bb, o, hA, ⟨by omega, hbb.2⟩, CsAtS_mono (fun y hy => ⟨by have := hy.1; omega, hy.2⟩) (fun y o u hy hu => fin_cells _ _ _ _ _ _ _ y o u (by have := hy.1; omega) hu) bb hbb ys o hcs⟩
        · refine AllOk_mk.2 ⟨?_, HALL.out⟩
          have h1 := HMid.out.1; have h2 := HYL.out; have h3 := HN3.out
          simp [ownB, slots2, noneB, withinB, h1, h2]
          try decide +kernel
          try omega
        · have h1 := HDEP.out; rw [depthC, if_neg (by decide)]; exact h1
        · have h1 := HNOD.out; have h2 := HN3.out; have h3 := H44.out; have h4 := H41.out; have h5 : 1 * 4 ^ (d - 1) ≤ 3 * 4 ^ (d - 1) := Nat.mul_le_mul_right _ h2.2
          rw [nodesC]; omega
        · have h1 := HKR.out; have h2 := HN3.out; have h3 := H44.out; have h4 := H41.out; have h5 : 1 * (6 * 4 ^ (d - 1)) ≤ 3 * (6 * 4 ^ (d - 1)) := Nat.mul_le_mul_right _ h2.2
          omega
  · go_upto_region 5 with fail
    try simp only [Int.ofNat_one, Int.Nat.cast_ofNat_Int]
    obtain ⟨w2, hw2⟩ : ∃ w2, w1.alloc (.cells #[.int .i64 3, .string ByteArray.empty, .string ByteArray.empty, .int .i64 0, .int .i64 0, .int .i64 0, .slice none 0 0] 31) = w2 := ⟨_, rfl⟩
    obtain ⟨hb2, hg2, -⟩ := box7 hw2
    have hbox2 : BoxL w2 w1.heap.size [.int .i64 3, .string ByteArray.empty, .string ByteArray.empty, .int .i64 0, .int .i64 0, .int .i64 0, .slice none 0 0] := by
      refine ⟨fun j u hu => ?_, box7f hw2, by omega⟩
      rw [← hw2, World.cell?_alloc_at _ _ _ _ rfl]
      simpa using hu
    have HST0 : Hid (StT w B b w.heap.size w1.heap.size xs w2 (k + 1) [.int .i64 3, .string ByteArray.empty, .string ByteArray.empty, .int .i64 0, .int .i64 0, .int .i64 0, .slice none 0 0]) := Lib.hid ⟨HT1.out.kept (grown_none hb2) (fun e => by cases e) (fun g hg => by cases hg), grown_below HG1.out hb2, hbox2, HB1.out.kept (grown_none hb2) (fun e => by cases e), hBb, hbw, Nat.le_refl _, HSZ1.out⟩
    rw [hw2]
    have HG2 := Lib.hid hg2
    clear hw2 hb2 hg2 hbox2
    go_wp2_with fail
    have hbx : Below w2.heap.size w2 (w2.alloc (.cells #[.string ⟨#[97]⟩, .string ⟨#[114, 49]⟩, .string ⟨#[120, 46, 121, 45, 122]⟩] 9)) := (Below.refl _ _).alloc (Nat.le_refl _) _
    have hstx := HST0.out.below hbx
    refine (One_any xs (k + 1) B b idsL w2.heap.size 0 idsL.length _ (by have := HKB.out; have := H4.out; omega) hstx.1 (by decide) (by decide) (Nat.le_refl _) (by unfold maxLen; decide) (by have := HST0.out.1.choose_spec.choose_spec.2.2.2.2.2; omega) (fun i y hy => cells_new _ _ _ i _ (by simp only [idsL] at hy; rcases i with _ | _ | _ | i <;> simp at hy ⊢ <;> exact hy))).mono ?_
    rintro e' w3 ⟨rfl, htq, hgq⟩
    have hmem : idsL.getD (foldI (tapeI xs (k + 1)) idsL.length).toNat ⟨#[]⟩ ∈ idsL := getD_mem (by have := @foldI_range (tapeI xs (k + 1)) idsL.length (by decide); omega)
    obtain ⟨id, hid⟩ : ∃ y, idsL.getD (foldI (tapeI xs (k + 1)) idsL.length).toNat ⟨#[]⟩ = y := ⟨_, rfl⟩
    rw [hid] at hmem ⊢
    have HMid := Lib.hid (ids_ok id hmem); have HST3 := Lib.hid (hstx.go htq hgq)
    clear hbx hstx htq hgq hmem hid
    have x0 := HST3.out.2.2.1.1 0 _ rfl; have x1 := HST3.out.2.2.1.1 1 _ rfl; have x2 := HST3.out.2.2.1.1 2 _ rfl; have x3 := HST3.out.2.2.1.1 3 _ rfl; have x4 := HST3.out.2.2.1.1 4 _ rfl; have x5 := HST3.out.2.2.1.1 5 _ rfl; have x6 := HST3.out.2.2.1.1 6 _ rfl; have xf := HST3.out.2.2.1.2.1
    go_upto_region 22 with fail
    clear x0 x1 x2 x3 x4 x5 x6 xf
    have HST4 := Lib.hid (HST3.out.set_ (j := 1) (by simp) (.string id))
    simp only [List.set_cons_zero, List.set_cons_succ] at HST4
    obtain ⟨w4, hw4⟩ : ∃ w4, w3.setCell ⟨w1.heap.size, 1, none⟩ (.string id) = w4 := ⟨_, rfl⟩
    rw [hw4] at HST4 ⊢
    clear hw4
    have hn3 : 1 ≤ 1 ∧ 1 ≤ 3 := by omega
    have HN3 := Lib.hid (show 1 ≤ 1 ∧ 1 ≤ 3 by omega)
    have HD1 := Lib.hid (show 1 ≤ d by omega)
    have h44 : 4 ^ d = 4 * 4 ^ (d - 1) := by rw [← Nat.pow_succ', show (d - 1).succ = d by omega]
    have h41 : 1 ≤ 4 ^ (d - 1) := Nat.one_le_pow _ _ (by decide)
    have H44 := Lib.hid h44; have H41 := Lib.hid h41; clear h44 h41
    have hrel0 : MakeRel w B b w.heap.size w1.heap.size (w1.heap.size + 1) xs d k 0 3 id 0 0 0 w4 := by
      refine ⟨.slice none 0 0, [], _, rfl, HST4.out, OwnsC.nil_ _ _ _ _, (fun y hy => by cases hy), by rw [depthL]; have := HD1.out; omega, by rw [nodesL]; omega, by omega⟩
    have HREL0 := Lib.hid hrel0; clear hrel0 hn3
    go_wp2_with fail
    go_loopw [8] (fun i wr => ∃ m : Nat, m ≤ 1 ∧ i = .int .i64 m ∧ Hid (MakeRel w B b w.heap.size w1.heap.size (w1.heap.size + 1) xs d k m 3 id 0 0 0 wr)) (fun i _ => 1 - (intOf i).toNat)
    case atStart => exact ⟨0, Nat.zero_le _, rfl, HREL0⟩
    case round =>
      obtain ⟨m, hm, rfl, HR⟩ := hrel
      obtain ⟨v, ys, kr, hyl, hst, hown, hall, hdep, hnod, hkr⟩ := HR.out
      clear HR HREL0
      have HST9 := Lib.hid hst; have HOWN := Lib.hid hown; have HALL := Lib.hid hall; have HDEP := Lib.hid hdep; have HNOD := Lib.hid hnod; have HKR := Lib.hid hkr; have HYL := Lib.hid hyl
      clear hst hown hall hdep hnod hkr hyl
      have x0 := HST9.out.2.2.1.1 0 _ rfl; have x1 := HST9.out.2.2.1.1 1 _ rfl; have x2 := HST9.out.2.2.1.1 2 _ rfl; have x3 := HST9.out.2.2.1.1 3 _ rfl; have x4 := HST9.out.2.2.1.1 4 _ rfl; have x5 := HST9.out.2.2.1.1 5 _ rfl; have x6 := HST9.out.2.2.1.1 6 _ rfl; have xf := HST9.out.2.2.1.2.1
      by_cases hlt : m < 1
      · have i1 : (m : Int) < 1 := by omega
        have hm2 : m * (6 * 4 ^ (d - 1)) ≤ 2 * (6 * 4 ^ (d - 1)) := Nat.mul_le_mul_right _ (by have := HN3.out; omega)
        have hcall := HIH.out (by have := HD1.out; omega) kr wr.drew (by have := HKB.out; have := H44.out; have := H41.out; have := HKR.out; omega) (HST9.out.below (below_drewN_self wr _ 1)).1
        have HJ := Lib.hid (show (d : Int) - 1 = ((d - 1 : Nat) : Int) by have := HD1.out; omega)
        have HCALL := Lib.hid hcall; clear hcall hm2
        go_wp2_with fail
        refine wp_region_held_drew (S := fun _ => True) (by kernel_rfl) trivial (fun _ => ?_)
        refine wpAnyH_take (i := 0) (oi := ⟨some 73, _, _, _, _, _⟩) (v := .pointer (some ⟨w1.heap.size, 6, none⟩)) rfl (by kernel_rfl) (by kernel_rfl) (by kernel_rfl) (fun _ _ _ h => h) (Or.inl ⟨by rfl, fun w' hS => by go_simp⟩) trivial ?_
        try simp only [Act.put, List.setIfInBounds_toArray, List.set_cons_zero, List.set_cons_succ]
        refine wpAnyH_take (i := 2) (oi := ⟨some 75, _, _, _, _, _⟩) (v := .pointer (some ⟨b, 0, none⟩)) rfl (by kernel_rfl) (by kernel_rfl) (by kernel_rfl) (fun _ _ _ h => h) (Or.inl ⟨by rfl, fun w' hS => by go_simp⟩) trivial ?_
        try simp only [Act.put, List.setIfInBounds_toArray, List.set_cons_zero, List.set_cons_succ]
        refine wpAnyH_take (i := 3) (oi := ⟨some 76, _, _, _, _, _⟩) (v := .int .i64 d) rfl (by kernel_rfl) (by kernel_rfl) (by kernel_rfl) (fun _ _ _ h => h) (Or.inl ⟨by rfl, fun w' hS => by go_simp⟩) trivial ?_
        try simp only [Act.put, List.setIfInBounds_toArray, List.set_cons_zero, List.set_cons_succ]
        refine wpAnyH_take (i := 4) (oi := ⟨some 77, _, _, _, _, _⟩) (v := .int .i64 ((d : Int) - 1)) rfl (by kernel_rfl) (by kernel_rfl) (by kernel_rfl) (fun _ _ _ h => h) (Or.inl ⟨by rfl, fun w' hS => by (have hwr : IntKind.i64.wrap ((d : Int) - 1) = (d : Int) - 1 := (by rw [IntKind.wrap_i64]; omega)); go_simp; try rw [hwr]⟩) trivial ?_
        try simp only [Act.put, List.setIfInBounds_toArray, List.set_cons_zero, List.set_cons_succ]
        refine wpAnyH_ready (rs := [1, 5]) (by kernel_rfl) (by simp) ?_
        refine AllReadyH.cons (o := ⟨some 74, .load _ _, _, _, _, _⟩) rfl (fun K hK => ?_) (AllReadyH.cons (o := ⟨some 78, .call ⟨_, _, _⟩, _, _, _, _⟩) rfl (fun K hK => ?_) AllReadyH.nil)
        · skip
          go_simp
          refine hK.out _ _ trivial (fun _ => ?_)
          clear hK K
          try simp only [Act.put, List.setIfInBounds_toArray, List.set_cons_zero, List.set_cons_succ]
          refine wpAnyH_ready (rs := [5]) (by kernel_rfl) (by simp) ?_
          refine AllReadyH.cons (o := ⟨some 78, .call ⟨_, _, _⟩, _, _, _, _⟩) rfl (fun K hK => ?_) AllReadyH.nil
          go_simp
          go_at_call 12
          try rw [HJ.out]
          refine HCALL.out.mono ?_
          rintro e' w3 ⟨x, cs3, k3, rfl, hnew, ht3, hg3, hax, hdx, hnx, hkx⟩
          refine hK.out _ _ trivial (fun _ => ?_)
          clear hK K
          try simp only [Act.put, List.setIfInBounds_toArray, List.set_cons_zero, List.set_cons_succ]
          obtain ⟨kk2, i2, l2, s2, t2, e2, xs2⟩ := x
          obtain ⟨A3, c3', rfl⟩ := CRdS_cells hnew
          simp only [contCells]
          have HST3 := Lib.hid ((HST9.out.below (below_drewN_self wr _ 1)).go ht3 hg3)
          have HNEW := Lib.hid hnew; have HAX := Lib.hid hax; have HDX := Lib.hid hdx; have HNX := Lib.hid hnx; have HKX := Lib.hid hkx
          have hown3 := (HOWN.out.below (below_drewN_self wr _ 1)).grownb hg3 (fun y hy e => by have := HST9.out.2.2.2.2; omega) (by have := HST9.out.2.2.2.2; omega)
          have HSZ3 := Lib.hid (show w1.heap.size + 1 ≤ w3.heap.size from by have := HST9.out.2.2.1.2.2; have h := hg3.size; have h2 : wr.drew.heap.size = wr.heap.size := rfl; omega)
          have HOWN3 := Lib.hid hown3
          have u0 := HST3.out.2.2.1.1 0 _ rfl; have u6 := HST3.out.2.2.1.1 6 _ rfl; have uf := HST3.out.2.2.1.2.1
          clear hnew ht3 hg3 hax hdx hnx hkx hown3
          refine wpAnyH_ready (rs := [6]) (by kernel_rfl) (by simp) ?_
          refine AllReadyH.cons (o := ⟨some 79, .buildSlice _ _ _, _, _, _, _⟩) rfl (fun K hK => ?_) AllReadyH.nil
          go_simp
          refine hK.out _ _ trivial (fun _ => ?_)
          clear hK K
          try simp only [Act.put, List.setIfInBounds_toArray, List.set_cons_zero, List.set_cons_succ]
          obtain ⟨w4, hw4⟩ : ∃ w4, w3.alloc (.cells #[.int .i64 kk2, .string i2, .string l2, .int .i64 s2, .int .i64 t2, .int .i64 e2, .slice A3 xs2.length c3'] 31) = w4 := ⟨_, rfl⟩
          have hnews := cell7_new w3 31 kk2 i2 l2 s2 t2 e2 A3 xs2.length c3'
          obtain ⟨hb4, hg4, -⟩ := box7 hw4
          rw [hw4] at hnews ⊢
          have HNEWS := Lib.hid hnews; have HW4 := Lib.hid hg4; have HB4 := Lib.hid hb4
          obtain ⟨css, o1, o2, o3'⟩ := HOWN3.out.below hb4
          have HO1 := Lib.hid o1; have HO2 := Lib.hid o2; have HO3 := Lib.hid o3'
          have HST4 := Lib.hid (HST3.out.below hb4)
          clear hnews hb4 hg4 o1 o2 o3' u0 u6 uf hw4
          have u0 := HST4.out.2.2.1.1 0 _ rfl; have u6 := HST4.out.2.2.1.1 6 _ rfl; have uf := HST4.out.2.2.1.2.1
          refine wpAnyH_ready (rs := [7]) (by kernel_rfl) (by simp) ?_
          refine AllReadyH.cons (o := ⟨some 80, .call ⟨_, _, _⟩, _, _, _, _⟩) rfl (fun K hK => ?_) AllReadyH.nil
          refine step_append_lies w4 rfl (.tmp 74) (.tmp 79) 29 rfl (w1.heap.size + 1) 31 i0 _ 7 88 Tryz.underlying29 HI0.out HZ0.out HZ1.out HZ2.out rfl (by decide) v ys.length css.flatten (by simp [Act.eval, Act.put]) HO1.out ⟨w3.heap.size, 0, none⟩ 1 1 (contCells kk2 i2 l2 s2 t2 e2 A3 xs2.length c3') (by simp [Act.eval, Act.put]) rfl HNEWS.out (CRdS_one HNEW.out) (by decide) (by have := HYL.out; have := HN3.out; unfold maxLen; omega) (by have := HYL.out; have := HN3.out; omega) (by have := HW4.out; have := HSZ3.out; omega) _ rfl ?_
          intro g5 cap w5 hown' hgrow hat hltv
          refine hK.out _ _ trivial (fun _ => ?_)
          clear hK K
          try simp only [Act.put, List.setIfInBounds_toArray, List.set_cons_zero, List.set_cons_succ]
          have HOWN5 := Lib.hid hown'; have HGROW := Lib.hid hgrow; have HAT := Lib.hid hat
          have HROWS := Lib.hid (show ∀ q, v.ownBlock = some q → w1.heap.size < q from fun q hq => by have := (HOWN.out.lt q hq).1; omega)
          have HST5 := Lib.hid (HST4.out.row hgrow HROWS.out)
          clear hown' hgrow hat hltv u0 u6 uf
          have u0 := HST5.out.2.2.1.1 0 _ rfl; have u6 := HST5.out.2.2.1.1 6 _ rfl; have uf := HST5.out.2.2.1.2.1
          refine wpAnyH_take (i := 8) (oi := ⟨some 81, _, _, _, _, _⟩) (v := .pointer (some ⟨w1.heap.size, 6, none⟩)) rfl (by kernel_rfl) (by kernel_rfl) (by kernel_rfl) (fun _ _ _ h => h) (Or.inl ⟨by rfl, fun w' hS => by go_simp⟩) trivial ?_
          try simp only [Act.put, List.setIfInBounds_toArray, List.set_cons_zero, List.set_cons_succ]
          refine wpAnyH_ready (rs := [9]) (by kernel_rfl) (by simp) ?_
          refine AllReadyH.cons (o := ⟨none, .store _ _ _, _, _, _, _⟩) rfl (fun K hK => ?_) AllReadyH.nil
          go_simp
          refine hK.out _ _ trivial (fun _ => ?_)
          clear hK K
          try simp only [Act.put, List.setIfInBounds_toArray, List.set_cons_zero, List.set_cons_succ]
          refine wpAnyH_done (by kernel_rfl) ?_ _
          clear u0 u6 uf x0 x1 x2 x3 x4 x5 x6 xf
          have hx4 : CRdS w4 (fun y => w1.heap.size + 1 ≤ y ∧ y < w4.heap.size ∧ v.ownBlock ≠ some y) (.mk kk2 i2 l2 s2 t2 e2 xs2) (contCells kk2 i2 l2 s2 t2 e2 A3 xs2.length c3') :=
            CRdS_mono (fun y hy => ⟨by have h := HST9.out.2.2.1.2.2; have h1 := hy.1; have h2 : wr.drew.heap.size = wr.heap.size := rfl; omega, by have := hy.2; have := HW4.out; omega, fun h => by
              have h0 := (HOWN.out.lt y h).2; have h1 := hy.1; have h2 : wr.drew.heap.size = wr.heap.size := rfl; omega⟩) (fun y o u hy hu => (HB4.out.cell (p := ⟨y, o, none⟩) (by exact hy.2)).trans hu) _ _ HNEW.out
          have hown5 := OwnsC.app (w := w4) HO1.out HO2.out HO3.out hx4 HOWN5.out HGROW.out (fun q hq => by
            have hq2 : q = g5 := (Option.some.inj hq).symm
            subst hq2
            rcases HAT.out with h | h
            · exact .inl h
            · exact .inr (by omega))
          have hown6 := hown5.grownb (grown_one w5 w1.heap.size 6 (.slice (some ⟨g5, 0, none⟩) (ys.length + 1) cap)) (fun y hy e => by omega) (by omega)
          have hst6 := HST5.out.set_ (j := 6) (by simp) (.slice (some ⟨g5, 0, none⟩) (ys.length + 1) cap)
          simp only [List.set_cons_zero, List.set_cons_succ] at hst6
          have hrel6 : MakeRel w B b w.heap.size w1.heap.size (w1.heap.size + 1) xs d k (m + 1) 3 id 0 0 0 (w5.setCell ⟨w1.heap.size, 6, none⟩ (.slice (some ⟨g5, 0, none⟩) (ys.length + 1) cap)) := by
            refine ⟨_, ys ++ [.mk kk2 i2 l2 s2 t2 e2 xs2], k3, by rw [List.length_append, HYL.out]; rfl, hst6, hown6, fun y hy => ?_, ?_, ?_, ?_⟩
            · rcases List.mem_append.1 hy with h | h
              · exact HALL.out y h
              · simp only [List.mem_singleton] at h; subst h; exact HAX.out
            · have h1 := HDEP.out; have h2 := HDX.out; have h3 := HD1.out
              have := depthL_snoc (.mk kk2 i2 l2 s2 t2 e2 xs2) ys ((d : Int) - 1) (by omega) (by omega)
              omega
            · rw [nodesL_app, Nat.succ_mul]; have h1 := HNOD.out; have h2 := HNX.out; omega
            · rw [Nat.succ_mul]; have h1 := HKR.out; have h2 := HKX.out; omega
          have HREL6 := Lib.hid hrel6
          clear hrel6 hst6 hown6 hown5 hx4
          go_wp2
          go_roundw
          case rel => exact ⟨m + 1, by omega, by go_num, HREL6⟩
          case measure => simp [intOf]; omega
        · skip
          go_simp
          go_at_call 12
          try rw [HJ.out]
          refine HCALL.out.mono ?_
          rintro e' w3 ⟨x, cs3, k3, rfl, hnew, ht3, hg3, hax, hdx, hnx, hkx⟩
          refine hK.out _ _ trivial (fun _ => ?_)
          clear hK K
          try simp only [Act.put, List.setIfInBounds_toArray, List.set_cons_zero, List.set_cons_succ]
          obtain ⟨kk2, i2, l2, s2, t2, e2, xs2⟩ := x
          obtain ⟨A3, c3', rfl⟩ := CRdS_cells hnew
          simp only [contCells]
          have HST3 := Lib.hid ((HST9.out.below (below_drewN_self wr _ 1)).go ht3 hg3)
          have HNEW := Lib.hid hnew; have HAX := Lib.hid hax; have HDX := Lib.hid hdx; have HNX := Lib.hid hnx; have HKX := Lib.hid hkx
          have hown3 := (HOWN.out.below (below_drewN_self wr _ 1)).grownb hg3 (fun y hy e => by have := HST9.out.2.2.2.2; omega) (by have := HST9.out.2.2.2.2; omega)
          have HSZ3 := Lib.hid (show w1.heap.size + 1 ≤ w3.heap.size from by have := HST9.out.2.2.1.2.2; have h := hg3.size; have h2 : wr.drew.heap.size = wr.heap.size := rfl; omega)
          have HOWN3 := Lib.hid hown3
          have u0 := HST3.out.2.2.1.1 0 _ rfl; have u6 := HST3.out.2.2.1.1 6 _ rfl; have uf := HST3.out.2.2.1.2.1
          clear hnew ht3 hg3 hax hdx hnx hkx hown3
          refine wpAnyH_ready (rs := [1, 6]) (by kernel_rfl) (by simp) ?_
          refine AllReadyH.cons (o := ⟨some 74, .load _ _, _, _, _, _⟩) rfl (fun K hK => ?_) (AllReadyH.cons (o := ⟨some 79, .buildSlice _ _ _, _, _, _, _⟩) rfl (fun K hK => ?_) AllReadyH.nil)
          · skip
            go_simp
            refine hK.out _ _ trivial (fun _ => ?_)
            clear hK K
            try simp only [Act.put, List.setIfInBounds_toArray, List.set_cons_zero, List.set_cons_succ]
            refine wpAnyH_ready (rs := [6]) (by kernel_rfl) (by simp) ?_
            refine AllReadyH.cons (o := ⟨some 79, .buildSlice _ _ _, _, _, _, _⟩) rfl (fun K hK => ?_) AllReadyH.nil
            go_simp
            refine hK.out _ _ trivial (fun _ => ?_)
            clear hK K
            try simp only [Act.put, List.setIfInBounds_toArray, List.set_cons_zero, List.set_cons_succ]
            obtain ⟨w4, hw4⟩ : ∃ w4, w3.alloc (.cells #[.int .i64 kk2, .string i2, .string l2, .int .i64 s2, .int .i64 t2, .int .i64 e2, .slice A3 xs2.length c3'] 31) = w4 := ⟨_, rfl⟩
            have hnews := cell7_new w3 31 kk2 i2 l2 s2 t2 e2 A3 xs2.length c3'
            obtain ⟨hb4, hg4, -⟩ := box7 hw4
            rw [hw4] at hnews ⊢
            have HNEWS := Lib.hid hnews; have HW4 := Lib.hid hg4; have HB4 := Lib.hid hb4
            obtain ⟨css, o1, o2, o3'⟩ := HOWN3.out.below hb4
            have HO1 := Lib.hid o1; have HO2 := Lib.hid o2; have HO3 := Lib.hid o3'
            have HST4 := Lib.hid (HST3.out.below hb4)
            clear hnews hb4 hg4 o1 o2 o3' u0 u6 uf hw4
            have u0 := HST4.out.2.2.1.1 0 _ rfl; have u6 := HST4.out.2.2.1.1 6 _ rfl; have uf := HST4.out.2.2.1.2.1
            refine wpAnyH_ready (rs := [7]) (by kernel_rfl) (by simp) ?_
            refine AllReadyH.cons (o := ⟨some 80, .call ⟨_, _, _⟩, _, _, _, _⟩) rfl (fun K hK => ?_) AllReadyH.nil
            refine step_append_lies w4 rfl (.tmp 74) (.tmp 79) 29 rfl (w1.heap.size + 1) 31 i0 _ 7 88 Tryz.underlying29 HI0.out HZ0.out HZ1.out HZ2.out rfl (by decide) v ys.length css.flatten (by simp [Act.eval, Act.put]) HO1.out ⟨w3.heap.size, 0, none⟩ 1 1 (contCells kk2 i2 l2 s2 t2 e2 A3 xs2.length c3') (by simp [Act.eval, Act.put]) rfl HNEWS.out (CRdS_one HNEW.out) (by decide) (by have := HYL.out; have := HN3.out; unfold maxLen; omega) (by have := HYL.out; have := HN3.out; omega) (by have := HW4.out; have := HSZ3.out; omega) _ rfl ?_
            intro g5 cap w5 hown' hgrow hat hltv
            refine hK.out _ _ trivial (fun _ => ?_)
            clear hK K
            try simp only [Act.put, List.setIfInBounds_toArray, List.set_cons_zero, List.set_cons_succ]
            have HOWN5 := Lib.hid hown'; have HGROW := Lib.hid hgrow; have HAT := Lib.hid hat
            have HROWS := Lib.hid (show ∀ q, v.ownBlock = some q → w1.heap.size < q from fun q hq => by have := (HOWN.out.lt q hq).1; omega)
            have HST5 := Lib.hid (HST4.out.row hgrow HROWS.out)
            clear hown' hgrow hat hltv u0 u6 uf
            have u0 := HST5.out.2.2.1.1 0 _ rfl; have u6 := HST5.out.2.2.1.1 6 _ rfl; have uf := HST5.out.2.2.1.2.1
            refine wpAnyH_take (i := 8) (oi := ⟨some 81, _, _, _, _, _⟩) (v := .pointer (some ⟨w1.heap.size, 6, none⟩)) rfl (by kernel_rfl) (by kernel_rfl) (by kernel_rfl) (fun _ _ _ h => h) (Or.inl ⟨by rfl, fun w' hS => by go_simp⟩) trivial ?_
            try simp only [Act.put, List.setIfInBounds_toArray, List.set_cons_zero, List.set_cons_succ]
            refine wpAnyH_ready (rs := [9]) (by kernel_rfl) (by simp) ?_
            refine AllReadyH.cons (o := ⟨none, .store _ _ _, _, _, _, _⟩) rfl (fun K hK => ?_) AllReadyH.nil
            go_simp
            refine hK.out _ _ trivial (fun _ => ?_)
            clear hK K
            try simp only [Act.put, List.setIfInBounds_toArray, List.set_cons_zero, List.set_cons_succ]
            refine wpAnyH_done (by kernel_rfl) ?_ _
            clear u0 u6 uf x0 x1 x2 x3 x4 x5 x6 xf
            have hx4 : CRdS w4 (fun y => w1.heap.size + 1 ≤ y ∧ y < w4.heap.size ∧ v.ownBlock ≠ some y) (.mk kk2 i2 l2 s2 t2 e2 xs2) (contCells kk2 i2 l2 s2 t2 e2 A3 xs2.length c3') :=
              CRdS_mono (fun y hy => ⟨by have h := HST9.out.2.2.1.2.2; have h1 := hy.1; have h2 : wr.drew.heap.size = wr.heap.size := rfl; omega, by have := hy.2; have := HW4.out; omega, fun h => by
                have h0 := (HOWN.out.lt y h).2; have h1 := hy.1; have h2 : wr.drew.heap.size = wr.heap.size := rfl; omega⟩) (fun y o u hy hu => (HB4.out.cell (p := ⟨y, o, none⟩) (by exact hy.2)).trans hu) _ _ HNEW.out
            have hown5 := OwnsC.app (w := w4) HO1.out HO2.out HO3.out hx4 HOWN5.out HGROW.out (fun q hq => by
              have hq2 : q = g5 := (Option.some.inj hq).symm
              subst hq2
              rcases HAT.out with h | h
              · exact .inl h
              · exact .inr (by omega))
            have hown6 := hown5.grownb (grown_one w5 w1.heap.size 6 (.slice (some ⟨g5, 0, none⟩) (ys.length + 1) cap)) (fun y hy e => by omega) (by omega)
            have hst6 := HST5.out.set_ (j := 6) (by simp) (.slice (some ⟨g5, 0, none⟩) (ys.length + 1) cap)
            simp only [List.set_cons_zero, List.set_cons_succ] at hst6
            have hrel6 : MakeRel w B b w.heap.size w1.heap.size (w1.heap.size + 1) xs d k (m + 1) 3 id 0 0 0 (w5.setCell ⟨w1.heap.size, 6, none⟩ (.slice (some ⟨g5, 0, none⟩) (ys.length + 1) cap)) := by
              refine ⟨_, ys ++ [.mk kk2 i2 l2 s2 t2 e2 xs2], k3, by rw [List.length_append, HYL.out]; rfl, hst6, hown6, fun y hy => ?_, ?_, ?_, ?_⟩
              · rcases List.mem_append.1 hy with h | h
                · exact HALL.out y h
                · simp only [List.mem_singleton] at h; subst h; exact HAX.out
              · have h1 := HDEP.out; have h2 := HDX.out; have h3 := HD1.out
                have := depthL_snoc (.mk kk2 i2 l2 s2 t2 e2 xs2) ys ((d : Int) - 1) (by omega) (by omega)
                omega
              · rw [nodesL_app, Nat.succ_mul]; have h1 := HNOD.out; have h2 := HNX.out; omega
              · rw [Nat.succ_mul]; have h1 := HKR.out; have h2 := HKX.out; omega
            have HREL6 := Lib.hid hrel6
            clear hrel6 hst6 hown6 hown5 hx4
            go_wp2
            go_roundw
            case rel => exact ⟨m + 1, by omega, by go_num, HREL6⟩
            case measure => simp [intOf]; omega
          · skip
            go_simp
            refine hK.out _ _ trivial (fun _ => ?_)
            clear hK K
            try simp only [Act.put, List.setIfInBounds_toArray, List.set_cons_zero, List.set_cons_succ]
            obtain ⟨w4, hw4⟩ : ∃ w4, w3.alloc (.cells #[.int .i64 kk2, .string i2, .string l2, .int .i64 s2, .int .i64 t2, .int .i64 e2, .slice A3 xs2.length c3'] 31) = w4 := ⟨_, rfl⟩
            have hnews := cell7_new w3 31 kk2 i2 l2 s2 t2 e2 A3 xs2.length c3'
            obtain ⟨hb4, hg4, -⟩ := box7 hw4
            rw [hw4] at hnews ⊢
            have HNEWS := Lib.hid hnews; have HW4 := Lib.hid hg4; have HB4 := Lib.hid hb4
            obtain ⟨css, o1, o2, o3'⟩ := HOWN3.out.below hb4
            have HO1 := Lib.hid o1; have HO2 := Lib.hid o2; have HO3 := Lib.hid o3'
            have HST4 := Lib.hid (HST3.out.below hb4)
            clear hnews hb4 hg4 o1 o2 o3' u0 u6 uf hw4
            have u0 := HST4.out.2.2.1.1 0 _ rfl; have u6 := HST4.out.2.2.1.1 6 _ rfl; have uf := HST4.out.2.2.1.2.1
            refine wpAnyH_ready (rs := [1]) (by kernel_rfl) (by simp) ?_
            refine AllReadyH.cons (o := ⟨some 74, .load _ _, _, _, _, _⟩) rfl (fun K hK => ?_) AllReadyH.nil
            go_simp
            refine hK.out _ _ trivial (fun _ => ?_)
            clear hK K
            try simp only [Act.put, List.setIfInBounds_toArray, List.set_cons_zero, List.set_cons_succ]
            refine wpAnyH_ready (rs := [7]) (by kernel_rfl) (by simp) ?_
            refine AllReadyH.cons (o := ⟨some 80, .call ⟨_, _, _⟩, _, _, _, _⟩) rfl (fun K hK => ?_) AllReadyH.nil
            refine step_append_lies w4 rfl (.tmp 74) (.tmp 79) 29 rfl (w1.heap.size + 1) 31 i0 _ 7 88 Tryz.underlying29 HI0.out HZ0.out HZ1.out HZ2.out rfl (by decide) v ys.length css.flatten (by simp [Act.eval, Act.put]) HO1.out ⟨w3.heap.size, 0, none⟩ 1 1 (contCells kk2 i2 l2 s2 t2 e2 A3 xs2.length c3') (by simp [Act.eval, Act.put]) rfl HNEWS.out (CRdS_one HNEW.out) (by decide) (by have := HYL.out; have := HN3.out; unfold maxLen; omega) (by have := HYL.out; have := HN3.out; omega) (by have := HW4.out; have := HSZ3.out; omega) _ rfl ?_
            intro g5 cap w5 hown' hgrow hat hltv
            refine hK.out _ _ trivial (fun _ => ?_)
            clear hK K
            try simp only [Act.put, List.setIfInBounds_toArray, List.set_cons_zero, List.set_cons_succ]
            have HOWN5 := Lib.hid hown'; have HGROW := Lib.hid hgrow; have HAT := Lib.hid hat
            have HROWS := Lib.hid (show ∀ q, v.ownBlock = some q → w1.heap.size < q from fun q hq => by have := (HOWN.out.lt q hq).1; omega)
            have HST5 := Lib.hid (HST4.out.row hgrow HROWS.out)
            clear hown' hgrow hat hltv u0 u6 uf
            have u0 := HST5.out.2.2.1.1 0 _ rfl; have u6 := HST5.out.2.2.1.1 6 _ rfl; have uf := HST5.out.2.2.1.2.1
            refine wpAnyH_take (i := 8) (oi := ⟨some 81, _, _, _, _, _⟩) (v := .pointer (some ⟨w1.heap.size, 6, none⟩)) rfl (by kernel_rfl) (by kernel_rfl) (by kernel_rfl) (fun _ _ _ h => h) (Or.inl ⟨by rfl, fun w' hS => by go_simp⟩) trivial ?_
            try simp only [Act.put, List.setIfInBounds_toArray, List.set_cons_zero, List.set_cons_succ]
            refine wpAnyH_ready (rs := [9]) (by kernel_rfl) (by simp) ?_
            refine AllReadyH.cons (o := ⟨none, .store _ _ _, _, _, _, _⟩) rfl (fun K hK => ?_) AllReadyH.nil
            go_simp
            refine hK.out _ _ trivial (fun _ => ?_)
            clear hK K
            try simp only [Act.put, List.setIfInBounds_toArray, List.set_cons_zero, List.set_cons_succ]
            refine wpAnyH_done (by kernel_rfl) ?_ _
            clear u0 u6 uf x0 x1 x2 x3 x4 x5 x6 xf
            have hx4 : CRdS w4 (fun y => w1.heap.size + 1 ≤ y ∧ y < w4.heap.size ∧ v.ownBlock ≠ some y) (.mk kk2 i2 l2 s2 t2 e2 xs2) (contCells kk2 i2 l2 s2 t2 e2 A3 xs2.length c3') :=
              CRdS_mono (fun y hy => ⟨by have h := HST9.out.2.2.1.2.2; have h1 := hy.1; have h2 : wr.drew.heap.size = wr.heap.size := rfl; omega, by have := hy.2; have := HW4.out; omega, fun h => by
                have h0 := (HOWN.out.lt y h).2; have h1 := hy.1; have h2 : wr.drew.heap.size = wr.heap.size := rfl; omega⟩) (fun y o u hy hu => (HB4.out.cell (p := ⟨y, o, none⟩) (by exact hy.2)).trans hu) _ _ HNEW.out
            have hown5 := OwnsC.app (w := w4) HO1.out HO2.out HO3.out hx4 HOWN5.out HGROW.out (fun q hq => by
              have hq2 : q = g5 := (Option.some.inj hq).symm
              subst hq2
              rcases HAT.out with h | h
              · exact .inl h
              · exact .inr (by omega))
            have hown6 := hown5.grownb (grown_one w5 w1.heap.size 6 (.slice (some ⟨g5, 0, none⟩) (ys.length + 1) cap)) (fun y hy e => by omega) (by omega)
            have hst6 := HST5.out.set_ (j := 6) (by simp) (.slice (some ⟨g5, 0, none⟩) (ys.length + 1) cap)
            simp only [List.set_cons_zero, List.set_cons_succ] at hst6
            have hrel6 : MakeRel w B b w.heap.size w1.heap.size (w1.heap.size + 1) xs d k (m + 1) 3 id 0 0 0 (w5.setCell ⟨w1.heap.size, 6, none⟩ (.slice (some ⟨g5, 0, none⟩) (ys.length + 1) cap)) := by
              refine ⟨_, ys ++ [.mk kk2 i2 l2 s2 t2 e2 xs2], k3, by rw [List.length_append, HYL.out]; rfl, hst6, hown6, fun y hy => ?_, ?_, ?_, ?_⟩
              · rcases List.mem_append.1 hy with h | h
                · exact HALL.out y h
                · simp only [List.mem_singleton] at h; subst h; exact HAX.out
              · have h1 := HDEP.out; have h2 := HDX.out; have h3 := HD1.out
                have := depthL_snoc (.mk kk2 i2 l2 s2 t2 e2 xs2) ys ((d : Int) - 1) (by omega) (by omega)
                omega
              · rw [nodesL_app, Nat.succ_mul]; have h1 := HNOD.out; have h2 := HNX.out; omega
              · rw [Nat.succ_mul]; have h1 := HKR.out; have h2 := HKX.out; omega
            have HREL6 := Lib.hid hrel6
            clear hrel6 hst6 hown6 hown5 hx4
            go_wp2
            go_roundw
            case rel => exact ⟨m + 1, by omega, by go_num, HREL6⟩
            case measure => simp [intOf]; omega
      · obtain rfl : m = 1 := by omega
        obtain ⟨A5, c5, rfl, hc51, hc52, hc53⟩ := HOWN.out.cs
        have HC51 := Lib.hid hc51; have HC52 := Lib.hid hc52; have HC53 := Lib.hid hc53; clear hc51 hc52 hc53
        have y0 := HST9.out.2.2.2.1.1 0 _ rfl; have y1 := HST9.out.2.2.2.1.1 1 _ rfl; have y2 := HST9.out.2.2.2.1.1 2 _ rfl; have y3 := HST9.out.2.2.2.1.1 3 _ rfl; have y4 := HST9.out.2.2.2.1.1 4 _ rfl; have y5 := HST9.out.2.2.2.1.1 5 _ rfl; have y6 := HST9.out.2.2.2.1.1 6 _ rfl; have yf := HST9.out.2.2.2.1.2.1
        obtain ⟨q1, q2⟩ := fin_tape (.int .i64 3) (.string id) (.string ByteArray.empty) (.int .i64 0) (.int .i64 0) (.int .i64 0) (.slice A5 ys.length c5) HST9.out.1 HST9.out.2.1 (show w.heap.size ≠ b by omega) (show B ≤ w.heap.size by omega) (Nat.le_refl _)
        have HQ1 := Lib.hid q1; have HQ2 := Lib.hid q2; clear q1 q2
        go_wp2
        refine bodyPost_ret (v := .agg #[.int .i64 3, .string id, .string ByteArray.empty, .int .i64 0, .int .i64 0, .int .i64 0, .slice A5 ys.length c5]) (by simp [results, Tryz.results12, go_sem, y0, y1, y2, y3, y4, y5, y6]) rfl ⟨.mk 3 id ByteArray.empty 0 0 0 ys, contCells 3 id ByteArray.empty 0 0 0 A5 ys.length c5, _, rfl, ?_, HQ1.out, HQ2.out, ?_, ?_, ?_, ?_⟩
        · unfold NewC
          rw [CRdS, fin_size]
          refine ⟨A5, c5, rfl, ⟨by unfold okInt; omega, by unfold maxLen; have := HMid.out.2; omega, by unfold maxLen; decide, by unfold okInt; omega, by unfold okInt; omega, by unfold okInt; omega⟩, HC51.out, HC52.out, fun hn => ?_⟩
          obtain ⟨bb, o, hA, hbb, hcs⟩ := HC53.out hn
          have hs1 := HSZ1.out
          exact ⟨bb, o, hA, ⟨by omega, hbb.2⟩, CsAtS_mono (fun y hy => ⟨by have := hy.1; omega, hy.2⟩) (fun y o u hy hu => fin_cells _ _ _ _ _ _ _ y o u (by have := hy.1; omega) hu) bb hbb ys o hcs⟩
        · refine AllOk_mk.2 ⟨?_, HALL.out⟩
          have h1 := HMid.out.1; have h2 := HYL.out; have h3 := HN3.out
          simp [ownB, slots2, noneB, withinB, h1, h2]
          try decide +kernel
          try omega
        · have h1 := HDEP.out; rw [depthC, if_neg (by decide)]; exact h1
        · have h1 := HNOD.out; have h2 := HN3.out; have h3 := H44.out; have h4 := H41.out; have h5 : 1 * 4 ^ (d - 1) ≤ 3 * 4 ^ (d - 1) := Nat.mul_le_mul_right _ h2.2
          rw [nodesC]; omega
        · have h1 := HKR.out; have h2 := HN3.out; have h3 := H44.out; have h4 := H41.out; have h5 : 1 * (6 * 4 ^ (d - 1)) ≤ 3 * (6 * 4 ^ (d - 1)) := Nat.mul_le_mul_right _ h2.2
          omega
  · go_upto_region 5 with fail
    try simp only [Int.ofNat_one, Int.Nat.cast_ofNat_Int]
    obtain ⟨w2, hw2⟩ : ∃ w2, w1.alloc (.cells #[.int .i64 4, .string ByteArray.empty, .string ByteArray.empty, .int .i64 0, .int .i64 0, .int .i64 0, .slice none 0 0] 31) = w2 := ⟨_, rfl⟩
    obtain ⟨hb2, hg2, -⟩ := box7 hw2
    have hbox2 : BoxL w2 w1.heap.size [.int .i64 4, .string ByteArray.empty, .string ByteArray.empty, .int .i64 0, .int .i64 0, .int .i64 0, .slice none 0 0] := by
      refine ⟨fun j u hu => ?_, box7f hw2, by omega⟩
      rw [← hw2, World.cell?_alloc_at _ _ _ _ rfl]
      simpa using hu
    have HST0 : Hid (StT w B b w.heap.size w1.heap.size xs w2 (k + 1) [.int .i64 4, .string ByteArray.empty, .string ByteArray.empty, .int .i64 0, .int .i64 0, .int .i64 0, .slice none 0 0]) := Lib.hid ⟨HT1.out.kept (grown_none hb2) (fun e => by cases e) (fun g hg => by cases hg), grown_below HG1.out hb2, hbox2, HB1.out.kept (grown_none hb2) (fun e => by cases e), hBb, hbw, Nat.le_refl _, HSZ1.out⟩
    rw [hw2]
    have HG2 := Lib.hid hg2
    clear hw2 hb2 hg2 hbox2
    go_wp2_with fail
    have hbx : Below w2.heap.size w2 (w2.alloc (.cells #[.string ⟨#[97]⟩, .string ⟨#[114, 49]⟩, .string ⟨#[120, 46, 121, 45, 122]⟩] 9)) := (Below.refl _ _).alloc (Nat.le_refl _) _
    have hstx := HST0.out.below hbx
    refine (One_any xs (k + 1) B b idsL w2.heap.size 0 idsL.length _ (by have := HKB.out; have := H4.out; omega) hstx.1 (by decide) (by decide) (Nat.le_refl _) (by unfold maxLen; decide) (by have := HST0.out.1.choose_spec.choose_spec.2.2.2.2.2; omega) (fun i y hy => cells_new _ _ _ i _ (by simp only [idsL] at hy; rcases i with _ | _ | _ | i <;> simp at hy ⊢ <;> exact hy))).mono ?_
    rintro e' w3 ⟨rfl, htq, hgq⟩
    have hmem : idsL.getD (foldI (tapeI xs (k + 1)) idsL.length).toNat ⟨#[]⟩ ∈ idsL := getD_mem (by have := @foldI_range (tapeI xs (k + 1)) idsL.length (by decide); omega)
    obtain ⟨id, hid⟩ : ∃ y, idsL.getD (foldI (tapeI xs (k + 1)) idsL.length).toNat ⟨#[]⟩ = y := ⟨_, rfl⟩
    rw [hid] at hmem ⊢
    have HMid := Lib.hid (ids_ok id hmem); have HST3 := Lib.hid (hstx.go htq hgq)
    clear hbx hstx htq hgq hmem hid
    have x0 := HST3.out.2.2.1.1 0 _ rfl; have x1 := HST3.out.2.2.1.1 1 _ rfl; have x2 := HST3.out.2.2.1.1 2 _ rfl; have x3 := HST3.out.2.2.1.1 3 _ rfl; have x4 := HST3.out.2.2.1.1 4 _ rfl; have x5 := HST3.out.2.2.1.1 5 _ rfl; have x6 := HST3.out.2.2.1.1 6 _ rfl; have xf := HST3.out.2.2.1.2.1
    go_upto_region 17 with fail
    clear x0 x1 x2 x3 x4 x5 x6 xf
    have HST4 := Lib.hid (HST3.out.set_ (j := 1) (by simp) (.string id))
    simp only [List.set_cons_zero, List.set_cons_succ] at HST4
    obtain ⟨w4, hwf⟩ : ∃ z, w3.setCell ⟨w1.heap.size, 1, none⟩ (.string id) = z := ⟨_, rfl⟩
    rw [hwf] at HST4 ⊢
    clear hwf
    go_wp2_with fail
    refine (Next_any xs (k + 1 + 1) B b 3 _ (by unfold okInt; omega) (by have := HKB.out; have := H4.out; omega) HST4.out.1).mono ?_
    rintro e' w5 ⟨rfl, htq, hgq⟩
    have hrft := @foldI_pos (tapeI xs (k + 1 + 1)) 3 (by omega)
    obtain ⟨ft, hft⟩ : ∃ y, foldI (tapeI xs (k + 1 + 1)) 3 = y := ⟨_, rfl⟩
    rw [hft] at hrft ⊢
    have HST5 := Lib.hid (HST4.out.go htq hgq)
    clear htq hgq hft
    have x0 := HST5.out.2.2.1.1 0 _ rfl; have x1 := HST5.out.2.2.1.1 1 _ rfl; have x2 := HST5.out.2.2.1.1 2 _ rfl; have x3 := HST5.out.2.2.1.1 3 _ rfl; have x4 := HST5.out.2.2.1.1 4 _ rfl; have x5 := HST5.out.2.2.1.1 5 _ rfl; have x6 := HST5.out.2.2.1.1 6 _ rfl; have xf := HST5.out.2.2.1.2.1
    go_upto_region 18 with fail
    clear x0 x1 x2 x3 x4 x5 x6 xf
    have HST6 := Lib.hid (HST5.out.set_ (j := 4) (by simp) (.int .i64 (1 + ft)))
    simp only [List.set_cons_zero, List.set_cons_succ] at HST6
    obtain ⟨w6, hwf⟩ : ∃ z, w5.setCell ⟨w1.heap.size, 4, none⟩ (.int .i64 (1 + ft)) = z := ⟨_, rfl⟩
    rw [hwf] at HST6 ⊢
    clear hwf
    have x0 := HST6.out.2.2.1.1 0 _ rfl; have x1 := HST6.out.2.2.1.1 1 _ rfl; have x2 := HST6.out.2.2.1.1 2 _ rfl; have x3 := HST6.out.2.2.1.1 3 _ rfl; have x4 := HST6.out.2.2.1.1 4 _ rfl; have x5 := HST6.out.2.2.1.1 5 _ rfl; have x6 := HST6.out.2.2.1.1 6 _ rfl; have xf := HST6.out.2.2.1.2.1
    go_wp2_with fail
    refine (Next_any xs (k + 1 + 1 + 1) B b (1 + ft) _ (by unfold okInt; omega) (by have := HKB.out; have := H4.out; omega) HST6.out.1).mono ?_
    rintro e' w7 ⟨rfl, htq, hgq⟩
    have hrfs := @foldI_pos (tapeI xs (k + 1 + 1 + 1)) (1 + ft) (by omega)
    obtain ⟨fs, hfs⟩ : ∃ y, foldI (tapeI xs (k + 1 + 1 + 1)) (1 + ft) = y := ⟨_, rfl⟩
    rw [hfs] at hrfs ⊢
    have HST7 := Lib.hid (HST6.out.go htq hgq)
    clear htq hgq hfs
    clear x0 x1 x2 x3 x4 x5 x6 xf
    have x0 := HST7.out.2.2.1.1 0 _ rfl; have x1 := HST7.out.2.2.1.1 1 _ rfl; have x2 := HST7.out.2.2.1.1 2 _ rfl; have x3 := HST7.out.2.2.1.1 3 _ rfl; have x4 := HST7.out.2.2.1.1 4 _ rfl; have x5 := HST7.out.2.2.1.1 5 _ rfl; have x6 := HST7.out.2.2.1.1 6 _ rfl; have xf := HST7.out.2.2.1.2.1
    go_upto_region 19 with fail
    clear x0 x1 x2 x3 x4 x5 x6 xf
    have HST8 := Lib.hid (HST7.out.set_ (j := 3) (by simp) (.int .i64 (1 + fs)))
    simp only [List.set_cons_zero, List.set_cons_succ] at HST8
    obtain ⟨w8, hwf⟩ : ∃ z, w7.setCell ⟨w1.heap.size, 3, none⟩ (.int .i64 (1 + fs)) = z := ⟨_, rfl⟩
    rw [hwf] at HST8 ⊢
    clear hwf
    go_wp2_with fail
    refine (Next_any xs (k + 1 + 1 + 1 + 1) B b 3 _ (by unfold okInt; omega) (by have := HKB.out; have := H4.out; omega) HST8.out.1).mono ?_
    rintro e' w10 ⟨rfl, htq, hgq⟩
    have hrfn := @foldI_pos (tapeI xs (k + 1 + 1 + 1 + 1)) 3 (by omega)
    obtain ⟨fn, hfn⟩ : ∃ y, foldI (tapeI xs (k + 1 + 1 + 1 + 1)) 3 = y := ⟨_, rfl⟩
    rw [hfn] at hrfn ⊢
    have HST10 := Lib.hid (HST8.out.go htq hgq)
    clear htq hgq hfn
    go_upto_region 22 with fail
    have hn3 : 1 ≤ (1 + fn) ∧ (1 + fn) ≤ 3 := by omega
    obtain ⟨n, hn⟩ := Int.eq_ofNat_of_zero_le (show 0 ≤ (1 + fn) by omega)
    have HNE := Lib.hid hn
    have hn4 : n ≤ 3 := by omega
    have HN3 := Lib.hid (show 1 ≤ n ∧ n ≤ 3 by omega)
    have HD1 := Lib.hid (show 1 ≤ d by omega)
    have h44 : 4 ^ d = 4 * 4 ^ (d - 1) := by rw [← Nat.pow_succ', show (d - 1).succ = d by omega]
    have h41 : 1 ≤ 4 ^ (d - 1) := Nat.one_le_pow _ _ (by decide)
    have H44 := Lib.hid h44; have H41 := Lib.hid h41; clear h44 h41
    try rw [hn]
    have hrel0 : MakeRel w B b w.heap.size w1.heap.size (w1.heap.size + 1) xs d k 0 4 id (1 + fs) (1 + ft) 0 w10 := by
      refine ⟨.slice none 0 0, [], _, rfl, HST10.out, OwnsC.nil_ _ _ _ _, (fun y hy => by cases hy), by rw [depthL]; have := HD1.out; omega, by rw [nodesL]; omega, by omega⟩
    have HREL0 := Lib.hid hrel0; clear hrel0 hn3 hn
    go_wp2_with fail
    go_loopw [8] (fun i wr => ∃ m : Nat, m ≤ n ∧ i = .int .i64 m ∧ Hid (MakeRel w B b w.heap.size w1.heap.size (w1.heap.size + 1) xs d k m 4 id (1 + fs) (1 + ft) 0 wr)) (fun i _ => n - (intOf i).toNat)
    case atStart => exact ⟨0, Nat.zero_le _, rfl, HREL0⟩
    case round =>
      obtain ⟨m, hm, rfl, HR⟩ := hrel
      obtain ⟨v, ys, kr, hyl, hst, hown, hall, hdep, hnod, hkr⟩ := HR.out
      clear HR HREL0
      have HST9 := Lib.hid hst; have HOWN := Lib.hid hown; have HALL := Lib.hid hall; have HDEP := Lib.hid hdep; have HNOD := Lib.hid hnod; have HKR := Lib.hid hkr; have HYL := Lib.hid hyl
      clear hst hown hall hdep hnod hkr hyl
      have x0 := HST9.out.2.2.1.1 0 _ rfl; have x1 := HST9.out.2.2.1.1 1 _ rfl; have x2 := HST9.out.2.2.1.1 2 _ rfl; have x3 := HST9.out.2.2.1.1 3 _ rfl; have x4 := HST9.out.2.2.1.1 4 _ rfl; have x5 := HST9.out.2.2.1.1 5 _ rfl; have x6 := HST9.out.2.2.1.1 6 _ rfl; have xf := HST9.out.2.2.1.2.1
      by_cases hlt : m < n
      · have i1 : (m : Int) < (n : Int) := by omega
        have hm2 : m * (6 * 4 ^ (d - 1)) ≤ 2 * (6 * 4 ^ (d - 1)) := Nat.mul_le_mul_right _ (by have := HN3.out; omega)
        have hcall := HIH.out (by have := HD1.out; omega) kr wr.drew (by have := HKB.out; have := H44.out; have := H41.out; have := HKR.out; omega) (HST9.out.below (below_drewN_self wr _ 1)).1
        have HJ := Lib.hid (show (d : Int) - 1 = ((d - 1 : Nat) : Int) by have := HD1.out; omega)
        have HCALL := Lib.hid hcall; clear hcall hm2
        go_wp2_with fail
        refine wp_region_held_drew (S := fun _ => True) (by kernel_rfl) trivial (fun _ => ?_)
        refine wpAnyH_take (i := 0) (oi := ⟨some 73, _, _, _, _, _⟩) (v := .pointer (some ⟨w1.heap.size, 6, none⟩)) rfl (by kernel_rfl) (by kernel_rfl) (by kernel_rfl) (fun _ _ _ h => h) (Or.inl ⟨by rfl, fun w' hS => by go_simp⟩) trivial ?_
        try simp only [Act.put, List.setIfInBounds_toArray, List.set_cons_zero, List.set_cons_succ]
        refine wpAnyH_take (i := 2) (oi := ⟨some 75, _, _, _, _, _⟩) (v := .pointer (some ⟨b, 0, none⟩)) rfl (by kernel_rfl) (by kernel_rfl) (by kernel_rfl) (fun _ _ _ h => h) (Or.inl ⟨by rfl, fun w' hS => by go_simp⟩) trivial ?_
        try simp only [Act.put, List.setIfInBounds_toArray, List.set_cons_zero, List.set_cons_succ]
        refine wpAnyH_take (i := 3) (oi := ⟨some 76, _, _, _, _, _⟩) (v := .int .i64 d) rfl (by kernel_rfl) (by kernel_rfl) (by kernel_rfl) (fun _ _ _ h => h) (Or.inl ⟨by rfl, fun w' hS => by go_simp⟩) trivial ?_
        try simp only [Act.put, List.setIfInBounds_toArray, List.set_cons_zero, List.set_cons_succ]
        refine wpAnyH_take (i := 4) (oi := ⟨some 77, _, _, _, _, _⟩) (v := .int .i64 ((d : Int) - 1)) rfl (by kernel_rfl) (by kernel_rfl) (by kernel_rfl) (fun _ _ _ h => h) (Or.inl ⟨by rfl, fun w' hS => by (have hwr : IntKind.i64.wrap ((d : Int) - 1) = (d : Int) - 1 := (by rw [IntKind.wrap_i64]; omega)); go_simp; try rw [hwr]⟩) trivial ?_
        try simp only [Act.put, List.setIfInBounds_toArray, List.set_cons_zero, List.set_cons_succ]
        refine wpAnyH_ready (rs := [1, 5]) (by kernel_rfl) (by simp) ?_
        refine AllReadyH.cons (o := ⟨some 74, .load _ _, _, _, _, _⟩) rfl (fun K hK => ?_) (AllReadyH.cons (o := ⟨some 78, .call ⟨_, _, _⟩, _, _, _, _⟩) rfl (fun K hK => ?_) AllReadyH.nil)
        · skip
          go_simp
          refine hK.out _ _ trivial (fun _ => ?_)
          clear hK K
          try simp only [Act.put, List.setIfInBounds_toArray, List.set_cons_zero, List.set_cons_succ]
          refine wpAnyH_ready (rs := [5]) (by kernel_rfl) (by simp) ?_
          refine AllReadyH.cons (o := ⟨some 78, .call ⟨_, _, _⟩, _, _, _, _⟩) rfl (fun K hK => ?_) AllReadyH.nil
          go_simp
          go_at_call 12
          try rw [HJ.out]
          refine HCALL.out.mono ?_
          rintro e' w3 ⟨x, cs3, k3, rfl, hnew, ht3, hg3, hax, hdx, hnx, hkx⟩
          refine hK.out _ _ trivial (fun _ => ?_)
          clear hK K
          try simp only [Act.put, List.setIfInBounds_toArray, List.set_cons_zero, List.set_cons_succ]
          obtain ⟨kk2, i2, l2, s2, t2, e2, xs2⟩ := x
          obtain ⟨A3, c3', rfl⟩ := CRdS_cells hnew
          simp only [contCells]
          have HST3 := Lib.hid ((HST9.out.below (below_drewN_self wr _ 1)).go ht3 hg3)
          have HNEW := Lib.hid hnew; have HAX := Lib.hid hax; have HDX := Lib.hid hdx; have HNX := Lib.hid hnx; have HKX := Lib.hid hkx
          have hown3 := (HOWN.out.below (below_drewN_self wr _ 1)).grownb hg3 (fun y hy e => by have := HST9.out.2.2.2.2; omega) (by have := HST9.out.2.2.2.2; omega)
          have HSZ3 := Lib.hid (show w1.heap.size + 1 ≤ w3.heap.size from by have := HST9.out.2.2.1.2.2; have h := hg3.size; have h2 : wr.drew.heap.size = wr.heap.size := rfl; omega)
          have HOWN3 := Lib.hid hown3
          have u0 := HST3.out.2.2.1.1 0 _ rfl; have u6 := HST3.out.2.2.1.1 6 _ rfl; have uf := HST3.out.2.2.1.2.1
          clear hnew ht3 hg3 hax hdx hnx hkx hown3
          refine wpAnyH_ready (rs := [6]) (by kernel_rfl) (by simp) ?_
          refine AllReadyH.cons (o := ⟨some 79, .buildSlice _ _ _, _, _, _, _⟩) rfl (fun K hK => ?_) AllReadyH.nil
          go_simp
          refine hK.out _ _ trivial (fun _ => ?_)
          clear hK K
          try simp only [Act.put, List.setIfInBounds_toArray, List.set_cons_zero, List.set_cons_succ]
          obtain ⟨w4, hw4⟩ : ∃ w4, w3.alloc (.cells #[.int .i64 kk2, .string i2, .string l2, .int .i64 s2, .int .i64 t2, .int .i64 e2, .slice A3 xs2.length c3'] 31) = w4 := ⟨_, rfl⟩
          have hnews := cell7_new w3 31 kk2 i2 l2 s2 t2 e2 A3 xs2.length c3'
          obtain ⟨hb4, hg4, -⟩ := box7 hw4
          rw [hw4] at hnews ⊢
          have HNEWS := Lib.hid hnews; have HW4 := Lib.hid hg4; have HB4 := Lib.hid hb4
          obtain ⟨css, o1, o2, o3'⟩ := HOWN3.out.below hb4
          have HO1 := Lib.hid o1; have HO2 := Lib.hid o2; have HO3 := Lib.hid o3'
          have HST4 := Lib.hid (HST3.out.below hb4)
          clear hnews hb4 hg4 o1 o2 o3' u0 u6 uf hw4
          have u0 := HST4.out.2.2.1.1 0 _ rfl; have u6 := HST4.out.2.2.1.1 6 _ rfl; have uf := HST4.out.2.2.1.2.1
          refine wpAnyH_ready (rs := [7]) (by kernel_rfl) (by simp) ?_
          refine AllReadyH.cons (o := ⟨some 80, .call ⟨_, _, _⟩, _, _, _, _⟩) rfl (fun K hK => ?_) AllReadyH.nil
          refine step_append_lies w4 rfl (.tmp 74) (.tmp 79) 29 rfl (w1.heap.size + 1) 31 i0 _ 7 88 Tryz.underlying29 HI0.out HZ0.out HZ1.out HZ2.out rfl (by decide) v ys.length css.flatten (by simp [Act.eval, Act.put]) HO1.out ⟨w3.heap.size, 0, none⟩ 1 1 (contCells kk2 i2 l2 s2 t2 e2 A3 xs2.length c3') (by simp [Act.eval, Act.put]) rfl HNEWS.out (CRdS_one HNEW.out) (by decide) (by have := HYL.out; have := HN3.out; unfold maxLen; omega) (by have := HYL.out; have := HN3.out; omega) (by have := HW4.out; have := HSZ3.out; omega) _ rfl ?_
          intro g5 cap w5 hown' hgrow hat hltv
          refine hK.out _ _ trivial (fun _ => ?_)
          clear hK K
          try simp only [Act.put, List.setIfInBounds_toArray, List.set_cons_zero, List.set_cons_succ]
          have HOWN5 := Lib.hid hown'; have HGROW := Lib.hid hgrow; have HAT := Lib.hid hat
          have HROWS := Lib.hid (show ∀ q, v.ownBlock = some q → w1.heap.size < q from fun q hq => by have := (HOWN.out.lt q hq).1; omega)
          have HST5 := Lib.hid (HST4.out.row hgrow HROWS.out)
          clear hown' hgrow hat hltv u0 u6 uf
          have u0 := HST5.out.2.2.1.1 0 _ rfl; have u6 := HST5.out.2.2.1.1 6 _ rfl; have uf := HST5.out.2.2.1.2.1
          refine wpAnyH_take (i := 8) (oi := ⟨some 81, _, _, _, _, _⟩) (v := .pointer (some ⟨w1.heap.size, 6, none⟩)) rfl (by kernel_rfl) (by kernel_rfl) (by kernel_rfl) (fun _ _ _ h => h) (Or.inl ⟨by rfl, fun w' hS => by go_simp⟩) trivial ?_
          try simp only [Act.put, List.setIfInBounds_toArray, List.set_cons_zero, List.set_cons_succ]
          refine wpAnyH_ready (rs := [9]) (by kernel_rfl) (by simp) ?_
          refine AllReadyH.cons (o := ⟨none, .store _ _ _, _, _, _, _⟩) rfl (fun K hK => ?_) AllReadyH.nil
          go_simp
          refine hK.out _ _ trivial (fun _ => ?_)
          clear hK K
          try simp only [Act.put, List.setIfInBounds_toArray, List.set_cons_zero, List.set_cons_succ]
          refine wpAnyH_done (by kernel_rfl) ?_ _
          clear u0 u6 uf x0 x1 x2 x3 x4 x5 x6 xf
          have hx4 : CRdS w4 (fun y => w1.heap.size + 1 ≤ y ∧ y < w4.heap.size ∧ v.ownBlock ≠ some y) (.mk kk2 i2 l2 s2 t2 e2 xs2) (contCells kk2 i2 l2 s2 t2 e2 A3 xs2.length c3') :=
            CRdS_mono (fun y hy => ⟨by have h := HST9.out.2.2.1.2.2; have h1 := hy.1; have h2 : wr.drew.heap.size = wr.heap.size := rfl; omega, by have := hy.2; have := HW4.out; omega, fun h => by
              have h0 := (HOWN.out.lt y h).2; have h1 := hy.1; have h2 : wr.drew.heap.size = wr.heap.size := rfl; omega⟩) (fun y o u hy hu => (HB4.out.cell (p := ⟨y, o, none⟩) (by exact hy.2)).trans hu) _ _ HNEW.out
          have hown5 := OwnsC.app (w := w4) HO1.out HO2.out HO3.out hx4 HOWN5.out HGROW.out (fun q hq => by
            have hq2 : q = g5 := (Option.some.inj hq).symm
            subst hq2
            rcases HAT.out with h | h
            · exact .inl h
            · exact .inr (by omega))
          have hown6 := hown5.grownb (grown_one w5 w1.heap.size 6 (.slice (some ⟨g5, 0, none⟩) (ys.length + 1) cap)) (fun y hy e => by omega) (by omega)
          have hst6 := HST5.out.set_ (j := 6) (by simp) (.slice (some ⟨g5, 0, none⟩) (ys.length + 1) cap)
          simp only [List.set_cons_zero, List.set_cons_succ] at hst6
          have hrel6 : MakeRel w B b w.heap.size w1.heap.size (w1.heap.size + 1) xs d k (m + 1) 4 id (1 + fs) (1 + ft) 0 (w5.setCell ⟨w1.heap.size, 6, none⟩ (.slice (some ⟨g5, 0, none⟩) (ys.length + 1) cap)) := by
            refine ⟨_, ys ++ [.mk kk2 i2 l2 s2 t2 e2 xs2], k3, by rw [List.length_append, HYL.out]; rfl, hst6, hown6, fun y hy => ?_, ?_, ?_, ?_⟩
            · rcases List.mem_append.1 hy with h | h
              · exact HALL.out y h
              · simp only [List.mem_singleton] at h; subst h; exact HAX.out
            · have h1 := HDEP.out; have h2 := HDX.out; have h3 := HD1.out
              have := depthL_snoc (.mk kk2 i2 l2 s2 t2 e2 xs2) ys ((d : Int) - 1) (by omega) (by omega)
              omega
            · rw [nodesL_app, Nat.succ_mul]; have h1 := HNOD.out; have h2 := HNX.out; omega
            · rw [Nat.succ_mul]; have h1 := HKR.out; have h2 := HKX.out; omega
          have HREL6 := Lib.hid hrel6
          clear hrel6 hst6 hown6 hown5 hx4
          go_wp2
          go_roundw
          case rel => exact ⟨m + 1, by omega, by go_num, HREL6⟩
          case measure => simp [intOf]; omega
        · skip
          go_simp
          go_at_call 12
          try rw [HJ.out]
          refine HCALL.out.mono ?_
          rintro e' w3 ⟨x, cs3, k3, rfl, hnew, ht3, hg3, hax, hdx, hnx, hkx⟩
          refine hK.out _ _ trivial (fun _ => ?_)
          clear hK K
          try simp only [Act.put, List.setIfInBounds_toArray, List.set_cons_zero, List.set_cons_succ]
          obtain ⟨kk2, i2, l2, s2, t2, e2, xs2⟩ := x
          obtain ⟨A3, c3', rfl⟩ := CRdS_cells hnew
          simp only [contCells]
          have HST3 := Lib.hid ((HST9.out.below (below_drewN_self wr _ 1)).go ht3 hg3)
          have HNEW := Lib.hid hnew; have HAX := Lib.hid hax; have HDX := Lib.hid hdx; have HNX := Lib.hid hnx; have HKX := Lib.hid hkx
          have hown3 := (HOWN.out.below (below_drewN_self wr _ 1)).grownb hg3 (fun y hy e => by have := HST9.out.2.2.2.2; omega) (by have := HST9.out.2.2.2.2; omega)
          have HSZ3 := Lib.hid (show w1.heap.size + 1 ≤ w3.heap.size from by have := HST9.out.2.2.1.2.2; have h := hg3.size; have h2 : wr.drew.heap.size = wr.heap.size := rfl; omega)
          have HOWN3 := Lib.hid hown3
          have u0 := HST3.out.2.2.1.1 0 _ rfl; have u6 := HST3.out.2.2.1.1 6 _ rfl; have uf := HST3.out.2.2.1.2.1
          clear hnew ht3 hg3 hax hdx hnx hkx hown3
          refine wpAnyH_ready (rs := [1, 6]) (by kernel_rfl) (by simp) ?_
          refine AllReadyH.cons (o := ⟨some 74, .load _ _, _, _, _, _⟩) rfl (fun K hK => ?_) (AllReadyH.cons (o := ⟨some 79, .buildSlice _ _ _, _, _, _, _⟩) rfl (fun K hK => ?_) AllReadyH.nil)
          · skip
            go_simp
            refine hK.out _ _ trivial (fun _ => ?_)
            clear hK K
            try simp only [Act.put, List.setIfInBounds_toArray, List.set_cons_zero, List.set_cons_succ]
            refine wpAnyH_ready (rs := [6]) (by kernel_rfl) (by simp) ?_
            refine AllReadyH.cons (o := ⟨some 79, .buildSlice _ _ _, _, _, _, _⟩) rfl (fun K hK => ?_) AllReadyH.nil
            go_simp
            refine hK.out _ _ trivial (fun _ => ?_)
            clear hK K
            try simp only [Act.put, List.setIfInBounds_toArray, List.set_cons_zero, List.set_cons_succ]
            obtain ⟨w4, hw4⟩ : ∃ w4, w3.alloc (.cells #[.int .i64 kk2, .string i2, .string l2, .int .i64 s2, .int .i64 t2, .int .i64 e2, .slice A3 xs2.length c3'] 31) = w4 := ⟨_, rfl⟩
            have hnews := cell7_new w3 31 kk2 i2 l2 s2 t2 e2 A3 xs2.length c3'
            obtain ⟨hb4, hg4, -⟩ := box7 hw4
            rw [hw4] at hnews ⊢
            have HNEWS := Lib.hid hnews; have HW4 := Lib.hid hg4; have HB4 := Lib.hid hb4
            obtain ⟨css, o1, o2, o3'⟩ := HOWN3.out.below hb4
            have HO1 := Lib.hid o1; have HO2 := Lib.hid o2; have HO3 := Lib.hid o3'
            have HST4 := Lib.hid (HST3.out.below hb4)
            clear hnews hb4 hg4 o1 o2 o3' u0 u6 uf hw4
            have u0 := HST4.out.2.2.1.1 0 _ rfl; have u6 := HST4.out.2.2.1.1 6 _ rfl; have uf := HST4.out.2.2.1.2.1
            refine wpAnyH_ready (rs := [7]) (by kernel_rfl) (by simp) ?_
            refine AllReadyH.cons (o := ⟨some 80, .call ⟨_, _, _⟩, _, _, _, _⟩) rfl (fun K hK => ?_) AllReadyH.nil
            refine step_append_lies w4 rfl (.tmp 74) (.tmp 79) 29 rfl (w1.heap.size + 1) 31 i0 _ 7 88 Tryz.underlying29 HI0.out HZ0.out HZ1.out HZ2.out rfl (by decide) v ys.length css.flatten (by simp [Act.eval, Act.put]) HO1.out ⟨w3.heap.size, 0, none⟩ 1 1 (contCells kk2 i2 l2 s2 t2 e2 A3 xs2.length c3') (by simp [Act.eval, Act.put]) rfl HNEWS.out (CRdS_one HNEW.out) (by decide) (by have := HYL.out; have := HN3.out; unfold maxLen; omega) (by have := HYL.out; have := HN3.out; omega) (by have := HW4.out; have := HSZ3.out; omega) _ rfl ?_
            intro g5 cap w5 hown' hgrow hat hltv
            refine hK.out _ _ trivial (fun _ => ?_)
            clear hK K
            try simp only [Act.put, List.setIfInBounds_toArray, List.set_cons_zero, List.set_cons_succ]
            have HOWN5 := Lib.hid hown'; have HGROW := Lib.hid hgrow; have HAT := Lib.hid hat
            have HROWS := Lib.hid (show ∀ q, v.ownBlock = some q → w1.heap.size < q from fun q hq => by have := (HOWN.out.lt q hq).1; omega)
            have HST5 := Lib.hid (HST4.out.row hgrow HROWS.out)
            clear hown' hgrow hat hltv u0 u6 uf
            have u0 := HST5.out.2.2.1.1 0 _ rfl; have u6 := HST5.out.2.2.1.1 6 _ rfl; have uf := HST5.out.2.2.1.2.1
            refine wpAnyH_take (i := 8) (oi := ⟨some 81, _, _, _, _, _⟩) (v := .pointer (some ⟨w1.heap.size, 6, none⟩)) rfl (by kernel_rfl) (by kernel_rfl) (by kernel_rfl) (fun _ _ _ h => h) (Or.inl ⟨by rfl, fun w' hS => by go_simp⟩) trivial ?_
            try simp only [Act.put, List.setIfInBounds_toArray, List.set_cons_zero, List.set_cons_succ]
            refine wpAnyH_ready (rs := [9]) (by kernel_rfl) (by simp) ?_
            refine AllReadyH.cons (o := ⟨none, .store _ _ _, _, _, _, _⟩) rfl (fun K hK => ?_) AllReadyH.nil
            go_simp
            refine hK.out _ _ trivial (fun _ => ?_)
            clear hK K
            try simp only [Act.put, List.setIfInBounds_toArray, List.set_cons_zero, List.set_cons_succ]
            refine wpAnyH_done (by kernel_rfl) ?_ _
            clear u0 u6 uf x0 x1 x2 x3 x4 x5 x6 xf
            have hx4 : CRdS w4 (fun y => w1.heap.size + 1 ≤ y ∧ y < w4.heap.size ∧ v.ownBlock ≠ some y) (.mk kk2 i2 l2 s2 t2 e2 xs2) (contCells kk2 i2 l2 s2 t2 e2 A3 xs2.length c3') :=
              CRdS_mono (fun y hy => ⟨by have h := HST9.out.2.2.1.2.2; have h1 := hy.1; have h2 : wr.drew.heap.size = wr.heap.size := rfl; omega, by have := hy.2; have := HW4.out; omega, fun h => by
                have h0 := (HOWN.out.lt y h).2; have h1 := hy.1; have h2 : wr.drew.heap.size = wr.heap.size := rfl; omega⟩) (fun y o u hy hu => (HB4.out.cell (p := ⟨y, o, none⟩) (by exact hy.2)).trans hu) _ _ HNEW.out
            have hown5 := OwnsC.app (w := w4) HO1.out HO2.out HO3.out hx4 HOWN5.out HGROW.out (fun q hq => by
              have hq2 : q = g5 := (Option.some.inj hq).symm
              subst hq2
              rcases HAT.out with h | h
              · exact .inl h
              · exact .inr (by omega))
            have hown6 := hown5.grownb (grown_one w5 w1.heap.size 6 (.slice (some ⟨g5, 0, none⟩) (ys.length + 1) cap)) (fun y hy e => by omega) (by omega)
            have hst6 := HST5.out.set_ (j := 6) (by simp) (.slice (some ⟨g5, 0, none⟩) (ys.length + 1) cap)
            simp only [List.set_cons_zero, List.set_cons_succ] at hst6
            have hrel6 : MakeRel w B b w.heap.size w1.heap.size (w1.heap.size + 1) xs d k (m + 1) 4 id (1 + fs) (1 + ft) 0 (w5.setCell ⟨w1.heap.size, 6, none⟩ (.slice (some ⟨g5, 0, none⟩) (ys.length + 1) cap)) := by
              refine ⟨_, ys ++ [.mk kk2 i2 l2 s2 t2 e2 xs2], k3, by rw [List.length_append, HYL.out]; rfl, hst6, hown6, fun y hy => ?_, ?_, ?_, ?_⟩
              · rcases List.mem_append.1 hy with h | h
                · exact HALL.out y h
                · simp only [List.mem_singleton] at h; subst h; exact HAX.out
              · have h1 := HDEP.out; have h2 := HDX.out; have h3 := HD1.out
                have := depthL_snoc (.mk kk2 i2 l2 s2 t2 e2 xs2) ys ((d : Int) - 1) (by omega) (by omega)
                omega
              · rw [nodesL_app, Nat.succ_mul]; have h1 := HNOD.out; have h2 := HNX.out; omega
              · rw [Nat.succ_mul]; have h1 := HKR.out; have h2 := HKX.out; omega
            have HREL6 := Lib.hid hrel6
            clear hrel6 hst6 hown6 hown5 hx4
            go_wp2
            go_roundw
            case rel => exact ⟨m + 1, by omega, by go_num, HREL6⟩
            case measure => simp [intOf]; omega
          · skip
            go_simp
            refine hK.out _ _ trivial (fun _ => ?_)
            clear hK K
            try simp only [Act.put, List.setIfInBounds_toArray, List.set_cons_zero, List.set_cons_succ]
            obtain ⟨w4, hw4⟩ : ∃ w4, w3.alloc (.cells #[.int .i64 kk2, .string i2, .string l2, .int .i64 s2, .int .i64 t2, .int .i64 e2, .slice A3 xs2.length c3'] 31) = w4 := ⟨_, rfl⟩
            have hnews := cell7_new w3 31 kk2 i2 l2 s2 t2 e2 A3 xs2.length c3'
            obtain ⟨hb4, hg4, -⟩ := box7 hw4
            rw [hw4] at hnews ⊢
            have HNEWS := Lib.hid hnews; have HW4 := Lib.hid hg4; have HB4 := Lib.hid hb4
            obtain ⟨css, o1, o2, o3'⟩ := HOWN3.out.below hb4
            have HO1 := Lib.hid o1; have HO2 := Lib.hid o2; have HO3 := Lib.hid o3'
            have HST4 := Lib.hid (HST3.out.below hb4)
            clear hnews hb4 hg4 o1 o2 o3' u0 u6 uf hw4
            have u0 := HST4.out.2.2.1.1 0 _ rfl; have u6 := HST4.out.2.2.1.1 6 _ rfl; have uf := HST4.out.2.2.1.2.1
            refine wpAnyH_ready (rs := [1]) (by kernel_rfl) (by simp) ?_
            refine AllReadyH.cons (o := ⟨some 74, .load _ _, _, _, _, _⟩) rfl (fun K hK => ?_) AllReadyH.nil
            go_simp
            refine hK.out _ _ trivial (fun _ => ?_)
            clear hK K
            try simp only [Act.put, List.setIfInBounds_toArray, List.set_cons_zero, List.set_cons_succ]
            refine wpAnyH_ready (rs := [7]) (by kernel_rfl) (by simp) ?_
            refine AllReadyH.cons (o := ⟨some 80, .call ⟨_, _, _⟩, _, _, _, _⟩) rfl (fun K hK => ?_) AllReadyH.nil
            refine step_append_lies w4 rfl (.tmp 74) (.tmp 79) 29 rfl (w1.heap.size + 1) 31 i0 _ 7 88 Tryz.underlying29 HI0.out HZ0.out HZ1.out HZ2.out rfl (by decide) v ys.length css.flatten (by simp [Act.eval, Act.put]) HO1.out ⟨w3.heap.size, 0, none⟩ 1 1 (contCells kk2 i2 l2 s2 t2 e2 A3 xs2.length c3') (by simp [Act.eval, Act.put]) rfl HNEWS.out (CRdS_one HNEW.out) (by decide) (by have := HYL.out; have := HN3.out; unfold maxLen; omega) (by have := HYL.out; have := HN3.out; omega) (by have := HW4.out; have := HSZ3.out; omega) _ rfl ?_
            intro g5 cap w5 hown' hgrow hat hltv
            refine hK.out _ _ trivial (fun _ => ?_)
            clear hK K
            try simp only [Act.put, List.setIfInBounds_toArray, List.set_cons_zero, List.set_cons_succ]
            have HOWN5 := Lib.hid hown'; have HGROW := Lib.hid hgrow; have HAT := Lib.hid hat
            have HROWS := Lib.hid (show ∀ q, v.ownBlock = some q → w1.heap.size < q from fun q hq => by have := (HOWN.out.lt q hq).1; omega)
            have HST5 := Lib.hid (HST4.out.row hgrow HROWS.out)
            clear hown' hgrow hat hltv u0 u6 uf
            have u0 := HST5.out.2.2.1.1 0 _ rfl; have u6 := HST5.out.2.2.1.1 6 _ rfl; have uf := HST5.out.2.2.1.2.1
            refine wpAnyH_take (i := 8) (oi := ⟨some 81, _, _, _, _, _⟩) (v := .pointer (some ⟨w1.heap.size, 6, none⟩)) rfl (by kernel_rfl) (by kernel_rfl) (by kernel_rfl) (fun _ _ _ h => h) (Or.inl ⟨by rfl, fun w' hS => by go_simp⟩) trivial ?_
            try simp only [Act.put, List.setIfInBounds_toArray, List.set_cons_zero, List.set_cons_succ]
            refine wpAnyH_ready (rs := [9]) (by kernel_rfl) (by simp) ?_
            refine AllReadyH.cons (o := ⟨none, .store _ _ _, _, _, _, _⟩) rfl (fun K hK => ?_) AllReadyH.nil
            go_simp
            refine hK.out _ _ trivial (fun _ => ?_)
            clear hK K
            try simp only [Act.put, List.setIfInBounds_toArray, List.set_cons_zero, List.set_cons_succ]
            refine wpAnyH_done (by kernel_rfl) ?_ _
            clear u0 u6 uf x0 x1 x2 x3 x4 x5 x6 xf
            have hx4 : CRdS w4 (fun y => w1.heap.size + 1 ≤ y ∧ y < w4.heap.size ∧ v.ownBlock ≠ some y) (.mk kk2 i2 l2 s2 t2 e2 xs2) (contCells kk2 i2 l2 s2 t2 e2 A3 xs2.length c3') :=
              CRdS_mono (fun y hy => ⟨by have h := HST9.out.2.2.1.2.2; have h1 := hy.1; have h2 : wr.drew.heap.size = wr.heap.size := rfl; omega, by have := hy.2; have := HW4.out; omega, fun h => by
                have h0 := (HOWN.out.lt y h).2; have h1 := hy.1; have h2 : wr.drew.heap.size = wr.heap.size := rfl; omega⟩) (fun y o u hy hu => (HB4.out.cell (p := ⟨y, o, none⟩) (by exact hy.2)).trans hu) _ _ HNEW.out
            have hown5 := OwnsC.app (w := w4) HO1.out HO2.out HO3.out hx4 HOWN5.out HGROW.out (fun q hq => by
              have hq2 : q = g5 := (Option.some.inj hq).symm
              subst hq2
              rcases HAT.out with h | h
              · exact .inl h
              · exact .inr (by omega))
            have hown6 := hown5.grownb (grown_one w5 w1.heap.size 6 (.slice (some ⟨g5, 0, none⟩) (ys.length + 1) cap)) (fun y hy e => by omega) (by omega)
            have hst6 := HST5.out.set_ (j := 6) (by simp) (.slice (some ⟨g5, 0, none⟩) (ys.length + 1) cap)
            simp only [List.set_cons_zero, List.set_cons_succ] at hst6
            have hrel6 : MakeRel w B b w.heap.size w1.heap.size (w1.heap.size + 1) xs d k (m + 1) 4 id (1 + fs) (1 + ft) 0 (w5.setCell ⟨w1.heap.size, 6, none⟩ (.slice (some ⟨g5, 0, none⟩) (ys.length + 1) cap)) := by
              refine ⟨_, ys ++ [.mk kk2 i2 l2 s2 t2 e2 xs2], k3, by rw [List.length_append, HYL.out]; rfl, hst6, hown6, fun y hy => ?_, ?_, ?_, ?_⟩
              · rcases List.mem_append.1 hy with h | h
                · exact HALL.out y h
                · simp only [List.mem_singleton] at h; subst h; exact HAX.out
              · have h1 := HDEP.out; have h2 := HDX.out; have h3 := HD1.out
                have := depthL_snoc (.mk kk2 i2 l2 s2 t2 e2 xs2) ys ((d : Int) - 1) (by omega) (by omega)
                omega
              · rw [nodesL_app, Nat.succ_mul]; have h1 := HNOD.out; have h2 := HNX.out; omega
              · rw [Nat.succ_mul]; have h1 := HKR.out; have h2 := HKX.out; omega
            have HREL6 := Lib.hid hrel6
            clear hrel6 hst6 hown6 hown5 hx4
            go_wp2
            go_roundw
            case rel => exact ⟨m + 1, by omega, by go_num, HREL6⟩
            case measure => simp [intOf]; omega
      · obtain rfl : m = n := by omega
        obtain ⟨A5, c5, rfl, hc51, hc52, hc53⟩ := HOWN.out.cs
        have HC51 := Lib.hid hc51; have HC52 := Lib.hid hc52; have HC53 := Lib.hid hc53; clear hc51 hc52 hc53
        have y0 := HST9.out.2.2.2.1.1 0 _ rfl; have y1 := HST9.out.2.2.2.1.1 1 _ rfl; have y2 := HST9.out.2.2.2.1.1 2 _ rfl; have y3 := HST9.out.2.2.2.1.1 3 _ rfl; have y4 := HST9.out.2.2.2.1.1 4 _ rfl; have y5 := HST9.out.2.2.2.1.1 5 _ rfl; have y6 := HST9.out.2.2.2.1.1 6 _ rfl; have yf := HST9.out.2.2.2.1.2.1
        obtain ⟨q1, q2⟩ := fin_tape (.int .i64 4) (.string id) (.string ByteArray.empty) (.int .i64 (1 + fs)) (.int .i64 (1 + ft)) (.int .i64 0) (.slice A5 ys.length c5) HST9.out.1 HST9.out.2.1 (show w.heap.size ≠ b by omega) (show B ≤ w.heap.size by omega) (Nat.le_refl _)
        have HQ1 := Lib.hid q1; have HQ2 := Lib.hid q2; clear q1 q2
        go_wp2
        refine bodyPost_ret (v := .agg #[.int .i64 4, .string id, .string ByteArray.empty, .int .i64 (1 + fs), .int .i64 (1 + ft), .int .i64 0, .slice A5 ys.length c5]) (by simp [results, Tryz.results12, go_sem, y0, y1, y2, y3, y4, y5, y6]) rfl ⟨.mk 4 id ByteArray.empty (1 + fs) (1 + ft) 0 ys, contCells 4 id ByteArray.empty (1 + fs) (1 + ft) 0 A5 ys.length c5, _, rfl, ?_, HQ1.out, HQ2.out, ?_, ?_, ?_, ?_⟩
        · unfold NewC
          rw [CRdS, fin_size]
          refine ⟨A5, c5, rfl, ⟨by unfold okInt; omega, by unfold maxLen; have := HMid.out.2; omega, by unfold maxLen; decide, by unfold okInt; omega, by unfold okInt; omega, by unfold okInt; omega⟩, HC51.out, HC52.out, fun hn => ?_⟩
          obtain ⟨bb, o, hA, hbb, hcs⟩ := HC53.out hn
          have hs1 := HSZ1.out
          exact ⟨bb, o, hA, ⟨by omega, hbb.2⟩, CsAtS_mono (fun y hy => ⟨by have := hy.1; omega, hy.2⟩) (fun y o u hy hu => fin_cells _ _ _ _ _ _ _ y o u (by have := hy.1; omega) hu) bb hbb ys o hcs⟩
        · refine AllOk_mk.2 ⟨?_, HALL.out⟩
          have h1 := HMid.out.1; have h2 := HYL.out; have h3 := HN3.out
          simp [ownB, slots2, noneB, withinB, h1, h2]
          try decide +kernel
          try omega
        · have h1 := HDEP.out; rw [depthC, if_neg (by decide)]; exact h1
        · have h1 := HNOD.out; have h2 := HN3.out; have h3 := H44.out; have h4 := H41.out; have h5 : m * 4 ^ (d - 1) ≤ 3 * 4 ^ (d - 1) := Nat.mul_le_mul_right _ h2.2
          rw [nodesC]; omega
        · have h1 := HKR.out; have h2 := HN3.out; have h3 := H44.out; have h4 := H41.out; have h5 : m * (6 * 4 ^ (d - 1)) ≤ 3 * (6 * 4 ^ (d - 1)) := Nat.mul_le_mul_right _ h2.2
          omega
  · go_upto_region 5 with fail
    try simp only [Int.ofNat_one, Int.Nat.cast_ofNat_Int]
    obtain ⟨w2, hw2⟩ : ∃ w2, w1.alloc (.cells #[.int .i64 5, .string ByteArray.empty, .string ByteArray.empty, .int .i64 0, .int .i64 0, .int .i64 0, .slice none 0 0] 31) = w2 := ⟨_, rfl⟩
    obtain ⟨hb2, hg2, -⟩ := box7 hw2
    have hbox2 : BoxL w2 w1.heap.size [.int .i64 5, .string ByteArray.empty, .string ByteArray.empty, .int .i64 0, .int .i64 0, .int .i64 0, .slice none 0 0] := by
      refine ⟨fun j u hu => ?_, box7f hw2, by omega⟩
      rw [← hw2, World.cell?_alloc_at _ _ _ _ rfl]
      simpa using hu
    have HST0 : Hid (StT w B b w.heap.size w1.heap.size xs w2 (k + 1) [.int .i64 5, .string ByteArray.empty, .string ByteArray.empty, .int .i64 0, .int .i64 0, .int .i64 0, .slice none 0 0]) := Lib.hid ⟨HT1.out.kept (grown_none hb2) (fun e => by cases e) (fun g hg => by cases hg), grown_below HG1.out hb2, hbox2, HB1.out.kept (grown_none hb2) (fun e => by cases e), hBb, hbw, Nat.le_refl _, HSZ1.out⟩
    rw [hw2]
    have HG2 := Lib.hid hg2
    clear hw2 hb2 hg2 hbox2
    go_wp2_with fail
    have hbx : Below w2.heap.size w2 (w2.alloc (.cells #[.string ⟨#[97]⟩, .string ⟨#[114, 49]⟩, .string ⟨#[120, 46, 121, 45, 122]⟩] 9)) := (Below.refl _ _).alloc (Nat.le_refl _) _
    have hstx := HST0.out.below hbx
    refine (One_any xs (k + 1) B b idsL w2.heap.size 0 idsL.length _ (by have := HKB.out; have := H4.out; omega) hstx.1 (by decide) (by decide) (Nat.le_refl _) (by unfold maxLen; decide) (by have := HST0.out.1.choose_spec.choose_spec.2.2.2.2.2; omega) (fun i y hy => cells_new _ _ _ i _ (by simp only [idsL] at hy; rcases i with _ | _ | _ | i <;> simp at hy ⊢ <;> exact hy))).mono ?_
    rintro e' w3 ⟨rfl, htq, hgq⟩
    have hmem : idsL.getD (foldI (tapeI xs (k + 1)) idsL.length).toNat ⟨#[]⟩ ∈ idsL := getD_mem (by have := @foldI_range (tapeI xs (k + 1)) idsL.length (by decide); omega)
    obtain ⟨id, hid⟩ : ∃ y, idsL.getD (foldI (tapeI xs (k + 1)) idsL.length).toNat ⟨#[]⟩ = y := ⟨_, rfl⟩
    rw [hid] at hmem ⊢
    have HMid := Lib.hid (ids_ok id hmem); have HST3 := Lib.hid (hstx.go htq hgq)
    clear hbx hstx htq hgq hmem hid
    have x0 := HST3.out.2.2.1.1 0 _ rfl; have x1 := HST3.out.2.2.1.1 1 _ rfl; have x2 := HST3.out.2.2.1.1 2 _ rfl; have x3 := HST3.out.2.2.1.1 3 _ rfl; have x4 := HST3.out.2.2.1.1 4 _ rfl; have x5 := HST3.out.2.2.1.1 5 _ rfl; have x6 := HST3.out.2.2.1.1 6 _ rfl; have xf := HST3.out.2.2.1.2.1
    go_upto_region 21 with fail
    clear x0 x1 x2 x3 x4 x5 x6 xf
    have HST4 := Lib.hid (HST3.out.set_ (j := 1) (by simp) (.string id))
    simp only [List.set_cons_zero, List.set_cons_succ] at HST4
    obtain ⟨w4, hwf⟩ : ∃ z, w3.setCell ⟨w1.heap.size, 1, none⟩ (.string id) = z := ⟨_, rfl⟩
    rw [hwf] at HST4 ⊢
    clear hwf
    go_wp2_with fail
    refine (Next_any xs (k + 1 + 1) B b 3 _ (by unfold okInt; omega) (by have := HKB.out; have := H4.out; omega) HST4.out.1).mono ?_
    rintro e' w5 ⟨rfl, htq, hgq⟩
    have hrfn := @foldI_pos (tapeI xs (k + 1 + 1)) 3 (by omega)
    obtain ⟨fn, hfn⟩ : ∃ y, foldI (tapeI xs (k + 1 + 1)) 3 = y := ⟨_, rfl⟩
    rw [hfn] at hrfn ⊢
    have HST5 := Lib.hid (HST4.out.go htq hgq)
    clear htq hgq hfn
    go_upto_region 22 with fail
    have hn3 : 1 ≤ (1 + fn) ∧ (1 + fn) ≤ 3 := by omega
    obtain ⟨n, hn⟩ := Int.eq_ofNat_of_zero_le (show 0 ≤ (1 + fn) by omega)
    have HNE := Lib.hid hn
    have hn4 : n ≤ 3 := by omega
    have HN3 := Lib.hid (show 1 ≤ n ∧ n ≤ 3 by omega)
    have HD1 := Lib.hid (show 1 ≤ d by omega)
    have h44 : 4 ^ d = 4 * 4 ^ (d - 1) := by rw [← Nat.pow_succ', show (d - 1).succ = d by omega]
    have h41 : 1 ≤ 4 ^ (d - 1) := Nat.one_le_pow _ _ (by decide)
    have H44 := Lib.hid h44; have H41 := Lib.hid h41; clear h44 h41
    try rw [hn]
    have hrel0 : MakeRel w B b w.heap.size w1.heap.size (w1.heap.size + 1) xs d k 0 5 id 0 0 0 w5 := by
      refine ⟨.slice none 0 0, [], _, rfl, HST5.out, OwnsC.nil_ _ _ _ _, (fun y hy => by cases hy), by rw [depthL]; have := HD1.out; omega, by rw [nodesL]; omega, by omega⟩
    have HREL0 := Lib.hid hrel0; clear hrel0 hn3 hn
    go_wp2_with fail
    go_loopw [8] (fun i wr => ∃ m : Nat, m ≤ n ∧ i = .int .i64 m ∧ Hid (MakeRel w B b w.heap.size w1.heap.size (w1.heap.size + 1) xs d k m 5 id 0 0 0 wr)) (fun i _ => n - (intOf i).toNat)
    case atStart => exact ⟨0, Nat.zero_le _, rfl, HREL0⟩
    case round =>
      obtain ⟨m, hm, rfl, HR⟩ := hrel
      obtain ⟨v, ys, kr, hyl, hst, hown, hall, hdep, hnod, hkr⟩ := HR.out
      clear HR HREL0
      have HST9 := Lib.hid hst; have HOWN := Lib.hid hown; have HALL := Lib.hid hall; have HDEP := Lib.hid hdep; have HNOD := Lib.hid hnod; have HKR := Lib.hid hkr; have HYL := Lib.hid hyl
      clear hst hown hall hdep hnod hkr hyl
      have x0 := HST9.out.2.2.1.1 0 _ rfl; have x1 := HST9.out.2.2.1.1 1 _ rfl; have x2 := HST9.out.2.2.1.1 2 _ rfl; have x3 := HST9.out.2.2.1.1 3 _ rfl; have x4 := HST9.out.2.2.1.1 4 _ rfl; have x5 := HST9.out.2.2.1.1 5 _ rfl; have x6 := HST9.out.2.2.1.1 6 _ rfl; have xf := HST9.out.2.2.1.2.1
      by_cases hlt : m < n
      · have i1 : (m : Int) < (n : Int) := by omega
        have hm2 : m * (6 * 4 ^ (d - 1)) ≤ 2 * (6 * 4 ^ (d - 1)) := Nat.mul_le_mul_right _ (by have := HN3.out; omega)
        have hcall := HIH.out (by have := HD1.out; omega) kr wr.drew (by have := HKB.out; have := H44.out; have := H41.out; have := HKR.out; omega) (HST9.out.below (below_drewN_self wr _ 1)).1
        have HJ := Lib.hid (show (d : Int) - 1 = ((d - 1 : Nat) : Int) by have := HD1.out; omega)
        have HCALL := Lib.hid hcall; clear hcall hm2
        go_wp2_with fail
        refine wp_region_held_drew (S := fun _ => True) (by kernel_rfl) trivial (fun _ => ?_)
        refine wpAnyH_take (i := 0) (oi := ⟨some 73, _, _, _, _, _⟩) (v := .pointer (some ⟨w1.heap.size, 6, none⟩)) rfl (by kernel_rfl) (by kernel_rfl) (by kernel_rfl) (fun _ _ _ h => h) (Or.inl ⟨by rfl, fun w' hS => by go_simp⟩) trivial ?_
        try simp only [Act.put, List.setIfInBounds_toArray, List.set_cons_zero, List.set_cons_succ]
        refine wpAnyH_take (i := 2) (oi := ⟨some 75, _, _, _, _, _⟩) (v := .pointer (some ⟨b, 0, none⟩)) rfl (by kernel_rfl) (by kernel_rfl) (by kernel_rfl) (fun _ _ _ h => h) (Or.inl ⟨by rfl, fun w' hS => by go_simp⟩) trivial ?_
        try simp only [Act.put, List.setIfInBounds_toArray, List.set_cons_zero, List.set_cons_succ]
        refine wpAnyH_take (i := 3) (oi := ⟨some 76, _, _, _, _, _⟩) (v := .int .i64 d) rfl (by kernel_rfl) (by kernel_rfl) (by kernel_rfl) (fun _ _ _ h => h) (Or.inl ⟨by rfl, fun w' hS => by go_simp⟩) trivial ?_
        try simp only [Act.put, List.setIfInBounds_toArray, List.set_cons_zero, List.set_cons_succ]
        refine wpAnyH_take (i := 4) (oi := ⟨some 77, _, _, _, _, _⟩) (v := .int .i64 ((d : Int) - 1)) rfl (by kernel_rfl) (by kernel_rfl) (by kernel_rfl) (fun _ _ _ h => h) (Or.inl ⟨by rfl, fun w' hS => by (have hwr : IntKind.i64.wrap ((d : Int) - 1) = (d : Int) - 1 := (by rw [IntKind.wrap_i64]; omega)); go_simp; try rw [hwr]⟩) trivial ?_
        try simp only [Act.put, List.setIfInBounds_toArray, List.set_cons_zero, List.set_cons_succ]
        refine wpAnyH_ready (rs := [1, 5]) (by kernel_rfl) (by simp) ?_
        refine AllReadyH.cons (o := ⟨some 74, .load _ _, _, _, _, _⟩) rfl (fun K hK => ?_) (AllReadyH.cons (o := ⟨some 78, .call ⟨_, _, _⟩, _, _, _, _⟩) rfl (fun K hK => ?_) AllReadyH.nil)
        · skip
          go_simp
          refine hK.out _ _ trivial (fun _ => ?_)
          clear hK K
          try simp only [Act.put, List.setIfInBounds_toArray, List.set_cons_zero, List.set_cons_succ]
          refine wpAnyH_ready (rs := [5]) (by kernel_rfl) (by simp) ?_
          refine AllReadyH.cons (o := ⟨some 78, .call ⟨_, _, _⟩, _, _, _, _⟩) rfl (fun K hK => ?_) AllReadyH.nil
          go_simp
          go_at_call 12
          try rw [HJ.out]
          refine HCALL.out.mono ?_
          rintro e' w3 ⟨x, cs3, k3, rfl, hnew, ht3, hg3, hax, hdx, hnx, hkx⟩
          refine hK.out _ _ trivial (fun _ => ?_)
          clear hK K
          try simp only [Act.put, List.setIfInBounds_toArray, List.set_cons_zero, List.set_cons_succ]
          obtain ⟨kk2, i2, l2, s2, t2, e2, xs2⟩ := x
          obtain ⟨A3, c3', rfl⟩ := CRdS_cells hnew
          simp only [contCells]
          have HST3 := Lib.hid ((HST9.out.below (below_drewN_self wr _ 1)).go ht3 hg3)
          have HNEW := Lib.hid hnew; have HAX := Lib.hid hax; have HDX := Lib.hid hdx; have HNX := Lib.hid hnx; have HKX := Lib.hid hkx
          have hown3 := (HOWN.out.below (below_drewN_self wr _ 1)).grownb hg3 (fun y hy e => by have := HST9.out.2.2.2.2; omega) (by have := HST9.out.2.2.2.2; omega)
          have HSZ3 := Lib.hid (show w1.heap.size + 1 ≤ w3.heap.size from by have := HST9.out.2.2.1.2.2; have h := hg3.size; have h2 : wr.drew.heap.size = wr.heap.size := rfl; omega)
          have HOWN3 := Lib.hid hown3
          have u0 := HST3.out.2.2.1.1 0 _ rfl; have u6 := HST3.out.2.2.1.1 6 _ rfl; have uf := HST3.out.2.2.1.2.1
          clear hnew ht3 hg3 hax hdx hnx hkx hown3
          refine wpAnyH_ready (rs := [6]) (by kernel_rfl) (by simp) ?_
          refine AllReadyH.cons (o := ⟨some 79, .buildSlice _ _ _, _, _, _, _⟩) rfl (fun K hK => ?_) AllReadyH.nil
          go_simp
          refine hK.out _ _ trivial (fun _ => ?_)
          clear hK K
          try simp only [Act.put, List.setIfInBounds_toArray, List.set_cons_zero, List.set_cons_succ]
          obtain ⟨w4, hw4⟩ : ∃ w4, w3.alloc (.cells #[.int .i64 kk2, .string i2, .string l2, .int .i64 s2, .int .i64 t2, .int .i64 e2, .slice A3 xs2.length c3'] 31) = w4 := ⟨_, rfl⟩
          have hnews := cell7_new w3 31 kk2 i2 l2 s2 t2 e2 A3 xs2.length c3'
          obtain ⟨hb4, hg4, -⟩ := box7 hw4
          rw [hw4] at hnews ⊢
          have HNEWS := Lib.hid hnews; have HW4 := Lib.hid hg4; have HB4 := Lib.hid hb4
          obtain ⟨css, o1, o2, o3'⟩ := HOWN3.out.below hb4
          have HO1 := Lib.hid o1; have HO2 := Lib.hid o2; have HO3 := Lib.hid o3'
          have HST4 := Lib.hid (HST3.out.below hb4)
          clear hnews hb4 hg4 o1 o2 o3' u0 u6 uf hw4
          have u0 := HST4.out.2.2.1.1 0 _ rfl; have u6 := HST4.out.2.2.1.1 6 _ rfl; have uf := HST4.out.2.2.1.2.1
          refine wpAnyH_ready (rs := [7]) (by kernel_rfl) (by simp) ?_
          refine AllReadyH.cons (o := ⟨some 80, .call ⟨_, _, _⟩, _, _, _, _⟩) rfl (fun K hK => ?_) AllReadyH.nil
          refine step_append_lies w4 rfl (.tmp 74) (.tmp 79) 29 rfl (w1.heap.size + 1) 31 i0 _ 7 88 Tryz.underlying29 HI0.out HZ0.out HZ1.out HZ2.out rfl (by decide) v ys.length css.flatten (by simp [Act.eval, Act.put]) HO1.out ⟨w3.heap.size, 0, none⟩ 1 1 (contCells kk2 i2 l2 s2 t2 e2 A3 xs2.length c3') (by simp [Act.eval, Act.put]) rfl HNEWS.out (CRdS_one HNEW.out) (by decide) (by have := HYL.out; have := HN3.out; unfold maxLen; omega) (by have := HYL.out; have := HN3.out; omega) (by have := HW4.out; have := HSZ3.out; omega) _ rfl ?_
          intro g5 cap w5 hown' hgrow hat hltv
          refine hK.out _ _ trivial (fun _ => ?_)
          clear hK K
          try simp only [Act.put, List.setIfInBounds_toArray, List.set_cons_zero, List.set_cons_succ]
          have HOWN5 := Lib.hid hown'; have HGROW := Lib.hid hgrow; have HAT := Lib.hid hat
          have HROWS := Lib.hid (show ∀ q, v.ownBlock = some q → w1.heap.size < q from fun q hq => by have := (HOWN.out.lt q hq).1; omega)
          have HST5 := Lib.hid (HST4.out.row hgrow HROWS.out)
          clear hown' hgrow hat hltv u0 u6 uf
          have u0 := HST5.out.2.2.1.1 0 _ rfl; have u6 := HST5.out.2.2.1.1 6 _ rfl; have uf := HST5.out.2.2.1.2.1
          refine wpAnyH_take (i := 8) (oi := ⟨some 81, _, _, _, _, _⟩) (v := .pointer (some ⟨w1.heap.size, 6, none⟩)) rfl (by kernel_rfl) (by kernel_rfl) (by kernel_rfl) (fun _ _ _ h => h) (Or.inl ⟨by rfl, fun w' hS => by go_simp⟩) trivial ?_
          try simp only [Act.put, List.setIfInBounds_toArray, List.set_cons_zero, List.set_cons_succ]
          refine wpAnyH_ready (rs := [9]) (by kernel_rfl) (by simp) ?_
          refine AllReadyH.cons (o := ⟨none, .store _ _ _, _, _, _, _⟩) rfl (fun K hK => ?_) AllReadyH.nil
          go_simp
          refine hK.out _ _ trivial (fun _ => ?_)
          clear hK K
          try simp only [Act.put, List.setIfInBounds_toArray, List.set_cons_zero, List.set_cons_succ]
          refine wpAnyH_done (by kernel_rfl) ?_ _
          clear u0 u6 uf x0 x1 x2 x3 x4 x5 x6 xf
          have hx4 : CRdS w4 (fun y => w1.heap.size + 1 ≤ y ∧ y < w4.heap.size ∧ v.ownBlock ≠ some y) (.mk kk2 i2 l2 s2 t2 e2 xs2) (contCells kk2 i2 l2 s2 t2 e2 A3 xs2.length c3') :=
            CRdS_mono (fun y hy => ⟨by have h := HST9.out.2.2.1.2.2; have h1 := hy.1; have h2 : wr.drew.heap.size = wr.heap.size := rfl; omega, by have := hy.2; have := HW4.out; omega, fun h => by
              have h0 := (HOWN.out.lt y h).2; have h1 := hy.1; have h2 : wr.drew.heap.size = wr.heap.size := rfl; omega⟩) (fun y o u hy hu => (HB4.out.cell (p := ⟨y, o, none⟩) (by exact hy.2)).trans hu) _ _ HNEW.out
          have hown5 := OwnsC.app (w := w4) HO1.out HO2.out HO3.out hx4 HOWN5.out HGROW.out (fun q hq => by
            have hq2 : q = g5 := (Option.some.inj hq).symm
            subst hq2
            rcases HAT.out with h | h
            · exact .inl h
            · exact .inr (by omega))
          have hown6 := hown5.grownb (grown_one w5 w1.heap.size 6 (.slice (some ⟨g5, 0, none⟩) (ys.length + 1) cap)) (fun y hy e => by omega) (by omega)
          have hst6 := HST5.out.set_ (j := 6) (by simp) (.slice (some ⟨g5, 0, none⟩) (ys.length + 1) cap)
          simp only [List.set_cons_zero, List.set_cons_succ] at hst6
          have hrel6 : MakeRel w B b w.heap.size w1.heap.size (w1.heap.size + 1) xs d k (m + 1) 5 id 0 0 0 (w5.setCell ⟨w1.heap.size, 6, none⟩ (.slice (some ⟨g5, 0, none⟩) (ys.length + 1) cap)) := by
            refine ⟨_, ys ++ [.mk kk2 i2 l2 s2 t2 e2 xs2], k3, by rw [List.length_append, HYL.out]; rfl, hst6, hown6, fun y hy => ?_, ?_, ?_, ?_⟩
            · rcases List.mem_append.1 hy with h | h
              · exact HALL.out y h
              · simp only [List.mem_singleton] at h; subst h; exact HAX.out
            · have h1 := HDEP.out; have h2 := HDX.out; have h3 := HD1.out
              have := depthL_snoc (.mk kk2 i2 l2 s2 t2 e2 xs2) ys ((d : Int) - 1) (by omega) (by omega)
              omega
            · rw [nodesL_app, Nat.succ_mul]; have h1 := HNOD.out; have h2 := HNX.out; omega
            · rw [Nat.succ_mul]; have h1 := HKR.out; have h2 := HKX.out; omega
          have HREL6 := Lib.hid hrel6
          clear hrel6 hst6 hown6 hown5 hx4
          go_wp2
          go_roundw
          case rel => exact ⟨m + 1, by omega, by go_num, HREL6⟩
          case measure => simp [intOf]; omega
        · skip
          go_simp
          go_at_call 12
          try rw [HJ.out]
          refine HCALL.out.mono ?_
          rintro e' w3 ⟨x, cs3, k3, rfl, hnew, ht3, hg3, hax, hdx, hnx, hkx⟩
          refine hK.out _ _ trivial (fun _ => ?_)
          clear hK K
          try simp only [Act.put, List.setIfInBounds_toArray, List.set_cons_zero, List.set_cons_succ]
          obtain ⟨kk2, i2, l2, s2, t2, e2, xs2⟩ := x
          obtain ⟨A3, c3', rfl⟩ := CRdS_cells hnew
          simp only [contCells]
          have HST3 := Lib.hid ((HST9.out.below (below_drewN_self wr _ 1)).go ht3 hg3)
          have HNEW := Lib.hid hnew; have HAX := Lib.hid hax; have HDX := Lib.hid hdx; have HNX := Lib.hid hnx; have HKX := Lib.hid hkx
          have hown3 := (HOWN.out.below (below_drewN_self wr _ 1)).grownb hg3 (fun y hy e => by have := HST9.out.2.2.2.2; omega) (by have := HST9.out.2.2.2.2; omega)
          have HSZ3 := Lib.hid (show w1.heap.size + 1 ≤ w3.heap.size from by have := HST9.out.2.2.1.2.2; have h := hg3.size; have h2 : wr.drew.heap.size = wr.heap.size := rfl; omega)
          have HOWN3 := Lib.hid hown3
          have u0 := HST3.out.2.2.1.1 0 _ rfl; have u6 := HST3.out.2.2.1.1 6 _ rfl; have uf := HST3.out.2.2.1.2.1
          clear hnew ht3 hg3 hax hdx hnx hkx hown3
          refine wpAnyH_ready (rs := [1, 6]) (by kernel_rfl) (by simp) ?_
          refine AllReadyH.cons (o := ⟨some 74, .load _ _, _, _, _, _⟩) rfl (fun K hK => ?_) (AllReadyH.cons (o := ⟨some 79, .buildSlice _ _ _, _, _, _, _⟩) rfl (fun K hK => ?_) AllReadyH.nil)
          · skip
            go_simp
            refine hK.out _ _ trivial (fun _ => ?_)
            clear hK K
            try simp only [Act.put, List.setIfInBounds_toArray, List.set_cons_zero, List.set_cons_succ]
            refine wpAnyH_ready (rs := [6]) (by kernel_rfl) (by simp) ?_
            refine AllReadyH.cons (o := ⟨some 79, .buildSlice _ _ _, _, _, _, _⟩) rfl (fun K hK => ?_) AllReadyH.nil
            go_simp
            refine hK.out _ _ trivial (fun _ => ?_)
            clear hK K
            try simp only [Act.put, List.setIfInBounds_toArray, List.set_cons_zero, List.set_cons_succ]
            obtain ⟨w4, hw4⟩ : ∃ w4, w3.alloc (.cells #[.int .i64 kk2, .string i2, .string l2, .int .i64 s2, .int .i64 t2, .int .i64 e2, .slice A3 xs2.length c3'] 31) = w4 := ⟨_, rfl⟩
            have hnews := cell7_new w3 31 kk2 i2 l2 s2 t2 e2 A3 xs2.length c3'
            obtain ⟨hb4, hg4, -⟩ := box7 hw4
            rw [hw4] at hnews ⊢
            have HNEWS := Lib.hid hnews; have HW4 := Lib.hid hg4; have HB4 := Lib.hid hb4
            obtain ⟨css, o1, o2, o3'⟩ := HOWN3.out.below hb4
            have HO1 := Lib.hid o1; have HO2 := Lib.hid o2; have HO3 := Lib.hid o3'
            have HST4 := Lib.hid (HST3.out.below hb4)
            clear hnews hb4 hg4 o1 o2 o3' u0 u6 uf hw4
            have u0 := HST4.out.2.2.1.1 0 _ rfl; have u6 := HST4.out.2.2.1.1 6 _ rfl; have uf := HST4.out.2.2.1.2.1
            refine wpAnyH_ready (rs := [7]) (by kernel_rfl) (by simp) ?_
            refine AllReadyH.cons (o := ⟨some 80, .call ⟨_, _, _⟩, _, _, _, _⟩) rfl (fun K hK => ?_) AllReadyH.nil
            refine step_append_lies w4 rfl (.tmp 74) (.tmp 79) 29 rfl (w1.heap.size + 1) 31 i0 _ 7 88 Tryz.underlying29 HI0.out HZ0.out HZ1.out HZ2.out rfl (by decide) v ys.length css.flatten (by simp [Act.eval, Act.put]) HO1.out ⟨w3.heap.size, 0, none⟩ 1 1 (contCells kk2 i2 l2 s2 t2 e2 A3 xs2.length c3') (by simp [Act.eval, Act.put]) rfl HNEWS.out (CRdS_one HNEW.out) (by decide) (by have := HYL.out; have := HN3.out; unfold maxLen; omega) (by have := HYL.out; have := HN3.out; omega) (by have := HW4.out; have := HSZ3.out; omega) _ rfl ?_
            intro g5 cap w5 hown' hgrow hat hltv
            refine hK.out _ _ trivial (fun _ => ?_)
            clear hK K
            try simp only [Act.put, List.setIfInBounds_toArray, List.set_cons_zero, List.set_cons_succ]
            have HOWN5 := Lib.hid hown'; have HGROW := Lib.hid hgrow; have HAT := Lib.hid hat
            have HROWS := Lib.hid (show ∀ q, v.ownBlock = some q → w1.heap.size < q from fun q hq => by have := (HOWN.out.lt q hq).1; omega)
            have HST5 := Lib.hid (HST4.out.row hgrow HROWS.out)
            clear hown' hgrow hat hltv u0 u6 uf
            have u0 := HST5.out.2.2.1.1 0 _ rfl; have u6 := HST5.out.2.2.1.1 6 _ rfl; have uf := HST5.out.2.2.1.2.1
            refine wpAnyH_take (i := 8) (oi := ⟨some 81, _, _, _, _, _⟩) (v := .pointer (some ⟨w1.heap.size, 6, none⟩)) rfl (by kernel_rfl) (by kernel_rfl) (by kernel_rfl) (fun _ _ _ h => h) (Or.inl ⟨by rfl, fun w' hS => by go_simp⟩) trivial ?_
            try simp only [Act.put, List.setIfInBounds_toArray, List.set_cons_zero, List.set_cons_succ]
            refine wpAnyH_ready (rs := [9]) (by kernel_rfl) (by simp) ?_
            refine AllReadyH.cons (o := ⟨none, .store _ _ _, _, _, _, _⟩) rfl (fun K hK => ?_) AllReadyH.nil
            go_simp
            refine hK.out _ _ trivial (fun _ => ?_)
            clear hK K
            try simp only [Act.put, List.setIfInBounds_toArray, List.set_cons_zero, List.set_cons_succ]
            refine wpAnyH_done (by kernel_rfl) ?_ _
            clear u0 u6 uf x0 x1 x2 x3 x4 x5 x6 xf
            have hx4 : CRdS w4 (fun y => w1.heap.size + 1 ≤ y ∧ y < w4.heap.size ∧ v.ownBlock ≠ some y) (.mk kk2 i2 l2 s2 t2 e2 xs2) (contCells kk2 i2 l2 s2 t2 e2 A3 xs2.length c3') :=
              CRdS_mono (fun y hy => ⟨by have h := HST9.out.2.2.1.2.2; have h1 := hy.1; have h2 : wr.drew.heap.size = wr.heap.size := rfl; omega, by have := hy.2; have := HW4.out; omega, fun h => by
                have h0 := (HOWN.out.lt y h).2; have h1 := hy.1; have h2 : wr.drew.heap.size = wr.heap.size := rfl; omega⟩) (fun y o u hy hu => (HB4.out.cell (p := ⟨y, o, none⟩) (by exact hy.2)).trans hu) _ _ HNEW.out
            have hown5 := OwnsC.app (w := w4) HO1.out HO2.out HO3.out hx4 HOWN5.out HGROW.out (fun q hq => by
              have hq2 : q = g5 := (Option.some.inj hq).symm
              subst hq2
              rcases HAT.out with h | h
              · exact .inl h
              · exact .inr (by omega))
            have hown6 := hown5.grownb (grown_one w5 w1.heap.size 6 (.slice (some ⟨g5, 0, none⟩) (ys.length + 1) cap)) (fun y hy e => by omega) (by omega)
            have hst6 := HST5.out.set_ (j := 6) (by simp) (.slice (some ⟨g5, 0, none⟩) (ys.length + 1) cap)
            simp only [List.set_cons_zero, List.set_cons_succ] at hst6
            have hrel6 : MakeRel w B b w.heap.size w1.heap.size (w1.heap.size + 1) xs d k (m + 1) 5 id 0 0 0 (w5.setCell ⟨w1.heap.size, 6, none⟩ (.slice (some ⟨g5, 0, none⟩) (ys.length + 1) cap)) := by
              refine ⟨_, ys ++ [.mk kk2 i2 l2 s2 t2 e2 xs2], k3, by rw [List.length_append, HYL.out]; rfl, hst6, hown6, fun y hy => ?_, ?_, ?_, ?_⟩
              · rcases List.mem_append.1 hy with h | h
                · exact HALL.out y h
                · simp only [List.mem_singleton] at h; subst h; exact HAX.out
              · have h1 := HDEP.out; have h2 := HDX.out; have h3 := HD1.out
                have := depthL_snoc (.mk kk2 i2 l2 s2 t2 e2 xs2) ys ((d : Int) - 1) (by omega) (by omega)
                omega
              · rw [nodesL_app, Nat.succ_mul]; have h1 := HNOD.out; have h2 := HNX.out; omega
              · rw [Nat.succ_mul]; have h1 := HKR.out; have h2 := HKX.out; omega
            have HREL6 := Lib.hid hrel6
            clear hrel6 hst6 hown6 hown5 hx4
            go_wp2
            go_roundw
            case rel => exact ⟨m + 1, by omega, by go_num, HREL6⟩
            case measure => simp [intOf]; omega
          · skip
            go_simp
            refine hK.out _ _ trivial (fun _ => ?_)
            clear hK K
            try simp only [Act.put, List.setIfInBounds_toArray, List.set_cons_zero, List.set_cons_succ]
            obtain ⟨w4, hw4⟩ : ∃ w4, w3.alloc (.cells #[.int .i64 kk2, .string i2, .string l2, .int .i64 s2, .int .i64 t2, .int .i64 e2, .slice A3 xs2.length c3'] 31) = w4 := ⟨_, rfl⟩
            have hnews := cell7_new w3 31 kk2 i2 l2 s2 t2 e2 A3 xs2.length c3'
            obtain ⟨hb4, hg4, -⟩ := box7 hw4
            rw [hw4] at hnews ⊢
            have HNEWS := Lib.hid hnews; have HW4 := Lib.hid hg4; have HB4 := Lib.hid hb4
            obtain ⟨css, o1, o2, o3'⟩ := HOWN3.out.below hb4
            have HO1 := Lib.hid o1; have HO2 := Lib.hid o2; have HO3 := Lib.hid o3'
            have HST4 := Lib.hid (HST3.out.below hb4)
            clear hnews hb4 hg4 o1 o2 o3' u0 u6 uf hw4
            have u0 := HST4.out.2.2.1.1 0 _ rfl; have u6 := HST4.out.2.2.1.1 6 _ rfl; have uf := HST4.out.2.2.1.2.1
            refine wpAnyH_ready (rs := [1]) (by kernel_rfl) (by simp) ?_
            refine AllReadyH.cons (o := ⟨some 74, .load _ _, _, _, _, _⟩) rfl (fun K hK => ?_) AllReadyH.nil
            go_simp
            refine hK.out _ _ trivial (fun _ => ?_)
            clear hK K
            try simp only [Act.put, List.setIfInBounds_toArray, List.set_cons_zero, List.set_cons_succ]
            refine wpAnyH_ready (rs := [7]) (by kernel_rfl) (by simp) ?_
            refine AllReadyH.cons (o := ⟨some 80, .call ⟨_, _, _⟩, _, _, _, _⟩) rfl (fun K hK => ?_) AllReadyH.nil
            refine step_append_lies w4 rfl (.tmp 74) (.tmp 79) 29 rfl (w1.heap.size + 1) 31 i0 _ 7 88 Tryz.underlying29 HI0.out HZ0.out HZ1.out HZ2.out rfl (by decide) v ys.length css.flatten (by simp [Act.eval, Act.put]) HO1.out ⟨w3.heap.size, 0, none⟩ 1 1 (contCells kk2 i2 l2 s2 t2 e2 A3 xs2.length c3') (by simp [Act.eval, Act.put]) rfl HNEWS.out (CRdS_one HNEW.out) (by decide) (by have := HYL.out; have := HN3.out; unfold maxLen; omega) (by have := HYL.out; have := HN3.out; omega) (by have := HW4.out; have := HSZ3.out; omega) _ rfl ?_
            intro g5 cap w5 hown' hgrow hat hltv
            refine hK.out _ _ trivial (fun _ => ?_)
            clear hK K
            try simp only [Act.put, List.setIfInBounds_toArray, List.set_cons_zero, List.set_cons_succ]
            have HOWN5 := Lib.hid hown'; have HGROW := Lib.hid hgrow; have HAT := Lib.hid hat
            have HROWS := Lib.hid (show ∀ q, v.ownBlock = some q → w1.heap.size < q from fun q hq => by have := (HOWN.out.lt q hq).1; omega)
            have HST5 := Lib.hid (HST4.out.row hgrow HROWS.out)
            clear hown' hgrow hat hltv u0 u6 uf
            have u0 := HST5.out.2.2.1.1 0 _ rfl; have u6 := HST5.out.2.2.1.1 6 _ rfl; have uf := HST5.out.2.2.1.2.1
            refine wpAnyH_take (i := 8) (oi := ⟨some 81, _, _, _, _, _⟩) (v := .pointer (some ⟨w1.heap.size, 6, none⟩)) rfl (by kernel_rfl) (by kernel_rfl) (by kernel_rfl) (fun _ _ _ h => h) (Or.inl ⟨by rfl, fun w' hS => by go_simp⟩) trivial ?_
            try simp only [Act.put, List.setIfInBounds_toArray, List.set_cons_zero, List.set_cons_succ]
            refine wpAnyH_ready (rs := [9]) (by kernel_rfl) (by simp) ?_
            refine AllReadyH.cons (o := ⟨none, .store _ _ _, _, _, _, _⟩) rfl (fun K hK => ?_) AllReadyH.nil
            go_simp
            refine hK.out _ _ trivial (fun _ => ?_)
            clear hK K
            try simp only [Act.put, List.setIfInBounds_toArray, List.set_cons_zero, List.set_cons_succ]
            refine wpAnyH_done (by kernel_rfl) ?_ _
            clear u0 u6 uf x0 x1 x2 x3 x4 x5 x6 xf
            have hx4 : CRdS w4 (fun y => w1.heap.size + 1 ≤ y ∧ y < w4.heap.size ∧ v.ownBlock ≠ some y) (.mk kk2 i2 l2 s2 t2 e2 xs2) (contCells kk2 i2 l2 s2 t2 e2 A3 xs2.length c3') :=
              CRdS_mono (fun y hy => ⟨by have h := HST9.out.2.2.1.2.2; have h1 := hy.1; have h2 : wr.drew.heap.size = wr.heap.size := rfl; omega, by have := hy.2; have := HW4.out; omega, fun h => by
                have h0 := (HOWN.out.lt y h).2; have h1 := hy.1; have h2 : wr.drew.heap.size = wr.heap.size := rfl; omega⟩) (fun y o u hy hu => (HB4.out.cell (p := ⟨y, o, none⟩) (by exact hy.2)).trans hu) _ _ HNEW.out
            have hown5 := OwnsC.app (w := w4) HO1.out HO2.out HO3.out hx4 HOWN5.out HGROW.out (fun q hq => by
              have hq2 : q = g5 := (Option.some.inj hq).symm
              subst hq2
              rcases HAT.out with h | h
              · exact .inl h
              · exact .inr (by omega))
            have hown6 := hown5.grownb (grown_one w5 w1.heap.size 6 (.slice (some ⟨g5, 0, none⟩) (ys.length + 1) cap)) (fun y hy e => by omega) (by omega)
            have hst6 := HST5.out.set_ (j := 6) (by simp) (.slice (some ⟨g5, 0, none⟩) (ys.length + 1) cap)
            simp only [List.set_cons_zero, List.set_cons_succ] at hst6
            have hrel6 : MakeRel w B b w.heap.size w1.heap.size (w1.heap.size + 1) xs d k (m + 1) 5 id 0 0 0 (w5.setCell ⟨w1.heap.size, 6, none⟩ (.slice (some ⟨g5, 0, none⟩) (ys.length + 1) cap)) := by
              refine ⟨_, ys ++ [.mk kk2 i2 l2 s2 t2 e2 xs2], k3, by rw [List.length_append, HYL.out]; rfl, hst6, hown6, fun y hy => ?_, ?_, ?_, ?_⟩
              · rcases List.mem_append.1 hy with h | h
                · exact HALL.out y h
                · simp only [List.mem_singleton] at h; subst h; exact HAX.out
              · have h1 := HDEP.out; have h2 := HDX.out; have h3 := HD1.out
                have := depthL_snoc (.mk kk2 i2 l2 s2 t2 e2 xs2) ys ((d : Int) - 1) (by omega) (by omega)
                omega
              · rw [nodesL_app, Nat.succ_mul]; have h1 := HNOD.out; have h2 := HNX.out; omega
              · rw [Nat.succ_mul]; have h1 := HKR.out; have h2 := HKX.out; omega
            have HREL6 := Lib.hid hrel6
            clear hrel6 hst6 hown6 hown5 hx4
            go_wp2
            go_roundw
            case rel => exact ⟨m + 1, by omega, by go_num, HREL6⟩
            case measure => simp [intOf]; omega
      · obtain rfl : m = n := by omega
        obtain ⟨A5, c5, rfl, hc51, hc52, hc53⟩ := HOWN.out.cs
        have HC51 := Lib.hid hc51; have HC52 := Lib.hid hc52; have HC53 := Lib.hid hc53; clear hc51 hc52 hc53
        have y0 := HST9.out.2.2.2.1.1 0 _ rfl; have y1 := HST9.out.2.2.2.1.1 1 _ rfl; have y2 := HST9.out.2.2.2.1.1 2 _ rfl; have y3 := HST9.out.2.2.2.1.1 3 _ rfl; have y4 := HST9.out.2.2.2.1.1 4 _ rfl; have y5 := HST9.out.2.2.2.1.1 5 _ rfl; have y6 := HST9.out.2.2.2.1.1 6 _ rfl; have yf := HST9.out.2.2.2.1.2.1
        obtain ⟨q1, q2⟩ := fin_tape (.int .i64 5) (.string id) (.string ByteArray.empty) (.int .i64 0) (.int .i64 0) (.int .i64 0) (.slice A5 ys.length c5) HST9.out.1 HST9.out.2.1 (show w.heap.size ≠ b by omega) (show B ≤ w.heap.size by omega) (Nat.le_refl _)
        have HQ1 := Lib.hid q1; have HQ2 := Lib.hid q2; clear q1 q2
        go_wp2
        refine bodyPost_ret (v := .agg #[.int .i64 5, .string id, .string ByteArray.empty, .int .i64 0, .int .i64 0, .int .i64 0, .slice A5 ys.length c5]) (by simp [results, Tryz.results12, go_sem, y0, y1, y2, y3, y4, y5, y6]) rfl ⟨.mk 5 id ByteArray.empty 0 0 0 ys, contCells 5 id ByteArray.empty 0 0 0 A5 ys.length c5, _, rfl, ?_, HQ1.out, HQ2.out, ?_, ?_, ?_, ?_⟩
        · unfold NewC
          rw [CRdS, fin_size]
          refine ⟨A5, c5, rfl, ⟨by unfold okInt; omega, by unfold maxLen; have := HMid.out.2; omega, by unfold maxLen; decide, by unfold okInt; omega, by unfold okInt; omega, by unfold okInt; omega⟩, HC51.out, HC52.out, fun hn => ?_⟩
          obtain ⟨bb, o, hA, hbb, hcs⟩ := HC53.out hn
          have hs1 := HSZ1.out
          exact ⟨bb, o, hA, ⟨by omega, hbb.2⟩, CsAtS_mono (fun y hy => ⟨by have := hy.1; omega, hy.2⟩) (fun y o u hy hu => fin_cells _ _ _ _ _ _ _ y o u (by have := hy.1; omega) hu) bb hbb ys o hcs⟩
        · refine AllOk_mk.2 ⟨?_, HALL.out⟩
          have h1 := HMid.out.1; have h2 := HYL.out; have h3 := HN3.out
          simp [ownB, slots2, noneB, withinB, h1, h2]
          try decide +kernel
          try omega
        · have h1 := HDEP.out; rw [depthC, if_neg (by decide)]; exact h1
        · have h1 := HNOD.out; have h2 := HN3.out; have h3 := H44.out; have h4 := H41.out; have h5 : m * 4 ^ (d - 1) ≤ 3 * 4 ^ (d - 1) := Nat.mul_le_mul_right _ h2.2
          rw [nodesC]; omega
        · have h1 := HKR.out; have h2 := HN3.out; have h3 := H44.out; have h4 := H41.out; have h5 : m * (6 * 4 ^ (d - 1)) ≤ 3 * (6 * 4 ^ (d - 1)) := Nat.mul_le_mul_right _ h2.2
          omega
theorem valid_any (xs : List Int) (B b : Nat) : ∀ d, ValidCalls xs B b d
  | 0 => valid_step xs B b 0 (fun h => absurd h (by decide))
  | d + 1 => valid_step xs B b (d + 1) (fun _ => valid_any xs B b d)
end Go.Proofs.YtnlocdhhecockaaGreatDoor
