/-
  The walk of layer 7's law: spoilt, which puts one fault into a content.
-/
import Derived.Test.YtnlocdhhecockaaDoorCqA
set_option linter.unusedSimpArgs false
set_option linter.unusedVariables false
namespace Go.Cold
open Go Go.RowKit
/-- Where the spoiler stands: the tape, the content in block gc, the result's in gr. -/
def StU (w0 : World) (B b gr gc : Nat) (xs : List Int) (w : World) (k : Nat) (cs : List Value) : Prop :=
  TapeAt w B b xs k ∧ w0.grownBy w (some b) ∧ BoxL w gc cs ∧ BoxL w gr zeroL ∧ (B ≤ b ∧ b < w0.heap.size ∧ w0.heap.size ≤ gr ∧ w0.heap.size ≤ gc ∧ gr ≠ gc)
section
variable {w0 w w' : World} {B b gr gc k k' : Nat} {xs : List Int} {cs : List Value}
theorem StU.go (h : StU w0 B b gr gc xs w k cs) (ht : TapeAt w' B b xs k') (hg : w.grownBy w' (some b)) : StU w0 B b gr gc xs w' k' cs := by
  obtain ⟨h1, h2, h3, h4, h5, h6, h7, h8, h9⟩ := h
  exact ⟨ht, gtrans h2 hg, h3.kept hg (fun e => by have := Option.some.inj e; omega), h4.kept hg (fun e => by have := Option.some.inj e; omega), h5, h6, h7, h8, h9⟩
theorem StU.set_ (h : StU w0 B b gr gc xs w k cs) {j : Nat} (hj : j < cs.length) (v : Value) : StU w0 B b gr gc xs (w.setCell ⟨gc, j, none⟩ v) k (cs.set j v) := by
  obtain ⟨h1, h2, h3, h4, h5, h6, h7, h8, h9⟩ := h
  exact ⟨h1.set_ (by omega) (by omega) v, grown_set h2 (by omega) v, h3.set_ hj v, h4.far (fun e => h9 e.symm) v, h5, h6, h7, h8, h9⟩
theorem StU.below (h : StU w0 B b gr gc xs w k cs) (hb : Below w.heap.size w w') : StU w0 B b gr gc xs w' k cs := by
  obtain ⟨h1, h2, h3, h4, h5, h6, h7, h8, h9⟩ := h
  have hg := grown_none hb
  exact ⟨h1.kept hg (fun e => by cases e) (fun g hg => by cases hg), grown_below h2 hb, h3.kept hg (fun e => by cases e), h4.kept hg (fun e => by cases e), h5, h6, h7, h8, h9⟩
theorem StU.row {row : Option Nat} (h : StU w0 B b gr gc xs w k cs) (hg : w.grownBy w' row) (hr : ∀ q, row = some q → gc < q ∧ gr < q) : StU w0 B b gr gc xs w' k cs := by
  obtain ⟨h1, h2, h3, h4, h5, h6, h7, h8, h9⟩ := h
  exact ⟨h1.kept hg (fun e => by have := hr b e.symm; omega) (fun g hq => by have := hr g hq; omega), grown_new h2 hg (fun q hq => by have := hr q hq; omega), h3.kept hg (fun e => by have := (hr gc e.symm).1; omega), h4.kept hg (fun e => by have := (hr gr e.symm).2; omega), h5, h6, h7, h8, h9⟩
end
/-- What a content's list is, wherever it lies. -/
def InX (w : World) (S : Nat → Prop) (A : Option Addr) (c : Nat) (ys : List Cont) : Prop := ys.length ≤ c ∧ c ≤ maxLen ∧ (0 < ys.length → ∃ bb o, A = some ⟨bb, o, none⟩ ∧ S bb ∧ CsAtS w S bb ys o)
theorem InX.kept {w w' : World} {b c : Nat} {A : Option Addr} {ys : List Cont} (h : InX w (fun x => x < w.heap.size ∧ x ≠ b) A c ys) (hg : w.grownBy w' (some b)) : InX w' (fun x => x < w'.heap.size ∧ x ≠ b) A c ys := by
  obtain ⟨h1, h2, h3⟩ := h
  refine ⟨h1, h2, fun hn => ?_⟩
  obtain ⟨bb, o, hA, hbb, hcs⟩ := h3 hn
  exact ⟨bb, o, hA, ⟨Nat.lt_of_lt_of_le hbb.1 hg.size, hbb.2⟩, CsAtS_mono (fun y hy => ⟨Nat.lt_of_lt_of_le hy.1 hg.size, hy.2⟩) (fun y o u hy hu => hg.cell hu (fun e => hy.2 (Option.some.inj e))) bb hbb ys o hcs⟩
def bad0 : List ByteArray := [⟨#[]⟩, ⟨#[97, 58, 98]⟩, ⟨#[48, 49, 50, 51, 52, 53, 54, 55, 56, 57, 48, 49, 50, 51, 52, 53, 54]⟩, ⟨#[48, 49, 50, 51, 52, 53, 54, 55, 56, 57, 48, 49, 50, 51, 52, 53]⟩]
def bad1 : List ByteArray := [⟨#[120]⟩, ⟨#[]⟩, ⟨#[40]⟩]
theorem bad0_ok : ∀ y ∈ bad0, y.size ≤ 17 := by decide +kernel
theorem bad1_ok : ∀ y ∈ bad1, y.size ≤ 17 := by decide +kernel
theorem nodesL_appL (ys : List Cont) : ∀ xs : List Cont, nodesL (xs ++ ys) = nodesL xs + nodesL ys
  | [] => by rw [List.nil_append, nodesL]; omega
  | x :: xs => by rw [List.cons_append, nodesL, nodesL, nodesL_appL ys xs]; omega
section
variable {P : Program}
/-- 'append(nil, nil...)'. -/
theorem wpList_append_none {ops : Array Oper} {rest : List Oper} {o : Oper} {a : Act} {w : World} {Q : Exit → Act → World → Prop} (hgd : o.guard = none) (s x : Operand) (t : TypeId)
    (ho : o.op = .call { callee := .builtin .append, args := #[s, x], argTypes := #[t, t] }) (e : TypeId) (i : TypeInfo) (ht : P.underlying t = some (.slice e)) (hi : P.info? e = some i) (c : Nat)
    (hs : a.eval s = .slice none 0 0) (hx : a.eval x = .slice none 0 c) (h : wpList P ops Q rest (a.put o.dst (.slice none 0 0)) w) : wpList P ops Q (o :: rest) a w := by
  refine wpList_plain hgd fun K hK => ?_
  have hr : (Builtin.append_ #[t, t] o.type #[.slice none 0 0, .slice none 0 c]).run P w = .ok (.slice none 0 0) w := by
    simp [Builtin.append_, run_underlying ht, sizeOf, typeInfo, hi, Builtin.lenOf, Builtin.firstCells, loadCells, loadCellsFrom]
  unfold Oper.wp execOp
  simp only [ho, resolve, invoke, builtin, Sem.run_bind, Sem.run_pure, Result.andThen_ok, List.map_toArray, List.map_cons, List.map_nil, hs, hx, hr]
  exact hK _ _ h
end
/-- The cells of a list, one content after the other. -/
theorem CsAtS_cells {w : World} {S : Nat → Prop} {b : Nat} : ∀ {ys : List Cont} {o : Nat}, CsAtS w S b ys o → ∃ dss : List (List Value), dss.length = ys.length ∧ dss.flatten.length = ys.length * 7 ∧ (∀ u ∈ dss.flatten, u.oneCell' = true) ∧
    (∀ (i : Nat) y ds, ys[i]? = some y → dss[i]? = some ds → CRdS w S y ds) ∧ ∀ j u, dss.flatten[j]? = some u → w.cell? ⟨b, o + j, none⟩ = some u
  | [], o, _ => ⟨[], rfl, rfl, fun u hu => by simp at hu, fun i y ds h => by simp at h, fun j u h => by simp at h⟩
  | y :: ys, o, h => by
    rw [CsAtS] at h
    obtain ⟨⟨ds, h1, h2⟩, h3⟩ := h
    obtain ⟨dss, g1, g2, g3, g4, g5⟩ := CsAtS_cells h3
    have hl := CRdS_len h1
    refine ⟨ds :: dss, by simp [g1], by rw [List.flatten_cons, List.length_append, g2, hl, List.length_cons]; omega, fun u hu => ?_, fun i z es hz hes => ?_, fun j u hu => ?_⟩
    · rw [List.flatten_cons, List.mem_append] at hu
      exact hu.elim (CRdS_one h1 u) (g3 u)
    · cases i with
      | zero => simp at hz hes; subst hz; subst hes; exact h1
      | succ i => exact g4 i z es (by simpa using hz) (by simpa using hes)
    · rw [List.flatten_cons] at hu
      by_cases hj : j < ds.length
      · rw [List.getElem?_append_left hj] at hu; exact h2 j u hu
      · rw [List.getElem?_append_right (by omega)] at hu
        have := g5 _ u hu
        rwa [show o + 7 + (j - ds.length) = o + j by omega] at this
end Go.Cold
namespace Go.Proofs.YtnlocdhhecockaaDoor
open Go.RowKit Go.Cold

def SpoiltPost (xs : List Int) (B b n : Nat) (w : World) (e : Ending) (w' : World) : Prop := ∃ (c : Cont) (cs : List Value) (k' : Nat), e = .returned (.agg cs.toArray) ∧ CRdS w' (fun x => x < w'.heap.size ∧ x ≠ b) c cs ∧ TapeAt w' B b xs k' ∧ w.grownBy w' (some b) ∧ nodesC c ≤ n + 4

set_option maxHeartbeats 16000000 in
set_option maxRecDepth 100000 in
theorem spoilt_any (xs : List Int) (B b k : Nat) (C : Cont) (cs : List Value) (w : World) (hkb : k + 100 ≤ 2 ^ 40) (ht : TapeAt w B b xs k) (hc : CRdS w (fun x => x < w.heap.size ∧ x ≠ b) C cs) (hn : nodesC C ≤ 2 ^ 39) :
    Calls Tryd.prog 8 #[.pointer (some ⟨b, 0, none⟩), .agg cs.toArray] w (SpoiltPost xs B b (nodesC C) w) := by
  obtain ⟨i0, hi0, hz0, hz1, hz2⟩ := info_parts info_cont
  have HI0 := Lib.hid hi0; clear hi0
  have HZ0 := Lib.hid hz0; clear hz0
  have HZ1 := Lib.hid hz1; clear hz1
  have HZ2 := Lib.hid hz2; clear hz2
  have hzv := (zero_of_info (P := Tryd.prog) (t := 24) info_cont2).1
  obtain ⟨kk, i, l, s, t, le, ys⟩ := C
  rw [CRdS] at hc
  obtain ⟨A0, c0, rfl, ⟨o1, o2, o3, o4, o5, o6⟩, hin⟩ := hc
  have HIN : Hid (InX w (fun x => x < w.heap.size ∧ x ≠ b) A0 c0 ys) := Lib.hid hin
  clear hin
  simp only [contCells]
  have hbw : b < w.heap.size := ht.choose_spec.choose_spec.2.2.2.2.2
  have hBb : B ≤ b := ht.choose_spec.choose_spec.2.2.2.2.1
  have HKB := Lib.hid hkb; have HT := Lib.hid ht; have HN := Lib.hid hn
  have HO1 := Lib.hid o1; have HO2 := Lib.hid o2; have HO3 := Lib.hid o3; have HO4 := Lib.hid o4; have HO5 := Lib.hid o5; have HO6 := Lib.hid o6
  clear hkb ht hn o1 o2 o3 o4 o5 o6
  go_enter Tryd.func8, Tryd.ntmps8
  go_upto_region 1 with fail
  obtain ⟨wA, hwA⟩ : ∃ wA, w.alloc (.cells #[.int .i64 kk, .string i, .string l, .int .i64 s, .int .i64 t, .int .i64 le, .slice A0 ys.length c0] 24) = wA := ⟨_, rfl⟩
  obtain ⟨wB, hwB⟩ : ∃ wB, wA.alloc (.cells #[.int .i64 0, .string ByteArray.empty, .string ByteArray.empty, .int .i64 0, .int .i64 0, .int .i64 0, .slice none 0 0] 24) = wB := ⟨_, rfl⟩
  rw [hwA, hwB]
  obtain ⟨hbA, hgA, -⟩ := box7 hwA
  obtain ⟨hbB, hgB, -⟩ := box7 hwB
  have hxA : BoxL wA w.heap.size [.int .i64 kk, .string i, .string l, .int .i64 s, .int .i64 t, .int .i64 le, .slice A0 ys.length c0] := by
    refine ⟨fun j u hu => ?_, box7f hwA, by omega⟩
    rw [← hwA, World.cell?_alloc_at _ _ _ _ rfl]
    simpa using hu
  have hxB : BoxL wB wA.heap.size zeroL := by
    refine ⟨fun j u hu => ?_, box7f hwB, by omega⟩
    rw [← hwB, World.cell?_alloc_at _ _ _ _ rfl]
    simpa [zeroL] using hu
  have HST0 : Hid (StU w B b wA.heap.size w.heap.size xs wB k [.int .i64 kk, .string i, .string l, .int .i64 s, .int .i64 t, .int .i64 le, .slice A0 ys.length c0]) :=
    Lib.hid ⟨(HT.out.kept (grown_none hbA) (fun e => by cases e) (fun g hg => by cases hg)).kept (grown_none hbB) (fun e => by cases e) (fun g hg => by cases hg), grown_below (grown_below (row := some b) ⟨rfl, rfl, rfl, Nat.le_refl _, fun _ _ _ => rfl⟩ hbA) hbB, hxA.kept (grown_none hbB) (fun e => by cases e), hxB, hBb, hbw, by omega, Nat.le_refl _, by omega⟩
  have HGA := Lib.hid hgA
  try rw [hgA]
  try rw [← HGA.out]
  clear hwA hwB hbA hbB hgA hgB hxA hxB
  go_wp2_with fail
  refine (Next_any xs k B b 10 wB (by unfold okInt; omega) (by have := HKB.out; omega) HST0.out.1).mono ?_
  rintro e w1 ⟨rfl, ht1, hg1⟩
  have hfr := @foldI_range (tapeI xs k) 10 (by omega)
  obtain ⟨z, hz⟩ : ∃ z, foldI (tapeI xs k) 10 = z := ⟨_, rfl⟩
  rw [hz] at hfr ⊢
  have HST1 := Lib.hid (HST0.out.go ht1 hg1)
  clear ht1 hg1 hz HST0
  have hgrc : wA.heap.size = w.heap.size + 1 := HGA.out
  obtain ⟨gr, hgr⟩ : ∃ gr, wA.heap.size = gr := ⟨_, rfl⟩
  rw [hgr] at HST1 hgrc
  try rw [hgr]
  have HGR := Lib.hid hgrc; clear hgr hgrc
  obtain ⟨kn, rfl⟩ := Int.eq_ofNat_of_zero_le hfr.1
  have hk10 : kn = 0 ∨ kn = 1 ∨ kn = 2 ∨ kn = 3 ∨ kn = 4 ∨ kn = 5 ∨ kn = 6 ∨ kn = 7 ∨ kn = 8 ∨ kn = 9 := by omega
  clear hfr
  rcases hk10 with rfl | rfl | rfl | rfl | rfl | rfl | rfl | rfl | rfl | rfl
  · skip
    go_wp2_with fail
    have hbx : Below w1.heap.size w1 (w1.alloc (.cells #[.string ⟨#[]⟩, .string ⟨#[97, 58, 98]⟩, .string ⟨#[48, 49, 50, 51, 52, 53, 54, 55, 56, 57, 48, 49, 50, 51, 52, 53, 54]⟩, .string ⟨#[48, 49, 50, 51, 52, 53, 54, 55, 56, 57, 48, 49, 50, 51, 52, 53]⟩] 9)) := (Below.refl _ _).alloc (Nat.le_refl _) _
    have hstx := HST1.out.below hbx
    refine (One_any xs (k + 1) B b bad0 w1.heap.size 0 bad0.length _ (by have := HKB.out; omega) hstx.1 (by decide) (by decide) (Nat.le_refl _) (by unfold maxLen; decide) (by have := HST1.out.1.choose_spec.choose_spec.2.2.2.2.2; omega) (fun i y hy => cells_new _ _ _ i _ (by simp only [bad0] at hy; rcases i with _ | _ | _ | _ | i <;> simp at hy ⊢ <;> exact hy))).mono ?_
    rintro e' w2 ⟨rfl, htq, hgq⟩
    have hmem : bad0.getD (foldI (tapeI xs (k + 1)) bad0.length).toNat ⟨#[]⟩ ∈ bad0 := getD_mem (by have := @foldI_range (tapeI xs (k + 1)) bad0.length (by decide); omega)
    obtain ⟨nw, hnw⟩ : ∃ y, bad0.getD (foldI (tapeI xs (k + 1)) bad0.length).toNat ⟨#[]⟩ = y := ⟨_, rfl⟩
    rw [hnw] at hmem ⊢
    have HMnw := Lib.hid (bad0_ok nw hmem); have HST2 := Lib.hid (hstx.go htq hgq)
    clear hbx hstx htq hgq hmem hnw
    have x0 := HST2.out.2.2.1.1 0 _ rfl; have x1 := HST2.out.2.2.1.1 1 _ rfl; have x2 := HST2.out.2.2.1.1 2 _ rfl; have x3 := HST2.out.2.2.1.1 3 _ rfl; have x4 := HST2.out.2.2.1.1 4 _ rfl; have x5 := HST2.out.2.2.1.1 5 _ rfl; have x6 := HST2.out.2.2.1.1 6 _ rfl; have xf := HST2.out.2.2.1.2.1
    go_upto_region 18 with fail
    clear x0 x1 x2 x3 x4 x5 x6 xf
    have HST3 := Lib.hid (HST2.out.set_ (j := 1) (by simp) (.string nw))
    simp only [List.set_cons_zero, List.set_cons_succ] at HST3
    have x0 := HST3.out.2.2.1.1 0 _ rfl; have x1 := HST3.out.2.2.1.1 1 _ rfl; have x2 := HST3.out.2.2.1.1 2 _ rfl; have x3 := HST3.out.2.2.1.1 3 _ rfl; have x4 := HST3.out.2.2.1.1 4 _ rfl; have x5 := HST3.out.2.2.1.1 5 _ rfl; have x6 := HST3.out.2.2.1.1 6 _ rfl; have xf := HST3.out.2.2.1.2.1
    have y0 := HST3.out.2.2.2.1.1 0 _ rfl; have y1 := HST3.out.2.2.2.1.1 1 _ rfl; have y2 := HST3.out.2.2.2.1.1 2 _ rfl; have y3 := HST3.out.2.2.2.1.1 3 _ rfl; have y4 := HST3.out.2.2.2.1.1 4 _ rfl; have y5 := HST3.out.2.2.2.1.1 5 _ rfl; have y6 := HST3.out.2.2.2.1.1 6 _ rfl; have yf := HST3.out.2.2.2.1.2.1
    obtain ⟨q1, q2⟩ := fin_tape (.int .i64 kk) (.string nw) (.string l) (.int .i64 s) (.int .i64 t) (.int .i64 le) (.slice A0 ys.length c0) HST3.out.1 HST3.out.2.1 (show gr ≠ b by have := HGR.out; omega) (show B ≤ gr by have := HGR.out; omega) (show w.heap.size ≤ gr by have := HGR.out; omega)
    have HQ1 := Lib.hid q1; have HQ2 := Lib.hid q2; clear q1 q2
    go_wp2
    refine bodyPost_ret (v := .agg #[.int .i64 kk, .string nw, .string l, .int .i64 s, .int .i64 t, .int .i64 le, .slice A0 ys.length c0]) (by simp [results, Tryd.results8, go_sem, y0, y1, y2, y3, y4, y5, y6]) rfl ⟨.mk kk nw l s t le ys, contCells kk nw l s t le A0 ys.length c0, _, rfl, ?_, HQ1.out, HQ2.out, ?_⟩
    · rw [CRdS]
      exact ⟨A0, c0, rfl, ⟨HO1.out, (by unfold maxLen; have := HMnw.out; omega), HO3.out, HO4.out, HO5.out, HO6.out⟩, HIN.out.kept HQ2.out⟩
    · simp only [nodesC]; omega
  · skip
    go_wp2_with fail
    have hbx : Below w1.heap.size w1 (w1.alloc (.cells #[.string ⟨#[120]⟩, .string ⟨#[]⟩, .string ⟨#[40]⟩] 9)) := (Below.refl _ _).alloc (Nat.le_refl _) _
    have hstx := HST1.out.below hbx
    refine (One_any xs (k + 1) B b bad1 w1.heap.size 0 bad1.length _ (by have := HKB.out; omega) hstx.1 (by decide) (by decide) (Nat.le_refl _) (by unfold maxLen; decide) (by have := HST1.out.1.choose_spec.choose_spec.2.2.2.2.2; omega) (fun i y hy => cells_new _ _ _ i _ (by simp only [bad1] at hy; rcases i with _ | _ | _ | _ | i <;> simp at hy ⊢ <;> exact hy))).mono ?_
    rintro e' w2 ⟨rfl, htq, hgq⟩
    have hmem : bad1.getD (foldI (tapeI xs (k + 1)) bad1.length).toNat ⟨#[]⟩ ∈ bad1 := getD_mem (by have := @foldI_range (tapeI xs (k + 1)) bad1.length (by decide); omega)
    obtain ⟨nw, hnw⟩ : ∃ y, bad1.getD (foldI (tapeI xs (k + 1)) bad1.length).toNat ⟨#[]⟩ = y := ⟨_, rfl⟩
    rw [hnw] at hmem ⊢
    have HMnw := Lib.hid (bad1_ok nw hmem); have HST2 := Lib.hid (hstx.go htq hgq)
    clear hbx hstx htq hgq hmem hnw
    have x0 := HST2.out.2.2.1.1 0 _ rfl; have x1 := HST2.out.2.2.1.1 1 _ rfl; have x2 := HST2.out.2.2.1.1 2 _ rfl; have x3 := HST2.out.2.2.1.1 3 _ rfl; have x4 := HST2.out.2.2.1.1 4 _ rfl; have x5 := HST2.out.2.2.1.1 5 _ rfl; have x6 := HST2.out.2.2.1.1 6 _ rfl; have xf := HST2.out.2.2.1.2.1
    go_upto_region 18 with fail
    clear x0 x1 x2 x3 x4 x5 x6 xf
    have HST3 := Lib.hid (HST2.out.set_ (j := 2) (by simp) (.string nw))
    simp only [List.set_cons_zero, List.set_cons_succ] at HST3
    have x0 := HST3.out.2.2.1.1 0 _ rfl; have x1 := HST3.out.2.2.1.1 1 _ rfl; have x2 := HST3.out.2.2.1.1 2 _ rfl; have x3 := HST3.out.2.2.1.1 3 _ rfl; have x4 := HST3.out.2.2.1.1 4 _ rfl; have x5 := HST3.out.2.2.1.1 5 _ rfl; have x6 := HST3.out.2.2.1.1 6 _ rfl; have xf := HST3.out.2.2.1.2.1
    have y0 := HST3.out.2.2.2.1.1 0 _ rfl; have y1 := HST3.out.2.2.2.1.1 1 _ rfl; have y2 := HST3.out.2.2.2.1.1 2 _ rfl; have y3 := HST3.out.2.2.2.1.1 3 _ rfl; have y4 := HST3.out.2.2.2.1.1 4 _ rfl; have y5 := HST3.out.2.2.2.1.1 5 _ rfl; have y6 := HST3.out.2.2.2.1.1 6 _ rfl; have yf := HST3.out.2.2.2.1.2.1
    obtain ⟨q1, q2⟩ := fin_tape (.int .i64 kk) (.string i) (.string nw) (.int .i64 s) (.int .i64 t) (.int .i64 le) (.slice A0 ys.length c0) HST3.out.1 HST3.out.2.1 (show gr ≠ b by have := HGR.out; omega) (show B ≤ gr by have := HGR.out; omega) (show w.heap.size ≤ gr by have := HGR.out; omega)
    have HQ1 := Lib.hid q1; have HQ2 := Lib.hid q2; clear q1 q2
    go_wp2
    refine bodyPost_ret (v := .agg #[.int .i64 kk, .string i, .string nw, .int .i64 s, .int .i64 t, .int .i64 le, .slice A0 ys.length c0]) (by simp [results, Tryd.results8, go_sem, y0, y1, y2, y3, y4, y5, y6]) rfl ⟨.mk kk i nw s t le ys, contCells kk i nw s t le A0 ys.length c0, _, rfl, ?_, HQ1.out, HQ2.out, ?_⟩
    · rw [CRdS]
      exact ⟨A0, c0, rfl, ⟨HO1.out, HO2.out, (by unfold maxLen; have := HMnw.out; omega), HO4.out, HO5.out, HO6.out⟩, HIN.out.kept HQ2.out⟩
    · simp only [nodesC]; omega
  · skip
    go_wp2_with fail
    refine (Next_any xs (k + 1) B b 19 _ (by unfold okInt; omega) (by have := HKB.out; omega) HST1.out.1).mono ?_
    rintro e' w2 ⟨rfl, htq, hgq⟩
    have hrnv := @foldI_pos (tapeI xs (k + 1)) 19 (by omega)
    obtain ⟨nv, hnv⟩ : ∃ y, foldI (tapeI xs (k + 1)) 19 = y := ⟨_, rfl⟩
    rw [hnv] at hrnv ⊢
    have HST2 := Lib.hid (HST1.out.go htq hgq)
    clear htq hgq hnv
    have x0 := HST2.out.2.2.1.1 0 _ rfl; have x1 := HST2.out.2.2.1.1 1 _ rfl; have x2 := HST2.out.2.2.1.1 2 _ rfl; have x3 := HST2.out.2.2.1.1 3 _ rfl; have x4 := HST2.out.2.2.1.1 4 _ rfl; have x5 := HST2.out.2.2.1.1 5 _ rfl; have x6 := HST2.out.2.2.1.1 6 _ rfl; have xf := HST2.out.2.2.1.2.1
    go_upto_region 18 with fail
    clear x0 x1 x2 x3 x4 x5 x6 xf
    have HST3 := Lib.hid (HST2.out.set_ (j := 3) (by simp) (.int .i64 (nv - 1)))
    simp only [List.set_cons_zero, List.set_cons_succ] at HST3
    have x0 := HST3.out.2.2.1.1 0 _ rfl; have x1 := HST3.out.2.2.1.1 1 _ rfl; have x2 := HST3.out.2.2.1.1 2 _ rfl; have x3 := HST3.out.2.2.1.1 3 _ rfl; have x4 := HST3.out.2.2.1.1 4 _ rfl; have x5 := HST3.out.2.2.1.1 5 _ rfl; have x6 := HST3.out.2.2.1.1 6 _ rfl; have xf := HST3.out.2.2.1.2.1
    have y0 := HST3.out.2.2.2.1.1 0 _ rfl; have y1 := HST3.out.2.2.2.1.1 1 _ rfl; have y2 := HST3.out.2.2.2.1.1 2 _ rfl; have y3 := HST3.out.2.2.2.1.1 3 _ rfl; have y4 := HST3.out.2.2.2.1.1 4 _ rfl; have y5 := HST3.out.2.2.2.1.1 5 _ rfl; have y6 := HST3.out.2.2.2.1.1 6 _ rfl; have yf := HST3.out.2.2.2.1.2.1
    obtain ⟨q1, q2⟩ := fin_tape (.int .i64 kk) (.string i) (.string l) (.int .i64 (nv - 1)) (.int .i64 t) (.int .i64 le) (.slice A0 ys.length c0) HST3.out.1 HST3.out.2.1 (show gr ≠ b by have := HGR.out; omega) (show B ≤ gr by have := HGR.out; omega) (show w.heap.size ≤ gr by have := HGR.out; omega)
    have HQ1 := Lib.hid q1; have HQ2 := Lib.hid q2; clear q1 q2
    go_wp2
    refine bodyPost_ret (v := .agg #[.int .i64 kk, .string i, .string l, .int .i64 (nv - 1), .int .i64 t, .int .i64 le, .slice A0 ys.length c0]) (by simp [results, Tryd.results8, go_sem, y0, y1, y2, y3, y4, y5, y6]) rfl ⟨.mk kk i l (nv - 1) t le ys, contCells kk i l (nv - 1) t le A0 ys.length c0, _, rfl, ?_, HQ1.out, HQ2.out, ?_⟩
    · rw [CRdS]
      exact ⟨A0, c0, rfl, ⟨HO1.out, HO2.out, HO3.out, (by unfold okInt; omega), HO5.out, HO6.out⟩, HIN.out.kept HQ2.out⟩
    · simp only [nodesC]; omega
  · skip
    go_wp2_with fail
    refine (Next_any xs (k + 1) B b 19 _ (by unfold okInt; omega) (by have := HKB.out; omega) HST1.out.1).mono ?_
    rintro e' w2 ⟨rfl, htq, hgq⟩
    have hrnv := @foldI_pos (tapeI xs (k + 1)) 19 (by omega)
    obtain ⟨nv, hnv⟩ : ∃ y, foldI (tapeI xs (k + 1)) 19 = y := ⟨_, rfl⟩
    rw [hnv] at hrnv ⊢
    have HST2 := Lib.hid (HST1.out.go htq hgq)
    clear htq hgq hnv
    have x0 := HST2.out.2.2.1.1 0 _ rfl; have x1 := HST2.out.2.2.1.1 1 _ rfl; have x2 := HST2.out.2.2.1.1 2 _ rfl; have x3 := HST2.out.2.2.1.1 3 _ rfl; have x4 := HST2.out.2.2.1.1 4 _ rfl; have x5 := HST2.out.2.2.1.1 5 _ rfl; have x6 := HST2.out.2.2.1.1 6 _ rfl; have xf := HST2.out.2.2.1.2.1
    go_upto_region 18 with fail
    clear x0 x1 x2 x3 x4 x5 x6 xf
    have HST3 := Lib.hid (HST2.out.set_ (j := 4) (by simp) (.int .i64 (nv - 1)))
    simp only [List.set_cons_zero, List.set_cons_succ] at HST3
    have x0 := HST3.out.2.2.1.1 0 _ rfl; have x1 := HST3.out.2.2.1.1 1 _ rfl; have x2 := HST3.out.2.2.1.1 2 _ rfl; have x3 := HST3.out.2.2.1.1 3 _ rfl; have x4 := HST3.out.2.2.1.1 4 _ rfl; have x5 := HST3.out.2.2.1.1 5 _ rfl; have x6 := HST3.out.2.2.1.1 6 _ rfl; have xf := HST3.out.2.2.1.2.1
    have y0 := HST3.out.2.2.2.1.1 0 _ rfl; have y1 := HST3.out.2.2.2.1.1 1 _ rfl; have y2 := HST3.out.2.2.2.1.1 2 _ rfl; have y3 := HST3.out.2.2.2.1.1 3 _ rfl; have y4 := HST3.out.2.2.2.1.1 4 _ rfl; have y5 := HST3.out.2.2.2.1.1 5 _ rfl; have y6 := HST3.out.2.2.2.1.1 6 _ rfl; have yf := HST3.out.2.2.2.1.2.1
    obtain ⟨q1, q2⟩ := fin_tape (.int .i64 kk) (.string i) (.string l) (.int .i64 s) (.int .i64 (nv - 1)) (.int .i64 le) (.slice A0 ys.length c0) HST3.out.1 HST3.out.2.1 (show gr ≠ b by have := HGR.out; omega) (show B ≤ gr by have := HGR.out; omega) (show w.heap.size ≤ gr by have := HGR.out; omega)
    have HQ1 := Lib.hid q1; have HQ2 := Lib.hid q2; clear q1 q2
    go_wp2
    refine bodyPost_ret (v := .agg #[.int .i64 kk, .string i, .string l, .int .i64 s, .int .i64 (nv - 1), .int .i64 le, .slice A0 ys.length c0]) (by simp [results, Tryd.results8, go_sem, y0, y1, y2, y3, y4, y5, y6]) rfl ⟨.mk kk i l s (nv - 1) le ys, contCells kk i l s (nv - 1) le A0 ys.length c0, _, rfl, ?_, HQ1.out, HQ2.out, ?_⟩
    · rw [CRdS]
      exact ⟨A0, c0, rfl, ⟨HO1.out, HO2.out, HO3.out, HO4.out, (by unfold okInt; omega), HO6.out⟩, HIN.out.kept HQ2.out⟩
    · simp only [nodesC]; omega
  · skip
    go_wp2_with fail
    refine (Next_any xs (k + 1) B b 19 _ (by unfold okInt; omega) (by have := HKB.out; omega) HST1.out.1).mono ?_
    rintro e' w2 ⟨rfl, htq, hgq⟩
    have hrnv := @foldI_pos (tapeI xs (k + 1)) 19 (by omega)
    obtain ⟨nv, hnv⟩ : ∃ y, foldI (tapeI xs (k + 1)) 19 = y := ⟨_, rfl⟩
    rw [hnv] at hrnv ⊢
    have HST2 := Lib.hid (HST1.out.go htq hgq)
    clear htq hgq hnv
    have x0 := HST2.out.2.2.1.1 0 _ rfl; have x1 := HST2.out.2.2.1.1 1 _ rfl; have x2 := HST2.out.2.2.1.1 2 _ rfl; have x3 := HST2.out.2.2.1.1 3 _ rfl; have x4 := HST2.out.2.2.1.1 4 _ rfl; have x5 := HST2.out.2.2.1.1 5 _ rfl; have x6 := HST2.out.2.2.1.1 6 _ rfl; have xf := HST2.out.2.2.1.2.1
    go_upto_region 18 with fail
    clear x0 x1 x2 x3 x4 x5 x6 xf
    have HST3 := Lib.hid (HST2.out.set_ (j := 5) (by simp) (.int .i64 (nv - 1)))
    simp only [List.set_cons_zero, List.set_cons_succ] at HST3
    have x0 := HST3.out.2.2.1.1 0 _ rfl; have x1 := HST3.out.2.2.1.1 1 _ rfl; have x2 := HST3.out.2.2.1.1 2 _ rfl; have x3 := HST3.out.2.2.1.1 3 _ rfl; have x4 := HST3.out.2.2.1.1 4 _ rfl; have x5 := HST3.out.2.2.1.1 5 _ rfl; have x6 := HST3.out.2.2.1.1 6 _ rfl; have xf := HST3.out.2.2.1.2.1
    have y0 := HST3.out.2.2.2.1.1 0 _ rfl; have y1 := HST3.out.2.2.2.1.1 1 _ rfl; have y2 := HST3.out.2.2.2.1.1 2 _ rfl; have y3 := HST3.out.2.2.2.1.1 3 _ rfl; have y4 := HST3.out.2.2.2.1.1 4 _ rfl; have y5 := HST3.out.2.2.2.1.1 5 _ rfl; have y6 := HST3.out.2.2.2.1.1 6 _ rfl; have yf := HST3.out.2.2.2.1.2.1
    obtain ⟨q1, q2⟩ := fin_tape (.int .i64 kk) (.string i) (.string l) (.int .i64 s) (.int .i64 t) (.int .i64 (nv - 1)) (.slice A0 ys.length c0) HST3.out.1 HST3.out.2.1 (show gr ≠ b by have := HGR.out; omega) (show B ≤ gr by have := HGR.out; omega) (show w.heap.size ≤ gr by have := HGR.out; omega)
    have HQ1 := Lib.hid q1; have HQ2 := Lib.hid q2; clear q1 q2
    go_wp2
    refine bodyPost_ret (v := .agg #[.int .i64 kk, .string i, .string l, .int .i64 s, .int .i64 t, .int .i64 (nv - 1), .slice A0 ys.length c0]) (by simp [results, Tryd.results8, go_sem, y0, y1, y2, y3, y4, y5, y6]) rfl ⟨.mk kk i l s t (nv - 1) ys, contCells kk i l s t (nv - 1) A0 ys.length c0, _, rfl, ?_, HQ1.out, HQ2.out, ?_⟩
    · rw [CRdS]
      exact ⟨A0, c0, rfl, ⟨HO1.out, HO2.out, HO3.out, HO4.out, HO5.out, (by unfold okInt; omega)⟩, HIN.out.kept HQ2.out⟩
    · simp only [nodesC]; omega
  · skip
    go_wp2_with fail
    refine (Next_any xs (k + 1) B b 8 _ (by unfold okInt; omega) (by have := HKB.out; omega) HST1.out.1).mono ?_
    rintro e' w2 ⟨rfl, htq, hgq⟩
    have hrnv := @foldI_pos (tapeI xs (k + 1)) 8 (by omega)
    obtain ⟨nv, hnv⟩ : ∃ y, foldI (tapeI xs (k + 1)) 8 = y := ⟨_, rfl⟩
    rw [hnv] at hrnv ⊢
    have HST2 := Lib.hid (HST1.out.go htq hgq)
    clear htq hgq hnv
    have x0 := HST2.out.2.2.1.1 0 _ rfl; have x1 := HST2.out.2.2.1.1 1 _ rfl; have x2 := HST2.out.2.2.1.1 2 _ rfl; have x3 := HST2.out.2.2.1.1 3 _ rfl; have x4 := HST2.out.2.2.1.1 4 _ rfl; have x5 := HST2.out.2.2.1.1 5 _ rfl; have x6 := HST2.out.2.2.1.1 6 _ rfl; have xf := HST2.out.2.2.1.2.1
    go_upto_region 18 with fail
    clear x0 x1 x2 x3 x4 x5 x6 xf
    have HST3 := Lib.hid (HST2.out.set_ (j := 0) (by simp) (.int .i64 (nv - 1)))
    simp only [List.set_cons_zero, List.set_cons_succ] at HST3
    have x0 := HST3.out.2.2.1.1 0 _ rfl; have x1 := HST3.out.2.2.1.1 1 _ rfl; have x2 := HST3.out.2.2.1.1 2 _ rfl; have x3 := HST3.out.2.2.1.1 3 _ rfl; have x4 := HST3.out.2.2.1.1 4 _ rfl; have x5 := HST3.out.2.2.1.1 5 _ rfl; have x6 := HST3.out.2.2.1.1 6 _ rfl; have xf := HST3.out.2.2.1.2.1
    have y0 := HST3.out.2.2.2.1.1 0 _ rfl; have y1 := HST3.out.2.2.2.1.1 1 _ rfl; have y2 := HST3.out.2.2.2.1.1 2 _ rfl; have y3 := HST3.out.2.2.2.1.1 3 _ rfl; have y4 := HST3.out.2.2.2.1.1 4 _ rfl; have y5 := HST3.out.2.2.2.1.1 5 _ rfl; have y6 := HST3.out.2.2.2.1.1 6 _ rfl; have yf := HST3.out.2.2.2.1.2.1
    obtain ⟨q1, q2⟩ := fin_tape (.int .i64 (nv - 1)) (.string i) (.string l) (.int .i64 s) (.int .i64 t) (.int .i64 le) (.slice A0 ys.length c0) HST3.out.1 HST3.out.2.1 (show gr ≠ b by have := HGR.out; omega) (show B ≤ gr by have := HGR.out; omega) (show w.heap.size ≤ gr by have := HGR.out; omega)
    have HQ1 := Lib.hid q1; have HQ2 := Lib.hid q2; clear q1 q2
    go_wp2
    refine bodyPost_ret (v := .agg #[.int .i64 (nv - 1), .string i, .string l, .int .i64 s, .int .i64 t, .int .i64 le, .slice A0 ys.length c0]) (by simp [results, Tryd.results8, go_sem, y0, y1, y2, y3, y4, y5, y6]) rfl ⟨.mk (nv - 1) i l s t le ys, contCells (nv - 1) i l s t le A0 ys.length c0, _, rfl, ?_, HQ1.out, HQ2.out, ?_⟩
    · rw [CRdS]
      exact ⟨A0, c0, rfl, ⟨(by unfold okInt; omega), HO2.out, HO3.out, HO4.out, HO5.out, HO6.out⟩, HIN.out.kept HQ2.out⟩
    · simp only [nodesC]; omega
  · skip
    have x0 := HST1.out.2.2.1.1 0 _ rfl; have x1 := HST1.out.2.2.1.1 1 _ rfl; have x2 := HST1.out.2.2.1.1 2 _ rfl; have x3 := HST1.out.2.2.1.1 3 _ rfl; have x4 := HST1.out.2.2.1.1 4 _ rfl; have x5 := HST1.out.2.2.1.1 5 _ rfl; have x6 := HST1.out.2.2.1.1 6 _ rfl; have xf := HST1.out.2.2.1.2.1
    have hnl := nodesL_length ys
    have hnn := HN.out
    rw [nodesC] at hnn
    have HNL := Lib.hid hnl; have HNN := Lib.hid hnn; clear hnl hnn
    have hsrc : (A0 = none ∧ ys = []) ∨ ∃ (ad : Addr) (dss : List (List Value)), A0 = some ad ∧ dss.length = ys.length ∧ dss.flatten.length = ys.length * 7 ∧ (∀ u ∈ dss.flatten, u.oneCell' = true) ∧ (∀ (q : Nat) y ds, ys[q]? = some y → dss[q]? = some ds → CRdS w1 (fun x => (x ≠ b ∧ x ≠ w.heap.size ∧ x ≠ gr) ∧ x < w1.heap.size) y ds) ∧ ∀ j u, dss.flatten[j]? = some u → w1.cell? (ad.add j) = some u := by
      rcases Nat.eq_zero_or_pos ys.length with h0 | h0
      · have hy0 : ys = [] := List.eq_nil_of_length_eq_zero h0
        cases A0 with
        | none => exact .inl ⟨rfl, hy0⟩
        | some ad => exact .inr ⟨ad, [], rfl, by simp [hy0], by simp [hy0], fun u hu => by simp at hu, fun q y ds h => by rw [hy0] at h; simp at h, fun j u h => by simp at h⟩
      · obtain ⟨bb, o, hA, hbb, hcs⟩ := HIN.out.2.2 h0
        have hg1 := HST1.out.2.1
        obtain ⟨dss, g1, g2, g3, g4, g5⟩ := CsAtS_cells (CsAtS_mono (S' := fun x => (x ≠ b ∧ x ≠ w.heap.size ∧ x ≠ gr) ∧ x < w1.heap.size) (w' := w1) (fun y hy => ⟨⟨hy.2, by have := hy.1; omega, by have := hy.1; have := HGR.out; omega⟩, Nat.lt_of_lt_of_le hy.1 hg1.size⟩) (fun y o u hy hu => hg1.cell hu (fun e => hy.2 (Option.some.inj e))) bb hbb ys o hcs)
        exact .inr ⟨⟨bb, o, none⟩, dss, hA, g1, g2, g3, g4, fun j u hu => by rw [add_mk]; exact g5 j u hu⟩
    have hszg : gr < w1.heap.size := HST1.out.2.2.2.1.2.2
    have HSZG := Lib.hid hszg; clear hszg
    rcases hsrc with ⟨rfl, rfl⟩ | ⟨ad, dss, rfl, g1, g2, g3, g4, g5⟩
    · go_wp2_with (at_builtin; go_must (refine wpList_append_none rfl _ _ 22 rfl 24 i0 Tryd.underlying22 HI0.out c0 rfl rfl ?_))
      have HOWN2 : Hid (OwnsC (fun y => y ≠ b ∧ y ≠ w.heap.size ∧ y ≠ gr) w1 (gr + 1) 24 (.slice none 0 0) []) := Lib.hid (OwnsC.nil_ _ _ _ _)
      have hsz2 : gr < w1.heap.size := HST1.out.2.2.2.1.2.2
      have hcall := valid_any xs B b 1 (k + 1) w1 (by have := HKB.out; omega) HST1.out.1
      have HV := Lib.hid hcall; have HSZ2 := Lib.hid hsz2; clear hcall hsz2
      clear x0 x1 x2 x3 x4 x5 x6 xf
      go_wp2_with fail
      refine Calls.mono (HV.out : Calls Tryd.prog 9 #[.pointer (some ⟨b, 0, none⟩), .int .i64 1] w1 _) ?_
      rintro e' w3 ⟨x, cs3, k3, rfl, hnew, ht3, hg3, -, -, hnx, -⟩
      obtain ⟨kk2, i2, l2, s2, t2, e2, xs2⟩ := x
      obtain ⟨A3, c3', rfl⟩ := CRdS_cells hnew
      simp only [contCells]
      have HNEW := Lib.hid hnew; have HNX := Lib.hid (show nodesC (Cont.mk kk2 i2 l2 s2 t2 e2 xs2) ≤ 4 from hnx)
      have hown3 := HOWN2.out.grownb hg3 (fun y hy e => hy.1 e) (by have := HGR.out; omega)
      have HST3 := Lib.hid (HST1.out.go ht3 hg3); have HSZ3 := Lib.hid (show gr < w3.heap.size by have := hg3.size; have := HSZ2.out; omega)
      have HS23 := Lib.hid hg3.size
      obtain ⟨w4, hw4⟩ : ∃ w4, w3.alloc (.cells #[.int .i64 kk2, .string i2, .string l2, .int .i64 s2, .int .i64 t2, .int .i64 e2, .slice A3 xs2.length c3'] 24) = w4 := ⟨_, rfl⟩
      have hnews := cell7_new w3 24 kk2 i2 l2 s2 t2 e2 A3 xs2.length c3'
      obtain ⟨hb4, hg4, -⟩ := box7 hw4
      rw [hw4] at hnews
      have HWL := Lib.hid hown3.lt
      obtain ⟨css, o1, o2, o3'⟩ := hown3.below hb4
      have HO1' := Lib.hid o1; have HO2' := Lib.hid o2; have HO3' := Lib.hid o3'; have HNEWS := Lib.hid hnews; have HB4 := Lib.hid hb4; have HG4 := Lib.hid hg4
      have HST4 := Lib.hid (HST3.out.below hb4)
      clear hnew ht3 hg3 hnx hown3 o1 o2 o3' hnews hb4 hg4
      go_upto_region 18 with (at_builtin; go_must (refine wpList_append_lies _ rfl _ _ 22 rfl (gr + 1) 24 i0 _ 7 88 Tryd.underlying22 HI0.out HZ0.out HZ1.out HZ2.out rfl (by decide) _ _ _ rfl HO1'.out ⟨w3.heap.size, 0, none⟩ 1 1 _ rfl rfl HNEWS.out (CRdS_one HNEW.out) (by decide) (by have := HNL.out; have := HNN.out; unfold maxLen; omega) (by have := HNL.out; have := HNN.out; omega) (by have := HG4.out; have := HSZ3.out; omega) _ rfl ?_); intro g5 cap5 w5 hown' hgrow hat hlt5; have HST5 := Lib.hid (HST4.out.row hgrow (fun q hq => by have := HWL.out q hq; have := HGR.out; omega)); have x6 := HST5.out.2.2.1.1 6 _ rfl; have xf := HST5.out.2.2.1.2.1)
      clear x6 xf
      have hx4 : CRdS w4 (fun y => (y ≠ b ∧ y ≠ w.heap.size ∧ y ≠ gr) ∧ y < w4.heap.size ∧ (.slice none 0 0 : Value).ownBlock ≠ some y) (.mk kk2 i2 l2 s2 t2 e2 xs2) (contCells kk2 i2 l2 s2 t2 e2 A3 xs2.length c3') :=
        CRdS_mono (fun y hy => ⟨⟨by have := hy.1; have := HSZ2.out; have := HGR.out; omega, by have := hy.1; have := HSZ2.out; have := HGR.out; omega, by have := hy.1; have := HSZ2.out; omega⟩, by have := hy.2; have := HG4.out; omega, fun h => by have := (HOWN2.out.lt y h).2; have := hy.1; omega⟩) (fun y o u hy hu => (HB4.out.cell (p := ⟨y, o, none⟩) (by exact hy.2)).trans hu) _ _ HNEW.out
      have hown5 : OwnsC (fun y => y ≠ b ∧ y ≠ w.heap.size ∧ y ≠ gr) w5 (gr + 1) 24 (.slice (some ⟨g5, 0, none⟩) (([] : List Cont).length + 1) cap5) (([] : List Cont) ++ [.mk kk2 i2 l2 s2 t2 e2 xs2]) := OwnsC.app (w := w4) HO1'.out HO2'.out HO3'.out hx4 hown' hgrow (fun q hq => by
        have hq2 : q = g5 := (Option.some.inj hq).symm
        subst hq2
        rcases hat with h | h
        · exact .inl h
        · exact .inr (by omega))
      obtain ⟨A5, c5, hv5, h51, h52, h53⟩ := hown5.cs
      injection hv5 with q1 q2 q3
      subst q1 q3
      have H51 := Lib.hid h51; have H52 := Lib.hid h52; have H53 := Lib.hid h53
      clear hx4 hown5 hown' hgrow hat h51 h52 h53 q2
      have HST6 := Lib.hid (HST5.out.set_ (j := 6) (by simp) (.slice (some ⟨g5, 0, none⟩) 1 cap5))
      simp only [List.set_cons_zero, List.set_cons_succ] at HST6
      have x0 := HST6.out.2.2.1.1 0 _ rfl; have x1 := HST6.out.2.2.1.1 1 _ rfl; have x2 := HST6.out.2.2.1.1 2 _ rfl; have x3 := HST6.out.2.2.1.1 3 _ rfl; have x4 := HST6.out.2.2.1.1 4 _ rfl; have x5 := HST6.out.2.2.1.1 5 _ rfl; have x6 := HST6.out.2.2.1.1 6 _ rfl; have xf := HST6.out.2.2.1.2.1
      have y0 := HST6.out.2.2.2.1.1 0 _ rfl; have y1 := HST6.out.2.2.2.1.1 1 _ rfl; have y2 := HST6.out.2.2.2.1.1 2 _ rfl; have y3 := HST6.out.2.2.2.1.1 3 _ rfl; have y4 := HST6.out.2.2.2.1.1 4 _ rfl; have y5 := HST6.out.2.2.2.1.1 5 _ rfl; have y6 := HST6.out.2.2.2.1.1 6 _ rfl; have yf := HST6.out.2.2.2.1.2.1
      obtain ⟨q1, q2⟩ := fin_tape (.int .i64 kk) (.string i) (.string l) (.int .i64 s) (.int .i64 t) (.int .i64 le) (.slice (some ⟨g5, 0, none⟩) 1 cap5) HST6.out.1 HST6.out.2.1 (show gr ≠ b by have := HGR.out; omega) (show B ≤ gr by have := HGR.out; omega) (show w.heap.size ≤ gr by have := HGR.out; omega)
      have HQ1 := Lib.hid q1; have HQ2 := Lib.hid q2; clear q1 q2
      go_wp2
      refine bodyPost_ret (v := .agg #[.int .i64 kk, .string i, .string l, .int .i64 s, .int .i64 t, .int .i64 le, .slice (some ⟨g5, 0, none⟩) 1 cap5]) (by simp [results, Tryd.results8, go_sem, y0, y1, y2, y3, y4, y5, y6]) rfl ⟨.mk kk i l s t le (([] : List Cont) ++ [.mk kk2 i2 l2 s2 t2 e2 xs2]), contCells kk i l s t le (some ⟨g5, 0, none⟩) 1 cap5, _, rfl, ?_, HQ1.out, HQ2.out, ?_⟩
      · rw [CRdS]
        exact ⟨(some ⟨g5, 0, none⟩), cap5, (by simp [contCells]), ⟨HO1.out, HO2.out, HO3.out, HO4.out, HO5.out, HO6.out⟩, H51.out, H52.out, fun hn => by
      obtain ⟨bb, o, hA, hbb, hcs⟩ := H53.out hn
      rw [fin_size]
      exact ⟨bb, o, hA, ⟨by simpa using hbb.2, by have := hbb.1; have := HGR.out; omega⟩, CsAtS_mono (fun y hy => ⟨by simpa using hy.2, hy.1.1⟩) (fun y o u hy hu => fin_cells _ _ _ _ _ _ _ y o u (fun e => hy.1.2.2 e.symm) ((cell_set_far w5 ⟨w.heap.size, 6, none⟩ _ y o (fun e => hy.1.2.1 e.symm)).trans hu)) bb ⟨⟨by have := hbb.1; have := HGR.out; omega, by have := hbb.1; have := HGR.out; omega, by have := hbb.1; omega⟩, hbb.2⟩ _ o hcs⟩⟩
      · have h := HNX.out; simp only [nodesC, nodesL_app, nodesL] at h ⊢; omega
    · have G2 := Lib.hid g2; have G3 := Lib.hid g3; have G5 := Lib.hid g5
      have HSZG2 := HSZG
      go_wp2_with (at_builtin; go_must (refine wpList_append_own_at _ rfl _ _ 22 rfl (gr + 1) 24 i0 _ 7 88 Tryd.underlying22 HI0.out HZ0.out HZ1.out HZ2.out rfl (by decide) (.slice none 0 0) 0 [] rfl (World.ownsRow_nil _ _ _ _) ad ys.length c0 dss.flatten rfl G2.out G5.out G3.out (by have := HNL.out; have := HNN.out; unfold maxLen; omega) (by have := HNL.out; have := HNN.out; omega) (by have := HSZG.out; omega) ?_); intro v2 w2 hown2 hgrow2 _ hat2)
      have HOWN2 : Hid (OwnsC (fun y => y ≠ b ∧ y ≠ w.heap.size ∧ y ≠ gr) w2 (gr + 1) 24 v2 ys) := by
        have h := OwnsC.appL (F := fun y => y ≠ b ∧ y ≠ w.heap.size ∧ y ≠ gr) (xs := []) (css := []) (dss := dss) (ys := ys) (w := w1) (v := .slice none 0 0) (World.ownsRow_nil _ _ _ _) rfl (fun q x ds h => by simp at h) g1 (fun q y ds hy hds => CRdS_mono (fun z hz => ⟨hz.1, hz.2, fun e => by cases e⟩) (fun _ _ _ _ hu => hu) y ds (g4 q y ds hy hds)) (by simpa using hown2) hgrow2 (fun q hq => by
          rcases hat2 with h | h
          · rw [hq] at h; cases h
          · rw [hq] at h; exact .inr (by have := Option.some.inj h; omega))
        exact Lib.hid (by simpa using h)
      have HST2 := Lib.hid (HST1.out.row hgrow2 (fun q hq => by cases hq))
      clear hown2 hgrow2 hat2 g1 g2 g3 g4 g5
      have hsz2 : gr < w2.heap.size := HST2.out.2.2.2.1.2.2
      have hcall := valid_any xs B b 1 (k + 1) w2 (by have := HKB.out; omega) HST2.out.1
      have HV := Lib.hid hcall; have HSZ2 := Lib.hid hsz2; clear hcall hsz2
      clear x0 x1 x2 x3 x4 x5 x6 xf
      go_wp2_with fail
      refine Calls.mono (HV.out : Calls Tryd.prog 9 #[.pointer (some ⟨b, 0, none⟩), .int .i64 1] w2 _) ?_
      rintro e' w3 ⟨x, cs3, k3, rfl, hnew, ht3, hg3, -, -, hnx, -⟩
      obtain ⟨kk2, i2, l2, s2, t2, e2, xs2⟩ := x
      obtain ⟨A3, c3', rfl⟩ := CRdS_cells hnew
      simp only [contCells]
      have HNEW := Lib.hid hnew; have HNX := Lib.hid (show nodesC (Cont.mk kk2 i2 l2 s2 t2 e2 xs2) ≤ 4 from hnx)
      have hown3 := HOWN2.out.grownb hg3 (fun y hy e => hy.1 e) (by have := HGR.out; omega)
      have HST3 := Lib.hid (HST2.out.go ht3 hg3); have HSZ3 := Lib.hid (show gr < w3.heap.size by have := hg3.size; have := HSZ2.out; omega)
      have HS23 := Lib.hid hg3.size
      obtain ⟨w4, hw4⟩ : ∃ w4, w3.alloc (.cells #[.int .i64 kk2, .string i2, .string l2, .int .i64 s2, .int .i64 t2, .int .i64 e2, .slice A3 xs2.length c3'] 24) = w4 := ⟨_, rfl⟩
      have hnews := cell7_new w3 24 kk2 i2 l2 s2 t2 e2 A3 xs2.length c3'
      obtain ⟨hb4, hg4, -⟩ := box7 hw4
      rw [hw4] at hnews
      have HWL := Lib.hid hown3.lt
      obtain ⟨css, o1, o2, o3'⟩ := hown3.below hb4
      have HO1' := Lib.hid o1; have HO2' := Lib.hid o2; have HO3' := Lib.hid o3'; have HNEWS := Lib.hid hnews; have HB4 := Lib.hid hb4; have HG4 := Lib.hid hg4
      have HST4 := Lib.hid (HST3.out.below hb4)
      clear hnew ht3 hg3 hnx hown3 o1 o2 o3' hnews hb4 hg4
      go_upto_region 18 with (at_builtin; go_must (refine wpList_append_lies _ rfl _ _ 22 rfl (gr + 1) 24 i0 _ 7 88 Tryd.underlying22 HI0.out HZ0.out HZ1.out HZ2.out rfl (by decide) _ _ _ rfl HO1'.out ⟨w3.heap.size, 0, none⟩ 1 1 _ rfl rfl HNEWS.out (CRdS_one HNEW.out) (by decide) (by have := HNL.out; have := HNN.out; unfold maxLen; omega) (by have := HNL.out; have := HNN.out; omega) (by have := HG4.out; have := HSZ3.out; omega) _ rfl ?_); intro g5 cap5 w5 hown' hgrow hat hlt5; have HST5 := Lib.hid (HST4.out.row hgrow (fun q hq => by have := HWL.out q hq; have := HGR.out; omega)); have x6 := HST5.out.2.2.1.1 6 _ rfl; have xf := HST5.out.2.2.1.2.1)
      clear x6 xf
      have hx4 : CRdS w4 (fun y => (y ≠ b ∧ y ≠ w.heap.size ∧ y ≠ gr) ∧ y < w4.heap.size ∧ (v2 : Value).ownBlock ≠ some y) (.mk kk2 i2 l2 s2 t2 e2 xs2) (contCells kk2 i2 l2 s2 t2 e2 A3 xs2.length c3') :=
        CRdS_mono (fun y hy => ⟨⟨by have := hy.1; have := HSZ2.out; have := HGR.out; omega, by have := hy.1; have := HSZ2.out; have := HGR.out; omega, by have := hy.1; have := HSZ2.out; omega⟩, by have := hy.2; have := HG4.out; omega, fun h => by have := (HOWN2.out.lt y h).2; have := hy.1; omega⟩) (fun y o u hy hu => (HB4.out.cell (p := ⟨y, o, none⟩) (by exact hy.2)).trans hu) _ _ HNEW.out
      have hown5 : OwnsC (fun y => y ≠ b ∧ y ≠ w.heap.size ∧ y ≠ gr) w5 (gr + 1) 24 (.slice (some ⟨g5, 0, none⟩) (ys.length + 1) cap5) (ys ++ [.mk kk2 i2 l2 s2 t2 e2 xs2]) := OwnsC.app (w := w4) HO1'.out HO2'.out HO3'.out hx4 hown' hgrow (fun q hq => by
        have hq2 : q = g5 := (Option.some.inj hq).symm
        subst hq2
        rcases hat with h | h
        · exact .inl h
        · exact .inr (by omega))
      obtain ⟨A5, c5, hv5, h51, h52, h53⟩ := hown5.cs
      injection hv5 with q1 q2 q3
      subst q1 q3
      have H51 := Lib.hid h51; have H52 := Lib.hid h52; have H53 := Lib.hid h53
      clear hx4 hown5 hown' hgrow hat h51 h52 h53 q2
      have HST6 := Lib.hid (HST5.out.set_ (j := 6) (by simp) (.slice (some ⟨g5, 0, none⟩) (ys.length + 1) cap5))
      simp only [List.set_cons_zero, List.set_cons_succ] at HST6
      have x0 := HST6.out.2.2.1.1 0 _ rfl; have x1 := HST6.out.2.2.1.1 1 _ rfl; have x2 := HST6.out.2.2.1.1 2 _ rfl; have x3 := HST6.out.2.2.1.1 3 _ rfl; have x4 := HST6.out.2.2.1.1 4 _ rfl; have x5 := HST6.out.2.2.1.1 5 _ rfl; have x6 := HST6.out.2.2.1.1 6 _ rfl; have xf := HST6.out.2.2.1.2.1
      have y0 := HST6.out.2.2.2.1.1 0 _ rfl; have y1 := HST6.out.2.2.2.1.1 1 _ rfl; have y2 := HST6.out.2.2.2.1.1 2 _ rfl; have y3 := HST6.out.2.2.2.1.1 3 _ rfl; have y4 := HST6.out.2.2.2.1.1 4 _ rfl; have y5 := HST6.out.2.2.2.1.1 5 _ rfl; have y6 := HST6.out.2.2.2.1.1 6 _ rfl; have yf := HST6.out.2.2.2.1.2.1
      obtain ⟨q1, q2⟩ := fin_tape (.int .i64 kk) (.string i) (.string l) (.int .i64 s) (.int .i64 t) (.int .i64 le) (.slice (some ⟨g5, 0, none⟩) (ys.length + 1) cap5) HST6.out.1 HST6.out.2.1 (show gr ≠ b by have := HGR.out; omega) (show B ≤ gr by have := HGR.out; omega) (show w.heap.size ≤ gr by have := HGR.out; omega)
      have HQ1 := Lib.hid q1; have HQ2 := Lib.hid q2; clear q1 q2
      go_wp2
      refine bodyPost_ret (v := .agg #[.int .i64 kk, .string i, .string l, .int .i64 s, .int .i64 t, .int .i64 le, .slice (some ⟨g5, 0, none⟩) (ys.length + 1) cap5]) (by simp [results, Tryd.results8, go_sem, y0, y1, y2, y3, y4, y5, y6]) rfl ⟨.mk kk i l s t le (ys ++ [.mk kk2 i2 l2 s2 t2 e2 xs2]), contCells kk i l s t le (some ⟨g5, 0, none⟩) (ys.length + 1) cap5, _, rfl, ?_, HQ1.out, HQ2.out, ?_⟩
      · rw [CRdS]
        exact ⟨(some ⟨g5, 0, none⟩), cap5, (by simp [contCells]), ⟨HO1.out, HO2.out, HO3.out, HO4.out, HO5.out, HO6.out⟩, H51.out, H52.out, fun hn => by
      obtain ⟨bb, o, hA, hbb, hcs⟩ := H53.out hn
      rw [fin_size]
      exact ⟨bb, o, hA, ⟨by simpa using hbb.2, by have := hbb.1; have := HGR.out; omega⟩, CsAtS_mono (fun y hy => ⟨by simpa using hy.2, hy.1.1⟩) (fun y o u hy hu => fin_cells _ _ _ _ _ _ _ y o u (fun e => hy.1.2.2 e.symm) ((cell_set_far w5 ⟨w.heap.size, 6, none⟩ _ y o (fun e => hy.1.2.1 e.symm)).trans hu)) bb ⟨⟨by have := hbb.1; have := HGR.out; omega, by have := hbb.1; have := HGR.out; omega, by have := hbb.1; omega⟩, hbb.2⟩ _ o hcs⟩⟩
      · have h := HNX.out; simp only [nodesC, nodesL_app, nodesL] at h ⊢; omega
  · skip
    have x0 := HST1.out.2.2.1.1 0 _ rfl; have x1 := HST1.out.2.2.1.1 1 _ rfl; have x2 := HST1.out.2.2.1.1 2 _ rfl; have x3 := HST1.out.2.2.1.1 3 _ rfl; have x4 := HST1.out.2.2.1.1 4 _ rfl; have x5 := HST1.out.2.2.1.1 5 _ rfl; have x6 := HST1.out.2.2.1.1 6 _ rfl; have xf := HST1.out.2.2.1.2.1
    go_upto_region 18 with fail
    clear x0 x1 x2 x3 x4 x5 x6 xf
    have HST3 := Lib.hid (HST1.out.set_ (j := 6) (by simp) (.slice none 0 0))
    simp only [List.set_cons_zero, List.set_cons_succ] at HST3
    have x0 := HST3.out.2.2.1.1 0 _ rfl; have x1 := HST3.out.2.2.1.1 1 _ rfl; have x2 := HST3.out.2.2.1.1 2 _ rfl; have x3 := HST3.out.2.2.1.1 3 _ rfl; have x4 := HST3.out.2.2.1.1 4 _ rfl; have x5 := HST3.out.2.2.1.1 5 _ rfl; have x6 := HST3.out.2.2.1.1 6 _ rfl; have xf := HST3.out.2.2.1.2.1
    have y0 := HST3.out.2.2.2.1.1 0 _ rfl; have y1 := HST3.out.2.2.2.1.1 1 _ rfl; have y2 := HST3.out.2.2.2.1.1 2 _ rfl; have y3 := HST3.out.2.2.2.1.1 3 _ rfl; have y4 := HST3.out.2.2.2.1.1 4 _ rfl; have y5 := HST3.out.2.2.2.1.1 5 _ rfl; have y6 := HST3.out.2.2.2.1.1 6 _ rfl; have yf := HST3.out.2.2.2.1.2.1
    obtain ⟨q1, q2⟩ := fin_tape (.int .i64 kk) (.string i) (.string l) (.int .i64 s) (.int .i64 t) (.int .i64 le) (.slice none 0 0) HST3.out.1 HST3.out.2.1 (show gr ≠ b by have := HGR.out; omega) (show B ≤ gr by have := HGR.out; omega) (show w.heap.size ≤ gr by have := HGR.out; omega)
    have HQ1 := Lib.hid q1; have HQ2 := Lib.hid q2; clear q1 q2
    go_wp2
    refine bodyPost_ret (v := .agg #[.int .i64 kk, .string i, .string l, .int .i64 s, .int .i64 t, .int .i64 le, .slice none 0 0]) (by simp [results, Tryd.results8, go_sem, y0, y1, y2, y3, y4, y5, y6]) rfl ⟨.mk kk i l s t le [], contCells kk i l s t le none 0 0, _, rfl, ?_, HQ1.out, HQ2.out, ?_⟩
    · rw [CRdS]
      exact ⟨none, 0, rfl, ⟨HO1.out, HO2.out, HO3.out, HO4.out, HO5.out, HO6.out⟩, Nat.le_refl _, by unfold maxLen; omega, fun h => by simp at h⟩
    · simp only [nodesC, nodesL]; omega
  · skip
    have x0 := HST1.out.2.2.1.1 0 _ rfl; have x1 := HST1.out.2.2.1.1 1 _ rfl; have x2 := HST1.out.2.2.1.1 2 _ rfl; have x3 := HST1.out.2.2.1.1 3 _ rfl; have x4 := HST1.out.2.2.1.1 4 _ rfl; have x5 := HST1.out.2.2.1.1 5 _ rfl; have x6 := HST1.out.2.2.1.1 6 _ rfl; have xf := HST1.out.2.2.1.2.1
    have y0 := HST1.out.2.2.2.1.1 0 _ rfl; have y1 := HST1.out.2.2.2.1.1 1 _ rfl; have y2 := HST1.out.2.2.2.1.1 2 _ rfl; have y3 := HST1.out.2.2.2.1.1 3 _ rfl; have y4 := HST1.out.2.2.2.1.1 4 _ rfl; have y5 := HST1.out.2.2.2.1.1 5 _ rfl; have y6 := HST1.out.2.2.2.1.1 6 _ rfl; have yf := HST1.out.2.2.2.1.2.1
    obtain ⟨q1, q2⟩ := fin_tape (.int .i64 kk) (.string i) (.string l) (.int .i64 s) (.int .i64 t) (.int .i64 le) (.slice A0 ys.length c0) HST1.out.1 HST1.out.2.1 (show gr ≠ b by have := HGR.out; omega) (show B ≤ gr by have := HGR.out; omega) (show w.heap.size ≤ gr by have := HGR.out; omega)
    have HQ1 := Lib.hid q1; have HQ2 := Lib.hid q2; clear q1 q2
    go_wp2
    refine bodyPost_ret (v := .agg #[.int .i64 kk, .string i, .string l, .int .i64 s, .int .i64 t, .int .i64 le, .slice A0 ys.length c0]) (by simp [results, Tryd.results8, go_sem, y0, y1, y2, y3, y4, y5, y6]) rfl ⟨.mk kk i l s t le ys, contCells kk i l s t le A0 ys.length c0, _, rfl, ?_, HQ1.out, HQ2.out, ?_⟩
    · rw [CRdS]
      exact ⟨A0, c0, rfl, ⟨HO1.out, HO2.out, HO3.out, HO4.out, HO5.out, HO6.out⟩, HIN.out.kept HQ2.out⟩
    · simp only [nodesC]; omega
  · skip
    have x0 := HST1.out.2.2.1.1 0 _ rfl; have x1 := HST1.out.2.2.1.1 1 _ rfl; have x2 := HST1.out.2.2.1.1 2 _ rfl; have x3 := HST1.out.2.2.1.1 3 _ rfl; have x4 := HST1.out.2.2.1.1 4 _ rfl; have x5 := HST1.out.2.2.1.1 5 _ rfl; have x6 := HST1.out.2.2.1.1 6 _ rfl; have xf := HST1.out.2.2.1.2.1
    have y0 := HST1.out.2.2.2.1.1 0 _ rfl; have y1 := HST1.out.2.2.2.1.1 1 _ rfl; have y2 := HST1.out.2.2.2.1.1 2 _ rfl; have y3 := HST1.out.2.2.2.1.1 3 _ rfl; have y4 := HST1.out.2.2.2.1.1 4 _ rfl; have y5 := HST1.out.2.2.2.1.1 5 _ rfl; have y6 := HST1.out.2.2.2.1.1 6 _ rfl; have yf := HST1.out.2.2.2.1.2.1
    obtain ⟨q1, q2⟩ := fin_tape (.int .i64 kk) (.string i) (.string l) (.int .i64 s) (.int .i64 t) (.int .i64 le) (.slice A0 ys.length c0) HST1.out.1 HST1.out.2.1 (show gr ≠ b by have := HGR.out; omega) (show B ≤ gr by have := HGR.out; omega) (show w.heap.size ≤ gr by have := HGR.out; omega)
    have HQ1 := Lib.hid q1; have HQ2 := Lib.hid q2; clear q1 q2
    go_wp2
    refine bodyPost_ret (v := .agg #[.int .i64 kk, .string i, .string l, .int .i64 s, .int .i64 t, .int .i64 le, .slice A0 ys.length c0]) (by simp [results, Tryd.results8, go_sem, y0, y1, y2, y3, y4, y5, y6]) rfl ⟨.mk kk i l s t le ys, contCells kk i l s t le A0 ys.length c0, _, rfl, ?_, HQ1.out, HQ2.out, ?_⟩
    · rw [CRdS]
      exact ⟨A0, c0, rfl, ⟨HO1.out, HO2.out, HO3.out, HO4.out, HO5.out, HO6.out⟩, HIN.out.kept HQ2.out⟩
    · simp only [nodesC]; omega
end Go.Proofs.YtnlocdhhecockaaDoor
