/-
  The walk of layer 7's parser: number.
-/
import Derived.Test.YtnlocdhhecockaaGreatDoorCnV
import Derived.Lib.AtoiAllCases
import Derived.Lib.AppendIntMem
import Derived.Lib.SmallJoins
set_option linter.unusedSimpArgs false
set_option linter.unusedVariables false
namespace Go.Cold
open Go Go.RowKit
theorem indexAny_lt (cs : List UInt8) : ∀ l : List UInt8, Lib.indexAny l cs ≤ l.length
  | [] => by rw [Lib.indexAny]; simp
  | b :: l => by
    have ih := indexAny_lt cs l
    rw [Lib.indexAny]
    split
    · simp; omega
    · split
      · simp; omega
      · rw [List.length_cons]; omega
theorem untilN_le (r ends : ByteArray) : untilN r ends ≤ r.size := by
  have h1 := indexAny_lt ends.data.toList r.data.toList
  rw [ba_size] at h1
  unfold untilN
  split
  · exact Nat.le_refl _
  · omega
theorem afterP_le {s ends : ByteArray} {k : Nat} (hk : k ≤ s.size) : afterP s ends k ≤ s.size ∧ k ≤ afterP s ends k := by
  have h := untilN_le (s.extract k s.size) ends
  rw [ByteArray.size_extract] at h
  unfold afterP
  omega
theorem pieceP_le (s ends : ByteArray) (k : Nat) : (pieceP s ends k).size ≤ s.size := by
  unfold pieceP
  rw [ByteArray.size_extract, ByteArray.size_extract]
  omega
def slashE : ByteArray := ⟨#[47, 40, 44, 41, 58]⟩
theorem isNone_ok {t : ByteArray} {n : Int} (h : Lib.atoiAll t.data.toList = .ok n) : (numP t).isNone = !decide (Lib.itoa n = t.data.toList) := by
  unfold numP
  rw [h]
  by_cases h2 : Lib.itoa n = t.data.toList
  · simp [h2]
  · simp [h2]
theorem isNone_no {t : ByteArray} (h : ∀ n, Lib.atoiAll t.data.toList ≠ .ok n) : (numP t).isNone = true := by
  unfold numP
  split
  · exact absurd (by assumption) (h _)
  · rfl
end Go.Cold
namespace Go.Proofs.YtnlocdhhecockaaGreatDoor
open Go.RowKit Go.Cold

def ifaceV (ev : Value) : Prop := ev = .nilIface ∨ ∃ te pe, ev = .iface te pe
/-- The variables that the library's numbers read. -/
def Ok7 (w : World) : Prop := (∃ ev, w.cell? ⟨2, 0, none⟩ = some ev ∧ ifaceV ev) ∧ (∃ ev, w.cell? ⟨3, 0, none⟩ = some ev ∧ ifaceV ev) ∧
  Lib.TabIs Tryz.prog w "internal/strconv.uint64pow10" .u64 Lib.pow10Tab
theorem tab_named : Tryz.prog.globalNamed "internal/strconv.uint64pow10" = some 0 := by kernel_rfl
theorem var_keep {P : Program} {w w' : World} {n : String} {g : Nat} (hg : P.globalNamed n = some g) (h : w'.heap[g]? = w.heap[g]?) : w'.var? P n = w.var? P n := by
  simp [World.var?, hg, h]
theorem Ok7.lt {w : World} (h : Ok7 w) : 2 < w.heap.size ∧ 3 < w.heap.size ∧ 0 < w.heap.size := by
  obtain ⟨⟨e1, h1, _⟩, ⟨e2, h2, _⟩, h3⟩ := h
  refine ⟨block_lt_of_cell h1, block_lt_of_cell h2, ?_⟩
  unfold Lib.TabIs World.var? at h3
  rw [tab_named] at h3
  simp only [Option.bind_some] at h3
  by_cases hlt : 0 < w.heap.size
  · exact hlt
  · rw [Array.getElem?_eq_none (by omega)] at h3
    cases h3
theorem Ok7.below {w w' : World} (h : Ok7 w) (hb : Below w.heap.size w w') : Ok7 w' := by
  obtain ⟨l1, l2, l3⟩ := h.lt
  obtain ⟨⟨e1, h1, q1⟩, ⟨e2, h2, q2⟩, h3⟩ := h
  refine ⟨⟨e1, (hb.cell (p := ⟨_, 0, none⟩) (by exact l1)).trans h1, q1⟩, ⟨e2, (hb.cell (p := ⟨_, 0, none⟩) (by exact l2)).trans h2, q2⟩, ?_⟩
  unfold Lib.TabIs at h3 ⊢
  rw [var_keep tab_named (hb.block _ l3)]; exact h3
/-- A block that is none of theirs. -/
def GB (b : Nat) : Prop := 2 ≠ b ∧ 3 ≠ b ∧ 0 ≠ b
theorem Ok7.gb {w : World} (h : Ok7 w) {b : Nat} (hb : w.heap.size ≤ b) : GB b := by
  obtain ⟨l1, l2, l3⟩ := h.lt
  exact ⟨by omega, by omega, by omega⟩
theorem Ok7.grown {w w' : World} {b : Nat} (h : Ok7 w) (hg : w.grownBy w' (some b)) (hb : GB b) : Ok7 w' := by
  obtain ⟨l1, l2, l3⟩ := h.lt
  obtain ⟨⟨e1, h1, q1⟩, ⟨e2, h2, q2⟩, h3⟩ := h
  refine ⟨⟨e1, hg.cell h1 (fun e => hb.1 (Option.some.inj e)), q1⟩, ⟨e2, hg.cell h2 (fun e => hb.2.1 (Option.some.inj e)), q2⟩, ?_⟩
  unfold Lib.TabIs at h3 ⊢
  rw [var_keep tab_named (hg.block _ l3 (fun e => hb.2.2 (Option.some.inj e)))]; exact h3

def AtoiPost (t : ByteArray) (w : World) (e : Ending) (w' : World) : Prop := Below w.heap.size w w' ∧ ∃ n ev, e = .returned (.tuple #[.int .i64 n, ev]) ∧ okInt n ∧
  ((Lib.atoiAll t.data.toList = .ok n ∧ ev = .nilIface) ∨ ((numP t).isNone = true ∧ ∃ te pe, ev = .iface te pe))
theorem Atoi_any (t : ByteArray) (w : World) (hok : Ok7 w) (ht : t.size ≤ 1000) : Calls Tryz.prog 41 #[.string t] w (AtoiPost t w) := by
  cases h : Lib.atoiAll t.data.toList
  · rename_i n
    refine (Tryz.strconv_Atoi_ok t (by omega) n h w).mono ?_
    rintro e w' ⟨rfl, hw⟩
    refine ⟨?_, n, .nilIface, rfl, Lib.atoiAll_bounds h, .inl ⟨h, rfl⟩⟩
    rcases hw with rfl | ⟨u, rfl⟩
    · exact Below.refl _ _
    · exact Lib.bytesWorld_below _ _ _
  · obtain ⟨⟨ev, h1, h2⟩, _⟩ := hok
    refine (Any.strconv_Atoi_syntax Tryz.laysC172 t (by omega) h ev w h1 h2).mono ?_
    rintro e w' ⟨N, rfl, _, _, hb⟩
    exact ⟨hb, 0, _, rfl, by unfold okInt; omega, .inr ⟨isNone_no (fun n hn => by rw [h] at hn; cases hn), _, _, rfl⟩⟩
  · obtain ⟨_, ⟨ev, h1, h2⟩, _⟩ := hok
    refine (Any.strconv_Atoi_range Tryz.laysC172 t (by omega) h ev w h1 h2).mono ?_
    rintro e w' ⟨N, rfl, _, _, hb⟩
    exact ⟨hb, _, _, rfl, by unfold okInt Lib.atoiSat; split <;> omega, .inr ⟨isNone_no (fun n hn => by rw [h] at hn; cases hn), _, _, rfl⟩⟩
theorem Itoa_any (n : Int) (w : World) (hok : Ok7 w) (hn : okInt n) : Calls Tryz.prog 20 #[.int .i64 n] w fun e w' => e = .returned (.string ⟨(Lib.itoa n).toArray⟩) ∧ Below w.heap.size w w' := by
  refine (Tryz.strconv_Itoa n hn.1 hn.2 w hok.2.2).mono ?_
  rintro e w' ⟨rfl, k, os, rfl⟩
  exact ⟨rfl, Lib.below_grow _ _ (Nat.le_refl _) _ _⟩

/-- What the library's IndexAny does at the rest of a text, wherever the rest begins. -/
def IxOk (s : ByteArray) : Prop := ∀ ends ∈ [slashE, ⟨#[58, 44, 41]⟩, ⟨#[58, 40, 44, 41]⟩, ⟨#[44, 41]⟩], ∀ k, k ≤ s.size → ∀ W,
  Calls Tryz.prog 39 #[.string (s.extract k s.size), .string ends] W fun e W' => e = .returned (.int .i64 (Lib.indexAny (s.extract k s.size).data.toList ends.data.toList)) ∧ Below W.heap.size W W'

/-- until, at a text where IndexAny is known. -/
theorem untilP_any (s ends : ByteArray) (k b : Nat) (bad : Bool) (w : World) (hs : s.size ≤ 1000) (hk : k ≤ s.size) (hc : CurAt w b s k bad) (hix : IxOk s) (he : ends ∈ [slashE, ⟨#[58, 44, 41]⟩, ⟨#[58, 40, 44, 41]⟩, ⟨#[44, 41]⟩]) :
    Calls Tryz.prog 23 #[.pointer (some ⟨b, 0, none⟩), .string ends] w fun e w' => e = .returned (.string (pieceP s ends k)) ∧ CurAt w' b s (afterP s ends k) bad ∧ w.grownBy w' (some b) :=
  until_any s ends k b bad w hs hk hc (untilN_le _ _) (hix ends he k hk)

def NumPost (s : ByteArray) (k b : Nat) (bad : Bool) (w : World) (e : Ending) (w' : World) : Prop := ∃ n : Int, e = .returned (.int .i64 n) ∧ okInt n ∧ CurAt w' b s (afterP s slashE k) (bad || (numP (pieceP s slashE k)).isNone) ∧ w.grownBy w' (some b) ∧
  ∀ m, numP (pieceP s slashE k) = some m → n = m
theorem numP_ok {t : ByteArray} {n : Int} (h : Lib.atoiAll t.data.toList = .ok n) : ∀ m, numP t = some m → n = m := fun m hm => by
  unfold numP at hm; rw [h] at hm
  dsimp only at hm
  split at hm
  · exact Option.some.inj hm
  · cases hm
theorem numP_none {t : ByteArray} {n : Int} (h : (numP t).isNone = true) : ∀ m, numP t = some m → n = m := fun m hm => by rw [hm] at h; cases h
set_option maxRecDepth 10000 in
theorem number_any (s : ByteArray) (k b : Nat) (bad : Bool) (w : World) (hs : s.size ≤ 1000) (hk : k ≤ s.size) (hc : CurAt w b s k bad) (hix : IxOk s) (hok : Ok7 w) (hgb : GB b) :
    Calls Tryz.prog 25 #[.pointer (some ⟨b, 0, none⟩)] w (NumPost s k b bad w) := by
  have hcall := untilP_any s slashE k b bad w hs hk hc hix (by simp)
  have HCALL := Lib.hid hcall; clear hcall hc hix
  have hpl := pieceP_le s slashE k
  have HOK := Lib.hid hok; have HGB := Lib.hid hgb; clear hok hgb
  go_enter Tryz.func25, Tryz.ntmps25
  go_wp2_with fail
  refine HCALL.out.mono ?_
  rintro e w1 ⟨rfl, hc1, hg1⟩
  have hok1 := HOK.out.grown hg1 HGB.out
  have HN := Lib.hid (show NumPost s k b bad w = NumPost s k b bad w from rfl)
  obtain ⟨t, ht⟩ : ∃ t, pieceP s slashE k = t := ⟨_, rfl⟩
  rw [ht] at hpl ⊢
  have HT := Lib.hid ht; clear ht
  have hcall2 := Atoi_any t w1 hok1 (by omega)
  have HC1 := Lib.hid hc1; have HG1 := Lib.hid hg1; have HOK1 := Lib.hid hok1; have HCALL2 := Lib.hid hcall2
  clear hc1 hg1 hok1 hcall2 hpl
  go_wp2_with fail
  refine HCALL2.out.mono ?_
  rintro e w2 ⟨hb2, n, ev, rfl, hokn, hor⟩
  obtain ⟨c2, g2⟩ := HC1.out.below hb2
  obtain ⟨h0, h1, h2, hf, hlt⟩ := id c2
  have HOK2 := Lib.hid (HOK1.out.below hb2)
  have HC2 := Lib.hid c2; have HG2 := Lib.hid g2; have HOKN := Lib.hid hokn
  clear c2 g2 hb2 hokn
  have hend : ∀ z, z = (bad || (numP t).isNone) → (∀ m, numP t = some m → n = m) → ∀ w3, CurAt w3 b s (afterP s slashE k) z → w2.grownBy w3 (some b) → NumPost s k b bad w (.returned (.int .i64 n)) w3 := by
    intro z hz hm w3 h3 h4
    subst hz
    exact ⟨n, rfl, HOKN.out, by rw [HT.out]; exact h3, grown_trans (grown_trans HG1.out HG2.out) h4, by rw [HT.out]; exact hm⟩
  have HEND := Lib.hid hend; clear hend
  rcases hor with ⟨hv, rfl⟩ | ⟨hv, te, pe, rfl⟩
  · cases bad with
    | true =>
      have HV := Lib.hid hv; clear hv
      go_wp2
      go_ret
      obtain ⟨q1, q2⟩ := cur_bad true HC2.out
      exact HEND.out true rfl (numP_ok HV.out) _ q1 q2
    | false =>
      have hcall3 := Itoa_any n w2 HOK2.out HOKN.out
      have HV := Lib.hid hv; clear hv
      have HCALL3 := Lib.hid hcall3; clear hcall3
      go_wp2_with fail
      refine HCALL3.out.mono ?_
      rintro e w3 ⟨rfl, hb3⟩
      obtain ⟨c3, g3⟩ := HC2.out.below hb3
      clear h0 h1 h2 hf hlt
      obtain ⟨h0, h1, h2, hf, hlt⟩ := id c3
      have HC3 := Lib.hid c3; have HG3 := Lib.hid g3; clear c3 g3 hb3
      have hnone := isNone_ok HV.out
      obtain ⟨z, hz⟩ : ∃ z : ByteArray, (⟨(Lib.itoa n).toArray⟩ : ByteArray) = z := ⟨_, rfl⟩
      rw [hz]
      have hzz : decide (Lib.itoa n = t.data.toList) = decide (z = t) := by
        rw [← hz]
        have : (Lib.itoa n = t.data.toList) ↔ (⟨(Lib.itoa n).toArray⟩ : ByteArray) = t := by
          constructor
          · intro h; exact ba_ext (by simpa using h)
          · intro h; rw [← h]
        exact decide_eq_decide.2 this
      rw [hzz] at hnone
      have HZ := Lib.hid hz; clear hz hzz
      by_cases hq : z = t
      · have p1 : (z.toList == t.toList) = true := by rw [ba_beq]; exact decide_eq_true hq
        have p2 : (!z.toList == t.toList) = false := by rw [p1]; rfl
        have p3 : (z.toList != t.toList) = false := p2
        rw [decide_eq_true hq] at hnone
        have HNO := Lib.hid hnone; clear hnone hq
        go_wp2
        go_ret
        obtain ⟨q1, q2⟩ := cur_bad false HC3.out
        exact HEND.out false (by rw [HNO.out]; rfl) (numP_ok HV.out) _ q1 (grown_trans HG3.out q2)
      · have p1 : (z.toList == t.toList) = false := by rw [ba_beq]; exact decide_eq_false hq
        have p2 : (!z.toList == t.toList) = true := by rw [p1]; rfl
        have p3 : (z.toList != t.toList) = true := p2
        rw [decide_eq_false hq] at hnone
        have HNO := Lib.hid hnone; clear hnone hq
        go_wp2
        go_ret
        obtain ⟨q1, q2⟩ := cur_bad true HC3.out
        exact HEND.out true (by rw [HNO.out]; rfl) (numP_ok HV.out) _ q1 (grown_trans HG3.out q2)
  · have HV := Lib.hid hv; clear hv
    cases bad with
    | true =>
      go_wp2
      go_ret
      obtain ⟨q1, q2⟩ := cur_bad true HC2.out
      exact HEND.out true rfl (numP_none HV.out) _ q1 q2
    | false =>
      go_wp2
      go_ret
      obtain ⟨q1, q2⟩ := cur_bad true HC2.out
      exact HEND.out true (by rw [HV.out]; rfl) (numP_none HV.out) _ q1 q2
end Go.Proofs.YtnlocdhhecockaaGreatDoor
