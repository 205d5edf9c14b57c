/-
  The walk of layer 7's parser: number.
-/
import Derived.Test.YtehmidmoiamcfaaGreatDoorHSC
import Derived.Lib.AtoiAllCases
import Derived.Lib.AppendIntMem
import Derived.Lib.SmallJoins
import Derived.Test.YtehmidmoiamcfaaGreatDoorHA
import Derived.Test.YtehmidmoiamcfaaGreatDoorHD
import Derived.Test.YtehmidmoiamcfaaGreatDoorHSA
import Derived.Test.YtehmidmoiamcfaaGreatDoorCards
import Derived.Test.YtehmidmoiamcfaaGreatDoorTie
import Derived.ProofKit
import Derived.OpenShut
import Derived.Below
import Derived.ChangeSame
import Derived.Deep.DeepHandedRow
import Derived.Lay
import Derived.SevenTiedAt
import Derived.SliceStrings
import Derived.WideKeyArgs
import Derived.Stop.LaidErr
import Derived.ChangeSlices
import Derived.Deep.RegionHeld3
import Derived.Deep.DeepCutAuto
import Derived.StillTailTactics
import Derived.RangeFuncNested
import Derived.RangeFuncBound
import Derived.RangeFuncCalls
import Derived.RangeFuncLeaves
import Derived.Shelf.RegionOpen
import Derived.OwnWalkIn
import Derived.TacticsInMore
import Derived.LoopNIn
import Derived.LoopIn
import Derived.Lib.BufferMore
set_option linter.unusedSimpArgs false
set_option linter.unusedVariables false
namespace Go.Cold
open Go Go.RowKit
theorem indexAny_lt (cs : List UInt8) : ∀ l : List UInt8, Lib.indexAny l cs ≤ l.length
 | [] => by rw [Lib.indexAny]; simp
 | b :: l => by
  have ih := indexAny_lt cs l
  rw [Lib.indexAny]
  split
  · simp; omega
  ·
   split
   · simp; omega
   · rw [List.length_cons]; omega
theorem untilN_le (r ends : ByteArray) : untilN r ends ≤ r.size := by
 have h1 := indexAny_lt ends.data.toList r.data.toList
 rw [ba_size] at h1
 unfold untilN
 split
 · exact Nat.le_refl _
 · omega
theorem afterP_le {s ends : ByteArray} {k : Nat} (hk : k ≤ s.size) : afterP s ends k ≤ s.size ∧ k ≤ afterP s ends k := by
 have h := untilN_le (s.extract k s.size) ends
 rw [ByteArray.size_extract] at h
 unfold afterP
 omega
theorem pieceP_le (s ends : ByteArray) (k : Nat) : (pieceP s ends k).size ≤ s.size := by
 unfold pieceP
 rw [ByteArray.size_extract, ByteArray.size_extract]
 omega
def slashE : ByteArray := ⟨#[47, 40, 44, 41, 58]⟩
theorem isNone_ok {t : ByteArray} {n : Int} (h : Lib.atoiAll t.data.toList = .ok n) : (numP t).isNone = !decide (Lib.itoa n = t.data.toList) := by
 unfold numP
 rw [h]
 by_cases h2 : Lib.itoa n = t.data.toList
 · simp [h2]
 · simp [h2]
theorem isNone_no {t : ByteArray} (h : ∀ n, Lib.atoiAll t.data.toList ≠ .ok n) : (numP t).isNone = true := by
 unfold numP
 split
 · exact absurd (by assumption) (h _)
 · rfl
end Go.Cold
namespace Go.Proofs.YtehmidmoiamcfaaGreatDoor
open Go.RowKit Go.Cold

def ifaceV (ev : Value) : Prop := ev = .nilIface ∨ ∃ te pe, ev = .iface te pe
/-- The variables that the library's numbers read. -/
def Ok7 (w : World) : Prop := (∃ ev, w.cell? ⟨3, 0, none⟩ = some ev ∧ ifaceV ev) ∧ (∃ ev, w.cell? ⟨4, 0, none⟩ = some ev ∧ ifaceV ev) ∧
 Lib.TabIs Tryz.prog w "internal/strconv.uint64pow10" .u64 Lib.pow10Tab
theorem tab_named : Tryz.prog.globalNamed "internal/strconv.uint64pow10" = some 0 := by kernel_rfl
theorem var_keep {P : Program} {w w' : World} {n : String} {g : Nat} (hg : P.globalNamed n = some g) (h : w'.heap[g]? = w.heap[g]?) : w'.var? P n = w.var? P n := by
 simp [World.var?, hg, h]
theorem Ok7.lt {w : World} (h : Ok7 w) : 3 < w.heap.size ∧ 4 < w.heap.size ∧ 0 < w.heap.size := by
 obtain ⟨⟨e1, h1, _⟩, ⟨e2, h2, _⟩, h3⟩ := h
 refine ⟨block_lt_of_cell h1, block_lt_of_cell h2, ?_⟩
 unfold Lib.TabIs World.var? at h3
 rw [tab_named] at h3
 simp only [Option.bind_some] at h3
 by_cases hlt : 0 < w.heap.size
 · exact hlt
 ·
  rw [Array.getElem?_eq_none (by omega)] at h3
  cases h3
theorem Ok7.below {w w' : World} (h : Ok7 w) (hb : Below w.heap.size w w') : Ok7 w' := by
 obtain ⟨l1, l2, l3⟩ := h.lt
 obtain ⟨⟨e1, h1, q1⟩, ⟨e2, h2, q2⟩, h3⟩ := h
 refine ⟨⟨e1, (hb.cell (p := ⟨_, 0, none⟩) (by exact l1)).trans h1, q1⟩, ⟨e2, (hb.cell (p := ⟨_, 0, none⟩) (by exact l2)).trans h2, q2⟩, ?_⟩
 unfold Lib.TabIs at h3 ⊢
 rw [var_keep tab_named (hb.block _ l3)]; exact h3
/-- A block that is none of theirs. -/
def GB (b : Nat) : Prop := 3 ≠ b ∧ 4 ≠ b ∧ 0 ≠ b
theorem Ok7.gb {w : World} (h : Ok7 w) {b : Nat} (hb : w.heap.size ≤ b) : GB b := by
 obtain ⟨l1, l2, l3⟩ := h.lt
 exact ⟨by omega, by omega, by omega⟩
theorem Ok7.grown {w w' : World} {b : Nat} (h : Ok7 w) (hg : w.grownBy w' (some b)) (hb : GB b) : Ok7 w' := by
 obtain ⟨l1, l2, l3⟩ := h.lt
 obtain ⟨⟨e1, h1, q1⟩, ⟨e2, h2, q2⟩, h3⟩ := h
 refine ⟨⟨e1, hg.cell h1 (fun e => hb.1 (Option.some.inj e)), q1⟩, ⟨e2, hg.cell h2 (fun e => hb.2.1 (Option.some.inj e)), q2⟩, ?_⟩
 unfold Lib.TabIs at h3 ⊢
 rw [var_keep tab_named (hg.block _ l3 (fun e => hb.2.2 (Option.some.inj e)))]; exact h3

def AtoiPost (t : ByteArray) (w : World) (e : Ending) (w' : World) : Prop := Below w.heap.size w w' ∧ ∃ n ev, e = .returned (.tuple #[.int .i64 n, ev]) ∧ okInt n ∧
 ((Lib.atoiAll t.data.toList = .ok n ∧ ev = .nilIface) ∨ ((numP t).isNone = true ∧ ∃ te pe, ev = .iface te pe))
theorem Atoi_any (t : ByteArray) (w : World) (hok : Ok7 w) (ht : t.size ≤ 1000) : Calls Tryz.prog 111 #[.string t] w (AtoiPost t w) := by
 cases h : Lib.atoiAll t.data.toList
 ·
  rename_i n
  refine (Tryz.strconv_Atoi_ok t (by omega) n h w).mono ?_
  rintro e w' ⟨rfl, hw⟩
  refine ⟨?_, n, .nilIface, rfl, Lib.atoiAll_bounds h, .inl ⟨h, rfl⟩⟩
  rcases hw with rfl | ⟨u, rfl⟩
  · exact Below.refl _ _
  · exact Lib.bytesWorld_below _ _ _
 ·
  obtain ⟨⟨ev, h1, h2⟩, _⟩ := hok
  refine (Any.strconv_Atoi_syntax Tryz.laysC172 t (by omega) h ev w h1 h2).mono ?_
  rintro e w' ⟨N, rfl, _, _, hb⟩
  exact ⟨hb, 0, _, rfl, by unfold okInt; omega, .inr ⟨isNone_no (fun n hn => by rw [h] at hn; cases hn), _, _, rfl⟩⟩
 ·
  obtain ⟨_, ⟨ev, h1, h2⟩, _⟩ := hok
  refine (Any.strconv_Atoi_range Tryz.laysC172 t (by omega) h ev w h1 h2).mono ?_
  rintro e w' ⟨N, rfl, _, _, hb⟩
  exact ⟨hb, _, _, rfl, by unfold okInt Lib.atoiSat; split <;> omega, .inr ⟨isNone_no (fun n hn => by rw [h] at hn; cases hn), _, _, rfl⟩⟩
theorem Itoa_any (n : Int) (w : World) (hok : Ok7 w) (hn : okInt n) : Calls Tryz.prog 34 #[.int .i64 n] w fun e w' => e = .returned (.string ⟨(Lib.itoa n).toArray⟩) ∧ Below w.heap.size w w' := by
 refine (Tryz.strconv_Itoa n hn.1 hn.2 w hok.2.2).mono ?_
 rintro e w' ⟨rfl, k, os, rfl⟩
 exact ⟨rfl, Lib.below_grow _ _ (Nat.le_refl _) _ _⟩

/-- What the library's IndexAny does at the rest of a text, wherever the rest begins. -/
def IxOk (s : ByteArray) : Prop := ∀ ends ∈ [slashE, ⟨#[58, 44, 41]⟩, ⟨#[58, 40, 44, 41]⟩, ⟨#[44, 41]⟩], ∀ k, k ≤ s.size → ∀ W,
 Calls Tryz.prog 109 #[.string (s.extract k s.size), .string ends] W fun e W' => e = .returned (.int .i64 (Lib.indexAny (s.extract k s.size).data.toList ends.data.toList)) ∧ Below W.heap.size W W'

/-- until, at a text where IndexAny is known. -/
theorem untilP_any (s ends : ByteArray) (k b : Nat) (bad : Bool) (w : World) (hs : s.size ≤ 1000) (hk : k ≤ s.size) (hc : CurAt w b s k bad) (hix : IxOk s) (he : ends ∈ [slashE, ⟨#[58, 44, 41]⟩, ⟨#[58, 40, 44, 41]⟩, ⟨#[44, 41]⟩]) :
  Calls Tryz.prog 71 #[.pointer (some ⟨b, 0, none⟩), .string ends] w fun e w' => e = .returned (.string (pieceP s ends k)) ∧ CurAt w' b s (afterP s ends k) bad ∧ w.grownBy w' (some b) :=
 until_any s ends k b bad w hs hk hc (untilN_le _ _) (hix ends he k hk)

def NumPost (s : ByteArray) (k b : Nat) (bad : Bool) (w : World) (e : Ending) (w' : World) : Prop := ∃ n : Int, e = .returned (.int .i64 n) ∧ okInt n ∧ CurAt w' b s (afterP s slashE k) (bad || (numP (pieceP s slashE k)).isNone) ∧ w.grownBy w' (some b) ∧
 ∀ m, numP (pieceP s slashE k) = some m → n = m
theorem numP_ok {t : ByteArray} {n : Int} (h : Lib.atoiAll t.data.toList = .ok n) : ∀ m, numP t = some m → n = m := fun m hm => by
 unfold numP at hm; rw [h] at hm
 dsimp only at hm
 split at hm
 · exact Option.some.inj hm
 · cases hm
theorem numP_none {t : ByteArray} {n : Int} (h : (numP t).isNone = true) : ∀ m, numP t = some m → n = m := fun m hm => by rw [hm] at h; cases h
set_option maxRecDepth 10000 in
theorem c7number_any (s : ByteArray) (k b : Nat) (bad : Bool) (w : World) (hs : s.size ≤ 1000) (hk : k ≤ s.size) (hc : CurAt w b s k bad) (hix : IxOk s) (hok : Ok7 w) (hgb : GB b) :
  Calls Tryz.prog 73 #[.pointer (some ⟨b, 0, none⟩)] w (NumPost s k b bad w) := by
 have hcall := untilP_any s slashE k b bad w hs hk hc hix (by simp)
 have HCALL := Lib.hid hcall; clear hcall hc hix
 have hpl := pieceP_le s slashE k
 have HOK := Lib.hid hok; have HGB := Lib.hid hgb; clear hok hgb
 go_enter Tryz.func73, Tryz.ntmps73
 go_wp2_with fail
 refine HCALL.out.mono ?_
 rintro e w1 ⟨rfl, hc1, hg1⟩
 have hok1 := HOK.out.grown hg1 HGB.out
 have HN := Lib.hid (show NumPost s k b bad w = NumPost s k b bad w from rfl)
 obtain ⟨t, ht⟩ : ∃ t, pieceP s slashE k = t := ⟨_, rfl⟩
 rw [ht] at hpl ⊢
 have HT := Lib.hid ht; clear ht
 have hcall2 := Atoi_any t w1 hok1 (by omega)
 have HC1 := Lib.hid hc1; have HG1 := Lib.hid hg1; have HOK1 := Lib.hid hok1; have HCALL2 := Lib.hid hcall2
 clear hc1 hg1 hok1 hcall2 hpl
 go_wp2_with fail
 refine HCALL2.out.mono ?_
 rintro e w2 ⟨hb2, n, ev, rfl, hokn, hor⟩
 obtain ⟨c2, g2⟩ := HC1.out.below hb2
 obtain ⟨h0, h1, h2, hf, hlt⟩ := id c2
 have HOK2 := Lib.hid (HOK1.out.below hb2)
 have HC2 := Lib.hid c2; have HG2 := Lib.hid g2; have HOKN := Lib.hid hokn
 clear c2 g2 hb2 hokn
 have hend : ∀ z, z = (bad || (numP t).isNone) → (∀ m, numP t = some m → n = m) → ∀ w3, CurAt w3 b s (afterP s slashE k) z → w2.grownBy w3 (some b) → NumPost s k b bad w (.returned (.int .i64 n)) w3 := by
  intro z hz hm w3 h3 h4
  subst hz
  exact ⟨n, rfl, HOKN.out, by rw [HT.out]; exact h3, grown_trans (grown_trans HG1.out HG2.out) h4, by rw [HT.out]; exact hm⟩
 have HEND := Lib.hid hend; clear hend
 rcases hor with ⟨hv, rfl⟩ | ⟨hv, te, pe, rfl⟩
 ·
  cases bad with
  | true =>
   have HV := Lib.hid hv; clear hv
   go_wp2
   go_ret
   obtain ⟨q1, q2⟩ := cur_bad true HC2.out
   exact HEND.out true rfl (numP_ok HV.out) _ q1 q2
  | false =>
   have hcall3 := Itoa_any n w2 HOK2.out HOKN.out
   have HV := Lib.hid hv; clear hv
   have HCALL3 := Lib.hid hcall3; clear hcall3
   go_wp2_with fail
   refine HCALL3.out.mono ?_
   rintro e w3 ⟨rfl, hb3⟩
   obtain ⟨c3, g3⟩ := HC2.out.below hb3
   clear h0 h1 h2 hf hlt
   obtain ⟨h0, h1, h2, hf, hlt⟩ := id c3
   have HC3 := Lib.hid c3; have HG3 := Lib.hid g3; clear c3 g3 hb3
   have hnone := isNone_ok HV.out
   obtain ⟨z, hz⟩ : ∃ z : ByteArray, (⟨(Lib.itoa n).toArray⟩ : ByteArray) = z := ⟨_, rfl⟩
   rw [hz]
   have hzz : decide (Lib.itoa n = t.data.toList) = decide (z = t) := by
    rw [← hz]
    have : (Lib.itoa n = t.data.toList) ↔ (⟨(Lib.itoa n).toArray⟩ : ByteArray) = t := by
     constructor
     · intro h; exact ba_ext (by simpa using h)
     · intro h; rw [← h]
    exact decide_eq_decide.2 this
   rw [hzz] at hnone
   have HZ := Lib.hid hz; clear hz hzz
   by_cases hq : z = t
   ·
    have p1 : (z.toList == t.toList) = true := by rw [ba_beq]; exact decide_eq_true hq
    have p2 : (!z.toList == t.toList) = false := by rw [p1]; rfl
    have p3 : (z.toList != t.toList) = false := p2
    rw [decide_eq_true hq] at hnone
    have HNO := Lib.hid hnone; clear hnone hq
    go_wp2
    go_ret
    obtain ⟨q1, q2⟩ := cur_bad false HC3.out
    exact HEND.out false (by rw [HNO.out]; rfl) (numP_ok HV.out) _ q1 (grown_trans HG3.out q2)
   ·
    have p1 : (z.toList == t.toList) = false := by rw [ba_beq]; exact decide_eq_false hq
    have p2 : (!z.toList == t.toList) = true := by rw [p1]; rfl
    have p3 : (z.toList != t.toList) = true := p2
    rw [decide_eq_false hq] at hnone
    have HNO := Lib.hid hnone; clear hnone hq
    go_wp2
    go_ret
    obtain ⟨q1, q2⟩ := cur_bad true HC3.out
    exact HEND.out true (by rw [HNO.out]; rfl) (numP_ok HV.out) _ q1 (grown_trans HG3.out q2)
 ·
  have HV := Lib.hid hv; clear hv
  cases bad with
  | true =>
   go_wp2
   go_ret
   obtain ⟨q1, q2⟩ := cur_bad true HC2.out
   exact HEND.out true rfl (numP_none HV.out) _ q1 q2
  | false =>
   go_wp2
   go_ret
   obtain ⟨q1, q2⟩ := cur_bad true HC2.out
   exact HEND.out true (by rw [HV.out]; rfl) (numP_none HV.out) _ q1 q2
end Go.Proofs.YtehmidmoiamcfaaGreatDoor
namespace Go.Cold
open Go Go.RowKit
theorem CurAt.kept {w w' : World} {b k : Nat} {s : ByteArray} {bad : Bool} {row : Option Nat} (h : CurAt w b s k bad) (hg : w.grownBy w' row) (hne : some b ≠ row) : CurAt w' b s k bad := by
 obtain ⟨h0, h1, h2, hf, hlt⟩ := h
 have hh := hg.block b hlt hne
 exact ⟨(cell_heap hh 0).trans h0, (cell_heap hh 1).trans h1, (cell_heap hh 2).trans h2, fun j => (frozen_heap hh j).trans (hf j), Nat.lt_of_lt_of_le hlt hg.size⟩
theorem OwnsC.grownb {F : Nat → Prop} {w w' : World} {base b : Nat} {e : TypeId} {v : Value} {xs : List Cont} (h : OwnsC F w base e v xs) (hg : w.grownBy w' (some b)) (hF : ∀ x, F x → x ≠ b) (hbase : b < base) : OwnsC F w' base e v xs := by
 obtain ⟨css, h1, h2, h3⟩ := h
 refine ⟨css, h1.kept hg ?_, h2, fun i x cs hx hcs => CRdS_mono (fun y ⟨hf, q1, q2⟩ => ⟨hf, by have := hg.size; omega, q2⟩) (fun y o u ⟨hf, _, _⟩ hu => hg.cell hu (fun e => hF y hf (Option.some.inj e))) x cs (h3 i x cs hx hcs)⟩
 cases hv : v.ownBlock with
 | none => exact .inl rfl
 | some q =>
  right
  intro e
  have h4 := (h1.lt q hv).1
  have h5 := Option.some.inj e
  omega
/-- One step of the parser: a text that must stand here. -/
theorem step_want {α : Type} (s t : ByteArray) (k : Nat) (bad : Bool) (R : Nat → Option α) :
  (if bad then none else (wantP s t k).bind R) = (if (!skipB s k t || bad) then none else R (if skipB s k t then k + t.size else k)) := by
 cases bad <;> cases h : skipB s k t <;> simp [wantP, h]
/-- How far a loop of the parser has to go. -/
def measP (size b : Nat) (w : World) : Nat := match w.cell? ⟨b, 1, none⟩, w.cell? ⟨b, 2, none⟩ with
 | some (.int _ n), some (.bool bad) => 2 * (size - n.toNat) + (if bad then 0 else 1)
 | _, _ => 0
theorem measP_at {w : World} {b k : Nat} {s : ByteArray} {bad : Bool} (h : CurAt w b s k bad) (size : Nat) : measP size b w = 2 * (size - k) + (if bad then 0 else 1) := by
 obtain ⟨_, h1, h2, _⟩ := h
 unfold measP
 rw [h1, h2]
 simp
theorem skip_bound {s t : ByteArray} {k : Nat} (hk : k ≤ s.size) : (if skipB s k t then k + t.size else k) ≤ s.size ∧ k ≤ (if skipB s k t then k + t.size else k) := by
 split
 · exact ⟨skipB_le hk (by assumption), by omega⟩
 · exact ⟨hk, Nat.le_refl _⟩
/-- The loop of 'inner': the contents that are read, the place, and what is still to be read. -/
def InnerRel (s : ByteArray) (N b : Nat) (T : TypeId) (w0 : World) (k : Nat) (spec : Option (List Cont × Nat)) (v : Value) (wr : World) : Prop :=
 ∃ (kr : Nat) (badr : Bool) (xs : List Cont) (fr : Nat), OwnsC (fun x => w0.heap.size ≤ x) wr w0.heap.size T v xs ∧ CurAt wr b s kr badr ∧ w0.grownBy wr (some b) ∧ (kr ≤ s.size ∧ k ≤ kr ∧ nodesL xs + k ≤ kr) ∧
  (badr = false → nodesL xs + k + 1 ≤ kr ∧ s.size + 1 < fr + kr ∧ s.size < N + kr) ∧ spec = (if badr then none else innerP s fr kr xs)
end Go.Cold
namespace Go.Proofs.YtehmidmoiamcfaaGreatDoor
open Go.RowKit Go.Cold

def ContPost (s : ByteArray) (k f b : Nat) (bad : Bool) (w : World) (e : Ending) (w' : World) : Prop := ∃ (cs : List Value) (c : Cont) (k' : Nat) (bad' : Bool), e = .returned (.agg cs.toArray) ∧ NewC w w' c cs ∧ CurAt w' b s k' bad' ∧ w.grownBy w' (some b) ∧
 (k ≤ k' ∧ k' ≤ s.size ∧ nodesC c + k ≤ k' + 1) ∧ (if bad then none else contP s f k) = (if bad' then none else some (c, k'))
/-- What 'content' does at a place from which less than N bytes are left. -/
def ContCalls (s : ByteArray) (N : Nat) : Prop := ∀ (k f : Nat) (bad : Bool) (b : Nat) (w : World), s.size < N + k → k ≤ s.size → (bad = false → s.size < f + k) → CurAt w b s k bad → Ok7 w → GB b →
 Calls Tryz.prog 39 #[.pointer (some ⟨b, 0, none⟩)] w (ContPost s k f b bad w)
def NewL (w w' : World) (A : Option Addr) (c : Nat) (xs : List Cont) : Prop := xs.length ≤ c ∧ c ≤ maxLen ∧
 (0 < xs.length → ∃ bb o, A = some ⟨bb, o, none⟩ ∧ (w.heap.size ≤ bb ∧ bb < w'.heap.size) ∧ CsAtS w' (fun x => w.heap.size ≤ x ∧ x < w'.heap.size) bb xs o)
def InnerPost (s : ByteArray) (k f b : Nat) (bad : Bool) (w : World) (e : Ending) (w' : World) : Prop := ∃ (A : Option Addr) (c : Nat) (xs : List Cont) (k' : Nat) (bad' : Bool), e = .returned (.slice A xs.length c) ∧ NewL w w' A c xs ∧ CurAt w' b s k' bad' ∧ w.grownBy w' (some b) ∧
 (k ≤ k' ∧ k' ≤ s.size ∧ nodesL xs + k ≤ k') ∧ (if bad then none else (wantP s ⟨#[40]⟩ k).bind fun k1 => innerP s f k1 []) = (if bad' then none else some (xs, k'))

set_option maxHeartbeats 4000000 in
set_option maxRecDepth 100000 in
theorem inner_any (s : ByteArray) (hs : s.size ≤ 1000) (N : Nat) (H : ContCalls s N) (k f : Nat) (bad : Bool) (b : Nat) (w : World) (hk : k ≤ s.size) (hf : bad = false → s.size < N + (k + 1) ∧ s.size + 1 < f + (k + 1))
  (hc : CurAt w b s k bad) (hok : Ok7 w) (hgb : GB b) : Calls Tryz.prog 74 #[.pointer (some ⟨b, 0, none⟩)] w (InnerPost s k f b bad w) := by
 obtain ⟨i0, hi0, hz0, hz1, hz2⟩ := info_parts info_cont
 have HI0 := Lib.hid hi0; clear hi0
 have HZ0 := Lib.hid hz0; clear hz0
 have HZ1 := Lib.hid hz1; clear hz1
 have HZ2 := Lib.hid hz2; clear hz2
 have hcall := want_any s ⟨#[40]⟩ k b bad w hs hk hc
 have hbw : b < w.heap.size := hc.2.2.2.2
 have HCALL := Lib.hid hcall; have HH := Lib.hid H; have HOK := Lib.hid hok; have HGB := Lib.hid hgb
 have hbd := @skip_bound s ⟨#[40]⟩ k hk
 have hspec := step_want s ⟨#[40]⟩ k bad (fun k1 => innerP s f k1 [])
 have hon : (!skipB s k ⟨#[40]⟩ || bad) = false → bad = false ∧ k + 1 ≤ (if skipB s k ⟨#[40]⟩ then k + (⟨#[40]⟩ : ByteArray).size else k) := by
  intro h
  cases hq : skipB s k ⟨#[40]⟩ with
  | true => rw [hq] at h; simp at h; exact ⟨h, by rw [if_pos rfl]; exact Nat.le_refl _⟩
  | false => rw [hq] at h; simp at h
 clear hcall H hok hgb hc
 go_enter Tryz.func74, Tryz.ntmps74
 go_wp2_with fail
 refine HCALL.out.mono ?_
 rintro e w1 ⟨rfl, hc1, hg1⟩
 obtain ⟨k1, hk1⟩ : ∃ k1, (if skipB s k ⟨#[40]⟩ then k + (⟨#[40]⟩ : ByteArray).size else k) = k1 := ⟨_, rfl⟩
 obtain ⟨bad1, hbad1⟩ : ∃ bad1, (!skipB s k ⟨#[40]⟩ || bad) = bad1 := ⟨_, rfl⟩
 rw [hk1] at hc1 hbd hspec hon
 rw [hbad1] at hc1 hspec hon
 obtain ⟨spec, hspc⟩ : ∃ spec, (if bad then none else (wantP s ⟨#[40]⟩ k).bind fun k1 => innerP s f k1 []) = spec := ⟨_, rfl⟩
 rw [hspc] at hspec
 have hrel0 : InnerRel s N b 36 w k spec (.slice none 0 0) w1 := by
  refine ⟨k1, bad1, [], f, OwnsC.nil_ _ _ _ _, hc1, hg1, ⟨hbd.1, hbd.2, by rw [nodesL]; omega⟩, fun h => ?_, hspec⟩
  obtain ⟨h1, h2⟩ := hon h
  obtain ⟨h3, h4⟩ := hf h1
  exact ⟨by rw [nodesL]; omega, by omega, by omega⟩
 have HSPC := Lib.hid hspc; have HREL0 := Lib.hid hrel0
 have HK := Lib.hid hk
 clear hspc hrel0 hspec hon hbd hk1 hbad1 hc1 hf hk
 have hh0 : ∃ kr badr, CurAt w1 b s kr badr := by obtain ⟨kr, badr, xs, fr, _, h, _⟩ := HREL0.out; exact ⟨kr, badr, h⟩
 have HG1 := Lib.hid hg1; clear hg1 hh0
 go_wp2_with fail
 go_loopw [3] (fun v wr => Hid (InnerRel s N b 36 w k spec v wr)) (fun _ wr => measP s.size b wr)
 case atStart => exact HREL0
 case round =>
  obtain ⟨kr, badr, xs, fr, howns, hcr, hgr, hbnd, hgood, hsp⟩ := hrel.out
  clear HREL0 hrel
  have hmeas := measP_at hcr s.size
  obtain ⟨h0, h1, h2, hfz, hlt⟩ := id hcr
  have HOWN := Lib.hid howns; have HCR := Lib.hid hcr; have HGR := Lib.hid hgr; have HBND := Lib.hid hbnd; have HGOOD := Lib.hid hgood; have HSP := Lib.hid hsp; have HMEAS := Lib.hid hmeas
  clear howns hcr hgr hbnd hgood hsp hmeas
  cases badr with
  | true =>
   go_wp2
   go_ret
   refine ⟨none, 0, [], kr, true, rfl, ⟨Nat.le_refl _, by unfold maxLen; omega, fun h => by simp at h⟩, HCR.out, HGR.out, ⟨HBND.out.2.1, HBND.out.1, by rw [nodesL]; have := HBND.out.2.1; omega⟩, ?_⟩
   rw [HSPC.out, HSP.out]; rfl
  | false =>
   obtain ⟨hn1, hfu, hNN⟩ := HGOOD.out rfl
   obtain ⟨hb1, hb2, hb3⟩ := HBND.out
   obtain ⟨f', rfl⟩ : ∃ f', fr = f' + 1 := ⟨fr - 1, by omega⟩
   have hcall := HH.out kr f' false b wr hNN hb1 (fun _ => by omega) HCR.out (HOK.out.grown HGR.out HGB.out) HGB.out
   have HCALL2 := Lib.hid hcall; clear hcall
   have HN1 := Lib.hid hn1; have HFU := Lib.hid hfu; have HNN := Lib.hid hNN; have HB := Lib.hid (And.intro hb1 (And.intro hb2 hb3)); clear hn1 hfu hb1 hb2 hb3 hNN
   go_wp2_with fail
   refine HCALL2.out.mono ?_
   rintro e' w3 ⟨cs3, x, k3, bad3, rfl, hnew, hc3, hg3, hbd3, hsp3⟩
   clear h0 h1 h2 hfz hlt
   obtain ⟨kk2, i2, l2, s2, t2, e2, xs2⟩ := x
   obtain ⟨A3, c3', rfl⟩ := CRdS_cells hnew
   simp only [contCells]
   have HNEW := Lib.hid hnew; have HC3 := Lib.hid hc3; have HG3 := Lib.hid hg3; have HBD3 := Lib.hid hbd3; have HSP3 := Lib.hid hsp3
   clear hnew hc3 hg3 hbd3 hsp3
   obtain ⟨w4, hw4⟩ : ∃ w4, w3.alloc (.cells #[.int .i64 kk2, .string i2, .string l2, .int .i64 s2, .int .i64 t2, .int .i64 e2, .slice A3 xs2.length c3'] 36) = w4 := ⟨_, rfl⟩
   have hnews := cell7_new w3 36 kk2 i2 l2 s2 t2 e2 A3 xs2.length c3'
   obtain ⟨hb4, hg4, -⟩ := box7 hw4
   rw [hw4] at hnews
   have hsz0 := HGR.out.size
   have hsz3 := HG3.out.size
   have hown3 := HOWN.out.grownb HG3.out (fun y hy e => by omega) hbw
   have hown4 := hown3.below hb4
   have hwl := hown3.lt
   obtain ⟨css, o1, o2, o3'⟩ := hown4
   have hlenx : xs.length ≤ 1000 := by have := nodesL_length xs; have := HB.out; omega
   have HO3 := Lib.hid o3'; clear o3'
   have HNEWS := Lib.hid hnews; clear hnews
   have HLENX := Lib.hid hlenx; clear hlenx
   have HW4 := Lib.hid hg4; clear hg4
   go_wp2_with (at_builtin; go_must (refine wpList_append_own_at _ rfl _ _ 34 rfl w.heap.size 36 i0 _ 7 88 Tryz.underlying34 HI0.out HZ0.out HZ1.out HZ2.out rfl (by decide) _ _ _ rfl o1 ⟨w3.heap.size, 0, none⟩ 1 1 _ rfl rfl HNEWS.out (CRdS_one HNEW.out) (by have := HLENX.out; unfold maxLen; omega) (by have := HLENX.out; omega) (by have := HW4.out; omega) ?_); intro v' w5 hown' hgrow _ hat)
   have hg4 := HW4.out
   have hnewb : ∀ q, v'.ownBlock = some q → u3.ownBlock = some q ∨ w4.heap.size ≤ q := fun q hq => by
    rcases hat with h | h
    · exact .inl (h.symm.trans hq)
    · rw [hq] at h; exact .inr (by have := Option.some.inj h; omega)
   have hx4 : CRdS w4 (fun y => w.heap.size ≤ y ∧ y < w4.heap.size ∧ u3.ownBlock ≠ some y) (.mk kk2 i2 l2 s2 t2 e2 xs2) (contCells kk2 i2 l2 s2 t2 e2 A3 xs2.length c3') :=
    CRdS_mono (fun y ⟨q1, q2⟩ => ⟨by omega, by omega, fun h => by
     have := (HOWN.out.lt y h).2; omega⟩) (fun y o u ⟨_, q2⟩ hu => (hb4.cell (p := ⟨y, o, none⟩) (by exact q2)).trans hu) _ _ HNEW.out
   have hOwn5 : OwnsC (fun y => w.heap.size ≤ y) w5 w.heap.size 36 v' (xs ++ [.mk kk2 i2 l2 s2 t2 e2 xs2]) :=
    OwnsC.app (w := w4) o1 o2 HO3.out hx4 hown' hgrow hnewb
   have hcur4 := (HC3.out.below hb4).1
   have hcur5 : CurAt w5 b s k3 bad3 := hcur4.kept hgrow (fun e => by have := (hwl b e.symm).1; omega)
   have hg5 : w.grownBy w5 (some b) := grown_new (grown_below (grown_trans HGR.out HG3.out) hb4) hgrow (fun q hq => (hwl q hq).1)
   obtain ⟨hq1, hq2, hq3⟩ := HBD3.out
   obtain ⟨hr1, hr2, hr3⟩ := HB.out
   have hnodes : nodesL (xs ++ [.mk kk2 i2 l2 s2 t2 e2 xs2]) + k ≤ k3 := by have := HN1.out; rw [nodesL_app]; omega
   have hspecn : spec = (if bad3 then none else if skipB s k3 ⟨#[41]⟩ then some (xs ++ [.mk kk2 i2 l2 s2 t2 e2 xs2], k3 + 1) else (wantP s ⟨#[44]⟩ k3).bind fun k2 => innerP s f' k2 (xs ++ [.mk kk2 i2 l2 s2 t2 e2 xs2])) := by
    have h := HSP.out
    rw [if_neg (by decide), innerP] at h
    have h3 := HSP3.out
    rw [if_neg (by decide)] at h3
    rw [h, h3]
    cases bad3 <;> rfl
   have HOWN5 := Lib.hid hOwn5; have HCUR5 := Lib.hid hcur5; have HG5 := Lib.hid hg5; have HNODES := Lib.hid hnodes; have HSPN := Lib.hid hspecn
   have HQ1 := Lib.hid hq1; have HQ2 := Lib.hid hq2; have HR1 := Lib.hid hr1; have HR2 := Lib.hid hr2
   clear hOwn5 hcur5 hg5 hnodes hspecn hcur4 hx4 hnewb hown' hgrow hat o1 o2 hown3 hb4 hg4 hsz0 hsz3 hwl hw4 hq1 hq2 hq3 hr1 hr2 hr3
   go_wp2_with fail
   refine (skip_any s ⟨#[41]⟩ k3 b bad3 w5 hs HQ2.out HCUR5.out).mono ?_
   rintro e' w6 ⟨rfl, hc6, hg6⟩
   have hown6 := HOWN5.out.grownb hg6 (fun y hy e => by omega) hbw
   have HOWN6 := Lib.hid hown6; have HG6 := Lib.hid (grown_trans HG5.out hg6); have HC6 := Lib.hid hc6
   clear hown6 hg6 hc6
   cases hsk : skipB s k3 ⟨#[41]⟩ with
   | true =>
    have HSK := Lib.hid hsk; clear hsk
    go_wp2
    obtain ⟨A5, c5, rfl, hc51, hc52, hc53⟩ := HOWN6.out.cs
    go_ret
    have hle := skipB_le HQ2.out HSK.out
    have hsz1 : (⟨#[41]⟩ : ByteArray).size = 1 := rfl
    rw [hsz1] at hle
    have hc6 := HC6.out
    rw [HSK.out, if_pos rfl, hsz1] at hc6
    refine ⟨A5, c5, _, k3 + 1, bad3, rfl, ⟨hc51, hc52, hc53⟩, hc6, HG6.out, ⟨by have := HQ1.out; have := HR2.out; omega, hle, by have := HNODES.out; omega⟩, ?_⟩
    rw [HSPC.out, HSPN.out, HSK.out]
    cases bad3 <;> rfl
   | false =>
    have HSK := Lib.hid hsk; clear hsk
    have hc6 := HC6.out
    rw [HSK.out, if_neg (by decide)] at hc6
    have HC6' := Lib.hid hc6; clear hc6
    go_wp2_with fail
    refine (want_any s ⟨#[44]⟩ k3 b bad3 w6 hs HQ2.out HC6'.out).mono ?_
    rintro e' w7 ⟨rfl, hc7, hg7⟩
    have hbd7 := @skip_bound s ⟨#[44]⟩ k3 HQ2.out
    have hon7 : (!skipB s k3 ⟨#[44]⟩ || bad3) = false → k3 + 1 ≤ (if skipB s k3 ⟨#[44]⟩ then k3 + (⟨#[44]⟩ : ByteArray).size else k3) := by
     intro h
     cases hq : skipB s k3 ⟨#[44]⟩ with
     | true => rw [if_pos rfl]; exact Nat.le_refl _
     | false => rw [hq] at h; simp at h
    have hspec7 := step_want s ⟨#[44]⟩ k3 bad3 (fun k2 => innerP s f' k2 (xs ++ [.mk kk2 i2 l2 s2 t2 e2 xs2]))
    have hspn := HSPN.out
    rw [HSK.out] at hspn
    simp only [Bool.false_eq_true, if_false] at hspn
    rw [← hspn] at hspec7
    obtain ⟨k7, hk7⟩ : ∃ k7, (if skipB s k3 ⟨#[44]⟩ then k3 + (⟨#[44]⟩ : ByteArray).size else k3) = k7 := ⟨_, rfl⟩
    obtain ⟨bad7, hbad7⟩ : ∃ bad7, (!skipB s k3 ⟨#[44]⟩ || bad3) = bad7 := ⟨_, rfl⟩
    rw [hk7] at hc7 hbd7 hspec7 hon7
    rw [hbad7] at hc7 hspec7 hon7
    have hrel7 : InnerRel s N b 36 w k spec v' w7 := by
     refine ⟨k7, bad7, xs ++ [.mk kk2 i2 l2 s2 t2 e2 xs2], f', HOWN6.out.grownb hg7 (fun y hy e => by omega) hbw, hc7, grown_trans HG6.out hg7, ⟨hbd7.1, by have := HQ1.out; have := HR2.out; omega, by have := HNODES.out; omega⟩, fun h => ?_, hspec7⟩
     have h1 := hon7 h
     have := HNODES.out
     have := HFU.out
     have := HQ1.out
     have := HR1.out
     have := HNN.out
     exact ⟨by omega, by omega, by omega⟩
    have hmeas7 := measP_at hc7 s.size
    have hlt7 : measP s.size b w7 < measP s.size b wr := by
     rw [hmeas7, HMEAS.out]
     have := HQ1.out; have := HQ2.out; have := HR1.out
     cases bad7 with
     | true => simp; omega
     | false => have := hon7 rfl; simp; omega
    have HREL7 := Lib.hid hrel7; have HLT7 := Lib.hid hlt7
    clear hrel7 hmeas7 hlt7 hc7 hg7 hbd7 hon7 hspec7 hspn hk7 hbad7
    go_wp2
    go_roundw
    case rel => exact HREL7
    case measure => exact HLT7.out
end Go.Proofs.YtehmidmoiamcfaaGreatDoor
namespace Go.Proofs.YtehmidmoiamcfaaGreatDoor
open Go.ChangeShapes Go.WideShapes Go.ChangeAt Go.RowKit

theorem own : ownKnob Tryz.prog.godebug = none := by kernel_rfl

section
variable {H : Type} {enc : TypeId × Value → H} {P : Program}
/-- The row's last step where the call leaves what there was and makes new blocks. -/
theorem post_of_below {f : Func} {s : ChangeSpec} {apart fresh handsOn again : Bool} {W W' : World} {args : Array Value} {v : Value} {ds gs : List (DataW H)} {before pa pv : List MemPlace}
  (hW : DataW.Whole enc P f.params.toList s.vars apart W args.toList ds gs before)
  (hres : ∀ (b : Nat) (sp : Nat → Bool) (hd : Bool), DataW.TrodAll enc P W' b sp hd f.resultTypes.toList (v.resultList f.resultTypes.size) (s.fn H (ds ++ gs)).results [])
  (hargs : ∀ sp : Nat → Bool, (∀ p ∈ before, sp p.block = true) → DataW.TrodAll enc P W' 0 sp true f.params.toList args.toList (s.fn H (ds ++ gs)).args pa)
  (hvars : ∀ sp : Nat → Bool, (∀ p ∈ before, sp p.block = true) → DataW.TrodVars enc P W' sp s.vars (s.fn H (ds ++ gs)).vars pv)
  (hps : before = pa ++ pv) (hb : Below W.heap.size W W')
  (hok : ∀ (j : Nat) (t : TypeId) (r : Value), f.resultTypes[j]? = some t → (v.resultList f.resultTypes.size)[j]? = some r → Value.okWide P W' .any 0 t r) :
  s.post enc P f apart fresh handsOn again W args v W' := by
 have hlt : ∀ p ∈ before, p.block < W.heap.size := fun p hp => hW.lt p hp
 have hold : ∀ p ∈ before, (fun b => decide (b < W.heap.size)) p.block = true := fun p hp => by simpa using hlt p hp
 refine ⟨ds, gs, before, [], pa, pv, hW, hres _ _ _, hargs _ hold, hvars _ hold, World.keptBut_mono (fun p hp => ⟨hp, ?_⟩) (hb.frame (· ∈ before)), fun _ => ?_⟩
 ·
  rw [hps, List.mem_append] at hp
  exact Or.inr hp
 ·
  obtain ⟨_, _, _, _, _, hz, hn⟩ := hW
  refine ⟨hok, _, _, ([] ++ pa) ++ pv, ⟨[] ++ pa, pv, trodAll_append (hargs _ (fun _ _ => rfl)) (hres _ _ _), hvars _ (fun _ _ => rfl), rfl, ?_, ?_⟩, ?_⟩
  ·
   intro b off hp
   have hin : MemPlace.cell b off ∈ before := by rw [hps]; simpa using hp
   rw [hb.frozen (hlt _ hin)]
   exact hz b off hin
  ·
   intro ha
   have := hn ha
   rw [hps] at this
   simpa using this
  ·
   intro p hp _
   rw [hps]
   simpa using hp
/-- There is an input that fits: at a world that is laid out, whose shape is known. -/
theorem witness_row_shaped {C : Checked} {os : Os} {f : FuncId} {fn : Func} {s : OpenSpec} {conds : List PathCond} {apart : Bool} {laid : List (String × DataW Unit)} (modest : Bool) (w0 : World) (args : Array Value) (hos : w0.os = os)
  (hsh : (w0.forCall (fun _ _ => 0) ⟨#[], args, []⟩).Shaped C.prog)
  (hok : Input.okWideB C.prog (w0.forCall (fun _ _ => 0) ⟨#[], args, []⟩) f ⟨#[], args, []⟩ = true)
  (hrow : s.preRow enc C.prog fn conds apart laid (w0.forCall (fun _ _ => 0) ⟨#[], args, []⟩).memory args) :
  ∃ (w : World) (tape : Tape) (i : Input), w.os = os ∧ (w.forCall tape i).Shaped C.prog ∧ i.vars = [] ∧ Input.okWide C.prog (w.forCall tape i) .any w.heap.size f i ∧
   s.preRow enc C.prog fn conds apart laid (w.forCall tape i).memory i.args ∧ ({ modest := modest } : Assume).holds C.prog (lone (Frame.enter C.prog f i.args .normal) [] (w.forCall tape i)) :=
 ⟨w0, fun _ _ => 0, ⟨#[], args, []⟩, hos, hsh, rfl, (Input.okWide_of_okWideB hok).2, hrow, by
  simp only [Assume.holds]
  exact ⟨by simp, by simp, fun _ => Modest.zero, by simp, by simp⟩⟩
end

section
variable {H : Type} {enc : TypeId × Value → H} {P : Program}
theorem trodAll_stays (hl : laidOutB P = true) {W W' : World} {sp' : Nat → Bool} : ∀ {ts : List TypeId} {vs : List Value} {ds : List (DataW H)} {ps : List MemPlace},
  (ts.all fun t => P.readableRec t && decide (t < P.types.size)) = true → DataW.TrodAll enc P W 0 (fun _ => true) true ts vs ds ps → (∀ p ∈ ps, W.sameAt W' p) → (∀ p ∈ ps, sp' p.block = true) → DataW.TrodAll enc P W' 0 sp' true ts vs ds ps
 | [], _, _, _, _, h, _, _ => by
  obtain ⟨rfl, rfl, rfl⟩ := trodAll_nil h
  exact trodAll_mk0
 | t :: ts, _, _, _, hr, h, hs, hsp => by
  obtain ⟨v, vs, d, ds, p, q, rfl, rfl, rfl, h0, h1⟩ := trodAll_cons h
  simp only [List.all_cons, Bool.and_eq_true, decide_eq_true_eq] at hr
  exact trodAll_cons_mk (WideElems.Trod_stays hl hr.1.1 hr.1.2 h0 (fun x hx => hs x (List.mem_append_left _ hx)) (fun x hx => hsp x (List.mem_append_left _ hx)))
   (trodAll_stays hl (by simpa using hr.2) h1 (fun x hx => hs x (List.mem_append_right _ hx)) (fun x hx => hsp x (List.mem_append_right _ hx)))
theorem trodAll_length {W : World} {sp : Nat → Bool} : ∀ {ts : List TypeId} {vs : List Value} {ds : List (DataW H)} {ps : List MemPlace}, DataW.TrodAll enc P W 0 sp true ts vs ds ps → ds.length = ts.length
 | [], _, _, _, h => by obtain ⟨_, rfl, _⟩ := trodAll_nil h; rfl
 | t :: ts, _, _, _, h => by
  obtain ⟨v, vs, d, ds, p, q, rfl, rfl, rfl, _, h1⟩ := trodAll_cons h
  have := trodAll_length h1
  simpa using this
/-- A list of texts that came in. -/
theorem open_strs {W : World} {base : Nat} {t e : TypeId} {v : Value} {d : DataW H} {ps : List MemPlace} (ht : P.underlying t = some (.slice e)) (he : P.underlying e = some .string) (hc : P.cellsOf e = 1)
  (hok : Value.okWide P W .any base t v) (h : DataW.Trod enc P W 0 (fun _ => true) true t v d ps) (hlt : ∀ p ∈ ps, p.block < W.heap.size) :
  ∃ A c, ∃ xs : List ByteArray, v = .slice A xs.length c ∧ Cold.Sl W W.heap.size A c xs := by
 obtain ⟨a0, len, cap, rfl⟩ := okWide_slice ht hok
 obtain ⟨fuel, hf⟩ := h
 rcases open_strings ht he hc hf with ⟨hcs, hx⟩ | ⟨a, len', cap', ss, hcs, _, hl, hm, hlen, hx, hcell, hws⟩
 ·
  simp [Value.cells] at hcs
  obtain ⟨rfl, rfl, rfl⟩ := hcs
  exact ⟨none, 0, [], rfl, Cold.Sl.nil_⟩
 ·
  simp [Value.cells] at hcs
  obtain ⟨rfl, rfl, rfl⟩ := hcs
  simp only [if_true] at hlen
  simp only [Prod.mk.injEq] at hx
  obtain ⟨_, rfl⟩ := hx
  have htl : (ss.take len).length = len := by rw [List.length_take]; omega
  refine ⟨some a, cap, ss.take len, by rw [htl], ⟨by rw [htl]; exact hl, hm, fun h0 => ?_⟩⟩
  rw [htl] at h0
  have hb : a.block < W.heap.size := hlt (.cell a.block (a.off + 0)) (MemPlace.mem_row.2 ⟨0, by omega, rfl⟩)
  have h00 := hcell 0 (by omega)
  have hspot : a.spot = none := by
   have e : a.add 0 = a := by simp [Addr.add]
   rw [e] at h00
   cases hs : a.spot with
   | none => rfl
   | some z => simp [World.cell?, hs] at h00; split at h00 <;> simp_all
  obtain ⟨b, o, sp⟩ := a
  simp only at hspot hb
  subst hspot
  refine ⟨b, o, rfl, hb, fun i x hx => ?_⟩
  rw [List.getElem?_take] at hx
  split at hx
  case isFalse => cases hx
  have hi : i < ss.length := (List.getElem?_eq_some_iff.1 hx).1
  refine ⟨[.string x], ⟨rfl, hws x (List.mem_of_getElem? hx)⟩, fun j u hu => ?_⟩
  have hj : j = 0 := by
   rcases j with _ | j
   · rfl
   · simp at hu
  subst hj
  simp at hu
  subst hu
  have h1 := hcell i hi
  rw [Cold.add_mk] at h1
  have h2 : ss.getD i ByteArray.empty = x := by simp [List.getD, hx]
  rw [h2] at h1
  simpa [Cold.Rep.size] using h1
end

theorem gES : Tryz.prog.globalNamed "strconv.ErrSyntax" = some 3 := by kernel_rfl
theorem gESType : (Tryz.prog.globals[3]?).map (·.type) = some 141 := by kernel_rfl
theorem gER : Tryz.prog.globalNamed "strconv.ErrRange" = some 4 := by kernel_rfl
theorem gERType : (Tryz.prog.globals[4]?).map (·.type) = some 141 := by kernel_rfl
theorem rowErr (u : TypeId) (h : Tryz.prog.typeName? 3 u = some "*errors.errorString") : u = 228 :=
 typeName_ptr_named (nm := "errors.errorString") (by rw [show "*" ++ "errors.errorString" = "*errors.errorString" by decide]; kernel_rfl) (by kernel_rfl) (by decide) u (by rw [show "*" ++ "errors.errorString" = "*errors.errorString" by decide]; exact h)
/-- What the listed variables hold when the law is called. -/
theorem oka_of_laid {W : World} (h : laidMetH Tryz.prog [("math/bits.deBruijn32tab", Rows.laid_math_bits_deBruijn32tab), ("math/bits.deBruijn64tab", Rows.laid_math_bits_deBruijn64tab), ("internal/strconv.uint64pow10", Rows.laid_internal_strconv_uint64pow10), ("unicode/utf8.acceptRanges", Rows.laid_unicode_utf8_acceptRanges), ("strconv.ErrRange", Rows.laid_strconv_ErrRange), ("strconv.ErrSyntax", Rows.laid_strconv_ErrSyntax), ("unicode.CaseRanges", Rows.laid_unicode_CaseRanges), ("unicode/utf8.first", Rows.laid_unicode_utf8_first)] W) : OkA W := by
 have h0 : laidMet Tryz.prog [("math/bits.deBruijn32tab", Rows.laid_math_bits_deBruijn32tab), ("math/bits.deBruijn64tab", Rows.laid_math_bits_deBruijn64tab), ("internal/strconv.uint64pow10", Rows.laid_internal_strconv_uint64pow10), ("unicode/utf8.acceptRanges", Rows.laid_unicode_utf8_acceptRanges), ("strconv.ErrRange", Rows.laid_strconv_ErrRange), ("strconv.ErrSyntax", Rows.laid_strconv_ErrSyntax), ("unicode.CaseRanges", Rows.laid_unicode_CaseRanges), ("unicode/utf8.first", Rows.laid_unicode_utf8_first)] W := h
 have h2 := h0.tail.tail.tail.tail
 obtain ⟨a1, s1, hv1, -, -, -⟩ := laid_sentinel h2 gER gERType Tryz.underlying141 rowErr Tryz.underlying228 Tryz.underlying230 rfl rfl Tryz.underlying9 (by kernel_rfl) (by kernel_rfl)
 obtain ⟨a0, s0, hv0, -, -, -⟩ := laid_sentinel h2.tail gES gESType Tryz.underlying141 rowErr Tryz.underlying228 Tryz.underlying230 rfl rfl Tryz.underlying9 (by kernel_rfl) (by kernel_rfl)
 exact ⟨⟨_, by have h0 := World.var?_cell gES hv0 0; simpa using h0, .inr ⟨_, _, rfl⟩⟩, ⟨_, by have h0 := World.var?_cell gER hv1 0; simpa using h0, .inr ⟨_, _, rfl⟩⟩⟩

theorem laidOut : laidOutB Tryz.prog = true := by kernel_rfl

set_option maxRecDepth 100000 in
/-- The row's step of a law: whatever its parameters are, it is enough that the call returns true and leaves what there was. -/
theorem law_lifted {f : FuncId} {fn : Func} {s : ChangeSpec} {laid : List (String × DataW Unit)} (os : Os) (started : os.Started) (H : Type) (enc : TypeId × Value → H) (F : Stop.Interp)
  (noInit : Tryz.prog.inits.idxOf? f = none) (hfn : Tryz.prog.funcs[f]? = some fn) (args0 : Array Value)
  (hsh0 : ((World.laidAll Tryz.prog os laid).forCall (fun _ _ => 0) ⟨#[], args0, []⟩).Shaped Tryz.prog)
  (hok0 : Input.okWideB Tryz.prog ((World.laidAll Tryz.prog os laid).forCall (fun _ _ => 0) ⟨#[], args0, []⟩) f ⟨#[], args0, []⟩ = true)
  (hrow0 : (OpenSpec.ofChange s).preRow enc Tryz.prog fn [] false laid ((World.laidAll Tryz.prog os laid).forCall (fun _ _ => 0) ⟨#[], args0, []⟩).memory args0)
  (hvars : s.vars = []) (hres : fn.resultTypes = #[4])
  (hs : ∀ ds : List (DataW H), ds.length = fn.params.toList.length → s.fn H (ds ++ []) = { results := [.lit (.bool true)], args := ds })
  (hr : (fn.params.toList.all fun t => Tryz.prog.readableRec t && decide (t < Tryz.prog.types.size)) = true)
  (law : ∀ (W : World) (base : Nat) (args : Array Value) (ds : List (DataW H)) (ps : List MemPlace),
   (∀ (j : Nat) t v, fn.params[j]? = some t → args[j]? = some v → Value.okWide Tryz.prog W .any base t v) →
   DataW.TrodAll enc Tryz.prog W 0 (fun _ => true) true fn.params.toList args.toList ds ps → (∀ p ∈ ps, p.block < W.heap.size) →
   (DataW.weightsEach Tryz.checked.prog (fn.params.toList ++ (OpenSpec.ofChange s).bare.plain.varTypes Tryz.checked.prog) (ds ++ [])).all (· ≤ reachBytes) = true → W.ShapedOpen Tryz.checked.prog → laidMetH Tryz.prog laid W →
   Calls Tryz.prog f args W fun e W' => e = .returned (.bool true) ∧ Below W.heap.size W W') :
  ReturnsInHanded {} Tryz.checked os f .any ((OpenSpec.ofChange s).preRow enc Tryz.prog fn [] false laid) (((OpenSpec.ofChange s).at F).post enc Tryz.prog fn false true false false) := by
 refine returnsInHanded_of_row (C := Tryz.checked) (s := OpenSpec.ofChange s) own started noInit hfn
  (witness_row_shaped (enc := enc) (C := Tryz.checked) false (World.laidAll Tryz.prog os laid) args0 (World.laidAll_os _ _ _) hsh0 hok0 hrow0) ?_
 intro W base args ds gs before hval hW _ _ hz hlaid hsh _
 have hlt : ∀ p ∈ before, p.block < W.heap.size := fun p hp => hW.lt p hp
 have hW' := hW
 obtain ⟨p, q, hA0, hV, rfl, hfz, hnd⟩ := hW
 have hA : DataW.TrodAll enc Tryz.prog W 0 (fun _ => true) true fn.params.toList args.toList ds p := hA0
 have hv : (OpenSpec.ofChange s).vars = [] := hvars
 rw [hv] at hV
 obtain ⟨rfl, rfl⟩ := trodVars_none hV
 simp only [List.append_nil] at hW' hlt
 have hlen : ds.length = fn.params.toList.length := trodAll_length hA
 refine (law W base args ds p hval hA hlt hz hsh hlaid).mono fun e W' ⟨he, hb⟩ => ?_
 subst he
 have e1 := hs ds hlen
 have hrt : fn.resultTypes.toList = [4] := by rw [hres]
 have hrl : (Value.bool true).resultList fn.resultTypes.size = [.bool true] := by rw [hres]; rfl
 refine ⟨_, rfl, post_of_below (s := s) (pa := p) (pv := []) hW' (fun _ _ _ => ?_) (fun sp hsp => ?_) (fun _ _ => ?_) (by simp) hb ?_⟩
 · rw [hrt, hrl, e1]; exact trodAll_mk1 (shut_bool Tryz.underlying4 _)
 · rw [e1]; exact trodAll_stays laidOut hr hA (fun x hx => hb.same (hlt x hx)) (fun x hx => hsp x hx)
 · rw [e1, hvars]; rfl
 ·
  intro j t r hj hr'
  rw [hres] at hj
  rw [hrl] at hr'
  rcases j with _ | j
  ·
   simp at hj hr'
   subst hj; subst hr'
   exact okWide_bool_mk Tryz.underlying4 _
  · simp at hr'

end Go.Proofs.YtehmidmoiamcfaaGreatDoor
namespace Go.Proofs.YtehmidmoiamcfaaGreatDoor
open Go.ChangeShapes Go.WideShapes Go.ChangeAt Go.RowKit
section
variable {H : Type} {enc : TypeId × Value → H} {P : Program}
theorem open_nums {W : World} {base : Nat} {t e : TypeId} {v : Value} {d : DataW H} {ps : List MemPlace} (ht : P.underlying t = some (.slice e)) (he : P.underlying e = some (.int .i64)) (hc : P.cellsOf e = 1)
  (hok : Value.okWide P W .any base t v) (h : DataW.Trod enc P W 0 (fun _ => true) true t v d ps) (hlt : ∀ p ∈ ps, p.block < W.heap.size) :
  ∃ A c, ∃ xs : List Int, v = .slice A xs.length c ∧ Cold.Sl W W.heap.size A c xs := by
 obtain ⟨a0, len, cap, rfl⟩ := okWide_slice ht hok
 obtain ⟨fuel, hf⟩ := h
 rcases open_ints ht he hc hf with ⟨hcs, hx⟩ | ⟨a, len', cap', ss, hcs, _, hl, hm, hlen, hx, hcell, hws⟩
 ·
  simp [Value.cells] at hcs
  obtain ⟨rfl, rfl, rfl⟩ := hcs
  exact ⟨none, 0, [], rfl, Cold.Sl.nil_⟩
 ·
  simp [Value.cells] at hcs
  obtain ⟨rfl, rfl, rfl⟩ := hcs
  simp only [if_true] at hlen
  simp only [Prod.mk.injEq] at hx
  obtain ⟨_, rfl⟩ := hx
  have htl : (ss.take len).length = len := by rw [List.length_take]; omega
  refine ⟨some a, cap, ss.take len, by rw [htl], ⟨by rw [htl]; exact hl, hm, fun h0 => ?_⟩⟩
  rw [htl] at h0
  have hb : a.block < W.heap.size := hlt (.cell a.block (a.off + 0)) (MemPlace.mem_row.2 ⟨0, by omega, rfl⟩)
  have h00 := hcell 0 (by omega)
  have hspot : a.spot = none := by
   have e : a.add 0 = a := by simp [Addr.add]
   rw [e] at h00
   cases hs : a.spot with
   | none => rfl
   | some z => simp [World.cell?, hs] at h00; split at h00 <;> simp_all
  obtain ⟨b, o, sp⟩ := a
  simp only at hspot hb
  subst hspot
  refine ⟨b, o, rfl, hb, fun i x hx => ?_⟩
  rw [List.getElem?_take] at hx
  split at hx
  case isFalse => cases hx
  have hi : i < ss.length := (List.getElem?_eq_some_iff.1 hx).1
  have hwf := hws x (List.mem_of_getElem? hx)
  simp only [Lit.wf, Bool.and_eq_true, decide_eq_true_eq] at hwf
  refine ⟨[.int .i64 x], ⟨rfl, hwf.1, hwf.2⟩, fun j u hu => ?_⟩
  have hj : j = 0 := by
   rcases j with _ | j
   · rfl
   · simp at hu
  subst hj
  simp at hu
  subst hu
  have h1 := hcell i hi
  rw [Cold.add_mk] at h1
  have h2 : ss.getD i 0 = x := by simp [List.getD, hx]
  rw [h2] at h1
  simpa [Cold.Rep.size] using h1
end
end Go.Proofs.YtehmidmoiamcfaaGreatDoor
namespace Go.Proofs.YtehmidmoiamcfaaGreatDoor
open Go.ChangeShapes Go.WideShapes Go.ChangeAt Go.RowKit Go.Cold
theorem gTabType : (Tryz.prog.globals[0]?).map (·.type) = some 185 := by kernel_rfl
/-- What the listed variables hold when the law is called. -/
theorem ok7_of_laid {W : World} (h : laidMetH Tryz.prog [("math/bits.deBruijn32tab", Rows.laid_math_bits_deBruijn32tab), ("math/bits.deBruijn64tab", Rows.laid_math_bits_deBruijn64tab), ("internal/strconv.uint64pow10", Rows.laid_internal_strconv_uint64pow10), ("unicode/utf8.acceptRanges", Rows.laid_unicode_utf8_acceptRanges), ("strconv.ErrRange", Rows.laid_strconv_ErrRange), ("strconv.ErrSyntax", Rows.laid_strconv_ErrSyntax), ("unicode.CaseRanges", Rows.laid_unicode_CaseRanges), ("unicode/utf8.first", Rows.laid_unicode_utf8_first)] W) : Ok7 W := by
 have h0 : laidMet Tryz.prog [("math/bits.deBruijn32tab", Rows.laid_math_bits_deBruijn32tab), ("math/bits.deBruijn64tab", Rows.laid_math_bits_deBruijn64tab), ("internal/strconv.uint64pow10", Rows.laid_internal_strconv_uint64pow10), ("unicode/utf8.acceptRanges", Rows.laid_unicode_utf8_acceptRanges), ("strconv.ErrRange", Rows.laid_strconv_ErrRange), ("strconv.ErrSyntax", Rows.laid_strconv_ErrSyntax), ("unicode.CaseRanges", Rows.laid_unicode_CaseRanges), ("unicode/utf8.first", Rows.laid_unicode_utf8_first)] W := h
 have ht := Lib.tabIs_of_head (k := .u64) (zs := Lib.pow10Tab) tab_named gTabType Tryz.underlying185 Tryz.underlying165 (by kernel_rfl) (by kernel_rfl) h0.tail.tail
 obtain ⟨⟨ev, h1, h2⟩, ⟨ev2, h3, h4⟩⟩ := oka_of_laid h
 exact ⟨⟨ev, h1, h2⟩, ⟨ev2, h3, h4⟩, ht⟩
end Go.Proofs.YtehmidmoiamcfaaGreatDoor
namespace Go.Cold
open Go Go.RowKit
end Go.Cold
namespace Go.Proofs.YtehmidmoiamcfaaGreatDoor
open Go.RowKit Go.Cold
end Go.Proofs.YtehmidmoiamcfaaGreatDoor
namespace Go.Proofs.YtehmidmoiamcfaaGreatDoor
open Go.RowKit Go.Cold
end Go.Proofs.YtehmidmoiamcfaaGreatDoor
namespace Go.Cold
open Go Go.RowKit
theorem getD_mem {ys : List ByteArray} {m : Nat} (h : m < ys.length) : ys.getD m ⟨#[]⟩ ∈ ys := by
 rw [List.getD_eq_getElem?_getD, List.getElem?_eq_getElem h]
 exact List.getElem_mem h
/-- Data that lie in old blocks other than b stay while block b is written. -/
theorem SlS.tape {α : Type} [RepS α] {w w' : World} {A : Option Addr} {c b : Nat} {xs : List α} {S : Nat → Prop} (h : SlS w S A c xs) (hg : w.grownBy w' (some b)) (hS : ∀ x, S x → x ≠ b) : SlS w' S A c xs :=
 h.mono (fun _ hb => hb) (fun x o u hx hu => hg.cell hu (fun e => hS x hx (Option.some.inj e)))
end Go.Cold
namespace Go.Proofs.YtehmidmoiamcfaaGreatDoor
open Go.RowKit Go.Cold
def OneL (xs : List Int) (k B b : Nat) (ys : List ByteArray) (w : World) (e : Ending) (w' : World) : Prop := ∃ y, y ∈ ys ∧ e = .returned (.string y) ∧ TapeAt w' B b xs (k + 1) ∧ w.grownBy w' (some b)
theorem One_lit (ys : List ByteArray) (xs : List Int) (k B b : Nat) (cs : Array Value) (T : TypeId) (w : World) (n : Nat) (hcs : cs.toList = ys.map Value.string) (hn : n = ys.length) (hk : k ≤ 2 ^ 40) (ht : TapeAt w B b xs k) (h0 : 1 < ys.length) (hy : ys.length ≤ 100) :
  Calls Tryz.prog 22 #[.pointer (some ⟨b, 0, none⟩), .slice (some ⟨w.heap.size, 0, none⟩) n n] (w.alloc (.cells cs T)) (OneL xs k B b ys w) := by
 subst hn
 have hlt : b < w.heap.size := by obtain ⟨_, _, _, _, _, _, _, h⟩ := ht; exact h
 have hB : B ≤ w.heap.size := by obtain ⟨_, _, _, _, _, _, h1, h2⟩ := ht; omega
 have hb : Below w.heap.size w (w.alloc (.cells cs T)) := (Below.refl _ _).alloc (Nat.le_refl _) _
 refine (One_any xs k B b ys w.heap.size 0 ys.length (w.alloc (.cells cs T)) hk (ht.kept (grown_none hb) (fun e => by cases e) (fun g e => by cases e)) h0 hy (Nat.le_refl _) (by unfold maxLen; omega) (by omega) (fun i y hi => ?_)).mono ?_
 ·
  rw [Nat.zero_add, World.cell?_alloc_at _ _ _ _ rfl]
  have h1 : cs.toList[i]? = some (.string y) := by rw [hcs, List.getElem?_map, hi]; rfl
  rw [Array.getElem?_toList] at h1; exact h1
 ·
  rintro e w' ⟨rfl, h1, h2⟩
  have hf := @foldI_range (tapeI xs k) ys.length (by omega)
  exact ⟨_, getD_mem (by omega), rfl, h1, grown_trans (grown_none hb |> fun h => ⟨h.os, h.tape, h.output, h.size, fun k hk _ => h.block k hk (by simp)⟩) h2⟩
def NextL (lo hi : Int) (xs : List Int) (k B b : Nat) (w : World) (e : Ending) (w' : World) : Prop := ∃ n : Int, lo ≤ n ∧ n < hi ∧ e = .returned (.int .i64 n) ∧ TapeAt w' B b xs (k + 1) ∧ w.grownBy w' (some b)
theorem Next_lit (n : Int) (xs : List Int) (k B b : Nat) (w : World) (hk : k ≤ 2 ^ 40) (ht : TapeAt w B b xs k) (h1 : 1 ≤ n) (h2 : n ≤ 1000000) : Calls Tryz.prog 23 #[.pointer (some ⟨b, 0, none⟩), .int .i64 n] w (NextL 0 n xs k B b w) :=
 (Next_any xs k B b n w (by unfold okI; omega) hk ht).mono fun e w' ⟨h3, h4, h5⟩ => ⟨_, (foldI_pos h1).1, (foldI_pos h1).2, h3, h4, h5⟩
end Go.Proofs.YtehmidmoiamcfaaGreatDoor
namespace Go.Cold
open Go Go.RowKit
theorem grown_any {w w' : World} {row : Option Nat} (hb : Below w.heap.size w w') : w.grownBy w' row := ⟨hb.os, hb.tape, hb.output, hb.size, fun k hk _ => hb.block k hk⟩
theorem SlS.set_ {α : Type} [RepS α] {w : World} {A : Option Addr} {c g j : Nat} {xs : List α} {S : Nat → Prop} (h : SlS w S A c xs) (hS : ∀ x, S x → x ≠ g) (v : Value) : SlS (w.setCell ⟨g, j, none⟩ v) S A c xs :=
 h.mono (fun _ hb => hb) (fun x o u hx hu => (cell_set_far w ⟨g, j, none⟩ v x o (fun e => hS x hx e.symm)).trans hu)
theorem SlS.below {α : Type} [RepS α] {w w' : World} {A : Option Addr} {c : Nat} {xs : List α} {S : Nat → Prop} (h : SlS w S A c xs) (hb : Below w.heap.size w w') (hS : ∀ x, S x → x < w.heap.size) : SlS w' S A c xs :=
 h.mono (fun _ hb => hb) (fun x o u hx hu => (hb.cell (p := ⟨x, o, none⟩) (hS x hx)).trans hu)
theorem SlS.sl {α : Type} [RepS α] {w : World} {A : Option Addr} {c B : Nat} {xs : List α} {S : Nat → Prop} (h : SlS w S A c xs) (hS : ∀ x, S x → x < B) : Sl w B A c xs := SlS_iff.2 (h.mono hS (fun _ _ _ _ hu => hu))
section
variable {w0 w w' : World} {B b k k' g3 g4 g5 c : Nat} {xs : List Int} {t3 : Value} {cs : List Value} {S : Nat → Prop} {A : Option Addr} {l : List Attr}
end
end Go.Cold
namespace Go.Proofs.YtehmidmoiamcfaaGreatDoor
open Go.RowKit Go.Cold
end Go.Proofs.YtehmidmoiamcfaaGreatDoor
namespace Go.Cold
open Go Go.RowKit
end Go.Cold
namespace Go.Proofs.YtehmidmoiamcfaaGreatDoor
open Go.RowKit Go.Cold
theorem E_txt : ElemT Tryz.prog (Rep.size ByteArray) 9 72 16 := ⟨Tryz.underlying72, by obtain ⟨i, hi, hz, h1, h2⟩ := info_parts info_txt; exact ⟨i, _, hi, hz, h1, h2, rfl⟩⟩
end Go.Proofs.YtehmidmoiamcfaaGreatDoor
namespace Go.Cold
open Go Go.RowKit
section
variable {w0 w w' : World} {B b k k' g4 g5 c : Nat} {xs : List Int} {A : Option Addr} {L : List Dev}
end
end Go.Cold
namespace Go.Proofs.YtehmidmoiamcfaaGreatDoor
open Go.RowKit Go.Cold
end Go.Proofs.YtehmidmoiamcfaaGreatDoor
namespace Go.Cold
open Go Go.RowKit
end Go.Cold
namespace Go.Proofs.YtehmidmoiamcfaaGreatDoor
open Go.RowKit Go.Cold
end Go.Proofs.YtehmidmoiamcfaaGreatDoor
namespace Go.Cold
open Go Go.RowKit
section
variable {α : Type} [El α] {P : Program} {k e t : TypeId} {w w' : World} {b n : Nat} {f : Int → Option α}
end
end Go.Cold
namespace Go.Proofs.YtehmidmoiamcfaaGreatDoor
open Go.RowKit Go.Cold
end Go.Proofs.YtehmidmoiamcfaaGreatDoor
namespace Go.Cold
open Go Go.RowKit
end Go.Cold
namespace Go.Proofs.YtehmidmoiamcfaaGreatDoor
open Go.RowKit Go.Cold
end Go.Proofs.YtehmidmoiamcfaaGreatDoor
namespace Go.Cold
open Go Go.RowKit
end Go.Cold
namespace Go.Proofs.YtehmidmoiamcfaaGreatDoor
open Go.RowKit Go.Cold
end Go.Proofs.YtehmidmoiamcfaaGreatDoor
namespace Go.Cold
open Go Go.RowKit
end Go.Cold
namespace Go.Proofs.YtehmidmoiamcfaaGreatDoor
open Go.RowKit Go.Cold
end Go.Proofs.YtehmidmoiamcfaaGreatDoor
namespace Go.Cold
open Go Go.RowKit
variable {F : Fence} {n : Nat} {P : Program}
end Go.Cold
namespace Go.Cold
open Go Go.RowKit
section
variable {P : Program} {tI : TypeId} {gv gi bp bo c N B : Nat} {A : Option Addr} {L : List Dev} {m m' : Int} {W W' : World}
end
end Go.Cold
namespace Go.Proofs.YtehmidmoiamcfaaGreatDoor
open Go.RowKit Go.Cold Go.Shelf
attribute [local go_sem] Oper.semAt_some
end Go.Proofs.YtehmidmoiamcfaaGreatDoor
namespace Go.Cold
open Go Go.RowKit
end Go.Cold
namespace Go.Proofs.YtehmidmoiamcfaaGreatDoor
open Go.RowKit Go.Cold Go.Shelf
attribute [local go_sem] Oper.semAt_some
end Go.Proofs.YtehmidmoiamcfaaGreatDoor
namespace Go.Cold
open Go Go.RowKit
end Go.Cold
namespace Go.Proofs.YtehmidmoiamcfaaGreatDoor
open Go.RowKit Go.Cold
end Go.Proofs.YtehmidmoiamcfaaGreatDoor
namespace Go.Cold
open Go Go.RowKit
end Go.Cold
namespace Go.Proofs.YtehmidmoiamcfaaGreatDoor
open Go.RowKit Go.Cold
end Go.Proofs.YtehmidmoiamcfaaGreatDoor
namespace Go.Cold
open Go Go.RowKit
end Go.Cold
namespace Go.Proofs.YtehmidmoiamcfaaGreatDoor
open Go.RowKit Go.Cold
theorem ok_of_shape (W : World) (h : W.ShapedOpen Tryz.prog) : Ok W := Tryz.laysM146.s1_3 W h
/-- A tape that a law has boxed. -/
theorem tape_new {w : World} {A : Option Addr} {c : Nat} {xs : List Int} (h : Sl w w.heap.size A c xs) : TapeAt (w.alloc (.cells #[.slice A xs.length c, .int .i64 0] 32)) w.heap.size w.heap.size xs 0 := by
 refine ⟨A, c, ?_, ?_, fun j => World.frozen?_alloc_at _ _ _ _ rfl, h.keep ((Below.refl _ _).alloc (Nat.le_refl _) _), Nat.le_refl _, by simp⟩ <;> (rw [World.cell?_alloc_at _ _ _ _ rfl]; rfl)
end Go.Proofs.YtehmidmoiamcfaaGreatDoor
namespace Go.Cold
open Go Go.RowKit
theorem SlS.set10 {α : Type} [RepS α] {w : World} {A : Option Addr} {c g : Nat} {xs : List α} {S : Nat → Prop} (h : SlS w S A c xs) (hS : ∀ x, S x → x ≠ g) (v0 v1 v2 v3 v4 v5 v6 v7 v8 v9 : Value) :
  SlS ((((((((((w.setCell ⟨g, 0, none⟩ v0).setCell ⟨g, 1, none⟩ v1).setCell ⟨g, 2, none⟩ v2).setCell ⟨g, 3, none⟩ v3).setCell ⟨g, 4, none⟩ v4).setCell ⟨g, 5, none⟩ v5).setCell ⟨g, 6, none⟩ v6).setCell ⟨g, 7, none⟩ v7).setCell ⟨g, 8, none⟩ v8).setCell ⟨g, 9, none⟩ v9) S A c xs :=
 (((((((((h.set_ hS v0).set_ hS v1).set_ hS v2).set_ hS v3).set_ hS v4).set_ hS v5).set_ hS v6).set_ hS v7).set_ hS v8).set_ hS v9
end Go.Cold
namespace Go.Proofs.YtehmidmoiamcfaaGreatDoor
open Go.RowKit Go.Cold
end Go.Proofs.YtehmidmoiamcfaaGreatDoor
namespace Go.Cold
open Go Go.RowKit
end Go.Cold
namespace Go.Proofs.YtehmidmoiamcfaaGreatDoor
open Go.RowKit Go.Cold
end Go.Proofs.YtehmidmoiamcfaaGreatDoor
namespace Go.Cold
open Go Go.RowKit
end Go.Cold
namespace Go.Proofs.YtehmidmoiamcfaaGreatDoor
open Go.RowKit Go.Cold
end Go.Proofs.YtehmidmoiamcfaaGreatDoor
