/-
  The walks of layer 7's cursor: skip.
-/
import Derived.Test.YtnlocdhhecockaaGreatDoorCnL
set_option linter.unusedSimpArgs false
set_option linter.unusedVariables false
namespace Go.Cold
open Go Go.RowKit
/-- A parser in block b: the text, the place, whether the text is bad. -/
def CurAt (w : World) (b : Nat) (s : ByteArray) (k : Nat) (bad : Bool) : Prop := w.cell? ⟨b, 0, none⟩ = some (.string s) ∧ w.cell? ⟨b, 1, none⟩ = some (.int .i64 k) ∧ w.cell? ⟨b, 2, none⟩ = some (.bool bad) ∧
  (∀ j, w.frozen? ⟨b, j, none⟩ = false) ∧ b < w.heap.size
def skipB (s : ByteArray) (k : Nat) (t : ByteArray) : Bool := Lib.hasPrefix (s.extract k s.size).data.toList t.data.toList
theorem skipB_le {s t : ByteArray} {k : Nat} (hk : k ≤ s.size) (h : skipB s k t = true) : k + t.size ≤ s.size := by
  unfold skipB Lib.hasPrefix at h
  have h1 := (List.isPrefixOf_iff_prefix.1 h).length_le
  rw [ba_size, ba_size, ByteArray.size_extract] at h1
  omega
end Go.Cold
namespace Go.Proofs.YtnlocdhhecockaaGreatDoor
open Go.RowKit Go.Cold

theorem quiet_same {P : Program} {f : FuncId} {args : Array Value} {w : World} {n : Nat} {v : Value}
    (h : Calls P f args (w.drewN n) fun e w' => e = .returned v ∧ w' = w.drewN n) : Calls P f args (w.drewN n) fun e w'' => e = .returned v ∧ ∃ m, w'' = w.drewN m :=
  h.mono fun _ _ ⟨he, hm⟩ => ⟨he, n, hm⟩
theorem cur_step {w : World} {b k : Nat} {s : ByteArray} {bad : Bool} (nq : Nat) (m : Nat) (h : CurAt w b s k bad) : CurAt ((w.setCell ⟨b, 1, none⟩ (.int .i64 ((k : Int) + m))).drewN nq) b s (k + m) bad ∧ w.grownBy ((w.setCell ⟨b, 1, none⟩ (.int .i64 ((k : Int) + m))).drewN nq) (some b) := by
  obtain ⟨h0, h1, h2, hf, hlt⟩ := h
  refine ⟨⟨?_, ?_, ?_, fun j => ?_, by simpa using hlt⟩, grown_next nq hlt⟩
  · exact (World.cell?_setCell_other w ⟨b, 1, none⟩ ⟨b, 0, none⟩ _ (fun e => by injection e with _ e; cases e)).trans h0
  · exact (set_at w _ _ (by rw [h1]; rfl)).trans (by simp)
  · exact (World.cell?_setCell_other w ⟨b, 1, none⟩ ⟨b, 2, none⟩ _ (fun e => by injection e with _ e; cases e)).trans h2
  · exact (World.frozen?_setCell w _ _ _).trans (hf j)
theorem cur_stay {w : World} {b k : Nat} {s : ByteArray} {bad : Bool} (nq : Nat) (h : CurAt w b s k bad) : CurAt (w.drewN nq) b s k bad ∧ w.grownBy (w.drewN nq) (some b) :=
  ⟨h, ⟨rfl, rfl, rfl, Nat.le_refl _, fun _ _ _ => rfl⟩⟩

def SkipPost (s : ByteArray) (k : Nat) (t : ByteArray) (b : Nat) (bad : Bool) (w : World) (e : Ending) (w' : World) : Prop := e = .returned (.bool (skipB s k t)) ∧ CurAt w' b s (if skipB s k t then k + t.size else k) bad ∧ w.grownBy w' (some b)
set_option maxRecDepth 10000 in
theorem skip_any (s t : ByteArray) (k b : Nat) (bad : Bool) (w : World) (hs : s.size ≤ 1000) (hk : k ≤ s.size) (hc : CurAt w b s k bad) : Calls Tryz.prog 40 #[.pointer (some ⟨b, 0, none⟩), .string t] w (SkipPost s k t b bad w) := by
  obtain ⟨h0, h1, h2, hf, hlt⟩ := id hc
  have HC := Lib.hid hc; clear hc
  have i1 : (k : Int) ≤ (s.size : Int) := by omega
  cases hq : skipB s k t with
  | true =>
    have hle := skipB_le hk hq
    have hq' : Lib.hasPrefix (s.extract k s.size).data.toList t.data.toList = true := hq
    have hq2 := hq'
    rw [Lib.extract_data] at hq2
    have i2 : (k : Int) + (t.size : Int) ≤ 1000 := by omega
    have HQ := Lib.hid hq; clear hq
    go_enter Tryz.func40, Tryz.ntmps40
    go_wp2_with fail
    go_quiet ((go_at_call 58; exact quiet_same (Tryz.strings_HasPrefix _ _ _)))
    go_wp2
    go_ret
    refine ⟨ret_bool HQ.out.symm, ?_⟩
    rw [HQ.out, if_pos rfl]
    exact cur_step _ t.size HC.out
  | false =>
    have hq' : Lib.hasPrefix (s.extract k s.size).data.toList t.data.toList = false := hq
    have hq2 := hq'
    rw [Lib.extract_data] at hq2
    have HQ := Lib.hid hq; clear hq
    go_enter Tryz.func40, Tryz.ntmps40
    go_wp2_with fail
    go_quiet ((go_at_call 58; exact quiet_same (Tryz.strings_HasPrefix _ _ _)))
    go_wp2
    go_ret
    refine ⟨ret_bool HQ.out.symm, ?_⟩
    rw [HQ.out, if_neg (by decide)]
    exact cur_stay _ HC.out

theorem cur_bad {w : World} {b k : Nat} {s : ByteArray} {bad : Bool} (bad' : Bool) (h : CurAt w b s k bad) : CurAt (w.setCell ⟨b, 2, none⟩ (.bool bad')) b s k bad' ∧ w.grownBy (w.setCell ⟨b, 2, none⟩ (.bool bad')) (some b) := by
  obtain ⟨h0, h1, h2, hf, hlt⟩ := h
  refine ⟨⟨?_, ?_, ?_, fun j => ?_, by simpa using hlt⟩, ⟨rfl, rfl, rfl, by simp, fun q _ hne => Below.heap_setCell _ _ _ _ (fun e => hne (by rw [e]))⟩⟩
  · exact (World.cell?_setCell_other w ⟨b, 2, none⟩ ⟨b, 0, none⟩ _ (fun e => by injection e with _ e; cases e)).trans h0
  · exact (World.cell?_setCell_other w ⟨b, 2, none⟩ ⟨b, 1, none⟩ _ (fun e => by injection e with _ e; cases e)).trans h1
  · exact set_at w _ _ (by rw [h2]; rfl)
  · exact (World.frozen?_setCell w _ _ _).trans (hf j)
theorem grown_trans {a b c : World} {row : Option Nat} (h : a.grownBy b row) (k : b.grownBy c row) : a.grownBy c row :=
  ⟨k.os.trans h.os, k.tape.trans h.tape, k.output.trans h.output, Nat.le_trans h.size k.size, fun i hi hne => (k.block i (Nat.lt_of_lt_of_le hi h.size) hne).trans (h.block i hi hne)⟩

def WantPost (s : ByteArray) (k : Nat) (t : ByteArray) (b : Nat) (bad : Bool) (w : World) (_ : Ending) (w' : World) : Prop := CurAt w' b s (if skipB s k t then k + t.size else k) (!skipB s k t || bad) ∧ w.grownBy w' (some b)
set_option maxRecDepth 10000 in
theorem want_any (s t : ByteArray) (k b : Nat) (bad : Bool) (w : World) (hs : s.size ≤ 1000) (hk : k ≤ s.size) (hc : CurAt w b s k bad) : Calls Tryz.prog 24 #[.pointer (some ⟨b, 0, none⟩), .string t] w fun e w' => e = .returned (.tuple #[]) ∧ WantPost s k t b bad w e w' := by
  have hcall := skip_any s t k b bad w hs hk hc
  have HCALL := Lib.hid hcall; clear hcall hc
  go_enter Tryz.func24, Tryz.ntmps24
  go_wp2_with fail
  refine HCALL.out.mono ?_
  rintro e w1 ⟨rfl, hc1, hg1⟩
  cases hq : skipB s k t with
  | true =>
    rw [hq, if_pos rfl] at hc1
    obtain ⟨h0, h1, h2, hf, hlt⟩ := id hc1
    have HC := Lib.hid hc1; clear hc1
    have HG := Lib.hid hg1; clear hg1
    have HQ := Lib.hid hq; clear hq
    go_wp2
    go_end0
    obtain ⟨q1, q2⟩ := cur_bad bad HC.out
    refine ⟨rfl, ?_, grown_trans HG.out q2⟩
    rw [HQ.out, if_pos rfl]
    exact q1
  | false =>
    rw [hq, if_neg (by decide)] at hc1
    obtain ⟨h0, h1, h2, hf, hlt⟩ := id hc1
    have HC := Lib.hid hc1; clear hc1
    have HG := Lib.hid hg1; clear hg1
    have HQ := Lib.hid hq; clear hq
    go_wp2
    go_end0
    obtain ⟨q1, q2⟩ := cur_bad true HC.out
    refine ⟨rfl, ?_, grown_trans HG.out q2⟩
    rw [HQ.out, if_neg (by decide)]
    exact q1
end Go.Proofs.YtnlocdhhecockaaGreatDoor
