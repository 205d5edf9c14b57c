/-
  strings.IndexAny at every text, for ASCII sets.
-/
import Derived.Test.YtnlocdhhecockaaGreatDoorIxA
import Derived.Lib.OthersKept
set_option linter.unusedSimpArgs false
set_option linter.unusedVariables false
namespace Go.Cold
open Go Go.RowKit
theorem get_of_list {s : ByteArray} {j : Nat} {b : UInt8} (h : s.data.toList[j]? = some b) : s.get! j = b := by
  obtain ⟨d⟩ := s
  have hj : j < d.toList.length := (List.getElem?_eq_some_iff.1 h).1
  have h1 : d.toList[j]? = some b := h
  rw [List.getElem?_eq_getElem hj] at h1
  have h2 : d[j]'(by simpa using hj) = b := by simpa using h1
  show d[j]! = b
  rw [getElem!_pos d j (by simpa using hj), h2]
/-- What decoding at a place that is no ASCII gives. -/
theorem wide_step (s : ByteArray) (pos : Nat) (h : pos < s.size) (ha : 128 ≤ (s[pos]'h).toNat) :
    128 ≤ (Utf8.decode s pos).1 ∧ Utf8.valid ((Utf8.decode s pos).1 : Int) = true ∧ 1 ≤ (Utf8.decode s pos).2 ∧ pos + (Utf8.decode s pos).2 ≤ s.size ∧
    ∀ j, pos ≤ j → j < pos + (Utf8.decode s pos).2 → ∀ b, s.data.toList[j]? = some b → 128 ≤ b.toNat := by
  have hg : s.get! pos = s[pos]'h := by have := get_at s pos h; simpa using this
  have hb : ∀ k, (s.get! (pos + k)).toNat < 256 := fun k => (s.get! (pos + k)).toNat_lt
  have h0 := hb 0; have h1 := hb 1; have h2 := hb 2; have h3 := hb 3
  rw [Nat.add_zero] at h0
  rw [← hg] at ha
  have hval : ∀ n : Nat, (n < 55296 ∨ (57344 ≤ n ∧ n ≤ 1114111)) → Utf8.valid (n : Int) = true := fun n hn => by
    unfold Utf8.valid
    rcases hn with hn | hn
    · have e1 : decide ((0 : Int) ≤ n) = true := decide_eq_true (by omega)
      have e2 : decide ((n : Int) < 55296) = true := decide_eq_true (by omega)
      rw [e1, e2]; rfl
    · have e1 : decide ((57344 : Int) ≤ n) = true := decide_eq_true (by omega)
      have e2 : decide ((n : Int) ≤ 1114111) = true := decide_eq_true (by omega)
      rw [e1, e2]; simp
  rw [Lib.decode_at]
  have hj : ∀ j b, s.data.toList[j]? = some b → s.get! j = b := fun j b hb => get_of_list hb
  rcases Lib.decodeN_shape (s.size - pos) (s.get! pos).toNat (s.get! (pos + 1)).toNat (s.get! (pos + 2)).toNat (s.get! (pos + 3)).toNat with ⟨c1, e⟩ | ⟨c1, c2, c3, c4, e⟩ | ⟨c1, c2, c3, c4, c5, c6, e⟩ | ⟨c1, c2, c3, c4, c5, c6, c7, e⟩ | e
  · omega
  · rw [e]
    refine ⟨c4, hval _ (by omega), by simp, by simp; omega, fun j hj1 hj2 b hb => ?_⟩
    have := hj j b hb
    simp only at hj2
    have hc : j = pos ∨ j = pos + 1 := by omega
    rcases hc with rfl | rfl <;> (rw [← this]; omega)
  · rw [e]
    refine ⟨by simp only; omega, hval _ (by omega), by simp, by simp; omega, fun j hj1 hj2 b hb => ?_⟩
    have := hj j b hb
    simp only at hj2
    have hc : j = pos ∨ j = pos + 1 ∨ j = pos + 2 := by omega
    rcases hc with rfl | rfl | rfl <;> (rw [← this]; omega)
  · rw [e]
    refine ⟨by simp only; omega, hval _ (by omega), by simp, by simp; omega, fun j hj1 hj2 b hb => ?_⟩
    have := hj j b hb
    simp only at hj2
    have hc : j = pos ∨ j = pos + 1 ∨ j = pos + 2 ∨ j = pos + 3 := by omega
    rcases hc with rfl | rfl | rfl | rfl <;> (rw [← this]; omega)
  · rw [e]
    refine ⟨by simp, hval _ (by omega), by simp, by simp; omega, fun j hj1 hj2 b hb => ?_⟩
    have := hj j b hb
    simp only at hj2
    have hc : j = pos := by omega
    subst hc
    rw [← this]; omega
end Go.Cold
namespace Go.Proofs.YtnlocdhhecockaaGreatDoor
open Go.RowKit Go.Lib Go.Cold

/-- What strings.IndexRune gives at the rune that stands at a place. -/
def runeAt (chars : ByteArray) (x : UInt8) : Int := if x.toNat < 128 then Lib.indexByte chars.data.toList x else -1
theorem IndexRune_dec (chars s : ByteArray) (pos : Nat) (hp : pos < s.size) (W : World) (hcs : chars.size ≤ 1000) (hac : ∀ (j : Nat) b, chars.data.toList[j]? = some b → b.toNat < 128) :
    Calls Tryz.prog 54 #[.string chars, .int .i32 ((Utf8.decode s pos).1 : Int)] W fun e w' => e = .returned (.int .i64 (runeAt chars (s[pos]'hp))) ∧ Below W.heap.size W w' := by
  unfold runeAt
  by_cases hx : (s[pos]'hp).toNat < 128
  · rw [if_pos hx, decode_ascii s pos hp hx]
    refine (Tryz.strings_IndexRune_ascii chars _ W (by simp) (by simp; omega)).mono fun e w' ⟨h1, h2⟩ => ⟨?_, by rw [h2]; exact Below.refl _ _⟩
    rw [h1]; simp
  · rw [if_neg hx]
    obtain ⟨h1, h2, -⟩ := wide_step s pos hp (by omega)
    by_cases hb : (Utf8.decode s pos).1 = 65533
    · rw [hb]
      exact (IndexRune_bad chars W hac).mono fun e w' ⟨h1, p, h2⟩ => ⟨h1, by rw [h2]; exact (Below.refl _ _).alloc (Nat.le_refl _) _⟩
    · exact IndexRune_wide chars _ W hcs hac (by omega) (by omega) h2

theorem NoAny_wide {s : ByteArray} {chars : List UInt8} {i n : Nat} (h : Lib.NoAny s.data.toList chars i) (hc : ∀ b ∈ chars, b.toNat < 128)
    (hw : ∀ j, i ≤ j → j < i + n → ∀ b, s.data.toList[j]? = some b → 128 ≤ b.toNat) : Lib.NoAny s.data.toList chars (i + n) := fun j b hj hb => by
  by_cases hji : j < i
  · exact h j b hji hb
  · have h1 := hw j (by omega) hj b hb
    cases hcc : chars.contains b with
    | false => rfl
    | true => have := hc b (List.contains_iff_mem.1 hcc); omega

theorem next_no {s chars : ByteArray} {i : Nat} (hi : i < s.size) (hm : ∀ b ∈ chars.data.toList, b.toNat < 128) (hno : Lib.NoAny s.data.toList chars.data.toList i) :
    1 ≤ (Utf8.decode s i).2 ∧ i + (Utf8.decode s i).2 ≤ s.size ∧ (¬ 0 ≤ runeAt chars (s[i]'hi) → Lib.NoAny s.data.toList chars.data.toList (i + (Utf8.decode s i).2)) := by
  by_cases hx : (s[i]'hi).toNat < 128
  · rw [decode_ascii s i hi hx]
    refine ⟨Nat.le_refl _, hi, fun hr => ?_⟩
    unfold runeAt at hr
    rw [if_pos hx] at hr
    exact hno.succ (Lib.data_getElem? s i hi) (by rw [Lib.contains_iff_indexByte]; exact decide_eq_false hr)
  · obtain ⟨-, -, h1, h2, h3⟩ := wide_step s i hi (by omega)
    exact ⟨h1, h2, fun _ => NoAny_wide hno hm h3⟩
theorem next_hit {s chars : ByteArray} {i : Nat} (hi : i < s.size) (hno : Lib.NoAny s.data.toList chars.data.toList i) (hr : 0 ≤ runeAt chars (s[i]'hi)) :
    Lib.indexAny s.data.toList chars.data.toList = i := by
  unfold runeAt at hr
  by_cases hx : (s[i]'hi).toNat < 128
  · rw [if_pos hx] at hr
    exact Lib.indexAny_hit hno (Lib.data_getElem? s i hi) (by rw [Lib.contains_iff_indexByte]; exact decide_eq_true hr)
  · rw [if_neg hx] at hr; omega

set_option maxHeartbeats 8000000 in
set_option maxRecDepth 1000000 in
theorem IndexAny_short (s chars : ByteArray) (w : World) (h2 : 2 ≤ chars.size) (h8 : s.size ≤ 8) (hcs : chars.size ≤ 1000) (hac : ∀ (j : Nat) b, chars.data.toList[j]? = some b → b.toNat < 128) :
    Calls Tryz.prog 39 #[.string s, .string chars] w fun e w' => e = .returned (.int .i64 (Lib.indexAny s.data.toList chars.data.toList)) ∧ Below w.heap.size w w' := by
  have HA := Lib.hid hac
  have HM := Lib.hid (ascii_mem hac)
  have HD := Lib.hid fun pos hp W => IndexRune_dec chars s pos hp W hcs hac
  clear hac
  have hemp : chars.toList.isEmpty = false := by
    rw [Lib.toList_data]
    cases h : chars.data.toList with
    | nil => have := Lib.size_eq chars; rw [h, List.length_nil] at this; omega
    | cons _ _ => rfl
  have hn1 : ((chars.size : Int) == 1) = false := beq_eq_false_iff_ne.2 (by omega)
  have h8z : decide ((8 : Int) < (s.size : Int)) = false := decide_eq_false (by omega)
  have hk0 : (w.iter s 0).heap[w.heap.size]? = some (.stringIter s 0) := World.iter_heap w s 0
  have hb0 : Below w.heap.size w (w.iter s 0) := (Below.refl _ w).alloc (Nat.le_refl _) _
  have HK0 := Lib.hid hk0; have HB0 := Lib.hid hb0
  clear hk0 hb0
  have hsu := Tryz.strings_shouldUseASCIISet (s.size : Int) w
  go_enter Tryz.func39, Tryz.ntmps39
  go_wp2_with (go_at_call 55; refine hsu.mono ?_; rintro e w' ⟨rfl, hw⟩; rw [hw, h8z])
  clear hsu
  go_loopg [9, 10] s.size (fun g _ _ wx => ∃ i : Nat, i + g ≤ s.size ∧ s.size ≤ i + g ∧ wx.heap[w.heap.size]? = some (.stringIter s i) ∧ Below w.heap.size w wx ∧ Lib.NoAny s.data.toList chars.data.toList i)
  case atStart => exact ⟨0, by omega, by omega, HK0.out, HB0.out, Lib.NoAny.zero _ _⟩
  case round =>
    obtain ⟨i, hig, hig2, hk, hb, hno⟩ := hrel
    by_cases hi : i < s.size
    · obtain ⟨n1, n2, n3⟩ := next_no hi HM.out hno
      have n4 := next_hit hi hno
      have hnx := fun ty => Lib.run_next_any_at (P := Tryz.prog) wr w.heap.size s i ty hk hi
      have hk1 := Lib.iterAt_heap wr w.heap.size s i (i + (Utf8.decode s i).2) hk
      have hb1 : Below w.heap.size w (wr.iterAt w.heap.size s (i + (Utf8.decode s i).2)) := Lib.below_iterAt hb (Nat.le_refl _) s _
      have hlt : w.heap.size < (wr.iterAt w.heap.size s (i + (Utf8.decode s i).2)).heap.size := (Array.getElem?_eq_some_iff.1 hk1).1
      have hc := HD.out i hi (wr.iterAt w.heap.size s (i + (Utf8.decode s i).2))
      obtain ⟨W1, hW1⟩ : ∃ W1, wr.iterAt w.heap.size s (i + (Utf8.decode s i).2) = W1 := ⟨_, rfl⟩
      obtain ⟨d, hd⟩ : ∃ d, (Utf8.decode s i).2 = d := ⟨_, rfl⟩
      obtain ⟨c, hcc⟩ : ∃ c : Int, ((Utf8.decode s i).1 : Int) = c := ⟨_, rfl⟩
      obtain ⟨z, hz⟩ : ∃ z, runeAt chars (s[i]'hi) = z := ⟨_, rfl⟩
      rw [hW1] at hk1 hb1 hlt hc hnx
      simp only [hcc] at hc hnx
      rw [hd] at n1 n2 n3 hk1
      rw [hz] at n3 n4 hc
      have HK1 := Lib.hid hk1; have HB1 := Lib.hid hb1; have HLT := Lib.hid hlt; have N3 := Lib.hid n3; have N4 := Lib.hid n4
      clear hk hb hno hk1 hb1 hlt n3 n4 hW1 hd hcc hz
      by_cases hz0 : 0 ≤ z
      · go_wp2_with (go_at_call 54; refine hc.mono ?_; rintro e W2 ⟨rfl, hb2⟩)
        go_ret
        exact ⟨by rw [N4.out hz0]; rfl, HB1.out.trans (hb2.mono (Nat.le_of_lt HLT.out))⟩
      · go_wp2_with (go_at_call 54; refine hc.mono ?_; rintro e W2 ⟨rfl, hb2⟩)
        go_roundg (gk - d)
        case measure => omega
        case rel => exact ⟨i + d, by omega, by omega, (hb2.block _ HLT.out).trans HK1.out, HB1.out.trans (hb2.mono (Nat.le_of_lt HLT.out)), N3.out hz0⟩
    · have hnx := fun ty => Lib.run_next_end_at (P := Tryz.prog) wr w.heap.size s i ty hk hi
      have HNO := Lib.hid hno; have HB := Lib.hid hb
      clear hno hb hk
      have hie : i = s.size := by omega
      go_wp2
      go_ret
      exact ⟨by rw [Lib.indexAny_none (by rw [← Lib.size_eq, ← hie]; exact HNO.out)]; rfl, HB.out⟩

theorem IndexAny_any (s chars : ByteArray) (w : World) (h2 : 2 ≤ chars.size) (hs : s.size < 4294967281) (hcs : chars.size ≤ 1000) (hac : ∀ (j : Nat) b, chars.data.toList[j]? = some b → b.toNat < 128) :
    Calls Tryz.prog 39 #[.string s, .string chars] w fun e w' => e = .returned (.int .i64 (Lib.indexAny s.data.toList chars.data.toList)) ∧ Below w.heap.size w w' := by
  by_cases h8 : s.size ≤ 8
  · exact IndexAny_short s chars w h2 h8 hcs hac
  · refine (Tryz.strings_IndexAny_long (zero_of_info (P := Tryz.prog) (t := 91) (v := .agg (Array.replicate 256 (.bool false))) (n := 256) (by kernel_rfl)).1 s chars w h2 (by omega) hs (by omega) hac).mono fun e w' ⟨h1, h2⟩ => ⟨h1, ?_⟩
    rw [h2]
    exact ((Below.refl _ _).alloc (Nat.le_refl _) _).alloc (by simp) _
end Go.Proofs.YtnlocdhhecockaaGreatDoor
