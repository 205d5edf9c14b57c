/-
  strings.IndexRune at a rune that is no ASCII, in ASCII texts; strings.IndexAny at every text, ASCII sets.
-/
import Derived.Test.YtjgllhlilbchpaaGreatDoorJShf
import Derived.Shelf.Strings.IndexAnyAll
import Derived.Laws.RangeAny
import Derived.Laws.Runes
import Derived.Lib.MapLaws
import Derived.WalkMore
import Derived.Deep.DeepMust
import Derived.Lib.OthersKept
import Derived.Test.YtjgllhlilbchpaaGreatDoorJSC
import Derived.Test.YtjgllhlilbchpaaGreatDoorJSB
import Derived.Deep.DeepCutAuto
import Derived.Test.YtjgllhlilbchpaaGreatDoorJSJ
import Derived.Lib.SplitLaws
import Derived.Lib.IndexBytes
import Derived.Test.YtjgllhlilbchpaaGreatDoorJA
import Derived.Test.YtjgllhlilbchpaaGreatDoorJD
import Derived.Deep.RegionHeld3
import Derived.Test.YtjgllhlilbchpaaGreatDoorJUC
import Derived.Test.YtjgllhlilbchpaaGreatDoorJUA
set_option linter.unusedSimpArgs false
set_option linter.unusedVariables false
namespace Go.Proofs.YtjgllhlilbchpaaGreatDoor
open Go.RowKit Go.Lib Go.Shelf

theorem quiet_sameX {P : Program} {f : FuncId} {args : Array Value} {w : World} {n : Nat} {v : Value}
  (h : Calls P f args (w.drewN n) fun e w' => e = .returned v ∧ w' = w.drewN n) : Calls P f args (w.drewN n) fun e w'' => e = .returned v ∧ ∃ m, w'' = w.drewN m :=
 h.mono fun _ _ ⟨he, hm⟩ => ⟨he, n, hm⟩
theorem byte_none (c : UInt8) : ∀ l : List UInt8, (∀ b ∈ l, b ≠ c) → Lib.indexByte l c = -1
 | [], _ => rfl
 | b :: l, h => by
  have h2 : (b == c) = false := by simpa using h b List.mem_cons_self
  rw [Lib.indexByte, h2, byte_none c l (fun x hx => h x (List.mem_cons_of_mem _ hx))]
  rfl
theorem ascii_mem {s : ByteArray} (h : ∀ (j : Nat) b, s.data.toList[j]? = some b → b.toNat < 128) : ∀ b ∈ s.data.toList, b.toNat < 128 := fun b hb => by
 obtain ⟨j, hj, e⟩ := List.getElem_of_mem hb
 exact h j b (by rw [List.getElem?_eq_getElem hj, e])

set_option maxHeartbeats 4000000 in
set_option maxRecDepth 1000000 in
theorem IndexRune_bad (s : ByteArray) (w : World) (hascii : ∀ (j : Nat) b, s.data.toList[j]? = some b → b.toNat < 128) :
  Calls Tryz.prog 185 #[.string s, .int .i32 65533] w fun e w' => e = .returned (.int .i64 (-1)) ∧ ∃ pos, w' = w.iter s pos := by
 have HA := Lib.hid hascii
 clear hascii
 go_enter Tryz.func185, Tryz.ntmps185
 go_wp2_with fail
 go_loopg [5, 6] s.size (fun g _ _ wx => ∃ i : Nat, i + g = s.size ∧ wx = w.iter s i)
 case atStart => exact ⟨0, by omega, rfl⟩
 case round =>
  obtain ⟨i, hig, rfl⟩ := hrel
  cases gk with
  | zero =>
   obtain rfl : i = s.size := by omega
   have hnx := fun ty => run_next_end (P := Tryz.prog) w s s.size ty (by omega)
   go_wp2
   go_ret
   exact ⟨rfl, _, rfl⟩
  | succ g =>
   have hi : i < s.size := by omega
   obtain ⟨x, hx⟩ : ∃ x : UInt8, s[i]'hi = x := ⟨_, rfl⟩
   have hxl : s.data.toList[i]? = some x := by rw [← hx]; exact Lib.data_getElem? s i hi
   have hx128 : x.toNat < 128 := HA.out i x hxl
   have hnx := fun ty => run_next_ascii (P := Tryz.prog) w s i ty hi (by rw [hx]; exact hx128)
   rw [hx] at hnx
   have hne : ((x.toNat : Int) == 65533) = false := beq_eq_false_iff_ne.2 (by omega)
   clear hxl hx hx128
   go_wp2_with fail
   go_roundg g
   case measure => omega
   case rel => exact ⟨i + 1, by omega, rfl⟩

set_option maxHeartbeats 4000000 in
set_option maxRecDepth 1000000 in
theorem IndexRune_wide (s : ByteArray) (r : Int) (w : World) (hs : s.size ≤ 1000) (hascii : ∀ (j : Nat) b, s.data.toList[j]? = some b → b.toNat < 128) (hr : 128 ≤ r) (hne : r ≠ 65533) (hv : Utf8.valid r = true) :
  Calls Tryz.prog 185 #[.string s, .int .i32 r] w fun e w' => e = .returned (.int .i64 (-1)) ∧ Below w.heap.size w w' := by
 obtain ⟨z1, z2, z3⟩ := encode_facts r hv hr
 obtain ⟨rs, hrs⟩ : ∃ rs, Utf8.encode r = rs := ⟨_, rfl⟩
 rw [hrs] at z1 z2 z3
 have hvr : Lib.validRune r = true := by
  have h := (Go.validRune_eq r).symm.trans hv
  unfold Go.validRune at h
  unfold Lib.validRune
  simpa using h
 have hne2 : (r == 65533) = false := beq_eq_false_iff_ne.2 hne
 have hr0 : (0 : Int) ≤ r := by omega
 have hr1 : ¬ r < (128 : Int) := by omega
 have u21 := Tryz.underlying21
 have u9 := Tryz.underlying9
 have HA := Lib.hid hascii
 clear hascii
 go_enter Tryz.func185, Tryz.ntmps185
 go_wp2_with fail
 refine (Tryz.utf8_ValidRune r _).mono ?_
 rintro e w1 ⟨rfl, hw1⟩
 subst hw1
 rw [hvr]
 go_wp2_with fail
 go_step3
 go_wp2_with fail
 obtain ⟨n, hn⟩ : ∃ n, rs.size = n + 1 := ⟨rs.size - 1, by omega⟩
 have hn2 : (rs.size : Int) - 1 = (n : Int) := by omega
 simp only [hn2]
 apply wp_loop_once
 by_cases hlt : s.size ≤ n
 ·
  have i1 : (s.size : Int) ≤ (n : Int) := by omega
  go_wp2_with fail
  rw [Exit.noGoto_ret]
  go_ret
  exact ⟨rfl, Below.refl _ _⟩
 ·
  have hi : n < s.size := by omega
  have hi2 : n < rs.size := by omega
  have i1 : (n : Int) < (s.size : Int) := by omega
  have i2 : (n : Int) < (rs.size : Int) := by omega
  obtain ⟨m, hm⟩ : ∃ m, n + 1 = m := ⟨_, rfl⟩
  have i3 : (m : Int) ≤ (s.size : Int) := by omega
  have hwr : IntKind.i64.wrap ((n : Int) + 1) = (m : Int) := by rw [wrap_small _ (by omega) (by omega)]; omega
  obtain ⟨x, hx⟩ : ∃ x : UInt8, s[n]'hi = x := ⟨_, rfl⟩
  obtain ⟨y, hy⟩ : ∃ y : UInt8, rs[n]'hi2 = y := ⟨_, rfl⟩
  have hxl : s.data.toList[n]? = some x := by rw [← hx]; exact Lib.data_getElem? s n hi
  have hx128 : x.toNat < 128 := HA.out n x hxl
  have hy128 : 128 ≤ y.toNat := by
   have h := z3 (by omega)
   have e : rs.size - 1 = n := by omega
   simp only [e, hy] at h
   exact h
  have hneq : ((x.toNat : Int) != (y.toNat : Int)) = true := by
   rw [bne_iff_ne]; omega
  have hnone : Lib.indexByte (s.extract m s.size).data.toList y = -1 := byte_none _ _ fun b hb e => by
   have h1 := ascii_mem HA.out b (by rw [Lib.extract_data] at hb; exact List.mem_of_mem_drop (List.mem_of_mem_take hb))
   rw [e] at h1; omega
  have hback : ((y.toNat : Int)).toNat.toUInt8 = y := by simp
  have hib : ∀ W : World, Calls Tryz.prog 63 #[.string (s.extract m s.size), .int .u8 (y.toNat : Int)] W fun e w' => e = .returned (.int .i64 (-1)) ∧ w' = W := fun W => (Tryz.strings_IndexByte (s.extract m s.size) (y.toNat : Int) W).mono fun e w' ⟨h1, h2⟩ => ⟨by rw [h1, hback, hnone], h2⟩
  clear hxl hx128 hnone hback z3 hn hn2 hv hrs
  go_wp2_with fail
  go_step3
  go_wp2_with fail
  go_quiet (fail)
  obtain ⟨w2, hw2⟩ : ∃ w2, w1.drewN nq = w2 := ⟨_, rfl⟩
  rw [hw2]
  go_wp2_with fail
  go_quiet ((go_at_call 63; go_must (exact quiet_sameX (hib _))))
  go_wp2_with fail
  rw [Exit.noGoto_ret]
  go_wp2_with fail
  all_goals rw [Exit.noGoto_ret]
  go_ret
  subst hw2
  exact ⟨rfl, rfl, rfl, rfl, Nat.le_refl _, fun _ _ => rfl⟩
end Go.Proofs.YtjgllhlilbchpaaGreatDoor
namespace Go.Cold
open Go Go.RowKit
theorem get_of_list {s : ByteArray} {j : Nat} {b : UInt8} (h : s.data.toList[j]? = some b) : s.get! j = b := by
 obtain ⟨d⟩ := s
 have hj : j < d.toList.length := (List.getElem?_eq_some_iff.1 h).1
 have h1 : d.toList[j]? = some b := h
 rw [List.getElem?_eq_getElem hj] at h1
 have h2 : d[j]'(by simpa using hj) = b := by simpa using h1
 show d[j]! = b
 rw [getElem!_pos d j (by simpa using hj), h2]
theorem wide_step (s : ByteArray) (pos : Nat) (h : pos < s.size) (ha : 128 ≤ (s[pos]'h).toNat) :
  128 ≤ (Utf8.decode s pos).1 ∧ Utf8.valid ((Utf8.decode s pos).1 : Int) = true ∧ 1 ≤ (Utf8.decode s pos).2 ∧ pos + (Utf8.decode s pos).2 ≤ s.size ∧
  ∀ j, pos ≤ j → j < pos + (Utf8.decode s pos).2 → ∀ b, s.data.toList[j]? = some b → 128 ≤ b.toNat := by
 have hg : s.get! pos = s[pos]'h := by have := get_at s pos h; simpa using this
 have hb : ∀ k, (s.get! (pos + k)).toNat < 256 := fun k => (s.get! (pos + k)).toNat_lt
 have h0 := hb 0; have h1 := hb 1; have h2 := hb 2; have h3 := hb 3
 rw [Nat.add_zero] at h0
 rw [← hg] at ha
 have hval : ∀ n : Nat, (n < 55296 ∨ (57344 ≤ n ∧ n ≤ 1114111)) → Utf8.valid (n : Int) = true := fun n hn => by
  unfold Utf8.valid
  rcases hn with hn | hn
  ·
   have e1 : decide ((0 : Int) ≤ n) = true := decide_eq_true (by omega)
   have e2 : decide ((n : Int) < 55296) = true := decide_eq_true (by omega)
   rw [e1, e2]; rfl
  ·
   have e1 : decide ((57344 : Int) ≤ n) = true := decide_eq_true (by omega)
   have e2 : decide ((n : Int) ≤ 1114111) = true := decide_eq_true (by omega)
   rw [e1, e2]; simp
 rw [Lib.decode_at]
 have hj : ∀ j b, s.data.toList[j]? = some b → s.get! j = b := fun j b hb => get_of_list hb
 rcases Lib.decodeN_shape (s.size - pos) (s.get! pos).toNat (s.get! (pos + 1)).toNat (s.get! (pos + 2)).toNat (s.get! (pos + 3)).toNat with ⟨c1, e⟩ | ⟨c1, c2, c3, c4, e⟩ | ⟨c1, c2, c3, c4, c5, c6, e⟩ | ⟨c1, c2, c3, c4, c5, c6, c7, e⟩ | e
 · omega
 ·
  rw [e]
  refine ⟨c4, hval _ (by omega), by simp, by simp; omega, fun j hj1 hj2 b hb => ?_⟩
  have := hj j b hb
  simp only at hj2
  have hc : j = pos ∨ j = pos + 1 := by omega
  rcases hc with rfl | rfl <;> (rw [← this]; omega)
 ·
  rw [e]
  refine ⟨by simp only; omega, hval _ (by omega), by simp, by simp; omega, fun j hj1 hj2 b hb => ?_⟩
  have := hj j b hb
  simp only at hj2
  have hc : j = pos ∨ j = pos + 1 ∨ j = pos + 2 := by omega
  rcases hc with rfl | rfl | rfl <;> (rw [← this]; omega)
 ·
  rw [e]
  refine ⟨by simp only; omega, hval _ (by omega), by simp, by simp; omega, fun j hj1 hj2 b hb => ?_⟩
  have := hj j b hb
  simp only at hj2
  have hc : j = pos ∨ j = pos + 1 ∨ j = pos + 2 ∨ j = pos + 3 := by omega
  rcases hc with rfl | rfl | rfl | rfl <;> (rw [← this]; omega)
 ·
  rw [e]
  refine ⟨by simp, hval _ (by omega), by simp, by simp; omega, fun j hj1 hj2 b hb => ?_⟩
  have := hj j b hb
  simp only at hj2
  have hc : j = pos := by omega
  subst hc
  rw [← this]; omega
end Go.Cold
namespace Go.Proofs.YtjgllhlilbchpaaGreatDoor
open Go.RowKit Go.Lib Go.Cold

def runeAt (chars : ByteArray) (x : UInt8) : Int := if x.toNat < 128 then Lib.indexByte chars.data.toList x else -1
theorem IndexRune_dec (chars s : ByteArray) (pos : Nat) (hp : pos < s.size) (W : World) (hcs : chars.size ≤ 1000) (hac : ∀ (j : Nat) b, chars.data.toList[j]? = some b → b.toNat < 128) :
  Calls Tryz.prog 185 #[.string chars, .int .i32 ((Utf8.decode s pos).1 : Int)] W fun e w' => e = .returned (.int .i64 (runeAt chars (s[pos]'hp))) ∧ Below W.heap.size W w' := by
 unfold runeAt
 by_cases hx : (s[pos]'hp).toNat < 128
 ·
  rw [if_pos hx, decode_ascii s pos hp hx]
  refine (Tryz.strings_IndexRune_ascii chars _ W (by simp) (by simp; omega)).mono fun e w' ⟨h1, h2⟩ => ⟨?_, by rw [h2]; exact Below.refl _ _⟩
  rw [h1]; simp
 ·
  rw [if_neg hx]
  obtain ⟨h1, h2, -⟩ := wide_step s pos hp (by omega)
  by_cases hb : (Utf8.decode s pos).1 = 65533
  ·
   rw [hb]
   exact (IndexRune_bad chars W hac).mono fun e w' ⟨h1, p, h2⟩ => ⟨h1, by rw [h2]; exact (Below.refl _ _).alloc (Nat.le_refl _) _⟩
  · exact IndexRune_wide chars _ W hcs hac (by omega) (by omega) h2

theorem NoAny_wide {s : ByteArray} {chars : List UInt8} {i n : Nat} (h : Lib.NoAny s.data.toList chars i) (hc : ∀ b ∈ chars, b.toNat < 128)
  (hw : ∀ j, i ≤ j → j < i + n → ∀ b, s.data.toList[j]? = some b → 128 ≤ b.toNat) : Lib.NoAny s.data.toList chars (i + n) := fun j b hj hb => by
 by_cases hji : j < i
 · exact h j b hji hb
 ·
  have h1 := hw j (by omega) hj b hb
  cases hcc : chars.contains b with
  | false => rfl
  | true => have := hc b (List.contains_iff_mem.1 hcc); omega

theorem next_no {s chars : ByteArray} {i : Nat} (hi : i < s.size) (hm : ∀ b ∈ chars.data.toList, b.toNat < 128) (hno : Lib.NoAny s.data.toList chars.data.toList i) :
  1 ≤ (Utf8.decode s i).2 ∧ i + (Utf8.decode s i).2 ≤ s.size ∧ (¬ 0 ≤ runeAt chars (s[i]'hi) → Lib.NoAny s.data.toList chars.data.toList (i + (Utf8.decode s i).2)) := by
 by_cases hx : (s[i]'hi).toNat < 128
 ·
  rw [decode_ascii s i hi hx]
  refine ⟨Nat.le_refl _, hi, fun hr => ?_⟩
  unfold runeAt at hr
  rw [if_pos hx] at hr
  exact hno.succ (Lib.data_getElem? s i hi) (by rw [Lib.contains_iff_indexByte]; exact decide_eq_false hr)
 ·
  obtain ⟨-, -, h1, h2, h3⟩ := wide_step s i hi (by omega)
  exact ⟨h1, h2, fun _ => NoAny_wide hno hm h3⟩
theorem next_hit {s chars : ByteArray} {i : Nat} (hi : i < s.size) (hno : Lib.NoAny s.data.toList chars.data.toList i) (hr : 0 ≤ runeAt chars (s[i]'hi)) :
  Lib.indexAny s.data.toList chars.data.toList = i := by
 unfold runeAt at hr
 by_cases hx : (s[i]'hi).toNat < 128
 ·
  rw [if_pos hx] at hr
  exact Lib.indexAny_hit hno (Lib.data_getElem? s i hi) (by rw [Lib.contains_iff_indexByte]; exact decide_eq_true hr)
 · rw [if_neg hx] at hr; omega

set_option maxHeartbeats 8000000 in
set_option maxRecDepth 1000000 in
theorem IndexAny_short (s chars : ByteArray) (w : World) (h2 : 2 ≤ chars.size) (h8 : s.size ≤ 8) (hcs : chars.size ≤ 1000) (hac : ∀ (j : Nat) b, chars.data.toList[j]? = some b → b.toNat < 128) :
  Calls Tryz.prog 153 #[.string s, .string chars] w fun e w' => e = .returned (.int .i64 (Lib.indexAny s.data.toList chars.data.toList)) ∧ Below w.heap.size w w' := by
 have HA := Lib.hid hac
 have HM := Lib.hid (ascii_mem hac)
 have HD := Lib.hid fun pos hp W => IndexRune_dec chars s pos hp W hcs hac
 clear hac
 have hemp : chars.toList.isEmpty = false := by
  rw [Lib.toList_data]
  cases h : chars.data.toList with
  | nil => have := Lib.size_eq chars; rw [h, List.length_nil] at this; omega
  | cons _ _ => rfl
 have hn1 : ((chars.size : Int) == 1) = false := beq_eq_false_iff_ne.2 (by omega)
 have h8z : decide ((8 : Int) < (s.size : Int)) = false := decide_eq_false (by omega)
 have hk0 : (w.iter s 0).heap[w.heap.size]? = some (.stringIter s 0) := World.iter_heap w s 0
 have hb0 : Below w.heap.size w (w.iter s 0) := (Below.refl _ w).alloc (Nat.le_refl _) _
 have HK0 := Lib.hid hk0; have HB0 := Lib.hid hb0
 clear hk0 hb0
 have hsu := Tryz.strings_shouldUseASCIISet (s.size : Int) w
 go_enter Tryz.func153, Tryz.ntmps153
 go_wp2_with (go_at_call 186; refine hsu.mono ?_; rintro e w' ⟨rfl, hw⟩; rw [hw, h8z])
 clear hsu
 go_loopg [9, 10] s.size (fun g _ _ wx => ∃ i : Nat, i + g ≤ s.size ∧ s.size ≤ i + g ∧ wx.heap[w.heap.size]? = some (.stringIter s i) ∧ Below w.heap.size w wx ∧ Lib.NoAny s.data.toList chars.data.toList i)
 case atStart => exact ⟨0, by omega, by omega, HK0.out, HB0.out, Lib.NoAny.zero _ _⟩
 case round =>
  obtain ⟨i, hig, hig2, hk, hb, hno⟩ := hrel
  by_cases hi : i < s.size
  ·
   obtain ⟨n1, n2, n3⟩ := next_no hi HM.out hno
   have n4 := next_hit hi hno
   have hnx := fun ty => Lib.run_next_any_at (P := Tryz.prog) wr w.heap.size s i ty hk hi
   have hk1 := Lib.iterAt_heap wr w.heap.size s i (i + (Utf8.decode s i).2) hk
   have hb1 : Below w.heap.size w (wr.iterAt w.heap.size s (i + (Utf8.decode s i).2)) := Lib.below_iterAt hb (Nat.le_refl _) s _
   have hlt : w.heap.size < (wr.iterAt w.heap.size s (i + (Utf8.decode s i).2)).heap.size := (Array.getElem?_eq_some_iff.1 hk1).1
   have hc := HD.out i hi (wr.iterAt w.heap.size s (i + (Utf8.decode s i).2))
   obtain ⟨W1, hW1⟩ : ∃ W1, wr.iterAt w.heap.size s (i + (Utf8.decode s i).2) = W1 := ⟨_, rfl⟩
   obtain ⟨d, hd⟩ : ∃ d, (Utf8.decode s i).2 = d := ⟨_, rfl⟩
   obtain ⟨c, hcc⟩ : ∃ c : Int, ((Utf8.decode s i).1 : Int) = c := ⟨_, rfl⟩
   obtain ⟨z, hz⟩ : ∃ z, runeAt chars (s[i]'hi) = z := ⟨_, rfl⟩
   rw [hW1] at hk1 hb1 hlt hc hnx
   simp only [hcc] at hc hnx
   rw [hd] at n1 n2 n3 hk1
   rw [hz] at n3 n4 hc
   have HK1 := Lib.hid hk1; have HB1 := Lib.hid hb1; have HLT := Lib.hid hlt; have N3 := Lib.hid n3; have N4 := Lib.hid n4
   clear hk hb hno hk1 hb1 hlt n3 n4 hW1 hd hcc hz
   by_cases hz0 : 0 ≤ z
   ·
    go_wp2_with (go_at_call 185; refine hc.mono ?_; rintro e W2 ⟨rfl, hb2⟩)
    go_ret
    exact ⟨by rw [N4.out hz0]; rfl, HB1.out.trans (hb2.mono (Nat.le_of_lt HLT.out))⟩
   ·
    go_wp2_with (go_at_call 185; refine hc.mono ?_; rintro e W2 ⟨rfl, hb2⟩)
    go_roundg (gk - d)
    case measure => omega
    case rel => exact ⟨i + d, by omega, by omega, (hb2.block _ HLT.out).trans HK1.out, HB1.out.trans (hb2.mono (Nat.le_of_lt HLT.out)), N3.out hz0⟩
  ·
   have hnx := fun ty => Lib.run_next_end_at (P := Tryz.prog) wr w.heap.size s i ty hk hi
   have HNO := Lib.hid hno; have HB := Lib.hid hb
   clear hno hb hk
   have hie : i = s.size := by omega
   go_wp2
   go_ret
   exact ⟨by rw [Lib.indexAny_none (by rw [← Lib.size_eq, ← hie]; exact HNO.out)]; rfl, HB.out⟩

theorem IndexAny_any (s chars : ByteArray) (w : World) (h2 : 2 ≤ chars.size) (hs : s.size < 4294967281) (hcs : chars.size ≤ 1000) (hac : ∀ (j : Nat) b, chars.data.toList[j]? = some b → b.toNat < 128) :
  Calls Tryz.prog 153 #[.string s, .string chars] w fun e w' => e = .returned (.int .i64 (Lib.indexAny s.data.toList chars.data.toList)) ∧ Below w.heap.size w w' := by
 by_cases h8 : s.size ≤ 8
 · exact IndexAny_short s chars w h2 h8 hcs hac
 ·
  refine (Tryz.strings_IndexAny_long (zero_of_info (P := Tryz.prog) (t := 190) (v := .agg (Array.replicate 256 (.bool false))) (n := 256) (by kernel_rfl)).1 s chars w h2 (by omega) hs (by omega) hac).mono fun e w' ⟨h1, h2⟩ => ⟨h1, ?_⟩
  rw [h2]
  exact ((Below.refl _ _).alloc (Nat.le_refl _) _).alloc (by simp) _
end Go.Proofs.YtjgllhlilbchpaaGreatDoor
namespace Go.Proofs.YtjgllhlilbchpaaGreatDoor
open Go.RowKit Go.Cold
theorem IxOk_any (s : ByteArray) (hs : s.size ≤ 1000) : IxOk s := by
 intro ends he k hk W
 have hall : ∀ e ∈ [slashE, (⟨#[58, 44, 41]⟩ : ByteArray), ⟨#[58, 40, 44, 41]⟩, ⟨#[44, 41]⟩], (2 ≤ e.size ∧ e.size ≤ 1000) ∧ ∀ b ∈ e.data.toList, b.toNat < 128 := by decide +kernel
 obtain ⟨⟨h1, h2⟩, h3⟩ := hall ends he
 exact IndexAny_any (s.extract k s.size) ends W h1 (by rw [ByteArray.size_extract]; omega) h2 (fun j b hb => h3 b (List.mem_of_getElem? hb))
end Go.Proofs.YtjgllhlilbchpaaGreatDoor
namespace Go.Proofs.YtjgllhlilbchpaaGreatDoor
open Go.RowKit Go.Cold

end Go.Proofs.YtjgllhlilbchpaaGreatDoor
namespace Go.Proofs.YtjgllhlilbchpaaGreatDoor
open Go.RowKit Go.Cold

end Go.Proofs.YtjgllhlilbchpaaGreatDoor
namespace Go.Proofs.YtjgllhlilbchpaaGreatDoor
open Go.RowKit Go.Cold

end Go.Proofs.YtjgllhlilbchpaaGreatDoor
namespace Go.Cold
open Go Go.RowKit Go.Proofs.YtjgllhlilbchpaaGreatDoor
section
variable {p0 p1 p2 : ByteArray} {Q : List ByteArray}
end
end Go.Cold
namespace Go.Cold
open Go Go.RowKit Go.Proofs.YtjgllhlilbchpaaGreatDoor
end Go.Cold
namespace Go.Cold
open Go Go.RowKit
end Go.Cold
namespace Go.Proofs.YtjgllhlilbchpaaGreatDoor
open Go.RowKit Go.Cold

end Go.Proofs.YtjgllhlilbchpaaGreatDoor
namespace Go.Cold
open Go Go.RowKit Go.Proofs.YtjgllhlilbchpaaGreatDoor
section
variable {w0 w w' : World} {gr gc : Nat} {cs : List Value}
end
end Go.Cold
namespace Go.Proofs.YtjgllhlilbchpaaGreatDoor
open Go.RowKit Go.Cold

def Ok8 (w : World) : Prop := ∃ m, w.cell? ⟨0, 0, none⟩ = some (.int .i64 m)
theorem Ok8.below {w w' : World} (h : Ok8 w) (hb : Below w.heap.size w w') : Ok8 w' := by
 obtain ⟨m, hm⟩ := h
 exact ⟨m, (hb.cell (p := ⟨_, 0, none⟩) (by exact block_lt_of_cell hm)).trans hm⟩
end Go.Proofs.YtjgllhlilbchpaaGreatDoor
namespace Go.Proofs.YtjgllhlilbchpaaGreatDoor
open Go.RowKit Go.Cold

end Go.Proofs.YtjgllhlilbchpaaGreatDoor
namespace Go.Proofs.YtjgllhlilbchpaaGreatDoor
open Go.RowKit Go.Cold

end Go.Proofs.YtjgllhlilbchpaaGreatDoor
namespace Go.Cold
open Go Go.RowKit Go.Proofs.YtjgllhlilbchpaaGreatDoor
section
variable {α : Type} [El α] {P : Program} {k e t : TypeId} {w w' : World} {b n : Nat} {f : Int → Option α}
theorem MapV.put_run (h : MapV P k e w b n f) (ht : P.underlying t = some (.map k e)) (hk : P.underlying k = some (.int .i64)) (he : P.underlying e = some (El.desc (α := α))) (i : Int) (c : α) (hi : okI i) (hc : El.ok c) (hn : n < maxLen) :
  ∃ w', (Instr.mapUpdate t (.map (some b)) (.int .i64 i) (El.val c)).run P w = .ok () w' ∧ MapV P k e w' b (n + 1) (updF f i c) ∧ w.grownBy w' (some b) := by
 obtain ⟨D, h1, h2⟩ := h
 obtain ⟨w', hrun, r1, r2⟩ := h1.update (Maps.int_keyed hk) ht hn (Maps.keyOf_int_mk hk (wf_i64.2 hi)) (El.rd he hc)
 refine ⟨w', hrun, ⟨_, r1, fun j hj => ?_⟩, r2⟩
 have hM := h1.isMap
 have hK1 : WideAt.IsKeyLit (.int .i64 i) := (Maps.int_keyed hk).key (Maps.keyOf_int_mk hk (wf_i64.2 hi))
 unfold updF
 by_cases hji : j = i
 ·
  subst hji
  rw [if_pos rfl]
  exact ⟨Maps.has_put_same hM hK1 _, (fun z a ha => by obtain rfl := Option.some.inj ha; exact Maps.atKey_put_same hM hK1 _ z), (fun z h => by cases h)⟩
 ·
  rw [if_neg hji]
  have hne : (Lit.int .i64 j : Lit) ≠ .int .i64 i := fun h => hji (by injection h)
  obtain ⟨e1, e2, e3⟩ := h2 j hj
  exact ⟨(Maps.has_put_other hne _).trans e1, fun z a ha => (Maps.atKey_put_other hne _ z).trans (e2 z a ha), fun z hz => (Maps.atKey_put_other hne _ z).trans (e3 z hz)⟩
theorem wpList_lit {ops : Array Oper} {rest : List Oper} {o : Oper} {a : Act} {Q : Exit → Act → World → Prop}
  (hg : o.guard = none) (m x v : Operand) (t : TypeId) (hop : o.op = Op.insert t m x v) (h : MapV P k e w b n f) (ht : P.underlying t = some (.map k e)) (hk : P.underlying k = some (.int .i64)) (he : P.underlying e = some (El.desc (α := α)))
  (hm : a.eval m = .map (some b)) (i : Int) (c : α) (hi : okI i) (hc : El.ok c) (hn : n < maxLen) (hx : a.eval x = .int .i64 i) (hv : a.eval v = El.val c)
  (hK : ∀ w', MapV P k e w' b (n + 1) (updF f i c) → w.grownBy w' (some b) → wpList P ops Q rest (a.put o.dst undef) w') : wpList P ops Q (o :: rest) a w := by
 refine wpList_plain hg fun K' hK' => ?_
 obtain ⟨w', hrun, r1, r2⟩ := h.put_run ht hk he i c hi hc hn
 unfold Oper.wp
 simp [execOp, hop, hm, hx, hv, hrun, Result.andThen]
 exact hK' _ _ (hK w' r1 r2)
end
def useF : Int → Option ByteArray := updF (updF (updF (updF (updF (fun _ => none) 1 tFile) 2 tRaid) 3 tCrypto) 4 tMember) 5 tTable
theorem useF_at {k : Int} (h : 1 ≤ k ∧ k ≤ 5) : useF k = some (usageT k) := by
 have : k = 1 ∨ k = 2 ∨ k = 3 ∨ k = 4 ∨ k = 5 := by omega
 rcases this with rfl | rfl | rfl | rfl | rfl <;> rfl
theorem parse_kind {s : ByteArray} {c : Cont} (h : parseC s = some c) : c.kind = 0 ∨ (1 ≤ c.kind ∧ c.kind ≤ 5) := by
 obtain ⟨hall, -, -, -⟩ := AllOk_parse h
 obtain ⟨k, i, l, s, t, e, xs⟩ := c
 have ho := (AllOk_mk.1 hall).1
 simp only [ownB] at ho
 show k = 0 ∨ (1 ≤ k ∧ k ≤ 5)
 by_cases h0 : k = 0
 · exact .inl h0
 rw [if_neg h0, Bool.and_eq_true] at ho
 have h2 := ho.2
 by_cases k1 : k = 1
 · exact .inr (by omega)
 rw [if_neg k1] at h2
 by_cases k2 : k = 2
 · exact .inr (by omega)
 rw [if_neg k2] at h2
 by_cases k3 : k = 3
 · exact .inr (by omega)
 rw [if_neg k3] at h2
 by_cases k4 : k = 4
 · exact .inr (by omega)
 rw [if_neg k4] at h2
 by_cases k5 : k = 5
 · exact .inr (by omega)
 rw [if_neg k5] at h2; cases h2
theorem usage_small (k : Int) : (usageT k).size ≤ maxLen := by
 unfold usageT
 split
 · decide
 split
 · decide
 split
 · decide
 split <;> decide
theorem contL_kind {L : List Dev} {n : Int} {d : Dev} (hd : d = (findD L n).getD zeroD) (h : ¬ d.kind = 2) : contL L n = [] := by
 unfold contL contAt
 rw [← hd, if_neg h]
theorem contL_none {L : List Dev} {n : Int} {d : Dev} (hd : d = (findD L n).getD zeroD) (h : parseC (contD d) = none) : contL L n = [] := by
 unfold contL contAt
 rw [← hd, h]
 split <;> rfl
theorem contL_some {L : List Dev} {n : Int} {d : Dev} {c : Cont} (hd : d = (findD L n).getD zeroD) (hk : d.kind = 2) (h : parseC (contD d) = some c) : contL L n = contA c := by
 unfold contL contAt
 rw [← hd, h, if_pos hk]
theorem contA_zero {c : Cont} (h : c.kind = 0) : contA c = [] := by unfold contA; rw [if_pos h]
theorem contA_prog {c : Cont} (h : ¬ c.kind = 0) : putAll [(kFsUsage, usageT c.kind), (kFsUuid, c.id), (kFsLabel, c.label)] = contA c := by
 have e1 : putAll [(kFsUsage, usageT c.kind)] = putA [] kFsUsage (usageT c.kind) := put_next (ps := []) putAll_nil (by simp)
 have e2 : putAll [(kFsUsage, usageT c.kind), (kFsUuid, c.id)] = putA (putA [] kFsUsage (usageT c.kind)) kFsUuid c.id := put_next (ps := [(kFsUsage, usageT c.kind)]) e1 (by simp; decide +kernel)
 have e3 : putAll [(kFsUsage, usageT c.kind), (kFsUuid, c.id), (kFsLabel, c.label)] = _ := put_next (ps := [(kFsUsage, usageT c.kind), (kFsUuid, c.id)]) e2 (by simp; decide +kernel)
 exact e3.trans (cont_order c h)
theorem contD_small {d : Dev} {w : World} {B c : Nat} {A : Option Addr} (h : Sl w B A c d.attrs) : (contD d).size ≤ maxLen := by
 unfold contD
 cases hg : getA d.attrs nmContent with
 | none => exact Nat.zero_le _
 | some v => exact ((attr_okS (SlS_iff.1 h)) _ (getA_mem hg)).2
end Go.Cold
namespace Go.Proofs.YtjgllhlilbchpaaGreatDoor
open Go.RowKit Go.Cold
set_option maxRecDepth 100000 in
theorem usages_any (w : World) : Calls Tryz.prog 55 #[] w fun e w' => ∃ b, e = .returned (.map (some b)) ∧ MapV Tryz.prog 3 9 w' b 5 useF ∧ Below w.heap.size w w' := by
 have hmk := fun z => run_makeMap (P := Tryz.prog) 75 z
 go_enter Tryz.func55, Tryz.ntmps55
 have hm0 := MapV.made (α := ByteArray) w Tryz.prog 3 9
 obtain ⟨w1, hw1⟩ : ∃ z, w.alloc (.map #[] 0) = z := ⟨_, rfl⟩
 rw [hw1] at hm0
 have hb1 : Below w.heap.size w w1 := by rw [← hw1]; exact (Below.refl _ _).alloc (Nat.le_refl _) _
 have HM := Lib.hid hm0; have HG := Lib.hid hb1; clear hm0 hb1
 go_wp2_with (refine wpList_lit (α := ByteArray) rfl _ _ _ _ rfl HM.out Tryz.underlying75 Tryz.underlying3 Tryz.underlying9 rfl _ _ (by unfold okI; omega) (by show _ ≤ maxLen; decide) (by decide) rfl rfl ?_; intro wn_ hm_ hg_; have HG := Lib.hid (HG.out.grown hg_ HG.out.size (fun q hq => by have := Option.some.inj hq; omega)); have HM := Lib.hid hm_; clear hm_ hg_)
 go_ret
 exact ⟨_, rfl, HM.out, HG.out⟩
set_option maxRecDepth 100000 in
set_option maxHeartbeats 4000000 in
theorem Content_any (A : Option Addr) (c : Nat) (L : List Dev) (n : Int) (w : World) (B : Nat) (hB : B ≤ w.heap.size) (hx : Sl w B A c L) (hv : VT L) (hok : Ok7 w) (hko : Ok w) (hn : okI n) :
  Calls Tryz.prog 21 #[.agg #[.slice A L.length c], .int .i64 n] w (SlPost (Go.Cold.contL L n) w) := by
 have hx1 := hx.1; have hx2 := hx.2.1
 unfold maxLen at hx2
 have HX := Lib.hid hx; have HB := Lib.hid hB; have HV := Lib.hid hv; have HOK := Lib.hid hok; clear hx hB hv hok
 have HKO := Lib.hid hko; have HN := Lib.hid hn; clear hko hn
 have HLA := Lib.hid (show ∀ d ∈ L, d.attrs.length ≤ 1000000 from fun d hd => attrs_le (HV.out.chk d hd))
 go_enter Tryz.func21, Tryz.ntmps21
 go_upto_region 1 with fail
 obtain ⟨w1, hw1⟩ : ∃ w1, w.alloc (.cells #[.slice A L.length c] 28) = w1 := ⟨_, rfl⟩
 have hbw1 : Below w.heap.size w w1 := by rw [← hw1]; exact (Below.refl _ _).alloc (Nat.le_refl _) _
 have HGw1 := Lib.hid (show w1.heap.size = w.heap.size + 1 by rw [← hw1]; simp)
 have HXtw1 := Lib.hid (show BoxL w1 w.heap.size [.slice A L.length c] from box_mk hw1)
 try simp only [hw1]
 have HBw1 := Lib.hid hbw1
 clear hw1 hbw1
 try rw [show w.heap.size + 1 = w1.heap.size from HGw1.out.symm]
 have ct0 := HXtw1.out.1 0 _ rfl
 go_wp2_with fail
 refine (TFind_any A c L (n) _ B (Nat.le_trans HB.out HBw1.out.size) (HX.out.keep (HBw1.out.mono HB.out)) HLA.out).mono ?_
 rintro e w2 ⟨hbw2, d, A3, c3, hd, rfl, hod, hsd⟩
 clear ct0
 have HBw2 := Lib.hid (HBw1.out.trans (hbw2.mono HBw1.out.size))
 have tw2 := Lib.hid (HXtw1.out.kept (grown_none hbw2) (fun e => by cases e))
 clear hbw2
 have ct0 := tw2.out.1 0 _ rfl
 have Hd := Lib.hid (show d = (findD L (n)).getD zeroD from hd); have HOd := Lib.hid hod
 have HSd := Lib.hid (show Sl w2 w2.heap.size A3 c3 d.attrs from hsd.sl (fun x hx => hx.2))
 clear hd hod hsd
 obtain ⟨qd, hqd⟩ : ∃ q, (L.find? (byIdx (n))).isSome = q := ⟨_, rfl⟩
 rw [hqd]
 clear hqd
 go_upto_region 2 with fail
 obtain ⟨w3, hw3⟩ : ∃ w3, w2.alloc (.cells #[.int .i64 d.idx, .int .i64 d.par, .string d.nm, .string d.orig, .string d.sub, .string d.drv, .string d.ali, .int .i64 d.kind, .int .i64 d.num, .slice A3 d.attrs.length c3] 32) = w3 := ⟨_, rfl⟩
 have hbw3 : Below w2.heap.size w2 w3 := by rw [← hw3]; exact (Below.refl _ _).alloc (Nat.le_refl _) _
 have HGw3 := Lib.hid (show w3.heap.size = w2.heap.size + 1 by rw [← hw3]; simp)
 have HXaw3 := Lib.hid (show BoxL w3 w2.heap.size [.int .i64 d.idx, .int .i64 d.par, .string d.nm, .string d.orig, .string d.sub, .string d.drv, .string d.ali, .int .i64 d.kind, .int .i64 d.num, .slice A3 d.attrs.length c3] from box_mk hw3)
 try simp only [hw3]
 have HBw3 := Lib.hid (HBw2.out.trans (hbw3.mono HBw2.out.size))
 have tw3 := Lib.hid (tw2.out.kept (grown_none hbw3) (fun e => by cases e))
 have HSdw3 := Lib.hid ((HSd.out).next (Nat.le_refl _) hbw3)
 clear hw3 hbw3
 try rw [show w2.heap.size + 1 = w3.heap.size from HGw3.out.symm]
 clear ct0
 have ct0 := tw3.out.1 0 _ rfl
 have ca0 := HXaw3.out.1 0 _ rfl
 have ca1 := HXaw3.out.1 1 _ rfl
 have ca2 := HXaw3.out.1 2 _ rfl
 have ca3 := HXaw3.out.1 3 _ rfl
 have ca4 := HXaw3.out.1 4 _ rfl
 have ca5 := HXaw3.out.1 5 _ rfl
 have ca6 := HXaw3.out.1 6 _ rfl
 have ca7 := HXaw3.out.1 7 _ rfl
 have ca8 := HXaw3.out.1 8 _ rfl
 have ca9 := HXaw3.out.1 9 _ rfl
 go_wp2_with fail
 refine (Get_any A3 c3 d.attrs ⟨#[99, 111, 110, 116, 101, 110, 116]⟩ _ w3.heap.size (Nat.le_refl _) HSdw3.out).mono ?_
 rintro e wt ⟨rfl, hbwt⟩
 clear ct0 ca0 ca1 ca2 ca3 ca4 ca5 ca6 ca7 ca8 ca9
 have HBwt := Lib.hid (HBw3.out.trans (hbwt.mono HBw3.out.size))
 have twt := Lib.hid (tw3.out.kept (grown_none hbwt) (fun e => by cases e))
 have awt := Lib.hid (HXaw3.out.kept (grown_none hbwt) (fun e => by cases e))
 have HSdwt := Lib.hid ((HSdw3.out).next (Nat.le_refl _) hbwt)
 clear hbwt
 have ct0 := twt.out.1 0 _ rfl
 have ca0 := awt.out.1 0 _ rfl
 have ca1 := awt.out.1 1 _ rfl
 have ca2 := awt.out.1 2 _ rfl
 have ca3 := awt.out.1 3 _ rfl
 have ca4 := awt.out.1 4 _ rfl
 have ca5 := awt.out.1 5 _ rfl
 have ca6 := awt.out.1 6 _ rfl
 have ca7 := awt.out.1 7 _ rfl
 have ca8 := awt.out.1 8 _ rfl
 have ca9 := awt.out.1 9 _ rfl
 obtain ⟨t, ht⟩ : ∃ z, contD d = z := ⟨_, rfl⟩
 rw [show (getA d.attrs ⟨#[99, 111, 110, 116, 101, 110, 116]⟩).getD ByteArray.empty = t from ht]
 obtain ⟨qb, hqb⟩ : ∃ z, (getA d.attrs ⟨#[99, 111, 110, 116, 101, 110, 116]⟩).isSome = z := ⟨_, rfl⟩
 rw [hqb]
 clear hqb
 have HT := Lib.hid ht; have HTS := Lib.hid (show t.size ≤ maxLen from ht ▸ contD_small HSdwt.out); clear ht
 go_wp2_with fail
 refine (Parse_any t (fun h => IxOk_any _ (by omega)) _ HTS.out (HOK.out.below HBwt.out)).mono ?_
 rintro e w4 ⟨hbw4, hor⟩
 clear ct0 ca0 ca1 ca2 ca3 ca4 ca5 ca6 ca7 ca8 ca9
 have HBw4 := Lib.hid (HBwt.out.trans (hbw4.mono HBwt.out.size))
 have tw4 := Lib.hid (twt.out.kept (grown_none hbw4) (fun e => by cases e))
 have aw4 := Lib.hid (awt.out.kept (grown_none hbw4) (fun e => by cases e))
 have HSdw4 := Lib.hid ((HSdwt.out).next (Nat.le_refl _) hbw4)
 clear hbw4
 have ct0 := tw4.out.1 0 _ rfl
 have ca0 := aw4.out.1 0 _ rfl
 have ca1 := aw4.out.1 1 _ rfl
 have ca2 := aw4.out.1 2 _ rfl
 have ca3 := aw4.out.1 3 _ rfl
 have ca4 := aw4.out.1 4 _ rfl
 have ca5 := aw4.out.1 5 _ rfl
 have ca6 := aw4.out.1 6 _ rfl
 have ca7 := aw4.out.1 7 _ rfl
 have ca8 := aw4.out.1 8 _ rfl
 have ca9 := aw4.out.1 9 _ rfl
 rcases hor with ⟨C, cs, hC, rfl, hnew, hnod⟩ | ⟨hC, rfl⟩
 case inr =>
  obtain ⟨y, hy1, hy2, hy3⟩ : ∃ y : Int, (if 256 < t.size then (71 : Int) else 70) = y ∧ (y != 0) = true ∧ ¬ y = 0 := by
   split
   · exact ⟨71, rfl, rfl, by omega⟩
   · exact ⟨70, rfl, rfl, by omega⟩
  rw [hy1]
  unfold zeroA
  have HE := Lib.hid (contL_none Hd.out (by rw [HT.out]; exact hC))
  clear hC hy1
  go_upto_region 4 with fail
  obtain ⟨w5, hw5⟩ : ∃ w5, w4.alloc (.cells #[.int .i64 0, .string ByteArray.empty, .string ByteArray.empty, .int .i64 0, .int .i64 0, .int .i64 0, .slice none 0 0] 72) = w5 := ⟨_, rfl⟩
  have hbw5 : Below w4.heap.size w4 w5 := by rw [← hw5]; exact (Below.refl _ _).alloc (Nat.le_refl _) _
  have HGw5 := Lib.hid (show w5.heap.size = w4.heap.size + 1 by rw [← hw5]; simp)
  have HXkw5 := Lib.hid (show BoxL w5 w4.heap.size [.int .i64 0, .string ByteArray.empty, .string ByteArray.empty, .int .i64 0, .int .i64 0, .int .i64 0, .slice none 0 0] from box_mk hw5)
  try simp only [hw5]
  have HBw5 := Lib.hid (HBw4.out.trans (hbw5.mono HBw4.out.size))
  have tw5 := Lib.hid (tw4.out.kept (grown_none hbw5) (fun e => by cases e))
  have aw5 := Lib.hid (aw4.out.kept (grown_none hbw5) (fun e => by cases e))
  have HSdw5 := Lib.hid ((HSdw4.out).next (Nat.le_refl _) hbw5)
  clear hw5 hbw5
  try rw [show w4.heap.size + 1 = w5.heap.size from HGw5.out.symm]
  clear ct0 ca0 ca1 ca2 ca3 ca4 ca5 ca6 ca7 ca8 ca9
  have ct0 := tw5.out.1 0 _ rfl
  have ca0 := aw5.out.1 0 _ rfl
  have ca1 := aw5.out.1 1 _ rfl
  have ca2 := aw5.out.1 2 _ rfl
  have ca3 := aw5.out.1 3 _ rfl
  have ca4 := aw5.out.1 4 _ rfl
  have ca5 := aw5.out.1 5 _ rfl
  have ca6 := aw5.out.1 6 _ rfl
  have ca7 := aw5.out.1 7 _ rfl
  have ca8 := aw5.out.1 8 _ rfl
  have ca9 := aw5.out.1 9 _ rfl
  have ck0 := HXkw5.out.1 0 _ rfl
  have ck1 := HXkw5.out.1 1 _ rfl
  have ck2 := HXkw5.out.1 2 _ rfl
  have ck3 := HXkw5.out.1 3 _ rfl
  have ck4 := HXkw5.out.1 4 _ rfl
  have ck5 := HXkw5.out.1 5 _ rfl
  have ck6 := HXkw5.out.1 6 _ rfl
  by_cases hk : d.kind = 2
  ·
   have hkb : (d.kind != 2) = false := by simp [hk]
   clear hk
   go_wp2
   go_ret
   exact ⟨HBw5.out, none, 0, by rw [HE.out]; rfl, by rw [HE.out]; exact Sl.nil_⟩
  ·
   have hkb : (d.kind != 2) = true := by simp [hk]
   clear hk
   go_wp2
   go_ret
   exact ⟨HBw5.out, none, 0, by rw [HE.out]; rfl, by rw [HE.out]; exact Sl.nil_⟩
 obtain ⟨k, i, l, s2, t2, le, xs⟩ := C
 have hcz : i.size ≤ maxLen ∧ l.size ≤ maxLen ∧ okI k := by obtain ⟨_, _, _, h3, _⟩ := CRd_iff.1 hnew.crd; exact ⟨h3.2.1, h3.2.2.1, h3.1⟩
 obtain ⟨A5, c5, rfl⟩ := CRdS_cells hnew
 simp only [contCells]
 have HCZ := Lib.hid hcz; have HC := Lib.hid (show parseC (contD d) = some (.mk k i l s2 t2 le xs) by rw [HT.out]; exact hC)
 have HKI := Lib.hid (show k = 0 ∨ (1 ≤ k ∧ k ≤ 5) from parse_kind hC)
 clear hcz hnew hnod hC
 go_upto_region 4 with fail
 obtain ⟨w6, hw6⟩ : ∃ w6, w4.alloc (.cells #[.int .i64 k, .string i, .string l, .int .i64 s2, .int .i64 t2, .int .i64 le, .slice A5 xs.length c5] 72) = w6 := ⟨_, rfl⟩
 have hbw6 : Below w4.heap.size w4 w6 := by rw [← hw6]; exact (Below.refl _ _).alloc (Nat.le_refl _) _
 have HGw6 := Lib.hid (show w6.heap.size = w4.heap.size + 1 by rw [← hw6]; simp)
 have HXkw6 := Lib.hid (show BoxL w6 w4.heap.size [.int .i64 k, .string i, .string l, .int .i64 s2, .int .i64 t2, .int .i64 le, .slice A5 xs.length c5] from box_mk hw6)
 try simp only [hw6]
 have HBw6 := Lib.hid (HBw4.out.trans (hbw6.mono HBw4.out.size))
 have tw6 := Lib.hid (tw4.out.kept (grown_none hbw6) (fun e => by cases e))
 have aw6 := Lib.hid (aw4.out.kept (grown_none hbw6) (fun e => by cases e))
 have HSdw6 := Lib.hid ((HSdw4.out).next (Nat.le_refl _) hbw6)
 clear hw6 hbw6
 try rw [show w4.heap.size + 1 = w6.heap.size from HGw6.out.symm]
 clear ct0 ca0 ca1 ca2 ca3 ca4 ca5 ca6 ca7 ca8 ca9
 have ct0 := tw6.out.1 0 _ rfl
 have ca0 := aw6.out.1 0 _ rfl
 have ca1 := aw6.out.1 1 _ rfl
 have ca2 := aw6.out.1 2 _ rfl
 have ca3 := aw6.out.1 3 _ rfl
 have ca4 := aw6.out.1 4 _ rfl
 have ca5 := aw6.out.1 5 _ rfl
 have ca6 := aw6.out.1 6 _ rfl
 have ca7 := aw6.out.1 7 _ rfl
 have ca8 := aw6.out.1 8 _ rfl
 have ca9 := aw6.out.1 9 _ rfl
 have ck0 := HXkw6.out.1 0 _ rfl
 have ck1 := HXkw6.out.1 1 _ rfl
 have ck2 := HXkw6.out.1 2 _ rfl
 have ck3 := HXkw6.out.1 3 _ rfl
 have ck4 := HXkw6.out.1 4 _ rfl
 have ck5 := HXkw6.out.1 5 _ rfl
 have ck6 := HXkw6.out.1 6 _ rfl
 by_cases hk : d.kind = 2
 case neg =>
  have hkb : (d.kind != 2) = true := by simp [hk]
  have HE := Lib.hid (contL_kind Hd.out hk)
  clear hk
  go_wp2
  go_ret
  exact ⟨HBw6.out, none, 0, by rw [HE.out]; rfl, by rw [HE.out]; exact Sl.nil_⟩
 have hkb : (d.kind != 2) = false := by simp [hk]
 by_cases h0 : k = 0
 case pos =>
  subst h0
  have HE := Lib.hid (show Go.Cold.contL L n = [] by rw [contL_some Hd.out hk HC.out]; exact contA_zero rfl)
  clear hk
  go_wp2
  go_ret
  exact ⟨HBw6.out, none, 0, by rw [HE.out]; rfl, by rw [HE.out]; exact Sl.nil_⟩
 have h0b : (k == 0) = false := by simpa using h0
 have HE := Lib.hid (contL_some Hd.out hk HC.out)
 have HK := Lib.hid h0; have HK5 := Lib.hid (show 1 ≤ k ∧ k ≤ 5 by have := HKI.out; omega)
 clear hk h0 HKI
 have HCA := Lib.hid (contA_prog (c := .mk k i l s2 t2 le xs) HK.out)
 obtain ⟨us, hus⟩ : ∃ z, usageT k = z := ⟨_, rfl⟩
 have HUS := Lib.hid hus; have HUZ := Lib.hid (show us.size ≤ maxLen from hus ▸ usage_small k); clear hus
 go_upto_region 6 with fail
 refine wp_region_held_drew (S := fun w' => BoxL w' (w4.heap.size) [.int .i64 k, .string i, .string l, .int .i64 s2, .int .i64 t2, .int .i64 le, .slice A5 xs.length c5]) (by kernel_rfl) HXkw6.out.drew (fun hS0 => ?_)
 obtain ⟨wd, hwd⟩ : ∃ z, World.drew w6 = z := ⟨_, rfl⟩
 rw [hwd] at hS0 ⊢
 have hb_ : Below w6.heap.size w6 wd := by rw [← hwd]; exact below_drewN_self _ _ 1
 clear hwd hS0
 clear ct0 ca0 ca1 ca2 ca3 ca4 ca5 ca6 ca7 ca8 ca9 ck0 ck1 ck2 ck3 ck4 ck5 ck6
 have HBwd := Lib.hid (HBw6.out.trans (hb_.mono HBw6.out.size))
 have twd := Lib.hid (tw6.out.kept (grown_none hb_) (fun e => by cases e))
 have awd := Lib.hid (aw6.out.kept (grown_none hb_) (fun e => by cases e))
 have kwd := Lib.hid (HXkw6.out.kept (grown_none hb_) (fun e => by cases e))
 have HSdwd := Lib.hid ((HSdw6.out).next (Nat.le_refl _) hb_)
 clear hb_
 refine wpAnyH_take (i := 1) (oi := ⟨some 41, _, _, _, _, _⟩) (v := .pointer (some ⟨w4.heap.size, 0, none⟩)) rfl (by kernel_rfl) (by kernel_rfl) (by kernel_rfl) (fun _ _ _ h => h) (Or.inl ⟨by rfl, fun w' hS => by go_simp⟩) kwd.out ?_
 try simp only [Act.put, List.setIfInBounds_toArray, List.set_cons_zero, List.set_cons_succ]
 refine wpAnyH_take (i := 2) (oi := ⟨some 42, _, _, _, _, _⟩) (v := .int .i64 k) rfl (by kernel_rfl) (by kernel_rfl) (by kernel_rfl) (fun _ _ _ h => h) (Or.inl ⟨by rfl, fun w' hS => by (have u0_ := hS.1 0 _ rfl; go_simp)⟩) kwd.out ?_
 try simp only [Act.put, List.setIfInBounds_toArray, List.set_cons_zero, List.set_cons_succ]
 refine wpAnyH_take (i := 5) (oi := ⟨some 45, _, _, _, _, _⟩) (v := .pointer (some ⟨w4.heap.size, 1, none⟩)) rfl (by kernel_rfl) (by kernel_rfl) (by kernel_rfl) (fun _ _ _ h => h) (Or.inl ⟨by rfl, fun w' hS => by go_simp⟩) kwd.out ?_
 try simp only [Act.put, List.setIfInBounds_toArray, List.set_cons_zero, List.set_cons_succ]
 refine wpAnyH_take (i := 6) (oi := ⟨some 46, _, _, _, _, _⟩) (v := .string i) rfl (by kernel_rfl) (by kernel_rfl) (by kernel_rfl) (fun _ _ _ h => h) (Or.inl ⟨by rfl, fun w' hS => by (have u0_ := hS.1 1 _ rfl; go_simp)⟩) kwd.out ?_
 try simp only [Act.put, List.setIfInBounds_toArray, List.set_cons_zero, List.set_cons_succ]
 refine wpAnyH_take (i := 8) (oi := ⟨some 48, _, _, _, _, _⟩) (v := .pointer (some ⟨w4.heap.size, 2, none⟩)) rfl (by kernel_rfl) (by kernel_rfl) (by kernel_rfl) (fun _ _ _ h => h) (Or.inl ⟨by rfl, fun w' hS => by go_simp⟩) kwd.out ?_
 try simp only [Act.put, List.setIfInBounds_toArray, List.set_cons_zero, List.set_cons_succ]
 refine wpAnyH_take (i := 9) (oi := ⟨some 49, _, _, _, _, _⟩) (v := .string l) rfl (by kernel_rfl) (by kernel_rfl) (by kernel_rfl) (fun _ _ _ h => h) (Or.inl ⟨by rfl, fun w' hS => by (have u0_ := hS.1 2 _ rfl; go_simp)⟩) kwd.out ?_
 try simp only [Act.put, List.setIfInBounds_toArray, List.set_cons_zero, List.set_cons_succ]
 refine wpAnyH_ready (rs := [0]) (by kernel_rfl) (by simp) ?_
 refine AllReadyH.cons (o := ⟨some 40, .call ⟨_, _, _⟩, _, _, _, _⟩) rfl (fun K hK => ?_) AllReadyH.nil
 go_simp
 go_at_call 55
 refine (usages_any _).mono ?_
 rintro e' q0 ⟨bm, rfl, hmap, hb_⟩
 have HBq0 := Lib.hid (HBwd.out.trans (hb_.mono HBwd.out.size))
 have tq0 := Lib.hid (twd.out.kept (grown_none hb_) (fun e => by cases e))
 have aq0 := Lib.hid (awd.out.kept (grown_none hb_) (fun e => by cases e))
 have kq0 := Lib.hid (kwd.out.kept (grown_none hb_) (fun e => by cases e))
 have HSdq0 := Lib.hid ((HSdwd.out).next (Nat.le_refl _) hb_)
 have HMP := Lib.hid hmap; clear hmap hb_
 refine hK.out _ _ kq0.out (fun _ => ?_)
 clear hK K
 try simp only [Act.put, List.setIfInBounds_toArray, List.set_cons_zero, List.set_cons_succ]
 refine wpAnyH_ready (rs := [3]) (by kernel_rfl) (by simp) ?_
 refine AllReadyH.cons (o := ⟨some 43, .lookup _ _ _ _, _, _, _, _⟩) rfl (fun K hK => ?_) AllReadyH.nil
 have hlk := look_str HMP.out (i := k) HCZ.out.2.2
 rw [useF_at HK5.out, Option.getD_some, HUS.out] at hlk
 go_simp
 refine hK.out _ _ kq0.out (fun _ => ?_)
 clear hK K
 try simp only [Act.put, List.setIfInBounds_toArray, List.set_cons_zero, List.set_cons_succ]
 clear hlk
 refine wpAnyH_ready (rs := [4]) (by kernel_rfl) (by simp) ?_
 refine AllReadyH.cons (o := ⟨some 44, .call ⟨_, _, _⟩, _, _, _, _⟩) rfl (fun K hK => ?_) AllReadyH.nil
 go_simp
 go_at_call 46
 refine (Put_any none 0 [] kFsUsage us _ q0.heap.size (Nat.le_refl _) Sl.nil_ (put_srt putAll_nil) (put_len putAll_nil (by simp)) (by decide) HUZ.out).mono ?_
 rintro e' q1 ⟨hb_, A1_, c1_, rfl, hs_⟩
 have HBq1 := Lib.hid (HBq0.out.trans (hb_.mono HBq0.out.size))
 have tq1 := Lib.hid (tq0.out.kept (grown_none hb_) (fun e => by cases e))
 have aq1 := Lib.hid (aq0.out.kept (grown_none hb_) (fun e => by cases e))
 have kq1 := Lib.hid (kq0.out.kept (grown_none hb_) (fun e => by cases e))
 have HSdq1 := Lib.hid ((HSdq0.out).next (Nat.le_refl _) hb_)
 obtain ⟨l1, hl_⟩ : ∃ z, putA [] kFsUsage us = z := ⟨_, rfl⟩
 rw [hl_] at hs_ ⊢
 have HL1 := Lib.hid (show putAll [(kFsUsage, us)] = l1 from (put_next (ps := []) putAll_nil (by simp)).trans hl_); have HS1 := Lib.hid hs_; clear hs_ hl_
 clear hb_
 refine hK.out _ _ kq1.out (fun _ => ?_)
 clear hK K
 try simp only [Act.put, List.setIfInBounds_toArray, List.set_cons_zero, List.set_cons_succ]
 refine wpAnyH_ready (rs := [7]) (by kernel_rfl) (by simp) ?_
 refine AllReadyH.cons (o := ⟨some 47, .call ⟨_, _, _⟩, _, _, _, _⟩) rfl (fun K hK => ?_) AllReadyH.nil
 go_simp
 go_at_call 46
 refine (Put_any A1_ c1_ l1 kFsUuid i _ q1.heap.size (Nat.le_refl _) HS1.out (put_srt HL1.out) (put_len HL1.out (by simp)) (by decide) HCZ.out.1).mono ?_
 rintro e' q2 ⟨hb_, A2_, c2_, rfl, hs_⟩
 have HBq2 := Lib.hid (HBq1.out.trans (hb_.mono HBq1.out.size))
 have tq2 := Lib.hid (tq1.out.kept (grown_none hb_) (fun e => by cases e))
 have aq2 := Lib.hid (aq1.out.kept (grown_none hb_) (fun e => by cases e))
 have kq2 := Lib.hid (kq1.out.kept (grown_none hb_) (fun e => by cases e))
 have HSdq2 := Lib.hid ((HSdq1.out).next (Nat.le_refl _) hb_)
 have HS1q2 := Lib.hid ((HS1.out).next (Nat.le_refl _) hb_)
 obtain ⟨l2, hl_⟩ : ∃ z, putA l1 kFsUuid i = z := ⟨_, rfl⟩
 rw [hl_] at hs_ ⊢
 have HL2 := Lib.hid (show putAll [(kFsUsage, us), (kFsUuid, i)] = l2 from (put_next (ps := [(kFsUsage, us)]) HL1.out (by simp; decide +kernel)).trans hl_); have HS2 := Lib.hid hs_; clear hs_ hl_
 clear hb_
 refine hK.out _ _ kq2.out (fun _ => ?_)
 clear hK K
 try simp only [Act.put, List.setIfInBounds_toArray, List.set_cons_zero, List.set_cons_succ]
 refine wpAnyH_ready (rs := [10]) (by kernel_rfl) (by simp) ?_
 refine AllReadyH.cons (o := ⟨some 50, .call ⟨_, _, _⟩, _, _, _, _⟩) rfl (fun K hK => ?_) AllReadyH.nil
 go_simp
 go_at_call 46
 refine (Put_any A2_ c2_ l2 kFsLabel l _ q2.heap.size (Nat.le_refl _) HS2.out (put_srt HL2.out) (put_len HL2.out (by simp)) (by decide) HCZ.out.2.1).mono ?_
 rintro e' q3 ⟨hb_, A3_, c3_, rfl, hs_⟩
 have HBq3 := Lib.hid (HBq2.out.trans (hb_.mono HBq2.out.size))
 have tq3 := Lib.hid (tq2.out.kept (grown_none hb_) (fun e => by cases e))
 have aq3 := Lib.hid (aq2.out.kept (grown_none hb_) (fun e => by cases e))
 have kq3 := Lib.hid (kq2.out.kept (grown_none hb_) (fun e => by cases e))
 have HSdq3 := Lib.hid ((HSdq2.out).next (Nat.le_refl _) hb_)
 have HS1q3 := Lib.hid ((HS1q2.out).next (Nat.le_refl _) hb_)
 have HS2q3 := Lib.hid ((HS2.out).next (Nat.le_refl _) hb_)
 obtain ⟨l3, hl_⟩ : ∃ z, putA l2 kFsLabel l = z := ⟨_, rfl⟩
 rw [hl_] at hs_ ⊢
 have HL3 := Lib.hid (show putAll [(kFsUsage, us), (kFsUuid, i), (kFsLabel, l)] = l3 from (put_next (ps := [(kFsUsage, us), (kFsUuid, i)]) HL2.out (by simp; decide +kernel)).trans hl_); have HS3 := Lib.hid hs_; clear hs_ hl_
 clear hb_
 refine hK.out _ _ kq3.out (fun _ => ?_)
 clear hK K
 try simp only [Act.put, List.setIfInBounds_toArray, List.set_cons_zero, List.set_cons_succ]
 refine wpAnyH_take (i := 11) (oi := ⟨some 4, _, _, _, _, _⟩) (v := .slice A3_ l3.length c3_) rfl (by kernel_rfl) (by kernel_rfl) (by kernel_rfl) (fun _ _ _ h => h) (Or.inl ⟨by rfl, fun w' hS => by go_simp⟩) kq3.out ?_
 try simp only [Act.put, List.setIfInBounds_toArray, List.set_cons_zero, List.set_cons_succ]
 refine wpAnyH_done (by kernel_rfl) ?_ _
 have HE2 := Lib.hid (show Go.Cold.contL L n = l3 by rw [HE.out, ← HL3.out, ← HUS.out]; exact HCA.out.symm)
 go_wp2
 go_ret
 exact ⟨HBq3.out, A3_, c3_, by rw [HE2.out]; rfl, by rw [HE2.out]; exact HS3.out⟩
end Go.Proofs.YtjgllhlilbchpaaGreatDoor
