/-
  The walks of package relate: setOf, has, Ancestor; the reference's Ancestor and In.
-/
import Derived.Test.YtomcebcaendilaaGreatDoorIW
import Derived.Test.YtomcebcaendilaaGreatDoorIB
import Derived.Lib.AtoiAllCases
import Derived.Lib.AppendIntMem
import Derived.Test.YtomcebcaendilaaGreatDoorIA
set_option linter.unusedSimpArgs false
set_option linter.unusedVariables false
namespace Go.Cold
open Go Go.RowKit
def underP (a b : ByteArray) : Bool := match pathOf a, pathOf b with
 | some xs, some ys => underL xs ys
 | _, _ => false
end Go.Cold
namespace Go.Proofs.YtomcebcaendilaaGreatDoor
open Go.RowKit Go.Cold
theorem info_rset : (Tryz.prog.info? 71).map (fun i => (i.zero, i.size)) = some (some (.agg #[]), 0) := by kernel_rfl
theorem zero_set (w : World) : (zeroValue 71).run Tryz.prog w = .ok (.agg #[]) w := (zero_of_info info_rset).1 w
/-- A set of the program: block b holds the numbers of s. -/
abbrev SetR (w : World) (b n : Nat) (s : Int → Bool) : Prop := SetV Tryz.prog 3 71 w b n s
theorem look_set {w : World} {b n : Nat} {s : Int → Bool} (h : SetR w b n s) {i : Int} (hi : okI i) : (Instr.lookup 65 (.map (some b)) (.int .i64 i) true).run Tryz.prog w = .ok (.tuple #[.agg #[], .bool (s i)]) w :=
 h.look_ok Tryz.underlying65 Tryz.underlying3 (zero_set w) hi
/-- What setOf answers. -/
def SetPost (xs : List Int) (w : World) (e : Ending) (w' : World) : Prop := Below w.heap.size w w' ∧ ∃ b, e = .returned (.map (some b)) ∧ w.heap.size ≤ b ∧ SetR w' b xs.length (hasL xs)
theorem setOf_any (A : Option Addr) (c : Nat) (xs : List Int) (w : World) (B : Nat) (hB : B ≤ w.heap.size) (hx : Sl w B A c xs) :
  Calls Tryz.prog 46 #[.slice A xs.length c] w (SetPost xs w) := by
 have hx1 := hx.1; have hx2 := hx.2.1
 unfold maxLen at hx2
 have HX := Lib.hid hx; have HB := Lib.hid hB; have HL := Lib.hid hx2; clear hx hB
 have hmk1 := fun z => run_makeMap (P := Tryz.prog) 65 z
 go_enter Tryz.func46, Tryz.ntmps46
 go_upto_region 1 with fail
 obtain ⟨w1, hw1⟩ : ∃ z, w.alloc (.map #[] 0) = z := ⟨_, rfl⟩
 have HB1 := Lib.hid (show Below w.heap.size w w1 by rw [← hw1]; exact (Below.refl _ _).alloc (Nat.le_refl _) _)
 have HM := Lib.hid (show SetR w1 w.heap.size 0 (hasL (xs.take 0)) by rw [← hw1, List.take_zero]; exact SetV.made w _ _ _)
 go_wp2_with fail
 clear hmk1
 go_loopw [9] (fun i wr => ∃ k : Nat, k ≤ xs.length ∧ i = .int .i64 k ∧ Hid (Below w.heap.size w wr) ∧ Hid (SetR wr w.heap.size k (hasL (xs.take k)))) (fun i _ => xs.length - (intOf i).toNat)
 case atStart => exact ⟨0, Nat.zero_le _, rfl, HB1, HM⟩
 case round =>
  clear HB1 HM
  obtain ⟨k, hk, rfl, HBR, HMR⟩ := hrel
  by_cases hlt : k < xs.length
  ·
   have i1 : (k : Int) < (xs.length : Int) := by omega
   obtain ⟨b, o, rfl, hb, hcell, hok1, hok2⟩ := (HX.out.keep (HBR.out.mono HB.out)).int hlt
   obtain ⟨n, hn⟩ : ∃ n, xs[k]'hlt = n := ⟨_, rfl⟩
   rw [hn] at hcell hok1 hok2
   have HOK := Lib.hid (show okI n from ⟨hok1, hok2⟩)
   have HSN := Lib.hid (show addS (hasL (xs.take k)) n = hasL (xs.take (k + 1)) by rw [hasL_snoc, List.take_add_one, List.getElem?_eq_getElem hlt, hn]; rfl)
   have HKM := Lib.hid (show k < maxLen by unfold maxLen; omega)
   clear hok1 hok2 hn hb
   go_wp2_with (at_mapUpdate; refine wpList_add rfl _ _ _ _ rfl HMR.out Tryz.underlying65 Tryz.underlying3 rfl n HOK.out HKM.out rfl rfl ?_; intro w5 hm_ hg_; have HB5 := Lib.hid (HBR.out.grown hg_ HBR.out.size (fun q hq => by have := Option.some.inj hq; omega)); have HM5 := Lib.hid (show SetR w5 w.heap.size (k + 1) (hasL (xs.take (k + 1))) by rw [← HSN.out]; exact hm_); clear hg_ hm_ hcell)
   try go_wp2
   go_roundw
   case rel => exact ⟨k + 1, by omega, by go_num, HB5, HM5⟩
   case measure => simp [intOf]; omega
  ·
   have hk2 : k = xs.length := by omega
   subst hk2
   go_wp2
   go_ret
   exact ⟨HBR.out, _, rfl, Nat.le_refl _, by have := HMR.out; rw [List.take_length] at this; exact this⟩
theorem setHas_any (b n : Nat) (s : Int → Bool) (i : Int) (w : World) (h : SetR w b n s) (hi : okI i) : Calls Tryz.prog 47 #[.map (some b), .int .i64 i] w fun e w' => e = .returned (.bool (s i)) ∧ Below w.heap.size w w' := by
 have hlk := look_set h hi
 obtain ⟨q, hq⟩ : ∃ q, s i = q := ⟨_, rfl⟩
 rw [hq] at hlk
 have HQ := Lib.hid hq; have HLT := Lib.hid h.lt; clear hq h
 go_enter Tryz.func47, Tryz.ntmps47
 go_wp2
 go_ret
 exact ⟨ret_bool HQ.out.symm, by exact (Below.refl _ _).alloc (Nat.le_refl _) _⟩
/-- relate.Ancestor. -/
theorem Ancestor_any (a b : ByteArray) (w : World) (ha : a.size < 4294967281) (hb : b.size < 4294967281) (hok : Ok w) : Calls Tryz.prog 13 #[.string a, .string b] w fun e w' => e = .returned (.bool (underP a b)) ∧ Below w.heap.size w w' := by
 go_enter Tryz.func13, Tryz.ntmps13
 go_wp2_with fail
 refine (Under_any a b w ha hb hok).mono ?_
 rintro e w1 ⟨hb1, hr⟩
 have HB1 := Lib.hid hb1; clear hb1
 rcases hr with ⟨xs, ys, h1, h2, rfl⟩ | ⟨h1, rfl⟩
 ·
  have HR := Lib.hid (show underP a b = underL xs ys by unfold underP; rw [h1, h2])
  clear h1 h2
  obtain ⟨z, hz⟩ : ∃ z, underL xs ys = z := ⟨_, rfl⟩
  rw [hz] at HR ⊢
  clear hz
  cases z
  ·
   go_wp2
   go_ret
   exact ⟨ret_bool HR.out.symm, HB1.out⟩
  ·
   go_wp2
   go_ret
   exact ⟨ret_bool HR.out.symm, HB1.out⟩
 ·
  have HR := Lib.hid (show underP a b = false by unfold underP; rcases h1 with h | h <;> rw [h]; cases pathOf a <;> rfl)
  clear h1
  go_wp2
  go_ret
  exact ⟨ret_bool HR.out.symm, HB1.out⟩
end Go.Proofs.YtomcebcaendilaaGreatDoor
namespace Go.Cold
open Go Go.RowKit
/-- The number of a device as a partition of another one, 0 if it is none. -/
def partD (p d : Dev) : Nat := if d.kind = 2 ∧ p.kind = 2 then numR p.orig d.orig else 0
theorem itB_dec (k : Nat) : (⟨(Lib.decDigits k).toArray⟩ : ByteArray) = itB k := by
 unfold itB Lib.itoa
 rw [if_neg (by omega)]
 rfl
theorem itB_size {k : Nat} (h : k ≤ 16) : (itB k).size ≤ 2 := by
 have : ∀ k : Nat, k < 17 → (itB k).size ≤ 2 := by decide +kernel
 exact this k (by omega)
theorem atoi_it {k : Nat} (h : k ≤ 16) : Lib.atoiAll (Lib.itoa (k : Int)) = .ok k := by
 have : ∀ k : Nat, k < 17 → Lib.atoiAll (Lib.itoa (k : Int)) = .ok k := by decide +kernel
 exact this k (by omega)
theorem numR_le (p o : ByteArray) : numR p o ≤ 16 := by
 rcases numR_cases p o with ⟨h, _⟩ | ⟨_, h, _⟩ <;> omega
/-- What is cut off ahead of the digits. -/
theorem trim_pre {s p : List UInt8} (h : Lib.hasPrefix s p = true) : s = p ++ Lib.trimPrefix s p := by
 unfold Lib.trimPrefix
 unfold Lib.hasPrefix at h
 simp only [Lib.hasPrefix, h, if_true]
 rw [List.isPrefixOf_iff_prefix] at h
 obtain ⟨t, rfl⟩ := h
 simp
theorem numR_no {p o : ByteArray} (h : Lib.hasPrefix o.data.toList (p ++ ⟨#[112]⟩).data.toList = false) : numR p o = 0 := by
 by_cases h0 : numR p o = 0
 · exact h0
 ·
  obtain ⟨dg, h1, _⟩ := numR_back h0
  rw [h1] at h
  unfold Lib.hasPrefix at h
  have h2 : ((p ++ ⟨#[112]⟩ : ByteArray).data.toList).isPrefixOf ((p ++ ⟨#[112]⟩ : ByteArray).data.toList ++ dg) = true := by rw [List.isPrefixOf_iff_prefix]; exact List.prefix_append _ _
  rw [h2] at h
  cases h
theorem numR_trim {p o : ByteArray} (h : numR p o ≠ 0) : Lib.trimPrefix o.data.toList (p ++ ⟨#[112]⟩).data.toList = Lib.itoa (numR p o : Int) := by
 obtain ⟨dg, h1, h2, _⟩ := numR_back h
 have h3 : Lib.hasPrefix o.data.toList (p ++ ⟨#[112]⟩).data.toList = true := by rw [h1]; unfold Lib.hasPrefix; simp
 have h4 := trim_pre h3
 rw [h1] at h4
 rw [h2, h1]
 exact (List.append_cancel_left h4).symm
theorem numR_atoi {p o : ByteArray} (h : ∀ m, Lib.atoiAll (Lib.trimPrefix o.data.toList (p ++ ⟨#[112]⟩).data.toList) ≠ .ok m) : numR p o = 0 := by
 by_cases h0 : numR p o = 0
 · exact h0
 ·
  rw [numR_trim h0] at h
  exact absurd (atoi_it (numR_le p o)) (h _)
theorem numR_range {p o : ByteArray} {n : Int} (h : Lib.atoiAll (Lib.trimPrefix o.data.toList (p ++ ⟨#[112]⟩).data.toList) = .ok n) (hn : n < 1 ∨ 16 < n) : numR p o = 0 := by
 by_cases h0 : numR p o = 0
 · exact h0
 ·
  rw [numR_trim h0, atoi_it (numR_le p o)] at h
  injection h with h
  have := numR_le p o
  omega
theorem numR_digs {p o : ByteArray} {n : Nat} (h : Lib.atoiAll (Lib.trimPrefix o.data.toList (p ++ ⟨#[112]⟩).data.toList) = .ok (n : Int)) (hn : Lib.itoa (n : Int) ≠ Lib.trimPrefix o.data.toList (p ++ ⟨#[112]⟩).data.toList) : numR p o = 0 := by
 by_cases h0 : numR p o = 0
 · exact h0
 ·
  rw [numR_trim h0, atoi_it (numR_le p o)] at h
  injection h with h
  rw [numR_trim h0, h] at hn
  exact absurd rfl hn
theorem numR_yes {p o : ByteArray} {n : Nat} (hp : Lib.hasPrefix o.data.toList (p ++ ⟨#[112]⟩).data.toList = true) (hn : Lib.itoa (n : Int) = Lib.trimPrefix o.data.toList (p ++ ⟨#[112]⟩).data.toList) (h1 : 1 ≤ n) (h2 : n ≤ 16) : numR p o = n := by
 have := numR_digits (dg := Lib.trimPrefix o.data.toList (p ++ ⟨#[112]⟩).data.toList) (trim_pre hp) hn (by omega) (by omega)
 omega
end Go.Cold
namespace Go.Proofs.YtomcebcaendilaaGreatDoor
open Go.RowKit Go.Cold
def ifaceW (ev : Value) : Prop := ev = .nilIface ∨ ∃ te pe, ev = .iface te pe
/-- The variables that the library's Atoi reads. -/
def OkA (w : World) : Prop := (∃ ev, w.cell? ⟨1, 0, none⟩ = some ev ∧ ifaceW ev) ∧ (∃ ev, w.cell? ⟨2, 0, none⟩ = some ev ∧ ifaceW ev)
theorem OkA.lt {w : World} (h : OkA w) : 1 < w.heap.size ∧ 2 < w.heap.size := by
 obtain ⟨⟨e1, h1, _⟩, ⟨e2, h2, _⟩⟩ := h
 exact ⟨block_lt_of_cell h1, block_lt_of_cell h2⟩
theorem OkA.next {w w' : World} (h : OkA w) (hb : Below w.heap.size w w') : OkA w' := by
 obtain ⟨l1, l2⟩ := h.lt
 obtain ⟨⟨e1, h1, q1⟩, ⟨e2, h2, q2⟩⟩ := h
 exact ⟨⟨e1, (hb.cell (p := ⟨_, 0, none⟩) (by exact l1)).trans h1, q1⟩, ⟨e2, (hb.cell (p := ⟨_, 0, none⟩) (by exact l2)).trans h2, q2⟩⟩
def AtoiQ (t : ByteArray) (w : World) (e : Ending) (w' : World) : Prop := Below w.heap.size w w' ∧ ∃ n ev, e = .returned (.tuple #[.int .i64 n, ev]) ∧ okI n ∧
 ((Lib.atoiAll t.data.toList = .ok n ∧ ev = .nilIface) ∨ ((∀ m, Lib.atoiAll t.data.toList ≠ .ok m) ∧ ∃ te pe, ev = .iface te pe))
theorem AtoiW_any (t : ByteArray) (w : World) (hok : OkA w) (ht : t.size ≤ 281474976710656) : Calls Tryz.prog 81 #[.string t] w (AtoiQ t w) := by
 cases h : Lib.atoiAll t.data.toList
 ·
  rename_i n
  refine (Tryz.strconv_Atoi_ok t (by omega) n h w).mono ?_
  rintro e w' ⟨rfl, hw⟩
  refine ⟨?_, n, .nilIface, rfl, Lib.atoiAll_bounds h, .inl ⟨h, rfl⟩⟩
  rcases hw with rfl | ⟨u, rfl⟩
  · exact Below.refl _ _
  · exact Lib.bytesWorld_below _ _ _
 ·
  obtain ⟨⟨ev, h1, h2⟩, _⟩ := hok
  refine (Any.strconv_Atoi_syntax Tryz.laysC172 t (by omega) h ev w h1 h2).mono ?_
  rintro e w' ⟨N, rfl, _, _, hb⟩
  exact ⟨hb, 0, _, rfl, by unfold okI; omega, .inr ⟨fun n hn => (by rw [h] at hn; cases hn), _, _, rfl⟩⟩
 ·
  obtain ⟨_, ⟨ev, h1, h2⟩⟩ := hok
  refine (Any.strconv_Atoi_range Tryz.laysC172 t (by omega) h ev w h1 h2).mono ?_
  rintro e w' ⟨N, rfl, _, _, hb⟩
  exact ⟨hb, _, _, rfl, by unfold okI Lib.atoiSat; split <;> omega, .inr ⟨fun n hn => (by rw [h] at hn; cases hn), _, _, rfl⟩⟩
theorem ItoaS_any (k : Nat) (w : World) (hk : k ≤ 16) : Calls Tryz.prog 77 #[.int .i64 (k : Int)] w fun e w' => e = .returned (.string (itB k)) ∧ w' = w := by
 refine (Tryz.strconv_Itoa_small k (by omega) w).mono ?_
 rintro e w' ⟨rfl, rfl⟩
 exact ⟨by rw [itB_dec], rfl⟩
end Go.Proofs.YtomcebcaendilaaGreatDoor
namespace Go.Cold
open Go Go.RowKit
end Go.Cold
