/-
  The walks of package relate: setOf, has, Ancestor; the reference's Ancestor and In.
-/
import Derived.Test.YtomcebcaendilaaGreatDoorHW
import Derived.Test.YtomcebcaendilaaGreatDoorHB
import Derived.Lib.AtoiAllCases
import Derived.Lib.AppendIntMem
import Derived.Test.YtomcebcaendilaaGreatDoorHA
set_option linter.unusedSimpArgs false
set_option linter.unusedVariables false
namespace Go.Cold
open Go Go.RowKit
/-- One text is a path, the other one below it. -/
def ancB (a b : ByteArray) : Bool := (pathOf a).isSome && (pathOf b).isSome && Lib.hasPrefix b.data.toList (a ++ ⟨#[47]⟩).data.toList
def underP (a b : ByteArray) : Bool := match pathOf a, pathOf b with
 | some xs, some ys => underL xs ys
 | _, _ => false
end Go.Cold
namespace Go.Proofs.YtomcebcaendilaaGreatDoor
open Go.RowKit Go.Cold
theorem info_rset : (Tryz.prog.info? 71).map (fun i => (i.zero, i.size)) = some (some (.agg #[]), 0) := by kernel_rfl
theorem zero_set (w : World) : (zeroValue 71).run Tryz.prog w = .ok (.agg #[]) w := (zero_of_info info_rset).1 w
/-- A set of the program: block b holds the numbers of s. -/
abbrev SetR (w : World) (b n : Nat) (s : Int → Bool) : Prop := SetV Tryz.prog 3 71 w b n s
theorem look_set {w : World} {b n : Nat} {s : Int → Bool} (h : SetR w b n s) {i : Int} (hi : okI i) : (Instr.lookup 65 (.map (some b)) (.int .i64 i) true).run Tryz.prog w = .ok (.tuple #[.agg #[], .bool (s i)]) w :=
 h.look_ok Tryz.underlying65 Tryz.underlying3 (zero_set w) hi
/-- What setOf answers. -/
def SetPost (xs : List Int) (w : World) (e : Ending) (w' : World) : Prop := Below w.heap.size w w' ∧ ∃ b, e = .returned (.map (some b)) ∧ w.heap.size ≤ b ∧ SetR w' b xs.length (hasL xs)
theorem setOf_any (A : Option Addr) (c : Nat) (xs : List Int) (w : World) (B : Nat) (hB : B ≤ w.heap.size) (hx : Sl w B A c xs) :
  Calls Tryz.prog 46 #[.slice A xs.length c] w (SetPost xs w) := by
 have hx1 := hx.1; have hx2 := hx.2.1
 unfold maxLen at hx2
 have HX := Lib.hid hx; have HB := Lib.hid hB; have HL := Lib.hid hx2; clear hx hB
 have hmk1 := fun z => run_makeMap (P := Tryz.prog) 65 z
 go_enter Tryz.func46, Tryz.ntmps46
 go_upto_region 1 with fail
 obtain ⟨w1, hw1⟩ : ∃ z, w.alloc (.map #[] 0) = z := ⟨_, rfl⟩
 have HB1 := Lib.hid (show Below w.heap.size w w1 by rw [← hw1]; exact (Below.refl _ _).alloc (Nat.le_refl _) _)
 have HM := Lib.hid (show SetR w1 w.heap.size 0 (hasL (xs.take 0)) by rw [← hw1, List.take_zero]; exact SetV.made w _ _ _)
 go_wp2_with fail
 clear hmk1
 go_loopw [9] (fun i wr => ∃ k : Nat, k ≤ xs.length ∧ i = .int .i64 k ∧ Hid (Below w.heap.size w wr) ∧ Hid (SetR wr w.heap.size k (hasL (xs.take k)))) (fun i _ => xs.length - (intOf i).toNat)
 case atStart => exact ⟨0, Nat.zero_le _, rfl, HB1, HM⟩
 case round =>
  clear HB1 HM
  obtain ⟨k, hk, rfl, HBR, HMR⟩ := hrel
  by_cases hlt : k < xs.length
  ·
   have i1 : (k : Int) < (xs.length : Int) := by omega
   obtain ⟨b, o, rfl, hb, hcell, hok1, hok2⟩ := (HX.out.keep (HBR.out.mono HB.out)).int hlt
   obtain ⟨n, hn⟩ : ∃ n, xs[k]'hlt = n := ⟨_, rfl⟩
   rw [hn] at hcell hok1 hok2
   have HOK := Lib.hid (show okI n from ⟨hok1, hok2⟩)
   have HSN := Lib.hid (show addS (hasL (xs.take k)) n = hasL (xs.take (k + 1)) by rw [hasL_snoc, List.take_add_one, List.getElem?_eq_getElem hlt, hn]; rfl)
   have HKM := Lib.hid (show k < maxLen by unfold maxLen; omega)
   clear hok1 hok2 hn hb
   go_wp2_with (at_mapUpdate; refine wpList_add rfl _ _ _ _ rfl HMR.out Tryz.underlying65 Tryz.underlying3 rfl n HOK.out HKM.out rfl rfl ?_; intro w5 hm_ hg_; have HB5 := Lib.hid (HBR.out.grown hg_ HBR.out.size (fun q hq => by have := Option.some.inj hq; omega)); have HM5 := Lib.hid (show SetR w5 w.heap.size (k + 1) (hasL (xs.take (k + 1))) by rw [← HSN.out]; exact hm_); clear hg_ hm_ hcell)
   try go_wp2
   go_roundw
   case rel => exact ⟨k + 1, by omega, by go_num, HB5, HM5⟩
   case measure => simp [intOf]; omega
  ·
   have hk2 : k = xs.length := by omega
   subst hk2
   go_wp2
   go_ret
   exact ⟨HBR.out, _, rfl, Nat.le_refl _, by have := HMR.out; rw [List.take_length] at this; exact this⟩
theorem setHas_any (b n : Nat) (s : Int → Bool) (i : Int) (w : World) (h : SetR w b n s) (hi : okI i) : Calls Tryz.prog 47 #[.map (some b), .int .i64 i] w fun e w' => e = .returned (.bool (s i)) ∧ Below w.heap.size w w' := by
 have hlk := look_set h hi
 obtain ⟨q, hq⟩ : ∃ q, s i = q := ⟨_, rfl⟩
 rw [hq] at hlk
 have HQ := Lib.hid hq; have HLT := Lib.hid h.lt; clear hq h
 go_enter Tryz.func47, Tryz.ntmps47
 go_wp2
 go_ret
 exact ⟨ret_bool HQ.out.symm, by exact (Below.refl _ _).alloc (Nat.le_refl _) _⟩
/-- relate.Ancestor. -/
theorem Ancestor_any (a b : ByteArray) (w : World) (ha : a.size < 4294967281) (hb : b.size < 4294967281) (hok : Ok w) : Calls Tryz.prog 13 #[.string a, .string b] w fun e w' => e = .returned (.bool (underP a b)) ∧ Below w.heap.size w w' := by
 go_enter Tryz.func13, Tryz.ntmps13
 go_wp2_with fail
 refine (Under_any a b w ha hb hok).mono ?_
 rintro e w1 ⟨hb1, hr⟩
 have HB1 := Lib.hid hb1; clear hb1
 rcases hr with ⟨xs, ys, h1, h2, rfl⟩ | ⟨h1, rfl⟩
 ·
  have HR := Lib.hid (show underP a b = underL xs ys by unfold underP; rw [h1, h2])
  clear h1 h2
  obtain ⟨z, hz⟩ : ∃ z, underL xs ys = z := ⟨_, rfl⟩
  rw [hz] at HR ⊢
  clear hz
  cases z
  ·
   go_wp2
   go_ret
   exact ⟨ret_bool HR.out.symm, HB1.out⟩
  ·
   go_wp2
   go_ret
   exact ⟨ret_bool HR.out.symm, HB1.out⟩
 ·
  have HR := Lib.hid (show underP a b = false by unfold underP; rcases h1 with h | h <;> rw [h]; cases pathOf a <;> rfl)
  clear h1
  go_wp2
  go_ret
  exact ⟨ret_bool HR.out.symm, HB1.out⟩
/-- The reference's Ancestor. -/
theorem RAncestor_any (a b : ByteArray) (w : World) (ha : a.size < 4294967280) (hb : b.size < 4294967281) (hok : Ok w) : Calls Tryz.prog 14 #[.string a, .string b] w fun e w' => e = .returned (.bool (ancB a b)) ∧ Below w.heap.size w w' := by
 have hadd : ¬ 9223372036854775807 < a.size + 1 := by omega
 have HA := Lib.hid ha; have HB := Lib.hid hb; clear ha hb
 go_enter Tryz.func14, Tryz.ntmps14
 go_wp2_with fail
 refine (RSplit_any a w (by have := HA.out; omega) hok).mono ?_
 rintro e w1 ⟨hb1, hr⟩
 have hok1 := hok.next hb1
 rcases hr with ⟨xs, A, c, hxs, rfl, hsx⟩ | ⟨hn, rfl⟩
 ·
  have HX := Lib.hid (show (pathOf a).isSome = true by rw [hxs]; rfl); clear hxs hsx
  go_wp2_with fail
  refine (RSplit_any b w1 HB.out hok1).mono ?_
  rintro e w2 ⟨hb2, hr⟩
  have HB2 := Lib.hid (hb1.trans (hb2.mono hb1.size)); clear hb1 hb2
  rcases hr with ⟨ys, A2, c2, hys, rfl, hsy⟩ | ⟨hn, rfl⟩
  ·
   have HY := Lib.hid (show (pathOf b).isSome = true by rw [hys]; rfl); clear hys hsy
   go_wp2_with fail
   refine (Tryz.strings_HasPrefix _ _ _).mono ?_
   rintro e w3 ⟨rfl, rfl⟩
   obtain ⟨z, hz⟩ : ∃ z, Lib.hasPrefix b.data.toList (a ++ ⟨#[47]⟩).data.toList = z := ⟨_, rfl⟩
   have HR := Lib.hid (show ancB a b = z by unfold ancB; rw [HX.out, HY.out, hz]; rfl)
   rw [hz]; clear hz
   go_wp2
   go_ret
   exact ⟨ret_bool HR.out.symm, HB2.out⟩
  ·
   have HR := Lib.hid (show ancB a b = false by unfold ancB; rw [hn]; simp); clear hn
   go_wp2
   go_ret
   exact ⟨ret_bool HR.out.symm, HB2.out⟩
 ·
  have HR := Lib.hid (show ancB a b = false by unfold ancB; rw [hn]; rfl); clear hn
  go_wp2_with fail
  refine (RSplit_any b w1 HB.out hok1).mono ?_
  rintro e w2 ⟨hb2, hr⟩
  have HB2 := Lib.hid (hb1.trans (hb2.mono hb1.size)); clear hb1 hb2
  rcases hr with ⟨ys, A2, c2, hys, rfl, hsy⟩ | ⟨hn, rfl⟩
  ·
   clear hys hsy
   go_wp2
   go_ret
   exact ⟨ret_bool HR.out.symm, HB2.out⟩
  ·
   clear hn
   go_wp2
   go_ret
   exact ⟨ret_bool HR.out.symm, HB2.out⟩
/-- The reference's In. -/
theorem RIn_any (A : Option Addr) (c : Nat) (xs : List Int) (n : Int) (w : World) (B : Nat) (hx : Sl w B A c xs) : Calls Tryz.prog 30 #[.slice A xs.length c, .int .i64 n] w fun e w' => e = .returned (.bool (hasL xs n)) ∧ w' = w := by
 have hx1 := hx.1; have hx2 := hx.2.1
 unfold maxLen at hx2
 have HX := Lib.hid hx; clear hx
 go_enter Tryz.func30, Tryz.ntmps30
 go_wp2_with fail
 go_loop [5] (fun i => ∃ k : Nat, k ≤ xs.length ∧ i = .int .i64 k ∧ Hid ((xs.take k).all (fun d => !decide (d = n)) = true)) (fun i => xs.length - (intOf i).toNat)
 case atStart => exact ⟨0, Nat.zero_le _, rfl, rfl⟩
 case round =>
  obtain ⟨k, hk, rfl, HA⟩ := hrel
  by_cases hlt : k < xs.length
  ·
   obtain ⟨b, o, rfl, hb, hcell, hok1, hok2⟩ := HX.out.int hlt
   obtain ⟨x, hxx⟩ : ∃ x, xs[k]'hlt = x := ⟨_, rfl⟩
   rw [hxx] at hcell
   have HLT := Lib.hid hlt
   have HXX := Lib.hid hxx; clear hxx hok1 hok2
   by_cases hn : x = n
   ·
    have e1 : (x == n) = true := beq_iff_eq.2 hn
    have HR := Lib.hid (show hasL xs n = true by unfold hasL; rw [List.contains_iff_mem, ← hn, ← HXX.out]; exact List.getElem_mem _); clear hn
    go_wp2
    go_ret
    exact ⟨ret_bool HR.out.symm, rfl⟩
   ·
    have e1 : (x == n) = false := beq_eq_false_iff_ne.2 hn
    have HN := Lib.hid hn; clear hn
    go_wp2
    go_round
    case rel => exact ⟨k + 1, by omega, by go_num, all_step HA.out (List.getElem?_eq_getElem HLT.out) (by rw [HXX.out]; simp [HN.out])⟩
    case measure => simp [intOf]; omega
  ·
   have hk2 : k = xs.length := by omega
   have HR := Lib.hid (show hasL xs n = false by
    have h1 := HA.out; rw [hk2, List.take_length] at h1
    unfold hasL
    rw [List.contains_eq_mem, decide_eq_false_iff_not]
    intro hm
    have := List.all_eq_true.1 h1 n hm
    simp at this)
   go_wp2
   go_ret
   exact ⟨ret_bool HR.out.symm, rfl⟩
end Go.Proofs.YtomcebcaendilaaGreatDoor
namespace Go.Cold
open Go Go.RowKit
/-- The number of a device as a partition of another one, 0 if it is none. -/
def partD (p d : Dev) : Nat := if d.kind = 2 ∧ p.kind = 2 then numR p.orig d.orig else 0
theorem itB_dec (k : Nat) : (⟨(Lib.decDigits k).toArray⟩ : ByteArray) = itB k := by
 unfold itB Lib.itoa
 rw [if_neg (by omega)]
 rfl
theorem itB_size {k : Nat} (h : k ≤ 16) : (itB k).size ≤ 2 := by
 have : ∀ k : Nat, k < 17 → (itB k).size ≤ 2 := by decide +kernel
 exact this k (by omega)
theorem atoi_it {k : Nat} (h : k ≤ 16) : Lib.atoiAll (Lib.itoa (k : Int)) = .ok k := by
 have : ∀ k : Nat, k < 17 → Lib.atoiAll (Lib.itoa (k : Int)) = .ok k := by decide +kernel
 exact this k (by omega)
theorem numR_le (p o : ByteArray) : numR p o ≤ 16 := by
 rcases numR_cases p o with ⟨h, _⟩ | ⟨_, h, _⟩ <;> omega
/-- What is cut off ahead of the digits. -/
theorem trim_pre {s p : List UInt8} (h : Lib.hasPrefix s p = true) : s = p ++ Lib.trimPrefix s p := by
 unfold Lib.trimPrefix
 unfold Lib.hasPrefix at h
 simp only [Lib.hasPrefix, h, if_true]
 rw [List.isPrefixOf_iff_prefix] at h
 obtain ⟨t, rfl⟩ := h
 simp
theorem numR_no {p o : ByteArray} (h : Lib.hasPrefix o.data.toList (p ++ ⟨#[112]⟩).data.toList = false) : numR p o = 0 := by
 by_cases h0 : numR p o = 0
 · exact h0
 ·
  obtain ⟨dg, h1, _⟩ := numR_back h0
  rw [h1] at h
  unfold Lib.hasPrefix at h
  have h2 : ((p ++ ⟨#[112]⟩ : ByteArray).data.toList).isPrefixOf ((p ++ ⟨#[112]⟩ : ByteArray).data.toList ++ dg) = true := by rw [List.isPrefixOf_iff_prefix]; exact List.prefix_append _ _
  rw [h2] at h
  cases h
theorem numR_trim {p o : ByteArray} (h : numR p o ≠ 0) : Lib.trimPrefix o.data.toList (p ++ ⟨#[112]⟩).data.toList = Lib.itoa (numR p o : Int) := by
 obtain ⟨dg, h1, h2, _⟩ := numR_back h
 have h3 : Lib.hasPrefix o.data.toList (p ++ ⟨#[112]⟩).data.toList = true := by rw [h1]; unfold Lib.hasPrefix; simp
 have h4 := trim_pre h3
 rw [h1] at h4
 rw [h2, h1]
 exact (List.append_cancel_left h4).symm
theorem numR_atoi {p o : ByteArray} (h : ∀ m, Lib.atoiAll (Lib.trimPrefix o.data.toList (p ++ ⟨#[112]⟩).data.toList) ≠ .ok m) : numR p o = 0 := by
 by_cases h0 : numR p o = 0
 · exact h0
 ·
  rw [numR_trim h0] at h
  exact absurd (atoi_it (numR_le p o)) (h _)
theorem numR_range {p o : ByteArray} {n : Int} (h : Lib.atoiAll (Lib.trimPrefix o.data.toList (p ++ ⟨#[112]⟩).data.toList) = .ok n) (hn : n < 1 ∨ 16 < n) : numR p o = 0 := by
 by_cases h0 : numR p o = 0
 · exact h0
 ·
  rw [numR_trim h0, atoi_it (numR_le p o)] at h
  injection h with h
  have := numR_le p o
  omega
theorem numR_digs {p o : ByteArray} {n : Nat} (h : Lib.atoiAll (Lib.trimPrefix o.data.toList (p ++ ⟨#[112]⟩).data.toList) = .ok (n : Int)) (hn : Lib.itoa (n : Int) ≠ Lib.trimPrefix o.data.toList (p ++ ⟨#[112]⟩).data.toList) : numR p o = 0 := by
 by_cases h0 : numR p o = 0
 · exact h0
 ·
  rw [numR_trim h0, atoi_it (numR_le p o)] at h
  injection h with h
  rw [numR_trim h0, h] at hn
  exact absurd rfl hn
theorem numR_yes {p o : ByteArray} {n : Nat} (hp : Lib.hasPrefix o.data.toList (p ++ ⟨#[112]⟩).data.toList = true) (hn : Lib.itoa (n : Int) = Lib.trimPrefix o.data.toList (p ++ ⟨#[112]⟩).data.toList) (h1 : 1 ≤ n) (h2 : n ≤ 16) : numR p o = n := by
 have := numR_digits (dg := Lib.trimPrefix o.data.toList (p ++ ⟨#[112]⟩).data.toList) (trim_pre hp) hn (by omega) (by omega)
 omega
end Go.Cold
namespace Go.Proofs.YtomcebcaendilaaGreatDoor
open Go.RowKit Go.Cold
def ifaceW (ev : Value) : Prop := ev = .nilIface ∨ ∃ te pe, ev = .iface te pe
/-- The variables that the library's Atoi reads. -/
def OkA (w : World) : Prop := (∃ ev, w.cell? ⟨1, 0, none⟩ = some ev ∧ ifaceW ev) ∧ (∃ ev, w.cell? ⟨2, 0, none⟩ = some ev ∧ ifaceW ev)
theorem OkA.lt {w : World} (h : OkA w) : 1 < w.heap.size ∧ 2 < w.heap.size := by
 obtain ⟨⟨e1, h1, _⟩, ⟨e2, h2, _⟩⟩ := h
 exact ⟨block_lt_of_cell h1, block_lt_of_cell h2⟩
theorem OkA.next {w w' : World} (h : OkA w) (hb : Below w.heap.size w w') : OkA w' := by
 obtain ⟨l1, l2⟩ := h.lt
 obtain ⟨⟨e1, h1, q1⟩, ⟨e2, h2, q2⟩⟩ := h
 exact ⟨⟨e1, (hb.cell (p := ⟨_, 0, none⟩) (by exact l1)).trans h1, q1⟩, ⟨e2, (hb.cell (p := ⟨_, 0, none⟩) (by exact l2)).trans h2, q2⟩⟩
def AtoiQ (t : ByteArray) (w : World) (e : Ending) (w' : World) : Prop := Below w.heap.size w w' ∧ ∃ n ev, e = .returned (.tuple #[.int .i64 n, ev]) ∧ okI n ∧
 ((Lib.atoiAll t.data.toList = .ok n ∧ ev = .nilIface) ∨ ((∀ m, Lib.atoiAll t.data.toList ≠ .ok m) ∧ ∃ te pe, ev = .iface te pe))
theorem AtoiW_any (t : ByteArray) (w : World) (hok : OkA w) (ht : t.size ≤ 281474976710656) : Calls Tryz.prog 81 #[.string t] w (AtoiQ t w) := by
 cases h : Lib.atoiAll t.data.toList
 ·
  rename_i n
  refine (Tryz.strconv_Atoi_ok t (by omega) n h w).mono ?_
  rintro e w' ⟨rfl, hw⟩
  refine ⟨?_, n, .nilIface, rfl, Lib.atoiAll_bounds h, .inl ⟨h, rfl⟩⟩
  rcases hw with rfl | ⟨u, rfl⟩
  · exact Below.refl _ _
  · exact Lib.bytesWorld_below _ _ _
 ·
  obtain ⟨⟨ev, h1, h2⟩, _⟩ := hok
  refine (Any.strconv_Atoi_syntax Tryz.laysC172 t (by omega) h ev w h1 h2).mono ?_
  rintro e w' ⟨N, rfl, _, _, hb⟩
  exact ⟨hb, 0, _, rfl, by unfold okI; omega, .inr ⟨fun n hn => (by rw [h] at hn; cases hn), _, _, rfl⟩⟩
 ·
  obtain ⟨_, ⟨ev, h1, h2⟩⟩ := hok
  refine (Any.strconv_Atoi_range Tryz.laysC172 t (by omega) h ev w h1 h2).mono ?_
  rintro e w' ⟨N, rfl, _, _, hb⟩
  exact ⟨hb, _, _, rfl, by unfold okI Lib.atoiSat; split <;> omega, .inr ⟨fun n hn => (by rw [h] at hn; cases hn), _, _, rfl⟩⟩
theorem ItoaS_any (k : Nat) (w : World) (hk : k ≤ 16) : Calls Tryz.prog 77 #[.int .i64 (k : Int)] w fun e w' => e = .returned (.string (itB k)) ∧ w' = w := by
 refine (Tryz.strconv_Itoa_small k (by omega) w).mono ?_
 rintro e w' ⟨rfl, rfl⟩
 exact ⟨by rw [itB_dec], rfl⟩
/-- The reference's Number. -/
theorem RNumber27_any (p o : ByteArray) (w : World) (hp : p.size ≤ maxLen - 10) : Calls Tryz.prog 45 #[.string p, .string o] w fun e w' => e = .returned (.int .i64 (numR p o : Int)) ∧ w' = w := by
 unfold maxLen at hp
 have HS := Lib.hid hp; clear hp
 go_enter Tryz.func45, Tryz.ntmps45
 go_wp2_with fail
 go_loop [5] (fun i => ∃ k : Nat, (1 ≤ k ∧ k ≤ 17) ∧ i = .int .i64 (k : Int) ∧ Hid (numR p o = numGo p o (17 - k) k)) (fun i => 17 - (intOf i).toNat)
 case atStart => exact ⟨1, by omega, rfl, rfl⟩
 case round =>
  obtain ⟨k, hk, rfl, HA⟩ := hrel
  by_cases hlt : k ≤ 16
  ·
   have i1 : (k : Int) ≤ 16 := by omega
   have hadd1 : ¬ 9223372036854775807 < p.size + 1 := by have := HS.out; omega
   go_wp2_with fail
   refine (ItoaS_any k _ hlt).mono ?_
   rintro e w1 ⟨rfl, rfl⟩
   obtain ⟨n, hn⟩ : ∃ n, 17 - k = n + 1 := ⟨16 - k, by omega⟩
   have h1 := HA.out
   rw [hn, numGo_step] at h1
   have hsz := itB_size hlt
   obtain ⟨z, hz⟩ : ∃ z, itB k = z := ⟨_, rfl⟩
   rw [show partS p k = (p ++ ⟨#[112]⟩) ++ z by unfold partS; rw [hz]] at h1
   rw [hz] at hsz ⊢
   have hadd2 : ¬ 9223372036854775807 < (p ++ ⟨#[112]⟩ : ByteArray).size + z.size := by
    have := HS.out
    rw [ByteArray.size_append]
    have h5 : (⟨#[112]⟩ : ByteArray).size = 1 := rfl
    omega
   by_cases heq : o = (p ++ ⟨#[112]⟩) ++ z
   ·
    rw [if_pos heq] at h1
    have p1 : (o.toList == ((p ++ ⟨#[112]⟩) ++ z).toList) = true := by rw [ba_beq]; exact decide_eq_true heq
    have H1 := Lib.hid h1; clear h1 heq hz hn
    go_wp2
    go_ret
    exact ⟨ret_int (by rw [H1.out]), rfl⟩
   ·
    rw [if_neg heq] at h1
    have p1 : (o.toList == ((p ++ ⟨#[112]⟩) ++ z).toList) = false := by rw [ba_beq]; exact decide_eq_false heq
    have H1 := Lib.hid (show numR p o = numGo p o (17 - (k + 1)) (k + 1) by rw [h1]; congr 1; omega); clear h1 heq hz hn
    go_wp2
    go_round
    case rel => exact ⟨k + 1, by omega, by go_num, H1⟩
    case measure => simp [intOf]; omega
  ·
   have hk2 : k = 17 := by omega
   have i1 : ¬ (k : Int) ≤ 16 := by omega
   have HR := Lib.hid (show numR p o = 0 by have := HA.out; rw [this, hk2]; rfl)
   go_wp2
   go_ret
   exact ⟨ret_int (by rw [HR.out]; rfl), rfl⟩
end Go.Proofs.YtomcebcaendilaaGreatDoor
namespace Go.Cold
open Go Go.RowKit
def flatL (xs : List ByteArray) : List UInt8 := xs.flatMap (fun x => 47 :: x.data.toList)
theorem flat_head (xs : List ByteArray) : flatL xs = [] ∨ ∃ r, flatL xs = 47 :: r := by
 cases xs with
 | nil => exact .inl rfl
 | cons x r => exact .inr ⟨_, rfl⟩
theorem name_cut : ∀ (x y r s : List UInt8), x.all (fun b => !(b == 47)) = true → y.all (fun b => !(b == 47)) = true → (s = [] ∨ ∃ t, s = 47 :: t) → ((x ++ 47 :: r).isPrefixOf (y ++ s) = (decide (x = y) && (47 :: r).isPrefixOf s))
 | [], [], r, s, _, _, _ => by simp
 | [], b :: y, r, s, _, hy, _ => by
  rw [List.all_cons, Bool.and_eq_true] at hy
  have hb : ¬ b = 47 := by simpa using hy.1
  have : (47 == b) = false := by simp; exact fun h => hb h.symm
  simp [List.isPrefixOf, this]
 | a :: x, [], r, s, hx, _, hs => by
  rw [List.all_cons, Bool.and_eq_true] at hx
  have ha : ¬ a = 47 := by simpa using hx.1
  rcases hs with rfl | ⟨t, rfl⟩
  · simp [List.isPrefixOf]
  · simp [List.isPrefixOf, ha]
 | a :: x, b :: y, r, s, hx, hy, hs => by
  rw [List.all_cons, Bool.and_eq_true] at hx hy
  have ih := name_cut x y r s hx.2 hy.2 hs
  simp only [List.cons_append, List.isPrefixOf, ih]
  by_cases hab : a = b
  · subst hab; simp
  · simp [hab]
theorem under_flat : ∀ (xs ys : List ByteArray), xs.all validB = true → ys.all validB = true → (flatL xs ++ [47]).isPrefixOf (flatL ys) = underL xs ys
 | [], [], _, _ => by decide
 | [], y :: ys, _, _ => by simp [flatL, underL, List.isPrefixOf]
 | x :: xs, [], _, _ => by simp [flatL, underL, List.isPrefixOf]
 | x :: xs, y :: ys, hx, hy => by
  rw [List.all_cons, Bool.and_eq_true] at hx hy
  have ih := under_flat xs ys hx.2 hy.2
  have e1 : flatL (x :: xs) ++ [47] = 47 :: (x.data.toList ++ (flatL xs ++ [47])) := by simp [flatL]
  have e2 : flatL (y :: ys) = 47 :: (y.data.toList ++ flatL ys) := by simp [flatL]
  obtain ⟨r, hr⟩ : ∃ r, flatL xs ++ [47] = 47 :: r := by
   rcases flat_head xs with h | ⟨r, h⟩
   · exact ⟨[], by rw [h]; rfl⟩
   · exact ⟨r ++ [47], by rw [h]; rfl⟩
  rw [e1, e2, hr]
  simp only [List.isPrefixOf, beq_self_eq_true, Bool.true_and]
  rw [name_cut _ _ _ _ (valid_slash hx.1) (valid_slash hy.1) (flat_head ys), ← hr, ih]
  unfold underL
  by_cases hxy : x = y
  · subst hxy; simp
  ·
   have : ¬ x.data.toList = y.data.toList := fun h => hxy (ba_ext h)
   simp [this, Ne.symm hxy, fun h : y = x => hxy h.symm]
theorem pathOf_is {a : ByteArray} {xs : List ByteArray} (h : pathOf a = some xs) : xs.all validB = true ∧ a.data.toList = flatL xs := by
 obtain ⟨h1, h2, h3⟩ := pathOf_some h
 have hn : xs ≠ [] := by
  intro e
  subst e
  have := splitOn_none 47
  unfold piecesL at h2
  cases hr : (restOf a).data.toList with
  | nil => rw [hr] at h2; simp [splitOn] at h2
  | cons b r =>
   rw [hr] at h2
   have hne : splitOn 47 (b :: r) ≠ [] := by
    rw [splitOn]
    split
    · simp
    · cases splitOn 47 r <;> simp
   exact hne (by simpa using h2.symm)
 have e := pathOf_inj h (pathOf_S hn h3)
 exact ⟨h3, by rw [e, pathS_data]; rfl⟩
theorem anc_same (a b : ByteArray) : underP a b = ancB a b := by
 unfold underP ancB
 cases ha : pathOf a with
 | none => simp
 | some xs =>
  cases hb : pathOf b with
  | none => simp
  | some ys =>
   obtain ⟨h1, h2⟩ := pathOf_is ha
   obtain ⟨h3, h4⟩ := pathOf_is hb
   have e : (a ++ ⟨#[47]⟩ : ByteArray).data.toList = flatL xs ++ [47] := by rw [← h2]; simp
   show underL xs ys = _
   rw [e, h4]
   unfold Lib.hasPrefix
   rw [under_flat xs ys h1 h3]
   simp
theorem under_none (a : ByteArray) : underP a a = false := by
 unfold underP
 cases pathOf a with
 | none => rfl
 | some xs => show underL xs xs = false; unfold underL; simp
end Go.Cold
