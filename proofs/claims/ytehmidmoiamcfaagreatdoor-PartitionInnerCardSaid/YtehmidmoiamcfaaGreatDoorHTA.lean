/-
  Plain, for chapter 31: names of partitions, what a disk wants, right partitions; the program's way and the reference's. No program is named here.
-/
import Derived.Test.YtehmidmoiamcfaaGreatDoorHD
import Derived.Test.YtehmidmoiamcfaaGreatDoorHA
import Derived.Test.YtehmidmoiamcfaaGreatDoorHSL
import Derived.Test.YtehmidmoiamcfaaGreatDoorHSH
import Derived.Lib.ItoaLen
import Derived.Test.YtehmidmoiamcfaaGreatDoorHSJ
import Derived.Test.YtehmidmoiamcfaaGreatDoorHSP
set_option linter.unusedSimpArgs false
set_option linter.unusedVariables false
namespace Go.Cold
open Go Go.RowKit
/-- The name of a partition with any number. -/
def ptName (o : ByteArray) (k : Int) : ByteArray := (o ++ ⟨#[112]⟩) ++ ⟨(Lib.itoa k).toArray⟩
/-- It is a name that may be. -/
def ptOk (o : ByteArray) (k : Int) : Bool := decide (1 ≤ k) && decide (k ≤ 16) && validB o && validB (ptName o k)
theorem ptName_part (o : ByteArray) (k : Nat) : ptName o (k : Int) = partS o k := rfl
/-- A device that is wanted. -/
structure Virt where
 par : ByteArray
 orig : ByteArray
 cont : ByteArray
 round : Int
deriving DecidableEq
/-- What a disk wants: its inner contents as texts, those whose names may be; k the first one's number. -/
def wantsGo (o origin : ByteArray) (round : Int) : Nat → List ByteArray → List Virt
 | _, [] => []
 | k, s :: r => (if ptOk o (k : Int) then [⟨origin, ptName o (k : Int), s, round⟩] else []) ++ wantsGo o origin round (k + 1) r
def wantsV (o origin : ByteArray) (round : Int) (inner : List ByteArray) : List Virt := wantsGo o origin round 1 inner
theorem wants_snoc (o origin : ByteArray) (round : Int) : ∀ (k : Nat) (l : List ByteArray) (s : ByteArray), wantsGo o origin round k (l ++ [s]) = wantsGo o origin round k l ++ (if ptOk o ((k + l.length : Nat) : Int) then [⟨origin, ptName o ((k + l.length : Nat) : Int), s, round⟩] else [])
 | k, [], s => by simp [wantsGo]
 | k, x :: r, s => by
  rw [List.cons_append, wantsGo, wants_snoc o origin round (k + 1) r s, wantsGo, List.append_assoc, List.length_cons]
  congr 2
  rw [show k + 1 + r.length = k + (r.length + 1) by omega]
theorem wants_take {o origin : ByteArray} {round : Int} {inner : List ByteArray} {k : Nat} {s : ByteArray} (h : inner[k]? = some s) : wantsV o origin round (inner.take (k + 1)) = wantsV o origin round (inner.take k) ++ (if ptOk o ((k + 1 : Nat) : Int) then [⟨origin, ptName o ((k + 1 : Nat) : Int), s, round⟩] else []) := by
 have hk := (List.getElem?_eq_some_iff.1 h).1
 unfold wantsV
 rw [List.take_add_one, h, show (some s).toList = [s] from rfl, wants_snoc, List.length_take, Nat.min_eq_left (by omega), Nat.add_comm 1 k]
theorem wants_len (o origin : ByteArray) (round : Int) : ∀ (k : Nat) (l : List ByteArray), (wantsGo o origin round k l).length ≤ l.length
 | _, [] => by simp [wantsGo]
 | k, s :: r => by
  have := wants_len o origin round (k + 1) r
  rw [wantsGo, List.length_append, List.length_cons]
  split <;> simp <;> omega
end Go.Cold
namespace Go.Cold
open Go Go.RowKit
def virtCells (v : Virt) : List Value := [.string v.par, .string v.orig, .string v.cont, .int .i64 v.round]
def virtOk (v : Virt) : Prop := v.par.size ≤ maxLen ∧ v.orig.size ≤ maxLen ∧ v.cont.size ≤ maxLen ∧ okI v.round
instance : RepS Virt where
 size := 4
 rd _ _ v cs := cs = virtCells v ∧ virtOk v
 len h := by rw [h.1]; rfl
 keep _ h := h
 more _ h := h
 rdS _ _ v cs := cs = virtCells v ∧ virtOk v
 pos := by show 0 < 4; omega
 lenS h := by rw [h.1]; rfl
 one h u hu := by rw [h.1] at hu; simp [virtCells] at hu; rcases hu with rfl | rfl | rfl | rfl <;> rfl
 mono _ _ h := h
 rd_iff := Iff.rfl
theorem Sl.virt {w : World} {B c : Nat} {A : Option Addr} {xs : List Virt} (h : Sl w B A c xs) {i : Nat} (hi : i < xs.length) :
  ∃ b o, A = some ⟨b, o, none⟩ ∧ b < B ∧ virtOk xs[i] ∧ w.cell? ⟨b, o + i * 4, none⟩ = some (.string xs[i].par) ∧ w.cell? ⟨b, o + i * 4 + 1, none⟩ = some (.string xs[i].orig) ∧ w.cell? ⟨b, o + i * 4 + 2, none⟩ = some (.string xs[i].cont) ∧ w.cell? ⟨b, o + i * 4 + 3, none⟩ = some (.int .i64 xs[i].round) := by
 obtain ⟨b, o, e, hlt, cs, hr, hc⟩ := h.at_ hi
 obtain ⟨rfl, h1⟩ := hr
 refine ⟨b, o, e, hlt, h1, ?_, ?_, ?_, ?_⟩
 · have h3 := hc 0 _ rfl; rw [Nat.add_zero] at h3; exact h3
 · have := hc 1 _ rfl; rw [← Nat.add_assoc] at this; exact this
 · have := hc 2 _ rfl; rw [← Nat.add_assoc] at this; exact this
 · have := hc 3 _ rfl; rw [← Nat.add_assoc] at this; exact this
end Go.Cold
namespace Go.Cold
open Go Go.RowKit
/-- The number of a partition is read from its name. -/
theorem num_name {o : ByteArray} {k : Int} (h : ptOk o k = true) : (numR o (ptName o k) : Int) = k := by
 have h2 := h
 unfold ptOk at h2
 simp only [Bool.and_eq_true, decide_eq_true_eq] at h2
 obtain ⟨j, rfl⟩ : ∃ j : Nat, k = j := ⟨k.toNat, by omega⟩
 have : numR o (partS o j) = j := numGo_some (by omega) (by omega) (by omega) rfl
 rw [ptName_part, this]
/-- A name with a number is that of the partition. -/
theorem name_num {o x : ByteArray} (h : numR o x ≠ 0) : ptName o (numR o x : Int) = x ∧ 1 ≤ numR o x ∧ numR o x ≤ 16 := by
 rcases numR_cases o x with ⟨h0, -⟩ | ⟨h1, h2, h3⟩
 · exact absurd h0 h
 · exact ⟨by rw [ptName_part]; exact h3.symm, h1, h2⟩
/-- All of them are wanted where all names may be. -/
theorem wants_full {o origin : ByteArray} {round : Int} : ∀ {k : Nat} {l : List ByteArray}, (∀ j : Nat, k ≤ j → j < k + l.length → ptOk o (j : Int) = true) → (wantsGo o origin round k l).length = l.length ∧ ∀ (i : Nat) (s : ByteArray), l[i]? = some s → (wantsGo o origin round k l)[i]? = some ⟨origin, ptName o ((k + i : Nat) : Int), s, round⟩
 | k, [], _ => ⟨rfl, fun i s h => by simp at h⟩
 | k, x :: r, h => by
  obtain ⟨h1, h2⟩ := wants_full (o := o) (origin := origin) (round := round) (k := k + 1) (l := r) fun j a b => h j (by omega) (by rw [List.length_cons]; omega)
  have hk := h k (Nat.le_refl _) (by rw [List.length_cons]; omega)
  rw [wantsGo, if_pos hk]
  refine ⟨by simp [h1], fun i s hi => ?_⟩
  cases i with
  | zero => simp at hi; subst hi; simp
  | succ i =>
   rw [List.getElem?_cons_succ] at hi
   rw [List.singleton_append, List.getElem?_cons_succ, h2 i s hi, show k + 1 + i = k + (i + 1) by omega]
def sdaB : ByteArray := ⟨#[115, 100, 97]⟩
theorem sda_ok (j : Nat) (h1 : 1 ≤ j) (h2 : j ≤ 16) : ptOk sdaB (j : Int) = true := by
 have : ∀ j : Nat, j < 17 → 1 ≤ j → ptOk sdaB (j : Int) = true := by decide +kernel
 exact this j (by omega) h1
end Go.Cold
namespace Go.Cold
open Go Go.RowKit
/-- What gather.Read returns of a text, if anything: its content, if it is of the kind. -/
noncomputable def readG (s : ByteArray) (k : Int) : Option Cont := match parseC s with
 | some c => if c.kind = k then some c else none
 | none => none
theorem textL_map : ∀ xs : List Cont, textL xs = xs.map textC
 | [] => by rw [textL]; rfl
 | x :: xs => by rw [textL, textL_map xs, List.map_cons]
theorem comma_mem : ∀ {xs : List ByteArray} {x : ByteArray}, x ∈ xs → x.data.toList.length ≤ (commaB xs).data.toList.length
 | [], x, h => by cases h
 | [y], x, h => by
  rw [List.mem_singleton] at h
  subst h
  rw [comma_one]; exact Nat.le_refl _
 | y :: z :: r, x, h => by
  rw [comma_two, List.length_append, List.length_cons]
  rcases List.mem_cons.1 h with rfl | h
  · omega
  ·
   have := comma_mem h
   omega
/-- The text of an inner content is shorter. -/
theorem text_inner {c x : Cont} (hc : AllOk c) (hx : x ∈ c.inner) : (textC x).size < (textC c).size := by
 obtain ⟨k, i, l, s, t, e, xs⟩ := c
 have hx : x ∈ xs := hx
 have hm : (textC x).data.toList.length ≤ (commaB (textL xs)).data.toList.length := comma_mem (by rw [textL_map]; exact List.mem_map_of_mem hx)
 have ho := (AllOk_mk.1 hc).1
 have h0 := kind_of_inner hc hx
 have hne : xs.length ≠ 0 := fun h => by rw [List.length_eq_zero_iff.1 h] at hx; cases hx
 simp only [ownB] at ho
 rw [if_neg h0] at ho
 simp only [Bool.and_eq_true] at ho
 replace ho := ho.2
 have h1 : k ≠ 1 := by rintro rfl; simp at ho; exact hne (by rw [ho.2.2]; rfl)
 rw [← ba_size, ← ba_size]
 rw [if_neg h1] at ho
 obtain ⟨X, hX⟩ : ∃ X, textC x = X := ⟨_, rfl⟩
 rw [hX] at hm ⊢
 rw [ba_size, ba_size] at hm
 rw [textC, if_neg h1]
 by_cases h2 : k = 2
 · rw [if_pos h2]; simp only [app_data, List.length_append]; simp; omega
 rw [if_neg h2] at ho ⊢
 by_cases h3 : k = 3
 · rw [if_pos h3]; simp only [app_data, List.length_append]; simp; omega
 rw [if_neg h3] at ho ⊢
 by_cases h4 : k = 4
 · rw [if_pos h4]; simp only [app_data, List.length_append]; simp; omega
 rw [if_neg h4] at ho ⊢
 by_cases h5 : k = 5
 · rw [if_pos h5]; simp only [app_data, List.length_append]; simp; omega
 rw [if_neg h5] at ho
 simp at ho
theorem depth_inner {c x : Cont} (hc : AllOk c) (hx : x ∈ c.inner) : depthC x < depthC c := by
 obtain ⟨k, i, l, s, t, e, xs⟩ := c
 have hx : x ∈ xs := hx
 have := depthL_mem hx
 rw [depthC, if_neg (kind_of_inner hc hx)]
 omega
/-- An inner content of what was parsed: its text is parsed as itself. -/
theorem inner_parse {s : ByteArray} {c x : Cont} (h : parseC s = some c) (hx : x ∈ c.inner) : parseC (textC x) = some x ∧ depthC x < depthC c ∧ (textC x).size < s.size := by
 obtain ⟨h1, h2, h3, h4⟩ := AllOk_parse h
 have ht := text_parse h
 have hd := depth_inner h1 hx
 have hs := text_inner h1 hx
 rw [ht] at hs
 have hxo : AllOk x := by
  obtain ⟨k, i, l, s', t, e, xs⟩ := c
  exact (AllOk_mk.1 h1).2 x hx
 exact ⟨parse_text (bad_of hxo (by omega)) (by omega), hd, hs⟩
theorem inner_len {s : ByteArray} {c : Cont} (h : parseC s = some c) : c.inner.length ≤ 16 := by
 obtain ⟨h1, -, -, -⟩ := AllOk_parse h
 obtain ⟨k, i, l, s', t, e, xs⟩ := c
 have ho := (AllOk_mk.1 h1).1
 show xs.length ≤ 16
 simp only [ownB] at ho
 by_cases h0 : k = 0
 · simp [h0] at ho; simp [ho]
 by_cases k1 : k = 1
 · simp [k1] at ho; simp [ho]
 by_cases k2 : k = 2
 · simp [k2] at ho; omega
 by_cases k3 : k = 3
 · simp [k3] at ho; omega
 by_cases k4 : k = 4
 · simp [k4, c7withinB] at ho; omega
 by_cases k5 : k = 5
 · simp [k5, c7withinB] at ho; omega
 simp [h0, k1, k2, k3, k4, k5] at ho
end Go.Cold
namespace Go.Cold
open Go Go.RowKit
theorem itoa_size {k : Int} (hk : okI k) : (⟨(Lib.itoa k).toArray⟩ : ByteArray).size ≤ 21 := by
 have := Lib.itoa_length_le k hk.1 hk.2
 rw [← ba_size]; simpa using this
theorem ptName_size {o : ByteArray} {k : Int} (hk : okI k) : (ptName o k).size ≤ o.size + 22 := by
 have := itoa_size hk
 unfold ptName
 rw [ByteArray.size_append, ByteArray.size_append]
 have h5 : (⟨#[112]⟩ : ByteArray).size = 1 := rfl
 omega
/-- What Name returns. -/
def ptStr (o : ByteArray) (k : Int) : ByteArray := if ptOk o k then ptName o k else ByteArray.empty
def ptErr (o : ByteArray) (k : Int) : Int := if ptOk o k then 0 else 310
theorem ptNo {o : ByteArray} {k : Int} (h : ptOk o k = false) : ptStr o k = ByteArray.empty ∧ ptErr o k = 310 := by unfold ptStr ptErr; rw [h]; exact ⟨rfl, rfl⟩
theorem ptYes {o : ByteArray} {k : Int} (h : ptOk o k = true) : ptStr o k = ptName o k ∧ ptErr o k = 0 := by unfold ptStr ptErr; rw [h]; exact ⟨rfl, rfl⟩
end Go.Cold
namespace Go.Proofs.YtehmidmoiamcfaaGreatDoor
open Go.RowKit Go.Cold
theorem ret_name {o : ByteArray} {k : Int} {a : ByteArray} {n : Int} (h : ptStr o k = a ∧ ptErr o k = n) : Ending.returned (.tuple #[.string a, .int .i64 n]) = .returned (.tuple #[.string (ptStr o k), .int .i64 (ptErr o k)]) := by rw [h.1, h.2]
/-- The program's Name. -/
theorem PName_any (o : ByteArray) (k : Int) (w : World) (hok : Ok7 w) (hk : okI k) (ho : o.size ≤ maxLen - 30) : Calls Tryz.prog 12 #[.string o, .int .i64 k] w fun e w' => e = .returned (.tuple #[.string (ptStr o k), .int .i64 (ptErr o k)]) ∧ Below w.heap.size w w' := by
 unfold maxLen at ho
 have h22 := ptName_size (o := o) hk
 have hz := itoa_size hk
 have HOK := Lib.hid hok; clear hok
 have hadd1 : ¬ 9223372036854775807 < o.size + 1 := by omega
 go_enter Tryz.func12, Tryz.ntmps12
 go_wp2_with fail
 refine (Itoa_any k _ HOK.out hk).mono ?_
 rintro e w1 ⟨rfl, hb1⟩
 have hadd2 : ¬ 9223372036854775807 < (o ++ ⟨#[112]⟩ : ByteArray).size + (⟨(Lib.itoa k).toArray⟩ : ByteArray).size := by
  rw [ByteArray.size_append]
  have h5 : (⟨#[112]⟩ : ByteArray).size = 1 := rfl
  omega
 obtain ⟨s, hs⟩ : ∃ s, ptName o k = s := ⟨_, rfl⟩
 have hs2 : (o ++ ⟨#[112]⟩ : ByteArray) ++ ⟨(Lib.itoa k).toArray⟩ = s := hs
 have ho1 : o.size ≤ maxLen := by unfold maxLen; omega
 have hs1 : s.size ≤ maxLen := by rw [← hs]; unfold maxLen; omega
 have hpt : ptOk o k = (decide (1 ≤ k) && decide (k ≤ 16) && validB o && validB s) := by unfold ptOk; rw [hs]
 rw [hs] at h22
 have HS2 := Lib.hid hs2; have HPT := Lib.hid hpt; have HO1 := Lib.hid ho1; have HS1 := Lib.hid hs1; have HB1 := Lib.hid hb1; have HPN := Lib.hid hs
 clear h22 hpt hs hs1 ho1 hb1 hz ho
 by_cases c1 : k < 1
 ·
  have HN := Lib.hid (ptNo (o := o) (k := k) (by rw [HPT.out]; simp; omega))
  go_wp2
  go_ret2
  exact ⟨ret_name HN.out, HB1.out⟩
 by_cases c2 : 16 < k
 ·
  have HN := Lib.hid (ptNo (o := o) (k := k) (by rw [HPT.out]; simp; omega))
  go_wp2
  go_ret2
  exact ⟨ret_name HN.out, HB1.out⟩
 have c1' : ¬ k < 1 := c1
 have c2' : ¬ k > 16 := c2
 go_wp2_with fail
 refine (Valid_any o _ HO1.out).mono ?_
 rintro e w2 ⟨rfl, hb2⟩
 have HB2 := Lib.hid (HB1.out.trans (hb2.mono HB1.out.size)); clear hb2
 obtain ⟨q, hq⟩ : ∃ q, validB o = q := ⟨_, rfl⟩
 rw [hq]
 have HQ := Lib.hid hq; clear hq
 cases q
 ·
  have HN := Lib.hid (ptNo (o := o) (k := k) (by rw [HPT.out, HQ.out]; simp))
  go_wp2
  go_ret2
  exact ⟨ret_name HN.out, HB2.out⟩
 try rw [hs2]
 go_wp2_with fail
 try rw [HS2.out]
 refine (Valid_any s _ HS1.out).mono ?_
 rintro e w3 ⟨rfl, hb3⟩
 have HB3 := Lib.hid (HB2.out.trans (hb3.mono HB2.out.size)); clear hb3
 obtain ⟨r, hr⟩ : ∃ r, validB s = r := ⟨_, rfl⟩
 rw [hr]
 have HR := Lib.hid hr; clear hr
 cases r
 ·
  have HN := Lib.hid (ptNo (o := o) (k := k) (by rw [HPT.out, HQ.out, HR.out]; simp))
  go_wp2
  go_ret2
  exact ⟨ret_name HN.out, HB3.out⟩
 ·
  have HN := Lib.hid (show ptStr o k = s ∧ ptErr o k = 0 by have h := ptYes (o := o) (k := k) (by rw [HPT.out, HQ.out, HR.out]; simp; omega); rw [HPN.out] at h; exact h)
  go_wp2
  go_ret2
  exact ⟨ret_name HN.out, HB3.out⟩
/-- The reference's Name. -/
theorem RName31_any (o : ByteArray) (k : Int) (w : World) (hok : Ok7 w) (hk : okI k) (ho : o.size ≤ maxLen - 30) : Calls Tryz.prog 13 #[.string o, .int .i64 k] w fun e w' => e = .returned (.tuple #[.string (ptStr o k), .int .i64 (ptErr o k)]) ∧ Below w.heap.size w w' := by
 unfold maxLen at ho
 have h22 := ptName_size (o := o) hk
 have hz := itoa_size hk
 have HOK := Lib.hid hok; clear hok
 have hadd1 : ¬ 9223372036854775807 < o.size + 1 := by omega
 go_enter Tryz.func13, Tryz.ntmps13
 go_wp2_with fail
 refine (Itoa_any k _ HOK.out hk).mono ?_
 rintro e w1 ⟨rfl, hb1⟩
 have hadd2 : ¬ 9223372036854775807 < (o ++ ⟨#[112]⟩ : ByteArray).size + (⟨(Lib.itoa k).toArray⟩ : ByteArray).size := by
  rw [ByteArray.size_append]
  have h5 : (⟨#[112]⟩ : ByteArray).size = 1 := rfl
  omega
 obtain ⟨s, hs⟩ : ∃ s, ptName o k = s := ⟨_, rfl⟩
 have hs2 : (o ++ ⟨#[112]⟩ : ByteArray) ++ ⟨(Lib.itoa k).toArray⟩ = s := hs
 have ho1 : o.size ≤ maxLen := by unfold maxLen; omega
 have hs1 : s.size ≤ maxLen := by rw [← hs]; unfold maxLen; omega
 have hpt : ptOk o k = (decide (1 ≤ k) && decide (k ≤ 16) && validB o && validB s) := by unfold ptOk; rw [hs]
 rw [hs] at h22
 have HS2 := Lib.hid hs2; have HPT := Lib.hid hpt; have HO1 := Lib.hid ho1; have HS1 := Lib.hid hs1; have HB1 := Lib.hid hb1; have HPN := Lib.hid hs
 clear h22 hpt hs hs1 ho1 hb1 hz ho
 go_wp2_with fail
 refine (RValid_any o _ HO1.out).mono ?_
 rintro e w2 ⟨rfl, rfl⟩
 obtain ⟨q, hq⟩ : ∃ q, validB o = q := ⟨_, rfl⟩
 rw [hq]
 have HQ := Lib.hid hq; clear hq
 cases q
 ·
  have HN := Lib.hid (ptNo (o := o) (k := k) (by rw [HPT.out, HQ.out]; simp))
  go_wp2
  go_ret2
  exact ⟨ret_name HN.out, HB1.out⟩
 by_cases c1 : k < 1
 ·
  have HN := Lib.hid (ptNo (o := o) (k := k) (by rw [HPT.out]; simp; omega))
  go_wp2
  go_ret2
  exact ⟨ret_name HN.out, HB1.out⟩
 by_cases c2 : 16 < k
 ·
  have HN := Lib.hid (ptNo (o := o) (k := k) (by rw [HPT.out]; simp; omega))
  go_wp2
  go_ret2
  exact ⟨ret_name HN.out, HB1.out⟩
 have c1' : ¬ k < 1 := c1
 have c2' : ¬ k > 16 := c2
 go_wp2_with fail
 try rw [HS2.out]
 refine (RValid_any s _ HS1.out).mono ?_
 rintro e w3 ⟨rfl, rfl⟩
 obtain ⟨r, hr⟩ : ∃ r, validB s = r := ⟨_, rfl⟩
 rw [hr]
 have HR := Lib.hid hr; clear hr
 cases r
 ·
  have HN := Lib.hid (ptNo (o := o) (k := k) (by rw [HPT.out, HQ.out, HR.out]; simp))
  go_wp2
  go_ret2
  exact ⟨ret_name HN.out, HB1.out⟩
 ·
  have HN := Lib.hid (show ptStr o k = s ∧ ptErr o k = 0 by have h := ptYes (o := o) (k := k) (by rw [HPT.out, HQ.out, HR.out]; simp; omega); rw [HPN.out] at h; exact h)
  go_wp2
  go_ret2
  exact ⟨ret_name HN.out, HB1.out⟩
end Go.Proofs.YtehmidmoiamcfaaGreatDoor
namespace Go.Cold
open Go Go.RowKit
/-- The value of an attribute, if there is one. -/
def getA : List Attr → ByteArray → Option ByteArray
 | [], _ => none
 | a :: l, n => if a.name = n then some a.value else getA l n
theorem getA_yes {xs : List Attr} {n : ByteArray} {k : Nat} {y : Attr} (hlt : k < xs.length) (hy : xs[k] = y) (h : y.name = n) : getA (xs.drop k) n = some y.value := by
 rw [List.drop_eq_getElem_cons hlt, hy, getA, if_pos h]
theorem getA_no {xs : List Attr} {n : ByteArray} {k : Nat} {y : Attr} (hlt : k < xs.length) (hy : xs[k] = y) (h : y.name ≠ n) : getA (xs.drop k) n = getA (xs.drop (k + 1)) n := by
 rw [List.drop_eq_getElem_cons hlt, hy, getA, if_neg h]
theorem getA_size {xs : List Attr} {n : ByteArray} {m : Nat} (h : ∀ a ∈ xs, a.value.size ≤ m) : ((getA xs n).getD ByteArray.empty).size ≤ m := by
 induction xs with
 | nil => show (0 : Nat) ≤ m; omega
 | cons a l ih =>
  rw [getA]
  split
  · exact h a List.mem_cons_self
  · exact ih fun b hb => h b (List.mem_cons_of_mem _ hb)
theorem ret_get {o : Option ByteArray} {s : ByteArray} {b : Bool} (h : o.getD ByteArray.empty = s ∧ o.isSome = b) : Ending.returned (.tuple #[.string s, .bool b]) = .returned (.tuple #[.string (o.getD ByteArray.empty), .bool o.isSome]) := by rw [h.1, h.2]
end Go.Cold
namespace Go.Proofs.YtehmidmoiamcfaaGreatDoor
open Go.RowKit Go.Cold
/-- partition.Number. -/
theorem PNumber_any (p o : ByteArray) (w : World) (hp : p.size ≤ maxLen - 30) : Calls Tryz.prog 14 #[.string p, .string o] w fun e w' => e = .returned (.tuple #[.int .i64 (numR p o : Int), .bool (decide (numR p o ≠ 0))]) ∧ w' = w := by
 unfold maxLen at hp
 have HS := Lib.hid hp; clear hp
 go_enter Tryz.func14, Tryz.ntmps14
 go_wp2_with fail
 go_loop [7] (fun i => ∃ k : Nat, k ≤ 16 ∧ i = .int .i64 (k : Int) ∧ Hid (numR p o = numGo p o (16 - k) (k + 1))) (fun i => 16 - (intOf i).toNat)
 case atStart => exact ⟨0, by omega, rfl, rfl⟩
 case round =>
  obtain ⟨k, hk, rfl, HA⟩ := hrel
  by_cases hlt : k < 16
  ·
   have i1 : (k : Int) < 16 := by omega
   have hwr : wrap64 ((k : Int) + 1) = ((k + 1 : Nat) : Int) := by unfold wrap64; omega
   have hwr' : IntKind.i64.wrap ((k : Int) + 1) = ((k + 1 : Nat) : Int) := by rw [IntKind.wrap_i64]; omega
   have hadd1 : ¬ 9223372036854775807 < p.size + 1 := by have := HS.out; omega
   go_wp2_with fail
   refine (ItoaS_any (k + 1) _ (by omega)).mono ?_
   rintro e w1 ⟨rfl, rfl⟩
   obtain ⟨n, hn⟩ : ∃ n, 16 - k = n + 1 := ⟨15 - k, by omega⟩
   have h1 := HA.out
   rw [hn, numGo_step] at h1
   have hsz := itB_size (show k + 1 ≤ 16 by omega)
   obtain ⟨z, hz⟩ : ∃ z, itB (k + 1) = z := ⟨_, rfl⟩
   rw [show partS p (k + 1) = (p ++ ⟨#[112]⟩) ++ z by unfold partS; rw [hz]] at h1
   rw [hz] at hsz ⊢
   have hadd2 : ¬ 9223372036854775807 < (p ++ ⟨#[112]⟩ : ByteArray).size + z.size := by
    have := HS.out
    rw [ByteArray.size_append]
    have h5 : (⟨#[112]⟩ : ByteArray).size = 1 := rfl
    omega
   by_cases heq : o = (p ++ ⟨#[112]⟩) ++ z
   ·
    rw [if_pos heq] at h1
    have p1 : (o.toList == ((p ++ ⟨#[112]⟩) ++ z).toList) = true := by rw [ba_beq]; exact decide_eq_true heq
    have H1 := Lib.hid h1; clear h1 heq hz hn
    go_wp2
    go_ret2
    exact ⟨by rw [H1.out, decide_eq_true (Nat.succ_ne_zero k)]; rfl, rfl⟩
   ·
    rw [if_neg heq] at h1
    have p1 : (o.toList == ((p ++ ⟨#[112]⟩) ++ z).toList) = false := by rw [ba_beq]; exact decide_eq_false heq
    have H1 := Lib.hid (show numR p o = numGo p o (16 - (k + 1)) (k + 1 + 1) by rw [h1]; congr 1; omega); clear h1 heq hz hn
    go_wp2
    go_round
    case rel => exact ⟨k + 1, by omega, by go_num, H1⟩
    case measure => simp [intOf]; omega
  ·
   have hk2 : k = 16 := by omega
   have i1 : ¬ (k : Int) < 16 := by omega
   have HR := Lib.hid (show numR p o = 0 by have := HA.out; rw [this, hk2]; rfl)
   go_wp2
   go_ret2
   exact ⟨by rw [HR.out]; rfl, rfl⟩
/-- The reference's Number of a partition. -/
theorem RNumber31_any (p o : ByteArray) (w : World) (hp : p.size ≤ maxLen - 30) : Calls Tryz.prog 15 #[.string p, .string o] w fun e w' => e = .returned (.tuple #[.int .i64 (numR p o : Int), .bool (decide (numR p o ≠ 0))]) ∧ w' = w := by
 go_enter Tryz.func15, Tryz.ntmps15
 go_wp2_with fail
 refine (RNumber27_any p o _ (by unfold maxLen at *; omega)).mono ?_
 rintro e w1 ⟨rfl, rfl⟩
 obtain ⟨z, hz⟩ : ∃ z, numR p o = z := ⟨_, rfl⟩
 rw [hz]
 have HD := Lib.hid (show decide (numR p o ≠ 0) = decide (0 < z) by rw [hz]; by_cases h : z = 0 <;> simp [h]; omega)
 have HZ := Lib.hid hz; clear hz
 go_wp2
 go_ret2
 exact ⟨by rw [HD.out, HZ.out]; rfl, rfl⟩
/-- device.Get. -/
theorem Get_any (A : Option Addr) (c : Nat) (xs : List Attr) (n : ByteArray) (w : World) (B : Nat) (hB : B ≤ w.heap.size) (hx : Sl w B A c xs) :
  Calls Tryz.prog 41 #[.slice A xs.length c, .string n] w fun e w' => e = .returned (.tuple #[.string ((getA xs n).getD ByteArray.empty), .bool (getA xs n).isSome]) ∧ Below w.heap.size w w' := by
 have hx1 := hx.1; have hx2 := hx.2.1
 unfold maxLen at hx2
 have HX := Lib.hid hx; have HB := Lib.hid hB; have HL := Lib.hid hx2; clear hx hB
 go_enter Tryz.func41, Tryz.ntmps41
 go_wp2_with fail
 go_loopw [10] (fun i wr => ∃ k : Nat, k ≤ xs.length ∧ i = .int .i64 k ∧ Hid (Below w.heap.size w wr) ∧ Hid (getA xs n = getA (xs.drop k) n)) (fun i _ => xs.length - (intOf i).toNat)
 case atStart => exact ⟨0, Nat.zero_le _, rfl, Below.refl _ _, rfl⟩
 case round =>
  obtain ⟨k, hk, rfl, HBR, HA⟩ := hrel
  by_cases hlt : k < xs.length
  ·
   have i1 : (k : Int) < (xs.length : Int) := by omega
   obtain ⟨b, o, rfl, hb, hsz, hc0, hc1⟩ := (HX.out.keep (HBR.out.mono HB.out)).attr hlt
   obtain ⟨y, hy⟩ : ∃ y, xs[k]'hlt = y := ⟨_, rfl⟩
   rw [hy] at hsz hc0 hc1
   have HY := Lib.hid hy; have HLT := Lib.hid hlt
   clear hy hsz hb
   go_upto_region 4 with fail
   obtain ⟨w1, hw1⟩ : ∃ w1, wr.alloc (.cells #[.string y.name, .string y.value] 63) = w1 := ⟨_, rfl⟩
   have hb1 : Below wr.heap.size wr w1 := by rw [← hw1]; exact (Below.refl _ _).alloc (Nat.le_refl _) _
   have hbx : BoxL w1 wr.heap.size [.string y.name, .string y.value] := box_mk hw1
   try rw [hw1]
   have t0 := hbx.1 0 _ rfl
   have t1 := hbx.1 1 _ rfl
   have HB1 := Lib.hid (HBR.out.trans (hb1.mono HBR.out.size))
   clear hw1 hb1 hbx hc0 hc1
   by_cases hn : y.name = n
   ·
    have p1 : (y.name.toList == n.toList) = true := by rw [ba_beq]; exact decide_eq_true hn
    have HG := Lib.hid (show getA xs n = some y.value by rw [HA.out]; exact getA_yes HLT.out HY.out hn)
    clear hn
    go_wp2
    go_ret2
    exact ⟨ret_get (by rw [HG.out]; exact ⟨rfl, rfl⟩), HB1.out⟩
   ·
    have p1 : (y.name.toList == n.toList) = false := by rw [ba_beq]; exact decide_eq_false hn
    have HG := Lib.hid (show getA xs n = getA (xs.drop (k + 1)) n by rw [HA.out]; exact getA_no HLT.out HY.out hn)
    clear hn
    go_wp2
    go_roundw
    case rel => exact ⟨k + 1, by omega, by go_num, HB1, HG⟩
    case measure => simp [intOf]; omega
  ·
   have hk2 : k = xs.length := by omega
   have HG := Lib.hid (show getA xs n = none by rw [HA.out, hk2, List.drop_length]; rfl)
   clear HA
   subst hk2
   go_wp2
   go_ret2
   exact ⟨ret_get (by rw [HG.out]; exact ⟨rfl, rfl⟩), HBR.out⟩
/-- The reference's Get. -/
theorem RGet_any (A : Option Addr) (c : Nat) (xs : List Attr) (n : ByteArray) (w : World) (B : Nat) (hB : B ≤ w.heap.size) (hx : Sl w B A c xs) :
  Calls Tryz.prog 82 #[.slice A xs.length c, .string n] w fun e w' => e = .returned (.tuple #[.string ((getA xs n).getD ByteArray.empty), .bool (getA xs n).isSome]) ∧ w' = w := by
 have hx1 := hx.1; have hx2 := hx.2.1
 unfold maxLen at hx2
 have HX := Lib.hid hx; have HL := Lib.hid hx2; clear hx hB
 go_enter Tryz.func82, Tryz.ntmps82
 go_wp2_with fail
 go_loop [6] (fun i => ∃ k : Nat, k ≤ xs.length ∧ i = .int .i64 k ∧ Hid (getA xs n = getA (xs.drop k) n)) (fun i => xs.length - (intOf i).toNat)
 case atStart => exact ⟨0, Nat.zero_le _, rfl, rfl⟩
 case round =>
  obtain ⟨k, hk, rfl, HA⟩ := hrel
  by_cases hlt : k < xs.length
  ·
   have i1 : (k : Int) < (xs.length : Int) := by omega
   obtain ⟨b, o, rfl, hb, hsz, hc0, hc1⟩ := HX.out.attr hlt
   obtain ⟨y, hy⟩ : ∃ y, xs[k]'hlt = y := ⟨_, rfl⟩
   rw [hy] at hsz hc0 hc1
   have HY := Lib.hid hy; have HLT := Lib.hid hlt
   clear hy hsz hb
   by_cases hn : y.name = n
   ·
    have p1 : (y.name.toList == n.toList) = true := by rw [ba_beq]; exact decide_eq_true hn
    have HG := Lib.hid (show getA xs n = some y.value by rw [HA.out]; exact getA_yes HLT.out HY.out hn)
    clear hn
    go_wp2
    go_ret2
    exact ⟨ret_get (by rw [HG.out]; exact ⟨rfl, rfl⟩), rfl⟩
   ·
    have p1 : (y.name.toList == n.toList) = false := by rw [ba_beq]; exact decide_eq_false hn
    have HG := Lib.hid (show getA xs n = getA (xs.drop (k + 1)) n by rw [HA.out]; exact getA_no HLT.out HY.out hn)
    clear hn
    go_wp2
    go_round
    case rel => exact ⟨k + 1, by omega, by go_num, HG⟩
    case measure => simp [intOf]; omega
  ·
   have hk2 : k = xs.length := by omega
   have HG := Lib.hid (show getA xs n = none by rw [HA.out, hk2, List.drop_length]; rfl)
   clear HA
   subst hk2
   go_wp2
   go_ret2
   exact ⟨ret_get (by rw [HG.out]; exact ⟨rfl, rfl⟩), rfl⟩
def nmContent : ByteArray := ⟨#[99, 111, 110, 116, 101, 110, 116]⟩
/-- The content of a device, as a text. -/
def contD (d : Dev) : ByteArray := (getA d.attrs nmContent).getD ByteArray.empty
/-- The reference's Content. -/
theorem RContent_any (A : Option Addr) (c : Nat) (d : Dev) (w : World) (B : Nat) (hB : B ≤ w.heap.size) (hx : Sl w B A c d.attrs) :
  Calls Tryz.prog 46 #[.agg #[.int .i64 d.idx, .int .i64 d.par, .string d.nm, .string d.orig, .string d.sub, .string d.drv, .string d.ali, .int .i64 d.kind, .int .i64 d.num, .slice A d.attrs.length c]] w fun e w' => e = .returned (.string (contD d)) ∧ Below w.heap.size w w' := by
 have HX := Lib.hid hx; have HB := Lib.hid hB; clear hx hB
 go_enter Tryz.func46, Tryz.ntmps46
 go_upto_region 1 with fail
 obtain ⟨w1, hw1⟩ : ∃ w1, w.alloc (.cells #[.int .i64 d.idx, .int .i64 d.par, .string d.nm, .string d.orig, .string d.sub, .string d.drv, .string d.ali, .int .i64 d.kind, .int .i64 d.num, .slice A d.attrs.length c] 43) = w1 := ⟨_, rfl⟩
 have hb1 : Below w.heap.size w w1 := by rw [← hw1]; exact (Below.refl _ _).alloc (Nat.le_refl _) _
 have hbx : BoxL w1 w.heap.size [.int .i64 d.idx, .int .i64 d.par, .string d.nm, .string d.orig, .string d.sub, .string d.drv, .string d.ali, .int .i64 d.kind, .int .i64 d.num, .slice A d.attrs.length c] := box_mk hw1
 try rw [hw1]
 have t9 := hbx.1 9 _ rfl
 have HB1 := Lib.hid hb1
 clear hw1 hb1 hbx
 go_wp2_with fail
 refine (RGet_any A c d.attrs nmContent _ B (Nat.le_trans HB.out HB1.out.size) (HX.out.keep (HB1.out.mono HB.out))).mono ?_
 rintro e w2 ⟨rfl, rfl⟩
 have HC := Lib.hid (show (getA d.attrs nmContent).getD ByteArray.empty = contD d from rfl)
 obtain ⟨z, hz⟩ : ∃ z, (getA d.attrs nmContent).getD ByteArray.empty = z := ⟨_, rfl⟩
 obtain ⟨q, hq⟩ : ∃ z, (getA d.attrs nmContent).isSome = z := ⟨_, rfl⟩
 rw [hz] at HC
 rw [hz, hq]
 clear hz hq
 go_wp2
 go_ret
 exact ⟨by rw [HC.out]; rfl, HB1.out⟩
end Go.Proofs.YtehmidmoiamcfaaGreatDoor
namespace Go.Cold
open Go Go.RowKit
/-- The inner contents as texts that gather.Read returns. -/
noncomputable def innerG (s : ByteArray) (k : Int) : List ByteArray := match readG s k with
 | some c => textL c.inner
 | none => []
theorem innerG_some {s : ByteArray} {k : Int} {c : Cont} (h1 : parseC s = some c) (h2 : c.kind = k) : innerG s k = textL c.inner ∧ (readG s k).isSome = true := by
 unfold innerG readG
 rw [h1]
 simp [h2]
theorem innerG_kind {s : ByteArray} {k : Int} {c : Cont} (h1 : parseC s = some c) (h2 : c.kind ≠ k) : innerG s k = [] ∧ (readG s k).isSome = false := by
 unfold innerG readG
 rw [h1]
 simp [h2]
theorem innerG_none {s : ByteArray} {k : Int} (h1 : parseC s = none) : innerG s k = [] ∧ (readG s k).isSome = false := by
 unfold innerG readG
 rw [h1]
 exact ⟨rfl, rfl⟩
theorem textL_len (xs : List Cont) : (textL xs).length = xs.length := by rw [textL_map, List.length_map]
theorem textL_take (xs : List Cont) (k : Nat) (hk : k < xs.length) : (textL xs).take (k + 1) = (textL xs).take k ++ [textC xs[k]] := by
 rw [textL_map, List.take_succ_eq_append_getElem (by rw [List.length_map]; exact hk), List.getElem_map]
end Go.Cold
namespace Go.Proofs.YtehmidmoiamcfaaGreatDoor
open Go.RowKit Go.Cold
/-- What gather.Read answers. -/
def GReadPost (s : ByteArray) (kd : Int) (w : World) (e : Ending) (w' : World) : Prop := Below w.heap.size w w' ∧ ∃ (k : Int) (i l : ByteArray) (s2 t le : Int) (A3 : Option Addr) (n3 c3 : Nat) (A2 : Option Addr) (c2 : Nat),
 e = .returned (.tuple #[.agg #[.int .i64 k, .string i, .string l, .int .i64 s2, .int .i64 t, .int .i64 le, .slice A3 n3 c3], .slice A2 (innerG s kd).length c2, .bool (readG s kd).isSome]) ∧ SlS w' (fun x => w.heap.size ≤ x ∧ x < w'.heap.size) A2 c2 (innerG s kd) ∧ (innerG s kd).length ≤ 16
theorem below7 {W : World} {g B : Nat} {a : World} (h : Below B a W) (hg : B ≤ g) (v0 v1 v2 v3 v4 v5 v6 : Value) : Below B a (((((((W.setCell ⟨g, 0, none⟩ v0).setCell ⟨g, 1, none⟩ v1).setCell ⟨g, 2, none⟩ v2).setCell ⟨g, 3, none⟩ v3).setCell ⟨g, 4, none⟩ v4).setCell ⟨g, 5, none⟩ v5).setCell ⟨g, 6, none⟩ v6) :=
 ((((((h.setCell (by exact hg) _).setCell (by exact hg) _).setCell (by exact hg) _).setCell (by exact hg) _).setCell (by exact hg) _).setCell (by exact hg) _).setCell (by exact hg) _
theorem sls7 {α : Type} [RepS α] {W : World} {S : Nat → Prop} {A : Option Addr} {c g : Nat} {xs : List α} (h : SlS W S A c xs) (hg : ∀ x, S x → x ≠ g) (v0 v1 v2 v3 v4 v5 v6 : Value) : SlS (((((((W.setCell ⟨g, 0, none⟩ v0).setCell ⟨g, 1, none⟩ v1).setCell ⟨g, 2, none⟩ v2).setCell ⟨g, 3, none⟩ v3).setCell ⟨g, 4, none⟩ v4).setCell ⟨g, 5, none⟩ v5).setCell ⟨g, 6, none⟩ v6) S A c xs :=
 ((((((h.set_ hg v0).set_ hg v1).set_ hg v2).set_ hg v3).set_ hg v4).set_ hg v5).set_ hg v6
set_option maxHeartbeats 4000000 in
set_option maxRecDepth 100000 in
theorem Read_any (s : ByteArray) (kd : Int) (w : World) (hsz : s.size ≤ maxLen) (hok : Ok7 w) : Calls Tryz.prog 42 #[.string s, .int .i64 kd] w (GReadPost s kd w) := by
 have hzv := (zero_of_info (P := Tryz.prog) (t := 36) info_cont2).1
 have hcall := fun W (h : Below w.heap.size w W) => Parse_any s (fun h => IxOk_any _ (by omega)) W hsz (hok.below h)
 have HCALL := Lib.hid hcall; clear hcall hsz hok
 go_enter Tryz.func42, Tryz.ntmps42
 go_upto_region 1 with fail
 obtain ⟨w1, hw1⟩ : ∃ w1, w.alloc (.cells #[.int .i64 0, .string ByteArray.empty, .string ByteArray.empty, .int .i64 0, .int .i64 0, .int .i64 0, .slice none 0 0] 36) = w1 := ⟨_, rfl⟩
 have hb1 : Below w.heap.size w w1 := by rw [← hw1]; exact (Below.refl _ _).alloc (Nat.le_refl _) _
 have hr1 : BoxL w1 w.heap.size zeroL := box_mk hw1
 have HG1 := Lib.hid (show w1.heap.size = w.heap.size + 1 by rw [← hw1]; simp)
 try rw [hw1]
 have HB1 := Lib.hid hb1; have HR1 := Lib.hid hr1
 clear hw1 hb1 hr1
 go_wp2_with fail
 refine (HCALL.out w1 HB1.out).mono ?_
 rintro e w2 ⟨hb2, hor⟩
 have HB2 := Lib.hid (HB1.out.trans (hb2.mono HB1.out.size)); have HR2 := Lib.hid (HR1.out.kept (grown_none hb2) (fun e => by cases e)); have HG2 := Lib.hid hb2.size
 clear hb2
 rcases hor with ⟨C, cs, hC, rfl, hnew, hnod⟩ | ⟨hC, rfl⟩
 case inr =>
  have hne : ∃ y : Int, (if 256 < s.size then (71 : Int) else 70) = y ∧ (y != 0) = true ∧ ¬ y = 0 := by
   split
   · exact ⟨71, rfl, rfl, by omega⟩
   · exact ⟨70, rfl, rfl, by omega⟩
  obtain ⟨y, hy1, hy2, hy3⟩ := hne
  rw [hy1]
  unfold zeroA
  have HN := Lib.hid (innerG_none (k := kd) hC)
  clear hC hy1
  go_upto_region 2 with fail
  obtain ⟨w3, hw3⟩ : ∃ w3, w2.alloc (.cells #[.int .i64 0, .string ByteArray.empty, .string ByteArray.empty, .int .i64 0, .int .i64 0, .int .i64 0, .slice none 0 0] 36) = w3 := ⟨_, rfl⟩
  have hb3 : Below w2.heap.size w2 w3 := by rw [← hw3]; exact (Below.refl _ _).alloc (Nat.le_refl _) _
  try rw [hw3]
  have HB3 := Lib.hid (HB2.out.trans (hb3.mono HB2.out.size)); have HR3 := Lib.hid (HR2.out.kept (grown_none hb3) (fun e => by cases e))
  clear hw3 hb3
  have y0 := HR3.out.1 0 _ rfl; have y1 := HR3.out.1 1 _ rfl; have y2 := HR3.out.1 2 _ rfl; have y3 := HR3.out.1 3 _ rfl; have y4 := HR3.out.1 4 _ rfl; have y5 := HR3.out.1 5 _ rfl; have y6 := HR3.out.1 6 _ rfl; have yf := HR3.out.2.1
  go_wp2
  refine bodyPost_ret (v := .tuple #[.agg #[.int .i64 0, .string ByteArray.empty, .string ByteArray.empty, .int .i64 0, .int .i64 0, .int .i64 0, .slice none 0 0], .slice none 0 0, .bool false]) (by simp [results, Tryz.results42, go_sem, y0, y1, y2, y3, y4, y5, y6]) rfl ⟨below7 HB3.out (Nat.le_refl _) _ _ _ _ _ _ _, _, _, _, _, _, _, _, _, _, none, 0, by rw [HN.out.1, HN.out.2]; rfl, by rw [HN.out.1]; exact SlS.nil_, by rw [HN.out.1]; simp⟩
 obtain ⟨k, i, l, s2, t, le, xs⟩ := C
 obtain ⟨A5, c5, rfl⟩ := CRdS_cells hnew
 have hrd := hnew.crd
 obtain ⟨A6, c6, he6, hok6, hsl⟩ := CRd_iff.1 hrd
 simp only [contCells] at he6 ⊢
 obtain ⟨rfl, rfl⟩ : A5 = A6 ∧ c5 = c6 := by injection he6 with _ h; injection h with _ h; injection h with _ h; injection h with _ h; injection h with _ h; injection h with _ h; injection h with h _; injection h with h1 _ h2; exact ⟨h1, h2⟩
 clear he6 hok6 hrd hnew
 have hlen : xs.length ≤ 16 := inner_len hC
 have hnx : ∀ x ∈ xs, nodesC x ≤ 2 ^ 40 := fun x hx => by
  have h1 := nodesL_mem hx
  rw [nodesC] at hnod
  exact Nat.le_trans (by omega) (show 257 ≤ 2 ^ 40 by decide)
 have hkt : ∀ x ∈ xs, badC x = false ∧ (textC x).size ≤ 256 := fun x hx => by
  obtain ⟨h1, h2, h3⟩ := inner_parse hC (show x ∈ (Cont.mk k i l s2 t le xs).inner from hx)
  obtain ⟨q1, q2, q3, q4⟩ := AllOk_parse h1
  exact ⟨bad_of q1 q2, by have := text_parse h1; omega⟩
 have HSL := Lib.hid hsl; have HLEN := Lib.hid hlen; have HNX := Lib.hid hnx; have HKT := Lib.hid hkt; have HC := Lib.hid hC
 clear hsl hlen hnx hkt hC hnod
 go_upto_region 2 with fail
 obtain ⟨w3, hw3⟩ : ∃ w3, w2.alloc (.cells #[.int .i64 k, .string i, .string l, .int .i64 s2, .int .i64 t, .int .i64 le, .slice A5 xs.length c5] 36) = w3 := ⟨_, rfl⟩
 have hb3 : Below w2.heap.size w2 w3 := by rw [← hw3]; exact (Below.refl _ _).alloc (Nat.le_refl _) _
 have hx3 : BoxL w3 w2.heap.size [.int .i64 k, .string i, .string l, .int .i64 s2, .int .i64 t, .int .i64 le, .slice A5 xs.length c5] := box_mk hw3
 have HG3 := Lib.hid (show w3.heap.size = w2.heap.size + 1 by rw [← hw3]; simp)
 try rw [hw3]
 have HB3 := Lib.hid (HB2.out.trans (hb3.mono HB2.out.size)); have HR3 := Lib.hid (HR2.out.kept (grown_none hb3) (fun e => by cases e)); have HX3 := Lib.hid hx3
 have HSL3 := Lib.hid (HSL.out.keep hb3)
 clear hw3 hb3 hx3 HR2
 have y0 := HR3.out.1 0 _ rfl; have y1 := HR3.out.1 1 _ rfl; have y2 := HR3.out.1 2 _ rfl; have y3 := HR3.out.1 3 _ rfl; have y4 := HR3.out.1 4 _ rfl; have y5 := HR3.out.1 5 _ rfl; have y6 := HR3.out.1 6 _ rfl; have yf := HR3.out.2.1
 have d0 := HX3.out.1 0 _ rfl; have d1 := HX3.out.1 1 _ rfl; have d2 := HX3.out.1 2 _ rfl; have d3 := HX3.out.1 3 _ rfl; have d4 := HX3.out.1 4 _ rfl; have d5 := HX3.out.1 5 _ rfl; have d6 := HX3.out.1 6 _ rfl
 by_cases hk : k = kd
 case neg =>
  have p1 : (k != kd) = true := by simpa using hk
  have p2 : (k == kd) = false := by simpa using hk
  have HN := Lib.hid (innerG_kind (k := kd) HC.out hk)
  clear hk
  go_wp2
  refine bodyPost_ret (v := .tuple #[.agg #[.int .i64 0, .string ByteArray.empty, .string ByteArray.empty, .int .i64 0, .int .i64 0, .int .i64 0, .slice none 0 0], .slice none 0 0, .bool false]) (by simp [results, Tryz.results42, go_sem, y0, y1, y2, y3, y4, y5, y6]) rfl ⟨below7 HB3.out (Nat.le_refl _) _ _ _ _ _ _ _, _, _, _, _, _, _, _, _, _, none, 0, by rw [HN.out.1, HN.out.2]; rfl, by rw [HN.out.1]; exact SlS.nil_, by rw [HN.out.1]; simp⟩
 have p1 : (k != kd) = false := by simpa using hk
 have p2 : (k == kd) = true := by simpa using hk
 have HN := Lib.hid (innerG_some (k := kd) HC.out hk)
 have HTL := Lib.hid (textL_len xs)
 clear hk
 go_wp2_with fail
 clear p1 p2 y0 y1 y2 y3 y4 y5 y6 yf d0 d1 d2 d3 d4 d5 d6
 go_loopw [9, 31] (fun v i wr => ∃ j : Nat, j ≤ xs.length ∧ i = .int .i64 j ∧ Hid (OwnsS (fun _ => False) wr w3.heap.size 9 v ((textL xs).take j)) ∧ Hid (Below w3.heap.size w3 wr)) (fun _ i _ => xs.length - (intOf i).toNat)
 case atStart => exact ⟨0, Nat.zero_le _, rfl, OwnsS.nil_ _ _ _ _, Below.refl _ _⟩
 case round =>
  obtain ⟨j, hj, rfl, HOWN, HBR⟩ := hrel
  have hl16 : xs.length ≤ 16 := HLEN.out
  by_cases hlt : j < xs.length
  ·
   have i1 : (j : Int) < (xs.length : Int) := by omega
   obtain ⟨b3, o3, rfl, hb3, cs, hcs, hcells⟩ := ((HSL3.out.keep (HBR.out.mono (by have := HG3.out; omega)))).cont hlt
   have hxm := List.getElem_mem hlt
   have htk := textL_take xs j hlt
   obtain ⟨x, hx⟩ : ∃ x, xs[j]'hlt = x := ⟨_, rfl⟩
   rw [hx] at hcs hxm htk
   have HTK := Lib.hid htk; have HXM := Lib.hid hxm; have HKX := Lib.hid (HKT.out x hxm); have HNX1 := Lib.hid (HNX.out x hxm)
   have HCRD := Lib.hid hcs
   obtain ⟨kk2, i2, l2, s22, t2, e2, xs2⟩ := x
   obtain ⟨A2, c2, rfl, -, -⟩ := CRd_iff.1 hcs
   obtain ⟨f0, f1, f2, f3, f4, f5, f6⟩ := cells7 hcells
   clear htk hxm hcs hx hcells hb3
   go_upto_region 8 with fail
   obtain ⟨w4, hw4⟩ : ∃ w4, wr.alloc (.cells #[.int .i64 kk2, .string i2, .string l2, .int .i64 s22, .int .i64 t2, .int .i64 e2, .slice A2 xs2.length c2] 36) = w4 := ⟨_, rfl⟩
   have hb4 : Below wr.heap.size wr w4 := by rw [← hw4]; exact (Below.refl _ _).alloc (Nat.le_refl _) _
   have hx4 : BoxL w4 wr.heap.size [.int .i64 kk2, .string i2, .string l2, .int .i64 s22, .int .i64 t2, .int .i64 e2, .slice A2 xs2.length c2] := box_mk hw4
   try rw [hw4]
   have HG4 := Lib.hid (show w4.heap.size = wr.heap.size + 1 by rw [← hw4]; simp)
   have HB4 := Lib.hid hb4
   have hrd4 := CRd_more (show w2.heap.size ≤ w4.heap.size by have := HG3.out; have := HBR.out.size; have := HG4.out; omega) _ _ (CRd_keep (hb4.mono (by have := HG3.out; have := HBR.out.size; omega)) _ _ HCRD.out)
   have HF := Lib.hid (Format2_any _ _ w4 hrd4 HNX1.out)
   obtain ⟨T, hT⟩ : ∃ T, textC (.mk kk2 i2 l2 s22 t2 e2 xs2) = T := ⟨_, rfl⟩
   have HT := Lib.hid hT
   clear f0 f1 f2 f3 f4 f5 f6
   have f0 := hx4.1 0 _ rfl; have f1 := hx4.1 1 _ rfl; have f2 := hx4.1 2 _ rfl; have f3 := hx4.1 3 _ rfl; have f4 := hx4.1 4 _ rfl; have f5 := hx4.1 5 _ rfl; have f6 := hx4.1 6 _ rfl
   clear hw4 hb4 hx4 hrd4 hT
   go_wp2_with fail
   refine HF.out.mono ?_
   rintro e w5 ⟨hb5, hor⟩
   have hks := HKX.out
   rw [HT.out] at hor hks
   rcases hor with ⟨h, -⟩ | ⟨-, h, -⟩ | ⟨-, -, rfl⟩
   · rw [hks.1] at h; cases h
   · exact absurd hks.2 (by omega)
   have HTS := Lib.hid (show T.size ≤ maxLen by have := hks.2; unfold maxLen; omega)
   have HB5 := Lib.hid (HB4.out.trans (hb5.mono HB4.out.size))
   clear hb5 hks f0 f1 f2 f3 f4 f5 f6
   obtain ⟨w6, hw6⟩ : ∃ w6, w5.alloc (.cells #[.string T] 9) = w6 := ⟨_, rfl⟩
   have hb6 : Below w5.heap.size w5 w6 := by rw [← hw6]; exact (Below.refl _ _).alloc (Nat.le_refl _) _
   have HCT := Lib.hid (lit_cells hw6 (l := [.string T]) rfl)
   have HB6 := Lib.hid (HB5.out.trans (hb6.mono HB5.out.size))
   have HO6 := Lib.hid (HOWN.out.below HB6.out)
   have HLK := Lib.hid (show ((textL xs).take j).length = j by rw [List.length_take, HTL.out]; omega)
   have HW3 := Lib.hid (show w3.heap.size ≤ w6.heap.size from Nat.le_trans HBR.out.size HB6.out.size)
   clear hb6
   go_wp2_with (at_builtin; go_must (refine wpList_app1 E_txt rfl _ _ rfl (u9) _ rfl HO6.out w5.heap.size rfl T [.string T] HCT.out ⟨rfl, HTS.out⟩ (by rw [HLK.out]; have := HLEN.out; unfold maxLen; omega) (by rw [HLK.out]; have := HLEN.out; omega) HW3.out ?_); intro v' w7 hown_ hgrow_ hnew_; have HOWN7 := Lib.hid hown_; have HGROW7 := Lib.hid hgrow_; clear hown_ hgrow_ hnew_)
   have HB7 := Lib.hid (below_own (HBR.out.trans (HB6.out.mono HBR.out.size)) HGROW7.out HW3.out (fun q hq => (HO6.out.lt q hq).1))
   have hrel7 : OwnsS (fun _ => False) w7 w3.heap.size 9 v' ((textL xs).take (j + 1)) := by
    have h := HTK.out
    rw [HT.out] at h
    rw [h]; exact HOWN7.out
   have HREL7 := Lib.hid hrel7; clear hrel7
   try go_wp2
   go_roundw
   case rel => exact ⟨j + 1, by omega, by go_num, HREL7, HB7⟩
   case measure => simp [intOf]; omega
  ·
   have i1 : ¬ (j : Int) < (xs.length : Int) := by omega
   have hown := HOWN.out
   rw [show (textL xs).take j = textL xs from List.take_of_length_le (by rw [HTL.out]; omega)] at hown
   obtain ⟨A7, c7, rfl, hs7⟩ := hown.cs
   have HS7 := Lib.hid hs7
   have HBW := Lib.hid (HB3.out.trans (HBR.out.mono HB3.out.size))
   have HRF := Lib.hid (HR3.out.kept (grown_none HBR.out) (fun e => by cases e)); have HXF := Lib.hid (HX3.out.kept (grown_none HBR.out) (fun e => by cases e))
   clear hown hs7
   have y0 := HRF.out.1 0 _ rfl; have y1 := HRF.out.1 1 _ rfl; have y2 := HRF.out.1 2 _ rfl; have y3 := HRF.out.1 3 _ rfl; have y4 := HRF.out.1 4 _ rfl; have y5 := HRF.out.1 5 _ rfl; have y6 := HRF.out.1 6 _ rfl; have yf := HRF.out.2.1
   have d0 := HXF.out.1 0 _ rfl; have d1 := HXF.out.1 1 _ rfl; have d2 := HXF.out.1 2 _ rfl; have d3 := HXF.out.1 3 _ rfl; have d4 := HXF.out.1 4 _ rfl; have d5 := HXF.out.1 5 _ rfl; have d6 := HXF.out.1 6 _ rfl
   go_wp2
   refine bodyPost_ret (v := .tuple #[.agg #[.int .i64 k, .string i, .string l, .int .i64 s2, .int .i64 t, .int .i64 le, .slice A5 xs.length c5], .slice A7 (textL xs).length c7, .bool true]) (by simp [results, Tryz.results42, go_sem, y0, y1, y2, y3, y4, y5, y6]) rfl ⟨below7 HBW.out (Nat.le_refl _) _ _ _ _ _ _ _, _, _, _, _, _, _, _, _, _, A7, c7, by rw [HN.out.1, HN.out.2]; rfl, ?_, by rw [HN.out.1]; show (textL xs).length ≤ 16; rw [HTL.out]; exact HLEN.out⟩
   rw [HN.out.1]
   have h8 := sls7 (g := w.heap.size) HS7.out (fun x hx => by have := HG1.out; have := HG2.out; have := HG3.out; rcases hx.1 with h | h; exact h.elim; omega) (.int .i64 k) (.string i) (.string l) (.int .i64 s2) (.int .i64 t) (.int .i64 le) (.slice A5 xs.length c5)
   exact h8.mono (fun x hx => ⟨by have := HG1.out; have := HG2.out; have := HG3.out; rcases hx.1 with h | h; exact h.elim; omega, by simpa using hx.2⟩) (fun _ _ _ _ hu => hu)
end Go.Proofs.YtehmidmoiamcfaaGreatDoor
