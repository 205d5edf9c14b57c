/-
  The walk of package tree's Check.
-/
import Derived.Test.YtehmidmoiamcfaaGreatDoorEJ
import Derived.Test.YtehmidmoiamcfaaGreatDoorED
import Derived.RangeFuncNested
import Derived.RangeFuncBound
import Derived.RangeFuncCalls
import Derived.RangeFuncLeaves
import Derived.Test.YtehmidmoiamcfaaGreatDoorEI
import Derived.Shelf.RegionOpen
import Derived.OwnWalkIn
import Derived.TacticsInMore
import Derived.LoopNIn
import Derived.LoopIn
import Derived.Test.YtehmidmoiamcfaaGreatDoorEA
import Derived.Maps.OwnIn
import Derived.Lib.ItoaNum
import Derived.Test.YtehmidmoiamcfaaGreatDoorEB
import Derived.Lib.AtoiAllCases
import Derived.Lib.AppendIntMem
set_option linter.unusedSimpArgs false
set_option linter.unusedVariables false
namespace Go.Cold
open Go Go.RowKit
end Go.Cold
namespace Go.Proofs.YtehmidmoiamcfaaGreatDoor
open Go.RowKit Go.Cold
end Go.Proofs.YtehmidmoiamcfaaGreatDoor
namespace Go.Cold
open Go Go.RowKit
variable {F : Fence} {n : Nat} {P : Program}
end Go.Cold
namespace Go.Cold
open Go Go.RowKit
section
variable {P : Program} {tI : TypeId} {gv gi bp bo c N B : Nat} {A : Option Addr} {L : List Dev} {m m' : Int} {W W' : World}
end
end Go.Cold
namespace Go.Proofs.YtehmidmoiamcfaaGreatDoor
open Go.RowKit Go.Cold Go.Shelf
attribute [local go_sem] Oper.semAt_some
end Go.Proofs.YtehmidmoiamcfaaGreatDoor
namespace Go.Cold
open Go Go.RowKit
end Go.Cold
namespace Go.Proofs.YtehmidmoiamcfaaGreatDoor
open Go.RowKit Go.Cold Go.Shelf
attribute [local go_sem] Oper.semAt_some
end Go.Proofs.YtehmidmoiamcfaaGreatDoor
namespace Go.Cold
open Go Go.RowKit
end Go.Cold
namespace Go.Proofs.YtehmidmoiamcfaaGreatDoor
open Go.RowKit Go.Cold
end Go.Proofs.YtehmidmoiamcfaaGreatDoor
namespace Go.Cold
open Go Go.RowKit
end Go.Cold
namespace Go.Proofs.YtehmidmoiamcfaaGreatDoor
open Go.RowKit Go.Cold
end Go.Proofs.YtehmidmoiamcfaaGreatDoor
namespace Go.Cold
open Go Go.RowKit
end Go.Cold
namespace Go.Proofs.YtehmidmoiamcfaaGreatDoor
open Go.RowKit Go.Cold
theorem ok_of_shape (W : World) (h : W.ShapedOpen Tryz.prog) : Ok W := Tryz.laysM146.s1_3 W h
/-- A tape that a law has boxed. -/
theorem tape_new {w : World} {A : Option Addr} {c : Nat} {xs : List Int} (h : Sl w w.heap.size A c xs) : TapeAt (w.alloc (.cells #[.slice A xs.length c, .int .i64 0] 32)) w.heap.size w.heap.size xs 0 := by
 refine ⟨A, c, ?_, ?_, fun j => World.frozen?_alloc_at _ _ _ _ rfl, h.keep ((Below.refl _ _).alloc (Nat.le_refl _) _), Nat.le_refl _, by simp⟩ <;> (rw [World.cell?_alloc_at _ _ _ _ rfl]; rfl)
end Go.Proofs.YtehmidmoiamcfaaGreatDoor
namespace Go.Cold
open Go Go.RowKit
end Go.Cold
namespace Go.Cold
open Go Go.RowKit
section
variable {P : Program} {k e t : TypeId} {w w' : World} {b n : Nat} {s : Int → Bool}
end
end Go.Cold
namespace Go.Cold
open Go Go.RowKit
instance : RepS Int where
 rdS _ _ n cs := cs = [.int .i64 n] ∧ -9223372036854775808 ≤ n ∧ n ≤ 9223372036854775807
 pos := by show 0 < 1; omega
 lenS h := by rw [h.1]; rfl
 one h u hu := by rw [h.1] at hu; simp at hu; subst hu; rfl
 mono _ _ h := h
 rd_iff := Iff.rfl
end Go.Cold
namespace Go.Cold
open Go Go.RowKit
end Go.Cold
namespace Go.Cold
open Go Go.RowKit
/-- The name of a partition. -/
def itB (k : Nat) : ByteArray := ⟨(Lib.itoa (k : Int)).toArray⟩
def partS (p : ByteArray) (k : Nat) : ByteArray := (p ++ ⟨#[112]⟩) ++ itB k
/-- The reference's number of a partition, 0 if there is none: the first that fits. -/
def numGo (p o : ByteArray) : Nat → Nat → Nat
 | 0, _ => 0
 | m + 1, k => if o = partS p k then k else numGo p o m (k + 1)
def numR (p o : ByteArray) : Nat := numGo p o 16 1
theorem numGo_step (p o : ByteArray) (m k : Nat) : numGo p o (m + 1) k = if o = partS p k then k else numGo p o m (k + 1) := rfl
theorem itoa_inj {a b : Nat} (ha : a ≤ 17) (hb : b ≤ 17) (h : Lib.itoa (a : Int) = Lib.itoa (b : Int)) : a = b := by
 have : ∀ a : Nat, a < 18 → ∀ b : Nat, b < 18 → Lib.itoa (a : Int) = Lib.itoa (b : Int) → a = b := by decide +kernel
 exact this a (by omega) b (by omega) h
theorem partS_inj {p : ByteArray} {a b : Nat} (ha : a ≤ 17) (hb : b ≤ 17) (h : partS p a = partS p b) : a = b := by
 have h1 : (partS p a).data.toList = (partS p b).data.toList := by rw [h]
 unfold partS at h1
 rw [app_data (p ++ ⟨#[112]⟩) (itB a), app_data (p ++ ⟨#[112]⟩) (itB b)] at h1
 exact itoa_inj ha hb (List.append_cancel_left h1)
theorem numGo_none {p o : ByteArray} : ∀ {m k : Nat}, (∀ j, k ≤ j → j < k + m → o ≠ partS p j) → numGo p o m k = 0
 | 0, _, _ => rfl
 | m + 1, k, h => by
  rw [numGo, if_neg (h k (Nat.le_refl _) (by omega))]
  exact numGo_none fun j h1 h2 => h j (by omega) (by omega)
theorem numGo_some {p o : ByteArray} : ∀ {m k j : Nat}, k ≤ j → j < k + m → k + m ≤ 18 → o = partS p j → numGo p o m k = j
 | 0, k, j, h1, h2, _, _ => by omega
 | m + 1, k, j, h1, h2, h3, h4 => by
  by_cases hk : k = j
  · subst hk; rw [numGo, if_pos h4]
  ·
   rw [numGo, if_neg (fun h5 => hk (partS_inj (by omega) (by omega) (h5.symm.trans h4)))]
   exact numGo_some (by omega) (by omega) (by omega) h4
/-- The number is that of the only name that fits. -/
theorem numR_cases (p o : ByteArray) : (numR p o = 0 ∧ ∀ k, 1 ≤ k → k ≤ 16 → o ≠ partS p k) ∨ (1 ≤ numR p o ∧ numR p o ≤ 16 ∧ o = partS p (numR p o)) := by
 by_cases h : ∃ k, 1 ≤ k ∧ k ≤ 16 ∧ o = partS p k
 ·
  obtain ⟨k, h1, h2, h3⟩ := h
  have h4 : numR p o = k := numGo_some h1 (by omega) (by omega) h3
  exact .inr ⟨by omega, by omega, by rw [h4]; exact h3⟩
 ·
  have h4 : ∀ k, 1 ≤ k → k ≤ 16 → o ≠ partS p k := fun k h1 h2 h3 => h ⟨k, h1, h2, h3⟩
  exact .inl ⟨numGo_none fun j h1 h2 => h4 j h1 (by omega), h4⟩
/-- The same, as the program finds it: behind the parent's name and "p" comes the numeral of a number in the range. -/
theorem numR_digits {p o : ByteArray} {dg : List UInt8} (h : o.data.toList = (p ++ ⟨#[112]⟩).data.toList ++ dg) {n : Int} (hn : Lib.itoa n = dg) (h1 : 1 ≤ n) (h2 : n ≤ 16) : (numR p o : Int) = n := by
 obtain ⟨k, rfl⟩ : ∃ k : Nat, n = k := ⟨n.toNat, by omega⟩
 have ho : o = partS p k := by
  have h3 : o.data.toList = (partS p k).data.toList := by
   unfold partS; rw [app_data (p ++ ⟨#[112]⟩) (itB k), h, ← hn]; rfl
  cases o with
  | mk d => cases hq : partS p k with
   | mk d2 => rw [hq] at h3; simp at h3; rw [h3]
 have : numR p o = k := numGo_some (by omega) (by omega) (by omega) ho
 rw [this]
theorem numR_back {p o : ByteArray} (h : numR p o ≠ 0) : ∃ dg, o.data.toList = (p ++ ⟨#[112]⟩).data.toList ++ dg ∧ Lib.itoa (numR p o : Int) = dg ∧ (1 : Int) ≤ numR p o ∧ (numR p o : Int) ≤ 16 := by
 rcases numR_cases p o with ⟨h0, -⟩ | ⟨h1, h2, h3⟩
 · exact absurd h0 h
 ·
  refine ⟨Lib.itoa (numR p o : Int), ?_, rfl, by omega, by omega⟩
  have h4 := congrArg (fun b : ByteArray => b.data.toList) h3
  have h5 : (partS p (numR p o)).data.toList = (p ++ ⟨#[112]⟩).data.toList ++ Lib.itoa (numR p o : Int) := by
   unfold partS; rw [app_data]; rfl
  exact h4.trans h5
/-- The number of a device as a partition, 0 if it is none. -/
def partO (L : List Dev) (n : Int) : Nat := match findD L n with
 | none => 0
 | some d => match findD L d.par with
  | none => 0
  | some p => if d.kind = 2 ∧ p.kind = 2 then numR p.orig d.orig else 0
def parO (L : List Dev) (n : Int) : Int := ((findD L n).getD zeroD).par
def sisB (L : List Dev) (i j : Int) : Bool := decide (partO L i ≠ 0) && decide (partO L j ≠ 0) && decide (i ≠ j) && decide (parO L i = parO L j)
end Go.Cold
namespace Go.Cold
open Go Go.RowKit
end Go.Cold
namespace Go.Cold
open Go Go.RowKit
end Go.Cold
namespace Go.Cold
open Go Go.RowKit
end Go.Cold
namespace Go.Cold
open Go Go.RowKit
end Go.Cold
namespace Go.Cold
open Go Go.RowKit
end Go.Cold
namespace Go.Proofs.YtehmidmoiamcfaaGreatDoor
open Go.RowKit Go.Cold
end Go.Proofs.YtehmidmoiamcfaaGreatDoor
namespace Go.Cold
open Go Go.RowKit
/-- The number of a device as a partition of another one, 0 if it is none. -/
def partD (p d : Dev) : Nat := if d.kind = 2 ∧ p.kind = 2 then numR p.orig d.orig else 0
theorem itB_dec (k : Nat) : (⟨(Lib.decDigits k).toArray⟩ : ByteArray) = itB k := by
 unfold itB Lib.itoa
 rw [if_neg (by omega)]
 rfl
theorem itB_size {k : Nat} (h : k ≤ 16) : (itB k).size ≤ 2 := by
 have : ∀ k : Nat, k < 17 → (itB k).size ≤ 2 := by decide +kernel
 exact this k (by omega)
theorem atoi_it {k : Nat} (h : k ≤ 16) : Lib.atoiAll (Lib.itoa (k : Int)) = .ok k := by
 have : ∀ k : Nat, k < 17 → Lib.atoiAll (Lib.itoa (k : Int)) = .ok k := by decide +kernel
 exact this k (by omega)
theorem numR_le (p o : ByteArray) : numR p o ≤ 16 := by
 rcases numR_cases p o with ⟨h, _⟩ | ⟨_, h, _⟩ <;> omega
/-- What is cut off ahead of the digits. -/
theorem trim_pre {s p : List UInt8} (h : Lib.hasPrefix s p = true) : s = p ++ Lib.trimPrefix s p := by
 unfold Lib.trimPrefix
 unfold Lib.hasPrefix at h
 simp only [Lib.hasPrefix, h, if_true]
 rw [List.isPrefixOf_iff_prefix] at h
 obtain ⟨t, rfl⟩ := h
 simp
theorem numR_no {p o : ByteArray} (h : Lib.hasPrefix o.data.toList (p ++ ⟨#[112]⟩).data.toList = false) : numR p o = 0 := by
 by_cases h0 : numR p o = 0
 · exact h0
 ·
  obtain ⟨dg, h1, _⟩ := numR_back h0
  rw [h1] at h
  unfold Lib.hasPrefix at h
  have h2 : ((p ++ ⟨#[112]⟩ : ByteArray).data.toList).isPrefixOf ((p ++ ⟨#[112]⟩ : ByteArray).data.toList ++ dg) = true := by rw [List.isPrefixOf_iff_prefix]; exact List.prefix_append _ _
  rw [h2] at h
  cases h
theorem numR_trim {p o : ByteArray} (h : numR p o ≠ 0) : Lib.trimPrefix o.data.toList (p ++ ⟨#[112]⟩).data.toList = Lib.itoa (numR p o : Int) := by
 obtain ⟨dg, h1, h2, _⟩ := numR_back h
 have h3 : Lib.hasPrefix o.data.toList (p ++ ⟨#[112]⟩).data.toList = true := by rw [h1]; unfold Lib.hasPrefix; simp
 have h4 := trim_pre h3
 rw [h1] at h4
 rw [h2, h1]
 exact (List.append_cancel_left h4).symm
theorem numR_atoi {p o : ByteArray} (h : ∀ m, Lib.atoiAll (Lib.trimPrefix o.data.toList (p ++ ⟨#[112]⟩).data.toList) ≠ .ok m) : numR p o = 0 := by
 by_cases h0 : numR p o = 0
 · exact h0
 ·
  rw [numR_trim h0] at h
  exact absurd (atoi_it (numR_le p o)) (h _)
theorem numR_range {p o : ByteArray} {n : Int} (h : Lib.atoiAll (Lib.trimPrefix o.data.toList (p ++ ⟨#[112]⟩).data.toList) = .ok n) (hn : n < 1 ∨ 16 < n) : numR p o = 0 := by
 by_cases h0 : numR p o = 0
 · exact h0
 ·
  rw [numR_trim h0, atoi_it (numR_le p o)] at h
  injection h with h
  have := numR_le p o
  omega
theorem numR_digs {p o : ByteArray} {n : Nat} (h : Lib.atoiAll (Lib.trimPrefix o.data.toList (p ++ ⟨#[112]⟩).data.toList) = .ok (n : Int)) (hn : Lib.itoa (n : Int) ≠ Lib.trimPrefix o.data.toList (p ++ ⟨#[112]⟩).data.toList) : numR p o = 0 := by
 by_cases h0 : numR p o = 0
 · exact h0
 ·
  rw [numR_trim h0, atoi_it (numR_le p o)] at h
  injection h with h
  rw [numR_trim h0, h] at hn
  exact absurd rfl hn
theorem numR_yes {p o : ByteArray} {n : Nat} (hp : Lib.hasPrefix o.data.toList (p ++ ⟨#[112]⟩).data.toList = true) (hn : Lib.itoa (n : Int) = Lib.trimPrefix o.data.toList (p ++ ⟨#[112]⟩).data.toList) (h1 : 1 ≤ n) (h2 : n ≤ 16) : numR p o = n := by
 have := numR_digits (dg := Lib.trimPrefix o.data.toList (p ++ ⟨#[112]⟩).data.toList) (trim_pre hp) hn (by omega) (by omega)
 omega
end Go.Cold
namespace Go.Proofs.YtehmidmoiamcfaaGreatDoor
open Go.RowKit Go.Cold
def ifaceW (ev : Value) : Prop := ev = .nilIface ∨ ∃ te pe, ev = .iface te pe
/-- The variables that the library's Atoi reads. -/
def OkA (w : World) : Prop := (∃ ev, w.cell? ⟨3, 0, none⟩ = some ev ∧ ifaceW ev) ∧ (∃ ev, w.cell? ⟨4, 0, none⟩ = some ev ∧ ifaceW ev)
theorem OkA.lt {w : World} (h : OkA w) : 3 < w.heap.size ∧ 4 < w.heap.size := by
 obtain ⟨⟨e1, h1, _⟩, ⟨e2, h2, _⟩⟩ := h
 exact ⟨block_lt_of_cell h1, block_lt_of_cell h2⟩
theorem OkA.next {w w' : World} (h : OkA w) (hb : Below w.heap.size w w') : OkA w' := by
 obtain ⟨l1, l2⟩ := h.lt
 obtain ⟨⟨e1, h1, q1⟩, ⟨e2, h2, q2⟩⟩ := h
 exact ⟨⟨e1, (hb.cell (p := ⟨_, 0, none⟩) (by exact l1)).trans h1, q1⟩, ⟨e2, (hb.cell (p := ⟨_, 0, none⟩) (by exact l2)).trans h2, q2⟩⟩
def AtoiQ (t : ByteArray) (w : World) (e : Ending) (w' : World) : Prop := Below w.heap.size w w' ∧ ∃ n ev, e = .returned (.tuple #[.int .i64 n, ev]) ∧ okI n ∧
 ((Lib.atoiAll t.data.toList = .ok n ∧ ev = .nilIface) ∨ ((∀ m, Lib.atoiAll t.data.toList ≠ .ok m) ∧ ∃ te pe, ev = .iface te pe))
theorem AtoiW_any (t : ByteArray) (w : World) (hok : OkA w) (ht : t.size ≤ 281474976710656) : Calls Tryz.prog 111 #[.string t] w (AtoiQ t w) := by
 cases h : Lib.atoiAll t.data.toList
 ·
  rename_i n
  refine (Tryz.strconv_Atoi_ok t (by omega) n h w).mono ?_
  rintro e w' ⟨rfl, hw⟩
  refine ⟨?_, n, .nilIface, rfl, Lib.atoiAll_bounds h, .inl ⟨h, rfl⟩⟩
  rcases hw with rfl | ⟨u, rfl⟩
  · exact Below.refl _ _
  · exact Lib.bytesWorld_below _ _ _
 ·
  obtain ⟨⟨ev, h1, h2⟩, _⟩ := hok
  refine (Any.strconv_Atoi_syntax Tryz.laysC172 t (by omega) h ev w h1 h2).mono ?_
  rintro e w' ⟨N, rfl, _, _, hb⟩
  exact ⟨hb, 0, _, rfl, by unfold okI; omega, .inr ⟨fun n hn => (by rw [h] at hn; cases hn), _, _, rfl⟩⟩
 ·
  obtain ⟨_, ⟨ev, h1, h2⟩⟩ := hok
  refine (Any.strconv_Atoi_range Tryz.laysC172 t (by omega) h ev w h1 h2).mono ?_
  rintro e w' ⟨N, rfl, _, _, hb⟩
  exact ⟨hb, _, _, rfl, by unfold okI Lib.atoiSat; split <;> omega, .inr ⟨fun n hn => (by rw [h] at hn; cases hn), _, _, rfl⟩⟩
theorem ItoaS_any (k : Nat) (w : World) (hk : k ≤ 16) : Calls Tryz.prog 34 #[.int .i64 (k : Int)] w fun e w' => e = .returned (.string (itB k)) ∧ w' = w := by
 refine (Tryz.strconv_Itoa_small k (by omega) w).mono ?_
 rintro e w' ⟨rfl, rfl⟩
 exact ⟨by rw [itB_dec], rfl⟩
end Go.Proofs.YtehmidmoiamcfaaGreatDoor
namespace Go.Cold
open Go Go.RowKit
end Go.Cold
