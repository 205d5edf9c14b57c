/-
  The walks of coldplugworld: Tree and Some.
-/
import Derived.Test.YtehmidmoiamcfaaGreatDoorIG
import Derived.Test.YtehmidmoiamcfaaGreatDoorID
import Derived.RangeFuncNested
import Derived.RangeFuncBound
import Derived.RangeFuncCalls
import Derived.RangeFuncLeaves
import Derived.Shelf.RegionOpen
import Derived.OwnWalkIn
import Derived.TacticsInMore
import Derived.LoopNIn
import Derived.LoopIn
import Derived.Test.YtehmidmoiamcfaaGreatDoorIA
import Derived.Maps.OwnIn
import Derived.Lib.ItoaNum
import Derived.Test.YtehmidmoiamcfaaGreatDoorIB
import Derived.Lib.AtoiAllCases
import Derived.Lib.AppendIntMem
set_option linter.unusedSimpArgs false
set_option linter.unusedVariables false
namespace Go.Cold
open Go Go.RowKit
/-- Where Tree stands: the result's box g4, the tree's box g5, the list L behind g5. -/
def TrSt (w0 : World) (B b : Nat) (xs : List Int) (k g4 g5 : Nat) (A : Option Addr) (c : Nat) (L : List Dev) (w : World) : Prop :=
 TapeAt w B b xs k ∧ w0.grownBy w (some b) ∧ BoxL w g4 [.slice none 0 0] ∧ BoxL w g5 [.slice A L.length c] ∧ SlS w (fun x => g5 < x ∧ x < w.heap.size) A c L
def TrK (w0 : World) (B b g4 g5 : Nat) : Prop := b < w0.heap.size ∧ B ≤ b ∧ w0.heap.size ≤ g4 ∧ g4 < g5
section
variable {w0 w w' : World} {B b k k' g4 g5 c : Nat} {xs : List Int} {A : Option Addr} {L : List Dev}
theorem TrSt.tape (h : TrSt w0 B b xs k g4 g5 A c L w) (K : TrK w0 B b g4 g5) (ht : TapeAt w' B b xs k') (hg : w.grownBy w' (some b)) : TrSt w0 B b xs k' g4 g5 A c L w' := by
 obtain ⟨h1, h2, h3, h4, h5⟩ := h
 obtain ⟨a1, a2, a3, a4⟩ := K
 exact ⟨ht, grown_trans h2 hg, h3.kept hg (fun e => by have := Option.some.inj e; omega), h4.kept hg (fun e => by have := Option.some.inj e; omega),
  h5.mono (fun x hx => ⟨hx.1, by have := hg.size; omega⟩) (fun x o u hx hu => hg.cell hu (fun e => by have h : x = b := Option.some.inj e; omega))⟩
theorem TrSt.below (h : TrSt w0 B b xs k g4 g5 A c L w) (hb : Below w.heap.size w w') : TrSt w0 B b xs k g4 g5 A c L w' := by
 obtain ⟨h1, h2, h3, h4, h5⟩ := h
 exact ⟨h1.kept (grown_none hb) (fun e => by cases e) (fun g e => by cases e), grown_below h2 hb, h3.kept (grown_none hb) (fun e => by cases e), h4.kept (grown_none hb) (fun e => by cases e),
  h5.mono (fun x hx => ⟨hx.1, by have := hb.size; omega⟩) (fun x o u hx hu => (hb.cell (p := ⟨x, o, none⟩) (by exact hx.2)).trans hu)⟩
theorem TrSt.drew (h : TrSt w0 B b xs k g4 g5 A c L w) : TrSt w0 B b xs k g4 g5 A c L w.drew := h.below (below_drewN_self w _ 1)
/-- Another list is laid behind g5. -/
theorem TrSt.put {A' : Option Addr} {c' : Nat} {L' : List Dev} (h : TrSt w0 B b xs k g4 g5 A c L w) (K : TrK w0 B b g4 g5) (hs : SlS w (fun x => g5 < x ∧ x < w.heap.size) A' c' L') : TrSt w0 B b xs k g4 g5 A' c' L' (w.setCell ⟨g5, 0, none⟩ (.slice A' L'.length c')) := by
 obtain ⟨h1, h2, h3, h4, h5⟩ := h
 obtain ⟨a1, a2, a3, a4⟩ := K
 exact ⟨h1.set_ (by omega) (by omega) _, grown_set h2 (by omega) _, h3.far (by omega) _, h4.set_ (j := 0) (by simp) _, (hs.set_ (fun x hx => by omega) _).mono (fun x hx => ⟨hx.1, by simpa using hx.2⟩) (fun _ _ _ _ hu => hu)⟩
theorem TrSt.treeIn (h : TrSt w0 B b xs k g4 g5 A c L w) (K : TrK w0 B b g4 g5) : TreeIn w b (fun x => g5 < x ∧ x < w.heap.size) A c L := by
 obtain ⟨a1, a2, a3, a4⟩ := K
 exact ⟨h.2.2.2.2, fun x hx => by omega, fun x hx => hx.2⟩
end
theorem VT_tree {L : List Dev} {d : Dev} (h : VT L) (he : insE L d = 0) : VT (insR L d) ∧ (insR L d).length = L.length + 1 := by
 unfold insR
 rw [if_pos he]
 exact ⟨(ins_VT h he).1, ins_length L d⟩
end Go.Cold
namespace Go.Proofs.YtehmidmoiamcfaaGreatDoor
open Go.RowKit Go.Cold
def NotG (b : Nat) : Prop := ¬ b = 1
theorem Ok.tape {w w' : World} {b : Nat} (h : Ok w) (hg : w.grownBy w' (some b)) (hb : NotG b) : Ok w' := by
 obtain ⟨m, hm⟩ := h
 exact ⟨m, hg.cell hm (fun e => hb (Option.some.inj e).symm)⟩
theorem info_tree2 : (Tryz.prog.info? 57).map (fun i => (i.zero, i.size)) = some (some (.agg #[.slice none 0 0]), 1) := by kernel_rfl
end Go.Proofs.YtehmidmoiamcfaaGreatDoor
namespace Go.Cold
open Go Go.RowKit
end Go.Cold
namespace Go.Proofs.YtehmidmoiamcfaaGreatDoor
open Go.RowKit Go.Cold
end Go.Proofs.YtehmidmoiamcfaaGreatDoor
namespace Go.Cold
open Go Go.RowKit
section
variable {α : Type} [El α] {P : Program} {k e t : TypeId} {w w' : World} {b n : Nat} {f : Int → Option α}
end
end Go.Cold
namespace Go.Proofs.YtehmidmoiamcfaaGreatDoor
open Go.RowKit Go.Cold
end Go.Proofs.YtehmidmoiamcfaaGreatDoor
namespace Go.Cold
open Go Go.RowKit
end Go.Cold
namespace Go.Proofs.YtehmidmoiamcfaaGreatDoor
open Go.RowKit Go.Cold
end Go.Proofs.YtehmidmoiamcfaaGreatDoor
namespace Go.Cold
open Go Go.RowKit
end Go.Cold
namespace Go.Proofs.YtehmidmoiamcfaaGreatDoor
open Go.RowKit Go.Cold
end Go.Proofs.YtehmidmoiamcfaaGreatDoor
namespace Go.Cold
open Go Go.RowKit
end Go.Cold
namespace Go.Proofs.YtehmidmoiamcfaaGreatDoor
open Go.RowKit Go.Cold
end Go.Proofs.YtehmidmoiamcfaaGreatDoor
namespace Go.Cold
open Go Go.RowKit
variable {F : Fence} {n : Nat} {P : Program}
end Go.Cold
namespace Go.Cold
open Go Go.RowKit
section
variable {P : Program} {tI : TypeId} {gv gi bp bo c N B : Nat} {A : Option Addr} {L : List Dev} {m m' : Int} {W W' : World}
end
end Go.Cold
namespace Go.Proofs.YtehmidmoiamcfaaGreatDoor
open Go.RowKit Go.Cold Go.Shelf
attribute [local go_sem] Oper.semAt_some
end Go.Proofs.YtehmidmoiamcfaaGreatDoor
namespace Go.Cold
open Go Go.RowKit
end Go.Cold
namespace Go.Proofs.YtehmidmoiamcfaaGreatDoor
open Go.RowKit Go.Cold Go.Shelf
attribute [local go_sem] Oper.semAt_some
end Go.Proofs.YtehmidmoiamcfaaGreatDoor
namespace Go.Cold
open Go Go.RowKit
end Go.Cold
namespace Go.Proofs.YtehmidmoiamcfaaGreatDoor
open Go.RowKit Go.Cold
end Go.Proofs.YtehmidmoiamcfaaGreatDoor
namespace Go.Cold
open Go Go.RowKit
end Go.Cold
namespace Go.Proofs.YtehmidmoiamcfaaGreatDoor
open Go.RowKit Go.Cold
end Go.Proofs.YtehmidmoiamcfaaGreatDoor
namespace Go.Cold
open Go Go.RowKit
end Go.Cold
namespace Go.Proofs.YtehmidmoiamcfaaGreatDoor
open Go.RowKit Go.Cold
theorem ok_of_shape (W : World) (h : W.ShapedOpen Tryz.prog) : Ok W := Tryz.laysM146.s1_3 W h
/-- A tape that a law has boxed. -/
theorem tape_new {w : World} {A : Option Addr} {c : Nat} {xs : List Int} (h : Sl w w.heap.size A c xs) : TapeAt (w.alloc (.cells #[.slice A xs.length c, .int .i64 0] 32)) w.heap.size w.heap.size xs 0 := by
 refine ⟨A, c, ?_, ?_, fun j => World.frozen?_alloc_at _ _ _ _ rfl, h.keep ((Below.refl _ _).alloc (Nat.le_refl _) _), Nat.le_refl _, by simp⟩ <;> (rw [World.cell?_alloc_at _ _ _ _ rfl]; rfl)
theorem notG_of {w : World} (h : Ok w) : NotG w.heap.size := by
 obtain ⟨m, hm⟩ := h
 have := block_lt_of_cell hm
 intro e
 rw [← e] at this
 exact absurd this (Nat.lt_irrefl _)
end Go.Proofs.YtehmidmoiamcfaaGreatDoor
namespace Go.Cold
open Go Go.RowKit
end Go.Cold
namespace Go.Cold
open Go Go.RowKit
section
variable {P : Program} {k e t : TypeId} {w w' : World} {b n : Nat} {s : Int → Bool}
end
end Go.Cold
namespace Go.Cold
open Go Go.RowKit
instance : RepS Int where
 rdS _ _ n cs := cs = [.int .i64 n] ∧ -9223372036854775808 ≤ n ∧ n ≤ 9223372036854775807
 pos := by show 0 < 1; omega
 lenS h := by rw [h.1]; rfl
 one h u hu := by rw [h.1] at hu; simp at hu; subst hu; rfl
 mono _ _ h := h
 rd_iff := Iff.rfl
end Go.Cold
namespace Go.Cold
open Go Go.RowKit
end Go.Cold
namespace Go.Cold
open Go Go.RowKit
/-- The name of a partition. -/
def itB (k : Nat) : ByteArray := ⟨(Lib.itoa (k : Int)).toArray⟩
def partS (p : ByteArray) (k : Nat) : ByteArray := (p ++ ⟨#[112]⟩) ++ itB k
/-- The reference's number of a partition, 0 if there is none: the first that fits. -/
def numGo (p o : ByteArray) : Nat → Nat → Nat
 | 0, _ => 0
 | m + 1, k => if o = partS p k then k else numGo p o m (k + 1)
def numR (p o : ByteArray) : Nat := numGo p o 16 1
theorem numGo_step (p o : ByteArray) (m k : Nat) : numGo p o (m + 1) k = if o = partS p k then k else numGo p o m (k + 1) := rfl
theorem itoa_inj {a b : Nat} (ha : a ≤ 17) (hb : b ≤ 17) (h : Lib.itoa (a : Int) = Lib.itoa (b : Int)) : a = b := by
 have : ∀ a : Nat, a < 18 → ∀ b : Nat, b < 18 → Lib.itoa (a : Int) = Lib.itoa (b : Int) → a = b := by decide +kernel
 exact this a (by omega) b (by omega) h
theorem partS_inj {p : ByteArray} {a b : Nat} (ha : a ≤ 17) (hb : b ≤ 17) (h : partS p a = partS p b) : a = b := by
 have h1 : (partS p a).data.toList = (partS p b).data.toList := by rw [h]
 unfold partS at h1
 rw [app_data (p ++ ⟨#[112]⟩) (itB a), app_data (p ++ ⟨#[112]⟩) (itB b)] at h1
 exact itoa_inj ha hb (List.append_cancel_left h1)
theorem numGo_none {p o : ByteArray} : ∀ {m k : Nat}, (∀ j, k ≤ j → j < k + m → o ≠ partS p j) → numGo p o m k = 0
 | 0, _, _ => rfl
 | m + 1, k, h => by
  rw [numGo, if_neg (h k (Nat.le_refl _) (by omega))]
  exact numGo_none fun j h1 h2 => h j (by omega) (by omega)
theorem numGo_some {p o : ByteArray} : ∀ {m k j : Nat}, k ≤ j → j < k + m → k + m ≤ 18 → o = partS p j → numGo p o m k = j
 | 0, k, j, h1, h2, _, _ => by omega
 | m + 1, k, j, h1, h2, h3, h4 => by
  by_cases hk : k = j
  · subst hk; rw [numGo, if_pos h4]
  ·
   rw [numGo, if_neg (fun h5 => hk (partS_inj (by omega) (by omega) (h5.symm.trans h4)))]
   exact numGo_some (by omega) (by omega) (by omega) h4
/-- The number is that of the only name that fits. -/
theorem numR_cases (p o : ByteArray) : (numR p o = 0 ∧ ∀ k, 1 ≤ k → k ≤ 16 → o ≠ partS p k) ∨ (1 ≤ numR p o ∧ numR p o ≤ 16 ∧ o = partS p (numR p o)) := by
 by_cases h : ∃ k, 1 ≤ k ∧ k ≤ 16 ∧ o = partS p k
 ·
  obtain ⟨k, h1, h2, h3⟩ := h
  have h4 : numR p o = k := numGo_some h1 (by omega) (by omega) h3
  exact .inr ⟨by omega, by omega, by rw [h4]; exact h3⟩
 ·
  have h4 : ∀ k, 1 ≤ k → k ≤ 16 → o ≠ partS p k := fun k h1 h2 h3 => h ⟨k, h1, h2, h3⟩
  exact .inl ⟨numGo_none fun j h1 h2 => h4 j h1 (by omega), h4⟩
/-- The same, as the program finds it: behind the parent's name and "p" comes the numeral of a number in the range. -/
theorem numR_digits {p o : ByteArray} {dg : List UInt8} (h : o.data.toList = (p ++ ⟨#[112]⟩).data.toList ++ dg) {n : Int} (hn : Lib.itoa n = dg) (h1 : 1 ≤ n) (h2 : n ≤ 16) : (numR p o : Int) = n := by
 obtain ⟨k, rfl⟩ : ∃ k : Nat, n = k := ⟨n.toNat, by omega⟩
 have ho : o = partS p k := by
  have h3 : o.data.toList = (partS p k).data.toList := by
   unfold partS; rw [app_data (p ++ ⟨#[112]⟩) (itB k), h, ← hn]; rfl
  cases o with
  | mk d => cases hq : partS p k with
   | mk d2 => rw [hq] at h3; simp at h3; rw [h3]
 have : numR p o = k := numGo_some (by omega) (by omega) (by omega) ho
 rw [this]
theorem numR_back {p o : ByteArray} (h : numR p o ≠ 0) : ∃ dg, o.data.toList = (p ++ ⟨#[112]⟩).data.toList ++ dg ∧ Lib.itoa (numR p o : Int) = dg ∧ (1 : Int) ≤ numR p o ∧ (numR p o : Int) ≤ 16 := by
 rcases numR_cases p o with ⟨h0, -⟩ | ⟨h1, h2, h3⟩
 · exact absurd h0 h
 ·
  refine ⟨Lib.itoa (numR p o : Int), ?_, rfl, by omega, by omega⟩
  have h4 := congrArg (fun b : ByteArray => b.data.toList) h3
  have h5 : (partS p (numR p o)).data.toList = (p ++ ⟨#[112]⟩).data.toList ++ Lib.itoa (numR p o : Int) := by
   unfold partS; rw [app_data]; rfl
  exact h4.trans h5
/-- The number of a device as a partition, 0 if it is none. -/
def partO (L : List Dev) (n : Int) : Nat := match findD L n with
 | none => 0
 | some d => match findD L d.par with
  | none => 0
  | some p => if d.kind = 2 ∧ p.kind = 2 then numR p.orig d.orig else 0
end Go.Cold
namespace Go.Cold
open Go Go.RowKit
end Go.Cold
namespace Go.Cold
open Go Go.RowKit
end Go.Cold
namespace Go.Cold
open Go Go.RowKit
theorem mem_ins {L : List Dev} {d e : Dev} : e ∈ insL L d ↔ e = d ∨ e ∈ L := by
 unfold insL
 rw [List.mem_append, List.mem_cons]
 constructor
 ·
  rintro (h | h | h)
  · exact .inr (List.mem_of_mem_take h)
  · exact .inl h
  · exact .inr (List.mem_of_mem_drop h)
 ·
  rintro (h | h)
  · exact .inr (.inl h)
  ·
   rw [← List.take_append_drop (atN L (ownL L d)) L] at h
   rcases List.mem_append.1 h with h | h
   · exact .inl h
   · exact .inr (.inr h)
end Go.Cold
namespace Go.Cold
open Go Go.RowKit
end Go.Cold
namespace Go.Cold
open Go Go.RowKit
end Go.Cold
namespace Go.Proofs.YtehmidmoiamcfaaGreatDoor
open Go.RowKit Go.Cold
end Go.Proofs.YtehmidmoiamcfaaGreatDoor
namespace Go.Cold
open Go Go.RowKit
/-- The number of a device as a partition of another one, 0 if it is none. -/
def partD (p d : Dev) : Nat := if d.kind = 2 ∧ p.kind = 2 then numR p.orig d.orig else 0
theorem itB_dec (k : Nat) : (⟨(Lib.decDigits k).toArray⟩ : ByteArray) = itB k := by
 unfold itB Lib.itoa
 rw [if_neg (by omega)]
 rfl
theorem itB_size {k : Nat} (h : k ≤ 16) : (itB k).size ≤ 2 := by
 have : ∀ k : Nat, k < 17 → (itB k).size ≤ 2 := by decide +kernel
 exact this k (by omega)
theorem atoi_it {k : Nat} (h : k ≤ 16) : Lib.atoiAll (Lib.itoa (k : Int)) = .ok k := by
 have : ∀ k : Nat, k < 17 → Lib.atoiAll (Lib.itoa (k : Int)) = .ok k := by decide +kernel
 exact this k (by omega)
theorem numR_le (p o : ByteArray) : numR p o ≤ 16 := by
 rcases numR_cases p o with ⟨h, _⟩ | ⟨_, h, _⟩ <;> omega
/-- What is cut off ahead of the digits. -/
theorem trim_pre {s p : List UInt8} (h : Lib.hasPrefix s p = true) : s = p ++ Lib.trimPrefix s p := by
 unfold Lib.trimPrefix
 unfold Lib.hasPrefix at h
 simp only [Lib.hasPrefix, h, if_true]
 rw [List.isPrefixOf_iff_prefix] at h
 obtain ⟨t, rfl⟩ := h
 simp
theorem numR_no {p o : ByteArray} (h : Lib.hasPrefix o.data.toList (p ++ ⟨#[112]⟩).data.toList = false) : numR p o = 0 := by
 by_cases h0 : numR p o = 0
 · exact h0
 ·
  obtain ⟨dg, h1, _⟩ := numR_back h0
  rw [h1] at h
  unfold Lib.hasPrefix at h
  have h2 : ((p ++ ⟨#[112]⟩ : ByteArray).data.toList).isPrefixOf ((p ++ ⟨#[112]⟩ : ByteArray).data.toList ++ dg) = true := by rw [List.isPrefixOf_iff_prefix]; exact List.prefix_append _ _
  rw [h2] at h
  cases h
theorem numR_trim {p o : ByteArray} (h : numR p o ≠ 0) : Lib.trimPrefix o.data.toList (p ++ ⟨#[112]⟩).data.toList = Lib.itoa (numR p o : Int) := by
 obtain ⟨dg, h1, h2, _⟩ := numR_back h
 have h3 : Lib.hasPrefix o.data.toList (p ++ ⟨#[112]⟩).data.toList = true := by rw [h1]; unfold Lib.hasPrefix; simp
 have h4 := trim_pre h3
 rw [h1] at h4
 rw [h2, h1]
 exact (List.append_cancel_left h4).symm
theorem numR_atoi {p o : ByteArray} (h : ∀ m, Lib.atoiAll (Lib.trimPrefix o.data.toList (p ++ ⟨#[112]⟩).data.toList) ≠ .ok m) : numR p o = 0 := by
 by_cases h0 : numR p o = 0
 · exact h0
 ·
  rw [numR_trim h0] at h
  exact absurd (atoi_it (numR_le p o)) (h _)
theorem numR_range {p o : ByteArray} {n : Int} (h : Lib.atoiAll (Lib.trimPrefix o.data.toList (p ++ ⟨#[112]⟩).data.toList) = .ok n) (hn : n < 1 ∨ 16 < n) : numR p o = 0 := by
 by_cases h0 : numR p o = 0
 · exact h0
 ·
  rw [numR_trim h0, atoi_it (numR_le p o)] at h
  injection h with h
  have := numR_le p o
  omega
theorem numR_digs {p o : ByteArray} {n : Nat} (h : Lib.atoiAll (Lib.trimPrefix o.data.toList (p ++ ⟨#[112]⟩).data.toList) = .ok (n : Int)) (hn : Lib.itoa (n : Int) ≠ Lib.trimPrefix o.data.toList (p ++ ⟨#[112]⟩).data.toList) : numR p o = 0 := by
 by_cases h0 : numR p o = 0
 · exact h0
 ·
  rw [numR_trim h0, atoi_it (numR_le p o)] at h
  injection h with h
  rw [numR_trim h0, h] at hn
  exact absurd rfl hn
theorem numR_yes {p o : ByteArray} {n : Nat} (hp : Lib.hasPrefix o.data.toList (p ++ ⟨#[112]⟩).data.toList = true) (hn : Lib.itoa (n : Int) = Lib.trimPrefix o.data.toList (p ++ ⟨#[112]⟩).data.toList) (h1 : 1 ≤ n) (h2 : n ≤ 16) : numR p o = n := by
 have := numR_digits (dg := Lib.trimPrefix o.data.toList (p ++ ⟨#[112]⟩).data.toList) (trim_pre hp) hn (by omega) (by omega)
 omega
end Go.Cold
namespace Go.Proofs.YtehmidmoiamcfaaGreatDoor
open Go.RowKit Go.Cold
def ifaceW (ev : Value) : Prop := ev = .nilIface ∨ ∃ te pe, ev = .iface te pe
/-- The variables that the library's Atoi reads. -/
def OkA (w : World) : Prop := (∃ ev, w.cell? ⟨3, 0, none⟩ = some ev ∧ ifaceW ev) ∧ (∃ ev, w.cell? ⟨4, 0, none⟩ = some ev ∧ ifaceW ev)
theorem OkA.lt {w : World} (h : OkA w) : 3 < w.heap.size ∧ 4 < w.heap.size := by
 obtain ⟨⟨e1, h1, _⟩, ⟨e2, h2, _⟩⟩ := h
 exact ⟨block_lt_of_cell h1, block_lt_of_cell h2⟩
theorem OkA.next {w w' : World} (h : OkA w) (hb : Below w.heap.size w w') : OkA w' := by
 obtain ⟨l1, l2⟩ := h.lt
 obtain ⟨⟨e1, h1, q1⟩, ⟨e2, h2, q2⟩⟩ := h
 exact ⟨⟨e1, (hb.cell (p := ⟨_, 0, none⟩) (by exact l1)).trans h1, q1⟩, ⟨e2, (hb.cell (p := ⟨_, 0, none⟩) (by exact l2)).trans h2, q2⟩⟩
def AtoiQ (t : ByteArray) (w : World) (e : Ending) (w' : World) : Prop := Below w.heap.size w w' ∧ ∃ n ev, e = .returned (.tuple #[.int .i64 n, ev]) ∧ okI n ∧
 ((Lib.atoiAll t.data.toList = .ok n ∧ ev = .nilIface) ∨ ((∀ m, Lib.atoiAll t.data.toList ≠ .ok m) ∧ ∃ te pe, ev = .iface te pe))
theorem AtoiW_any (t : ByteArray) (w : World) (hok : OkA w) (ht : t.size ≤ 281474976710656) : Calls Tryz.prog 111 #[.string t] w (AtoiQ t w) := by
 cases h : Lib.atoiAll t.data.toList
 ·
  rename_i n
  refine (Tryz.strconv_Atoi_ok t (by omega) n h w).mono ?_
  rintro e w' ⟨rfl, hw⟩
  refine ⟨?_, n, .nilIface, rfl, Lib.atoiAll_bounds h, .inl ⟨h, rfl⟩⟩
  rcases hw with rfl | ⟨u, rfl⟩
  · exact Below.refl _ _
  · exact Lib.bytesWorld_below _ _ _
 ·
  obtain ⟨⟨ev, h1, h2⟩, _⟩ := hok
  refine (Any.strconv_Atoi_syntax Tryz.laysC172 t (by omega) h ev w h1 h2).mono ?_
  rintro e w' ⟨N, rfl, _, _, hb⟩
  exact ⟨hb, 0, _, rfl, by unfold okI; omega, .inr ⟨fun n hn => (by rw [h] at hn; cases hn), _, _, rfl⟩⟩
 ·
  obtain ⟨_, ⟨ev, h1, h2⟩⟩ := hok
  refine (Any.strconv_Atoi_range Tryz.laysC172 t (by omega) h ev w h1 h2).mono ?_
  rintro e w' ⟨N, rfl, _, _, hb⟩
  exact ⟨hb, _, _, rfl, by unfold okI Lib.atoiSat; split <;> omega, .inr ⟨fun n hn => (by rw [h] at hn; cases hn), _, _, rfl⟩⟩
theorem ItoaS_any (k : Nat) (w : World) (hk : k ≤ 16) : Calls Tryz.prog 34 #[.int .i64 (k : Int)] w fun e w' => e = .returned (.string (itB k)) ∧ w' = w := by
 refine (Tryz.strconv_Itoa_small k (by omega) w).mono ?_
 rintro e w' ⟨rfl, rfl⟩
 exact ⟨by rw [itB_dec], rfl⟩
/-- The reference's Number. -/
theorem RNumber27_any (p o : ByteArray) (w : World) (hp : p.size ≤ maxLen - 10) : Calls Tryz.prog 37 #[.string p, .string o] w fun e w' => e = .returned (.int .i64 (numR p o : Int)) ∧ w' = w := by
 unfold maxLen at hp
 have HS := Lib.hid hp; clear hp
 go_enter Tryz.func37, Tryz.ntmps37
 go_wp2_with fail
 go_loop [5] (fun i => ∃ k : Nat, (1 ≤ k ∧ k ≤ 17) ∧ i = .int .i64 (k : Int) ∧ Hid (numR p o = numGo p o (17 - k) k)) (fun i => 17 - (intOf i).toNat)
 case atStart => exact ⟨1, by omega, rfl, rfl⟩
 case round =>
  obtain ⟨k, hk, rfl, HA⟩ := hrel
  by_cases hlt : k ≤ 16
  ·
   have i1 : (k : Int) ≤ 16 := by omega
   have hadd1 : ¬ 9223372036854775807 < p.size + 1 := by have := HS.out; omega
   go_wp2_with fail
   refine (ItoaS_any k _ hlt).mono ?_
   rintro e w1 ⟨rfl, rfl⟩
   obtain ⟨n, hn⟩ : ∃ n, 17 - k = n + 1 := ⟨16 - k, by omega⟩
   have h1 := HA.out
   rw [hn, numGo_step] at h1
   have hsz := itB_size hlt
   obtain ⟨z, hz⟩ : ∃ z, itB k = z := ⟨_, rfl⟩
   rw [show partS p k = (p ++ ⟨#[112]⟩) ++ z by unfold partS; rw [hz]] at h1
   rw [hz] at hsz ⊢
   have hadd2 : ¬ 9223372036854775807 < (p ++ ⟨#[112]⟩ : ByteArray).size + z.size := by
    have := HS.out
    rw [ByteArray.size_append]
    have h5 : (⟨#[112]⟩ : ByteArray).size = 1 := rfl
    omega
   by_cases heq : o = (p ++ ⟨#[112]⟩) ++ z
   ·
    rw [if_pos heq] at h1
    have p1 : (o.toList == ((p ++ ⟨#[112]⟩) ++ z).toList) = true := by rw [ba_beq]; exact decide_eq_true heq
    have H1 := Lib.hid h1; clear h1 heq hz hn
    go_wp2
    go_ret
    exact ⟨ret_int (by rw [H1.out]), rfl⟩
   ·
    rw [if_neg heq] at h1
    have p1 : (o.toList == ((p ++ ⟨#[112]⟩) ++ z).toList) = false := by rw [ba_beq]; exact decide_eq_false heq
    have H1 := Lib.hid (show numR p o = numGo p o (17 - (k + 1)) (k + 1) by rw [h1]; congr 1; omega); clear h1 heq hz hn
    go_wp2
    go_round
    case rel => exact ⟨k + 1, by omega, by go_num, H1⟩
    case measure => simp [intOf]; omega
  ·
   have hk2 : k = 17 := by omega
   have i1 : ¬ (k : Int) ≤ 16 := by omega
   have HR := Lib.hid (show numR p o = 0 by have := HA.out; rw [this, hk2]; rfl)
   go_wp2
   go_ret
   exact ⟨ret_int (by rw [HR.out]; rfl), rfl⟩
end Go.Proofs.YtehmidmoiamcfaaGreatDoor
namespace Go.Cold
open Go Go.RowKit
end Go.Cold
