/-
  The walk of the reference's Set.
-/
import Derived.Test.YtehmidmoiamcfaaGreatDoorIE
import Derived.Test.YtehmidmoiamcfaaGreatDoorID
import Derived.Deep.RegionHeld3
import Derived.Deep.DeepCutAuto
import Derived.StillTailTactics
set_option linter.unusedSimpArgs false
set_option linter.unusedVariables false
namespace Go.Proofs.YtehmidmoiamcfaaGreatDoor
open Go.RowKit Go.Cold
theorem info_attr : (Tryz.prog.info? 63).map (fun i => (i.zero, i.size, i.bytes)) = some (some (.agg #[.string ByteArray.empty, .string ByteArray.empty]), 2, 32) := by kernel_rfl
theorem E_attr : ElemT Tryz.prog (Rep.size Attr) 63 41 32 := ⟨Tryz.underlying41, by obtain ⟨i, hi, hz, h1, h2⟩ := info_parts info_attr; exact ⟨i, _, hi, hz, h1, h2, rfl⟩⟩
theorem E_dev : ElemT Tryz.prog (Rep.size Dev) 43 55 136 := ⟨Tryz.underlying55, by obtain ⟨i, hi, hz, h1, h2⟩ := info_parts info_dev; exact ⟨i, _, hi, hz, h1, h2, rfl⟩⟩
end Go.Proofs.YtehmidmoiamcfaaGreatDoor
namespace Go.Cold
open Go Go.RowKit
theorem getD_mem {ys : List ByteArray} {m : Nat} (h : m < ys.length) : ys.getD m ⟨#[]⟩ ∈ ys := by
 rw [List.getD_eq_getElem?_getD, List.getElem?_eq_getElem h]
 exact List.getElem_mem h
/-- Data that lie in old blocks other than b stay while block b is written. -/
theorem SlS.tape {α : Type} [RepS α] {w w' : World} {A : Option Addr} {c b : Nat} {xs : List α} {S : Nat → Prop} (h : SlS w S A c xs) (hg : w.grownBy w' (some b)) (hS : ∀ x, S x → x ≠ b) : SlS w' S A c xs :=
 h.mono (fun _ hb => hb) (fun x o u hx hu => hg.cell hu (fun e => hS x hx (Option.some.inj e)))
end Go.Cold
namespace Go.Proofs.YtehmidmoiamcfaaGreatDoor
open Go.RowKit Go.Cold
def OneL (xs : List Int) (k B b : Nat) (ys : List ByteArray) (w : World) (e : Ending) (w' : World) : Prop := ∃ y, y ∈ ys ∧ e = .returned (.string y) ∧ TapeAt w' B b xs (k + 1) ∧ w.grownBy w' (some b)
theorem One_lit (ys : List ByteArray) (xs : List Int) (k B b : Nat) (cs : Array Value) (T : TypeId) (w : World) (n : Nat) (hcs : cs.toList = ys.map Value.string) (hn : n = ys.length) (hk : k ≤ 2 ^ 40) (ht : TapeAt w B b xs k) (h0 : 1 < ys.length) (hy : ys.length ≤ 100) :
  Calls Tryz.prog 22 #[.pointer (some ⟨b, 0, none⟩), .slice (some ⟨w.heap.size, 0, none⟩) n n] (w.alloc (.cells cs T)) (OneL xs k B b ys w) := by
 subst hn
 have hlt : b < w.heap.size := by obtain ⟨_, _, _, _, _, _, _, h⟩ := ht; exact h
 have hB : B ≤ w.heap.size := by obtain ⟨_, _, _, _, _, _, h1, h2⟩ := ht; omega
 have hb : Below w.heap.size w (w.alloc (.cells cs T)) := (Below.refl _ _).alloc (Nat.le_refl _) _
 refine (One_any xs k B b ys w.heap.size 0 ys.length (w.alloc (.cells cs T)) hk (ht.kept (grown_none hb) (fun e => by cases e) (fun g e => by cases e)) h0 hy (Nat.le_refl _) (by unfold maxLen; omega) (by omega) (fun i y hi => ?_)).mono ?_
 ·
  rw [Nat.zero_add, World.cell?_alloc_at _ _ _ _ rfl]
  have h1 : cs.toList[i]? = some (.string y) := by rw [hcs, List.getElem?_map, hi]; rfl
  rw [Array.getElem?_toList] at h1; exact h1
 ·
  rintro e w' ⟨rfl, h1, h2⟩
  have hf := @foldI_range (tapeI xs k) ys.length (by omega)
  exact ⟨_, getD_mem (by omega), rfl, h1, grown_trans (grown_none hb |> fun h => ⟨h.os, h.tape, h.output, h.size, fun k hk _ => h.block k hk (by simp)⟩) h2⟩
def NextL (lo hi : Int) (xs : List Int) (k B b : Nat) (w : World) (e : Ending) (w' : World) : Prop := ∃ n : Int, lo ≤ n ∧ n < hi ∧ e = .returned (.int .i64 n) ∧ TapeAt w' B b xs (k + 1) ∧ w.grownBy w' (some b)
theorem Next_lit (n : Int) (xs : List Int) (k B b : Nat) (w : World) (hk : k ≤ 2 ^ 40) (ht : TapeAt w B b xs k) (h1 : 1 ≤ n) (h2 : n ≤ 1000000) : Calls Tryz.prog 23 #[.pointer (some ⟨b, 0, none⟩), .int .i64 n] w (NextL 0 n xs k B b w) :=
 (Next_any xs k B b n w (by unfold okI; omega) hk ht).mono fun e w' ⟨h3, h4, h5⟩ => ⟨_, (foldI_pos h1).1, (foldI_pos h1).2, h3, h4, h5⟩
end Go.Proofs.YtehmidmoiamcfaaGreatDoor
namespace Go.Cold
open Go Go.RowKit
theorem set10_ind (P : World → Prop) {w : World} {g : Nat} (hs : ∀ w j v, P w → P (w.setCell ⟨g, j, none⟩ v)) (h : P w) (v0 v1 v2 v3 v4 v5 v6 v7 v8 v9 : Value) : P ((((((((((w.setCell ⟨g, 0, none⟩ (v0)).setCell ⟨g, 1, none⟩ (v1)).setCell ⟨g, 2, none⟩ (v2)).setCell ⟨g, 3, none⟩ (v3)).setCell ⟨g, 4, none⟩ (v4)).setCell ⟨g, 5, none⟩ (v5)).setCell ⟨g, 6, none⟩ (v6)).setCell ⟨g, 7, none⟩ (v7)).setCell ⟨g, 8, none⟩ (v8)).setCell ⟨g, 9, none⟩ (v9)) :=
 hs _ 9 _ (hs _ 8 _ (hs _ 7 _ (hs _ 6 _ (hs _ 5 _ (hs _ 4 _ (hs _ 3 _ (hs _ 2 _ (hs _ 1 _ (hs _ 0 _ (h))))))))))
theorem BoxL.set10 {w : World} {g : Nat} {c0 c1 c2 c3 c4 c5 c6 c7 c8 c9 : Value} (h : BoxL w g [c0, c1, c2, c3, c4, c5, c6, c7, c8, c9]) (v0 v1 v2 v3 v4 v5 v6 v7 v8 v9 : Value) : BoxL ((((((((((w.setCell ⟨g, 0, none⟩ (v0)).setCell ⟨g, 1, none⟩ (v1)).setCell ⟨g, 2, none⟩ (v2)).setCell ⟨g, 3, none⟩ (v3)).setCell ⟨g, 4, none⟩ (v4)).setCell ⟨g, 5, none⟩ (v5)).setCell ⟨g, 6, none⟩ (v6)).setCell ⟨g, 7, none⟩ (v7)).setCell ⟨g, 8, none⟩ (v8)).setCell ⟨g, 9, none⟩ (v9)) g [v0, v1, v2, v3, v4, v5, v6, v7, v8, v9] :=
 ((((((((((h.set_ (j := 0) (by simp) v0).set_ (j := 1) (by simp) v1).set_ (j := 2) (by simp) v2).set_ (j := 3) (by simp) v3).set_ (j := 4) (by simp) v4).set_ (j := 5) (by simp) v5).set_ (j := 6) (by simp) v6).set_ (j := 7) (by simp) v7).set_ (j := 8) (by simp) v8).set_ (j := 9) (by simp) v9)
theorem grown_any {w w' : World} {row : Option Nat} (hb : Below w.heap.size w w') : w.grownBy w' row := ⟨hb.os, hb.tape, hb.output, hb.size, fun k hk _ => hb.block k hk⟩
theorem SlS.set_ {α : Type} [RepS α] {w : World} {A : Option Addr} {c g j : Nat} {xs : List α} {S : Nat → Prop} (h : SlS w S A c xs) (hS : ∀ x, S x → x ≠ g) (v : Value) : SlS (w.setCell ⟨g, j, none⟩ v) S A c xs :=
 h.mono (fun _ hb => hb) (fun x o u hx hu => (cell_set_far w ⟨g, j, none⟩ v x o (fun e => hS x hx e.symm)).trans hu)
theorem SlS.below {α : Type} [RepS α] {w w' : World} {A : Option Addr} {c : Nat} {xs : List α} {S : Nat → Prop} (h : SlS w S A c xs) (hb : Below w.heap.size w w') (hS : ∀ x, S x → x < w.heap.size) : SlS w' S A c xs :=
 h.mono (fun _ hb => hb) (fun x o u hx hu => (hb.cell (p := ⟨x, o, none⟩) (hS x hx)).trans hu)
theorem SlS.sl {α : Type} [RepS α] {w : World} {A : Option Addr} {c B : Nat} {xs : List α} {S : Nat → Prop} (h : SlS w S A c xs) (hS : ∀ x, S x → x < B) : Sl w B A c xs := SlS_iff.2 (h.mono hS (fun _ _ _ _ hu => hu))
def FlOk (fl : Bool) (n : Nat) : Prop := fl = true → 0 < n
/-- Where Device stands: the tree's box g3, the result's g4, the device's g5 with the attributes in blocks of S. -/
structure DvK (w0 : World) (B b g3 g4 g5 : Nat) (S : Nat → Prop) : Prop where
 lt : b < w0.heap.size
 le : B ≤ b
 i3 : w0.heap.size ≤ g3
 i4 : g3 < g4
 i5 : g4 < g5
 s : ∀ x, S x → g4 < x ∧ x ≠ g5
def StD (w0 : World) (B b : Nat) (xs : List Int) (k g3 g4 g5 : Nat) (t3 : Value) (cs : List Value) (S : Nat → Prop) (A : Option Addr) (c : Nat) (l : List Attr) (w : World) : Prop :=
 TapeAt w B b xs k ∧ w0.grownBy w (some b) ∧ BoxL w g3 [t3] ∧ BoxL w g4 zero10 ∧ BoxL w g5 cs ∧ SlS w S A c l ∧ ∀ x, S x → x < w.heap.size
section
variable {w0 w w' : World} {B b k k' g3 g4 g5 c : Nat} {xs : List Int} {t3 : Value} {cs : List Value} {S : Nat → Prop} {A : Option Addr} {l : List Attr}
theorem StD.tape (h : StD w0 B b xs k g3 g4 g5 t3 cs S A c l w) (K : DvK w0 B b g3 g4 g5 S) (ht : TapeAt w' B b xs k') (hg : w.grownBy w' (some b)) : StD w0 B b xs k' g3 g4 g5 t3 cs S A c l w' := by
 obtain ⟨h1, h2, h3, h4, h5, h6, h7⟩ := h
 obtain ⟨a1, a2, a3, a4, a5, a6⟩ := K
 exact ⟨ht, grown_trans h2 hg, h3.kept hg (fun e => by have := Option.some.inj e; omega), h4.kept hg (fun e => by have := Option.some.inj e; omega), h5.kept hg (fun e => by have := Option.some.inj e; omega),
  h6.tape hg (fun x hx => by have := a6 x hx; omega), fun x hx => by have := h7 x hx; have := hg.size; omega⟩
theorem StD.below (h : StD w0 B b xs k g3 g4 g5 t3 cs S A c l w) (hb : Below w.heap.size w w') : StD w0 B b xs k g3 g4 g5 t3 cs S A c l w' := by
 obtain ⟨h1, h2, h3, h4, h5, h6, h7⟩ := h
 exact ⟨h1.kept (grown_none hb) (fun e => by cases e) (fun g e => by cases e), grown_below h2 hb, h3.kept (grown_none hb) (fun e => by cases e), h4.kept (grown_none hb) (fun e => by cases e), h5.kept (grown_none hb) (fun e => by cases e), h6.below hb h7, fun x hx => by have := h7 x hx; have := hb.size; omega⟩
theorem StD.set_ (h : StD w0 B b xs k g3 g4 g5 t3 cs S A c l w) (K : DvK w0 B b g3 g4 g5 S) {j : Nat} (hj : j < cs.length) (v : Value) : StD w0 B b xs k g3 g4 g5 t3 (cs.set j v) S A c l (w.setCell ⟨g5, j, none⟩ v) := by
 obtain ⟨h1, h2, h3, h4, h5, h6, h7⟩ := h
 obtain ⟨a1, a2, a3, a4, a5, a6⟩ := K
 exact ⟨h1.set_ (by omega) (by omega) v, grown_set h2 (by omega) v, h3.far (by omega) v, h4.far (by omega) v, h5.set_ hj v, h6.set_ (fun x hx => (a6 x hx).2) v, fun x hx => by simpa using h7 x hx⟩
theorem StD.drew (h : StD w0 B b xs k g3 g4 g5 t3 cs S A c l w) : StD w0 B b xs k g3 g4 g5 t3 cs S A c l w.drew := h.below (below_drewN_self w _ 1)
/-- The attributes are exchanged: the new ones lie in blocks of S'. -/
theorem StD.other {S' : Nat → Prop} {A' : Option Addr} {c' : Nat} {l' : List Attr} (h : StD w0 B b xs k g3 g4 g5 t3 cs S A c l w) (h6 : SlS w S' A' c' l') (h7 : ∀ x, S' x → x < w.heap.size) : StD w0 B b xs k g3 g4 g5 t3 cs S' A' c' l' w := by
 obtain ⟨h1, h2, h3, h4, h5, -, -⟩ := h
 exact ⟨h1, h2, h3, h4, h5, h6, h7⟩
end
/-- The tree is where one can read it: the list L, its data in blocks of S, none of them the tape's. -/
structure TreeIn (w : World) (b : Nat) (S : Nat → Prop) (A : Option Addr) (c : Nat) (L : List Dev) : Prop where
 sl : SlS w S A c L
 ne : ∀ x, S x → x ≠ b
 lt : ∀ x, S x → x < w.heap.size
theorem TreeIn.tape {w w' : World} {b : Nat} {S : Nat → Prop} {A : Option Addr} {c : Nat} {L : List Dev} (h : TreeIn w b S A c L) (hg : w.grownBy w' (some b)) : TreeIn w' b S A c L :=
 ⟨h.sl.tape hg h.ne, h.ne, fun x hx => by have := h.lt x hx; have := hg.size; omega⟩
theorem TreeIn.out {w : World} {b : Nat} {S : Nat → Prop} {A : Option Addr} {c : Nat} {L : List Dev} (h : TreeIn w b S A c L) : Sl w w.heap.size A c L := h.sl.sl h.lt
end Go.Cold
namespace Go.Proofs.YtehmidmoiamcfaaGreatDoor
open Go.RowKit Go.Cold
end Go.Proofs.YtehmidmoiamcfaaGreatDoor
