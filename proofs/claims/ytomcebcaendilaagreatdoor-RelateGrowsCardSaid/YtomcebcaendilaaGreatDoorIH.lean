/-
  The walks of coldplugworld: Tree and Some.
-/
import Derived.Test.YtomcebcaendilaaGreatDoorIG
set_option linter.unusedSimpArgs false
set_option linter.unusedVariables false
namespace Go.Cold
open Go Go.RowKit
/-- Where Tree stands: the result's box g4, the tree's box g5, the list L behind g5. -/
def TrSt (w0 : World) (B b : Nat) (xs : List Int) (k g4 g5 : Nat) (A : Option Addr) (c : Nat) (L : List Dev) (w : World) : Prop :=
 TapeAt w B b xs k ∧ w0.grownBy w (some b) ∧ BoxL w g4 [.slice none 0 0] ∧ BoxL w g5 [.slice A L.length c] ∧ SlS w (fun x => g5 < x ∧ x < w.heap.size) A c L
def TrK (w0 : World) (B b g4 g5 : Nat) : Prop := b < w0.heap.size ∧ B ≤ b ∧ w0.heap.size ≤ g4 ∧ g4 < g5
section
variable {w0 w w' : World} {B b k k' g4 g5 c : Nat} {xs : List Int} {A : Option Addr} {L : List Dev}
theorem TrSt.tape (h : TrSt w0 B b xs k g4 g5 A c L w) (K : TrK w0 B b g4 g5) (ht : TapeAt w' B b xs k') (hg : w.grownBy w' (some b)) : TrSt w0 B b xs k' g4 g5 A c L w' := by
 obtain ⟨h1, h2, h3, h4, h5⟩ := h
 obtain ⟨a1, a2, a3, a4⟩ := K
 exact ⟨ht, grown_trans h2 hg, h3.kept hg (fun e => by have := Option.some.inj e; omega), h4.kept hg (fun e => by have := Option.some.inj e; omega),
  h5.mono (fun x hx => ⟨hx.1, by have := hg.size; omega⟩) (fun x o u hx hu => hg.cell hu (fun e => by have h : x = b := Option.some.inj e; omega))⟩
theorem TrSt.below (h : TrSt w0 B b xs k g4 g5 A c L w) (hb : Below w.heap.size w w') : TrSt w0 B b xs k g4 g5 A c L w' := by
 obtain ⟨h1, h2, h3, h4, h5⟩ := h
 exact ⟨h1.kept (grown_none hb) (fun e => by cases e) (fun g e => by cases e), grown_below h2 hb, h3.kept (grown_none hb) (fun e => by cases e), h4.kept (grown_none hb) (fun e => by cases e),
  h5.mono (fun x hx => ⟨hx.1, by have := hb.size; omega⟩) (fun x o u hx hu => (hb.cell (p := ⟨x, o, none⟩) (by exact hx.2)).trans hu)⟩
theorem TrSt.drew (h : TrSt w0 B b xs k g4 g5 A c L w) : TrSt w0 B b xs k g4 g5 A c L w.drew := h.below (below_drewN_self w _ 1)
/-- Another list is laid behind g5. -/
theorem TrSt.put {A' : Option Addr} {c' : Nat} {L' : List Dev} (h : TrSt w0 B b xs k g4 g5 A c L w) (K : TrK w0 B b g4 g5) (hs : SlS w (fun x => g5 < x ∧ x < w.heap.size) A' c' L') : TrSt w0 B b xs k g4 g5 A' c' L' (w.setCell ⟨g5, 0, none⟩ (.slice A' L'.length c')) := by
 obtain ⟨h1, h2, h3, h4, h5⟩ := h
 obtain ⟨a1, a2, a3, a4⟩ := K
 exact ⟨h1.set_ (by omega) (by omega) _, grown_set h2 (by omega) _, h3.far (by omega) _, h4.set_ (j := 0) (by simp) _, (hs.set_ (fun x hx => by omega) _).mono (fun x hx => ⟨hx.1, by simpa using hx.2⟩) (fun _ _ _ _ hu => hu)⟩
theorem TrSt.treeIn (h : TrSt w0 B b xs k g4 g5 A c L w) (K : TrK w0 B b g4 g5) : TreeIn w b (fun x => g5 < x ∧ x < w.heap.size) A c L := by
 obtain ⟨a1, a2, a3, a4⟩ := K
 exact ⟨h.2.2.2.2, fun x hx => by omega, fun x hx => hx.2⟩
end
theorem VT_tree {L : List Dev} {d : Dev} (h : VT L) (he : insE L d = 0) : VT (insR L d) ∧ (insR L d).length = L.length + 1 := by
 unfold insR
 rw [if_pos he]
 exact ⟨(ins_VT h he).1, ins_length L d⟩
end Go.Cold
namespace Go.Proofs.YtomcebcaendilaaGreatDoor
open Go.RowKit Go.Cold
def NotG (b : Nat) : Prop := ¬ b = 0
theorem Ok.tape {w w' : World} {b : Nat} (h : Ok w) (hg : w.grownBy w' (some b)) (hb : NotG b) : Ok w' := by
 obtain ⟨m, hm⟩ := h
 exact ⟨m, hg.cell hm (fun e => hb (Option.some.inj e).symm)⟩
theorem info_tree2 : (Tryz.prog.info? 27).map (fun i => (i.zero, i.size)) = some (some (.agg #[.slice none 0 0]), 1) := by kernel_rfl
end Go.Proofs.YtomcebcaendilaaGreatDoor
