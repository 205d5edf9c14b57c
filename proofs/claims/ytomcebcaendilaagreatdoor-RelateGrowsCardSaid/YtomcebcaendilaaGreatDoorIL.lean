/-
  A law for ranges over functions whose iterators write blocks of their own between two rounds, and whose rounds never leave the loop. No program is named here.
-/
import Derived.Test.YtomcebcaendilaaGreatDoorID
import Derived.RangeFuncNested
import Derived.RangeFuncBound
import Derived.RangeFuncCalls
import Derived.RangeFuncLeaves
import Derived.Test.YtomcebcaendilaaGreatDoorII
import Derived.Shelf.RegionOpen
import Derived.OwnWalkIn
import Derived.TacticsInMore
import Derived.LoopNIn
import Derived.LoopIn
import Derived.Test.YtomcebcaendilaaGreatDoorIK
set_option linter.unusedSimpArgs false
set_option linter.unusedVariables false
namespace Go.Cold
open Go Go.RowKit
/-- What a round keeps: the blocks of Z. -/
def KpZ (Z : Nat → Prop) (W W' : World) : Prop := W.heap.size ≤ W'.heap.size ∧ ∀ k, k < W.heap.size → Z k → W'.heap[k]? = W.heap[k]?
theorem KpZ.refl (Z : Nat → Prop) (W : World) : KpZ Z W W := ⟨Nat.le_refl _, fun _ _ _ => rfl⟩
theorem KpZ.trans {Z : Nat → Prop} {A B C : World} (h : KpZ Z A B) (k : KpZ Z B C) : KpZ Z A C := ⟨Nat.le_trans h.1 k.1, fun i hi hz => (k.2 i (Nat.lt_of_lt_of_le hi h.1) hz).trans (h.2 i hi hz)⟩
theorem KpZ.below {Z : Nat → Prop} {W W' : World} (h : Below W.heap.size W W') : KpZ Z W W' := ⟨h.size, fun k hk _ => h.block k hk⟩
theorem KpZ.grown {Z : Nat → Prop} {W W' : World} {b : Nat} (h : W.grownBy W' (some b)) (hb : ¬ Z b) : KpZ Z W W' := ⟨h.size, fun k hk hz => h.block k hk (fun e => hb (by rw [← Option.some.inj e]; exact hz))⟩
/-- The iterator's own steps leave the caller's word alone: new blocks; one of its own blocks. (N: the caller's own blocks lie below N.) -/
def Abid {α : Type} (own : Nat → Prop) (J : List α → Nat → World → Prop) : Prop := ∀ pre N X Y, J pre N X → (Below X.heap.size X Y ∨ ∃ k, own k ∧ X.grownBy Y (some k)) → J pre N Y
/-- The iterator's contract: a round keeps the blocks of Z, and those that the iterator has made since the last one. -/
def SeqT {α : Type} (F : Fence) (n : Nat) (P : Program) (gf : Nat) (lb : Array Value) (encs : α → Array Value) (S : List α → Prop) (Nx : List α → α → World → Prop) (own Z : Nat → Prop) (w : World) : Prop :=
 ∀ (l : Nat) (JJ : List α → Nat → World → Prop) (W : World), Below w.heap.size w W → W.heap.size = w.heap.size + 2 → Abid own JJ →
  (∀ pre x N W1, JJ pre N W1 → N ≤ W1.heap.size → Nx pre x W1 → YieldAt F (n - 1) P l (encs x) W1 fun e W' => e = .returned (.bool true) ∧ JJ (pre ++ [x]) W'.heap.size W' ∧ KpZ (fun k => Z k ∨ N ≤ k) W1 W') →
  JJ [] W.heap.size W → CallsIn F n P gf (#[.func (.yield l) #[] #[]] ++ lb) W fun e W' => (∃ v, e = .returned v) ∧ ∃ xs N, S xs ∧ JJ xs N W'
/-- How a round's body ends. -/
def roundP {α : Type} (J : List α → Nat → World → Prop) (Z : Nat → Prop) (l D : Nat) (xs : List α) (N : Nat) (W : World) : Exit → Act → World → Prop
 | .normal, _, W' => J xs W'.heap.size W' ∧ KpZ (fun k => Z k ∨ N ≤ k) W W' ∧ W'.heap[l]? = W.heap[l]? ∧ W'.heap[D]? = W.heap[D]?
 | _, _, _ => False
variable {F : Fence} {n : Nat} {P : Program}
theorem wpIn_range {α : Type} {g : Operand} {ps : Array Tmp} {assign body : Code} {Q : Exit → Act → World → Prop} {a : Act} {w : World}
  (hro : F.round = none) (h1 : 1 ≤ n) {gf : Nat} {lb : Array Value} (hg : a.eval g = .func (.func gf) #[] lb) (hFg : F.fn gf) (eg : ∀ args w, (callFunc gf args).run P w = .ok (.enter gf args) w)
  {encs : α → Array Value} {S : List α → Prop} {Nx : List α → α → World → Prop} {own Z : Nat → Prop} (hseq : SeqT F (n - 1) P gf lb encs S Nx own Z w)
  (hps : ∀ x, (encs x).size = ps.size) (hown : ∀ k, own k → k ≠ w.heap.size ∧ k ≠ w.heap.size + 1) (hZ : ¬ Z (w.heap.size + 1))
  (J : List α → Nat → World → Prop) (hJ : Abid own J) (hJl : ∀ pre N X o, J pre N X → J pre N (X.putObj (w.heap.size + 1) o))
  (hJ0 : ∀ W, Below w.heap.size w W → W.heap.size = w.heap.size + 2 → J [] (w.heap.size + 2) W)
  (hNx : ∀ pre x X Y, Nx pre x X → (∀ k, k < w.heap.size → Y.heap[k]? = X.heap[k]?) → Nx pre x Y)
  (cs : α → Array Value) (T : TypeId) (a₁ : α → Nat → Act)
  (hassign : ∀ (l : Nat) (x : α) (W : World) (K : Act → World → Prop), K (a₁ x W.heap.size) (W.alloc (.cells (cs x) T)) →
   assign.wpIn (F.inRound l) (n - 1 - 1) P (Exit.then K (fun _ _ _ => False)) { tmps := (ps.zip (encs x)).foldl (fun t (p, v) => t.setIfInBounds p v) a.tmps, defers := [] } W)
  (hbody : ∀ (pre : List α) (x : α) (N : Nat) (W : World) (g7 : Nat), J pre N W → w.heap.size + 2 ≤ N → N ≤ g7 → Nx pre x W → BoxL W g7 (cs x).toList → w.heap.size + 2 ≤ W.heap.size →
   body.wpIn (F.inRound (w.heap.size + 1)) (n - 1 - 1) P (roundP J Z (w.heap.size + 1) w.heap.size (pre ++ [x]) N W) (a₁ x g7) W)
  (hdone : ∀ (xs : List α) (N : Nat) (W : World), S xs → J xs N W → W.heap[w.heap.size]? = some (.deferred (some [])) → Q .normal { a with defers := { target := .collected w.heap.size, args := #[] } :: a.defers } W) :
  (Code.rangeFunc g ps assign body).wpIn F n P Q a w := by
 refine wpIn_rangeFunc ?_
 intro fn hfn
 rw [hro]
 obtain ⟨rec, hrec⟩ : ∃ rec : LoopState → Option Code → Loop, rec = fun st pe => { state := st, pending := pe, fn, tmps := a.tmps, params := ps, assign, body, defers := w.heap.size } := ⟨_, rfl⟩
 obtain ⟨W1, hW1⟩ : ∃ W1, (w.alloc (.deferred (some []))).alloc (.loop (rec .ready none)) = W1 := ⟨_, rfl⟩
 have hL1 : W1.heap[w.heap.size + 1]? = some (.loop (rec .ready none)) := by
  rw [← hW1]; have := World.alloc_heap_new (w.alloc (.deferred (some []))) (.loop (rec .ready none)); rwa [World.size_alloc] at this
 have hK1 : W1.heap[w.heap.size]? = some (.deferred (some [])) := by
  rw [← hW1]; exact (Below.heap_alloc _ _ _ (by simp)).trans (World.alloc_heap_new w _)
 have hb1 : Below w.heap.size w W1 := by
  rw [← hW1]; exact ((Below.refl _ w).alloc (Nat.le_refl _) _).alloc (by simp) _
 have hs1 : W1.heap.size = w.heap.size + 2 := by rw [← hW1]; simp
 refine ⟨w.heap.size + 1, [{ target := .collected w.heap.size, args := #[] }], W1, { target := .fn (.func gf) lb, args := #[.func (.yield (w.heap.size + 1)) #[] #[]] }, W1, gf,
  #[.func (.yield (w.heap.size + 1)) #[] #[]] ++ lb, W1, ?_, ?_, ?_, ?_, fun _ => h1, ?_⟩
 · rw [← hW1, hrec]; exact run_enterLoop_outer _ _ _ _ _
 ·
  simp only [resolve, hg]
  simp [go_sem]
 · intro f' hf'; simp [Target.leads] at hf'; subst hf'; exact hFg
 · simp [invoke, go_sem, eg]
 ·
  refine (hseq (w.heap.size + 1)
   (fun pre N W => (J pre N W ∧ w.heap.size + 2 ≤ N) ∧ W.heap[w.heap.size + 1]? = some (.loop (rec .ready none)) ∧ W.heap[w.heap.size]? = some (.deferred (some [])))
   W1 hb1 hs1
   (fun pre N X Y hs hst => ⟨⟨hJ pre N X Y hs.1.1 hst, hs.1.2⟩, by
    rcases hst with hst | ⟨k, hk, hst⟩
    · exact (hst.block _ (Array.getElem?_eq_some_iff.1 hs.2.1).1).trans hs.2.1
    · exact (hst.block _ (Array.getElem?_eq_some_iff.1 hs.2.1).1 (fun e => (hown k hk).2 (Option.some.inj e).symm)).trans hs.2.1, by
    rcases hst with hst | ⟨k, hk, hst⟩
    · exact (hst.block _ (Array.getElem?_eq_some_iff.1 hs.2.2).1).trans hs.2.2
    · exact (hst.block _ (Array.getElem?_eq_some_iff.1 hs.2.2).1 (fun e => (hown k hk).1 (Option.some.inj e).symm)).trans hs.2.2⟩)
   ?_ ⟨⟨by rw [hs1]; exact hJ0 W1 hb1 hs1, by omega⟩, hL1, hK1⟩).mono ?_
  ·
   rintro pre x N W ⟨⟨hi, hN⟩, hl, hk⟩ hNW hnx
   have hlt : w.heap.size + 1 < W.heap.size := (Array.getElem?_eq_some_iff.1 hl).1
   have hy := run_yield (P := P) (args := encs x) hl (by rw [hrec]; exact hps x)
   rw [hrec] at hy
   refine ⟨fn, _, assign, body, hy, roundIn_of_wpIn hfn (hassign _ x W _ ?_)⟩
   -- the box
   obtain ⟨Wb, hWb⟩ : ∃ z, W.alloc (.cells (cs x) T) = z := ⟨_, rfl⟩
   have hbb : Below W.heap.size W Wb := by rw [← hWb]; exact (Below.refl _ _).alloc (Nat.le_refl _) _
   have hxb : BoxL Wb W.heap.size (cs x).toList := box_mk hWb
   have hlb : Wb.heap[w.heap.size + 1]? = some (.loop (rec .ready none)) := (hbb.block _ hlt).trans hl
   have hkb : Wb.heap[w.heap.size]? = some (.deferred (some [])) := (hbb.block _ (by omega)).trans hk
   have hltb : w.heap.size + 1 < Wb.heap.size := by have := hbb.size; omega
   rw [hWb]
   refine ⟨_, run_beginRound hlb (by rw [hrec]), ?_⟩
   obtain ⟨Wc, hWc⟩ : ∃ z, Wb.putObj (w.heap.size + 1) (.loop { rec .ready none with state := .busy }) = z := ⟨_, rfl⟩
   rw [hWc]
   have hgc : Wb.grownBy Wc (some (w.heap.size + 1)) := by rw [← hWc]; exact grownBy_putObj' _ _ _
   have hl2 : Wc.heap[w.heap.size + 1]? = some (.loop { rec .ready none with state := .busy }) := by rw [← hWc]; exact World.putObj_heap_same hltb
   have hk2 : Wc.heap[w.heap.size]? = some (.deferred (some [])) := by rw [← hWc]; exact (World.putObj_heap_other (by omega)).trans hkb
   have hjc : J pre N Wc := by rw [← hWc]; exact hJl _ _ _ _ (hJ pre N W Wb hi (.inl hbb))
   have hold : ∀ k, k < w.heap.size → Wc.heap[k]? = W.heap[k]? := fun k hk => (hgc.block k (by omega) (fun e => by have := Option.some.inj e; omega)).trans (hbb.block k (by omega))
   have hZN : ¬ (Z (w.heap.size + 1) ∨ N ≤ w.heap.size + 1) := fun h => h.elim hZ (fun h => by omega)
   have hkp : KpZ (fun k => Z k ∨ N ≤ k) W Wc := (KpZ.below hbb).trans (KpZ.grown hgc hZN)
   refine wpIn_mono (hbody pre x N Wc W.heap.size hjc hN hNW (hNx _ _ _ _ hnx hold) (hxb.kept hgc (fun e => by have := Option.some.inj e; omega)) (by have := hbb.size; have := hgc.size; omega)) ?_
   rintro e a3 W3 hp
   cases e with
   | normal =>
    obtain ⟨hj3, hk3, hl3, hd3⟩ := hp
    rw [hl2] at hl3
    rw [hk2] at hd3
    have hr := run_endRound (P := P) none hl3
    have hlt3 : w.heap.size + 1 < W3.heap.size := (Array.getElem?_eq_some_iff.1 hl3).1
    refine ⟨_, _, hr, by simp, ⟨⟨by rw [World.putObj_size]; exact hJl _ _ _ _ hj3, by rw [World.putObj_size]; omega⟩, ?_, (World.putObj_heap_other (by omega)).trans hd3⟩, hkp.trans (hk3.trans (KpZ.grown (grownBy_putObj' _ _ _) hZN))⟩
    rw [World.putObj_heap_same hlt3, hrec]
    simp
   | ret => exact hp.elim
   | exit id => exact hp.elim
   | goto t => exact hp.elim
   | panic ch => exact hp.elim
   | outgrown => exact hp.elim
  ·
   rintro e W2 ⟨⟨v, rfl⟩, xs, N, hS, hi, hl, hk⟩
   exact ⟨none, _, by have := run_endLoop (P := P) hl (by rw [hrec]; simp); rw [hrec] at this; exact this, hdone xs N _ hS (hJl _ _ _ _ hi.1) ((World.putObj_heap_other (by omega)).trans hk)⟩
theorem fold_one (p : Nat) (v : Value) (t : Array Value) : ((#[p] : Array Tmp).zip #[v]).foldl (fun t (p, v) => t.setIfInBounds p v) t = t.setIfInBounds p v := by
 simp
/-- The law where the loop's variable is boxed and kept in slot p7. -/
theorem wpIn_rangeB {α : Type} (p0 p7 : Nat) {g : Operand} {assign body : Code} {Q : Exit → Act → World → Prop} {a : Act} {w : World}
  (hro : F.round = none) (h1 : 1 ≤ n) {gf : Nat} {lb : Array Value} (hg : a.eval g = .func (.func gf) #[] lb) (hFg : F.fn gf) (eg : ∀ args w, (callFunc gf args).run P w = .ok (.enter gf args) w)
  {enc : α → Value} {S : List α → Prop} {Nx : List α → α → World → Prop} {own Z : Nat → Prop} (hseq : SeqT F (n - 1) P gf lb (fun x => #[enc x]) S Nx own Z w)
  (hown : ∀ k, own k → k ≠ w.heap.size ∧ k ≠ w.heap.size + 1) (hZ : ¬ Z (w.heap.size + 1))
  (J : List α → Nat → World → Prop) (hJ : Abid own J) (hJl : ∀ pre N X o, J pre N X → J pre N (X.putObj (w.heap.size + 1) o))
  (hJ0 : ∀ W, Below w.heap.size w W → W.heap.size = w.heap.size + 2 → J [] (w.heap.size + 2) W)
  (hNx : ∀ pre x X Y, Nx pre x X → (∀ k, k < w.heap.size → Y.heap[k]? = X.heap[k]?) → Nx pre x Y)
  (cs : α → Array Value) (T : TypeId)
  (hassign : ∀ (l : Nat) (x : α) (W : World) (K : Act → World → Prop), K { tmps := (a.tmps.setIfInBounds p0 (enc x)).setIfInBounds p7 (.pointer (some ⟨W.heap.size, 0, none⟩)), defers := [] } (W.alloc (.cells (cs x) T)) →
   assign.wpIn (F.inRound l) (n - 1 - 1) P (Exit.then K (fun _ _ _ => False)) { tmps := a.tmps.setIfInBounds p0 (enc x), defers := [] } W)
  (hbody : ∀ (pre : List α) (x : α) (N : Nat) (W : World) (g7 : Nat), J pre N W → w.heap.size + 2 ≤ N → N ≤ g7 → Nx pre x W → BoxL W g7 (cs x).toList → w.heap.size + 2 ≤ W.heap.size →
   body.wpIn (F.inRound (w.heap.size + 1)) (n - 1 - 1) P (roundP J Z (w.heap.size + 1) w.heap.size (pre ++ [x]) N W) { tmps := (a.tmps.setIfInBounds p0 (enc x)).setIfInBounds p7 (.pointer (some ⟨g7, 0, none⟩)), defers := [] } W)
  (hdone : ∀ (xs : List α) (N : Nat) (W : World), S xs → J xs N W → W.heap[w.heap.size]? = some (.deferred (some [])) → Q .normal { a with defers := { target := .collected w.heap.size, args := #[] } :: a.defers } W) :
  (Code.rangeFunc g #[p0] assign body).wpIn F n P Q a w :=
 wpIn_range hro h1 hg hFg eg hseq (fun x => rfl) hown hZ J hJ hJl hJ0 hNx cs T (fun x g7 => { tmps := (a.tmps.setIfInBounds p0 (enc x)).setIfInBounds p7 (.pointer (some ⟨g7, 0, none⟩)), defers := [] })
  (fun l x W K hK => by rw [fold_one]; exact hassign l x W K hK) hbody hdone
end Go.Cold
namespace Go.Cold
open Go Go.RowKit
theorem BoxL.kpz {Z : Nat → Prop} {W W' : World} {g : Nat} {cs : List Value} (h : BoxL W g cs) (hk : KpZ Z W W') (hz : Z g) : BoxL W' g cs := by
 obtain ⟨h1, hf, hlt⟩ := h
 have hh := hk.2 g hlt hz
 exact ⟨fun j u hu => (cell_heap hh j).trans (h1 j u hu), fun j => (frozen_heap hh j).trans (hf j), Nat.lt_of_lt_of_le hlt hk.1⟩
theorem Sl.kpz {α : Type} [RepS α] {Z : Nat → Prop} {W W' : World} {B c : Nat} {A : Option Addr} {xs : List α} (h : Sl W B A c xs) (hk : KpZ Z W W') (hB : B ≤ W.heap.size) (hz : ∀ k, k < B → Z k) : Sl W' B A c xs :=
 SlS_iff.2 ((SlS_iff.1 h).mono (fun _ h => h) (fun b o u hb hu => (cell_heap (hk.2 b (by omega) (hz b hb)) o).trans hu))
theorem MapV.kpz {α : Type} [El α] {P : Program} {k e : TypeId} {W W' : World} {b n : Nat} {f : Int → Option α} {Z : Nat → Prop} (h : MapV P k e W b n f) (hk : KpZ Z W W') (hz : Z b) : MapV P k e W' b n f := by
 have hlt := h.lt
 obtain ⟨D, ⟨es, clock, h1, h2⟩, h3⟩ := h
 exact ⟨D, ⟨es, clock, (hk.2 b hlt hz).trans h1, h2⟩, h3⟩
section
variable {P : Program} {tI : TypeId} {gv gi bp bo c N B : Nat} {A : Option Addr} {L : List Dev} {m m' : Int} {W W' : World}
end
abbrev DevX := Dev × Option Addr × Nat
def encV (x : DevX) : Value := .agg #[.int .i64 x.1.idx, .int .i64 x.1.par, .string x.1.nm, .string x.1.orig, .string x.1.sub, .string x.1.drv, .string x.1.ali, .int .i64 x.1.kind, .int .i64 x.1.num, .slice x.2.1 x.1.attrs.length x.2.2]
/-- What a round is handed: a device of the list that is due. -/
def nxX (B : Nat) (due : List Dev) (pre : List DevX) (x : DevX) (W : World) : Prop := (∃ t, pre.map (·.1) ++ x.1 :: t = due) ∧ devOk x.1 ∧ Sl W B x.2.1 x.2.2 x.1.attrs
end Go.Cold
namespace Go.Proofs.YtomcebcaendilaaGreatDoor
open Go.RowKit Go.Cold Go.Shelf
attribute [local go_sem] Oper.semAt_some
end Go.Proofs.YtomcebcaendilaaGreatDoor
namespace Go.Cold
open Go Go.RowKit
theorem nxX_keep {B n0 : Nat} {due : List Dev} (hB : B ≤ n0) : ∀ pre (x : DevX) X Y, nxX B due pre x X → (∀ k, k < n0 → Y.heap[k]? = X.heap[k]?) → nxX B due pre x Y := fun pre x X Y h hk =>
 ⟨h.1, h.2.1, SlS_iff.2 ((SlS_iff.1 h.2.2).mono (fun _ h => h) (fun b o u hb hu => (cell_heap (hk b (by omega)) o).trans hu))⟩
end Go.Cold
namespace Go.Proofs.YtomcebcaendilaaGreatDoor
open Go.RowKit Go.Cold Go.Shelf
attribute [local go_sem] Oper.semAt_some
end Go.Proofs.YtomcebcaendilaaGreatDoor
namespace Go.Cold
open Go Go.RowKit
end Go.Cold
namespace Go.Proofs.YtomcebcaendilaaGreatDoor
open Go.RowKit Go.Cold
end Go.Proofs.YtomcebcaendilaaGreatDoor
namespace Go.Cold
open Go Go.RowKit
end Go.Cold
namespace Go.Proofs.YtomcebcaendilaaGreatDoor
open Go.RowKit Go.Cold
end Go.Proofs.YtomcebcaendilaaGreatDoor
namespace Go.Cold
open Go Go.RowKit
end Go.Cold
namespace Go.Proofs.YtomcebcaendilaaGreatDoor
open Go.RowKit Go.Cold
theorem ok_of_shape (W : World) (h : W.ShapedOpen Tryz.prog) : Ok W := Tryz.laysM146.s1_3 W h
/-- A tape that a law has boxed. -/
theorem tape_new {w : World} {A : Option Addr} {c : Nat} {xs : List Int} (h : Sl w w.heap.size A c xs) : TapeAt (w.alloc (.cells #[.slice A xs.length c, .int .i64 0] 31)) w.heap.size w.heap.size xs 0 := by
 refine ⟨A, c, ?_, ?_, fun j => World.frozen?_alloc_at _ _ _ _ rfl, h.keep ((Below.refl _ _).alloc (Nat.le_refl _) _), Nat.le_refl _, by simp⟩ <;> (rw [World.cell?_alloc_at _ _ _ _ rfl]; rfl)
theorem notG_of {w : World} (h : Ok w) : NotG w.heap.size := by
 obtain ⟨m, hm⟩ := h
 have := block_lt_of_cell hm
 intro e
 rw [← e] at this
 exact absurd this (Nat.lt_irrefl _)
end Go.Proofs.YtomcebcaendilaaGreatDoor
