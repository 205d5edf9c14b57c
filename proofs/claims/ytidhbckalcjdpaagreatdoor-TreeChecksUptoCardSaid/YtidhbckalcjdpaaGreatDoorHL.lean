/-
  A law for ranges over functions whose iterators write blocks of their own between two rounds, and whose rounds never leave the loop. No program is named here.
-/
import Derived.Test.YtidhbckalcjdpaaGreatDoorHD
import Derived.RangeFuncNested
import Derived.RangeFuncBound
import Derived.RangeFuncCalls
import Derived.RangeFuncLeaves
import Derived.Test.YtidhbckalcjdpaaGreatDoorHI
import Derived.Shelf.RegionOpen
import Derived.OwnWalkIn
import Derived.TacticsInMore
import Derived.LoopNIn
import Derived.LoopIn
import Derived.Test.YtidhbckalcjdpaaGreatDoorHK
set_option linter.unusedSimpArgs false
set_option linter.unusedVariables false
namespace Go.Cold
open Go Go.RowKit
/-- What a round keeps: the blocks of Z. -/
def KpZ (Z : Nat → Prop) (W W' : World) : Prop := W.heap.size ≤ W'.heap.size ∧ ∀ k, k < W.heap.size → Z k → W'.heap[k]? = W.heap[k]?
theorem KpZ.trans {Z : Nat → Prop} {A B C : World} (h : KpZ Z A B) (k : KpZ Z B C) : KpZ Z A C := ⟨Nat.le_trans h.1 k.1, fun i hi hz => (k.2 i (Nat.lt_of_lt_of_le hi h.1) hz).trans (h.2 i hi hz)⟩
theorem KpZ.below {Z : Nat → Prop} {W W' : World} (h : Below W.heap.size W W') : KpZ Z W W' := ⟨h.size, fun k hk _ => h.block k hk⟩
theorem KpZ.grown {Z : Nat → Prop} {W W' : World} {b : Nat} (h : W.grownBy W' (some b)) (hb : ¬ Z b) : KpZ Z W W' := ⟨h.size, fun k hk hz => h.block k hk (fun e => hb (by rw [← Option.some.inj e]; exact hz))⟩
/-- The iterator's own steps leave the caller's word alone: new blocks; one of its own blocks. (N: the caller's own blocks lie below N.) -/
def Abid {α : Type} (own : Nat → Prop) (J : List α → Nat → World → Prop) : Prop := ∀ pre N X Y, J pre N X → (Below X.heap.size X Y ∨ ∃ k, own k ∧ X.grownBy Y (some k)) → J pre N Y
/-- The iterator's contract: a round keeps the blocks of Z, and those that the iterator has made since the last one. -/
def SeqT {α : Type} (F : Fence) (n : Nat) (P : Program) (gf : Nat) (lb : Array Value) (encs : α → Array Value) (S : List α → Prop) (Nx : List α → α → World → Prop) (own Z : Nat → Prop) (w : World) : Prop :=
 ∀ (l : Nat) (JJ : List α → Nat → World → Prop) (W : World), Below w.heap.size w W → W.heap.size = w.heap.size + 2 → Abid own JJ →
  (∀ pre x N W1, JJ pre N W1 → N ≤ W1.heap.size → Nx pre x W1 → YieldAt F (n - 1) P l (encs x) W1 fun e W' => e = .returned (.bool true) ∧ JJ (pre ++ [x]) W'.heap.size W' ∧ KpZ (fun k => Z k ∨ N ≤ k) W1 W') →
  JJ [] W.heap.size W → CallsIn F n P gf (#[.func (.yield l) #[] #[]] ++ lb) W fun e W' => (∃ v, e = .returned v) ∧ ∃ xs N, S xs ∧ JJ xs N W'
/-- How a round's body ends. -/
def roundP {α : Type} (J : List α → Nat → World → Prop) (Z : Nat → Prop) (l D : Nat) (xs : List α) (N : Nat) (W : World) : Exit → Act → World → Prop
 | .normal, _, W' => J xs W'.heap.size W' ∧ KpZ (fun k => Z k ∨ N ≤ k) W W' ∧ W'.heap[l]? = W.heap[l]? ∧ W'.heap[D]? = W.heap[D]?
 | _, _, _ => False
variable {F : Fence} {n : Nat} {P : Program}
theorem wpIn_range {α : Type} {g : Operand} {ps : Array Tmp} {assign body : Code} {Q : Exit → Act → World → Prop} {a : Act} {w : World}
  (hro : F.round = none) (h1 : 1 ≤ n) {gf : Nat} {lb : Array Value} (hg : a.eval g = .func (.func gf) #[] lb) (hFg : F.fn gf) (eg : ∀ args w, (callFunc gf args).run P w = .ok (.enter gf args) w)
  {encs : α → Array Value} {S : List α → Prop} {Nx : List α → α → World → Prop} {own Z : Nat → Prop} (hseq : SeqT F (n - 1) P gf lb encs S Nx own Z w)
  (hps : ∀ x, (encs x).size = ps.size) (hown : ∀ k, own k → k ≠ w.heap.size ∧ k ≠ w.heap.size + 1) (hZ : ¬ Z (w.heap.size + 1))
  (J : List α → Nat → World → Prop) (hJ : Abid own J) (hJl : ∀ pre N X o, J pre N X → J pre N (X.putObj (w.heap.size + 1) o))
  (hJ0 : ∀ W, Below w.heap.size w W → W.heap.size = w.heap.size + 2 → J [] (w.heap.size + 2) W)
  (hNx : ∀ pre x X Y, Nx pre x X → (∀ k, k < w.heap.size → Y.heap[k]? = X.heap[k]?) → Nx pre x Y)
  (cs : α → Array Value) (T : TypeId) (a₁ : α → Nat → Act)
  (hassign : ∀ (l : Nat) (x : α) (W : World) (K : Act → World → Prop), K (a₁ x W.heap.size) (W.alloc (.cells (cs x) T)) →
   assign.wpIn (F.inRound l) (n - 1 - 1) P (Exit.then K (fun _ _ _ => False)) { tmps := (ps.zip (encs x)).foldl (fun t (p, v) => t.setIfInBounds p v) a.tmps, defers := [] } W)
  (hbody : ∀ (pre : List α) (x : α) (N : Nat) (W : World) (g7 : Nat), J pre N W → w.heap.size + 2 ≤ N → N ≤ g7 → Nx pre x W → BoxL W g7 (cs x).toList → w.heap.size + 2 ≤ W.heap.size →
   body.wpIn (F.inRound (w.heap.size + 1)) (n - 1 - 1) P (roundP J Z (w.heap.size + 1) w.heap.size (pre ++ [x]) N W) (a₁ x g7) W)
  (hdone : ∀ (xs : List α) (N : Nat) (W : World), S xs → J xs N W → W.heap[w.heap.size]? = some (.deferred (some [])) → Q .normal { a with defers := { target := .collected w.heap.size, args := #[] } :: a.defers } W) :
  (Code.rangeFunc g ps assign body).wpIn F n P Q a w := by
 refine wpIn_rangeFunc ?_
 intro fn hfn
 rw [hro]
 obtain ⟨rec, hrec⟩ : ∃ rec : LoopState → Option Code → Loop, rec = fun st pe => { state := st, pending := pe, fn, tmps := a.tmps, params := ps, assign, body, defers := w.heap.size } := ⟨_, rfl⟩
 obtain ⟨W1, hW1⟩ : ∃ W1, (w.alloc (.deferred (some []))).alloc (.loop (rec .ready none)) = W1 := ⟨_, rfl⟩
 have hL1 : W1.heap[w.heap.size + 1]? = some (.loop (rec .ready none)) := by
  rw [← hW1]; have := World.alloc_heap_new (w.alloc (.deferred (some []))) (.loop (rec .ready none)); rwa [World.size_alloc] at this
 have hK1 : W1.heap[w.heap.size]? = some (.deferred (some [])) := by
  rw [← hW1]; exact (Below.heap_alloc _ _ _ (by simp)).trans (World.alloc_heap_new w _)
 have hb1 : Below w.heap.size w W1 := by
  rw [← hW1]; exact ((Below.refl _ w).alloc (Nat.le_refl _) _).alloc (by simp) _
 have hs1 : W1.heap.size = w.heap.size + 2 := by rw [← hW1]; simp
 refine ⟨w.heap.size + 1, [{ target := .collected w.heap.size, args := #[] }], W1, { target := .fn (.func gf) lb, args := #[.func (.yield (w.heap.size + 1)) #[] #[]] }, W1, gf,
  #[.func (.yield (w.heap.size + 1)) #[] #[]] ++ lb, W1, ?_, ?_, ?_, ?_, fun _ => h1, ?_⟩
 · rw [← hW1, hrec]; exact run_enterLoop_outer _ _ _ _ _
 ·
  simp only [resolve, hg]
  simp [go_sem]
 · intro f' hf'; simp [Target.leads] at hf'; subst hf'; exact hFg
 · simp [invoke, go_sem, eg]
 ·
  refine (hseq (w.heap.size + 1)
   (fun pre N W => (J pre N W ∧ w.heap.size + 2 ≤ N) ∧ W.heap[w.heap.size + 1]? = some (.loop (rec .ready none)) ∧ W.heap[w.heap.size]? = some (.deferred (some [])))
   W1 hb1 hs1
   (fun pre N X Y hs hst => ⟨⟨hJ pre N X Y hs.1.1 hst, hs.1.2⟩, by
    rcases hst with hst | ⟨k, hk, hst⟩
    · exact (hst.block _ (Array.getElem?_eq_some_iff.1 hs.2.1).1).trans hs.2.1
    · exact (hst.block _ (Array.getElem?_eq_some_iff.1 hs.2.1).1 (fun e => (hown k hk).2 (Option.some.inj e).symm)).trans hs.2.1, by
    rcases hst with hst | ⟨k, hk, hst⟩
    · exact (hst.block _ (Array.getElem?_eq_some_iff.1 hs.2.2).1).trans hs.2.2
    · exact (hst.block _ (Array.getElem?_eq_some_iff.1 hs.2.2).1 (fun e => (hown k hk).1 (Option.some.inj e).symm)).trans hs.2.2⟩)
   ?_ ⟨⟨by rw [hs1]; exact hJ0 W1 hb1 hs1, by omega⟩, hL1, hK1⟩).mono ?_
  ·
   rintro pre x N W ⟨⟨hi, hN⟩, hl, hk⟩ hNW hnx
   have hlt : w.heap.size + 1 < W.heap.size := (Array.getElem?_eq_some_iff.1 hl).1
   have hy := run_yield (P := P) (args := encs x) hl (by rw [hrec]; exact hps x)
   rw [hrec] at hy
   refine ⟨fn, _, assign, body, hy, roundIn_of_wpIn hfn (hassign _ x W _ ?_)⟩
   -- the box
   obtain ⟨Wb, hWb⟩ : ∃ z, W.alloc (.cells (cs x) T) = z := ⟨_, rfl⟩
   have hbb : Below W.heap.size W Wb := by rw [← hWb]; exact (Below.refl _ _).alloc (Nat.le_refl _) _
   have hxb : BoxL Wb W.heap.size (cs x).toList := box_mk hWb
   have hlb : Wb.heap[w.heap.size + 1]? = some (.loop (rec .ready none)) := (hbb.block _ hlt).trans hl
   have hkb : Wb.heap[w.heap.size]? = some (.deferred (some [])) := (hbb.block _ (by omega)).trans hk
   have hltb : w.heap.size + 1 < Wb.heap.size := by have := hbb.size; omega
   rw [hWb]
   refine ⟨_, run_beginRound hlb (by rw [hrec]), ?_⟩
   obtain ⟨Wc, hWc⟩ : ∃ z, Wb.putObj (w.heap.size + 1) (.loop { rec .ready none with state := .busy }) = z := ⟨_, rfl⟩
   rw [hWc]
   have hgc : Wb.grownBy Wc (some (w.heap.size + 1)) := by rw [← hWc]; exact grownBy_putObj' _ _ _
   have hl2 : Wc.heap[w.heap.size + 1]? = some (.loop { rec .ready none with state := .busy }) := by rw [← hWc]; exact World.putObj_heap_same hltb
   have hk2 : Wc.heap[w.heap.size]? = some (.deferred (some [])) := by rw [← hWc]; exact (World.putObj_heap_other (by omega)).trans hkb
   have hjc : J pre N Wc := by rw [← hWc]; exact hJl _ _ _ _ (hJ pre N W Wb hi (.inl hbb))
   have hold : ∀ k, k < w.heap.size → Wc.heap[k]? = W.heap[k]? := fun k hk => (hgc.block k (by omega) (fun e => by have := Option.some.inj e; omega)).trans (hbb.block k (by omega))
   have hZN : ¬ (Z (w.heap.size + 1) ∨ N ≤ w.heap.size + 1) := fun h => h.elim hZ (fun h => by omega)
   have hkp : KpZ (fun k => Z k ∨ N ≤ k) W Wc := (KpZ.below hbb).trans (KpZ.grown hgc hZN)
   refine wpIn_mono (hbody pre x N Wc W.heap.size hjc hN hNW (hNx _ _ _ _ hnx hold) (hxb.kept hgc (fun e => by have := Option.some.inj e; omega)) (by have := hbb.size; have := hgc.size; omega)) ?_
   rintro e a3 W3 hp
   cases e with
   | normal =>
    obtain ⟨hj3, hk3, hl3, hd3⟩ := hp
    rw [hl2] at hl3
    rw [hk2] at hd3
    have hr := run_endRound (P := P) none hl3
    have hlt3 : w.heap.size + 1 < W3.heap.size := (Array.getElem?_eq_some_iff.1 hl3).1
    refine ⟨_, _, hr, by simp, ⟨⟨by rw [World.putObj_size]; exact hJl _ _ _ _ hj3, by rw [World.putObj_size]; omega⟩, ?_, (World.putObj_heap_other (by omega)).trans hd3⟩, hkp.trans (hk3.trans (KpZ.grown (grownBy_putObj' _ _ _) hZN))⟩
    rw [World.putObj_heap_same hlt3, hrec]
    simp
   | ret => exact hp.elim
   | exit id => exact hp.elim
   | goto t => exact hp.elim
   | panic ch => exact hp.elim
   | outgrown => exact hp.elim
  ·
   rintro e W2 ⟨⟨v, rfl⟩, xs, N, hS, hi, hl, hk⟩
   exact ⟨none, _, by have := run_endLoop (P := P) hl (by rw [hrec]; simp); rw [hrec] at this; exact this, hdone xs N _ hS (hJl _ _ _ _ hi.1) ((World.putObj_heap_other (by omega)).trans hk)⟩
theorem fold_one (p : Nat) (v : Value) (t : Array Value) : ((#[p] : Array Tmp).zip #[v]).foldl (fun t (p, v) => t.setIfInBounds p v) t = t.setIfInBounds p v := by
 simp
/-- The law where the loop's variable is boxed and kept in slot p7. -/
theorem wpIn_rangeB {α : Type} (p0 p7 : Nat) {g : Operand} {assign body : Code} {Q : Exit → Act → World → Prop} {a : Act} {w : World}
  (hro : F.round = none) (h1 : 1 ≤ n) {gf : Nat} {lb : Array Value} (hg : a.eval g = .func (.func gf) #[] lb) (hFg : F.fn gf) (eg : ∀ args w, (callFunc gf args).run P w = .ok (.enter gf args) w)
  {enc : α → Value} {S : List α → Prop} {Nx : List α → α → World → Prop} {own Z : Nat → Prop} (hseq : SeqT F (n - 1) P gf lb (fun x => #[enc x]) S Nx own Z w)
  (hown : ∀ k, own k → k ≠ w.heap.size ∧ k ≠ w.heap.size + 1) (hZ : ¬ Z (w.heap.size + 1))
  (J : List α → Nat → World → Prop) (hJ : Abid own J) (hJl : ∀ pre N X o, J pre N X → J pre N (X.putObj (w.heap.size + 1) o))
  (hJ0 : ∀ W, Below w.heap.size w W → W.heap.size = w.heap.size + 2 → J [] (w.heap.size + 2) W)
  (hNx : ∀ pre x X Y, Nx pre x X → (∀ k, k < w.heap.size → Y.heap[k]? = X.heap[k]?) → Nx pre x Y)
  (cs : α → Array Value) (T : TypeId)
  (hassign : ∀ (l : Nat) (x : α) (W : World) (K : Act → World → Prop), K { tmps := (a.tmps.setIfInBounds p0 (enc x)).setIfInBounds p7 (.pointer (some ⟨W.heap.size, 0, none⟩)), defers := [] } (W.alloc (.cells (cs x) T)) →
   assign.wpIn (F.inRound l) (n - 1 - 1) P (Exit.then K (fun _ _ _ => False)) { tmps := a.tmps.setIfInBounds p0 (enc x), defers := [] } W)
  (hbody : ∀ (pre : List α) (x : α) (N : Nat) (W : World) (g7 : Nat), J pre N W → w.heap.size + 2 ≤ N → N ≤ g7 → Nx pre x W → BoxL W g7 (cs x).toList → w.heap.size + 2 ≤ W.heap.size →
   body.wpIn (F.inRound (w.heap.size + 1)) (n - 1 - 1) P (roundP J Z (w.heap.size + 1) w.heap.size (pre ++ [x]) N W) { tmps := (a.tmps.setIfInBounds p0 (enc x)).setIfInBounds p7 (.pointer (some ⟨g7, 0, none⟩)), defers := [] } W)
  (hdone : ∀ (xs : List α) (N : Nat) (W : World), S xs → J xs N W → W.heap[w.heap.size]? = some (.deferred (some [])) → Q .normal { a with defers := { target := .collected w.heap.size, args := #[] } :: a.defers } W) :
  (Code.rangeFunc g #[p0] assign body).wpIn F n P Q a w :=
 wpIn_range hro h1 hg hFg eg hseq (fun x => rfl) hown hZ J hJ hJl hJ0 hNx cs T (fun x g7 => { tmps := (a.tmps.setIfInBounds p0 (enc x)).setIfInBounds p7 (.pointer (some ⟨g7, 0, none⟩)), defers := [] })
  (fun l x W K hK => by rw [fold_one]; exact hassign l x W K hK) hbody hdone
end Go.Cold
namespace Go.Cold
open Go Go.RowKit
/-- Where up's iterator stands: the view's box gv, the index's box gi. -/
def UpSt (P : Program) (tI : TypeId) (gv gi bp bo : Nat) (A : Option Addr) (c N B : Nat) (L : List Dev) (m : Int) (W : World) : Prop :=
 BoxL W gv [.slice A L.length c, .map (some bp), .map (some bo)] ∧ BoxL W gi [.int .i64 m] ∧ MapV P tI tI W bp N (plM L) ∧ Sl W B A c L ∧ B ≤ W.heap.size
/-- The blocks that up's iterator reads. -/
def upZ (gv gi bp B : Nat) (k : Nat) : Prop := k < B ∨ k = gv ∨ k = gi ∨ k = bp
theorem BoxL.kpz {Z : Nat → Prop} {W W' : World} {g : Nat} {cs : List Value} (h : BoxL W g cs) (hk : KpZ Z W W') (hz : Z g) : BoxL W' g cs := by
 obtain ⟨h1, hf, hlt⟩ := h
 have hh := hk.2 g hlt hz
 exact ⟨fun j u hu => (cell_heap hh j).trans (h1 j u hu), fun j => (frozen_heap hh j).trans (hf j), Nat.lt_of_lt_of_le hlt hk.1⟩
theorem Sl.kpz {α : Type} [RepS α] {Z : Nat → Prop} {W W' : World} {B c : Nat} {A : Option Addr} {xs : List α} (h : Sl W B A c xs) (hk : KpZ Z W W') (hB : B ≤ W.heap.size) (hz : ∀ k, k < B → Z k) : Sl W' B A c xs :=
 SlS_iff.2 ((SlS_iff.1 h).mono (fun _ h => h) (fun b o u hb hu => (cell_heap (hk.2 b (by omega) (hz b hb)) o).trans hu))
theorem MapV.kpz {α : Type} [El α] {P : Program} {k e : TypeId} {W W' : World} {b n : Nat} {f : Int → Option α} {Z : Nat → Prop} (h : MapV P k e W b n f) (hk : KpZ Z W W') (hz : Z b) : MapV P k e W' b n f := by
 have hlt := h.lt
 obtain ⟨D, ⟨es, clock, h1, h2⟩, h3⟩ := h
 exact ⟨D, ⟨es, clock, (hk.2 b hlt hz).trans h1, h2⟩, h3⟩
section
variable {P : Program} {tI : TypeId} {gv gi bp bo c N B : Nat} {A : Option Addr} {L : List Dev} {m m' : Int} {W W' : World}
theorem UpSt.below (h : UpSt P tI gv gi bp bo A c N B L m W) (hb : Below W.heap.size W W') : UpSt P tI gv gi bp bo A c N B L m W' := by
 obtain ⟨h1, h2, h3, h4, h5⟩ := h
 exact ⟨h1.kept (grown_none hb) (fun e => by cases e), h2.kept (grown_none hb) (fun e => by cases e), h3.next hb, h4.keep (hb.mono h5), Nat.le_trans h5 hb.size⟩
theorem UpSt.kpz {Z : Nat → Prop} (h : UpSt P tI gv gi bp bo A c N B L m W) (hk : KpZ Z W W') (hz : ∀ k, upZ gv gi bp B k → Z k) : UpSt P tI gv gi bp bo A c N B L m W' := by
 obtain ⟨h1, h2, h3, h4, h5⟩ := h
 exact ⟨h1.kpz hk (hz _ (.inr (.inl rfl))), h2.kpz hk (hz _ (.inr (.inr (.inl rfl)))), h3.kpz hk (hz _ (.inr (.inr (.inr rfl)))), h4.kpz hk h5 (fun k hkb => hz _ (.inl hkb)), Nat.le_trans h5 hk.1⟩
theorem UpSt.put (h : UpSt P tI gv gi bp bo A c N B L m W) (h1 : gi ≠ gv) (h2 : gi ≠ bp) (h3 : B ≤ gi) : UpSt P tI gv gi bp bo A c N B L m' (W.setCell ⟨gi, 0, none⟩ (.int .i64 m')) := by
 obtain ⟨a1, a2, a3, a4, a5⟩ := h
 exact ⟨a1.far h1 _, a2.set_ (j := 0) (by simp) _, a3.kept (grown_one _ gi 0 _) (fun e => h2 (Option.some.inj e).symm), a4.keep ((Below.refl _ _).setCell (by exact h3) _), by simpa using a5⟩
end
abbrev DevX := Dev × Option Addr × Nat
def encV (x : DevX) : Value := .agg #[.int .i64 x.1.idx, .int .i64 x.1.par, .string x.1.nm, .string x.1.orig, .string x.1.sub, .string x.1.drv, .string x.1.ali, .int .i64 x.1.kind, .int .i64 x.1.num, .slice x.2.1 x.1.attrs.length x.2.2]
/-- What a round is handed: a device of the list that is due. -/
def nxX (B : Nat) (due : List Dev) (pre : List DevX) (x : DevX) (W : World) : Prop := (∃ t, pre.map (·.1) ++ x.1 :: t = due) ∧ devOk x.1 ∧ Sl W B x.2.1 x.2.2 x.1.attrs
end Go.Cold
namespace Go.Proofs.YtidhbckalcjdpaaGreatDoor
open Go.RowKit Go.Cold Go.Shelf
attribute [local go_sem] Oper.semAt_some
set_option maxRecDepth 100000 in
set_option maxHeartbeats 4000000 in
/-- The iterator of view.up: the device with an Index, and its ancestors. -/
theorem up1_seq (n gv gi bp bo : Nat) (A : Option Addr) (c N B : Nat) (L : List Dev) (idx : Int) (w : World) (hst : UpSt Tryz.prog 3 gv gi bp bo A c N B L idx w) (hu : (idxs L).Nodup) (hidx : okI idx) (hlen : L.length ≤ 1000) (hk : gi ≠ gv ∧ gi ≠ bp ∧ B ≤ gi) :
  SeqT Fence.wide n Tryz.prog 105 #[.pointer (some ⟨gv, 0, none⟩), .pointer (some ⟨gi, 0, none⟩)] (fun x => #[encV x]) (fun xs => xs.map (·.1) = chainO L idx) (nxX B (chainO L idx)) (fun k => k = gi) (upZ gv gi bp B) w := fun l JJ W hW hsz hA hY h0 => by
 refine callsIn_of_wp Tryz.func105 rfl trivial ?_ rfl
 simp only [Tryz.ntmps105, List.size_toArray, List.length_cons, List.length_nil, Nat.reduceAdd, Nat.reduceSub, Array.replicate_succ, Array.replicate_zero, List.push_toArray, List.append_toArray, List.nil_append, List.cons_append]
 have HST := Lib.hid (hst.below hW); have HU := Lib.hid hu; have HA := Lib.hid hA; have HY := Lib.hid hY; have HK := Lib.hid hk; have HLN := Lib.hid hlen; have HJ := Lib.hid h0; have HI := Lib.hid hidx
 clear hst hW hu hA hY hk hlen h0 hidx
 have hx2 := HST.out.2.2.2.1.2.1; have hx1 := HST.out.2.2.2.1.1
 unfold maxLen at hx2
 have v0 := HST.out.1.1 0 _ rfl
 gi_wp2
 clear v0
 gi_loopw [9] (fun i wr => ∃ (k : Nat) (pre : List DevX) (m : Int) (M : Nat), k ≤ L.length ∧ i = .int .i64 k ∧ Hid (okI m) ∧ Hid (pre.map (·.1) ++ chainL L (L.length - k) m = chainO L idx) ∧ Hid (JJ pre M wr) ∧ Hid (M ≤ wr.heap.size) ∧ Hid (UpSt Tryz.prog 3 gv gi bp bo A c N B L m wr)) (fun i _ => L.length - (intOf i).toNat)
 case atStart => exact ⟨0, [], idx, W.heap.size, Nat.zero_le _, rfl, HI.out, rfl, HJ.out, Nat.le_refl _, HST⟩
 case round =>
  obtain ⟨k, pre, m, M, hk, rfl, HOM, HSP, HJW, HMW, HST⟩ := hrel
  by_cases hlt : k < L.length
  ·
   have i1 : (k : Int) < (L.length : Int) := by omega
   have v0 := HST.out.1.1 0 _ rfl; have v1 := HST.out.1.1 1 _ rfl; have v2 := HST.out.1.1 2 _ rfl; have x0 := HST.out.2.1.1 0 _ rfl
   have HCALL := Lib.hid (vfind_any A c L bp bo N m wr B HST.out.2.2.2.2 HST.out.2.2.2.1 HST.out.2.2.1 HU.out HOM.out)
   gi_wp2_with fail
   refine ⟨trivial, (fun h => by cases h), ?_⟩
   refine (callsIn_wide.2 HCALL.out).mono ?_
   rintro e w3 ⟨hb3, d, A2, c2, hd, rfl, hokd, hat⟩
   obtain ⟨j, hj⟩ : ∃ j, L.length - k = j + 1 := ⟨L.length - k - 1, by omega⟩
   have hsp := HSP.out
   rw [hj, chainL] at hsp
   have HST3 := Lib.hid (HST.out.below hb3); have HJ3 := Lib.hid (HA.out _ _ _ _ HJW.out (.inl hb3)); have HB3 := Lib.hid hb3; have HOKD := Lib.hid hokd; have HAT := Lib.hid hat
   clear hb3 hokd hat v0 v1 v2 x0 HCALL
   cases hf : findD L m with
   | none =>
    rw [hf] at hd hsp
    simp only [List.append_nil] at hsp
    have HFIN := Lib.hid hsp; clear hsp hf hd
    gi_wp2
    refine ⟨(fun _ h => by cases h), ?_⟩
    gi_wp2
    refine bodyPost_ret (results_none rfl _ _ _) rfl ?_
    refine ⟨⟨_, rfl⟩, pre, M, HFIN.out, HA.out _ _ _ _ HJ3.out (.inl ?_)⟩
    exact (Below.refl _ _).alloc (Nat.le_refl _) _
   | some dd =>
    rw [hf] at hd hsp
    obtain rfl : d = dd := hd
    simp only at hsp
    have HSP2 := Lib.hid hsp; clear hsp hf HSP
    obtain ⟨w4, hw4⟩ : ∃ z, w3.alloc (.cells #[.int .i64 d.idx, .int .i64 d.par, .string d.nm, .string d.orig, .string d.sub, .string d.drv, .string d.ali, .int .i64 d.kind, .int .i64 d.num, .slice A2 d.attrs.length c2] 34) = z := ⟨_, rfl⟩
    have hb4 : Below w3.heap.size w3 w4 := by rw [← hw4]; exact (Below.refl _ _).alloc (Nat.le_refl _) _
    have hx4 : BoxL w4 w3.heap.size [.int .i64 d.idx, .int .i64 d.par, .string d.nm, .string d.orig, .string d.sub, .string d.drv, .string d.ali, .int .i64 d.kind, .int .i64 d.num, .slice A2 d.attrs.length c2] := box_mk hw4
    have HST4 := Lib.hid (HST3.out.below hb4); have HJ4 := Lib.hid (HA.out _ _ _ _ HJ3.out (.inl hb4)); have HX4 := Lib.hid hx4
    have HNX := Lib.hid (show nxX B (chainO L idx) pre (d, A2, c2) w4 from ⟨⟨_, HSP2.out⟩, HOKD.out, HAT.out.keep (hb4.mono (by have := HST3.out.2.2.2.2; omega))⟩)
    have HMN := Lib.hid (show M ≤ w3.heap.size ∧ w3.heap.size ≤ w4.heap.size from ⟨by have := HMW.out; have := HB3.out.size; omega, hb4.size⟩)
    obtain ⟨fn', tmps', assign', body', hy, hR⟩ := HY.out pre (d, A2, c2) M w4 HJ4.out (by have := HMN.out; omega) HNX.out
    dsimp only [encV] at hy
    have HR := Lib.hid hR; clear hR hx4 hb4
    have y0 := HX4.out.1 0 _ rfl
    have y1 := HX4.out.1 1 _ rfl
    have y2 := HX4.out.1 2 _ rfl
    have y3 := HX4.out.1 3 _ rfl
    have y4 := HX4.out.1 4 _ rfl
    have y5 := HX4.out.1 5 _ rfl
    have y6 := HX4.out.1 6 _ rfl
    have y7 := HX4.out.1 7 _ rfl
    have y8 := HX4.out.1 8 _ rfl
    have y9 := HX4.out.1 9 _ rfl
    gi_wp2_with fail
    refine ⟨(fun h => by cases h), ?_⟩
    refine HR.out.mono ?_
    rintro e w5 ⟨rfl, hj5, hk5⟩
    have HST5 := Lib.hid (HST4.out.kpz hk5 (fun k hk => .inl hk)); have HX5 := Lib.hid (HX4.out.kpz hk5 (.inr HMN.out.1)); have HJ5 := Lib.hid hj5; clear hj5 hk5 hy y0 y1 y2 y3 y4 y5 y6 y7 y8 y9
    have y1 := HX5.out.1 1 _ rfl; have x0 := HST5.out.2.1.1 0 _ rfl; have xf := HST5.out.2.1.2.1
    have HST6 := Lib.hid (HST5.out.put (m' := d.par) HK.out.1 HK.out.2.1 HK.out.2.2); have HJ6 := Lib.hid (HA.out _ _ _ (w5.setCell ⟨gi, 0, none⟩ (.int .i64 d.par)) HJ5.out (.inr ⟨gi, rfl, grown_one _ gi 0 _⟩))
    have HSP3 := Lib.hid (show (pre ++ [(d, A2, c2)]).map (·.1) ++ chainL L (L.length - (k + 1)) d.par = chainO L idx by rw [List.map_append, List.append_assoc, show L.length - (k + 1) = j by omega]; exact HSP2.out)
    have HSZ := Lib.hid (show w5.heap.size ≤ (w5.setCell ⟨gi, 0, none⟩ (.int .i64 d.par)).heap.size by simp)
    gi_wp2
    go_roundw
    case rel => exact ⟨k + 1, pre ++ [(d, A2, c2)], d.par, w5.heap.size, by omega, by go_num, HOKD.out.2.1, HSP3, HJ6, HSZ, HST6⟩
    case measure => simp [intOf]; omega
  ·
   have i1 : ¬ (k : Int) < (L.length : Int) := by omega
   have HFIN := Lib.hid (show pre.map (·.1) = chainO L idx by have h := HSP.out; rw [show L.length - k = 0 by omega, chainL, List.append_nil] at h; exact h)
   gi_wp2
   go_end0
   exact ⟨⟨_, rfl⟩, pre, HFIN.out, M, HJW.out⟩
end Go.Proofs.YtidhbckalcjdpaaGreatDoor
namespace Go.Cold
open Go Go.RowKit
/-- The path, gathered from the device up. -/
def pthF (l : List Dev) : ByteArray := l.foldl (fun s d => (⟨#[47]⟩ ++ d.nm) ++ s) ByteArray.empty
theorem pthF_snoc (l : List Dev) (d : Dev) : pthF (l ++ [d]) = (⟨#[47]⟩ ++ d.nm) ++ pthF l := by unfold pthF; rw [List.foldl_append]; rfl
theorem pthF_size_in : ∀ (l : List Dev) (s : ByteArray), (∀ d ∈ l, d.nm.size ≤ 32) → (l.foldl (fun s d => (⟨#[47]⟩ ++ d.nm) ++ s) s).size ≤ s.size + l.length * 33
 | [], s, _ => by simp
 | d :: r, s, h => by
  have h1 := h d List.mem_cons_self
  have h2 := pthF_size_in r ((⟨#[47]⟩ ++ d.nm) ++ s) (fun x hx => h x (List.mem_cons_of_mem _ hx))
  rw [List.foldl_cons, List.length_cons, Nat.succ_mul]
  rw [ByteArray.size_append, ByteArray.size_append] at h2
  have h5 : (⟨#[47]⟩ : ByteArray).size = 1 := rfl
  omega
theorem pthF_size {l : List Dev} (h : ∀ d ∈ l, d.nm.size ≤ 32) : (pthF l).size ≤ l.length * 33 := by
 have := pthF_size_in l ByteArray.empty h
 have h0 : ByteArray.empty.size = 0 := rfl
 unfold pthF; omega
theorem VT.names {L : List Dev} (h : VT L) : ∀ d ∈ L, d.nm.size ≤ 32 := fun d hd => valid_size (check_names (h.chk d hd)).1
/-- What Path keeps between two rounds. -/
def PaJ (w : World) (g6 gi : Nat) (pre : List DevX) (N : Nat) (W : World) : Prop := Below w.heap.size w W ∧ BoxL W g6 [.string (pthF (pre.map (·.1)))] ∧ g6 < N
theorem PaJ.abid {w : World} {g6 gi : Nat} (h1 : w.heap.size ≤ gi) (h2 : g6 ≠ gi) : Abid (fun k => k = gi) (PaJ w g6 gi) := fun pre N X Y h hst => by
 obtain ⟨a1, a2, a3⟩ := h
 rcases hst with hb | ⟨k, rfl, hg⟩
 · exact ⟨a1.trans (hb.mono a1.size), a2.kept (grown_none hb) (fun e => by cases e), a3⟩
 · exact ⟨a1.grown hg a1.size (fun q hq => by have := Option.some.inj hq; omega), a2.kept hg (fun e => h2 (Option.some.inj e)), a3⟩
theorem PaJ.putl {w : World} {g6 gi l : Nat} (h1 : w.heap.size ≤ l) (h2 : g6 ≠ l) : ∀ pre N X o, PaJ w g6 gi pre N X → PaJ w g6 gi pre N (X.putObj l o) := fun pre N X o h => by
 obtain ⟨a1, a2, a3⟩ := h
 have hg := grownBy_putObj' X l o
 exact ⟨a1.grown hg a1.size (fun q hq => by have := Option.some.inj hq; omega), a2.kept hg (fun e => h2 (Option.some.inj e)), a3⟩
theorem nxX_keep {B n0 : Nat} {due : List Dev} (hB : B ≤ n0) : ∀ pre (x : DevX) X Y, nxX B due pre x X → (∀ k, k < n0 → Y.heap[k]? = X.heap[k]?) → nxX B due pre x Y := fun pre x X Y h hk =>
 ⟨h.1, h.2.1, SlS_iff.2 ((SlS_iff.1 h.2.2).mono (fun _ h => h) (fun b o u hb hu => (cell_heap (hk b (by omega)) o).trans hu))⟩
end Go.Cold
namespace Go.Proofs.YtidhbckalcjdpaaGreatDoor
open Go.RowKit Go.Cold Go.Shelf
attribute [local go_sem] Oper.semAt_some
/-- view.up: the iterator's value. -/
theorem up_any (x y z : Value) (n : Int) (w : World) : Calls Tryz.prog 69 #[.agg #[x, y, z], .int .i64 n] w fun e w' => e = .returned (.func (.func 105) #[] #[.pointer (some ⟨w.heap.size, 0, none⟩), .pointer (some ⟨w.heap.size + 1, 0, none⟩)]) ∧ w' = (w.alloc (.cells #[x, y, z] 74)).alloc (.cells #[.int .i64 n] 3) := by
 go_enter Tryz.func69, Tryz.ntmps69
 go_wp2
 go_ret
 exact ⟨rfl, rfl⟩
set_option maxRecDepth 100000 in
set_option maxHeartbeats 4000000 in
/-- tree.Path. -/
theorem Path_any (A : Option Addr) (c : Nat) (L : List Dev) (n : Int) (w : World) (B : Nat) (hB : B ≤ w.heap.size) (hx : Sl w B A c L) (hv : VT L) (hn : okI n) : Calls Tryz.prog 24 #[.agg #[.slice A L.length c], .int .i64 n] w fun e w' => e = .returned (.tuple #[.string (pthF (chainO L n)), .bool (!(pthF (chainO L n)).toList.isEmpty)]) ∧ Below w.heap.size w w' := by
 have hx1 := hx.1; have hx2 := hx.2.1
 unfold maxLen at hx2
 have HX := Lib.hid hx; have HB := Lib.hid hB; have HV := Lib.hid hv; have HN := Lib.hid hn
 clear hx hB hv hn
 refine callsIn_wide.1 (callsIn_of_wp_marks (n := 3) Tryz.func24 rfl trivial ?_ rfl)
 simp only [Tryz.ntmps24, List.size_toArray, List.length_cons, List.length_nil, Nat.reduceAdd, Nat.reduceSub, Array.replicate_succ, Array.replicate_zero, List.push_toArray, List.append_toArray, List.nil_append, List.cons_append]
 rw [wpIn_wide]
 go_upto_region 2 with fail
 obtain ⟨w1, hw1⟩ : ∃ w1, w.alloc (.cells #[.slice A L.length c] 29) = w1 := ⟨_, rfl⟩
 have hbw1 : Below w.heap.size w w1 := by rw [← hw1]; exact (Below.refl _ _).alloc (Nat.le_refl _) _
 have HGw1 := Lib.hid (show w1.heap.size = w.heap.size + 1 by rw [← hw1]; simp)
 have HXtw1 := Lib.hid (show BoxL w1 w.heap.size [.slice A L.length c] from box_mk hw1)
 try simp only [hw1]
 have HSw1 := Lib.hid (show w.heap.size ≤ w1.heap.size from hbw1.size)
 have HBw1 := Lib.hid hbw1
 clear hw1 hbw1
 try rw [show w.heap.size + 1 = w1.heap.size from HGw1.out.symm]
 obtain ⟨w2, hw2⟩ : ∃ w2, w1.alloc (.cells #[.string ⟨#[]⟩] 9) = w2 := ⟨_, rfl⟩
 have hbw2 : Below w1.heap.size w1 w2 := by rw [← hw2]; exact (Below.refl _ _).alloc (Nat.le_refl _) _
 have HGw2 := Lib.hid (show w2.heap.size = w1.heap.size + 1 by rw [← hw2]; simp)
 have HXsw2 := Lib.hid (show BoxL w2 w1.heap.size [.string ⟨#[]⟩] from box_mk hw2)
 try simp only [hw2]
 have HSw2 := Lib.hid (show w1.heap.size ≤ w2.heap.size from hbw2.size)
 have HBw2 := Lib.hid (HBw1.out.trans (hbw2.mono HBw1.out.size))
 have tw2 := Lib.hid (HXtw1.out.kept (grown_none hbw2) (fun e => by cases e))
 clear hw2 hbw2
 try rw [show w1.heap.size + 1 = w2.heap.size from HGw2.out.symm]
 have ct0 := tw2.out.1 0 _ rfl
 go_wp2_with fail
 refine (look_any A c L _ B (Nat.le_trans HB.out HBw2.out.size) (HX.out.keep (HBw2.out.mono HB.out)) (fun d hd => (HV.out.small d hd).1) HV.out.size).mono ?_
 rintro e w3 ⟨hbw3, bp, bo, rfl, hmp_, hmo_, qbp_, -⟩
 clear ct0
 have HSw3 := Lib.hid (show w2.heap.size ≤ w3.heap.size from hbw3.size)
 have HBw3 := Lib.hid (HBw2.out.trans (hbw3.mono HBw2.out.size))
 have tw3 := Lib.hid (tw2.out.kept (grown_none hbw3) (fun e => by cases e))
 have sw3 := Lib.hid (HXsw2.out.kept (grown_none hbw3) (fun e => by cases e))
 clear hbw3
 have HMP := Lib.hid hmp_; have HBP0 := Lib.hid qbp_; clear hmp_ hmo_ qbp_
 go_wp2_with fail
 refine (up_any _ _ _ n _).mono ?_
 rintro e w5 ⟨rfl, hw_⟩
 obtain ⟨w4, hw4⟩ : ∃ z, w3.alloc (.cells #[.slice A L.length c, .map (some bp), .map (some bo)] 74) = z := ⟨_, rfl⟩
 have hb_ : Below w3.heap.size w3 w4 := by rw [← hw4]; exact (Below.refl _ _).alloc (Nat.le_refl _) _
 have HGw4 := Lib.hid (show w4.heap.size = w3.heap.size + 1 by rw [← hw4]; simp)
 have HXv := Lib.hid (show BoxL w4 w3.heap.size [.slice A L.length c, .map (some bp), .map (some bo)] from box_mk hw4)
 have HMP1 := Lib.hid (HMP.out.next hb_)
 rw [hw4] at hw_
 try rw [show w3.heap.size + 1 = w4.heap.size from HGw4.out.symm]
 clear hw4
 have HSw4 := Lib.hid (show w3.heap.size ≤ w4.heap.size from hb_.size)
 have HBw4 := Lib.hid (HBw3.out.trans (hb_.mono HBw3.out.size))
 have tw4 := Lib.hid (tw3.out.kept (grown_none hb_) (fun e => by cases e))
 have sw4 := Lib.hid (sw3.out.kept (grown_none hb_) (fun e => by cases e))
 clear hb_
 have hb_ : Below w4.heap.size w4 w5 := by rw [hw_]; exact (Below.refl _ _).alloc (Nat.le_refl _) _
 have HGw5 := Lib.hid (show w5.heap.size = w4.heap.size + 1 by rw [hw_]; simp)
 have HXi := Lib.hid (show BoxL w5 w4.heap.size [.int .i64 n] from box_mk hw_.symm)
 have HMP2 := Lib.hid (HMP1.out.next hb_)
 clear hw_
 have HSw5 := Lib.hid (show w4.heap.size ≤ w5.heap.size from hb_.size)
 have HBw5 := Lib.hid (HBw4.out.trans (hb_.mono HBw4.out.size))
 have tw5 := Lib.hid (tw4.out.kept (grown_none hb_) (fun e => by cases e))
 have sw5 := Lib.hid (sw4.out.kept (grown_none hb_) (fun e => by cases e))
 have vw5 := Lib.hid (HXv.out.kept (grown_none hb_) (fun e => by cases e))
 clear hb_
 have HUP := Lib.hid (show UpSt Tryz.prog 3 (w3.heap.size) (w4.heap.size) bp bo A c L.length B L n w5 from ⟨vw5.out, HXi.out, HMP2.out, HX.out.keep (HBw5.out.mono HB.out), Nat.le_trans HB.out HBw5.out.size⟩)
 have HNUM := Lib.hid (show (B ≤ w.heap.size ∧ w.heap.size ≤ w1.heap.size ∧ w1.heap.size < w2.heap.size) ∧ w2.heap.size ≤ w3.heap.size ∧ w3.heap.size < w4.heap.size ∧ w4.heap.size < w5.heap.size from ⟨⟨HB.out, by have := HGw1.out; omega, by have := HGw2.out; omega⟩, HSw3.out, by have := HGw4.out; omega, by have := HGw5.out; omega⟩)
 have HBP := Lib.hid (show bp < w3.heap.size ∧ w2.heap.size ≤ bp from ⟨HMP.out.lt, HBP0.out⟩)
 go_wp2_with fail
 refine wpIn_wide.1 (wpIn_rangeB (n := 3) 12 7 rfl (by omega) rfl trivial (enters_of Tryz.func105 (by kernel_rfl) rfl) (up1_seq 2 (w3.heap.size) (w4.heap.size) bp bo A c L.length B L n w5 HUP.out HV.out.wf.uniq HN.out (by have := HV.out.size; omega) ⟨by have := HNUM.out; omega, by have := HNUM.out; have := HBP.out; omega, by have := HNUM.out; omega⟩) (fun k hk => by have := HNUM.out; show k ≠ _ ∧ k ≠ _; have hk : k = w4.heap.size := hk; omega) (fun h => by have := HNUM.out; have := HBP.out; unfold upZ at h; omega) (PaJ w w1.heap.size (w4.heap.size)) (PaJ.abid (by have := HNUM.out; omega) (by have := HNUM.out; omega)) (PaJ.putl (by have := HNUM.out; omega) (by have := HNUM.out; omega)) (fun W0 hW0 hs0 => ⟨HBw5.out.trans (hW0.mono HBw5.out.size), sw5.out.kept (grown_none hW0) (fun e => by cases e), by have := HNUM.out; omega⟩) (nxX_keep (by have := HNUM.out; omega)) (fun x => #[.int .i64 x.1.idx, .int .i64 x.1.par, .string x.1.nm, .string x.1.orig, .string x.1.sub, .string x.1.drv, .string x.1.ali, .int .i64 x.1.kind, .int .i64 x.1.num, .slice x.2.1 x.1.attrs.length x.2.2]) 34 ?assign ?body ?done)
 case assign =>
  intro l x W0 K hK
  simp only [encV] at hK ⊢
  gi_wp2
  exact hK
 case body =>
  rintro pre ⟨y, A2, c2⟩ N W0 g7 hJ hN hNg hNx hbox hsz
  obtain ⟨hjb, hjs, hjN⟩ := hJ
  obtain ⟨⟨t, ht⟩, hok, hat⟩ := hNx
  have hmem : ∀ d ∈ chainO L n, d.nm.size ≤ 32 := fun d hd => HV.out.names d (chain_mem L _ n d hd)
  have hyn : y.nm.size ≤ 32 := hmem y (by rw [← ht]; simp)
  have hpl : (pre.map (·.1)).length ≤ 256 := by have h1 := chain_len L L.length n; have h2 : (chainO L n).length = (pre.map (·.1)).length + (y :: t).length := (by rw [← ht, List.length_append]); have h3 := HV.out.size; unfold chainO at h2; omega
  have hss := pthF_size (l := pre.map (·.1)) (fun d hd => hmem d (by rw [← ht]; exact List.mem_append_left _ hd))
  obtain ⟨s, hs⟩ : ∃ s, pthF (pre.map (·.1)) = s := ⟨_, rfl⟩
  rw [hs] at hjs hss
  have hs1 : s.size ≤ 8448 := by omega
  have HS := Lib.hid hs; have HJB := Lib.hid hjb; have HJS := Lib.hid hjs; have HJN := Lib.hid hjN; have HSZ := Lib.hid hsz; have HNN := Lib.hid hN
  have y2 := hbox.1 2 _ rfl; have s0 := hjs.1 0 _ rfl; have sf := hjs.2.1
  have f1 : ¬ 9223372036854775807 < 1 + y.nm.size := by omega
  have f2 : ¬ 9223372036854775807 < 1 + y.nm.size + s.size := by omega
  clear hs hss hmem hjb hjs hjN ht hok hat hbox hpl hyn hs1 hN hNg hsz
  simp only [encV]
  gi_wp2
  refine ⟨⟨HJB.out.setCell (by show w.heap.size ≤ w1.heap.size; have := HNUM.out; omega) _, ?_, ?_⟩, KpZ.grown (grown_one _ w1.heap.size 0 _) (fun h => by have h1 := HNUM.out; have h2 := HBP.out; have h3 := HJN.out; unfold upZ at h; omega), (grown_one W0 w1.heap.size 0 _).block _ (by have := HSZ.out; omega) (fun e => by have h1 := HNUM.out; have := Option.some.inj e; omega), (grown_one W0 w1.heap.size 0 _).block _ (by have := HSZ.out; omega) (fun e => by have h1 := HNUM.out; have := Option.some.inj e; omega)⟩
  · rw [List.map_append, List.map_cons, List.map_nil, pthF_snoc, HS.out]; exact HJS.out.set_ (j := 0) (by simp) _
  · have h1 := HNUM.out; have := HSZ.out; simp; omega
 case done =>
  intro xs N W0 hS hJ hD
  obtain ⟨hjb, hjs, hjN⟩ := hJ
  rw [hS] at hjs
  have HPS := Lib.hid hjs; have HPB := Lib.hid hjb; have HD := Lib.hid hD; clear hS hjb hjs hjN hD
  obtain ⟨s, hs⟩ : ∃ s, pthF (chainO L n) = s := ⟨_, rfl⟩
  rw [hs] at HPS
  have HS := Lib.hid hs; clear hs
  have s0 := HPS.out.1 0 _ rfl
  go_wp2_with fail
  cases he : s.toList.isEmpty with
  | true =>
   have h3b : s.toList = [] := List.isEmpty_iff.1 he
   have HE := Lib.hid he
   go_quiet (fail)
   clear he h3b
   go_wp2
   refine ⟨by simp, .inl ⟨_, _, rfl, run_takeDeferred HD.out, ?_⟩⟩
   exact ⟨_, results_tmp2 rfl _ _ _, by rw [HS.out, HE.out]; rfl, (below_drewN HPB.out nq).grown (grownBy_putObj' _ _ _) (below_drewN HPB.out nq).size (fun q hq => by have := Option.some.inj hq; have := HNUM.out; omega)⟩
  | false =>
   have h3b : ¬ s.toList = [] := fun h => by rw [h] at he; cases he
   have HE := Lib.hid he
   go_quiet (fail)
   clear he h3b
   go_wp2
   refine ⟨by simp, .inl ⟨_, _, rfl, run_takeDeferred HD.out, ?_⟩⟩
   exact ⟨_, results_tmp2 rfl _ _ _, by rw [HS.out, HE.out]; rfl, (below_drewN HPB.out nq).grown (grownBy_putObj' _ _ _) (below_drewN HPB.out nq).size (fun q hq => by have := Option.some.inj hq; have := HNUM.out; omega)⟩
end Go.Proofs.YtidhbckalcjdpaaGreatDoor
namespace Go.Cold
open Go Go.RowKit
end Go.Cold
namespace Go.Proofs.YtidhbckalcjdpaaGreatDoor
open Go.RowKit Go.Cold
end Go.Proofs.YtidhbckalcjdpaaGreatDoor
namespace Go.Cold
open Go Go.RowKit
/-- The tree of the examples. -/
def kL : List Dev := [⟨1, 0, ⟨#[112, 99, 105, 48]⟩, ⟨#[112, 99, 105, 48]⟩, ⟨#[112, 99, 105]⟩, ⟨#[]⟩, ⟨#[]⟩, 1, 0, []⟩, ⟨2, 1, ⟨#[115, 100, 97]⟩, ⟨#[115, 100, 97]⟩, ⟨#[98, 108, 111, 99, 107]⟩, ⟨#[]⟩, ⟨#[]⟩, 2, 8, []⟩, ⟨4, 0, ⟨#[117, 115, 98, 48]⟩, ⟨#[117, 115, 98, 48]⟩, ⟨#[117, 115, 98]⟩, ⟨#[]⟩, ⟨#[]⟩, 1, 0, []⟩, ⟨5, 4, ⟨#[108, 97, 110, 48]⟩, ⟨#[101, 116, 104, 48]⟩, ⟨#[110, 101, 116]⟩, ⟨#[]⟩, ⟨#[]⟩, 4, 0, []⟩]
def k6 : Dev := ⟨6, 4, ⟨#[115, 100, 97]⟩, ⟨#[115, 100, 97]⟩, ⟨#[98, 108, 111, 99, 107]⟩, ⟨#[]⟩, ⟨#[]⟩, 2, 9, []⟩
theorem kL_chk : chkAll kL = 0 := by decide +kernel
theorem kL_chkE : chkGo chkE [] kL = 0 := by decide +kernel
theorem kL_VT : VT kL := (check_VT (by decide)).1 kL_chkE
theorem kL_str : strF kL 5 = ⟨#[47, 117, 115, 98, 48, 47, 101, 116, 104, 48]⟩ := by decide +kernel
theorem kL_has : (idxs kL).contains 5 = true := by decide +kernel
theorem kL_pth : pthF (chainO kL 5) = ⟨#[47, 117, 115, 98, 48, 47, 108, 97, 110, 48]⟩ := by decide +kernel
theorem kL_ins : progE kL k6 = 44 := by decide +kernel
theorem kL_sl {w : World} {g B : Nat} (h : BoxL w g [.int .i64 1, .int .i64 0, .string ⟨#[112, 99, 105, 48]⟩, .string ⟨#[112, 99, 105, 48]⟩, .string ⟨#[112, 99, 105]⟩, .string ⟨#[]⟩, .string ⟨#[]⟩, .int .i64 1, .int .i64 0, .slice none 0 0, .int .i64 2, .int .i64 1, .string ⟨#[115, 100, 97]⟩, .string ⟨#[115, 100, 97]⟩, .string ⟨#[98, 108, 111, 99, 107]⟩, .string ⟨#[]⟩, .string ⟨#[]⟩, .int .i64 2, .int .i64 8, .slice none 0 0, .int .i64 4, .int .i64 0, .string ⟨#[117, 115, 98, 48]⟩, .string ⟨#[117, 115, 98, 48]⟩, .string ⟨#[117, 115, 98]⟩, .string ⟨#[]⟩, .string ⟨#[]⟩, .int .i64 1, .int .i64 0, .slice none 0 0, .int .i64 5, .int .i64 4, .string ⟨#[108, 97, 110, 48]⟩, .string ⟨#[101, 116, 104, 48]⟩, .string ⟨#[110, 101, 116]⟩, .string ⟨#[]⟩, .string ⟨#[]⟩, .int .i64 4, .int .i64 0, .slice none 0 0]) (hB : g < B) : Sl w B (some ⟨g, 0, none⟩) 4 kL := by
 have hc : [.int .i64 1, .int .i64 0, .string ⟨#[112, 99, 105, 48]⟩, .string ⟨#[112, 99, 105, 48]⟩, .string ⟨#[112, 99, 105]⟩, .string ⟨#[]⟩, .string ⟨#[]⟩, .int .i64 1, .int .i64 0, .slice none 0 0, .int .i64 2, .int .i64 1, .string ⟨#[115, 100, 97]⟩, .string ⟨#[115, 100, 97]⟩, .string ⟨#[98, 108, 111, 99, 107]⟩, .string ⟨#[]⟩, .string ⟨#[]⟩, .int .i64 2, .int .i64 8, .slice none 0 0, .int .i64 4, .int .i64 0, .string ⟨#[117, 115, 98, 48]⟩, .string ⟨#[117, 115, 98, 48]⟩, .string ⟨#[117, 115, 98]⟩, .string ⟨#[]⟩, .string ⟨#[]⟩, .int .i64 1, .int .i64 0, .slice none 0 0, .int .i64 5, .int .i64 4, .string ⟨#[108, 97, 110, 48]⟩, .string ⟨#[101, 116, 104, 48]⟩, .string ⟨#[110, 101, 116]⟩, .string ⟨#[]⟩, .string ⟨#[]⟩, .int .i64 4, .int .i64 0, .slice none 0 0] = (kL.map fun d => devCells d none 0).flatten := rfl
 rw [hc] at h
 refine ⟨by decide, by decide, fun _ => ⟨g, 0, rfl, hB, fun i x hx => ⟨devCells x none 0, ⟨none, 0, rfl, ?_, ?_⟩, fun j u hu => ?_⟩⟩⟩
 ·
  have hm : x ∈ kL := List.mem_of_getElem? hx
  simp only [kL, List.mem_cons, List.not_mem_nil, or_false] at hm
  rcases hm with rfl | rfl | rfl | rfl <;> refine ⟨?_, ?_, ?_, ?_, ?_, ?_, ?_, ?_, ?_⟩ <;> first | (unfold okI; decide +kernel) | decide +kernel
 ·
  have hm : x ∈ kL := List.mem_of_getElem? hx
  have ha : x.attrs = [] := by
   simp only [kL, List.mem_cons, List.not_mem_nil, or_false] at hm
   rcases hm with rfl | rfl | rfl | rfl <;> rfl
  rw [ha]; exact SlS.nil_
 ·
  have hj : j < 10 := by have := (List.getElem?_eq_some_iff.1 hu).1; simpa [devCells] using this
  rw [Nat.zero_add]
  refine h.1 _ u ?_
  show _ = _
  rw [show i * Rep.size Dev + j = i * 10 + j from rfl, flatten_row (n := 10) (fun cs hcs => by obtain ⟨d, -, rfl⟩ := List.mem_map.1 hcs; rfl) (i := i) (cs := devCells x none 0) (by rw [List.getElem?_map, hx]; rfl) hj]
  exact hu
end Go.Cold
namespace Go.Proofs.YtidhbckalcjdpaaGreatDoor
open Go.RowKit Go.Cold
set_option maxRecDepth 100000 in
set_option maxHeartbeats 4000000 in
theorem known_any (w : World) (hok : Ok w) : Calls Tryz.prog 12 #[] w fun e w' => e = .returned (.bool true) ∧ Below w.heap.size w w' := by
 have HOK := Lib.hid hok; clear hok
 go_enter Tryz.func12, Tryz.ntmps12
 go_upto_region 2 with fail
 obtain ⟨w1, hw1⟩ : ∃ w1, w.alloc (.cells #[.int .i64 1, .int .i64 0, .string ⟨#[112, 99, 105, 48]⟩, .string ⟨#[112, 99, 105, 48]⟩, .string ⟨#[112, 99, 105]⟩, .string ⟨#[]⟩, .string ⟨#[]⟩, .int .i64 1, .int .i64 0, .slice none 0 0, .int .i64 2, .int .i64 1, .string ⟨#[115, 100, 97]⟩, .string ⟨#[115, 100, 97]⟩, .string ⟨#[98, 108, 111, 99, 107]⟩, .string ⟨#[]⟩, .string ⟨#[]⟩, .int .i64 2, .int .i64 8, .slice none 0 0, .int .i64 4, .int .i64 0, .string ⟨#[117, 115, 98, 48]⟩, .string ⟨#[117, 115, 98, 48]⟩, .string ⟨#[117, 115, 98]⟩, .string ⟨#[]⟩, .string ⟨#[]⟩, .int .i64 1, .int .i64 0, .slice none 0 0, .int .i64 5, .int .i64 4, .string ⟨#[108, 97, 110, 48]⟩, .string ⟨#[101, 116, 104, 48]⟩, .string ⟨#[110, 101, 116]⟩, .string ⟨#[]⟩, .string ⟨#[]⟩, .int .i64 4, .int .i64 0, .slice none 0 0] 34) = w1 := ⟨_, rfl⟩
 have hbw1 : Below w.heap.size w w1 := by rw [← hw1]; exact (Below.refl _ _).alloc (Nat.le_refl _) _
 have HGw1 := Lib.hid (show w1.heap.size = w.heap.size + 1 by rw [← hw1]; simp)
 have HXlw1 := Lib.hid (show BoxL w1 w.heap.size [.int .i64 1, .int .i64 0, .string ⟨#[112, 99, 105, 48]⟩, .string ⟨#[112, 99, 105, 48]⟩, .string ⟨#[112, 99, 105]⟩, .string ⟨#[]⟩, .string ⟨#[]⟩, .int .i64 1, .int .i64 0, .slice none 0 0, .int .i64 2, .int .i64 1, .string ⟨#[115, 100, 97]⟩, .string ⟨#[115, 100, 97]⟩, .string ⟨#[98, 108, 111, 99, 107]⟩, .string ⟨#[]⟩, .string ⟨#[]⟩, .int .i64 2, .int .i64 8, .slice none 0 0, .int .i64 4, .int .i64 0, .string ⟨#[117, 115, 98, 48]⟩, .string ⟨#[117, 115, 98, 48]⟩, .string ⟨#[117, 115, 98]⟩, .string ⟨#[]⟩, .string ⟨#[]⟩, .int .i64 1, .int .i64 0, .slice none 0 0, .int .i64 5, .int .i64 4, .string ⟨#[108, 97, 110, 48]⟩, .string ⟨#[101, 116, 104, 48]⟩, .string ⟨#[110, 101, 116]⟩, .string ⟨#[]⟩, .string ⟨#[]⟩, .int .i64 4, .int .i64 0, .slice none 0 0] from box_mk hw1)
 try simp only [hw1]
 have HSw1 := Lib.hid (show w.heap.size ≤ w1.heap.size from hbw1.size)
 have HBw1 := Lib.hid hbw1
 clear hw1 hbw1
 try rw [show w.heap.size + 1 = w1.heap.size from HGw1.out.symm]
 have hsl := kL_sl HXlw1.out (Nat.lt_of_lt_of_le HXlw1.out.2.2 (Nat.le_refl _))
 have HSL := Lib.hid hsl; clear hsl
 obtain ⟨w2, hw2⟩ : ∃ w2, w1.alloc (.cells #[.slice (some ⟨w.heap.size, 0, none⟩) 4 4] 29) = w2 := ⟨_, rfl⟩
 have hbw2 : Below w1.heap.size w1 w2 := by rw [← hw2]; exact (Below.refl _ _).alloc (Nat.le_refl _) _
 have HGw2 := Lib.hid (show w2.heap.size = w1.heap.size + 1 by rw [← hw2]; simp)
 have HXtw2 := Lib.hid (show BoxL w2 w1.heap.size [.slice (some ⟨w.heap.size, 0, none⟩) 4 4] from box_mk hw2)
 try simp only [hw2]
 have HSw2 := Lib.hid (show w1.heap.size ≤ w2.heap.size from hbw2.size)
 have HBw2 := Lib.hid (HBw1.out.trans (hbw2.mono HBw1.out.size))
 have lw2 := Lib.hid (HXlw1.out.kept (grown_none hbw2) (fun e => by cases e))
 have HSLw2 := Lib.hid (HSL.out.next (Nat.le_refl _) hbw2)
 clear hw2 hbw2
 try rw [show w1.heap.size + 1 = w2.heap.size from HGw2.out.symm]
 have ct0 := HXtw2.out.1 0 _ rfl
 have HSML := Lib.hid (show ∀ d ∈ kL, d.orig.size ≤ 32 from fun d hd => (kL_VT.small d hd).1)
 have h5 : okI 5 := by unfold okI; decide +kernel
 have HN5 := Lib.hid h5; clear h5
 go_wp2_with fail
 refine (Origin_any (some ⟨w.heap.size, 0, none⟩) 4 kL 5 _ _ (Nat.le_refl _) HSLw2.out HSML.out (by decide) HN5.out).mono ?_
 rintro e w3 ⟨rfl, hbw3⟩
 clear ct0
 have HSw3 := Lib.hid (show w2.heap.size ≤ w3.heap.size from hbw3.size)
 have HBw3 := Lib.hid (HBw2.out.trans (hbw3.mono HBw2.out.size))
 have lw3 := Lib.hid (lw2.out.kept (grown_none hbw3) (fun e => by cases e))
 have tw3 := Lib.hid (HXtw2.out.kept (grown_none hbw3) (fun e => by cases e))
 have HSLw3 := Lib.hid (HSLw2.out.next (Nat.le_refl _) hbw3)
 clear hbw3
 have ct0 := tw3.out.1 0 _ rfl
 obtain ⟨s1, hs1⟩ : ∃ z, strF kL 5 = z := ⟨_, rfl⟩
 rw [hs1, kL_has]
 have es1 : (s1.toList == [47, 117, 115, 98, 48, 47, 101, 116, 104, 48]) = true := by rw [← hs1, kL_str]; decide +kernel
 have ES1 := Lib.hid es1; clear es1 hs1
 go_wp2_with fail
 refine (Path_any (some ⟨w.heap.size, 0, none⟩) 4 kL 5 _ _ (Nat.le_refl _) HSLw3.out kL_VT HN5.out).mono ?_
 rintro e w4 ⟨rfl, hbw4⟩
 clear ct0
 have HSw4 := Lib.hid (show w3.heap.size ≤ w4.heap.size from hbw4.size)
 have HBw4 := Lib.hid (HBw3.out.trans (hbw4.mono HBw3.out.size))
 have lw4 := Lib.hid (lw3.out.kept (grown_none hbw4) (fun e => by cases e))
 have tw4 := Lib.hid (tw3.out.kept (grown_none hbw4) (fun e => by cases e))
 have HSLw4 := Lib.hid (HSLw3.out.next (Nat.le_refl _) hbw4)
 clear hbw4
 have ct0 := tw4.out.1 0 _ rfl
 obtain ⟨s2, hs2⟩ : ∃ z, pthF (chainO kL 5) = z := ⟨_, rfl⟩
 rw [hs2]
 have es2 : (s2.toList == [47, 117, 115, 98, 48, 47, 108, 97, 110, 48]) = true := by rw [← hs2, kL_pth]; decide +kernel
 have em2 : (!s2.toList.isEmpty) = true := by rw [← hs2, kL_pth]; decide +kernel
 rw [em2]
 have ES2 := Lib.hid es2; clear es2 hs2 em2
 have h6 : devOk k6 := by refine ⟨?_, ?_, ?_, ?_, ?_, ?_, ?_, ?_, ?_⟩ <;> first | (unfold okI; decide +kernel) | decide +kernel
 have H6 := Lib.hid h6; clear h6
 go_wp2_with fail
 refine (Insert_err (some ⟨w.heap.size, 0, none⟩) 4 kL k6 none 0 _ _ (Nat.le_refl _) HSLw4.out H6.out Sl.nil_ (by decide) kL_VT (HOK.out.next HBw4.out) (by rw [kL_ins]; decide)).mono ?_
 rintro e w5 ⟨hbw5, rfl⟩
 clear ct0
 have HSw5 := Lib.hid (show w4.heap.size ≤ w5.heap.size from hbw5.size)
 have HBw5 := Lib.hid (HBw4.out.trans (hbw5.mono HBw4.out.size))
 have lw5 := Lib.hid (lw4.out.kept (grown_none hbw5) (fun e => by cases e))
 have tw5 := Lib.hid (tw4.out.kept (grown_none hbw5) (fun e => by cases e))
 have HSLw5 := Lib.hid (HSLw4.out.next (Nat.le_refl _) hbw5)
 clear hbw5
 rw [kL_ins]
 go_upto_region 5 with fail
 obtain ⟨w6, hw6⟩ : ∃ w6, w5.alloc (.cells #[.slice none 0 0] 29) = w6 := ⟨_, rfl⟩
 have hbw6 : Below w5.heap.size w5 w6 := by rw [← hw6]; exact (Below.refl _ _).alloc (Nat.le_refl _) _
 have HGw6 := Lib.hid (show w6.heap.size = w5.heap.size + 1 by rw [← hw6]; simp)
 have HXew6 := Lib.hid (show BoxL w6 w5.heap.size [.slice none 0 0] from box_mk hw6)
 try simp only [hw6]
 have HSw6 := Lib.hid (show w5.heap.size ≤ w6.heap.size from hbw6.size)
 have HBw6 := Lib.hid (HBw5.out.trans (hbw6.mono HBw5.out.size))
 have lw6 := Lib.hid (lw5.out.kept (grown_none hbw6) (fun e => by cases e))
 have tw6 := Lib.hid (tw5.out.kept (grown_none hbw6) (fun e => by cases e))
 have HSLw6 := Lib.hid (HSLw5.out.next (Nat.le_refl _) hbw6)
 clear hw6 hbw6
 try rw [show w5.heap.size + 1 = w6.heap.size from HGw6.out.symm]
 have ct0 := tw6.out.1 0 _ rfl
 go_wp2_with fail
 refine (TCheck_any (some ⟨w.heap.size, 0, none⟩) 4 kL _ _ (Nat.le_refl _) HSLw6.out (fun d hd => by have := HSML.out d hd; omega) (HOK.out.next HBw6.out)).mono ?_
 rintro e w7 ⟨rfl, hbw7⟩
 clear ct0
 have HSw7 := Lib.hid (show w6.heap.size ≤ w7.heap.size from hbw7.size)
 have HBw7 := Lib.hid (HBw6.out.trans (hbw7.mono HBw6.out.size))
 have lw7 := Lib.hid (lw6.out.kept (grown_none hbw7) (fun e => by cases e))
 have tw7 := Lib.hid (tw6.out.kept (grown_none hbw7) (fun e => by cases e))
 have ew7 := Lib.hid (HXew6.out.kept (grown_none hbw7) (fun e => by cases e))
 have HSLw7 := Lib.hid (HSLw6.out.next (Nat.le_refl _) hbw7)
 clear hbw7
 have ct0 := tw7.out.1 0 _ rfl
 rw [kL_chk]
 have es1 := ES1.out; have es2 := ES2.out
 go_wp2
 go_ret
 exact ⟨by try rfl, HBw7.out⟩
end Go.Proofs.YtidhbckalcjdpaaGreatDoor
namespace Go.Cold
open Go Go.RowKit
end Go.Cold
namespace Go.Proofs.YtidhbckalcjdpaaGreatDoor
open Go.RowKit Go.Cold
/-- A tape that a law has boxed. -/
theorem tape_new {w : World} {A : Option Addr} {c : Nat} {xs : List Int} (h : Sl w w.heap.size A c xs) : TapeAt (w.alloc (.cells #[.slice A xs.length c, .int .i64 0] 27)) w.heap.size w.heap.size xs 0 := by
 refine ⟨A, c, ?_, ?_, fun j => World.frozen?_alloc_at _ _ _ _ rfl, h.keep ((Below.refl _ _).alloc (Nat.le_refl _) _), Nat.le_refl _, by simp⟩ <;> (rw [World.cell?_alloc_at _ _ _ _ rfl]; rfl)
theorem notG_of {w : World} (h : Ok w) : NotG w.heap.size := by
 obtain ⟨m, hm⟩ := h
 have := block_lt_of_cell hm
 intro e
 rw [← e] at this
 exact absurd this (Nat.lt_irrefl _)
end Go.Proofs.YtidhbckalcjdpaaGreatDoor
