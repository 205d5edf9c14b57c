/-
  Rows that a call has made and writes in place: a list's value exchanged, a part of the row copied, the rest cleared. No program is named here.
-/
import Derived.Test.YtjgllhlilbchpaaGreatDoorJD
import Derived.Laws.CopyRow
import Derived.Laws.IdiomCopy
import Derived.Lib.AppendZerosOnto
import Derived.Test.YtjgllhlilbchpaaGreatDoorJF
import Derived.Lib.Overlaps
import Derived.Laws.Externs
import Derived.Test.YtjgllhlilbchpaaGreatDoorJP
import Derived.Test.YtjgllhlilbchpaaGreatDoorJL
import Derived.Test.YtjgllhlilbchpaaGreatDoorJSJ
set_option linter.unusedSimpArgs false
set_option linter.unusedVariables false
namespace Go.Cold
open Go Go.RowKit
section
variable {α : Type} [RepS α] {F : Nat → Prop} {w w' : World} {base : Nat} {T : TypeId} {v : Value} {xs : List α}
structure RowIn (F : Nat → Prop) (w : World) (base : Nat) (T : TypeId) (g cap : Nat) (xs : List α) (cur : Array Value) (css : List (List Value)) : Prop where
 lo : base ≤ g
 heap : w.heap[g]? = some (.cells cur T (0, 0))
 le : xs.length ≤ cap
 lim : cap ≤ maxLen
 size : cur.size = cap * Rep.size α
 len : css.length = xs.length
 rd : ∀ (i : Nat) (x : α) (cs : List Value), xs[i]? = some x → css[i]? = some cs → RepS.rdS w (fun b => F b ∧ b < w.heap.size ∧ b ≠ g) x cs
 row : cur.toList.take (xs.length * Rep.size α) = css.flatten
theorem OwnsS.opened (h : OwnsS F w base T v xs) : (v = .slice none 0 0 ∧ xs = []) ∨ ∃ g cap cur css, v = .slice (some ⟨g, 0, none⟩) xs.length cap ∧ RowIn F w base T g cap xs cur css := by
 obtain ⟨css, ⟨h1, h2⟩, h3, h4⟩ := h
 rcases h2 with ⟨rfl, h0⟩ | ⟨g, cap, cur, rfl, q1, q2, q3, q4, q5, q6⟩
 · exact .inl ⟨rfl, List.eq_nil_of_length_eq_zero h0⟩
 · exact .inr ⟨g, cap, cur, css, rfl, q1, q2, q3, q4, q5, h3, fun i x cs hx hcs => RepS.mono (fun b hb => ⟨hb.1, hb.2.1, fun e => hb.2.2 (by rw [e]; rfl)⟩) (fun _ _ _ _ hu => hu) (h4 i x cs hx hcs), q6⟩
theorem flat_size {w : World} {S : Nat → Prop} {xs : List α} {css : List (List Value)} (h : css.length = xs.length) (hr : ∀ (i : Nat) (x : α) (cs : List Value), xs[i]? = some x → css[i]? = some cs → RepS.rdS w S x cs) : css.flatten.length = xs.length * Rep.size α := (flat_len h hr).1
theorem RowIn.owns {g cap : Nat} {cur : Array Value} {css : List (List Value)} (h : RowIn F w base T g cap xs cur css) : OwnsS F w base T (.slice (some ⟨g, 0, none⟩) xs.length cap) xs := by
 refine ⟨css, ⟨flat_size h.len h.rd, .inr ⟨g, cap, cur, rfl, h.lo, h.heap, h.le, h.lim, h.size, h.row⟩⟩, h.len, fun i x cs hx hcs => RepS.mono (fun b hb => ⟨hb.1, hb.2.1, fun e => hb.2.2 (by injection e with e; exact e.symm)⟩) (fun _ _ _ _ hu => hu) (h.rd i x cs hx hcs)⟩
theorem row_css {S : Nat → Prop} {css : List (List Value)} (h : css.length = xs.length) (hr : ∀ (i : Nat) (x : α) (cs : List Value), xs[i]? = some x → css[i]? = some cs → RepS.rdS w S x cs) : ∀ cs ∈ css, cs.length = Rep.size α := fun cs hcs => by
 obtain ⟨i, hi, rfl⟩ := List.getElem_of_mem hcs
 exact RepS.lenS (hr i xs[i] css[i] (List.getElem?_eq_getElem (by omega)) (List.getElem?_eq_getElem hi))
theorem flat_take {n : Nat} : ∀ {css : List (List Value)} (k : Nat), (∀ cs ∈ css, cs.length = n) → css.flatten.take (k * n) = (css.take k).flatten ∧ css.flatten.drop (k * n) = (css.drop k).flatten
 | [], k, _ => by simp
 | c :: r, 0, _ => by simp
 | c :: r, k + 1, h => by
  have hc := h c List.mem_cons_self
  obtain ⟨h1, h2⟩ := flat_take (css := r) k (fun cs hcs => h cs (List.mem_cons_of_mem _ hcs))
  rw [List.flatten_cons, Nat.succ_mul, List.take_succ_cons, List.drop_succ_cons, List.flatten_cons, ← h1, ← h2, ← hc]
  constructor
  ·
   rw [Nat.add_comm, List.take_append, List.take_of_length_le (by omega)]
   congr 2; omega
  ·
   rw [Nat.add_comm, List.drop_append, List.drop_eq_nil_of_le (by omega), List.nil_append]
   congr 1; omega
theorem grown_setRow (w : World) (g : Nat) (cs : Array Value) : w.grownBy (w.setRow g cs) (some g) :=
 ⟨rfl, rfl, rfl, by simp [World.setRow], fun k hk hne => setRow_other w g k cs (fun e => hne (by rw [e]))⟩
theorem RowIn.write {g cap : Nat} {cur : Array Value} {css : List (List Value)} (h : RowIn F w base T g cap xs cur css) {ys : List α} {dss : List (List Value)} {cur' : Array Value} (h1 : ys.length ≤ cap) (h2 : cur'.size = cur.size) (h3 : dss.length = ys.length)
  (h4 : ∀ (i : Nat) (y : α) (cs : List Value), ys[i]? = some y → dss[i]? = some cs → RepS.rdS w (fun b => F b ∧ b < w.heap.size ∧ b ≠ g) y cs) (h5 : cur'.toList.take (ys.length * Rep.size α) = dss.flatten) : RowIn F (w.setRow g cur') base T g cap ys cur' dss := by
 have hg := grown_setRow w g cur'
 exact ⟨h.lo, setRow_heap w g cur cur' T (0, 0) h.heap, h1, h.lim, h2.trans h.size, h3, fun i y cs hy hcs => RepS.mono (fun b hb => ⟨hb.1, by have := hg.size; omega, hb.2.2⟩) (fun b o u hb hu => hg.cell hu (fun e => hb.2.2 (Option.some.inj e))) (h4 i y cs hy hcs), h5⟩
theorem RowIn.lt {g cap : Nat} {cur : Array Value} {css : List (List Value)} (h : RowIn F w base T g cap xs cur css) : g < w.heap.size := (Array.getElem?_eq_some_iff.1 h.heap).1
theorem RowIn.css {g cap : Nat} {cur : Array Value} {css : List (List Value)} (h : RowIn F w base T g cap xs cur css) : ∀ cs ∈ css, cs.length = Rep.size α := row_css h.len h.rd
theorem RowIn.at_ {g cap : Nat} {cur : Array Value} {css : List (List Value)} (h : RowIn F w base T g cap xs cur css) {i : Nat} {x : α} (hx : xs[i]? = some x) : ∃ cs, css[i]? = some cs ∧ RepS.rdS w (fun b => F b ∧ b < w.heap.size ∧ b ≠ g) x cs ∧ ∀ j u, cs[j]? = some u → w.cell? ⟨g, i * Rep.size α + j, none⟩ = some u := by
 have hi := (List.getElem?_eq_some_iff.1 hx).1
 have hci : css[i]? = some (css[i]'(by have := h.len; omega)) := List.getElem?_eq_getElem _
 refine ⟨_, hci, h.rd i x _ hx hci, fun j u hu => ?_⟩
 have hj : j < Rep.size α := by
  have := (List.getElem?_eq_some_iff.1 hu).1
  rw [RepS.lenS (h.rd i x _ hx hci)] at this; exact this
 rw [cell_of_row w g (i * Rep.size α + j) cur T (0, 0) h.heap]
 have := flatten_row h.css hci hj
 have hlt : i * Rep.size α + j < xs.length * Rep.size α := by
  have := Nat.mul_le_mul_right (Rep.size α) (show i + 1 ≤ xs.length from hi)
  rw [Nat.succ_mul] at this; omega
 rw [← h.row, List.getElem?_take, if_pos hlt, hu] at this
 simpa using this
theorem RowIn.frozen {g cap : Nat} {cur : Array Value} {css : List (List Value)} (h : RowIn F w base T g cap xs cur css) (j : Nat) : w.frozen? ⟨g, j, none⟩ = false := by
 simp [World.frozen?, h.heap]
theorem setCells_row {g : Nat} {t : TypeId} {fr : Nat × Nat} : ∀ (vs : List Value) (o : Nat) (cur : Array Value) (w : World), w.heap[g]? = some (.cells cur t fr) → o + vs.length ≤ cur.size →
  w.setCells g o vs = w.setRow g (cur.toList.take o ++ vs ++ cur.toList.drop (o + vs.length)).toArray
 | [], o, cur, w, hg, _ => by
  simp only [List.append_nil, List.length_nil, Nat.add_zero, List.take_append_drop, Array.toArray_toList]
  rw [setRow_self w g cur t fr hg]; rfl
 | v :: r, o, cur, w, hg, hl => by
  have h1 : w.setCells g o (v :: r) = (w.setCell ⟨g, o, none⟩ v).setCells g (o + 1) r := rfl
  rw [h1, setCell_eq_setRow w g o cur t fr v hg, setCells_row r (o + 1) (cur.setIfInBounds o v) _ (setRow_heap w g cur _ t _ hg) (by simp at hl ⊢; omega), setRow_setRow]
  congr 2
  have e := list_seg_step cur.toList o v r (by simp at hl ⊢; omega)
  simpa [Array.toList_setIfInBounds, Nat.add_assoc] using e
theorem splice_parts {β : Type} (X1 M X2 Y cs : List β) (hM : M.length = cs.length) : ((X1 ++ M ++ X2 ++ Y).take X1.length ++ cs ++ (X1 ++ M ++ X2 ++ Y).drop (X1.length + cs.length)).take (X1.length + cs.length + X2.length) = X1 ++ cs ++ X2 := by
 have h1 : (X1 ++ M ++ X2 ++ Y).take X1.length = X1 := by rw [List.append_assoc, List.append_assoc, List.take_left']; rfl
 have h2 : (X1 ++ M ++ X2 ++ Y).drop (X1.length + cs.length) = X2 ++ Y := by rw [← hM, ← List.length_append, List.append_assoc, List.drop_left']; rfl
 rw [h1, h2, ← List.append_assoc, List.take_left']
 simp only [List.length_append]
theorem row_splice {cur : Array Value} {css : List (List Value)} {n k : Nat} {cs : List Value} (hn : ∀ c ∈ css, c.length = n) (hcs : cs.length = n) (hrow : cur.toList.take (css.length * n) = css.flatten) (hk : k < css.length) (hsz : css.length * n ≤ cur.size) :
  (cur.toList.take (k * n) ++ cs ++ cur.toList.drop (k * n + cs.length)).take (css.length * n) = (css.set k cs).flatten := by
 have hfl : css.flatten.length = css.length * n := by have h := congrArg List.length hrow; rw [List.length_take] at h; have h2 : cur.toList.length = cur.size := Array.length_toList; omega
 obtain ⟨t1, t2⟩ := flat_take k hn
 obtain ⟨t3, t4⟩ := flat_take (k + 1) hn
 have hm : (css[k]).length = n := hn _ (List.getElem_mem hk)
 have hkn : k * n + n ≤ css.length * n := by have := Nat.mul_le_mul_right n (show k + 1 ≤ css.length from hk); rw [Nat.succ_mul] at this; exact this
 have hx : css.flatten = (css.take k).flatten ++ css[k] ++ (css.drop (k + 1)).flatten := by
  have : css = css.take k ++ css[k] :: css.drop (k + 1) := by rw [← List.drop_eq_getElem_cons hk, List.take_append_drop]
  exact (congrArg List.flatten this).trans (by rw [List.flatten_append, List.flatten_cons, List.append_assoc])
 have l1 : ((css.take k).flatten).length = k * n := by rw [← t1, List.length_take, hfl]; omega
 have l2 : ((css.drop (k + 1)).flatten).length = css.length * n - (k * n + n) := by rw [← t4, List.length_drop, hfl, Nat.succ_mul]
 have h1 : cur.toList = (css.take k).flatten ++ css[k] ++ (css.drop (k + 1)).flatten ++ cur.toList.drop (css.length * n) := by rw [← hx, ← hrow, List.take_append_drop]
 have h2 := splice_parts (css.take k).flatten css[k] (css.drop (k + 1)).flatten (cur.toList.drop (css.length * n)) cs (hm.trans hcs.symm)
 rw [← h1, l1, l2, hcs, show k * n + n + (css.length * n - (k * n + n)) = css.length * n by omega] at h2
 rw [hcs, h2, List.set_eq_take_append_cons_drop, if_pos hk, List.flatten_append, List.flatten_cons, List.append_assoc]
theorem RowIn.set_ {g cap : Nat} {cur : Array Value} {css : List (List Value)} (h : RowIn F w base T g cap xs cur css) {i : Nat} (hi : i < xs.length) {y : α} {cs : List Value} (hr : RepS.rdS w (fun b => F b ∧ b < w.heap.size ∧ b ≠ g) y cs) :
  ∃ cur', w.setCells g (i * Rep.size α) cs = w.setRow g cur' ∧ RowIn F (w.setRow g cur') base T g cap (xs.set i y) cur' (css.set i cs) := by
 have hcl : cs.length = Rep.size α := RepS.lenS hr
 have hle : xs.length * Rep.size α ≤ cur.size := by rw [h.size]; exact Nat.mul_le_mul_right _ h.le
 have hkn : i * Rep.size α + Rep.size α ≤ xs.length * Rep.size α := by have := Nat.mul_le_mul_right (Rep.size α) (show i + 1 ≤ xs.length from hi); rw [Nat.succ_mul] at this; exact this
 refine ⟨_, setCells_row cs _ cur w h.heap (by omega), h.write (by simpa using h.le) (by simp; omega) (by simp [h.len]) (fun j y' cs' hy hcs' => ?_) ?_⟩
 ·
  rw [List.getElem?_set] at hy hcs'
  by_cases hj : i = j
  ·
   subst hj
   rw [if_pos rfl, if_pos hi] at hy
   rw [if_pos rfl, if_pos (by rw [h.len]; exact hi)] at hcs'
   obtain rfl := Option.some.inj hy
   obtain rfl := Option.some.inj hcs'
   exact hr
  ·
   rw [if_neg hj] at hy hcs'
   exact h.rd j y' cs' hy hcs'
 ·
  rw [List.length_set, ← h.len]
  exact row_splice h.css hcl (by rw [h.len]; exact h.row) (by rw [h.len]; exact hi) (by rw [h.len]; exact hle)
end
section
variable {P : Program}
variable {ops : Array Oper} {rest : List Oper} {o : Oper} {a : Act} {Q : Exit → Act → World → Prop} {w : World}
end
end Go.Cold
namespace Go.Cold
open Go Go.RowKit
section
variable {α : Type} [RepS α] {F : Nat → Prop} {w w' : World} {base : Nat} {T : TypeId} {v : Value} {xs : List α}
def RdL (w : World) (S : Nat → Prop) (xs : List α) (css : List (List Value)) : Prop := ∀ (i : Nat) (x : α) (cs : List Value), xs[i]? = some x → css[i]? = some cs → RepS.rdS w S x cs
theorem RdL.mono {S S' : Nat → Prop} {css : List (List Value)} (hS : ∀ b, S b → S' b) (hc : ∀ b o u, S b → w.cell? ⟨b, o, none⟩ = some u → w'.cell? ⟨b, o, none⟩ = some u) (h : RdL w S xs css) : RdL w' S' xs css := fun i x cs hx hcs => RepS.mono hS hc (h i x cs hx hcs)
end
section
variable {P : Program} {α : Type} [RepS α] {F : Nat → Prop} {w : World} {base bytes : Nat} {T TS : TypeId} {xs : List α}
end
end Go.Cold
namespace Go.Proofs.YtjgllhlilbchpaaGreatDoor
open Go.RowKit Go.Cold Go.Shelf
end Go.Proofs.YtjgllhlilbchpaaGreatDoor
namespace Go.Cold
open Go Go.RowKit
section
variable {α : Type} [RepS α] {F : Nat → Prop} {w W W' : World} {base : Nat} {T : TypeId} {g cap : Nat} {xs : List α} {cur : Array Value} {css : List (List Value)} {p : α → Bool} {i j : Nat} {x : α}
theorem RowIn.below (h : RowIn F w base T g cap xs cur css) (hb : Below w.heap.size w W) : RowIn F W base T g cap xs cur css :=
 ⟨h.lo, (hb.block g h.lt).trans h.heap, h.le, h.lim, h.size, h.len, RdL.mono (w := w) (fun b hb' => ⟨hb'.1, by have := hb.size; omega, hb'.2.2⟩) (fun b o u hb' hu => (hb.cell (p := ⟨b, o, none⟩) hb'.2.1).trans hu) h.rd, h.row⟩
end
end Go.Cold
namespace Go.Proofs.YtjgllhlilbchpaaGreatDoor
open Go.RowKit Go.Cold
end Go.Proofs.YtjgllhlilbchpaaGreatDoor
namespace Go.Cold
open Go Go.RowKit
theorem idx_cases (p : Dev → Bool) (xs : List Dev) : (idxInt p xs = -1 ∧ ∀ x ∈ xs, p x = false) ∨ ∃ (i : Nat) (x : Dev), idxInt p xs = (i : Int) ∧ xs[i]? = some x ∧ p x = true ∧ ∀ y ∈ xs.take i, p y = false := by
 unfold idxInt
 cases h : xs.findIdx? p with
 | none => exact .inl ⟨rfl, List.findIdx?_eq_none_iff.1 h⟩
 | some i =>
  obtain ⟨hi, h1, h2⟩ := List.findIdx?_eq_some_iff_getElem.1 h
  refine .inr ⟨i, xs[i], rfl, List.getElem?_eq_getElem hi, h1, fun y hy => ?_⟩
  obtain ⟨j, hj, rfl⟩ := List.getElem_of_mem hy
  rw [List.length_take] at hj
  rw [List.getElem_take]
  exact Bool.eq_false_iff.2 (h2 j (by omega))
theorem setCells10 (w : World) (g o : Nat) (v0 v1 v2 v3 v4 v5 v6 v7 v8 v9 : Value) : w.setCells g o [v0, v1, v2, v3, v4, v5, v6, v7, v8, v9] = (((((((((w.setCell ⟨g, o, none⟩ v0).setCell ⟨g, o + 1, none⟩ v1).setCell ⟨g, o + 2, none⟩ v2).setCell ⟨g, o + 3, none⟩ v3).setCell ⟨g, o + 4, none⟩ v4).setCell ⟨g, o + 5, none⟩ v5).setCell ⟨g, o + 6, none⟩ v6).setCell ⟨g, o + 7, none⟩ v7).setCell ⟨g, o + 8, none⟩ v8).setCell ⟨g, o + 9, none⟩ v9 := rfl
end Go.Cold
namespace Go.Proofs.YtjgllhlilbchpaaGreatDoor
open Go.RowKit Go.Cold
end Go.Proofs.YtjgllhlilbchpaaGreatDoor
namespace Go.Cold
open Go Go.RowKit
end Go.Cold
namespace Go.Proofs.YtjgllhlilbchpaaGreatDoor
open Go.RowKit Go.Cold
def TreF (F : Nat → Prop) (z : Int) (l : List Dev) (w : World) (e : Ending) (w' : World) : Prop := Below w.heap.size w w' ∧ ∃ v, e = .returned (.tuple #[.agg #[v], .int .i64 z]) ∧ OwnsS F w' w.heap.size 32 v l
theorem TreF.mk {F : Nat → Prop} {z : Int} {l : List Dev} {w w' : World} {e : Ending} {v : Value} (h1 : Below w.heap.size w w') (h2 : e = .returned (.tuple #[.agg #[v], .int .i64 z])) (h3 : OwnsS F w' w.heap.size 32 v l) : TreF F z l w e w' := ⟨h1, v, h2, h3⟩
theorem TreF.err {F : Nat → Prop} {z : Int} {w w' : World} {e : Ending} (h1 : Below w.heap.size w w') (h2 : e = .returned (.tuple #[.agg #[.slice none 0 0], .int .i64 z])) : TreF F z [] w e w' := ⟨h1, _, h2, OwnsS.nil_ _ _ _ _⟩
end Go.Proofs.YtjgllhlilbchpaaGreatDoor
namespace Go.Proofs.YtjgllhlilbchpaaGreatDoor
open Go.RowKit Go.Cold
end Go.Proofs.YtjgllhlilbchpaaGreatDoor
namespace Go.Cold
open Go Go.RowKit
section
variable {P : Program} {tI tB : TypeId} {base X Y : World} {bg : Nat}
end
section
variable {α : Type} [El α] {P : Program} {k e t : TypeId} {w : World} {b n : Nat} {f : Int → Option α} {ops : Array Oper} {rest : List Oper} {o : Oper} {a : Act} {Q : Exit → Act → World → Prop}
end
end Go.Cold
namespace Go.Proofs.YtjgllhlilbchpaaGreatDoor
open Go.RowKit Go.Cold Go.Shelf
attribute [local go_sem] Oper.semAt_some
end Go.Proofs.YtjgllhlilbchpaaGreatDoor
namespace Go.Cold
open Go Go.RowKit
def chgX (L : List Dev) (d : Dev) : List Dev := if chgE L d = 0 then chgL L d else []
def movedB (o d : Dev) : Bool := !(decide (o.par = d.par) && decide (o.orig = d.orig) && decide (o.kind = d.kind))
theorem chgE_cases {L : List Dev} {d o : Dev} (h : WF L) (ho : o ∈ L) (hi : o.idx = d.idx) : chgE L d = if checkD d ≠ 0 then 41 else if movedB o d then 42 else if clashesB L d then 44 else 0 := by
 rw [chgE_some h ho hi]
 unfold movedB
 by_cases h1 : o.par = d.par <;> by_cases h2 : o.orig = d.orig <;> by_cases h3 : o.kind = d.kind <;> simp [h1, h2, h3]
end Go.Cold
namespace Go.Proofs.YtjgllhlilbchpaaGreatDoor
open Go.RowKit Go.Cold
set_option maxRecDepth 100000 in
theorem change1_pred (d : Dev) (A2 : Option Addr) (c2 g B : Nat) (w : World) (hv : BoxL w g [.int .i64 d.idx, .int .i64 d.par, .string d.nm, .string d.orig, .string d.sub, .string d.drv, .string d.ali, .int .i64 d.kind, .int .i64 d.num, .slice A2 d.attrs.length c2]) :
  PredD 80 #[.pointer (some ⟨g, 0, none⟩)] w B (fun _ => True) (fun x => decide (x.idx = d.idx)) := by
 refine ⟨enters_of Tryz.func80 (by kernel_rfl) rfl, fun x A3 c3 W hxo hat hq hW => ?_⟩
 have HV := Lib.hid (hv.kept (grown_none hW) (fun e => by cases e)); clear hv hxo hat hq hW
 go_enter Tryz.func80, Tryz.ntmps80
 go_upto_region 1 with fail
 obtain ⟨w1, hw1⟩ : ∃ w1, W.alloc (.cells #[.int .i64 x.idx, .int .i64 x.par, .string x.nm, .string x.orig, .string x.sub, .string x.drv, .string x.ali, .int .i64 x.kind, .int .i64 x.num, .slice A3 x.attrs.length c3] 32) = w1 := ⟨_, rfl⟩
 have hbw1 : Below W.heap.size W w1 := by rw [← hw1]; exact (Below.refl _ _).alloc (Nat.le_refl _) _
 have HGw1 := Lib.hid (show w1.heap.size = W.heap.size + 1 by rw [← hw1]; simp)
 have HXxw1 := Lib.hid (show BoxL w1 W.heap.size [.int .i64 x.idx, .int .i64 x.par, .string x.nm, .string x.orig, .string x.sub, .string x.drv, .string x.ali, .int .i64 x.kind, .int .i64 x.num, .slice A3 x.attrs.length c3] from box_mk hw1)
 try simp only [hw1]
 have HBw1 := Lib.hid hbw1
 have vw1 := Lib.hid (HV.out.kept (grown_none hbw1) (fun e => by cases e))
 clear hw1 hbw1
 try rw [show W.heap.size + 1 = w1.heap.size from HGw1.out.symm]
 have cv0 := vw1.out.1 0 _ rfl
 have cx0 := HXxw1.out.1 0 _ rfl
 by_cases hp : x.idx = d.idx
 ·
  have ep : (x.idx == d.idx) = true := by simpa using hp
  have HR := Lib.hid (show true = decide (x.idx = d.idx) by simp [hp]); clear hp
  go_wp2
  go_ret
  exact ⟨by rw [← HR.out]; rfl, HBw1.out⟩
 ·
  have ep : (x.idx == d.idx) = false := by simpa using hp
  have HR := Lib.hid (show false = decide (x.idx = d.idx) by simp [hp]); clear hp
  go_wp2
  go_ret
  exact ⟨by rw [← HR.out]; rfl, HBw1.out⟩
set_option maxRecDepth 100000 in
set_option maxHeartbeats 4000000 in
theorem Change_any (A : Option Addr) (c : Nat) (L : List Dev) (d : Dev) (A2 : Option Addr) (c2 : Nat) (w : World) (B : Nat) (hB : B ≤ w.heap.size) (hx : Sl w B A c L) (hd : devOk d) (ha : Sl w B A2 c2 d.attrs) (hvt : VT L) (hok : Ok w) :
  Calls Tryz.prog 36 #[.agg #[.slice A L.length c], .agg #[.int .i64 d.idx, .int .i64 d.par, .string d.nm, .string d.orig, .string d.sub, .string d.drv, .string d.ali, .int .i64 d.kind, .int .i64 d.num, .slice A2 d.attrs.length c2]] w (TreF (fun b => w.heap.size ≤ b) (chgE L d) (chgX L d) w) := by
 have hvs := hvt.small
 have hvl := hvt.size
 have hx1 := hx.1; have hx2 := hx.2.1
 unfold maxLen at hx2
 have HX := Lib.hid hx; have HB := Lib.hid hB; have HD := Lib.hid hd; have HA := Lib.hid ha; have HVT := Lib.hid hvt; have HOK := Lib.hid hok; have HVS := Lib.hid hvs; have HVL := Lib.hid hvl
 clear hx hB hd ha hvt hok hvs hvl
 go_enter Tryz.func36, Tryz.ntmps36
 go_upto_region 1 with fail
 obtain ⟨w1, hw1⟩ : ∃ w1, w.alloc (.cells #[.slice A L.length c] 28) = w1 := ⟨_, rfl⟩
 have hbw1 : Below w.heap.size w w1 := by rw [← hw1]; exact (Below.refl _ _).alloc (Nat.le_refl _) _
 have HGw1 := Lib.hid (show w1.heap.size = w.heap.size + 1 by rw [← hw1]; simp)
 have HXtw1 := Lib.hid (show BoxL w1 w.heap.size [.slice A L.length c] from box_mk hw1)
 try simp only [hw1]
 have HSw1 := Lib.hid (show w.heap.size ≤ w1.heap.size from hbw1.size)
 have HBw1 := Lib.hid hbw1
 clear hw1 hbw1
 try rw [show w.heap.size + 1 = w1.heap.size from HGw1.out.symm]
 obtain ⟨w2, hw2⟩ : ∃ w2, w1.alloc (.cells #[.int .i64 d.idx, .int .i64 d.par, .string d.nm, .string d.orig, .string d.sub, .string d.drv, .string d.ali, .int .i64 d.kind, .int .i64 d.num, .slice A2 d.attrs.length c2] 32) = w2 := ⟨_, rfl⟩
 have hbw2 : Below w1.heap.size w1 w2 := by rw [← hw2]; exact (Below.refl _ _).alloc (Nat.le_refl _) _
 have HGw2 := Lib.hid (show w2.heap.size = w1.heap.size + 1 by rw [← hw2]; simp)
 have HXpw2 := Lib.hid (show BoxL w2 w1.heap.size [.int .i64 d.idx, .int .i64 d.par, .string d.nm, .string d.orig, .string d.sub, .string d.drv, .string d.ali, .int .i64 d.kind, .int .i64 d.num, .slice A2 d.attrs.length c2] from box_mk hw2)
 try simp only [hw2]
 have HSw2 := Lib.hid (show w1.heap.size ≤ w2.heap.size from hbw2.size)
 have HBw2 := Lib.hid (HBw1.out.trans (hbw2.mono HBw1.out.size))
 have tw2 := Lib.hid (HXtw1.out.kept (grown_none hbw2) (fun e => by cases e))
 clear hw2 hbw2
 try rw [show w1.heap.size + 1 = w2.heap.size from HGw2.out.symm]
 obtain ⟨w3, hw3⟩ : ∃ w3, w2.alloc (.cells #[.slice none 0 0] 28) = w3 := ⟨_, rfl⟩
 have hbw3 : Below w2.heap.size w2 w3 := by rw [← hw3]; exact (Below.refl _ _).alloc (Nat.le_refl _) _
 have HGw3 := Lib.hid (show w3.heap.size = w2.heap.size + 1 by rw [← hw3]; simp)
 have HXrw3 := Lib.hid (show BoxL w3 w2.heap.size [.slice none 0 0] from box_mk hw3)
 try simp only [hw3]
 have HSw3 := Lib.hid (show w2.heap.size ≤ w3.heap.size from hbw3.size)
 have HBw3 := Lib.hid (HBw2.out.trans (hbw3.mono HBw2.out.size))
 have tw3 := Lib.hid (tw2.out.kept (grown_none hbw3) (fun e => by cases e))
 have pw3 := Lib.hid (HXpw2.out.kept (grown_none hbw3) (fun e => by cases e))
 clear hw3 hbw3
 try rw [show w2.heap.size + 1 = w3.heap.size from HGw3.out.symm]
 have ct0 := tw3.out.1 0 _ rfl
 have cfr := HXrw3.out.2.1
 go_wp2_with fail
 refine (IndexFuncD_any A c L _ _ _ _ _ B (Nat.le_trans HB.out HBw3.out.size) (HX.out.keep (HBw3.out.mono HB.out)) (change1_pred d A2 c2 w1.heap.size B _ pw3.out) (fun _ _ => trivial)).mono ?_
 rintro e w4 ⟨rfl, hbw4⟩
 clear ct0 cfr
 have HSw4 := Lib.hid (show w3.heap.size ≤ w4.heap.size from hbw4.size)
 have HBw4 := Lib.hid (HBw3.out.trans (hbw4.mono HBw3.out.size))
 have tw4 := Lib.hid (tw3.out.kept (grown_none hbw4) (fun e => by cases e))
 have pw4 := Lib.hid (pw3.out.kept (grown_none hbw4) (fun e => by cases e))
 have rw4 := Lib.hid (HXrw3.out.kept (grown_none hbw4) (fun e => by cases e))
 clear hbw4
 have hidx := idx_cases (fun x => decide (x.idx = d.idx)) L
 obtain ⟨z, hz⟩ : ∃ z, idxInt (fun x => decide (x.idx = d.idx)) L = z := ⟨_, rfl⟩
 rw [hz] at hidx ⊢
 clear hz
 rcases hidx with ⟨rfl, hall⟩ | ⟨i0, x0, rfl, hx0, hp0, -⟩
 ·
  have HNI := Lib.hid (show d.idx ∉ idxs L from fun h => by obtain ⟨e, he, hi⟩ := List.mem_map.1 h; have := of_decide_eq_false (hall e he); exact this hi)
  clear hall
  have cr0 := rw4.out.1 0 _ rfl
  have cfr := rw4.out.2.1
  have HE := Lib.hid (show chgE L d = 45 by exact chgE_none HNI.out)
  have HEX := Lib.hid (show chgX L d = [] by unfold chgX; rw [HE.out]; rfl)
  go_wp2
  refine bodyPost_ret (v := .tuple #[.agg #[.slice none 0 0], .int .i64 45]) (by simp [results, Tryz.results36, go_sem, cr0, cfr]) rfl ?_
  rw [HE.out, HEX.out]
  exact TreF.err (HBw4.out.setCell (by have := HGw1.out; have := HGw2.out; show w.heap.size ≤ w2.heap.size; omega) _) rfl
 ·
  have hi0 := (List.getElem?_eq_some_iff.1 hx0).1
  have HX0 := Lib.hid hx0; have HP0 := Lib.hid (show x0.idx = d.idx from of_decide_eq_true hp0); clear hp0
  obtain ⟨b3, o3, rfl, hb3, A3, c3, hok3, hat3, hcs3⟩ := (HX.out.keep (HBw4.out.mono HB.out)).dev hi0
  obtain rfl : L[i0] = x0 := (List.getElem?_eq_some_iff.1 hx0).2
  obtain ⟨y, hy⟩ : ∃ y, L[i0]'hi0 = y := ⟨_, rfl⟩
  rw [hy] at hok3 hcs3 hat3 hx0 HP0 HX0
  clear hx0 hy hat3 hb3 hok3
  have HMEM := Lib.hid (List.mem_of_getElem? HX0.out)
  have HCE := Lib.hid (chgE_cases HVT.out.wf HMEM.out HP0.out)
  obtain ⟨y0, y1, y2, y3, y4, y5, y6, y7, y8, y9⟩ := hcs3
  have i1 : ¬ (i0 : Int) < 0 := by omega
  have i2 : (i0 : Int) < (L.length : Int) := by omega
  have ct0 := tw4.out.1 0 _ rfl
  have cfr := rw4.out.2.1
  go_upto_region 5 with fail
  clear y0 y1 y2 y3 y4 y5 y6 y7 y8 y9
  obtain ⟨w5, hw5⟩ : ∃ w5, w4.alloc (.cells #[.int .i64 y.idx, .int .i64 y.par, .string y.nm, .string y.orig, .string y.sub, .string y.drv, .string y.ali, .int .i64 y.kind, .int .i64 y.num, .slice A3 y.attrs.length c3] 32) = w5 := ⟨_, rfl⟩
  have hbw5 : Below w4.heap.size w4 w5 := by rw [← hw5]; exact (Below.refl _ _).alloc (Nat.le_refl _) _
  have HGw5 := Lib.hid (show w5.heap.size = w4.heap.size + 1 by rw [← hw5]; simp)
  have HXow5 := Lib.hid (show BoxL w5 w4.heap.size [.int .i64 y.idx, .int .i64 y.par, .string y.nm, .string y.orig, .string y.sub, .string y.drv, .string y.ali, .int .i64 y.kind, .int .i64 y.num, .slice A3 y.attrs.length c3] from box_mk hw5)
  try simp only [hw5]
  have HSw5 := Lib.hid (show w4.heap.size ≤ w5.heap.size from hbw5.size)
  have HBw5 := Lib.hid (HBw4.out.trans (hbw5.mono HBw4.out.size))
  have tw5 := Lib.hid (tw4.out.kept (grown_none hbw5) (fun e => by cases e))
  have pw5 := Lib.hid (pw4.out.kept (grown_none hbw5) (fun e => by cases e))
  have rw5 := Lib.hid (rw4.out.kept (grown_none hbw5) (fun e => by cases e))
  clear hw5 hbw5
  try rw [show w4.heap.size + 1 = w5.heap.size from HGw5.out.symm]
  clear ct0 cfr
  have cp0 := pw5.out.1 0 _ rfl
  have cp1 := pw5.out.1 1 _ rfl
  have cp2 := pw5.out.1 2 _ rfl
  have cp3 := pw5.out.1 3 _ rfl
  have cp4 := pw5.out.1 4 _ rfl
  have cp5 := pw5.out.1 5 _ rfl
  have cp6 := pw5.out.1 6 _ rfl
  have cp7 := pw5.out.1 7 _ rfl
  have cp8 := pw5.out.1 8 _ rfl
  have cp9 := pw5.out.1 9 _ rfl
  have cfr := rw5.out.2.1
  go_wp2_with fail
  refine (Check_any d A2 c2 _ B (Nat.le_trans HB.out HBw5.out.size) HD.out (HA.out.keep (HBw5.out.mono HB.out)) (HOK.out.next HBw5.out)).mono ?_
  rintro e w6 ⟨rfl, hbw6⟩
  clear cp0 cp1 cp2 cp3 cp4 cp5 cp6 cp7 cp8 cp9 cfr
  have HSw6 := Lib.hid (show w5.heap.size ≤ w6.heap.size from hbw6.size)
  have HBw6 := Lib.hid (HBw5.out.trans (hbw6.mono HBw5.out.size))
  have tw6 := Lib.hid (tw5.out.kept (grown_none hbw6) (fun e => by cases e))
  have pw6 := Lib.hid (pw5.out.kept (grown_none hbw6) (fun e => by cases e))
  have rw6 := Lib.hid (rw5.out.kept (grown_none hbw6) (fun e => by cases e))
  have ow6 := Lib.hid (HXow5.out.kept (grown_none hbw6) (fun e => by cases e))
  clear hbw6
  by_cases hc : checkD d = 0
  ·
   have HDS := Lib.hid (show d.orig.size ≤ 32 from valid_size (check_names hc).2.1)
   have HDA := Lib.hid (show d.attrs.length ≤ 1000000 from by have := attrs_le hc; omega)
   have ec : (checkD d != 0) = false := by rw [hc]; rfl
   have HC := Lib.hid hc; try rw [hc]
   clear hc
   by_cases hq : y.par = d.par
   ·
    have eqx0 : (d.par == y.par) = true := by rw [hq]; simp
    have eq0 : (d.par != y.par) = false := by rw [bne, eqx0]; rfl
    have HE1 := Lib.hid hq; clear hq
    by_cases hq : y.orig = d.orig
    ·
     have eqx1 : (d.orig.toList == y.orig.toList) = true := by rw [hq]; simp
     have eq1 : (d.orig.toList != y.orig.toList) = false := by rw [bne, eqx1]; rfl
     have HE2 := Lib.hid hq; clear hq
     by_cases hq : y.kind = d.kind
     ·
      have eqx2 : (d.kind == y.kind) = true := by rw [hq]; simp
      have eq2 : (d.kind != y.kind) = false := by rw [bne, eqx2]; rfl
      have HE3 := Lib.hid hq; clear hq
      have HMV := Lib.hid (show movedB y d = false by unfold movedB; rw [decide_eq_true HE1.out, decide_eq_true HE2.out, decide_eq_true HE3.out]; rfl)
      have ct0 := tw6.out.1 0 _ rfl
      have cp0 := pw6.out.1 0 _ rfl
      have cp1 := pw6.out.1 1 _ rfl
      have cp2 := pw6.out.1 2 _ rfl
      have cp3 := pw6.out.1 3 _ rfl
      have cp4 := pw6.out.1 4 _ rfl
      have cp5 := pw6.out.1 5 _ rfl
      have cp6 := pw6.out.1 6 _ rfl
      have cp7 := pw6.out.1 7 _ rfl
      have cp8 := pw6.out.1 8 _ rfl
      have cp9 := pw6.out.1 9 _ rfl
      have cfr := rw6.out.2.1
      have co1 := ow6.out.1 1 _ rfl
      have co3 := ow6.out.1 3 _ rfl
      have co7 := ow6.out.1 7 _ rfl
      go_wp2_with fail
      refine (clashes_any (some ⟨b3, o3, none⟩) c L d A2 c2 _ B (Nat.le_trans HB.out HBw6.out.size) (HX.out.keep (HBw6.out.mono HB.out)) (fun x hx => by have := (HVS.out x hx).1; omega) (by have := HDS.out; omega) (HOK.out.next HBw6.out)).mono ?_
      rintro e w7 ⟨rfl, hbw7⟩
      clear ct0 cp0 cp1 cp2 cp3 cp4 cp5 cp6 cp7 cp8 cp9 cfr co1 co3 co7
      have HSw7 := Lib.hid (show w6.heap.size ≤ w7.heap.size from hbw7.size)
      have HBw7 := Lib.hid (HBw6.out.trans (hbw7.mono HBw6.out.size))
      have tw7 := Lib.hid (tw6.out.kept (grown_none hbw7) (fun e => by cases e))
      have pw7 := Lib.hid (pw6.out.kept (grown_none hbw7) (fun e => by cases e))
      have rw7 := Lib.hid (rw6.out.kept (grown_none hbw7) (fun e => by cases e))
      have ow7 := Lib.hid (ow6.out.kept (grown_none hbw7) (fun e => by cases e))
      clear hbw7
      cases hcb : clashesB L d with
      | true =>
       have HCB := Lib.hid hcb; clear hcb
       have cr0 := rw7.out.1 0 _ rfl
       have cfr := rw7.out.2.1
       have HE := Lib.hid (show chgE L d = 44 by rw [HCE.out, if_neg (by rw [HC.out]; decide), if_neg (by rw [HMV.out]; decide), if_pos HCB.out])
       have HEX := Lib.hid (show chgX L d = [] by unfold chgX; rw [HE.out]; rfl)
       go_wp2
       refine bodyPost_ret (v := .tuple #[.agg #[.slice none 0 0], .int .i64 44]) (by simp [results, Tryz.results36, go_sem, cr0, cfr]) rfl ?_
       rw [HE.out, HEX.out]
       exact TreF.err (HBw7.out.setCell (by have := HGw1.out; have := HGw2.out; show w.heap.size ≤ w2.heap.size; omega) _) rfl
      | false =>
       have HCB := Lib.hid hcb; clear hcb
       have HE := Lib.hid (show chgE L d = 0 by rw [HCE.out, if_neg (by rw [HC.out]; decide), if_neg (by rw [HMV.out]; decide), if_neg (by rw [HCB.out]; decide)])
       have HEX := Lib.hid (show chgX L d = chgL L d by unfold chgX; rw [HE.out]; rfl)
       have ct0 := tw7.out.1 0 _ rfl
       have cfr := rw7.out.2.1
       go_wp2_with fail
       refine (copies_any (some ⟨b3, o3, none⟩) c L _ B (Nat.le_trans HB.out HBw7.out.size) (HX.out.keep (HBw7.out.mono HB.out)) (by have := HVL.out; omega) (fun x hx => attrs_le (HVT.out.chk x hx))).mono ?_
       rintro e w8 ⟨hbw8, v, rfl, hown⟩
       clear ct0 cfr
       have HSw8 := Lib.hid (show w7.heap.size ≤ w8.heap.size from hbw8.size)
       have HBw8 := Lib.hid (HBw7.out.trans (hbw8.mono HBw7.out.size))
       have tw8 := Lib.hid (tw7.out.kept (grown_none hbw8) (fun e => by cases e))
       have pw8 := Lib.hid (pw7.out.kept (grown_none hbw8) (fun e => by cases e))
       have rw8 := Lib.hid (rw7.out.kept (grown_none hbw8) (fun e => by cases e))
       have ow8 := Lib.hid (ow7.out.kept (grown_none hbw8) (fun e => by cases e))
       clear hbw8
       rw [filter_any] at hown
       have HRLT := Lib.hid (show w2.heap.size < w7.heap.size from rw7.out.2.2)
       rcases hown.opened with ⟨-, hnil⟩ | ⟨gr, cap, cur, css, rfl, hrow⟩
       · rw [hnil] at hi0; simp at hi0
       have hrl := hrow.le; have hrm := hrow.lim
       unfold maxLen at hrm
       have HROW := Lib.hid hrow; have HGR := Lib.hid hrow.lo
       clear hown hrow
       have cp0 := pw8.out.1 0 _ rfl
       have cp1 := pw8.out.1 1 _ rfl
       have cp2 := pw8.out.1 2 _ rfl
       have cp3 := pw8.out.1 3 _ rfl
       have cp4 := pw8.out.1 4 _ rfl
       have cp5 := pw8.out.1 5 _ rfl
       have cp6 := pw8.out.1 6 _ rfl
       have cp7 := pw8.out.1 7 _ rfl
       have cp8 := pw8.out.1 8 _ rfl
       have cp9 := pw8.out.1 9 _ rfl
       have cfr := rw8.out.2.1
       go_wp2_with fail
       refine (copied_any d A2 c2 _ B (Nat.le_trans HB.out HBw8.out.size) (HA.out.keep (HBw8.out.mono HB.out)) HDA.out).mono ?_
       rintro e w9 ⟨hbw9, A4, c4, rfl, hsl⟩
       clear cp0 cp1 cp2 cp3 cp4 cp5 cp6 cp7 cp8 cp9 cfr
       have HSw9 := Lib.hid (show w8.heap.size ≤ w9.heap.size from hbw9.size)
       have HBw9 := Lib.hid (HBw8.out.trans (hbw9.mono HBw8.out.size))
       have tw9 := Lib.hid (tw8.out.kept (grown_none hbw9) (fun e => by cases e))
       have pw9 := Lib.hid (pw8.out.kept (grown_none hbw9) (fun e => by cases e))
       have rw9 := Lib.hid (rw8.out.kept (grown_none hbw9) (fun e => by cases e))
       have ow9 := Lib.hid (ow8.out.kept (grown_none hbw9) (fun e => by cases e))
       have HROWw9 := Lib.hid (HROW.out.below hbw9)
       clear hbw9
       have HSL := Lib.hid hsl; clear hsl
       have hcell : ∀ j, j < 10 → ∃ u, w9.cell? ⟨gr, i0 * 10 + j, none⟩ = some u := fun j hj => by
        obtain ⟨cs0, h1, h2, h3⟩ := HROWw9.out.at_ HX0.out
        have h4 : cs0.length = 10 := RepS.lenS h2
        exact ⟨_, h3 j _ (List.getElem?_eq_getElem (by omega))⟩
       have hfz : ∀ j, w9.frozen? ⟨gr, j, none⟩ = false := fun j => HROWw9.out.frozen j
       obtain ⟨v0, e0⟩ := hcell 0 (by decide)
       obtain ⟨v1, e1⟩ := hcell 1 (by decide)
       obtain ⟨v2, e2⟩ := hcell 2 (by decide)
       obtain ⟨v3, e3⟩ := hcell 3 (by decide)
       obtain ⟨v4, e4⟩ := hcell 4 (by decide)
       obtain ⟨v5, e5⟩ := hcell 5 (by decide)
       obtain ⟨v6, e6⟩ := hcell 6 (by decide)
       obtain ⟨v7, e7⟩ := hcell 7 (by decide)
       obtain ⟨v8, e8⟩ := hcell 8 (by decide)
       obtain ⟨v9, e9⟩ := hcell 9 (by decide)
       rw [Nat.add_zero] at e0
       have hic : (i0 : Int) < (L.length : Int) := by omega
       clear hcell
       go_upto_region 13 with fail
       clear e0 e1 e2 e3 e4 e5 e6 e7 e8 e9 hfz
       have HRD := Lib.hid (show RepS.rdS w9 (fun b => w7.heap.size ≤ b ∧ b < w9.heap.size ∧ b ≠ gr) d (devCells d A4 c4) from ⟨A4, c4, rfl, HD.out, HSL.out.mono (fun b hb => ⟨by have := hb.1; have := HSw8.out; omega, hb.2, fun e => by have := hb.1; have := HROW.out.lt; subst e; omega⟩) (fun _ _ _ _ hu => hu)⟩)
       obtain ⟨cur', hset, hrow'⟩ := HROWw9.out.set_ hi0 HRD.out
       obtain ⟨w19, hw9⟩ : ∃ z, ((((((((((w9.setCell ⟨gr, i0 * 10, none⟩ (.int .i64 d.idx)).setCell ⟨gr, i0 * 10 + 1, none⟩ (.int .i64 d.par)).setCell ⟨gr, i0 * 10 + 2, none⟩ (.string d.nm)).setCell ⟨gr, i0 * 10 + 3, none⟩ (.string d.orig)).setCell ⟨gr, i0 * 10 + 4, none⟩ (.string d.sub)).setCell ⟨gr, i0 * 10 + 5, none⟩ (.string d.drv)).setCell ⟨gr, i0 * 10 + 6, none⟩ (.string d.ali)).setCell ⟨gr, i0 * 10 + 7, none⟩ (.int .i64 d.kind)).setCell ⟨gr, i0 * 10 + 8, none⟩ (.int .i64 d.num)).setCell ⟨gr, i0 * 10 + 9, none⟩ (.slice A4 d.attrs.length c4)) = z := ⟨_, rfl⟩
       have hs9 : w9.setRow gr cur' = w19 := hset.symm.trans ((setCells10 w9 gr (i0 * 10) _ _ _ _ _ _ _ _ _ _).trans hw9)
       have hg9 : w9.grownBy w19 (some gr) := by rw [← hs9]; exact grown_setRow _ _ _
       rw [hs9, chg_set HVT.out.wf HX0.out HP0.out] at hrow'
       rw [hw9]
       clear hw9 hset hs9
       have HOW := Lib.hid (show OwnsS (fun b => w7.heap.size ≤ b) w19 w7.heap.size 32 (.slice (some ⟨gr, 0, none⟩) L.length cap) (chgL L d) by have h := hrow'.owns; rw [show (chgL L d).length = L.length by unfold chgL; simp] at h; exact h)
       have HSZ := Lib.hid (show w.heap.size ≤ w7.heap.size from HBw7.out.size)
       have HB9 := Lib.hid (HBw9.out.grown hg9 HBw9.out.size (fun q hq => by obtain rfl := Option.some.inj hq; have := HGR.out; have := HSZ.out; omega))
       have HR9 := Lib.hid (rw9.out.kept hg9 (fun e => by obtain h := Option.some.inj e; have := HGR.out; have := HRLT.out; omega))
       have cr0 := HR9.out.1 0 _ rfl; have cfr := HR9.out.2.1
       clear hg9 hrow'
       go_wp2
       refine bodyPost_ret (v := .tuple #[.agg #[.slice (some ⟨gr, 0, none⟩) L.length cap], .int .i64 0]) (by simp [results, Tryz.results36, go_sem, cr0, cfr]) rfl ?_
       rw [HE.out, HEX.out]
       exact TreF.mk (HB9.out.setCell (by have := HGw1.out; have := HGw2.out; show w.heap.size ≤ w2.heap.size; omega) _) rfl ((HOW.out.grownb (grown_one w19 w2.heap.size 0 _) (fun x (hx : w7.heap.size ≤ x) => by have := HRLT.out; omega) HRLT.out).wide (fun b (hb : w7.heap.size ≤ b) => by have := HSZ.out; show w.heap.size ≤ b; omega) |>.low HSZ.out)
     ·
      have eqx2 : (d.kind == y.kind) = false := by simp; exact fun h => hq h.symm
      have eq2 : (d.kind != y.kind) = true := by rw [bne, eqx2]; rfl
      have HMV := Lib.hid (show movedB y d = true by unfold movedB; simp [hq]); clear hq
      have cp1 := pw6.out.1 1 _ rfl
      have cp3 := pw6.out.1 3 _ rfl
      have cp7 := pw6.out.1 7 _ rfl
      have cr0 := rw6.out.1 0 _ rfl
      have cfr := rw6.out.2.1
      have co1 := ow6.out.1 1 _ rfl
      have co3 := ow6.out.1 3 _ rfl
      have co7 := ow6.out.1 7 _ rfl
      have HE := Lib.hid (show chgE L d = 42 by rw [HCE.out, if_neg (by rw [HC.out]; decide), if_pos HMV.out])
      have HEX := Lib.hid (show chgX L d = [] by unfold chgX; rw [HE.out]; rfl)
      go_wp2
      refine bodyPost_ret (v := .tuple #[.agg #[.slice none 0 0], .int .i64 42]) (by simp [results, Tryz.results36, go_sem, cr0, cfr]) rfl ?_
      rw [HE.out, HEX.out]
      exact TreF.err (HBw6.out.setCell (by have := HGw1.out; have := HGw2.out; show w.heap.size ≤ w2.heap.size; omega) _) rfl
    ·
     have eqx1 : (d.orig.toList == y.orig.toList) = false := by rw [ba_beq]; exact decide_eq_false (fun h => hq h.symm)
     have eq1 : (d.orig.toList != y.orig.toList) = true := by rw [bne, eqx1]; rfl
     have HMV := Lib.hid (show movedB y d = true by unfold movedB; simp [hq]); clear hq
     have cp1 := pw6.out.1 1 _ rfl
     have cp3 := pw6.out.1 3 _ rfl
     have cp7 := pw6.out.1 7 _ rfl
     have cr0 := rw6.out.1 0 _ rfl
     have cfr := rw6.out.2.1
     have co1 := ow6.out.1 1 _ rfl
     have co3 := ow6.out.1 3 _ rfl
     have co7 := ow6.out.1 7 _ rfl
     have HE := Lib.hid (show chgE L d = 42 by rw [HCE.out, if_neg (by rw [HC.out]; decide), if_pos HMV.out])
     have HEX := Lib.hid (show chgX L d = [] by unfold chgX; rw [HE.out]; rfl)
     go_wp2
     refine bodyPost_ret (v := .tuple #[.agg #[.slice none 0 0], .int .i64 42]) (by simp [results, Tryz.results36, go_sem, cr0, cfr]) rfl ?_
     rw [HE.out, HEX.out]
     exact TreF.err (HBw6.out.setCell (by have := HGw1.out; have := HGw2.out; show w.heap.size ≤ w2.heap.size; omega) _) rfl
   ·
    have eqx0 : (d.par == y.par) = false := by simp; exact fun h => hq h.symm
    have eq0 : (d.par != y.par) = true := by rw [bne, eqx0]; rfl
    have HMV := Lib.hid (show movedB y d = true by unfold movedB; simp [hq]); clear hq
    have cp1 := pw6.out.1 1 _ rfl
    have cp3 := pw6.out.1 3 _ rfl
    have cp7 := pw6.out.1 7 _ rfl
    have cr0 := rw6.out.1 0 _ rfl
    have cfr := rw6.out.2.1
    have co1 := ow6.out.1 1 _ rfl
    have co3 := ow6.out.1 3 _ rfl
    have co7 := ow6.out.1 7 _ rfl
    have HE := Lib.hid (show chgE L d = 42 by rw [HCE.out, if_neg (by rw [HC.out]; decide), if_pos HMV.out])
    have HEX := Lib.hid (show chgX L d = [] by unfold chgX; rw [HE.out]; rfl)
    go_wp2
    refine bodyPost_ret (v := .tuple #[.agg #[.slice none 0 0], .int .i64 42]) (by simp [results, Tryz.results36, go_sem, cr0, cfr]) rfl ?_
    rw [HE.out, HEX.out]
    exact TreF.err (HBw6.out.setCell (by have := HGw1.out; have := HGw2.out; show w.heap.size ≤ w2.heap.size; omega) _) rfl
  ·
   have ec : (checkD d != 0) = true := by simpa using hc
   have HC := Lib.hid hc; clear hc
   have cr0 := rw6.out.1 0 _ rfl
   have cfr := rw6.out.2.1
   have HE := Lib.hid (show chgE L d = 41 by rw [HCE.out, if_pos HC.out])
   have HEX := Lib.hid (show chgX L d = [] by unfold chgX; rw [HE.out]; rfl)
   go_wp2
   refine bodyPost_ret (v := .tuple #[.agg #[.slice none 0 0], .int .i64 41]) (by simp [results, Tryz.results36, go_sem, cr0, cfr]) rfl ?_
   rw [HE.out, HEX.out]
   exact TreF.err (HBw6.out.setCell (by have := HGw1.out; have := HGw2.out; show w.heap.size ≤ w2.heap.size; omega) _) rfl
end Go.Proofs.YtjgllhlilbchpaaGreatDoor
namespace Go.Cold
open Go Go.RowKit
end Go.Cold
namespace Go.Proofs.YtjgllhlilbchpaaGreatDoor
open Go.RowKit Go.Cold
end Go.Proofs.YtjgllhlilbchpaaGreatDoor
