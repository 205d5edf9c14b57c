/-
  Rows that a call has made and writes in place: a list's value exchanged, a part of the row copied, the rest cleared. No program is named here.
-/
import Derived.Test.YtehmidmoiamcfaaGreatDoorED
import Derived.Laws.CopyRow
import Derived.Laws.IdiomCopy
import Derived.Lib.AppendZerosOnto
import Derived.Test.YtehmidmoiamcfaaGreatDoorEE
import Derived.Lib.Overlaps
import Derived.Laws.Externs
set_option linter.unusedSimpArgs false
set_option linter.unusedVariables false
namespace Go.Cold
open Go Go.RowKit
section
variable {α : Type} [RepS α] {F : Nat → Prop} {w w' : World} {base : Nat} {T : TypeId} {v : Value} {xs : List α}
/-- The parts of a gathered list that is not nil. -/
structure RowIn (F : Nat → Prop) (w : World) (base : Nat) (T : TypeId) (g cap : Nat) (xs : List α) (cur : Array Value) (css : List (List Value)) : Prop where
 lo : base ≤ g
 heap : w.heap[g]? = some (.cells cur T (0, 0))
 le : xs.length ≤ cap
 lim : cap ≤ maxLen
 size : cur.size = cap * Rep.size α
 len : css.length = xs.length
 rd : ∀ (i : Nat) (x : α) (cs : List Value), xs[i]? = some x → css[i]? = some cs → RepS.rdS w (fun b => F b ∧ b < w.heap.size ∧ b ≠ g) x cs
 row : cur.toList.take (xs.length * Rep.size α) = css.flatten
theorem OwnsS.opened (h : OwnsS F w base T v xs) : (v = .slice none 0 0 ∧ xs = []) ∨ ∃ g cap cur css, v = .slice (some ⟨g, 0, none⟩) xs.length cap ∧ RowIn F w base T g cap xs cur css := by
 obtain ⟨css, ⟨h1, h2⟩, h3, h4⟩ := h
 rcases h2 with ⟨rfl, h0⟩ | ⟨g, cap, cur, rfl, q1, q2, q3, q4, q5, q6⟩
 · exact .inl ⟨rfl, List.eq_nil_of_length_eq_zero h0⟩
 · exact .inr ⟨g, cap, cur, css, rfl, q1, q2, q3, q4, q5, h3, fun i x cs hx hcs => RepS.mono (fun b hb => ⟨hb.1, hb.2.1, fun e => hb.2.2 (by rw [e]; rfl)⟩) (fun _ _ _ _ hu => hu) (h4 i x cs hx hcs), q6⟩
theorem flat_size {w : World} {S : Nat → Prop} {xs : List α} {css : List (List Value)} (h : css.length = xs.length) (hr : ∀ (i : Nat) (x : α) (cs : List Value), xs[i]? = some x → css[i]? = some cs → RepS.rdS w S x cs) : css.flatten.length = xs.length * Rep.size α := (flat_len h hr).1
theorem RowIn.owns {g cap : Nat} {cur : Array Value} {css : List (List Value)} (h : RowIn F w base T g cap xs cur css) : OwnsS F w base T (.slice (some ⟨g, 0, none⟩) xs.length cap) xs := by
 refine ⟨css, ⟨flat_size h.len h.rd, .inr ⟨g, cap, cur, rfl, h.lo, h.heap, h.le, h.lim, h.size, h.row⟩⟩, h.len, fun i x cs hx hcs => RepS.mono (fun b hb => ⟨hb.1, hb.2.1, fun e => hb.2.2 (by injection e with e; exact e.symm)⟩) (fun _ _ _ _ hu => hu) (h.rd i x cs hx hcs)⟩
theorem row_css {S : Nat → Prop} {css : List (List Value)} (h : css.length = xs.length) (hr : ∀ (i : Nat) (x : α) (cs : List Value), xs[i]? = some x → css[i]? = some cs → RepS.rdS w S x cs) : ∀ cs ∈ css, cs.length = Rep.size α := fun cs hcs => by
 obtain ⟨i, hi, rfl⟩ := List.getElem_of_mem hcs
 exact RepS.lenS (hr i xs[i] css[i] (List.getElem?_eq_getElem (by omega)) (List.getElem?_eq_getElem hi))
theorem flat_take {n : Nat} : ∀ {css : List (List Value)} (k : Nat), (∀ cs ∈ css, cs.length = n) → css.flatten.take (k * n) = (css.take k).flatten ∧ css.flatten.drop (k * n) = (css.drop k).flatten
 | [], k, _ => by simp
 | c :: r, 0, _ => by simp
 | c :: r, k + 1, h => by
  have hc := h c List.mem_cons_self
  obtain ⟨h1, h2⟩ := flat_take (css := r) k (fun cs hcs => h cs (List.mem_cons_of_mem _ hcs))
  rw [List.flatten_cons, Nat.succ_mul, List.take_succ_cons, List.drop_succ_cons, List.flatten_cons, ← h1, ← h2, ← hc]
  constructor
  ·
   rw [Nat.add_comm, List.take_append, List.take_of_length_le (by omega)]
   congr 2; omega
  ·
   rw [Nat.add_comm, List.drop_append, List.drop_eq_nil_of_le (by omega), List.nil_append]
   congr 1; omega
/-- The block of the row with other cells. -/
theorem grown_setRow (w : World) (g : Nat) (cs : Array Value) : w.grownBy (w.setRow g cs) (some g) :=
 ⟨rfl, rfl, rfl, by simp [World.setRow], fun k hk hne => setRow_other w g k cs (fun e => hne (by rw [e]))⟩
/-- The row read as another list, behind a write of the row's block. -/
theorem RowIn.write {g cap : Nat} {cur : Array Value} {css : List (List Value)} (h : RowIn F w base T g cap xs cur css) {ys : List α} {dss : List (List Value)} {cur' : Array Value} (h1 : ys.length ≤ cap) (h2 : cur'.size = cur.size) (h3 : dss.length = ys.length)
  (h4 : ∀ (i : Nat) (y : α) (cs : List Value), ys[i]? = some y → dss[i]? = some cs → RepS.rdS w (fun b => F b ∧ b < w.heap.size ∧ b ≠ g) y cs) (h5 : cur'.toList.take (ys.length * Rep.size α) = dss.flatten) : RowIn F (w.setRow g cur') base T g cap ys cur' dss := by
 have hg := grown_setRow w g cur'
 exact ⟨h.lo, setRow_heap w g cur cur' T (0, 0) h.heap, h1, h.lim, h2.trans h.size, h3, fun i y cs hy hcs => RepS.mono (fun b hb => ⟨hb.1, by have := hg.size; omega, hb.2.2⟩) (fun b o u hb hu => hg.cell hu (fun e => hb.2.2 (Option.some.inj e))) (h4 i y cs hy hcs), h5⟩
theorem RowIn.lt {g cap : Nat} {cur : Array Value} {css : List (List Value)} (h : RowIn F w base T g cap xs cur css) : g < w.heap.size := (Array.getElem?_eq_some_iff.1 h.heap).1
theorem RowIn.css {g cap : Nat} {cur : Array Value} {css : List (List Value)} (h : RowIn F w base T g cap xs cur css) : ∀ cs ∈ css, cs.length = Rep.size α := row_css h.len h.rd
theorem RowIn.one {g cap : Nat} {cur : Array Value} {css : List (List Value)} (h : RowIn F w base T g cap xs cur css) : ∀ u ∈ css.flatten, u.oneCell' = true := (flat_len h.len h.rd).2
/-- The row's first part. -/
theorem RowIn.cut {g cap : Nat} {cur : Array Value} {css : List (List Value)} (h : RowIn F w base T g cap xs cur css) (k : Nat) (hk : k ≤ xs.length) : RowIn F w base T g cap (xs.take k) cur (css.take k) := by
 have hl : (xs.take k).length = k := by rw [List.length_take]; omega
 refine ⟨h.lo, h.heap, by have := h.le; omega, h.lim, h.size, by rw [List.length_take, List.length_take, h.len], fun i x cs hx hcs => ?_, ?_⟩
 ·
  rw [List.getElem?_take] at hx hcs
  split at hx
  · rename_i h6; rw [if_pos h6] at hcs; exact h.rd i x cs hx hcs
  · cases hx
 · rw [hl, ← (flat_take k h.css).1, ← h.row, List.take_take, Nat.min_eq_left (Nat.mul_le_mul_right _ hk)]
end
section
variable {P : Program}
/-- What 'copy' does to a row: values of any size. -/
theorem run_copy_n (w : World) (dT sT ty elem : TypeId) (g o dLen dCap : Nat) (a : Addr) (sLen sCap size k : Nat) (cur : Array Value) (t : TypeId) (cs : List Value)
  (hu : P.underlying dT = some (.slice elem)) (hs : ∃ i, P.info? elem = some i ∧ i.size = size)
  (hg : w.heap[g]? = some (.cells cur t (0, 0))) (hk : Nat.min sLen dLen = k) (hn : cs.length = k * size)
  (hsrc : ∀ j v, cs[j]? = some v → w.cell? (a.add j) = some v) (hfit : o + cs.length ≤ cur.size) (h1 : ∀ v ∈ cs, v.oneCell' = true) :
  (Builtin.copy_ #[dT, sT] ty #[.slice (some ⟨g, o, none⟩) dLen dCap, .slice (some a) sLen sCap]).run P w =
   .ok (goInt k) (w.setRow g (cur.toList.take o ++ cs ++ cur.toList.drop (o + cs.length)).toArray) := by
 have hl := run_loadCells_list (P := P) w a cs hsrc
 have hst := run_storeCells_at P g o t cs 0 cur w hg (by simpa using hfit) h1
 obtain ⟨i, hi, hsz⟩ := hs
 subst hk
 simp [Builtin.copy_, run_underlying hu, Builtin.lenOf, Builtin.firstCells, sizeOf, typeInfo, hi, hsz, ← hn, hl, hst]
variable {ops : Array Oper} {rest : List Oper} {o : Oper} {a : Act} {Q : Exit → Act → World → Prop} {w : World}
theorem wpList_copyR {R : Value → World → Prop} {tys : Array TypeId} (hgd : o.guard = none) (s x : Operand) (ho : o.op = .call { callee := .builtin .copy, args := #[s, x], argTypes := tys }) (v u : Value) (hs : a.eval s = v) (hx : a.eval x = u)
  (hrun : ∃ v' w', (Builtin.copy_ tys o.type #[v, u]).run P w = .ok v' w' ∧ R v' w') (hK : ∀ v' w', R v' w' → wpList P ops Q rest (a.put o.dst v') w') : wpList P ops Q (o :: rest) a w := by
 refine wpList_plain hgd fun K hK' => ?_
 obtain ⟨v', w', hr, hR⟩ := hrun
 unfold Oper.wp execOp
 simp only [ho, resolve, invoke, builtin, Sem.run_bind, Sem.run_pure, Result.andThen_ok, List.map_toArray, List.map_cons, List.map_nil, hs, hx, hr]
 exact hK' _ _ (hK _ _ hR)
theorem step_copyR {K : Act → World → Prop} {Z : Prop} {R : Value → World → Prop} {tys : Array TypeId} (hgd : o.guard = none) (s x : Operand) (ho : o.op = .call { callee := .builtin .copy, args := #[s, x], argTypes := tys }) (v u : Value) (hs : a.eval s = v) (hx : a.eval x = u)
  (hrun : ∃ v' w', (Builtin.copy_ tys o.type #[v, u]).run P w = .ok v' w' ∧ R v' w') (hK : ∀ v' w', R v' w' → K (a.put o.dst v') w') : if Region.wanted o (yielded ops a.tmps) = true then Oper.wp P o a w K Q else Z := by
 have hw : Region.wanted o (yielded ops a.tmps) = true := by simp [Region.wanted, hgd]
 rw [if_pos hw]
 obtain ⟨v', w', hr, hR⟩ := hrun
 unfold Oper.wp execOp
 simp only [ho, resolve, invoke, builtin, Sem.run_bind, Sem.run_pure, Result.andThen_ok, List.map_toArray, List.map_cons, List.map_nil, hs, hx, hr]
 exact hK _ _ hR
theorem wpList_appR {R : Value → World → Prop} {tys : Array TypeId} (hgd : o.guard = none) (s x : Operand) (ho : o.op = .call { callee := .builtin .append, args := #[s, x], argTypes := tys }) (v u : Value) (hs : a.eval s = v) (hx : a.eval x = u)
  (hrun : ∃ v' w', (Builtin.append_ tys o.type #[v, u]).run P w = .ok v' w' ∧ R v' w') (hK : ∀ v' w', R v' w' → wpList P ops Q rest (a.put o.dst v') w') : wpList P ops Q (o :: rest) a w := by
 refine wpList_plain hgd fun K hK' => ?_
 obtain ⟨v', w', hr, hR⟩ := hrun
 unfold Oper.wp execOp
 simp only [ho, resolve, invoke, builtin, Sem.run_bind, Sem.run_pure, Result.andThen_ok, List.map_toArray, List.map_cons, List.map_nil, hs, hx, hr]
 exact hK' _ _ (hK _ _ hR)
end
/-- A list of cells set at one place of a row and another at the next, in either order. -/
theorem two_parts {β : Type} {L X1 X2 cs : List β} {a n b : Nat} (h1 : L.take a = X1) (ha : X1.length = a) (hn : cs.length = n) (hb : X2.length = b) (hL : a + n + b ≤ L.length) :
  (((L.take (a + n) ++ X2 ++ L.drop (a + n + b)).take a ++ cs ++ (L.take (a + n) ++ X2 ++ L.drop (a + n + b)).drop (a + n)).take (a + n + b) = X1 ++ (cs ++ X2)) ∧
  (((L.take a ++ cs ++ L.drop (a + n)).take (a + n) ++ X2 ++ (L.take a ++ cs ++ L.drop (a + n)).drop (a + n + b)).take (a + n + b) = X1 ++ (cs ++ X2)) := by
 have l1 : (L.take (a + n)).length = a + n := by rw [List.length_take]; omega
 have l2 : (X1 ++ cs).length = a + n := by rw [List.length_append]; omega
 have l3 : (X1 ++ (cs ++ X2)).length = a + n + b := by rw [List.length_append, List.length_append]; omega
 constructor
 ·
  have e1 : (L.take (a + n) ++ X2 ++ L.drop (a + n + b)).take a = X1 := by
   rw [List.append_assoc, List.take_append_of_le_length (by omega), List.take_take, Nat.min_eq_left (by omega), h1]
  have e2 : (L.take (a + n) ++ X2 ++ L.drop (a + n + b)).drop (a + n) = X2 ++ L.drop (a + n + b) := by
   rw [List.append_assoc, List.drop_left' l1]
  rw [e1, e2, List.append_assoc, ← List.append_assoc cs, ← List.append_assoc X1, List.take_left' l3]
 · rw [h1, List.take_left' l2, ← List.append_assoc X1, List.take_left' (by rw [List.length_append]; omega)]
end Go.Cold
namespace Go.Cold
open Go Go.RowKit
section
variable {α : Type} [RepS α] {F : Nat → Prop} {w w' : World} {base : Nat} {T : TypeId} {v : Value} {xs : List α}
/-- Each value of a list with its cells. -/
def RdL (w : World) (S : Nat → Prop) (xs : List α) (css : List (List Value)) : Prop := ∀ (i : Nat) (x : α) (cs : List Value), xs[i]? = some x → css[i]? = some cs → RepS.rdS w S x cs
theorem RdL.app {S : Nat → Prop} {ys : List α} {css dss : List (List Value)} (h : RdL w S xs css) (h2 : RdL w S ys dss) (hl : css.length = xs.length) : RdL w S (xs ++ ys) (css ++ dss) := fun i x cs hx hcs => by
 by_cases hi : i < xs.length
 ·
  rw [List.getElem?_append_left hi] at hx
  rw [List.getElem?_append_left (by omega)] at hcs
  exact h i x cs hx hcs
 ·
  rw [List.getElem?_append_right (by omega)] at hx
  rw [List.getElem?_append_right (by omega), hl] at hcs
  exact h2 _ x cs hx hcs
theorem RdL.cons {S : Nat → Prop} {y : α} {cs : List Value} {css : List (List Value)} (hy : RepS.rdS w S y cs) (h : RdL w S xs css) : RdL w S (y :: xs) (cs :: css) := fun i x ds hx hds => by
 cases i with
 | zero => simp at hx hds; subst hx; subst hds; exact hy
 | succ i => exact h i x ds (by simpa using hx) (by simpa using hds)
theorem RdL.drop {S : Nat → Prop} {css : List (List Value)} (h : RdL w S xs css) (k : Nat) : RdL w S (xs.drop k) (css.drop k) := fun i x cs hx hcs => by
 rw [List.getElem?_drop] at hx hcs; exact h _ x cs hx hcs
theorem RdL.take {S : Nat → Prop} {css : List (List Value)} (h : RdL w S xs css) (k : Nat) : RdL w S (xs.take k) (css.take k) := fun i x cs hx hcs => by
 rw [List.getElem?_take] at hx hcs
 split at hx
 · rename_i hk; rw [if_pos hk] at hcs; exact h i x cs hx hcs
 · cases hx
theorem RdL.mono {S S' : Nat → Prop} {css : List (List Value)} (hS : ∀ b, S b → S' b) (hc : ∀ b o u, S b → w.cell? ⟨b, o, none⟩ = some u → w'.cell? ⟨b, o, none⟩ = some u) (h : RdL w S xs css) : RdL w' S' xs css := fun i x cs hx hcs => RepS.mono hS hc (h i x cs hx hcs)
/-- The row holds what stood ahead, one value more, and what is to stand behind it. -/
theorem RowIn.two {g cap : Nat} {cur : Array Value} {dss ess : List (List Value)} (h : RowIn F w base T g cap xs cur dss) {ys : List α} {y : α} {cs : List Value} (hy : RepS.rdS w (fun b => F b ∧ b < w.heap.size ∧ b ≠ g) y cs)
  (he : ess.length = ys.length) (hys : RdL w (fun b => F b ∧ b < w.heap.size ∧ b ≠ g) ys ess) (hroom : xs.length + 1 + ys.length ≤ cap) {cur2 : Array Value} (hsz : cur2.size = cur.size)
  (hrow : cur2.toList.take (xs.length * Rep.size α + Rep.size α + ys.length * Rep.size α) = dss.flatten ++ (cs ++ ess.flatten)) : RowIn F (w.setRow g cur2) base T g cap (xs ++ y :: ys) cur2 (dss ++ cs :: ess) := by
 have hl := h.len
 refine h.write (by rw [List.length_append, List.length_cons]; omega) hsz (by simp; omega) (RdL.app h.rd (RdL.cons hy hys) hl) ?_
 have e : (xs ++ y :: ys).length * Rep.size α = xs.length * Rep.size α + Rep.size α + ys.length * Rep.size α := by
  rw [List.length_append, List.length_cons, Nat.add_mul, Nat.succ_mul]; omega
 rw [e, hrow, List.flatten_append, List.flatten_cons]
/-- The cells from place i on. -/
theorem RowIn.from_ {g cap : Nat} {cur : Array Value} {css : List (List Value)} (h : RowIn F w base T g cap xs cur css) (i : Nat) : ∀ j u, (css.drop i).flatten[j]? = some u → w.cell? ⟨g, i * Rep.size α + j, none⟩ = some u := fun j u hu => by
 rw [cell_of_row w g _ cur T (0, 0) h.heap]
 rw [← (flat_take i h.css).2, List.getElem?_drop, ← h.row, List.getElem?_take] at hu
 split at hu
 · simpa using hu
 · cases hu
end
theorem grown_seq {a b c : World} {row : Option Nat} (h : a.grownBy b row) (k : b.grownBy c row) : a.grownBy c row := by
 obtain ⟨h1, h2, h3, h4, h5⟩ := h
 obtain ⟨k1, k2, k3, k4, k5⟩ := k
 exact ⟨k1.trans h1, k2.trans h2, k3.trans h3, Nat.le_trans h4 k4, fun i hi hne => (k5 i (by omega) hne).trans (h5 i hi hne)⟩
theorem grown_wide {a b : World} {row : Option Nat} (h : a.grownBy b none) : a.grownBy b row := by
 obtain ⟨h1, h2, h3, h4, h5⟩ := h
 exact ⟨h1, h2, h3, h4, fun i hi _ => h5 i hi (by simp)⟩
theorem below_drew (w : World) : Below w.heap.size w w.drew := below_drewN_self w w.heap.size 1
theorem RowIn.drew {α : Type} [RepS α] {F : Nat → Prop} {w : World} {base : Nat} {T : TypeId} {xs : List α} {g cap : Nat} {cur : Array Value} {css : List (List Value)} (h : RowIn F w base T g cap xs cur css) : RowIn F w.drew base T g cap xs cur css :=
 ⟨h.lo, h.heap, h.le, h.lim, h.size, h.len, RdL.mono (w := w) (fun _ h => h) (fun _ _ _ _ h => h) h.rd, h.row⟩
theorem heap_new (w : World) (o : Obj) : (w.alloc o).heap[w.heap.size]? = some o := by
 unfold World.alloc; simp
theorem splice_size {cur : Array Value} {cs : List Value} {o : Nat} (h : o + cs.length ≤ cur.size) : (cur.toList.take o ++ cs ++ cur.toList.drop (o + cs.length)).toArray.size = cur.size := by
 have htl : cur.toList.length = cur.size := Array.length_toList
 simp only [List.size_toArray, List.length_append, List.length_take, List.length_drop, htl]
 omega
section
variable {P : Program} {α : Type} [RepS α] {F : Nat → Prop} {w : World} {base bytes : Nat} {T TS : TypeId} {xs : List α}
theorem flat_size_drop {g cap : Nat} {cur : Array Value} {css : List (List Value)} (h : RowIn F w base T g cap xs cur css) (i : Nat) (hi : i ≤ xs.length) : (css.drop i).flatten.length = (xs.length - i) * Rep.size α := by
 have h1 := flat_size h.len h.rd
 rw [← (flat_take i h.css).2, List.length_drop, h1, Nat.sub_mul]
/-- The two copies of slices.Insert where there is room: from place i on one place up, then the new value at place i. -/
theorem insert_room (E : ElemT P (Rep.size α) T TS bytes) {g cap : Nat} {cur : Array Value} {css : List (List Value)} (h : RowIn F w base T g cap xs cur css) {i : Nat} (hi : i ≤ xs.length) (hroom : xs.length + 1 ≤ cap) {y : α} {cs : List Value} (gv : Nat) (hgv : gv ≠ g)
  (hc : ∀ (j : Nat) u, cs[j]? = some u → w.cell? ⟨gv, j, none⟩ = some u) (hr : RepS.rdS w (fun b => F b ∧ b < w.heap.size ∧ b ≠ g) y cs) :
  ∃ cur1 cur2, (∀ ty dc sc dT sT, P.underlying dT = some (.slice T) → (Builtin.copy_ #[dT, sT] ty #[.slice (some ⟨g, (i + 1) * Rep.size α, none⟩) (xs.length + 1 - (i + 1)) dc, .slice (some ⟨g, i * Rep.size α, none⟩) (xs.length + 1 - i) sc]).run P w = .ok (goInt ((xs.length - i : Nat) : Int)) (w.setRow g cur1)) ∧
   (∀ ty dc sc dT sT, P.underlying dT = some (.slice T) → (Builtin.copy_ #[dT, sT] ty #[.slice (some ⟨g, i * Rep.size α, none⟩) (xs.length + 1 - i) dc, .slice (some ⟨gv, 0, none⟩) 1 sc]).run P (w.setRow g cur1) = .ok (goInt 1) (w.setRow g cur2)) ∧
   RowIn F (w.setRow g cur2) base T g cap (xs.take i ++ y :: xs.drop i) cur2 (css.take i ++ cs :: css.drop i) := by
 obtain ⟨ti, z, hti, hz, hs1, hs2, hs3⟩ := E.info
 have hn := h.css
 have hcl : cs.length = Rep.size α := RepS.lenS hr
 have hdl := flat_size_drop h i hi
 have hsz := h.size
 have hcap : (xs.length + 1) * Rep.size α ≤ cap * Rep.size α := Nat.mul_le_mul_right _ hroom
 have hlen : i * Rep.size α + Rep.size α + (xs.length - i) * Rep.size α = (xs.length + 1) * Rep.size α := by
  have : xs.length + 1 = i + 1 + (xs.length - i) := by omega
  rw [this, Nat.add_mul, Nat.add_mul, Nat.one_mul]
 have hsi : (i + 1) * Rep.size α = i * Rep.size α + Rep.size α := Nat.succ_mul _ _
 have htl : cur.toList.length = cur.size := Array.length_toList
 obtain ⟨cur1, hcur1⟩ : ∃ c, c = (cur.toList.take ((i + 1) * Rep.size α) ++ (css.drop i).flatten ++ cur.toList.drop ((i + 1) * Rep.size α + (css.drop i).flatten.length)).toArray := ⟨_, rfl⟩
 obtain ⟨cur2, hcur2⟩ : ∃ c, c = (cur1.toList.take (i * Rep.size α) ++ cs ++ cur1.toList.drop (i * Rep.size α + cs.length)).toArray := ⟨_, rfl⟩
 have l1 : cur1.size = cur.size := by rw [hcur1]; exact splice_size (by omega)
 have l2 : cur2.size = cur.size := by rw [hcur2, splice_size (by omega), l1]
 have hg1 := setRow_heap w g cur cur1 T (0, 0) h.heap
 have hgr := grown_setRow w g cur1
 refine ⟨cur1, cur2, fun ty dc sc dT sT hT => ?_, fun ty dc sc dT sT hT => ?_, ?_⟩
 ·
  rw [hcur1]
  exact run_copy_n w dT sT ty T g ((i + 1) * Rep.size α) (xs.length + 1 - (i + 1)) dc ⟨g, i * Rep.size α, none⟩ (xs.length + 1 - i) sc (Rep.size α) (xs.length - i) cur T _ hT ⟨ti, hti, hs1⟩ h.heap (by simp only [Nat.min_def]; split <;> omega) hdl (fun j u hu => by rw [add_mk]; exact h.from_ i j u hu) (by omega) (fun u hu => h.one u (by rw [← List.take_append_drop i css, List.flatten_append]; exact List.mem_append_right _ hu))
 ·
  have e := run_copy_n (w.setRow g cur1) dT sT ty T g (i * Rep.size α) (xs.length + 1 - i) dc ⟨gv, 0, none⟩ 1 sc (Rep.size α) 1 cur1 T cs hT ⟨ti, hti, hs1⟩ hg1 (by simp only [Nat.min_def]; split <;> omega) (by omega) (fun j u hu => by rw [add_mk, Nat.zero_add]; exact hgr.cell (hc j u hu) (fun e => hgv (Option.some.inj e))) (by omega) (RepS.one hr)
  rw [setRow_setRow, ← hcur2] at e
  exact e
 ·
  have hcut := h.cut i hi
  have hti2 : (xs.take i).length = i := by rw [List.length_take]; omega
  have hdi : (xs.drop i).length = xs.length - i := List.length_drop
  refine hcut.two hr (by rw [List.length_drop, List.length_drop, h.len]) (RdL.drop h.rd i) (by rw [hti2, hdi]; omega) l2 ?_
  rw [hti2, hdi]
  have hX1 : cur.toList.take (i * Rep.size α) = (css.take i).flatten := by rw [← (flat_take i hn).1, ← h.row, List.take_take, Nat.min_eq_left (Nat.mul_le_mul_right _ hi)]
  have hX1l : (css.take i).flatten.length = i * Rep.size α := by rw [← hX1, List.length_take]; have := Nat.mul_le_mul_right (Rep.size α) hi; omega
  have := (two_parts (cs := cs) hX1 hX1l hcl hdl (by omega)).1
  rw [← this, hcur2, hcur1]
  simp only [List.toList_toArray, hcl, hdl, hsi]
/-- The two copies of slices.Insert in a new row: the new value behind what stood ahead, then what is to stand behind it. -/
theorem insert_new (E : ElemT P (Rep.size α) T TS bytes) {g cap : Nat} {cur : Array Value} {css ess : List (List Value)} (h : RowIn F w base T g cap xs cur css) {ys : List α} (hroom : xs.length + 1 + ys.length ≤ cap) {y : α} {cs : List Value} (gv gs so : Nat) (hgv : gv ≠ g) (hgs : gs ≠ g)
  (hc : ∀ (j : Nat) u, cs[j]? = some u → w.cell? ⟨gv, j, none⟩ = some u) (hr : RepS.rdS w (fun b => F b ∧ b < w.heap.size ∧ b ≠ g) y cs)
  (he : ess.length = ys.length) (hys : RdL w (fun b => F b ∧ b < w.heap.size ∧ b ≠ g) ys ess) (hec : ∀ (j : Nat) u, ess.flatten[j]? = some u → w.cell? ⟨gs, so + j, none⟩ = some u) :
  ∃ cur1 cur2, (∀ ty dl dc sc dT sT, P.underlying dT = some (.slice T) → 1 ≤ dl → (Builtin.copy_ #[dT, sT] ty #[.slice (some ⟨g, xs.length * Rep.size α, none⟩) dl dc, .slice (some ⟨gv, 0, none⟩) 1 sc]).run P w = .ok (goInt 1) (w.setRow g cur1)) ∧
   (∀ ty dl dc sc dT sT, P.underlying dT = some (.slice T) → ys.length ≤ dl → (Builtin.copy_ #[dT, sT] ty #[.slice (some ⟨g, (xs.length + 1) * Rep.size α, none⟩) dl dc, .slice (some ⟨gs, so, none⟩) ys.length sc]).run P (w.setRow g cur1).drew = .ok (goInt ys.length) (w.setRow g cur2).drew) ∧
   RowIn F (w.setRow g cur2) base T g cap (xs ++ y :: ys) cur2 (css ++ cs :: ess) := by
 obtain ⟨ti, z, hti, hz, hs1, hs2, hs3⟩ := E.info
 have hcl : cs.length = Rep.size α := RepS.lenS hr
 obtain ⟨hel, heo⟩ := flat_len he hys
 have hsz := h.size
 have hcap : (xs.length + 1 + ys.length) * Rep.size α ≤ cap * Rep.size α := Nat.mul_le_mul_right _ hroom
 rw [Nat.add_mul, Nat.succ_mul] at hcap
 have htl : cur.toList.length = cur.size := Array.length_toList
 have hsi : (xs.length + 1) * Rep.size α = xs.length * Rep.size α + Rep.size α := Nat.succ_mul _ _
 obtain ⟨cur1, hcur1⟩ : ∃ c, c = (cur.toList.take (xs.length * Rep.size α) ++ cs ++ cur.toList.drop (xs.length * Rep.size α + cs.length)).toArray := ⟨_, rfl⟩
 obtain ⟨cur2, hcur2⟩ : ∃ c, c = (cur1.toList.take ((xs.length + 1) * Rep.size α) ++ ess.flatten ++ cur1.toList.drop ((xs.length + 1) * Rep.size α + ess.flatten.length)).toArray := ⟨_, rfl⟩
 have l1 : cur1.size = cur.size := by rw [hcur1]; exact splice_size (by omega)
 have l2 : cur2.size = cur.size := by rw [hcur2, splice_size (by omega), l1]
 have hg1 := setRow_heap w g cur cur1 T (0, 0) h.heap
 have hgr := grown_setRow w g cur1
 refine ⟨cur1, cur2, fun ty dl dc sc dT sT hT hdl => ?_, fun ty dl dc sc dT sT hT hdl => ?_, ?_⟩
 ·
  rw [hcur1]
  exact run_copy_n w dT sT ty T g (xs.length * Rep.size α) dl dc ⟨gv, 0, none⟩ 1 sc (Rep.size α) 1 cur T cs hT ⟨ti, hti, hs1⟩ h.heap (by simp only [Nat.min_def]; split <;> omega) (by omega) (fun j u hu => by rw [add_mk, Nat.zero_add]; exact hc j u hu) (by omega) (RepS.one hr)
 ·
  have e := run_copy_n (w.setRow g cur1).drew dT sT ty T g ((xs.length + 1) * Rep.size α) dl dc ⟨gs, so, none⟩ ys.length sc (Rep.size α) ys.length cur1 T ess.flatten hT ⟨ti, hti, hs1⟩ hg1 (by simp only [Nat.min_def]; split <;> omega) hel (fun j u hu => by rw [add_mk]; exact hgr.cell (hec j u hu) (fun e => hgs (Option.some.inj e))) (by omega) heo
  have e2 : (w.setRow g cur1).drew.setRow g (cur1.toList.take ((xs.length + 1) * Rep.size α) ++ ess.flatten ++ cur1.toList.drop ((xs.length + 1) * Rep.size α + ess.flatten.length)).toArray = (w.setRow g cur2).drew := by rw [hcur2]; exact congrArg World.drew (setRow_setRow w g cur1 _)
  rw [e2] at e
  exact e
 ·
  refine h.two hr he hys hroom l2 ?_
  have hX1l : css.flatten.length = xs.length * Rep.size α := flat_size h.len h.rd
  have := (two_parts (cs := cs) h.row hX1l hcl hel (by omega)).2
  rw [← this, hcur2, hcur1]
  simp only [List.toList_toArray, hcl, hel, hsi]
/-- 'append(s[:i], make(..)...)' where there is no room: a new row that holds what stood ahead of i. -/
theorem insert_grow (E : ElemT P (Rep.size α) T TS bytes) {g cap : Nat} {cur : Array Value} {css : List (List Value)} (h : RowIn F w base T g cap xs cur css) {i : Nat} (hi : i < xs.length) (hroom : cap < xs.length + 1) (hb : base ≤ w.heap.size) (hbig : (xs.length + 1) * bytes ≤ 140737488355328) (hlen : xs.length ≤ 1000000)
  (tn ty : TypeId) (kn : IntKind) (htn : P.underlying tn = some (.int kn)) (kq : IntKind) :
  ∃ G cur1 W1, (Builtin.append_ #[TS, tn] ty #[.slice (some ⟨g, 0, none⟩) i cap, .int kq ((xs.length + 1 - i : Nat) : Int)]).run P w = .ok (.slice (some ⟨w.heap.size, 0, none⟩) (xs.length + 1) G) W1 ∧ xs.length + 1 ≤ G ∧ Below w.heap.size w W1 ∧ W1.heap.size = w.heap.size + 1 ∧
   RowIn F W1 base T w.heap.size G (xs.take i) cur1 (css.take i) := by
 obtain ⟨ti, z, hti, hz, hs1, hs2, hs3⟩ := E.info
 have hcap := h.le
 have hold : (Builtin.firstCells ti.size i (.slice (some ⟨g, 0, none⟩) i cap)).run P w.drew = .ok (css.take i).flatten.toArray w.drew := by
  rw [hs1]
  have hfl : (css.take i).flatten.length = i * Rep.size α := by rw [← (flat_take i h.css).1, List.length_take, flat_size h.len h.rd, Nat.min_eq_left (Nat.mul_le_mul_right _ (by omega))]
  exact run_firstCells_some w.drew (Rep.size α) i ⟨g, 0, none⟩ i cap _ hfl (fun j u hu => by
   rw [add_mk, Nat.zero_add]
   rw [← (flat_take i h.css).1, List.getElem?_take] at hu
   split at hu
   ·
    have := h.from_ 0 j u (by simpa using hu)
    rw [Nat.zero_mul, Nat.zero_add] at this; exact this
   · cases hu)
 have hik : i + (xs.length + 1 - i) = xs.length + 1 := by omega
 have hrun := Lib.run_append_grow_zeros w TS tn ty T ti z kq kn E.sl htn hti hz (some ⟨g, 0, none⟩) i cap _ hold (xs.length + 1 - i) (by omega) (by rw [hs1]; exact RepS.pos) (by omega) (by omega) (by
  rw [hs2]
  have : (xs.length + 1 - i) * bytes ≤ (xs.length + 1) * bytes := Nat.mul_le_mul_right _ (by omega)
  omega) (by rw [hs2, hik]; exact growslice_fits hroom hbig)
 rw [hik] at hrun
 obtain ⟨G, hG⟩ : ∃ G, G = grownCap w (xs.length + 1) cap T := ⟨_, rfl⟩
 have hGn : xs.length + 1 ≤ G := by rw [hG]; exact grownCap_ge w _ _ _
 have hGm : G ≤ maxLen := by rw [hG]; exact grownCap_le_maxLen w _ _ _ (by unfold maxLen; omega)
 rw [← hG] at hrun
 refine ⟨G, (css.take i).flatten.toArray ++ Builtin.zeroCells z.cells (xs.length + 1 - i) ++ Builtin.zeroCells z.cells (G - (xs.length + 1)), _, hrun, hGn, ?_, by simp, ?_⟩
 · exact (show Below w.heap.size w w.drew from below_drewN_self w w.heap.size 1).alloc (Nat.le_refl _) _
 ·
  have hfl : (css.take i).flatten.length = i * Rep.size α := by rw [← (flat_take i h.css).1, List.length_take, flat_size h.len h.rd, Nat.min_eq_left (Nat.mul_le_mul_right _ (by omega))]
  have hti2 : (xs.take i).length = i := by rw [List.length_take]; omega
  refine ⟨hb, heap_new w.drew _, by omega, hGm, ?_, by rw [List.length_take, List.length_take, h.len], RdL.mono (fun b hb => ⟨hb.1, by simp; omega, by omega⟩) (fun b o u hb hu => ?_) (RdL.take h.rd i), ?_⟩
  ·
   simp [Builtin.zeroCells, hs3, hfl]
   rw [← Nat.add_mul, ← Nat.add_mul]; congr 1; omega
  ·
   have hlt := hb.2.1
   rw [World.cell?_alloc_past (w := w.drew) _ b o hlt]; exact hu
  ·
   rw [hti2]
   simp [List.take_append_of_le_length, hfl]
end
end Go.Cold
namespace Go.Proofs.YtehmidmoiamcfaaGreatDoor
open Go.RowKit Go.Cold Go.Shelf
/-- The model's entry for slices.overlaps at two rows of devices in two blocks. -/
theorem overlaps_apart (w : World) (b1 o1 b2 o2 la ca lb cb : Nat) (hne : b1 ≠ b2) (c1 c2 : Array Value) (h1 : w.heap[b1]? = some (.cells c1 43 (0, 0))) (h2 : w.heap[b2]? = some (.cells c2 43 (0, 0))) (hk : c2.size ≠ 0) :
  (callFunc (104) #[.slice (some ⟨b1, o1, none⟩) la ca, .slice (some ⟨b2, o2, none⟩) lb cb]).run Tryz.prog w = .ok (.value (.bool false)) w := by
 have hz : ∀ w, (Go.sizeOf 43).run Tryz.prog w = .ok 10 w := fun w => by
  obtain ⟨ti, z, hti, hz, hs1, hs2, hs3⟩ := E_dev.info
  have hs1 : ti.size = 10 := hs1
  simp [sizeOf, typeInfo, hti, hs1]
 rw [run_callFunc_extern Tryz.func104 (by kernel_rfl) (by kernel_rfl) (by kernel_rfl) (e := Extern.SlicesOverlaps.overlaps #[55, 55] #[4]) (by kernel_rfl),
  Lib.run_overlaps_apart w 55 4 43 E_dev.sl 10 hz ⟨b1, o1, none⟩ ⟨b2, o2, none⟩ la ca lb cb hne 43 43 c1.size c2.size (by simp [World.shape?, h1]) (by simp [World.shape?, h2]) hk (by simp [World.frozen?, h1]) (by simp [World.frozen?, h1])]
 rfl
set_option maxHeartbeats 4000000 in
set_option maxRecDepth 100000 in
theorem SlInsert_any (F : Nat → Prop) (base : Nat) (v : Value) (xs : List Dev) (i : Nat) (y : Dev) (cs : List Value) (gv : Nat) (w : World) (ho : OwnsS F w base 43 v xs) (hi : i ≤ xs.length) (hl : xs.length ≤ 1000)
  (hgv : v.ownBlock ≠ some gv) (hc : w.heap[gv]? = some (.cells cs.toArray 43 (0, 0))) (hr : RepS.rdS w (fun b => F b ∧ b < w.heap.size ∧ v.ownBlock ≠ some b) y cs) (hb : base ≤ w.heap.size) :
  Calls Tryz.prog 64 #[v, .int .i64 i, .slice (some ⟨gv, 0, none⟩) 1 1] w fun e w' => ∃ v', e = .returned v' ∧ OwnsS F w' base 43 v' (xs.take i ++ y :: xs.drop i) ∧ w.grownBy w' v.ownBlock := by
 have hcc : ∀ (j : Nat) u, cs[j]? = some u → w.cell? ⟨gv, j, none⟩ = some u := fun j u hu => by
  rw [cell_of_row w gv j cs.toArray _ (0, 0) hc]; simpa using hu
 have HR := Lib.hid hr; have HC := Lib.hid hcc; have HCH := Lib.hid hc; have HGV := Lib.hid hgv; have HO := Lib.hid ho; have HB := Lib.hid hb
 clear hr hcc hc hb
 go_enter Tryz.func64, Tryz.ntmps64
 by_cases hin : i = xs.length
 ·
  subst hin
  obtain ⟨A, c, rfl, hsl⟩ := ho.cs
  have hsl1 := hsl.1; have hsl2 := hsl.2.1
  unfold maxLen at hsl2
  clear ho hgv hsl
  by_cases hcn : c = xs.length
  ·
   subst hcn
   go_wp2_with (at_builtin; go_must (refine wpList_app rfl _ _ rfl _ _ rfl rfl (run_app1 E_dev _ _ xs HO.out gv y cs HC.out HR.out (by unfold maxLen; omega) (by omega) HB.out) ?_); rintro v2 w9 ⟨hown_, hgrow_, -⟩; have HOWN9 := Lib.hid hown_; have HGROW9 := Lib.hid hgrow_; clear hown_ hgrow_)
   go_ret
   exact ⟨v2, rfl, by rw [List.take_length, List.drop_length]; exact HOWN9.out, HGROW9.out⟩
  ·
   go_wp2_with (at_builtin; go_must (refine wpList_app rfl _ _ rfl _ _ rfl rfl (run_app1 E_dev _ _ xs HO.out gv y cs HC.out HR.out (by unfold maxLen; omega) (by omega) HB.out) ?_); rintro v2 w9 ⟨hown_, hgrow_, -⟩; have HOWN9 := Lib.hid hown_; have HGROW9 := Lib.hid hgrow_; clear hown_ hgrow_)
   go_ret
   exact ⟨v2, rfl, by rw [List.take_length, List.drop_length]; exact HOWN9.out, HGROW9.out⟩
 ·
  rcases ho.opened with ⟨-, rfl⟩ | ⟨g, cap, cur, css, rfl, hrow⟩
  ·
   have h0 : ([] : List Dev).length = 0 := rfl
   omega
  ·
   have hne : gv ≠ g := fun e => hgv (by rw [e]; rfl)
   have HROW := Lib.hid hrow
   have hr2 := HR.out
   have HR2 := Lib.hid (show RepS.rdS w (fun b => F b ∧ b < w.heap.size ∧ b ≠ g) y cs from RepS.mono (fun b hb => ⟨hb.1, hb.2.1, fun e => hb.2.2 (by rw [e]; rfl)⟩) (fun _ _ _ _ hu => hu) HR.out)
   have hle := hrow.le; have hlim := hrow.lim
   unfold maxLen at hlim
   have hik : i < xs.length := by omega
   have hw1 : IntKind.i64.wrap ((i : Int) + 1) = ((i + 1 : Nat) : Int) := by rw [IntKind.wrap_i64]; omega
   have hw2 : IntKind.i64.wrap ((xs.length : Int) + 1) = ((xs.length + 1 : Nat) : Int) := by rw [IntKind.wrap_i64]; omega
   have hn1 : ¬ ((i : Int) = (xs.length : Int)) := by omega
   clear ho hgv hr2 hrow HR HO
   by_cases hroom : xs.length + 1 ≤ cap
   ·
    obtain ⟨cur1, cur2, k1, k2, k3⟩ := insert_room (w := w.drew) E_dev HROW.out.drew (i := i) (by omega) hroom gv hne HC.out (RepS.mono (w := w) (fun _ h => h) (fun _ _ _ _ h => h) HR2.out)
    have hov : ∀ lb cb, (callFunc (104) #[.slice (some ⟨gv, 0, none⟩) 1 1, .slice (some ⟨g, (i + 1) * 10, none⟩) lb cb]).run Tryz.prog w = .ok (.value (.bool false)) w := fun lb cb =>
     overlaps_apart w gv 0 g ((i + 1) * 10) 1 1 lb cb hne _ cur HCH.out HROW.out.heap (by rw [HROW.out.size]; show cap * 10 ≠ 0; omega)
    have K1 := Lib.hid (show ∀ ty dc sc, (Builtin.copy_ #[55, 55] ty #[.slice (some ⟨g, (i + 1) * 10, none⟩) (xs.length + 1 - (i + 1)) dc, .slice (some ⟨g, i * 10, none⟩) (xs.length + 1 - i) sc]).run Tryz.prog w.drew = .ok (goInt ((xs.length - i : Nat) : Int)) (w.drew.setRow g cur1) from fun ty dc sc => k1 ty dc sc _ _ E_dev.sl)
    have K2 := Lib.hid (show ∀ ty dc sc, (Builtin.copy_ #[55, 55] ty #[.slice (some ⟨g, i * 10, none⟩) (xs.length + 1 - i) dc, .slice (some ⟨gv, 0, none⟩) 1 sc]).run Tryz.prog (w.drew.setRow g cur1) = .ok (goInt 1) (w.drew.setRow g cur2) from fun ty dc sc => k2 ty dc sc _ _ E_dev.sl)
    have K3 := Lib.hid k3
    clear k1 k2 k3
    have hn2 : ¬ ((cap : Int) < ((xs.length + 1 : Nat) : Int)) := by omega
    have hn3 : ((xs.length + 1 : Nat) : Int) ≤ (cap : Int) := by omega
    have hn4 : ((i + 1 : Nat) : Int) ≤ ((xs.length + 1 : Nat) : Int) := by omega
    have hn5 : (i : Int) ≤ ((xs.length + 1 : Nat) : Int) := by omega
    have hn6 : ¬ cap = i + 1 := by omega
    have ht1 : ((i : Int) + 1).toNat = i + 1 := by omega
    have ht2 : (0 : Int) ≤ (i : Int) + 1 := by omega
    have ht3 : (i : Int) + 1 ≤ (xs.length : Int) + 1 := by omega
    have ht4 : (i : Int) ≤ (xs.length : Int) + 1 := by omega
    have mixed : Tryz.prog.follows Departure.mixedOrders = true := by kernel_rfl
    have hn7 : ¬ cap = i := by omega
    go_wp2_with (simp only [hov])
    go_region_law_o (refine step_copyR (R := fun v' w' => w' = w.drew.setRow g cur1) rfl _ _ rfl (.slice (some ⟨g, (i + 1) * 10, none⟩) (xs.length + 1 - (i + 1)) (cap - (i + 1))) (.slice (some ⟨g, i * 10, none⟩) (xs.length + 1 - i) (cap - i)) (by simp [Act.eval, Act.put]) (by simp [Act.eval, Act.put]) ⟨_, _, K1.out _ _ _, rfl⟩ ?_; rintro v' w' rfl)
    go_wp2_with (refine wpList_copyR (R := fun v' w' => w' = w.drew.setRow g cur2) rfl _ _ rfl _ _ rfl rfl ⟨_, _, K2.out _ _ _, rfl⟩ ?_; rintro v' w' rfl)
    go_ret
    exact ⟨.slice (some ⟨g, 0, none⟩) (xs.length + 1) cap, rfl, by have h := K3.out.owns; rw [show (xs.take i ++ y :: xs.drop i).length = xs.length + 1 by simp; omega] at h; exact h, grown_seq (grown_wide (grown_none (below_drew w))) (grown_setRow w.drew g cur2)⟩
   ·
    obtain ⟨G, cur1, W1, k1, hGn, hbW, hsW, hrW⟩ := insert_grow E_dev HROW.out hik (by omega) HB.out (by omega) (by omega) 3 55 .i64 Tryz.underlying3 .i64
    obtain ⟨N, hN⟩ : ∃ z, w.heap.size = z := ⟨_, rfl⟩
    have hgN : g < w.heap.size := HROW.out.lt
    have hvN : gv < w.heap.size := (Array.getElem?_eq_some_iff.1 HCH.out).1
    have hti2 : (xs.take i).length = i := by rw [List.length_take]; omega
    have hdi : (xs.drop i).length = xs.length - i := List.length_drop
    have hmv : ∀ b o u, (F b ∧ b < w.heap.size ∧ b ≠ g) → w.cell? ⟨b, o, none⟩ = some u → W1.cell? ⟨b, o, none⟩ = some u := fun b o u hb hu => (hbW.cell (p := ⟨b, o, none⟩) hb.2.1).trans hu
    have hmS : ∀ b, (F b ∧ b < w.heap.size ∧ b ≠ g) → (F b ∧ b < W1.heap.size ∧ b ≠ w.heap.size) := fun b hb => ⟨hb.1, by omega, by omega⟩
    obtain ⟨c1, c2, k2, k3, k4⟩ := insert_new E_dev hrW (ys := xs.drop i) (ess := css.drop i) (by rw [hti2, hdi]; omega) gv g (i * 10) (by omega) (by omega) (fun j u hu => (hbW.cell (p := ⟨gv, j, none⟩) hvN).trans (HC.out j u hu)) (RepS.mono hmS hmv HR2.out)
     (by rw [List.length_drop, List.length_drop, HROW.out.len]) (RdL.mono hmS hmv (RdL.drop HROW.out.rd i)) (fun j u hu => (hbW.cell (p := ⟨g, i * 10 + j, none⟩) hgN).trans (HROW.out.from_ i j u hu))
    rw [hti2, hdi] at k3
    rw [hti2] at k2
    rw [hN] at k1 k2 k3 k4 hsW hbW
    have hkk : (xs.length : Int) + 1 - (i : Int) = ((xs.length + 1 - i : Nat) : Int) := by omega
    rw [← hkk] at k1
    have hG63 : G ≤ 9223372036854775807 := by have h := k4.lim; unfold maxLen at h; omega
    have K1 := Lib.hid (show ∀ ty, (Builtin.append_ #[55, 3] ty #[.slice (some ⟨g, 0, none⟩) i cap, .int .i64 ((xs.length : Int) + 1 - (i : Int))]).run Tryz.prog w = .ok (.slice (some ⟨N, 0, none⟩) (xs.length + 1) G) W1 from fun ty => k1)
    have K2 := Lib.hid (show ∀ ty dl dc sc, 1 ≤ dl → (Builtin.copy_ #[55, 55] ty #[.slice (some ⟨N, i * 10, none⟩) dl dc, .slice (some ⟨gv, 0, none⟩) 1 sc]).run Tryz.prog W1 = .ok (goInt 1) (W1.setRow N c1) from fun ty dl dc sc h => k2 ty dl dc sc _ _ E_dev.sl h)
    have K3 := Lib.hid (show ∀ ty dl dc sc, xs.length - i ≤ dl → (Builtin.copy_ #[55, 55] ty #[.slice (some ⟨N, (i + 1) * 10, none⟩) dl dc, .slice (some ⟨g, i * 10, none⟩) (xs.length - i) sc]).run Tryz.prog (W1.setRow N c1).drew = .ok (goInt ((xs.length - i : Nat) : Int)) (W1.setRow N c2).drew from fun ty dl dc sc h => k3 ty dl dc sc _ _ E_dev.sl h)
    have K4 := Lib.hid k4; have HBW := Lib.hid hbW; have HGN := Lib.hid hGn
    clear k1 k2 k3 k4 hbW hmv hmS hkk
    have hw3 : IntKind.i64.wrap ((xs.length : Int) + 1 - (i : Int)) = (xs.length : Int) + 1 - (i : Int) := by rw [IntKind.wrap_i64]; omega
    have hn2 : (cap : Int) < (xs.length : Int) + 1 := by omega
    have ht1 : ((i : Int) + 1).toNat = i + 1 := by omega
    have ht2 : (0 : Int) ≤ (i : Int) + 1 := by omega
    have ht3 : (i : Int) + 1 ≤ (xs.length : Int) + 1 := by omega
    have ht4 : (i : Int) ≤ (xs.length : Int) + 1 := by omega
    have ht5 : (i : Int) ≤ (xs.length : Int) := by omega
    have ht6 : (i : Int) ≤ (cap : Int) := by omega
    have hc1 : ¬ G = i := by omega
    have hc2 : ¬ G = i + 1 := by omega
    have hc3 : ¬ cap = i := by omega
    have mixed : Tryz.prog.follows Departure.mixedOrders = true := by kernel_rfl
    go_wp2_with (first
     | (at_builtin; go_must (refine wpList_appR (R := fun v' w' => v' = .slice (some ⟨N, 0, none⟩) (xs.length + 1) G ∧ W1 = w') rfl _ _ rfl _ _ rfl rfl ⟨_, _, K1.out _, rfl, rfl⟩ ?_); rintro v' w' ⟨rfl, rfl⟩)
     | (refine wpList_copyR (R := fun v' w' => w' = W1.setRow N c1) rfl _ _ rfl _ _ rfl rfl ⟨_, _, K2.out _ _ _ _ (by omega), rfl⟩ ?_; rintro v' w' rfl))
    go_region_law_o (refine step_copyR (R := fun v' w' => w' = (W1.setRow N c2).drew) rfl _ _ rfl (.slice (some ⟨N, (i + 1) * 10, none⟩) (xs.length + 1 - (i + 1)) (G - (i + 1))) (.slice (some ⟨g, i * 10, none⟩) (xs.length - i) (cap - i)) (by simp [Act.eval, Act.put]) (by simp [Act.eval, Act.put]) ⟨_, _, K3.out _ _ _ _ (by omega), rfl⟩ ?_; rintro v' w' rfl)
    go_wp2
    go_ret
    have hb2 : Below w.heap.size w (W1.setRow N c2).drew := by
     have h1 : Below w.heap.size w (W1.setRow N c2) := (show Below w.heap.size w W1 by rw [hN]; exact HBW.out).grown (grown_setRow W1 N c2) (by omega) (fun q hq => by have := Option.some.inj hq; omega)
     exact h1.trans ((below_drew _).mono h1.size)
    refine ⟨.slice (some ⟨N, 0, none⟩) (xs.length + 1) G, rfl, ?_, grown_wide (grown_none hb2)⟩
    have h := K4.out.drew.owns
    rw [show (xs.take i ++ y :: xs.drop i).length = xs.length + 1 by simp; omega] at h
    exact h
end Go.Proofs.YtehmidmoiamcfaaGreatDoor
namespace Go.Cold
open Go Go.RowKit
section
variable {α : Type} [RepS α] {F : Nat → Prop} {w W W' : World} {base : Nat} {T : TypeId} {g cap : Nat} {xs : List α} {cur : Array Value} {css : List (List Value)} {p : α → Bool} {i j : Nat} {x : α}
end
end Go.Cold
