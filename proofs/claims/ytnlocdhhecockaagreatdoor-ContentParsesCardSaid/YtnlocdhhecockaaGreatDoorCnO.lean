/-
  Lists of contents that a call has gathered by append. No program is named here.
-/
import Derived.Test.YtnlocdhhecockaaGreatDoorCnP
import Derived.Test.YtnlocdhhecockaaGreatDoorOwn
import Derived.Maps.AppendAt
set_option linter.unusedSimpArgs false
set_option linter.unusedVariables false
namespace Go.Cold
open Go Go.RowKit

/-- The call's own row v holds the contents xs, and what they reach lies in blocks of F, none of them the row's. -/
def OwnsC (F : Nat → Prop) (w : World) (base : Nat) (e : TypeId) (v : Value) (xs : List Cont) : Prop :=
  ∃ css : List (List Value), w.ownsRow base e 7 v xs.length css.flatten ∧ css.length = xs.length ∧
    ∀ (i : Nat) (x : Cont) (cs : List Value), xs[i]? = some x → css[i]? = some cs → CRdS w (fun b => F b ∧ b < w.heap.size ∧ v.ownBlock ≠ some b) x cs

theorem flatten_at {css : List (List Value)} (h7 : ∀ cs ∈ css, cs.length = 7) : ∀ {i j : Nat} {cs : List Value}, css[i]? = some cs → j < 7 → css.flatten[i * 7 + j]? = cs[j]? := by
  induction css with
  | nil => intro i j cs h; simp at h
  | cons c r ih =>
    intro i j cs h hj
    have hc := h7 c List.mem_cons_self
    rw [List.flatten_cons]
    cases i with
    | zero =>
      simp at h; subst h
      rw [List.getElem?_append_left (by omega), show 0 * 7 + j = j by omega]
    | succ i =>
      rw [List.getElem?_append_right (by omega), show (i + 1) * 7 + j - c.length = i * 7 + j by omega]
      exact ih (fun cs hcs => h7 cs (List.mem_cons_of_mem _ hcs)) (by simpa using h) hj
section
variable {F : Nat → Prop} {w w' : World} {base : Nat} {e : TypeId} {v : Value} {xs : List Cont}
theorem OwnsC.nil_ (F : Nat → Prop) (w : World) (base : Nat) (e : TypeId) : OwnsC F w base e (.slice none 0 0) [] := ⟨[], World.ownsRow_nil _ _ _ _, rfl, fun i x cs h => by simp at h⟩
/-- Behind a call, or an alloc, that leaves all that there was. -/
theorem OwnsC.below (h : OwnsC F w base e v xs) (hb : Below w.heap.size w w') : OwnsC F w' base e v xs := by
  obtain ⟨css, h1, h2, h3⟩ := h
  have hg : w.grownBy w' none := ⟨hb.os, hb.tape, hb.output, hb.size, fun k hk _ => hb.block k hk⟩
  refine ⟨css, h1.kept hg (by
    cases hv : v.ownBlock with
    | none => exact .inl rfl
    | some k => exact .inr (by simp)), h2, fun i x cs hx hcs => CRdS_mono (fun b ⟨hf, hb1, hb2⟩ => ⟨hf, by have := hb.size; omega, hb2⟩) (fun b o u ⟨_, hb1, _⟩ hu => (hb.cell (p := ⟨b, o, none⟩) (by exact hb1)).trans hu) x cs (h3 i x cs hx hcs)⟩
theorem OwnsC.lt (h : OwnsC F w base e v xs) : ∀ k, v.ownBlock = some k → base ≤ k ∧ k < w.heap.size := by
  obtain ⟨css, h1, _⟩ := h
  exact h1.lt
theorem OwnsC.base_ {base' : Nat} (h : OwnsC F w base e v xs) (hb : base' ≤ base) : OwnsC F w base' e v xs := by
  obtain ⟨css, h1, h2, h3⟩ := h
  exact ⟨css, ⟨h1.1, h1.2.imp id fun ⟨g, cap, cur, q1, q2, q3⟩ => ⟨g, cap, cur, q1, Nat.le_trans hb q2, q3⟩⟩, h2, h3⟩
/-- Behind an append of one content: v' is the row then; x's blocks are none of the rows'. -/
theorem OwnsC.app {v' : Value} {x : Cont} {cs : List Value} {css : List (List Value)} (h1 : w.ownsRow base e 7 v xs.length css.flatten) (h2 : css.length = xs.length)
    (h3 : ∀ (i : Nat) (x : Cont) (cs : List Value), xs[i]? = some x → css[i]? = some cs → CRdS w (fun b => F b ∧ b < w.heap.size ∧ v.ownBlock ≠ some b) x cs)
    (hx : CRdS w (fun b => F b ∧ b < w.heap.size ∧ v.ownBlock ≠ some b) x cs) (hown : w'.ownsRow base e 7 v' (xs.length + 1) (css.flatten ++ cs)) (hg : w.grownBy w' v.ownBlock)
    (hnew : ∀ k, v'.ownBlock = some k → v.ownBlock = some k ∨ w.heap.size ≤ k) : OwnsC F w' base e v' (xs ++ [x]) := by
  have hmono : ∀ y ds, CRdS w (fun b => F b ∧ b < w.heap.size ∧ v.ownBlock ≠ some b) y ds → CRdS w' (fun b => F b ∧ b < w'.heap.size ∧ v'.ownBlock ≠ some b) y ds := fun y ds =>
    CRdS_mono (fun b ⟨hf, hb1, hb2⟩ => ⟨hf, by have := hg.size; omega, fun e => by
      rcases hnew b e with h | h
      · exact hb2 h
      · omega⟩) (fun b o u ⟨_, _, hb2⟩ hu => hg.cell hu (fun e => hb2 e.symm)) y ds
  refine ⟨css ++ [cs], by rw [List.length_append]; simpa using hown, by simp [h2], fun i y ds hy hds => ?_⟩
  by_cases hi : i < xs.length
  · rw [List.getElem?_append_left hi] at hy
    rw [List.getElem?_append_left (by omega)] at hds
    exact hmono y ds (h3 i y ds hy hds)
  · rw [List.getElem?_append_right (by omega)] at hy hds
    rw [h2] at hds
    have hi0 : i - xs.length = 0 := by
      have := (List.getElem?_eq_some_iff.1 hy).1
      simp at this; omega
    rw [hi0] at hy hds
    simp at hy hds
    subst hy; subst hds
    exact hmono _ _ hx
/-- Behind an append of a list: what the new ones reach is none of the rows'. -/
theorem OwnsC.appL {v' : Value} {ys : List Cont} {css dss : List (List Value)} (h1 : w.ownsRow base e 7 v xs.length css.flatten) (h2 : css.length = xs.length)
    (h3 : ∀ (i : Nat) (x : Cont) (cs : List Value), xs[i]? = some x → css[i]? = some cs → CRdS w (fun b => F b ∧ b < w.heap.size ∧ v.ownBlock ≠ some b) x cs)
    (h4 : dss.length = ys.length) (h5 : ∀ (i : Nat) (y : Cont) (cs : List Value), ys[i]? = some y → dss[i]? = some cs → CRdS w (fun b => F b ∧ b < w.heap.size ∧ v.ownBlock ≠ some b) y cs)
    (hown : w'.ownsRow base e 7 v' (xs.length + ys.length) (css.flatten ++ dss.flatten)) (hg : w.grownBy w' v.ownBlock)
    (hnew : ∀ k, v'.ownBlock = some k → v.ownBlock = some k ∨ w.heap.size ≤ k) : OwnsC F w' base e v' (xs ++ ys) := by
  have hmono : ∀ y ds, CRdS w (fun b => F b ∧ b < w.heap.size ∧ v.ownBlock ≠ some b) y ds → CRdS w' (fun b => F b ∧ b < w'.heap.size ∧ v'.ownBlock ≠ some b) y ds := fun y ds =>
    CRdS_mono (fun b ⟨hf, hb1, hb2⟩ => ⟨hf, by have := hg.size; omega, fun e => by
      rcases hnew b e with h | h
      · exact hb2 h
      · omega⟩) (fun b o u ⟨_, _, hb2⟩ hu => hg.cell hu (fun e => hb2 e.symm)) y ds
  refine ⟨css ++ dss, by rw [List.length_append]; simpa using hown, by simp [h2, h4], fun i y ds hy hds => ?_⟩
  by_cases hi : i < xs.length
  · rw [List.getElem?_append_left hi] at hy
    rw [List.getElem?_append_left (by omega)] at hds
    exact hmono y ds (h3 i y ds hy hds)
  · rw [List.getElem?_append_right (by omega)] at hy hds
    rw [h2] at hds
    exact hmono y ds (h5 _ y ds hy hds)
/-- A gathered list, in its block. -/
theorem OwnsC.cs (h : OwnsC F w base e v xs) : ∃ A c, v = .slice A xs.length c ∧ xs.length ≤ c ∧ c ≤ maxLen ∧ (0 < xs.length → ∃ b o, A = some ⟨b, o, none⟩ ∧ (base ≤ b ∧ b < w.heap.size) ∧ CsAtS w (fun b => F b ∧ b < w.heap.size) b xs o) := by
  obtain ⟨css, h1, h2, h3⟩ := h
  have h7 : ∀ cs ∈ css, cs.length = 7 := fun cs hcs => by
    obtain ⟨i, hi, rfl⟩ := List.getElem_of_mem hcs
    exact CRdS_len (h3 i xs[i] css[i] (List.getElem?_eq_getElem (by omega)) (List.getElem?_eq_getElem hi))
  obtain ⟨_, h4⟩ := h1
  rcases h4 with ⟨rfl, h0⟩ | ⟨g, cap, cur, rfl, hg, hh, hnc, hcm, hcs, htk⟩
  · have : xs = [] := List.eq_nil_of_length_eq_zero h0
    subst this
    exact ⟨none, 0, rfl, by simp, by simp [maxLen], fun h => by simp at h⟩
  · have hgl : g < w.heap.size := (Array.getElem?_eq_some_iff.1 hh).1
    refine ⟨_, cap, rfl, hnc, hcm, fun _ => ⟨g, 0, rfl, ⟨hg, hgl⟩, CsAtS_iff.2 fun i x hx => ?_⟩⟩
    have hi : i < xs.length := (List.getElem?_eq_some_iff.1 hx).1
    have hci : css[i]? = some css[i] := List.getElem?_eq_getElem (by omega)
    have hrd := h3 i x css[i] hx hci
    refine ⟨css[i], CRdS_mono (fun b ⟨hf, hb1, _⟩ => ⟨hf, hb1⟩) (fun _ _ _ _ hu => hu) x _ hrd, fun j u hu => ?_⟩
    have hj : j < 7 := by
      have := (List.getElem?_eq_some_iff.1 hu).1
      rw [CRdS_len hrd] at this; exact this
    rw [Nat.zero_add, cell_of_row w g (i * 7 + j) cur e (0, 0) hh]
    have := flatten_at h7 hci hj
    rw [← htk, List.getElem?_take, if_pos (by omega), hu] at this
    simpa using this
/-- A gathered list reads as a slice. -/
theorem OwnsC.sl (h : OwnsC F w base e v xs) : ∃ A c, v = .slice A xs.length c ∧ Sl w w.heap.size A c xs := by
  obtain ⟨A, c, hv, h1, h2, h3⟩ := h.cs
  refine ⟨A, c, hv, h1, h2, fun hn => ?_⟩
  obtain ⟨b, o, e, hb, hcs⟩ := h3 hn
  exact ⟨b, o, e, hb.2, fun i x hx => by
    obtain ⟨cs, h4, h5⟩ := CsAtS_iff.1 hcs i x hx
    exact ⟨cs, CRdS_mono (fun _ h => h.2) (fun _ _ _ _ hu => hu) x cs h4, h5⟩⟩
/-- The cells of a content just laid. -/
theorem cell7_new (w : World) (t : TypeId) (k : Int) (i l : ByteArray) (s tt ee : Int) (A : Option Addr) (n c : Nat) : ∀ j u, (contCells k i l s tt ee A n c)[j]? = some u →
    (w.alloc (.cells #[.int .i64 k, .string i, .string l, .int .i64 s, .int .i64 tt, .int .i64 ee, .slice A n c] t)).cell? ((⟨w.heap.size, 0, none⟩ : Addr).add j) = some u := by
  intro j u hj
  rw [add_mk, Nat.zero_add, World.cell?_alloc_at _ _ _ _ rfl]
  simpa [contCells] using hj
end
mutual
/-- How many contents there are, itself among them. -/
def nodesC : Cont → Nat
  | .mk _ _ _ _ _ _ xs => nodesL xs + 1
def nodesL : List Cont → Nat
  | [] => 0
  | x :: xs => nodesC x + nodesL xs
end
theorem nodesL_mem : ∀ {xs : List Cont} {x : Cont}, x ∈ xs → nodesC x ≤ nodesL xs
  | y :: ys, x, h => by
    rw [nodesL]
    rcases List.mem_cons.1 h with rfl | h
    · omega
    · have := nodesL_mem h; omega
mutual
/-- A content and all contents in it. -/
def walkC : Cont → List Cont
  | .mk k i l s t e xs => .mk k i l s t e xs :: walkL xs
def walkL : List Cont → List Cont
  | [] => []
  | x :: xs => walkC x ++ walkL xs
end
theorem walkL_app (x : Cont) : ∀ xs : List Cont, walkL (xs ++ [x]) = walkL xs ++ walkC x
  | [] => by rw [List.nil_append, walkL, walkL, walkL, List.append_nil, List.nil_append]
  | y :: ys => by rw [List.cons_append, walkL, walkL, walkL_app x ys, List.append_assoc]
mutual
theorem walkC_length : ∀ a : Cont, (walkC a).length = nodesC a
  | .mk k i l s t e xs => by rw [walkC, nodesC, List.length_cons, walkL_length xs]
theorem walkL_length : ∀ xs : List Cont, (walkL xs).length = nodesL xs
  | [] => by rw [walkL, nodesL]; rfl
  | x :: xs => by rw [walkL, nodesL, List.length_append, walkC_length x, walkL_length xs]
end
theorem nodesL_app (x : Cont) : ∀ xs : List Cont, nodesL (xs ++ [x]) = nodesL xs + nodesC x
  | [] => by rw [List.nil_append, nodesL, nodesL, nodesL]; omega
  | y :: ys => by rw [List.cons_append, nodesL, nodesL, nodesL_app x ys]; omega
theorem nodesL_take : ∀ (xs : List Cont) (k : Nat), nodesL (xs.take k) ≤ nodesL xs
  | [], k => by simp
  | x :: xs, 0 => by rw [List.take_zero, nodesL]; omega
  | x :: xs, k + 1 => by
    have := nodesL_take xs k
    rw [List.take_succ_cons, nodesL, nodesL]; omega
theorem nodesC_pos (a : Cont) : 0 < nodesC a := by cases a; rw [nodesC]; omega
theorem nodesL_length : ∀ xs : List Cont, xs.length ≤ nodesL xs
  | [] => by simp
  | x :: xs => by
    have := nodesL_length xs
    have := nodesC_pos x
    rw [nodesL, List.length_cons]; omega
end Go.Cold
