/-
  The plain side of layer 7, on: what the reference calls valid is what the program calls valid. No program is named here.
-/
import Derived.Test.YtnlocdhhecockaaGreatDoorCnK
set_option linter.unusedSimpArgs false
set_option linter.unusedVariables false
namespace Go.Cold
open Go Go.RowKit
def noneB (s t e : Int) : Bool := decide (t = 0) && (decide (s = 0) && decide (e = 0))
def slots2 (s t : Int) : Bool := withinB t 16 && withinB s t
/-- What the reference asks of the fields of a content, its depth and what is inside left out. -/
def ownB : Cont → Bool
  | .mk k i l s t e xs => if k = 0 then i.toList.isEmpty && (l.toList.isEmpty && (noneB s t e && decide (xs.length = 0))) else idB i &&
    (if k = 1 then (l.toList.isEmpty || idB l) && (noneB s t e && decide (xs.length = 0))
     else if k = 2 then l.toList.isEmpty && (slots2 s t && (withinB e t && decide (xs.length = 1)))
     else if k = 3 then l.toList.isEmpty && (noneB s t e && decide (xs.length = 1))
     else if k = 4 then l.toList.isEmpty && (slots2 s t && (decide (e = 0) && withinB xs.length 16))
     else if k = 5 then l.toList.isEmpty && (noneB s t e && withinB xs.length 16) else false)
theorem empty_iff (l : ByteArray) : l.toList = [] ↔ l = ByteArray.empty := by
  have he : ByteArray.empty.toList = [] := by decide +kernel
  have h := ba_beq l ByteArray.empty
  rw [he] at h
  constructor
  · intro hl
    rw [hl] at h
    exact of_decide_eq_true h.symm
  · rintro rfl; exact he
theorem isEmpty_iff (l : ByteArray) : l.toList.isEmpty = true ↔ l = ByteArray.empty := by
  rw [List.isEmpty_iff, empty_iff]
theorem alike_own (c : Cont) : alikeB c = ownB c := by
  obtain ⟨k, i, l, s, t, e, xs⟩ := c
  rw [Bool.eq_iff_iff]
  unfold alikeB ownB usedC condC slots2 noneB
  by_cases h0 : k = 0
  · simp [h0, sameC_iff, empty_iff]
    try grind
  by_cases h1 : k = 1
  · simp [h1, sameC_iff, empty_iff]
    try grind
  by_cases h2 : k = 2
  · simp [h2, sameC_iff, empty_iff]
    try grind
  by_cases h3 : k = 3
  · simp [h3, sameC_iff, empty_iff]
    try grind
  by_cases h4 : k = 4
  · simp [h4, sameC_iff, empty_iff]
    try grind
  by_cases h5 : k = 5
  · simp [h5, sameC_iff, empty_iff]
    try grind
  simp [h0, h1, h2, h3, h4, h5]
mutual
/-- The reference's 'valid'. -/
def refB : Nat → Cont → Bool
  | d, .mk k i l s t e xs => refL d xs && ((decide (k = 0) || decide (0 < d)) && ownB (.mk k i l s t e xs))
def refL : Nat → List Cont → Bool
  | _, [] => true
  | d, x :: xs => (decide (0 < d) && refB (d - 1) x) && refL d xs
end
theorem refL_app (d : Nat) (x : Cont) : ∀ xs : List Cont, refL d (xs ++ [x]) = (refL d xs && (decide (0 < d) && refB (d - 1) x))
  | [] => by rw [List.nil_append, refL, refL, refL]; simp
  | y :: ys => by rw [List.cons_append, refL, refL, refL_app d x ys]; simp only [Bool.and_assoc]
theorem refL_bad {d : Nat} {x : Cont} {xs : List Cont} {k : Nat} (hx : xs[k]? = some x) (h : (decide (0 < d) && refB (d - 1) x) = false) : refL d xs = false := by
  induction xs generalizing k with
  | nil => simp at hx
  | cons y ys ih =>
    rw [refL]
    cases k with
    | zero => simp at hx; subst hx; rw [h]; rfl
    | succ k => rw [ih (by simpa using hx)]; simp
theorem own_none {i l : ByteArray} {s t e : Int} {xs : List Cont} (h : ownB (.mk 0 i l s t e xs) = true) : xs = [] := by
  unfold ownB at h; simp at h; exact h.2.2.2
mutual
theorem ref_iff : ∀ (c : Cont) (d : Nat), refB d c = true ↔ depthC c ≤ d ∧ ∀ x ∈ walkC c, alikeB x = true
  | .mk k i l s t e xs, d => by
    rw [refB, walkC, depthC]
    simp only [Bool.and_eq_true, List.mem_cons, forall_eq_or_imp, alike_own, Bool.or_eq_true, decide_eq_true_eq]
    have hL := refL_iff xs d
    by_cases hk : k = 0
    · subst hk
      constructor
      · rintro ⟨h1, -, h2⟩
        have := own_none h2
        subst this
        exact ⟨by rw [if_pos rfl, depthL]; omega, h2, fun x hx => by rw [walkL] at hx; cases hx⟩
      · rintro ⟨h1, h2, h3⟩
        have := own_none h2
        subst this
        exact ⟨by rw [refL], .inl rfl, h2⟩
    · rw [if_neg hk]
      constructor
      · rintro ⟨h1, h2, h3⟩
        have hd : 0 < d := h2.resolve_left hk
        obtain ⟨h4, h5⟩ := (hL hd).1 h1
        exact ⟨by omega, h3, fun x hx => by rw [← alike_own]; exact h5 x hx⟩
      · rintro ⟨h1, h2, h3⟩
        have := depthL_nonneg xs
        have hd : 0 < d := by omega
        exact ⟨(hL hd).2 ⟨by omega, fun x hx => by rw [alike_own]; exact h3 x hx⟩, .inr hd, h2⟩
theorem refL_iff : ∀ (xs : List Cont) (d : Nat), 0 < d → (refL d xs = true ↔ depthL xs + 1 ≤ d ∧ ∀ x ∈ walkL xs, alikeB x = true)
  | [], d, hd => by rw [refL, depthL, walkL]; simp; omega
  | y :: ys, d, hd => by
    rw [refL, depthL, walkL]
    have h1 := ref_iff y (d - 1)
    have h2 := refL_iff ys d hd
    simp only [Bool.and_eq_true, decide_eq_true_eq, h1, h2, List.mem_append]
    constructor
    · rintro ⟨⟨-, h3, h4⟩, h5, h6⟩
      exact ⟨by omega, fun x hx => hx.elim (h4 x) (h6 x)⟩
    · rintro ⟨h3, h4⟩
      exact ⟨⟨hd, by omega, fun x hx => h4 x (.inl hx)⟩, by omega, fun x hx => h4 x (.inr hx)⟩
end
theorem ref_bad (c : Cont) : refB 6 c = !badC c := by
  rw [Bool.eq_iff_iff, ref_iff]
  unfold badC
  simp
end Go.Cold
