/-
  The plain side of layer 7, on: contents that are valid all through; their depths. No program is named here.
-/
import Derived.Test.YtnlocdhhecockaaGreatDoorCnW
import Derived.Test.YtnlocdhhecockaaGreatDoorCnB
set_option linter.unusedSimpArgs false
set_option linter.unusedVariables false
namespace Go.Cold
open Go Go.RowKit
/-- Every content in it has the fields of its kind. -/
def AllOk (c : Cont) : Prop := ∀ x ∈ walkC c, ownB x = true
theorem walkL_mem {xs : List Cont} {x : Cont} : x ∈ walkL xs ↔ ∃ y ∈ xs, x ∈ walkC y := by
  induction xs with
  | nil => rw [walkL]; simp
  | cons z zs ih => rw [walkL, List.mem_append, ih]; simp
theorem AllOk_mk {k : Int} {i l : ByteArray} {s t e : Int} {xs : List Cont} : AllOk (.mk k i l s t e xs) ↔ ownB (.mk k i l s t e xs) = true ∧ ∀ x ∈ xs, AllOk x := by
  unfold AllOk
  rw [walkC]
  simp only [List.mem_cons, forall_eq_or_imp, walkL_mem]
  constructor
  · rintro ⟨h1, h2⟩; exact ⟨h1, fun y hy x hx => h2 x ⟨y, hy, hx⟩⟩
  · rintro ⟨h1, h2⟩; exact ⟨h1, fun x ⟨y, hy, hx⟩ => h2 y hy x hx⟩
theorem bad_of {c : Cont} (h : AllOk c) (hd : depthC c ≤ 6) : badC c = false := by
  unfold badC
  simp only [Bool.or_eq_false_iff, decide_eq_false_iff_not, List.any_eq_false]
  exact ⟨by omega, fun x hx => by rw [alike_own, h x hx]; simp⟩
theorem ok_of_bad {c : Cont} (h : badC c = false) : AllOk c ∧ depthC c ≤ 6 := by
  unfold badC at h
  simp only [Bool.or_eq_false_iff, decide_eq_false_iff_not, List.any_eq_false] at h
  exact ⟨fun x hx => by have := h.2 x hx; rw [alike_own] at this; simpa using this, by omega⟩
theorem bad_deep {c : Cont} (hd : 6 < depthC c) : badC c = true := by unfold badC; simp [hd]
theorem kind_of_inner {k : Int} {i l : ByteArray} {s t e : Int} {xs : List Cont} {x : Cont} (h : AllOk (.mk k i l s t e xs)) (hx : x ∈ xs) : k ≠ 0 := by
  rintro rfl
  have := own_none (AllOk_mk.1 h).1
  subst this; cases hx
mutual
theorem depth_walk : ∀ (c : Cont) (x : Cont), x ∈ walkC c → depthC x ≤ depthC c
  | .mk k i l s t e xs, x, h => by
    rw [walkC, List.mem_cons] at h
    rcases h with rfl | h
    · exact Int.le_refl _
    · have := depth_walkL xs x h
      rw [depthC]; split <;> omega
theorem depth_walkL : ∀ (xs : List Cont) (x : Cont), x ∈ walkL xs → depthC x ≤ depthL xs
  | [], x, h => by rw [walkL] at h; cases h
  | y :: ys, x, h => by
    rw [walkL, List.mem_append] at h
    rw [depthL]
    rcases h with h | h
    · have := depth_walk y x h; omega
    · have := depth_walkL ys x h; omega
end
/-- What is inside a valid content is less deep. -/
theorem depth_less {c : Cont} (h : AllOk c) {j : Nat} {x : Cont} (hx : (walkC c)[j]? = some x) (hj : 0 < j) : depthC x < depthC c := by
  obtain ⟨k, i, l, s, t, e, xs⟩ := c
  rw [walkC] at hx
  obtain ⟨j, rfl⟩ : ∃ m, j = m + 1 := ⟨j - 1, by omega⟩
  have hm : x ∈ walkL xs := List.mem_of_getElem? (by simpa using hx)
  have h1 := depth_walkL xs x hm
  have hk : k ≠ 0 := by
    rintro rfl
    have := own_none (AllOk_mk.1 h).1
    subst this
    rw [walkL] at hm; cases hm
  have h2 : depthC (.mk k i l s t e xs) = depthL xs + 1 := by rw [depthC, if_neg hk]
  omega
mutual
theorem depth_same : ∀ c : Cont, AllOk c → depthR c = depthC c
  | .mk k i l s t e xs, h => by
    obtain ⟨h1, h2⟩ := AllOk_mk.1 h
    rw [depthR, depthC]
    by_cases hk : k = 0
    · subst hk
      have := own_none h1
      subst this
      rw [if_pos rfl, if_pos rfl, depthL]
    · rw [if_neg hk, if_neg hk, depth_sameL xs h2]
theorem depth_sameL : ∀ xs : List Cont, (∀ x ∈ xs, AllOk x) → depthRL xs = depthL xs
  | [], _ => by rw [depthRL, depthL]
  | x :: xs, h => by rw [depthRL, depthL, depth_same x (h x List.mem_cons_self), depth_sameL xs (fun y hy => h y (List.mem_cons_of_mem _ hy))]
end
/-- A content put into another one. -/
def crypt1 (c : Cont) : Cont := .mk 3 ⟨#[107]⟩ ByteArray.empty 0 0 0 [c]
theorem crypt1_ok {c : Cont} (h : AllOk c) : AllOk (crypt1 c) := by
  unfold crypt1
  refine AllOk_mk.2 ⟨?_, fun x hx => by simp at hx; subst hx; exact h⟩
  unfold ownB
  have : idB ⟨#[107]⟩ = true := by decide +kernel
  simp [this, noneB]
  try decide +kernel
theorem crypt1_depth (c : Cont) : depthC (crypt1 c) = depthC c + 1 := by
  have := depthC_nonneg c
  unfold crypt1
  rw [depthC, if_neg (by decide), depthL, depthL]; omega
theorem crypt1_nodes (c : Cont) : nodesC (crypt1 c) = nodesC c + 1 := by
  unfold crypt1
  rw [nodesC, nodesL, nodesL]
end Go.Cold
