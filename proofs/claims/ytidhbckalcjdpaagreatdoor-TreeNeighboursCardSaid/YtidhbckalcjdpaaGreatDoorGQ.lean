/-
  The plain side of layer 4: a subtree is a row of neighbours, as the law TreeNeighbours counts it. No program is named here.
-/
import Derived.Test.YtidhbckalcjdpaaGreatDoorGA
set_option linter.unusedSimpArgs false
set_option linter.unusedVariables false
namespace Go.Cold
open Go Go.RowKit
def nbB (L : List Dev) (n : Int) (d : Dev) : Bool := underL (orgF L n) (orgF L d.idx) || decide (d.idx = n)
theorem nb_sub {L : List Dev} (h : VT L) {t : Dev} (ht : t ∈ L) : L.countP (nbB L t.idx) = (subR L t.idx).length := by
  rw [List.countP_eq_length_filter]
  unfold subR
  refine congrArg List.length (List.filter_congr fun d hd => ?_)
  rw [below_under h ht _ d.idx (Nat.le_refl _)]
  unfold nbB
  rw [Bool.or_comm]
theorem nb_row {L : List Dev} (h : VT L) {k : Nat} {d : Dev} (hd : L[k]? = some d) : k + (subR L d.idx).length ≤ L.length ∧ (L.drop k).take (subR L d.idx).length = subR L d.idx := by
  obtain ⟨hk, rfl⟩ := List.getElem?_eq_some_iff.1 hd
  obtain ⟨A, hA⟩ : ∃ A, L.take k = A := ⟨_, rfl⟩
  obtain ⟨B, hB⟩ : ∃ B, L.drop (k + 1) = B := ⟨_, rfl⟩
  have hl : A.length = k := by rw [← hA, List.length_take]; omega
  have hdr : L.drop k = L[k] :: B := by rw [← hB]; exact List.drop_eq_getElem_cons hk
  have hL : A ++ L[k] :: B = L := by rw [← hA, ← hdr]; exact List.take_append_drop k L
  obtain ⟨t, ht⟩ : ∃ t, L[k] = t := ⟨_, rfl⟩
  rw [ht] at hL hdr ⊢
  have hs : subR L t.idx = t :: B.takeWhile fun d => underL (orgF L t.idx) (orgF L d.idx) := by
    have := sub_row (A := A) (B := B) (t := t) (by rw [hL]; exact h)
    rwa [hL] at this
  have hle : (B.takeWhile fun d => underL (orgF L t.idx) (orgF L d.idx)).length ≤ B.length := (List.takeWhile_sublist _).length_le
  have hlen : L.length = k + (B.length + 1) := by rw [← hL, List.length_append, hl]; simp
  rw [hs, hdr]
  refine ⟨by rw [List.length_cons]; omega, ?_⟩
  rw [List.length_cons, List.take_succ_cons]
  congr 1
  conv => lhs; rw [show B = (B.takeWhile fun d => underL (orgF L t.idx) (orgF L d.idx)) ++ B.dropWhile fun d => underL (orgF L t.idx) (orgF L d.idx) from (List.takeWhile_append_dropWhile).symm]
  rw [List.take_append_of_le_length (by rw [List.takeWhile_append_dropWhile]; exact Nat.le_refl _), List.takeWhile_append_dropWhile, List.take_of_length_le (Nat.le_refl _)]
/-- The place that the loop remembers. -/
def AtR (n : Int) (pre : List Dev) (z : Int) : Prop := (z = -1 ∧ n ∉ idxs pre) ∨ ∃ (k : Nat) (d : Dev), z = (k : Int) ∧ pre[k]? = some d ∧ d.idx = n
theorem AtR.nil (n : Int) : AtR n [] (-1) := .inl ⟨rfl, by simp [idxs]⟩
theorem AtR.hit {n : Int} {pre : List Dev} {x : Dev} (h : x.idx = n) : AtR n (pre ++ [x]) pre.length := .inr ⟨pre.length, x, rfl, by simp, h⟩
theorem AtR.miss {n : Int} {pre : List Dev} {x : Dev} {z : Int} (h : x.idx ≠ n) (hz : AtR n pre z) : AtR n (pre ++ [x]) z := by
  rcases hz with ⟨h1, h2⟩ | ⟨k, d, h1, h2, h3⟩
  · refine .inl ⟨h1, fun hm => ?_⟩
    unfold idxs at hm h2
    rw [List.map_append, List.mem_append] at hm
    rcases hm with hm | hm
    · exact h2 hm
    · simp at hm; exact h hm.symm
  · refine .inr ⟨k, d, h1, ?_, h3⟩
    have hk := (List.getElem?_eq_some_iff.1 h2).1
    rw [List.getElem?_append_left hk]; exact h2
theorem AtR.found {n : Int} {L : List Dev} {z : Int} (hz : AtR n L z) (hn : n ∈ idxs L) : ∃ (k : Nat) (d : Dev), z = (k : Int) ∧ L[k]? = some d ∧ d.idx = n := by
  rcases hz with ⟨h1, h2⟩ | h
  · exact absurd hn h2
  · exact h
theorem AtR.range {n : Int} {L : List Dev} {z : Int} (hz : AtR n L z) : -1 ≤ z ∧ z < L.length := by
  rcases hz with ⟨h1, h2⟩ | ⟨k, d, h1, h2, h3⟩
  · omega
  · have hk := (List.getElem?_eq_some_iff.1 h2).1
    rw [h1]; omega
def nbN (L : List Dev) (n : Int) (pre : List Dev) : Nat := pre.countP (nbB L n)
theorem nbN_le (L : List Dev) (n : Int) (pre : List Dev) : nbN L n pre ≤ pre.length := List.countP_le_length
theorem nbN_hit {L : List Dev} {n : Int} {pre : List Dev} {x : Dev} (h : nbB L n x = true) : nbN L n (pre ++ [x]) = nbN L n pre + 1 := by
  unfold nbN; rw [List.countP_append]; simp [h]
theorem nbN_miss {L : List Dev} {n : Int} {pre : List Dev} {x : Dev} (h : nbB L n x = false) : nbN L n (pre ++ [x]) = nbN L n pre := by
  unfold nbN; rw [List.countP_append]; simp [h]
theorem under_self (L : List Dev) (n : Int) : underL (orgF L n) (orgF L n) = false := by unfold underL; simp
theorem sub_none {L : List Dev} {n : Int} (hn : n ∉ idxs L) (h : WF L) : subR L n = [] := by
  unfold subR
  rw [List.filter_eq_nil_iff]
  intro d hd hb
  unfold belowR at hb
  rw [List.any_eq_true] at hb
  obtain ⟨e, he, h1⟩ := hb
  have := chain_mem L _ _ e he
  exact hn (of_decide_eq_true h1 ▸ mem_idxs this)
end Go.Cold
