/-
  The plain side of Clean. No program is named here.
-/
import Derived.Test.YtnoifjkgimlfaaaDoorNmQ
namespace Go.Cold
open Go Go.RowKit

def cleanP (b : UInt8) : UInt8 := if (partL ++ [47]).contains b then b else 95
theorem cleanP_good {b : UInt8} (h : (partL ++ [47]).contains b = true) : cleanP b = b := by rw [cleanP, if_pos h]
theorem cleanP_bad {b : UInt8} (h : (partL ++ [47]).contains b = false) : cleanP b = 95 := by rw [cleanP, h]; rfl
/-- The bytes while the first loop runs: k of them are clean. -/
def cleanK (l : List UInt8) (k : Nat) : List UInt8 := (l.take k).map cleanP ++ l.drop k
theorem cleanK_length (l : List UInt8) (k : Nat) (hk : k ≤ l.length) : (cleanK l k).length = l.length := by
  simp [cleanK]; omega
theorem cleanK_zero (l : List UInt8) : cleanK l 0 = l := by simp [cleanK]
theorem cleanK_all (l : List UInt8) {k : Nat} (hk : l.length ≤ k) : cleanK l k = l.map cleanP := by
  rw [cleanK, List.take_of_length_le hk, List.drop_eq_nil_of_le hk, List.append_nil]
theorem cleanK_at {l : List UInt8} {k : Nat} {b : UInt8} (h : l[k]? = some b) : (cleanK l k)[k]? = some b := by
  have hk := (List.getElem?_eq_some_iff.1 h).1
  rw [cleanK, List.getElem?_append_right (by simp; omega)]
  simp only [List.length_map, List.length_take]
  rw [Nat.min_eq_left (by omega), Nat.sub_self, List.getElem?_drop]
  exact h
theorem cleanK_succ {l : List UInt8} {k : Nat} {b : UInt8} (h : l[k]? = some b) : cleanK l (k + 1) = (cleanK l k).set k (cleanP b) := by
  have hk := (List.getElem?_eq_some_iff.1 h).1
  have hb := (List.getElem?_eq_some_iff.1 h).2
  have e1 : cleanK l k = ((l.take k).map cleanP) ++ b :: l.drop (k + 1) := by
    rw [cleanK, List.drop_eq_getElem_cons hk, hb]
  rw [e1, List.set_append_right _ _ (by simp; omega)]
  simp only [List.length_map, List.length_take]
  rw [Nat.min_eq_left (by omega), Nat.sub_self, List.set_cons_zero, cleanK, List.take_succ_eq_append_getElem hk, hb, List.map_append, List.append_assoc]
  rfl
theorem cleanK_same {l : List UInt8} {k : Nat} {b : UInt8} (h : l[k]? = some b) (hg : cleanP b = b) : cleanK l (k + 1) = cleanK l k := by
  rw [cleanK_succ h, hg]
  have := cleanK_at h
  apply List.ext_getElem?
  intro i
  rw [List.getElem?_set]
  split
  · rename_i he
    subst he
    have hl := (List.getElem?_eq_some_iff.1 this).1
    rw [if_pos hl, this]
  · rfl

def keepB (x : ByteArray) : Bool := !x.toList.isEmpty && !(x.toList == [46])
def fsOf (s : ByteArray) : List ByteArray := (piecesL (s.data.toList.map cleanP)).filter keepB
def cleanOf (s : ByteArray) : Option ByteArray := if linkB (joinB (fsOf s)) then some (joinB (fsOf s)) else none

def tot (xs : List (List UInt8)) : Nat := (xs.map fun x => x.length + 1).sum
theorem tot_splitOn (c : UInt8) : ∀ l : List UInt8, tot (splitOn c l) = l.length + 1
  | [] => rfl
  | b :: l => by
    have ih := tot_splitOn c l
    unfold splitOn
    split
    · simp [tot] at ih ⊢; omega
    · cases hs : splitOn c l with
      | nil => exact absurd hs (splitOn_ne c l)
      | cons y r => rw [hs] at ih; simp [tot] at ih ⊢; omega
theorem tot_filter (p : List UInt8 → Bool) : ∀ xs : List (List UInt8), tot (xs.filter p) ≤ tot xs
  | [] => Nat.le_refl _
  | x :: xs => by
    have ih := tot_filter p xs
    rw [List.filter_cons]
    split <;> (simp [tot] at ih ⊢; omega)
theorem join_length (c : UInt8) : ∀ xs : List (List UInt8), xs ≠ [] → (Lib.join xs [c]).length + 1 = tot xs
  | [], h => absurd rfl h
  | x :: r, _ => by
    rw [Lib.join_cons]
    have : ∀ r : List (List UInt8), (Lib.joinTail [c] r).length = tot r := by
      intro r
      induction r with
      | nil => rfl
      | cons y r ih =>
        have e : Lib.joinTail [c] (y :: r) = (c :: y) ++ Lib.joinTail [c] r := by simp [Lib.joinTail]
        rw [e, List.length_append, ih]; simp [tot]
    rw [List.length_append, this]; simp [tot]; omega
theorem joinB_filter_size (l : List UInt8) (p : ByteArray → Bool) : (joinB ((piecesL l).filter p)).size ≤ l.length := by
  unfold joinB
  rw [toB_size]
  have e : ((piecesL l).filter p).map (·.data.toList) = (splitOn 47 l).filter (fun x => p (toB x)) := by
    unfold piecesL
    generalize splitOn 47 l = ys
    induction ys with
    | nil => rfl
    | cons y ys ih =>
      simp only [List.map_cons, List.filter_cons]
      split
      · rw [List.map_cons, ih]; rfl
      · exact ih
  rw [e]
  by_cases hn : (splitOn 47 l).filter (fun x => p (toB x)) = []
  · rw [hn]; simp [Lib.join_nil]
  · have h1 := join_length 47 _ hn
    have h2 := tot_filter (fun x => p (toB x)) (splitOn 47 l)
    have h3 := tot_splitOn 47 l
    omega
theorem fsOf_join_size (s : ByteArray) : (joinB (fsOf s)).size ≤ s.size := by
  have := joinB_filter_size (s.data.toList.map cleanP) keepB
  rw [List.length_map, ba_size] at this
  exact this
theorem fsOf_sizes {s x : ByteArray} (h : x ∈ fsOf s) : x.size ≤ s.size := by
  have := pieces_sizes (List.mem_filter.1 h).1
  rwa [List.length_map, ba_size] at this
theorem fsOf_length (s : ByteArray) : (fsOf s).length ≤ s.size + 1 := by
  have h1 := List.length_filter_le keepB (piecesL (s.data.toList.map cleanP))
  have h2 : (piecesL (s.data.toList.map cleanP)).length ≤ s.size + 1 := by
    unfold piecesL
    rw [List.length_map]
    have := splitOn_count 47 (s.data.toList.map cleanP)
    rwa [List.length_map, ba_size] at this
  exact Nat.le_trans h1 h2
end Go.Cold
