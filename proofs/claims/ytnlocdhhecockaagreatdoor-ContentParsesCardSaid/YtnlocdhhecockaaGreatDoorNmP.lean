/-
  The plain side of layer 1: lists of bytes, names, paths. No program is named here.
-/
import Derived.Test.YtnlocdhhecockaaGreatDoorBase
import Derived.Lib.SlTrimSet
import Derived.Lib.Split
import Derived.Lib.Join
import Derived.Lib.SplitLaws
import Derived.Lib.IndexAny
import Derived.WideShapes
namespace Go.Cold
open Go Go.RowKit

def upperL : List UInt8 := [65, 66, 67, 68, 69, 70, 71, 72, 73, 74, 75, 76, 77, 78, 79, 80, 81, 82, 83, 84, 85, 86, 87, 88, 89, 90]
def lowerL : List UInt8 := [97, 98, 99, 100, 101, 102, 103, 104, 105, 106, 107, 108, 109, 110, 111, 112, 113, 114, 115, 116, 117, 118, 119, 120, 121, 122]
def digitL : List UInt8 := [48, 49, 50, 51, 52, 53, 54, 55, 56, 57]
def commonL : List UInt8 := upperL ++ lowerL ++ digitL ++ [95, 46, 58, 43, 45]
/-- All bytes of a text are in a list. -/
def inB (S : List UInt8) (s : ByteArray) : Bool := s.data.toList.all S.contains
def dotsB (s : ByteArray) : Bool := s.toList == [46] || s.toList == [46, 46]
def printP (b : UInt8) : Bool := decide (32 ≤ b.toNat) && decide (b.toNat ≤ 126)
def printB (s : ByteArray) : Bool := s.data.toList.all printP
def textB (s : ByteArray) : Bool := printB s && decide (s.size ≤ 256)
theorem textB_no {s : ByteArray} (h : printB s = false) : false = textB s := by rw [textB, h]; rfl
theorem textB_yes {s : ByteArray} (h : printB s = true) : decide ((s.size : Int) ≤ 256) = textB s := by
  rw [textB, h, Bool.true_and]; exact decide_eq_decide.2 (by omega)

theorem digit_iff (x : UInt8) : digitL.contains x = (decide (48 ≤ x.toNat) && decide (x.toNat ≤ 57)) := by
  rw [Bool.eq_iff_iff]
  simp only [digitL, List.contains_iff_mem, List.mem_cons, List.not_mem_nil, or_false, ← UInt8.toNat_inj, Bool.and_eq_true, decide_eq_true_eq]
  simp
  omega

def numB (s : ByteArray) : ByteArray := s.extract (Lib.trimRightS s.data.toList digitL).length s.size
theorem trimRightS_le (l cs : List UInt8) : (Lib.trimRightS l cs).length ≤ l.length := by
  unfold Lib.trimRightS
  rw [List.length_reverse]
  have := (List.dropWhile_suffix (l := l.reverse) (cs.contains ·)).length_le
  simpa using this
theorem trimRightS_len (l cs : List UInt8) (k : Nat) (hk : k ≤ l.length) (h1 : (l.drop k).all cs.contains = true) (h2 : ∀ j x, k = j + 1 → l[j]? = some x → cs.contains x = false) :
    (Lib.trimRightS l cs).length = k := by
  unfold Lib.trimRightS
  rw [List.length_reverse]
  have e : l.reverse = (l.drop k).reverse ++ (l.take k).reverse := by
    rw [← List.reverse_append, List.take_append_drop]
  have hd : ∀ r : List UInt8, r.all cs.contains = true → r.dropWhile (cs.contains ·) = [] := by
    intro r
    induction r with
    | nil => intro _; rfl
    | cons y r ih =>
      intro h
      rw [List.all_cons, Bool.and_eq_true] at h
      rw [List.dropWhile_cons_of_pos h.1]
      exact ih h.2
  have hd := hd (l.drop k).reverse (by rw [List.all_reverse]; exact h1)
  rw [e, List.dropWhile_append, hd]
  simp only [List.isEmpty_nil, if_true]
  cases k with
  | zero => simp
  | succ j =>
    have hj : j < l.length := by omega
    rw [List.take_succ_eq_append_getElem hj, List.reverse_append]
    simp only [List.reverse_cons, List.reverse_nil, List.nil_append, List.cons_append]
    rw [List.dropWhile_cons_of_neg (by rw [h2 j _ rfl (List.getElem?_eq_getElem hj)]; decide)]
    simp; omega
theorem numB_stop {s : ByteArray} {j : Nat} {x : UInt8} (hj : j < s.size) (h1 : (s.data.toList.drop (j + 1)).all digitL.contains = true) (hx : s.data.toList[j]? = some x) (hd : ¬ (48 ≤ x.toNat ∧ x.toNat ≤ 57)) : s.extract (j + 1) s.size = numB s := by
  unfold numB
  rw [trimRightS_len s.data.toList digitL (j + 1) (by rw [ba_size]; omega) h1 (fun i y hi hy => by
    obtain rfl : j = i := by omega
    rw [hx] at hy
    obtain rfl := Option.some.inj hy
    rw [digit_iff]; simp; omega)]
theorem ba_ext {a b : ByteArray} (h : a.data.toList = b.data.toList) : a = b := WideShapes.bytes_inj h
theorem numB_all {s : ByteArray} (h1 : (s.data.toList.drop 0).all digitL.contains = true) : s = numB s := by
  unfold numB
  rw [trimRightS_len s.data.toList digitL 0 (by omega) h1 (fun i y hi hy => by omega)]
  apply ba_ext
  rw [Lib.extract_data, List.drop_zero, List.take_of_length_le (by rw [ba_size]; omega)]

def nameL : List UInt8 := commonL ++ [33]
def validB (s : ByteArray) : Bool := !s.toList.isEmpty && (decide ((s.size : Int) ≤ 32) && (!dotsB s && inB nameL s))
def keyL : List UInt8 := upperL ++ digitL ++ [95]
def keyB (s : ByteArray) : Bool := !s.toList.isEmpty && (decide ((s.size : Int) ≤ 32) && (inB upperL (s.extract 0 1) && inB keyL s))
def ifaceB (s : ByteArray) : Bool := validB s && (decide ((s.size : Int) ≤ 15) && (!s.data.toList.contains 58 && !s.data.toList.contains 33))
def belowB (a b : ByteArray) : Bool := (a.data.toList ++ [47]).isPrefixOf b.data.toList

theorem indexAny_iff (chars : List UInt8) : ∀ l : List UInt8, 0 ≤ Lib.indexAny l chars ↔ l.any chars.contains = true
  | [] => by simp [Lib.indexAny]
  | b :: l => by
    have ih := indexAny_iff chars l
    have hge := Lib.indexAny_ge chars l
    have e : Lib.indexAny (b :: l) chars = if chars.contains b then 0 else if Lib.indexAny l chars == -1 then -1 else Lib.indexAny l chars + 1 := rfl
    rw [List.any_cons, Bool.or_eq_true, ← ih, e]
    clear e
    by_cases hb : chars.contains b = true
    · rw [if_pos hb]; exact ⟨fun _ => .inl hb, fun _ => by omega⟩
    · rw [if_neg hb]
      by_cases hn : Lib.indexAny l chars = -1
      · rw [hn]; simpa using hb
      · rw [if_neg (by simpa using hn)]
        constructor
        · intro _; right; omega
        · intro _; omega
theorem indexAny_any (chars l : List UInt8) : decide (0 ≤ Lib.indexAny l chars) = l.any chars.contains := by
  rw [Bool.eq_iff_iff, decide_eq_true_eq]; exact indexAny_iff chars l
theorem name_ascii {s : ByteArray} (h : validB s = true) (j : Nat) (b : UInt8) (hj : s.data.toList[j]? = some b) : b.toNat < 128 := by
  unfold validB at h
  simp only [Bool.and_eq_true] at h
  have h1 := getElem_all h.2.2.2 hj
  exact of_decide_eq_true (List.all_eq_true.1 (by decide : nameL.all (fun b => decide (b.toNat < 128)) = true) b (List.contains_iff_mem.1 h1))
theorem iface_any (l : List UInt8) : (!l.any [58, 33].contains) = (!l.contains 58 && !l.contains 33) := by
  induction l with
  | nil => rfl
  | cons b l ih =>
    simp only [List.any_cons, List.contains_cons, Bool.not_or, ih]
    simp only [List.contains_nil, Bool.or_false, Bool.not_or]
    have e1 : (b == 58) = ((58 : UInt8) == b) := by rw [Bool.eq_iff_iff, beq_iff_eq, beq_iff_eq]; exact ⟨Eq.symm, Eq.symm⟩
    have e2 : (b == 33) = ((33 : UInt8) == b) := by rw [Bool.eq_iff_iff, beq_iff_eq, beq_iff_eq]; exact ⟨Eq.symm, Eq.symm⟩
    rw [e1, e2]
    cases ((58 : UInt8) == b) <;> cases ((33 : UInt8) == b) <;> simp

/-! ### Splitting at a byte -/
def splitOn (c : UInt8) : List UInt8 → List (List UInt8)
  | [] => [[]]
  | b :: l => if b = c then [] :: splitOn c l else match splitOn c l with
    | [] => [[b]]
    | x :: r => (b :: x) :: r
theorem splitOn_ne (c : UInt8) (l : List UInt8) : splitOn c l ≠ [] := by
  cases l with
  | nil => simp [splitOn]
  | cons b l =>
    unfold splitOn
    split
    · simp
    · split <;> simp
theorem split_eq (c : UInt8) : ∀ l : List UInt8, Lib.split l [c] = splitOn c l
  | [] => by
    have h0 : Lib.count [] [c] = 0 := Lib.count_miss (by rw [Lib.index_one]; rfl)
    show Lib.splitK [c] 0 (Lib.count [] [c]) [] = _
    rw [h0]; rfl
  | b :: l => by
    have ih := split_eq c l
    unfold Lib.split at ih ⊢
    by_cases hb : b = c
    · subst hb
      have hi : Lib.index (b :: l) [b] = 0 := by rw [Lib.index_one]; simp [Lib.indexByte]
      rw [Lib.count_cons_eq, Nat.add_comm]
      unfold Lib.splitK
      rw [if_neg (by rw [hi]; decide), hi, splitOn, if_pos rfl, ← ih]
      rfl
    · rw [Lib.count_cons_ne b c l hb, splitOn, if_neg hb, ← ih]
      have hi : Lib.index (b :: l) [c] = if Lib.index l [c] == -1 then -1 else Lib.index l [c] + 1 := by
        rw [Lib.index_one, Lib.index_one]
        have : (b == c) = false := by simpa using hb
        simp [Lib.indexByte, this]
      cases hk : Lib.count l [c] with
      | zero => rfl
      | succ k =>
        have hge := Lib.index_ge l [c]
        have hne : Lib.index l [c] ≠ -1 := fun e => by rw [Lib.count_miss e] at hk; omega
        obtain ⟨i, hii⟩ := Int.eq_ofNat_of_zero_le (show 0 ≤ Lib.index l [c] by omega)
        have hm : (Lib.index l [c] == -1) = false := by simpa using hne
        rw [hm] at hi
        simp only [Bool.false_eq_true, if_false] at hi
        unfold Lib.splitK
        rw [if_neg (by rw [hi]; simp; omega), if_neg (by rw [hm]; decide), hi, hii]
        have e1 : ((i : Int) + 1).toNat = i + 1 := by omega
        simp only [e1, Int.toNat_natCast, Nat.add_zero, List.take_succ_cons, List.length_cons, List.length_nil, Nat.zero_add, List.drop_succ_cons]

def toB (l : List UInt8) : ByteArray := ⟨l.toArray⟩
theorem toB_data (l : List UInt8) : (toB l).data.toList = l := rfl
theorem toB_size (l : List UInt8) : (toB l).size = l.length := rfl
theorem data_toB (s : ByteArray) : toB s.data.toList = s := Lib.mk_data s
/-- The pieces of a text between the slashes. -/
def piecesL (l : List UInt8) : List ByteArray := (splitOn 47 l).map toB
theorem splitB_eq (s sep : ByteArray) (h : sep.data.toList = [47]) : Lib.splitB sep 0 (Lib.countB s sep) s = piecesL s.data.toList := by
  have h1 := Lib.splitB_data sep 0 (Lib.countB s sep) s
  rw [h] at h1
  unfold piecesL
  rw [← split_eq, Lib.split]
  have h2 : Lib.countB s sep = Lib.count s.data.toList [47] := by unfold Lib.countB; rw [h]
  rw [h2] at h1 ⊢
  rw [← h1, List.map_map]
  conv => lhs; rw [← List.map_id (Lib.splitB sep 0 (Lib.count s.data.toList [47]) s)]
  apply List.map_congr_left
  intro x _
  exact (data_toB x).symm
theorem pieces_length (s sep : ByteArray) (h : sep.data.toList = [47]) : Lib.countB s sep + 1 = (piecesL s.data.toList).length := by
  rw [← splitB_eq s sep h, Lib.splitB_all sep (by rw [Lib.size_eq, h]; decide) 0 _ s rfl]
theorem splitOn_sizes (c : UInt8) : ∀ (l : List UInt8) (x : List UInt8), x ∈ splitOn c l → x.length ≤ l.length
  | [], x, h => by simp [splitOn] at h; subst h; simp
  | b :: l, x, h => by
    have ih := splitOn_sizes c l
    unfold splitOn at h
    split at h
    · simp only [List.mem_cons] at h
      rcases h with rfl | h
      · simp
      · have := ih x h; simp; omega
    · cases hs : splitOn c l with
      | nil => exact absurd hs (splitOn_ne c l)
      | cons y r =>
        rw [hs] at h ih
        simp only [List.mem_cons] at h
        rcases h with rfl | h
        · have := ih y (by simp); simp; omega
        · have := ih x (by simp [h]); simp; omega
theorem pieces_sizes {l : List UInt8} {x : ByteArray} (h : x ∈ piecesL l) : x.size ≤ l.length := by
  unfold piecesL at h
  rw [List.mem_map] at h
  obtain ⟨y, hy, rfl⟩ := h
  rw [toB_size]
  exact splitOn_sizes 47 l y hy
theorem splitOn_count (c : UInt8) : ∀ l : List UInt8, (splitOn c l).length ≤ l.length + 1
  | [] => by simp [splitOn]
  | b :: l => by
    have ih := splitOn_count c l
    unfold splitOn
    split
    · simp; omega
    · cases hs : splitOn c l with
      | nil => exact absurd hs (splitOn_ne c l)
      | cons y r => rw [hs] at ih; simp at ih ⊢; omega
/-- A text without a slash at its beginning, and whether there is one. -/
def restOf (s : ByteArray) : ByteArray := toB (Lib.trimPrefix s.data.toList [47])
def slashB (s : ByteArray) : Bool := Lib.hasPrefix s.data.toList [47]
theorem restOf_size (s : ByteArray) : (restOf s).size ≤ s.size := by
  unfold restOf
  rw [toB_size, ← ba_size]
  exact Lib.trimPrefix_le _ _
theorem slash_cons {s : ByteArray} (h : slashB s = true) : s.data.toList = 47 :: (restOf s).data.toList := by
  unfold slashB at h
  unfold restOf
  rw [toB_data, Lib.trimPrefix, if_pos h]
  unfold Lib.hasPrefix at h
  cases hl : s.data.toList with
  | nil => rw [hl] at h; cases h
  | cons b l =>
    rw [hl] at h
    simp [List.isPrefixOf] at h
    subst h
    rfl
/-- The names of a path, or none. -/
def pathOf (s : ByteArray) : Option (List ByteArray) :=
  if slashB s && (piecesL (restOf s).data.toList).all validB then some (piecesL (restOf s).data.toList) else none
theorem pathOf_no {s : ByteArray} (h : slashB s = false) : pathOf s = none := by rw [pathOf, h]; rfl
theorem pathOf_bad {s : ByteArray} (h : (piecesL (restOf s).data.toList).all validB = false) : pathOf s = none := by rw [pathOf, h, Bool.and_false]; rfl
theorem pathOf_yes {s : ByteArray} (h : slashB s = true) (h' : (piecesL (restOf s).data.toList).all validB = true) : pathOf s = some (piecesL (restOf s).data.toList) := by rw [pathOf, h, h']; rfl
theorem pathOf_some {s : ByteArray} {xs : List ByteArray} (h : pathOf s = some xs) : slashB s = true ∧ xs = piecesL (restOf s).data.toList ∧ xs.all validB = true := by
  unfold pathOf at h
  split at h
  · rename_i hc
    simp only [Bool.and_eq_true] at hc
    obtain rfl := Option.some.inj h
    exact ⟨hc.1, rfl, hc.2⟩
  · cases h
end Go.Cold
