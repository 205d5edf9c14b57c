/-
  The plain side of layer 1, on: the order of texts and of lists of texts. No program is named here.
-/
import Derived.Test.YtnoifjkgimlfaaaDoorNmP
namespace Go.Cold
open Go Go.RowKit

def cmpB (a b : ByteArray) : Int := Lib.compareBytes a.data.toList b.data.toList
theorem compare_less : ∀ x y : List UInt8, Lib.compareBytes x y = if Op.bytesLess x y then -1 else if x = y then 0 else 1
  | [], [] => rfl
  | [], _ :: _ => rfl
  | _ :: _, [] => rfl
  | a :: x, b :: y => by
    have ih := compare_less x y
    unfold Lib.compareBytes Op.bytesLess
    by_cases h1 : a < b
    · simp [h1]
    · by_cases h2 : b < a
      · have hne : ¬ a = b := by rintro rfl; exact UInt8.lt_irrefl _ h2
        have hbe : (a == b) = false := by simpa using hne
        simp [h1, h2, hbe, hne]
      · have he : a = b := UInt8.le_antisymm (UInt8.not_lt.1 h2) (UInt8.not_lt.1 h1)
        subst he
        simp [ih]
theorem cmpB_less {a b : ByteArray} (h : Op.bytesLess a.toList b.toList = true) : cmpB a b = -1 := by
  rw [Lib.toList_data, Lib.toList_data] at h
  rw [cmpB, compare_less, if_pos h]
theorem cmpB_eq {a b : ByteArray} (h : a = b) : cmpB a b = 0 := by
  subst h
  rw [cmpB, compare_less]
  have hl : ∀ x : List UInt8, Op.bytesLess x x = false := by
    intro x
    induction x with
    | nil => rfl
    | cons a x ih => unfold Op.bytesLess; simp [ih]
  rw [hl]; simp
theorem cmpB_more {a b : ByteArray} (h : Op.bytesLess a.toList b.toList = false) (hne : a ≠ b) : cmpB a b = 1 := by
  rw [Lib.toList_data, Lib.toList_data] at h
  rw [cmpB, compare_less, h, if_neg (by decide), if_neg (fun e => hne (ba_ext e))]
theorem cmpB_cases (a b : ByteArray) : cmpB a b = -1 ∨ cmpB a b = 0 ∨ cmpB a b = 1 := by
  rw [cmpB, compare_less]
  split
  · simp
  · split <;> simp
theorem cmpB_zero {a b : ByteArray} (h : cmpB a b = 0) : a = b := by
  by_cases he : a = b
  · exact he
  · exfalso
    cases hl : Op.bytesLess a.toList b.toList with
    | true => rw [cmpB_less hl] at h; cases h
    | false => rw [cmpB_more hl he] at h; cases h
theorem cmpB_ne {a b : ByteArray} (h : a ≠ b) : cmpB a b ≠ 0 := fun e => h (cmpB_zero e)

/-- The order of lists of texts, text by text. -/
def cmpL : List ByteArray → List ByteArray → Int
  | [], [] => 0
  | [], _ :: _ => -1
  | _ :: _, [] => 1
  | x :: xs, y :: ys => if cmpB x y = 0 then cmpL xs ys else cmpB x y
theorem cmpL_prefix : ∀ (p xs ys : List ByteArray), cmpL (p ++ xs) (p ++ ys) = cmpL xs ys
  | [], _, _ => rfl
  | z :: p, xs, ys => by
    show cmpL (z :: (p ++ xs)) (z :: (p ++ ys)) = _
    rw [cmpL, if_pos (cmpB_eq rfl)]
    exact cmpL_prefix p xs ys
theorem cmpL_from {xs ys : List ByteArray} {k : Nat} (h : xs.take k = ys.take k) : cmpL xs ys = cmpL (xs.drop k) (ys.drop k) := by
  conv => lhs; rw [← List.take_append_drop k xs, ← List.take_append_drop k ys, h]
  exact cmpL_prefix _ _ _
theorem cmpL_diff {xs ys : List ByteArray} {k : Nat} (h : xs.take k = ys.take k) (hx : k < xs.length) (hy : k < ys.length) (hne : xs[k] ≠ ys[k]) : cmpL xs ys = cmpB xs[k] ys[k] := by
  rw [cmpL_from h, List.drop_eq_getElem_cons hx, List.drop_eq_getElem_cons hy, cmpL, if_neg (cmpB_ne hne)]
theorem cmpL_less {xs ys : List ByteArray} {k : Nat} (h : xs.take k = ys.take k) (hx : xs.length ≤ k) (hl : xs.length < ys.length) : cmpL xs ys = -1 := by
  have h' : xs.take xs.length = ys.take xs.length := by
    have := congrArg (List.take xs.length) h
    rwa [List.take_take, List.take_take, Nat.min_eq_left hx] at this
  rw [cmpL_from h', List.drop_eq_nil_of_le (Nat.le_refl _), List.drop_eq_getElem_cons hl, cmpL]
theorem cmpL_more {xs ys : List ByteArray} {k : Nat} (h : xs.take k = ys.take k) (hy : ys.length ≤ k) (hl : ys.length < xs.length) : cmpL xs ys = 1 := by
  have h' : xs.take ys.length = ys.take ys.length := by
    have := congrArg (List.take ys.length) h
    rwa [List.take_take, List.take_take, Nat.min_eq_left hy] at this
  rw [cmpL_from h', List.drop_eq_nil_of_le (as := ys) (Nat.le_refl _), List.drop_eq_getElem_cons hl, cmpL]
theorem cmpL_same {xs ys : List ByteArray} (h : xs = ys) : cmpL xs ys = 0 := by
  subst h
  induction xs with
  | nil => rfl
  | cons x xs ih => rw [cmpL, if_pos (cmpB_eq rfl), ih]
theorem cmpL_zero : ∀ {xs ys : List ByteArray}, cmpL xs ys = 0 → xs = ys
  | [], [], _ => rfl
  | [], _ :: _, h => by cases h
  | _ :: _, [], h => by cases h
  | x :: xs, y :: ys, h => by
    rw [cmpL] at h
    split at h
    · rename_i h0
      rw [cmpB_zero h0, cmpL_zero h]
    · rename_i h0
      exact absurd h h0
/-- A path beneath another: its names go on where the other's end. -/
def underL (xs ys : List ByteArray) : Bool := decide (xs.length < ys.length ∧ ys.take xs.length = xs)

theorem slash_at {s : ByteArray} (h : slashB s = true) : ∃ h0 : 0 < s.size, s[0]'h0 = 47 := by
  have hc := slash_cons h
  have h0 : 0 < s.size := by rw [← ba_size, hc]; simp
  refine ⟨h0, ?_⟩
  have h1 := Lib.data_getElem? s 0 h0
  rw [hc] at h1
  simpa using h1.symm
theorem slash_of {s : ByteArray} (h0 : 0 < s.size) (h : s[0]'h0 = 47) : slashB s = true := by
  have h1 := Lib.data_getElem? s 0 h0
  rw [h] at h1
  unfold slashB Lib.hasPrefix
  cases hl : s.data.toList with
  | nil => rw [hl] at h1; cases h1
  | cons b l => rw [hl] at h1; simp at h1; subst h1; simp [List.isPrefixOf]
theorem slash_rest {s : ByteArray} (h : slashB s = true) : s.extract 1 s.size = restOf s := by
  apply ba_ext
  rw [Lib.extract_data, ← ba_size, slash_cons h, List.drop_succ_cons, List.drop_zero, List.length_cons, Nat.add_sub_cancel, List.take_length]
theorem size_pos {s : ByteArray} (h : ¬ s.toList = []) : 0 < s.size := by
  rcases Nat.eq_zero_or_pos s.size with h1 | h1
  · exfalso
    apply h
    rw [Lib.toList_data]
    exact List.eq_nil_of_length_eq_zero (by rw [ba_size]; exact h1)
  · exact h1
theorem toList_nil {s : ByteArray} (h : s.toList = []) : s.size = 0 := by
  rw [Lib.toList_data] at h
  rw [← ba_size, h]; rfl
/-- The path of names. -/
def joinB (xs : List ByteArray) : ByteArray := toB (Lib.join (xs.map (·.data.toList)) [47])
theorem slash_app (j : ByteArray) : (⟨#[47]⟩ ++ j : ByteArray) = toB (47 :: j.data.toList) := by
  apply ba_ext
  rw [toB_data, ByteArray.data_append]
  simp

def partL : List UInt8 := commonL ++ [64, 35, 61, 37]
def compB (s : ByteArray) : Bool := !s.toList.isEmpty && (!dotsB s && inB partL s)
def linkB (s : ByteArray) : Bool := decide ((s.size : Int) ≤ 256) && (piecesL s.data.toList).all compB
end Go.Cold
