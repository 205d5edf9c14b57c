/-
  The plain side of layer 7, on: what the parser reads of the text of a valid content. No program is named here.
-/
import Derived.Test.YtnlocdhhecockaaGreatDoorCpC
import Derived.Test.YtnlocdhhecockaaGreatDoorCnU
namespace Go.Cold
open Go Go.RowKit
/-- The bytes of a text from a place on. -/
def restL (s : ByteArray) (k : Nat) : List UInt8 := s.data.toList.drop k
theorem rest_ext (s : ByteArray) (k : Nat) : (s.extract k s.size).data.toList = restL s k := by
  rw [Lib.extract_data]
  unfold restL
  rw [List.take_of_length_le]
  rw [List.length_drop, ba_size]; omega
theorem rest_add {s : ByteArray} {k : Nat} {p r : List UInt8} (h : restL s k = p ++ r) : restL s (k + p.length) = r := by
  unfold restL at h ⊢
  rw [← List.drop_drop, h, List.drop_left]
theorem rest_len {s : ByteArray} {k : Nat} {p r : List UInt8} (hk : k ≤ s.size) (h : restL s k = p ++ r) : k + p.length ≤ s.size := by
  have := congrArg List.length h
  unfold restL at this
  rw [List.length_drop, List.length_append, ba_size] at this
  omega
theorem index_none (cs : List UInt8) : ∀ p : List UInt8, (∀ b ∈ p, cs.contains b = false) → Lib.indexAny p cs = -1
  | [], _ => rfl
  | b :: p, h => by
    rw [Lib.indexAny, if_neg (by rw [h b List.mem_cons_self]; simp), index_none cs p (fun x hx => h x (List.mem_cons_of_mem _ hx))]
    rfl
theorem index_at (cs : List UInt8) (b : UInt8) (r : List UInt8) (hb : cs.contains b = true) : ∀ p : List UInt8, (∀ b ∈ p, cs.contains b = false) → Lib.indexAny (p ++ b :: r) cs = p.length
  | [], _ => by rw [List.nil_append, Lib.indexAny, if_pos hb]; rfl
  | x :: p, h => by
    have ih := index_at cs b r hb p (fun x hx => h x (List.mem_cons_of_mem _ hx))
    rw [List.cons_append, Lib.indexAny, if_neg (by rw [h x List.mem_cons_self]; simp), ih, if_neg (by simp <;> omega)]
    rw [List.length_cons]; omega
/-- What ends a piece. -/
def EndsIn (ends : ByteArray) (r : List UInt8) : Prop := r = [] ∨ ∃ b r', r = b :: r' ∧ ends.data.toList.contains b = true
theorem until_at {s ends : ByteArray} {k : Nat} {p r : List UInt8} (h : restL s k = p ++ r) (hp : ∀ b ∈ p, ends.data.toList.contains b = false) (hr : EndsIn ends r) : untilN (s.extract k s.size) ends = p.length := by
  unfold untilN
  rw [rest_ext, h]
  rcases hr with rfl | ⟨b, r', rfl, hb⟩
  · rw [List.append_nil, index_none _ _ hp, if_pos (by decide), ← ba_size, rest_ext, h, List.append_nil]
  · rw [index_at _ _ _ hb _ hp, if_neg (by omega), Int.toNat_natCast]
theorem piece_at {s ends : ByteArray} {k : Nat} {p r : List UInt8} (h : restL s k = p ++ r) (hp : ∀ b ∈ p, ends.data.toList.contains b = false) (hr : EndsIn ends r) :
    pieceP s ends k = ⟨p.toArray⟩ ∧ afterP s ends k = k + p.length := by
  have hu := until_at h hp hr
  refine ⟨?_, by unfold afterP; rw [hu]⟩
  unfold pieceP
  rw [hu]
  apply ba_ext
  rw [Lib.extract_data, rest_ext, h]
  simp
theorem want_at {s t : ByteArray} {k : Nat} {r : List UInt8} (h : restL s k = t.data.toList ++ r) : wantP s t k = some (k + t.size) := by
  unfold wantP skipB Lib.hasPrefix
  rw [rest_ext, h, if_pos (by rw [List.isPrefixOf_iff_prefix]; exact List.prefix_append _ _)]
theorem skip_at {s t : ByteArray} {k : Nat} {r : List UInt8} (h : restL s k = t.data.toList ++ r) : skipB s k t = true := by
  unfold skipB Lib.hasPrefix
  rw [rest_ext, h, List.isPrefixOf_iff_prefix]; exact List.prefix_append _ _
theorem skip_no {s : ByteArray} {k : Nat} {b c : UInt8} {r : List UInt8} (h : restL s k = b :: r) (hne : c ≠ b) : skipB s k ⟨#[c]⟩ = false := by
  unfold skipB Lib.hasPrefix
  rw [rest_ext, h]
  simp [List.isPrefixOf, hne]
theorem numP_T : ∀ n : Fin 17, numP (numT n.val) = some (n.val : Int) := by decide +kernel
theorem numT_no : ∀ n : Fin 17, ∀ b ∈ (numT n.val).data.toList, slashE.data.toList.contains b = false := by decide +kernel
theorem num_at {s : ByteArray} {k n : Nat} {r : List UInt8} (hn : n ≤ 16) (h : restL s k = (numT n).data.toList ++ r) (hr : EndsIn slashE r) : numAt s k = some ((n : Int), k + (numT n).size) := by
  obtain ⟨h1, h2⟩ := piece_at h (numT_no ⟨n, by omega⟩) hr
  have hd : numAt s k = (numP (pieceP s slashE k)).map fun n => (n, afterP s slashE k) := rfl
  rw [hd, h1, h2]
  have : (⟨(numT n).data.toList.toArray⟩ : ByteArray) = numT n := by apply ba_ext; simp
  rw [this, numP_T ⟨n, by omega⟩, ba_size]
  rfl
theorem app_list (a b : ByteArray) : (a ++ b).data.toList = a.data.toList ++ b.data.toList := by simp
end Go.Cold
