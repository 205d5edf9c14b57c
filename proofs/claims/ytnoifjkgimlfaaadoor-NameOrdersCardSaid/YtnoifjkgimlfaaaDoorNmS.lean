/-
  The plain side of layer 1, on: what a text becomes as the name of a link, said in both ways. No program is named here.
-/
import Derived.Test.YtnoifjkgimlfaaaDoorLJoins
namespace Go.Cold
open Go Go.RowKit

theorem join_splitOn (c : UInt8) : ∀ l : List UInt8, Lib.join (splitOn c l) [c] = l
  | [] => by rw [splitOn, Lib.join_cons]; simp [Lib.joinTail]
  | b :: l => by
    have ih := join_splitOn c l
    unfold splitOn
    cases hs : splitOn c l with
    | nil => exact absurd hs (splitOn_ne c l)
    | cons y r =>
      rw [hs] at ih
      rw [Lib.join_cons] at ih
      split
      · rename_i hb
        have e : Lib.joinTail [c] (y :: r) = c :: (y ++ Lib.joinTail [c] r) := by simp [Lib.joinTail]
        rw [Lib.join_cons, e, ih, hb]; rfl
      · rw [Lib.join_cons, List.cons_append, ih]
theorem joinB_pieces (l : List UInt8) : joinB (piecesL l) = toB l := by
  unfold joinB piecesL
  rw [List.map_map]
  have : (splitOn 47 l).map ((fun x : ByteArray => x.data.toList) ∘ toB) = splitOn 47 l := by
    conv => rhs; rw [← List.map_id (splitOn 47 l)]
    apply List.map_congr_left
    intro y _; rfl
  rw [this, join_splitOn]
theorem splitOn_all (c : UInt8) (p : UInt8 → Bool) : ∀ l : List UInt8, l.all (fun b => p b || b == c) = true → ∀ x ∈ splitOn c l, x.all (fun b => p b && !(b == c)) = true
  | [], _, x, hx => by simp [splitOn] at hx; subst hx; rfl
  | b :: l, h, x, hx => by
    rw [List.all_cons, Bool.and_eq_true] at h
    have ih := splitOn_all c p l h.2
    unfold splitOn at hx
    split at hx
    · simp only [List.mem_cons] at hx
      rcases hx with rfl | hx
      · rfl
      · exact ih x hx
    · rename_i hb
      cases hs : splitOn c l with
      | nil => exact absurd hs (splitOn_ne c l)
      | cons y r =>
        rw [hs] at hx ih
        simp only [List.mem_cons] at hx
        rcases hx with rfl | hx
        · rw [List.all_cons, ih y (by simp), Bool.and_true]
          have h1 := h.1
          simp [hb] at h1 ⊢
          exact h1
        · exact ih x (by simp [hx])
theorem splitOn_all_back (c : UInt8) (p : UInt8 → Bool) : ∀ l : List UInt8, (∀ x ∈ splitOn c l, x.all p = true) → l.all (fun b => p b || b == c) = true
  | [], _ => rfl
  | b :: l, h => by
    unfold splitOn at h
    split at h
    · rename_i hb
      rw [List.all_cons, splitOn_all_back c p l (fun x hx => h x (by simp [hx]))]
      simp [hb]
    · rename_i hb
      cases hs : splitOn c l with
      | nil => exact absurd hs (splitOn_ne c l)
      | cons y r =>
        rw [hs] at h
        have h1 := h (b :: y) (by simp)
        rw [List.all_cons, Bool.and_eq_true] at h1
        have h2 := splitOn_all_back c p l (fun x hx => by
          rw [hs] at hx
          simp only [List.mem_cons] at hx
          rcases hx with rfl | hx
          · exact h1.2
          · exact h x (by simp [hx]))
        rw [List.all_cons, h2, h1.1]; rfl
theorem cleanP_in (b : UInt8) : (partL ++ [47]).contains (cleanP b) = true := by
  cases h : (partL ++ [47]).contains b with
  | true => rw [cleanP_good h, h]
  | false => rw [cleanP_bad h]; decide
theorem part_slash (b : UInt8) : (partL ++ [47]).contains b = (partL.contains b || b == 47) := by
  rw [Bool.eq_iff_iff]
  simp [List.contains_iff_mem]
theorem map_cleanP {l : List UInt8} (h : l.all (fun b => partL.contains b || b == 47) = true) : l.map cleanP = l := by
  conv => rhs; rw [← List.map_id l]
  apply List.map_congr_left
  intro b hb
  exact cleanP_good (by rw [part_slash]; exact List.all_eq_true.1 h b hb)
theorem cleaned_pieces (l : List UInt8) : ∀ x ∈ splitOn 47 (l.map cleanP), x.all (fun b => partL.contains b && !(b == 47)) = true :=
  splitOn_all 47 partL.contains _ (by
    rw [List.all_eq_true]
    intro b hb
    rw [List.mem_map] at hb
    obtain ⟨a, _, rfl⟩ := hb
    rw [← part_slash]; exact cleanP_in a)
theorem comp_keep {x : ByteArray} (h : compB x = true) : keepB x = true := by
  unfold compB dotsB at h
  unfold keepB
  simp only [Bool.and_eq_true] at h ⊢
  refine ⟨h.1, ?_⟩
  have := h.2.1
  simp only [Bool.not_eq_true', Bool.or_eq_false_iff] at this ⊢
  exact this.1
/-- A link name stays as it is. -/
theorem clean_link {s : ByteArray} (h : linkB s = true) : cleanOf s = some s := by
  have h' := h
  unfold linkB at h'
  rw [Bool.and_eq_true, List.all_eq_true] at h'
  have hc := h'.2
  have hm : s.data.toList.map cleanP = s.data.toList := map_cleanP (splitOn_all_back 47 partL.contains _ (fun x hx => by
    have h1 := hc (toB x) (List.mem_map.2 ⟨x, hx, rfl⟩)
    unfold compB inB at h1
    simp only [Bool.and_eq_true] at h1
    exact h1.2.2))
  have hf : fsOf s = piecesL s.data.toList := by
    unfold fsOf
    rw [hm, List.filter_eq_self]
    exact fun x hx => comp_keep (hc x hx)
  have hj : joinB (fsOf s) = s := by rw [hf, joinB_pieces, data_toB]
  rw [cleanOf, hj, if_pos h]
theorem clean_is_link {s t : ByteArray} (h : cleanOf s = some t) : linkB t = true := by
  unfold cleanOf at h
  split at h
  · rename_i hl
    obtain rfl := Option.some.inj h
    exact hl
  · cases h

def ddB (x : ByteArray) : Bool := x.toList == [46, 46]
def cleanR (s : ByteArray) : Option ByteArray :=
  if (piecesL (s.data.toList.map cleanP)).any ddB then none else
  if (joinB (fsOf s)).toList.isEmpty || decide ((256 : Int) < (joinB (fsOf s)).size) then none else some (joinB (fsOf s))
theorem link_nil : linkB (joinB []) = false := by kernel_rfl
theorem empty_nil : (joinB []).toList.isEmpty = true := by kernel_rfl
theorem cleanOf_cleanR (s : ByteArray) : cleanOf s = cleanR s := by
  have hpc : ∀ x ∈ piecesL (s.data.toList.map cleanP), x.data.toList.all (fun b => partL.contains b && !(b == 47)) = true := by
    intro x hx
    unfold piecesL at hx
    rw [List.mem_map] at hx
    obtain ⟨y, hy, rfl⟩ := hx
    exact cleaned_pieces _ y hy
  by_cases hn : fsOf s = []
  · have hl : linkB (joinB (fsOf s)) = false := by
      rw [hn]; exact link_nil
    have he : (joinB (fsOf s)).toList.isEmpty = true := by
      rw [hn]; exact empty_nil
    rw [cleanOf, hl, cleanR, he]
    simp
  · have hpj : piecesL (joinB (fsOf s)).data.toList = fsOf s := pieces_join hn (by
      rw [List.all_eq_true]
      intro x hx
      have := hpc x (List.mem_filter.1 hx).1
      rw [List.all_eq_true] at this ⊢
      intro b hb
      have := this b hb
      rw [Bool.and_eq_true] at this
      exact this.2)
    have hcomp : (fsOf s).all compB = !((piecesL (s.data.toList.map cleanP)).any ddB) := by
      rw [Bool.eq_iff_iff]
      simp only [List.all_eq_true, Bool.not_eq_true', List.any_eq_false]
      constructor
      · intro h x hx hd
        have hk : keepB x = true := by
          unfold ddB at hd
          have : x.toList = [46, 46] := by simpa using hd
          unfold keepB; rw [this]; rfl
        have h1 := h x (List.mem_filter.2 ⟨hx, hk⟩)
        unfold compB dotsB at h1
        unfold ddB at hd
        rw [hd] at h1
        simp at h1
      · intro h x hx
        have hm := List.mem_filter.1 hx
        have h1 := h x hm.1
        have h2 := hpc x hm.1
        have h3 := hm.2
        unfold keepB at h3
        rw [Bool.and_eq_true] at h3
        unfold compB dotsB inB
        rw [h3.1]
        have h4 : (x.toList == [46]) = false := by simpa using h3.2
        have h5 : (x.toList == [46, 46]) = false := by unfold ddB at h1; simpa using h1
        rw [h4, h5]
        have h6 : x.data.toList.all partL.contains = true := by
          rw [List.all_eq_true] at h2 ⊢
          intro b hb
          have := h2 b hb
          rw [Bool.and_eq_true] at this
          exact this.1
        rw [h6]; rfl
    have hne : (joinB (fsOf s)).toList.isEmpty = false := by
      cases hf : fsOf s with
      | nil => exact absurd hf hn
      | cons x r =>
        have hx : x ∈ fsOf s := by rw [hf]; simp
        have h3 := (List.mem_filter.1 hx).2
        unfold keepB at h3
        rw [Bool.and_eq_true] at h3
        have h4 : ¬ x.data.toList = [] := by
          have := h3.1
          rw [Lib.toList_data] at this
          simpa using this
        have : ¬ (joinB (x :: r)).toList = [] := by
          rw [Lib.toList_data]
          unfold joinB
          rw [toB_data, List.map_cons, Lib.join_cons]
          intro e
          exact h4 (List.append_eq_nil_iff.1 e).1
        simpa using this
    rw [cleanOf, cleanR, hne, Bool.false_or]
    unfold linkB
    rw [hpj, hcomp]
    cases (piecesL (s.data.toList.map cleanP)).any ddB with
    | true => simp
    | false =>
      simp only [Bool.not_false, Bool.and_true, Bool.false_eq_true, if_false, decide_eq_true_eq]
      by_cases h : ((joinB (fsOf s)).size : Int) ≤ 256
      · rw [if_pos h, if_neg (by omega)]
      · rw [if_neg h, if_pos (by omega)]
end Go.Cold
