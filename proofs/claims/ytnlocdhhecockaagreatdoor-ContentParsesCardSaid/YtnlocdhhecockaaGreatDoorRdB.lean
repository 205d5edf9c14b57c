/-
  The plain side of layer 7, on: the reference's reader reads the text of a valid content as this content, and the reference's parser answers as the program's. No program is named here.
-/
import Derived.Test.YtnlocdhhecockaaGreatDoorRdA
import Derived.Test.YtnlocdhhecockaaGreatDoorCrC
set_option linter.unusedSimpArgs false
set_option linter.unusedVariables false
namespace Go.Cold
open Go Go.RowKit Go.Proofs.YtnlocdhhecockaaGreatDoor
theorem headE_cons {b : UInt8} {l : List UInt8} (h : b ≠ 44) (h2 : b ≠ 41) : headE (b :: l).head? = false := by
  unfold headE; simp [h, h2]
set_option maxHeartbeats 4000000 in
theorem read_text (N : Nat) : ∀ c : Cont, szC c < N → AllOk c → ∀ (d : Nat) (s : ByteArray) (r : List UInt8), depthC c ≤ d → s.data.toList = (textC c).data.toList ++ r → EndR r → readR d s = some (c, ⟨r.toArray⟩) := by
  induction N with
  | zero => intro c h; omega
  | succ N ih =>
    intro c hsz hall d s r hd h hr
    obtain ⟨kk, i, l, sl, t, e, xs⟩ := c
    obtain ⟨hown, hin⟩ := AllOk_mk.1 hall
    obtain ⟨hkind, -, -, hs0, ht0, he0⟩ := own_nums hown
    obtain ⟨sl, rfl⟩ := Int.eq_ofNat_of_zero_le hs0.1
    obtain ⟨t, rfl⟩ := Int.eq_ofNat_of_zero_le ht0.1
    obtain ⟨e, rfl⟩ := Int.eq_ofNat_of_zero_le he0.1
    have hsl : sl ≤ 16 := by omega
    have htl : t ≤ 16 := by omega
    have hel : e ≤ 16 := by omega
    have hdn := depthL_nonneg xs
    have hix : kk ≠ 0 → ∀ d' : Nat, d = d' + 1 → ∀ x ∈ xs, ∀ (s : ByteArray) (r : List UInt8), s.data.toList = (textC x).data.toList ++ r → EndR r → readR d' s = some (x, ⟨r.toArray⟩) := by
      intro hk d' hd' x hx s r
      refine ih x (by have := szC_mem (k := kk) (i := i) (l := l) (s := (sl : Int)) (t := (t : Int)) (e := (e : Int)) hx; omega) (hin x hx) d' s r ?_
      rw [depthC, if_neg hk] at hd
      have := depthL_mem hx
      omega
    rcases hkind with rfl | rfl | rfl | rfl | rfl | rfl
    · have h1 : textC (.mk 0 i l sl t e xs) = ⟨#[]⟩ := by rw [textC]; simp
      rw [h1] at h
      have h2 : s.data.toList = r := h
      have h3 := of_list h2
      unfold ownB noneB at hown
      simp [empty_iff] at hown
      obtain ⟨q1, q2, ⟨q3, q4, q5⟩, q6⟩ := hown
      subst q1 q2 q3 q4 q5 q6
      rw [empty_lit]
      cases d with
      | zero => rw [readR, h2, if_pos hr.head, h3]; rfl
      | succ d => rw [readR, h2, if_pos hr.head, h3]; rfl
    · skip
      rw [depthC, if_neg (by decide)] at hd
      obtain ⟨d, rfl⟩ : ∃ g, d = g + 1 := ⟨d - 1, by omega⟩
      have hix := hix (by decide) d rfl
      unfold ownB noneB slots2 withinB at hown
      simp [empty_iff] at hown
      obtain ⟨qi, ql, ⟨q3, q4, q5⟩, q6⟩ := hown
      subst q3 q4 q5 q6
      have h0 : s.data.toList = ([102, 115] ++ 58 :: (i.data.toList ++ 58 :: l.data.toList)) ++ r := by rw [h, textC]; simp
      have hli := id_br qi
      have hll : ∀ b ∈ l.data.toList, brE.data.toList.contains b = false ∧ b ≠ 58 := by
        rcases ql with q2 | q2
        · rw [q2]; intro b hb; cases hb
        · exact id_br q2
      have hb : ∀ b ∈ ([102, 115] ++ 58 :: (i.data.toList ++ 58 :: l.data.toList)), brE.data.toList.contains b = false := by
        intro b hb
        simp only [List.mem_append, List.mem_cons, List.not_mem_nil, or_false] at hb
        rcases hb with (rfl | rfl) | rfl | hb | rfl | hb
        all_goals first | decide | exact (hli _ hb).1 | exact (hll _ hb).1
      have hu := until_all h0 hb hr.br
      have hh := head_list h0
      have hk := back_list h0
      have hp : partsB 58 ⟨([102, 115] ++ 58 :: (i.data.toList ++ 58 :: l.data.toList)).toArray⟩ = [⟨([102, 115]).toArray⟩, ⟨(i.data.toList).toArray⟩, ⟨(l.data.toList).toArray⟩] := by
        rw [parts_map, split_at (by decide), split_at (fun b hb => (hli b hb).2), split_no (fun b hb => (hll b hb).2)]
        try rfl
      have hc : headP [⟨([102, 115]).toArray⟩, ⟨(i.data.toList).toArray⟩, ⟨(l.data.toList).toArray⟩] = some (.mk 1 i l 0 0 0 []) := by
        refine (headP_fs rfl).trans ?_
        try simp only [list_ba]
      have hf : headE s.data.toList.head? = false := by rw [h0]; exact headE_cons (by decide) (by decide)
      rw [readR, if_neg (by rw [hf]; simp)]
      unfold readS
      simp only [hu, hh, hk, hp, hc]
      rw [if_pos (show kindOf (Cont.mk 1 i l 0 0 0 []) = 1 from rfl)]
      simp
    · skip
      rw [depthC, if_neg (by decide)] at hd
      obtain ⟨d, rfl⟩ : ∃ g, d = g + 1 := ⟨d - 1, by omega⟩
      have hix := hix (by decide) d rfl
      unfold ownB noneB slots2 withinB at hown
      simp [empty_iff] at hown
      obtain ⟨qi, ql, -, -, qn⟩ := hown
      have hne : xs ≠ [] := by rintro rfl; simp at qn
      subst ql
      obtain ⟨J, hJ⟩ : ∃ J, commaB (textL xs) = J := ⟨_, rfl⟩
      have h0 : s.data.toList = ([114, 97, 105, 100] ++ 58 :: (i.data.toList ++ 58 :: ((numT sl).data.toList ++ 47 :: ((numT t).data.toList ++ 47 :: (numT e).data.toList)))) ++ (40 :: (J.data.toList ++ 41 :: r)) := by rw [h, textC]; simp only [hJ]; simp
      have hli := id_br qi
      have hn1 := num_br ⟨sl, by omega⟩
      have hn2 := num_br ⟨t, by omega⟩
      have hn3 := num_br ⟨e, by omega⟩
      have hb : ∀ b ∈ ([114, 97, 105, 100] ++ 58 :: (i.data.toList ++ 58 :: ((numT sl).data.toList ++ 47 :: ((numT t).data.toList ++ 47 :: (numT e).data.toList)))), brE.data.toList.contains b = false := by
        intro b hb
        simp only [List.mem_append, List.mem_cons, List.not_mem_nil, or_false] at hb
        rcases hb with (rfl | rfl | rfl | rfl) | rfl | hb | rfl | hb | rfl | hb | rfl | hb
        all_goals first | decide | exact (hli _ hb).1 | exact (hn1 _ hb).1 | exact (hn2 _ hb).1 | exact (hn3 _ hb).1
      have hu := until_all h0 hb (.inr ⟨_, _, rfl, by decide⟩)
      have hh := head_list h0
      have hk := back_list h0
      have ht58 : ∀ b ∈ ((numT sl).data.toList ++ 47 :: ((numT t).data.toList ++ 47 :: (numT e).data.toList)), b ≠ 58 := by
        intro b hb
        simp only [List.mem_append, List.mem_cons, List.not_mem_nil, or_false] at hb
        rcases hb with hb | rfl | hb | rfl | hb
        all_goals first | decide | exact (hn1 _ hb).2.1 | exact (hn2 _ hb).2.1 | exact (hn3 _ hb).2.1
      have hsl3 : partsB 47 ⟨((numT sl).data.toList ++ 47 :: ((numT t).data.toList ++ 47 :: (numT e).data.toList)).toArray⟩ = [numT sl, numT t, numT e] := by
        rw [parts_map, split_at (fun b hb => (hn1 b hb).2.2), split_at (fun b hb => (hn2 b hb).2.2), split_no (fun b hb => (hn3 b hb).2.2)]
        simp only [List.map_cons, List.map_nil, list_ba]
      have hp : partsB 58 ⟨([114, 97, 105, 100] ++ 58 :: (i.data.toList ++ 58 :: ((numT sl).data.toList ++ 47 :: ((numT t).data.toList ++ 47 :: (numT e).data.toList)))).toArray⟩ = [⟨([114, 97, 105, 100]).toArray⟩, ⟨(i.data.toList).toArray⟩, ⟨((numT sl).data.toList ++ 47 :: ((numT t).data.toList ++ 47 :: (numT e).data.toList)).toArray⟩] := by
        rw [parts_map, split_at (by decide), split_at (fun b hb => (hli b hb).2), split_no ht58]
        try rfl
      have hc : headP [⟨([114, 97, 105, 100]).toArray⟩, ⟨(i.data.toList).toArray⟩, ⟨((numT sl).data.toList ++ 47 :: ((numT t).data.toList ++ 47 :: (numT e).data.toList)).toArray⟩] = some (.mk 2 i ⟨#[]⟩ sl t e []) := by
        refine (headP_raid rfl hsl3).trans ?_
        rw [numR_T ⟨sl, by omega⟩, numR_T ⟨t, by omega⟩, numR_T ⟨e, by omega⟩]
        try simp only [list_ba]
      have hf : headE s.data.toList.head? = false := by rw [h0]; exact headE_cons (by decide) (by decide)
      rw [readR, if_neg (by rw [hf]; simp)]
      unfold readS
      simp only [hu, hh, hk, hp, hc]
      have hlo := loop_text (readR d) xs hne hix (⟨(40 :: (J.data.toList ++ 41 :: r)).toArray⟩ : ByteArray).size ⟨(40 :: (J.data.toList ++ 41 :: r)).toArray⟩ 40 r [] (by decide) (by rw [hJ]) (Nat.le_refl _)
      rw [if_neg (by simp [kindOf]), if_pos (by simp), hlo]
      simp only [List.nil_append, putIn]
      rw [show (⟨(41 :: r).toArray⟩ : ByteArray).extract 1 (⟨(41 :: r).toArray⟩ : ByteArray).size = ⟨r.toArray⟩ from of_list (tail_list _ rfl)]
      simp [empty_lit]
    · skip
      rw [depthC, if_neg (by decide)] at hd
      obtain ⟨d, rfl⟩ : ∃ g, d = g + 1 := ⟨d - 1, by omega⟩
      have hix := hix (by decide) d rfl
      unfold ownB noneB slots2 withinB at hown
      simp [empty_iff] at hown
      obtain ⟨qi, ql, ⟨q3, q4, q5⟩, qn⟩ := hown
      have hne : xs ≠ [] := by rintro rfl; simp at qn
      subst q3 q4 q5
      subst ql
      obtain ⟨J, hJ⟩ : ∃ J, commaB (textL xs) = J := ⟨_, rfl⟩
      have h0 : s.data.toList = ([99, 114, 121, 112, 116] ++ 58 :: i.data.toList) ++ (40 :: (J.data.toList ++ 41 :: r)) := by rw [h, textC]; simp only [hJ]; simp
      have hli := id_br qi
      have hb : ∀ b ∈ ([99, 114, 121, 112, 116] ++ 58 :: i.data.toList), brE.data.toList.contains b = false := by
        intro b hb
        simp only [List.mem_append, List.mem_cons, List.not_mem_nil, or_false] at hb
        rcases hb with (rfl | rfl | rfl | rfl | rfl) | rfl | hb
        all_goals first | decide | exact (hli _ hb).1 | fail
      have hu := until_all h0 hb (.inr ⟨_, _, rfl, by decide⟩)
      have hh := head_list h0
      have hk := back_list h0
      have hp : partsB 58 ⟨([99, 114, 121, 112, 116] ++ 58 :: i.data.toList).toArray⟩ = [⟨([99, 114, 121, 112, 116]).toArray⟩, ⟨(i.data.toList).toArray⟩] := by
        rw [parts_map, split_at (by decide), split_no (fun b hb => (hli b hb).2)]
        try rfl
      have hc : headP [⟨([99, 114, 121, 112, 116]).toArray⟩, ⟨(i.data.toList).toArray⟩] = some (.mk 3 i ⟨#[]⟩ 0 0 0 []) := by
        refine (headP_crypt rfl).trans ?_
        try simp only [list_ba]
      have hf : headE s.data.toList.head? = false := by rw [h0]; exact headE_cons (by decide) (by decide)
      rw [readR, if_neg (by rw [hf]; simp)]
      unfold readS
      simp only [hu, hh, hk, hp, hc]
      have hlo := loop_text (readR d) xs hne hix (⟨(40 :: (J.data.toList ++ 41 :: r)).toArray⟩ : ByteArray).size ⟨(40 :: (J.data.toList ++ 41 :: r)).toArray⟩ 40 r [] (by decide) (by rw [hJ]) (Nat.le_refl _)
      rw [if_neg (by simp [kindOf]), if_pos (by simp), hlo]
      simp only [List.nil_append, putIn]
      rw [show (⟨(41 :: r).toArray⟩ : ByteArray).extract 1 (⟨(41 :: r).toArray⟩ : ByteArray).size = ⟨r.toArray⟩ from of_list (tail_list _ rfl)]
      simp [empty_lit]
    · skip
      rw [depthC, if_neg (by decide)] at hd
      obtain ⟨d, rfl⟩ : ∃ g, d = g + 1 := ⟨d - 1, by omega⟩
      have hix := hix (by decide) d rfl
      unfold ownB noneB slots2 withinB at hown
      simp [empty_iff] at hown
      obtain ⟨qi, ql, -, q5, qn⟩ := hown
      have hne : xs ≠ [] := by rintro rfl; simp at qn
      subst q5
      subst ql
      obtain ⟨J, hJ⟩ : ∃ J, commaB (textL xs) = J := ⟨_, rfl⟩
      have h0 : s.data.toList = ([112, 118] ++ 58 :: (i.data.toList ++ 58 :: ((numT sl).data.toList ++ 47 :: (numT t).data.toList))) ++ (40 :: (J.data.toList ++ 41 :: r)) := by rw [h, textC]; simp only [hJ]; simp
      have hli := id_br qi
      have hn1 := num_br ⟨sl, by omega⟩
      have hn2 := num_br ⟨t, by omega⟩
      have hb : ∀ b ∈ ([112, 118] ++ 58 :: (i.data.toList ++ 58 :: ((numT sl).data.toList ++ 47 :: (numT t).data.toList))), brE.data.toList.contains b = false := by
        intro b hb
        simp only [List.mem_append, List.mem_cons, List.not_mem_nil, or_false] at hb
        rcases hb with (rfl | rfl) | rfl | hb | rfl | hb | rfl | hb
        all_goals first | decide | exact (hli _ hb).1 | exact (hn1 _ hb).1 | exact (hn2 _ hb).1
      have hu := until_all h0 hb (.inr ⟨_, _, rfl, by decide⟩)
      have hh := head_list h0
      have hk := back_list h0
      have ht58 : ∀ b ∈ ((numT sl).data.toList ++ 47 :: (numT t).data.toList), b ≠ 58 := by
        intro b hb
        simp only [List.mem_append, List.mem_cons, List.not_mem_nil, or_false] at hb
        rcases hb with hb | rfl | hb
        all_goals first | decide | exact (hn1 _ hb).2.1 | exact (hn2 _ hb).2.1 
      have hsl3 : partsB 47 ⟨((numT sl).data.toList ++ 47 :: (numT t).data.toList).toArray⟩ = [numT sl, numT t] := by
        rw [parts_map, split_at (fun b hb => (hn1 b hb).2.2), split_no (fun b hb => (hn2 b hb).2.2)]
        simp only [List.map_cons, List.map_nil, list_ba]
      have hp : partsB 58 ⟨([112, 118] ++ 58 :: (i.data.toList ++ 58 :: ((numT sl).data.toList ++ 47 :: (numT t).data.toList))).toArray⟩ = [⟨([112, 118]).toArray⟩, ⟨(i.data.toList).toArray⟩, ⟨((numT sl).data.toList ++ 47 :: (numT t).data.toList).toArray⟩] := by
        rw [parts_map, split_at (by decide), split_at (fun b hb => (hli b hb).2), split_no ht58]
        try rfl
      have hc : headP [⟨([112, 118]).toArray⟩, ⟨(i.data.toList).toArray⟩, ⟨((numT sl).data.toList ++ 47 :: (numT t).data.toList).toArray⟩] = some (.mk 4 i ⟨#[]⟩ sl t 0 []) := by
        refine (headP_pv rfl hsl3).trans ?_
        rw [numR_T ⟨sl, by omega⟩, numR_T ⟨t, by omega⟩]
        try simp only [list_ba]
      have hf : headE s.data.toList.head? = false := by rw [h0]; exact headE_cons (by decide) (by decide)
      rw [readR, if_neg (by rw [hf]; simp)]
      unfold readS
      simp only [hu, hh, hk, hp, hc]
      have hlo := loop_text (readR d) xs hne hix (⟨(40 :: (J.data.toList ++ 41 :: r)).toArray⟩ : ByteArray).size ⟨(40 :: (J.data.toList ++ 41 :: r)).toArray⟩ 40 r [] (by decide) (by rw [hJ]) (Nat.le_refl _)
      rw [if_neg (by simp [kindOf]), if_pos (by simp), hlo]
      simp only [List.nil_append, putIn]
      rw [show (⟨(41 :: r).toArray⟩ : ByteArray).extract 1 (⟨(41 :: r).toArray⟩ : ByteArray).size = ⟨r.toArray⟩ from of_list (tail_list _ rfl)]
      simp [empty_lit]
    · skip
      rw [depthC, if_neg (by decide)] at hd
      obtain ⟨d, rfl⟩ : ∃ g, d = g + 1 := ⟨d - 1, by omega⟩
      have hix := hix (by decide) d rfl
      unfold ownB noneB slots2 withinB at hown
      simp [empty_iff] at hown
      obtain ⟨qi, ql, ⟨q3, q4, q5⟩, qn⟩ := hown
      have hne : xs ≠ [] := by rintro rfl; simp at qn
      subst q3 q4 q5
      subst ql
      obtain ⟨J, hJ⟩ : ∃ J, commaB (textL xs) = J := ⟨_, rfl⟩
      have h0 : s.data.toList = ([116, 97, 98, 108, 101] ++ 58 :: i.data.toList) ++ (40 :: (J.data.toList ++ 41 :: r)) := by rw [h, textC]; simp only [hJ]; simp
      have hli := id_br qi
      have hb : ∀ b ∈ ([116, 97, 98, 108, 101] ++ 58 :: i.data.toList), brE.data.toList.contains b = false := by
        intro b hb
        simp only [List.mem_append, List.mem_cons, List.not_mem_nil, or_false] at hb
        rcases hb with (rfl | rfl | rfl | rfl | rfl) | rfl | hb
        all_goals first | decide | exact (hli _ hb).1 | fail
      have hu := until_all h0 hb (.inr ⟨_, _, rfl, by decide⟩)
      have hh := head_list h0
      have hk := back_list h0
      have hp : partsB 58 ⟨([116, 97, 98, 108, 101] ++ 58 :: i.data.toList).toArray⟩ = [⟨([116, 97, 98, 108, 101]).toArray⟩, ⟨(i.data.toList).toArray⟩] := by
        rw [parts_map, split_at (by decide), split_no (fun b hb => (hli b hb).2)]
        try rfl
      have hc : headP [⟨([116, 97, 98, 108, 101]).toArray⟩, ⟨(i.data.toList).toArray⟩] = some (.mk 5 i ⟨#[]⟩ 0 0 0 []) := by
        refine (headP_table rfl).trans ?_
        try simp only [list_ba]
      have hf : headE s.data.toList.head? = false := by rw [h0]; exact headE_cons (by decide) (by decide)
      rw [readR, if_neg (by rw [hf]; simp)]
      unfold readS
      simp only [hu, hh, hk, hp, hc]
      have hlo := loop_text (readR d) xs hne hix (⟨(40 :: (J.data.toList ++ 41 :: r)).toArray⟩ : ByteArray).size ⟨(40 :: (J.data.toList ++ 41 :: r)).toArray⟩ 40 r [] (by decide) (by rw [hJ]) (Nat.le_refl _)
      rw [if_neg (by simp [kindOf]), if_pos (by simp), hlo]
      simp only [List.nil_append, putIn]
      rw [show (⟨(41 :: r).toArray⟩ : ByteArray).extract 1 (⟨(41 :: r).toArray⟩ : ByteArray).size = ⟨r.toArray⟩ from of_list (tail_list _ rfl)]
      simp [empty_lit]
/-- Both parsers answer alike. -/
theorem ref_parse (s : ByteArray) : refP s = parseC s := by
  cases h : parseC s with
  | some c =>
    obtain ⟨h1, h2, h3, -⟩ := AllOk_parse h
    have h4 := text_parse h
    have h5 := read_text (szC c + 1) c (by omega) h1 6 s [] (by omega) (by rw [h4]; simp) (.inl rfl)
    unfold refP
    rw [if_neg (by omega), h5]
    simp only
    rw [if_pos ⟨rfl, bad_of h1 h2, h4⟩]
  | none =>
    unfold refP
    by_cases hs : 256 < s.size
    · rw [if_pos hs]
    · rw [if_neg hs]
      split
      · rfl
      · rename_i c r hr
        split
        · rename_i hq
          obtain ⟨-, hbad, ht⟩ := hq
          have := parse_text hbad (by rw [ht]; omega)
          rw [ht, h] at this
          cases this
        · rfl
end Go.Cold
