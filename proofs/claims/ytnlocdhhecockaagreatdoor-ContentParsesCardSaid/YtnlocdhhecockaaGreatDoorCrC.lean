/-
  The plain side of layer 7, on: the parser reads the text of a valid content as this content, at every place. No program is named here.
-/
import Derived.Test.YtnlocdhhecockaaGreatDoorCrB
set_option linter.unusedSimpArgs false
set_option linter.unusedVariables false
namespace Go.Cold
open Go Go.RowKit Go.Proofs.YtnlocdhhecockaaGreatDoor
theorem list_ba (i : ByteArray) : (⟨i.data.toList.toArray⟩ : ByteArray) = i := by apply ba_ext; simp
theorem empty_lit : ByteArray.empty = (⟨#[]⟩ : ByteArray) := by apply ba_ext; decide +kernel
def ReadsAs (s : ByteArray) (c : Cont) : Prop := ∀ (k f : Nat) (r : List UInt8), restL s k = (textC c).data.toList ++ r → EndR r → k ≤ s.size → s.size < f + k → contP s f k = some (c, k + (textC c).size)
set_option maxHeartbeats 4000000 in
theorem reads_all (s : ByteArray) (N : Nat) : ∀ c : Cont, szC c < N → AllOk c → ReadsAs s c := by
  induction N with
  | zero => intro c h; omega
  | succ N ih =>
    intro c hsz hall k f r h hr hk hf
    obtain ⟨kk, i, l, sl, t, e, xs⟩ := c
    obtain ⟨f, rfl⟩ : ∃ g, f = g + 1 := ⟨f - 1, by omega⟩
    obtain ⟨hown, hin⟩ := AllOk_mk.1 hall
    obtain ⟨hkind, -, -, hs0, ht0, he0⟩ := own_nums hown
    obtain ⟨sl, rfl⟩ := Int.eq_ofNat_of_zero_le hs0.1
    obtain ⟨t, rfl⟩ := Int.eq_ofNat_of_zero_le ht0.1
    obtain ⟨e, rfl⟩ := Int.eq_ofNat_of_zero_le he0.1
    have hix : ∀ x ∈ xs, ReadsAs s x := fun x hx => ih x (by have := szC_mem (k := kk) (i := i) (l := l) (s := sl) (t := t) (e := e) hx; omega) (hin x hx)
    have hsl : sl ≤ 16 := by omega
    have htl : t ≤ 16 := by omega
    have hel : e ≤ 16 := by omega
    clear hsz hs0 ht0 he0 ih hin hall
    rcases hkind with rfl | rfl | rfl | rfl | rfl | rfl
    · have h1 : textC (.mk 0 i l sl t e xs) = ⟨#[]⟩ := by rw [textC]; simp
      rw [h1] at h ⊢
      have h2 : restL s k = [] ++ r := h
      obtain ⟨p1, p2⟩ := piece_at h2 (fun b hb => by cases hb) hr.ends.1
      rw [contP_none p1, show (⟨#[58, 44, 41]⟩ : ByteArray) = colE from rfl, p2]
      unfold ownB noneB at hown
      simp [empty_iff] at hown
      obtain ⟨q1, q2, ⟨q3, q4, q5⟩, q6⟩ := hown
      subst q1 q2 q3 q4 q5 q6
      rw [empty_lit]
      rfl
    · skip
      unfold ownB noneB slots2 withinB at hown
      simp [empty_iff] at hown
      obtain ⟨qi, ql, ⟨q3, q4, q5⟩, q6⟩ := hown
      subst q3 q4 q5 q6
      have h0 : restL s k = ([102, 115] ++ ([58] ++ (i.data.toList ++ ([58] ++ (l.data.toList ++ r))))) := by rw [h, textC]; simp
      have hl0 : ∀ b ∈ l.data.toList, endE.data.toList.contains b = false := by
        intro b hb
        rcases ql with q2 | q2
        · rw [q2, empty_lit] at hb; simp at hb
        · exact (id_no q2 b hb).2
      have l0 : k ≤ s.size := hk
      obtain ⟨a1, b1⟩ := piece_at (ends := colE) h0 (by decide) (.inr ⟨_, _, rfl, by decide⟩)
      have b1 : afterP s colE k = (k + 2) := b1
      have r1 : restL s (k + 2) = ([58] ++ (i.data.toList ++ ([58] ++ (l.data.toList ++ r)))) := rest_add h0
      have l1 : (k + 2) ≤ s.size := rest_len l0 h0
      have w2 : wantP s ⟨#[58]⟩ (k + 2) = some ((k + 2) + 1) := want_at (t := ⟨#[58]⟩) r1
      have r2 : restL s ((k + 2) + 1) = (i.data.toList ++ ([58] ++ (l.data.toList ++ r))) := rest_add (p := [58]) r1
      have l2 : ((k + 2) + 1) ≤ s.size := rest_len (p := [58]) l1 r1
      obtain ⟨a3, b3⟩ := piece_at (ends := idE) r2 (fun b hb => (id_no qi b hb).1) (.inr ⟨_, _, rfl, by decide⟩)
      rw [list_ba] at a3
      rw [ba_size] at b3
      have r3 : restL s (((k + 2) + 1) + i.size) = ([58] ++ (l.data.toList ++ r)) := by have hq := rest_add r2; rwa [ba_size] at hq
      have l3 : (((k + 2) + 1) + i.size) ≤ s.size := by have hq := rest_len l2 r2; rwa [ba_size] at hq
      have w4 : wantP s ⟨#[58]⟩ (((k + 2) + 1) + i.size) = some ((((k + 2) + 1) + i.size) + 1) := want_at (t := ⟨#[58]⟩) r3
      have r4 : restL s ((((k + 2) + 1) + i.size) + 1) = (l.data.toList ++ r) := rest_add (p := [58]) r3
      have l4 : ((((k + 2) + 1) + i.size) + 1) ≤ s.size := rest_len (p := [58]) l3 r3
      obtain ⟨a5, b5⟩ := piece_at (ends := endE) r4 hl0 hr.ends.2
      rw [list_ba] at a5
      rw [ba_size] at b5
      have r5 : restL s (((((k + 2) + 1) + i.size) + 1) + l.size) = r := by have hq := rest_add r4; rwa [ba_size] at hq
      have l5 : (((((k + 2) + 1) + i.size) + 1) + l.size) ≤ s.size := by have hq := rest_len l4 r4; rwa [ba_size] at hq
      rw [contP_fs a1]
      simp only [show (⟨#[58, 44, 41]⟩ : ByteArray) = colE from rfl, show (⟨#[58, 40, 44, 41]⟩ : ByteArray) = idE from rfl, show (⟨#[44, 41]⟩ : ByteArray) = endE from rfl]
      rw [b1]
      rw [w2]
      simp only [Option.bind_some]
      rw [a3, b3]
      rw [w4]
      simp only [Option.bind_some]
      rw [a5, b5]
      rw [textC]
      simp [ByteArray.size_append, lit_size]
      try omega
    · skip
      unfold ownB noneB slots2 withinB at hown
      simp [empty_iff] at hown
      obtain ⟨qi, ql, -, -, qn⟩ := hown
      have hne : xs ≠ [] := by rintro rfl; simp at qn
      subst ql
      obtain ⟨J, hJ⟩ : ∃ J, commaB (textL xs) = J := ⟨_, rfl⟩
      have h0 : restL s k = ([114, 97, 105, 100] ++ ([58] ++ (i.data.toList ++ ([58] ++ ((numT sl).data.toList ++ ([47] ++ ((numT t).data.toList ++ ([47] ++ ((numT e).data.toList ++ ([40] ++ (J.data.toList ++ (41 :: r)))))))))))) := by rw [h, textC]; simp only [hJ]; simp
      have l0 : k ≤ s.size := hk
      obtain ⟨a1, b1⟩ := piece_at (ends := colE) h0 (by decide) (.inr ⟨_, _, rfl, by decide⟩)
      have b1 : afterP s colE k = (k + 4) := b1
      have r1 : restL s (k + 4) = ([58] ++ (i.data.toList ++ ([58] ++ ((numT sl).data.toList ++ ([47] ++ ((numT t).data.toList ++ ([47] ++ ((numT e).data.toList ++ ([40] ++ (J.data.toList ++ (41 :: r))))))))))) := rest_add h0
      have l1 : (k + 4) ≤ s.size := rest_len l0 h0
      have w2 : wantP s ⟨#[58]⟩ (k + 4) = some ((k + 4) + 1) := want_at (t := ⟨#[58]⟩) r1
      have r2 : restL s ((k + 4) + 1) = (i.data.toList ++ ([58] ++ ((numT sl).data.toList ++ ([47] ++ ((numT t).data.toList ++ ([47] ++ ((numT e).data.toList ++ ([40] ++ (J.data.toList ++ (41 :: r)))))))))) := rest_add (p := [58]) r1
      have l2 : ((k + 4) + 1) ≤ s.size := rest_len (p := [58]) l1 r1
      obtain ⟨a3, b3⟩ := piece_at (ends := idE) r2 (fun b hb => (id_no qi b hb).1) (.inr ⟨_, _, rfl, by decide⟩)
      rw [list_ba] at a3
      rw [ba_size] at b3
      have r3 : restL s (((k + 4) + 1) + i.size) = ([58] ++ ((numT sl).data.toList ++ ([47] ++ ((numT t).data.toList ++ ([47] ++ ((numT e).data.toList ++ ([40] ++ (J.data.toList ++ (41 :: r))))))))) := by have hq := rest_add r2; rwa [ba_size] at hq
      have l3 : (((k + 4) + 1) + i.size) ≤ s.size := by have hq := rest_len l2 r2; rwa [ba_size] at hq
      have w4 : wantP s ⟨#[58]⟩ (((k + 4) + 1) + i.size) = some ((((k + 4) + 1) + i.size) + 1) := want_at (t := ⟨#[58]⟩) r3
      have r4 : restL s ((((k + 4) + 1) + i.size) + 1) = ((numT sl).data.toList ++ ([47] ++ ((numT t).data.toList ++ ([47] ++ ((numT e).data.toList ++ ([40] ++ (J.data.toList ++ (41 :: r)))))))) := rest_add (p := [58]) r3
      have l4 : ((((k + 4) + 1) + i.size) + 1) ≤ s.size := rest_len (p := [58]) l3 r3
      have n5 : numAt s ((((k + 4) + 1) + i.size) + 1) = some ((sl : Int), (((((k + 4) + 1) + i.size) + 1) + (numT sl).size)) := num_at hsl r4 (.inr ⟨_, _, rfl, by decide⟩)
      have r5 : restL s (((((k + 4) + 1) + i.size) + 1) + (numT sl).size) = ([47] ++ ((numT t).data.toList ++ ([47] ++ ((numT e).data.toList ++ ([40] ++ (J.data.toList ++ (41 :: r))))))) := by have hq := rest_add r4; rwa [ba_size] at hq
      have l5 : (((((k + 4) + 1) + i.size) + 1) + (numT sl).size) ≤ s.size := by have hq := rest_len l4 r4; rwa [ba_size] at hq
      have w6 : wantP s ⟨#[47]⟩ (((((k + 4) + 1) + i.size) + 1) + (numT sl).size) = some ((((((k + 4) + 1) + i.size) + 1) + (numT sl).size) + 1) := want_at (t := ⟨#[47]⟩) r5
      have r6 : restL s ((((((k + 4) + 1) + i.size) + 1) + (numT sl).size) + 1) = ((numT t).data.toList ++ ([47] ++ ((numT e).data.toList ++ ([40] ++ (J.data.toList ++ (41 :: r)))))) := rest_add (p := [47]) r5
      have l6 : ((((((k + 4) + 1) + i.size) + 1) + (numT sl).size) + 1) ≤ s.size := rest_len (p := [47]) l5 r5
      have n7 : numAt s ((((((k + 4) + 1) + i.size) + 1) + (numT sl).size) + 1) = some ((t : Int), (((((((k + 4) + 1) + i.size) + 1) + (numT sl).size) + 1) + (numT t).size)) := num_at htl r6 (.inr ⟨_, _, rfl, by decide⟩)
      have r7 : restL s (((((((k + 4) + 1) + i.size) + 1) + (numT sl).size) + 1) + (numT t).size) = ([47] ++ ((numT e).data.toList ++ ([40] ++ (J.data.toList ++ (41 :: r))))) := by have hq := rest_add r6; rwa [ba_size] at hq
      have l7 : (((((((k + 4) + 1) + i.size) + 1) + (numT sl).size) + 1) + (numT t).size) ≤ s.size := by have hq := rest_len l6 r6; rwa [ba_size] at hq
      have w8 : wantP s ⟨#[47]⟩ (((((((k + 4) + 1) + i.size) + 1) + (numT sl).size) + 1) + (numT t).size) = some ((((((((k + 4) + 1) + i.size) + 1) + (numT sl).size) + 1) + (numT t).size) + 1) := want_at (t := ⟨#[47]⟩) r7
      have r8 : restL s ((((((((k + 4) + 1) + i.size) + 1) + (numT sl).size) + 1) + (numT t).size) + 1) = ((numT e).data.toList ++ ([40] ++ (J.data.toList ++ (41 :: r)))) := rest_add (p := [47]) r7
      have l8 : ((((((((k + 4) + 1) + i.size) + 1) + (numT sl).size) + 1) + (numT t).size) + 1) ≤ s.size := rest_len (p := [47]) l7 r7
      have n9 : numAt s ((((((((k + 4) + 1) + i.size) + 1) + (numT sl).size) + 1) + (numT t).size) + 1) = some ((e : Int), (((((((((k + 4) + 1) + i.size) + 1) + (numT sl).size) + 1) + (numT t).size) + 1) + (numT e).size)) := num_at hel r8 (.inr ⟨_, _, rfl, by decide⟩)
      have r9 : restL s (((((((((k + 4) + 1) + i.size) + 1) + (numT sl).size) + 1) + (numT t).size) + 1) + (numT e).size) = ([40] ++ (J.data.toList ++ (41 :: r))) := by have hq := rest_add r8; rwa [ba_size] at hq
      have l9 : (((((((((k + 4) + 1) + i.size) + 1) + (numT sl).size) + 1) + (numT t).size) + 1) + (numT e).size) ≤ s.size := by have hq := rest_len l8 r8; rwa [ba_size] at hq
      have w10 : wantP s ⟨#[40]⟩ (((((((((k + 4) + 1) + i.size) + 1) + (numT sl).size) + 1) + (numT t).size) + 1) + (numT e).size) = some ((((((((((k + 4) + 1) + i.size) + 1) + (numT sl).size) + 1) + (numT t).size) + 1) + (numT e).size) + 1) := want_at (t := ⟨#[40]⟩) r9
      have r10 : restL s ((((((((((k + 4) + 1) + i.size) + 1) + (numT sl).size) + 1) + (numT t).size) + 1) + (numT e).size) + 1) = (J.data.toList ++ (41 :: r)) := rest_add (p := [40]) r9
      have l10 : ((((((((((k + 4) + 1) + i.size) + 1) + (numT sl).size) + 1) + (numT t).size) + 1) + (numT e).size) + 1) ≤ s.size := rest_len (p := [40]) l9 r9
      have j11 := inner_text s xs hne hix ((((((((((k + 4) + 1) + i.size) + 1) + (numT sl).size) + 1) + (numT t).size) + 1) + (numT e).size) + 1) f r [] (by rw [hJ]; exact r10) l10 (by omega)
      rw [hJ, List.nil_append] at j11
      rw [contP_raid a1]
      simp only [show (⟨#[58, 44, 41]⟩ : ByteArray) = colE from rfl, show (⟨#[58, 40, 44, 41]⟩ : ByteArray) = idE from rfl]
      rw [b1]
      rw [w2]
      simp only [Option.bind_some]
      rw [a3, b3]
      rw [w4]
      simp only [Option.bind_some]
      rw [n5]
      simp only [Option.bind_some]
      rw [w6]
      simp only [Option.bind_some]
      rw [n7]
      simp only [Option.bind_some]
      rw [w8]
      simp only [Option.bind_some]
      rw [n9]
      simp only [Option.bind_some]
      rw [w10]
      simp only [Option.bind_some]
      rw [j11]
      simp only [Option.map_some]
      rw [textC]
      simp only [hJ, empty_lit]
      simp [ByteArray.size_append, lit_size]
      try omega
    · skip
      unfold ownB noneB slots2 withinB at hown
      simp [empty_iff] at hown
      obtain ⟨qi, ql, ⟨q3, q4, q5⟩, qn⟩ := hown
      have hne : xs ≠ [] := by rintro rfl; simp at qn
      subst q3 q4 q5
      subst ql
      obtain ⟨J, hJ⟩ : ∃ J, commaB (textL xs) = J := ⟨_, rfl⟩
      have h0 : restL s k = ([99, 114, 121, 112, 116] ++ ([58] ++ (i.data.toList ++ ([40] ++ (J.data.toList ++ (41 :: r)))))) := by rw [h, textC]; simp only [hJ]; simp
      have l0 : k ≤ s.size := hk
      obtain ⟨a1, b1⟩ := piece_at (ends := colE) h0 (by decide) (.inr ⟨_, _, rfl, by decide⟩)
      have b1 : afterP s colE k = (k + 5) := b1
      have r1 : restL s (k + 5) = ([58] ++ (i.data.toList ++ ([40] ++ (J.data.toList ++ (41 :: r))))) := rest_add h0
      have l1 : (k + 5) ≤ s.size := rest_len l0 h0
      have w2 : wantP s ⟨#[58]⟩ (k + 5) = some ((k + 5) + 1) := want_at (t := ⟨#[58]⟩) r1
      have r2 : restL s ((k + 5) + 1) = (i.data.toList ++ ([40] ++ (J.data.toList ++ (41 :: r)))) := rest_add (p := [58]) r1
      have l2 : ((k + 5) + 1) ≤ s.size := rest_len (p := [58]) l1 r1
      obtain ⟨a3, b3⟩ := piece_at (ends := idE) r2 (fun b hb => (id_no qi b hb).1) (.inr ⟨_, _, rfl, by decide⟩)
      rw [list_ba] at a3
      rw [ba_size] at b3
      have r3 : restL s (((k + 5) + 1) + i.size) = ([40] ++ (J.data.toList ++ (41 :: r))) := by have hq := rest_add r2; rwa [ba_size] at hq
      have l3 : (((k + 5) + 1) + i.size) ≤ s.size := by have hq := rest_len l2 r2; rwa [ba_size] at hq
      have w4 : wantP s ⟨#[40]⟩ (((k + 5) + 1) + i.size) = some ((((k + 5) + 1) + i.size) + 1) := want_at (t := ⟨#[40]⟩) r3
      have r4 : restL s ((((k + 5) + 1) + i.size) + 1) = (J.data.toList ++ (41 :: r)) := rest_add (p := [40]) r3
      have l4 : ((((k + 5) + 1) + i.size) + 1) ≤ s.size := rest_len (p := [40]) l3 r3
      have j5 := inner_text s xs hne hix ((((k + 5) + 1) + i.size) + 1) f r [] (by rw [hJ]; exact r4) l4 (by omega)
      rw [hJ, List.nil_append] at j5
      rw [contP_crypt a1]
      simp only [show (⟨#[58, 44, 41]⟩ : ByteArray) = colE from rfl, show (⟨#[58, 40, 44, 41]⟩ : ByteArray) = idE from rfl]
      rw [b1]
      rw [w2]
      simp only [Option.bind_some]
      rw [a3, b3]
      rw [w4]
      simp only [Option.bind_some]
      rw [j5]
      simp only [Option.map_some]
      rw [textC]
      simp only [hJ, empty_lit]
      simp [ByteArray.size_append, lit_size]
      try omega
    · skip
      unfold ownB noneB slots2 withinB at hown
      simp [empty_iff] at hown
      obtain ⟨qi, ql, -, q5, qn⟩ := hown
      have hne : xs ≠ [] := by rintro rfl; simp at qn
      subst q5
      subst ql
      obtain ⟨J, hJ⟩ : ∃ J, commaB (textL xs) = J := ⟨_, rfl⟩
      have h0 : restL s k = ([112, 118] ++ ([58] ++ (i.data.toList ++ ([58] ++ ((numT sl).data.toList ++ ([47] ++ ((numT t).data.toList ++ ([40] ++ (J.data.toList ++ (41 :: r)))))))))) := by rw [h, textC]; simp only [hJ]; simp
      have l0 : k ≤ s.size := hk
      obtain ⟨a1, b1⟩ := piece_at (ends := colE) h0 (by decide) (.inr ⟨_, _, rfl, by decide⟩)
      have b1 : afterP s colE k = (k + 2) := b1
      have r1 : restL s (k + 2) = ([58] ++ (i.data.toList ++ ([58] ++ ((numT sl).data.toList ++ ([47] ++ ((numT t).data.toList ++ ([40] ++ (J.data.toList ++ (41 :: r))))))))) := rest_add h0
      have l1 : (k + 2) ≤ s.size := rest_len l0 h0
      have w2 : wantP s ⟨#[58]⟩ (k + 2) = some ((k + 2) + 1) := want_at (t := ⟨#[58]⟩) r1
      have r2 : restL s ((k + 2) + 1) = (i.data.toList ++ ([58] ++ ((numT sl).data.toList ++ ([47] ++ ((numT t).data.toList ++ ([40] ++ (J.data.toList ++ (41 :: r)))))))) := rest_add (p := [58]) r1
      have l2 : ((k + 2) + 1) ≤ s.size := rest_len (p := [58]) l1 r1
      obtain ⟨a3, b3⟩ := piece_at (ends := idE) r2 (fun b hb => (id_no qi b hb).1) (.inr ⟨_, _, rfl, by decide⟩)
      rw [list_ba] at a3
      rw [ba_size] at b3
      have r3 : restL s (((k + 2) + 1) + i.size) = ([58] ++ ((numT sl).data.toList ++ ([47] ++ ((numT t).data.toList ++ ([40] ++ (J.data.toList ++ (41 :: r))))))) := by have hq := rest_add r2; rwa [ba_size] at hq
      have l3 : (((k + 2) + 1) + i.size) ≤ s.size := by have hq := rest_len l2 r2; rwa [ba_size] at hq
      have w4 : wantP s ⟨#[58]⟩ (((k + 2) + 1) + i.size) = some ((((k + 2) + 1) + i.size) + 1) := want_at (t := ⟨#[58]⟩) r3
      have r4 : restL s ((((k + 2) + 1) + i.size) + 1) = ((numT sl).data.toList ++ ([47] ++ ((numT t).data.toList ++ ([40] ++ (J.data.toList ++ (41 :: r)))))) := rest_add (p := [58]) r3
      have l4 : ((((k + 2) + 1) + i.size) + 1) ≤ s.size := rest_len (p := [58]) l3 r3
      have n5 : numAt s ((((k + 2) + 1) + i.size) + 1) = some ((sl : Int), (((((k + 2) + 1) + i.size) + 1) + (numT sl).size)) := num_at hsl r4 (.inr ⟨_, _, rfl, by decide⟩)
      have r5 : restL s (((((k + 2) + 1) + i.size) + 1) + (numT sl).size) = ([47] ++ ((numT t).data.toList ++ ([40] ++ (J.data.toList ++ (41 :: r))))) := by have hq := rest_add r4; rwa [ba_size] at hq
      have l5 : (((((k + 2) + 1) + i.size) + 1) + (numT sl).size) ≤ s.size := by have hq := rest_len l4 r4; rwa [ba_size] at hq
      have w6 : wantP s ⟨#[47]⟩ (((((k + 2) + 1) + i.size) + 1) + (numT sl).size) = some ((((((k + 2) + 1) + i.size) + 1) + (numT sl).size) + 1) := want_at (t := ⟨#[47]⟩) r5
      have r6 : restL s ((((((k + 2) + 1) + i.size) + 1) + (numT sl).size) + 1) = ((numT t).data.toList ++ ([40] ++ (J.data.toList ++ (41 :: r)))) := rest_add (p := [47]) r5
      have l6 : ((((((k + 2) + 1) + i.size) + 1) + (numT sl).size) + 1) ≤ s.size := rest_len (p := [47]) l5 r5
      have n7 : numAt s ((((((k + 2) + 1) + i.size) + 1) + (numT sl).size) + 1) = some ((t : Int), (((((((k + 2) + 1) + i.size) + 1) + (numT sl).size) + 1) + (numT t).size)) := num_at htl r6 (.inr ⟨_, _, rfl, by decide⟩)
      have r7 : restL s (((((((k + 2) + 1) + i.size) + 1) + (numT sl).size) + 1) + (numT t).size) = ([40] ++ (J.data.toList ++ (41 :: r))) := by have hq := rest_add r6; rwa [ba_size] at hq
      have l7 : (((((((k + 2) + 1) + i.size) + 1) + (numT sl).size) + 1) + (numT t).size) ≤ s.size := by have hq := rest_len l6 r6; rwa [ba_size] at hq
      have w8 : wantP s ⟨#[40]⟩ (((((((k + 2) + 1) + i.size) + 1) + (numT sl).size) + 1) + (numT t).size) = some ((((((((k + 2) + 1) + i.size) + 1) + (numT sl).size) + 1) + (numT t).size) + 1) := want_at (t := ⟨#[40]⟩) r7
      have r8 : restL s ((((((((k + 2) + 1) + i.size) + 1) + (numT sl).size) + 1) + (numT t).size) + 1) = (J.data.toList ++ (41 :: r)) := rest_add (p := [40]) r7
      have l8 : ((((((((k + 2) + 1) + i.size) + 1) + (numT sl).size) + 1) + (numT t).size) + 1) ≤ s.size := rest_len (p := [40]) l7 r7
      have j9 := inner_text s xs hne hix ((((((((k + 2) + 1) + i.size) + 1) + (numT sl).size) + 1) + (numT t).size) + 1) f r [] (by rw [hJ]; exact r8) l8 (by omega)
      rw [hJ, List.nil_append] at j9
      rw [contP_pv a1]
      simp only [show (⟨#[58, 44, 41]⟩ : ByteArray) = colE from rfl, show (⟨#[58, 40, 44, 41]⟩ : ByteArray) = idE from rfl]
      rw [b1]
      rw [w2]
      simp only [Option.bind_some]
      rw [a3, b3]
      rw [w4]
      simp only [Option.bind_some]
      rw [n5]
      simp only [Option.bind_some]
      rw [w6]
      simp only [Option.bind_some]
      rw [n7]
      simp only [Option.bind_some]
      rw [w8]
      simp only [Option.bind_some]
      rw [j9]
      simp only [Option.map_some]
      rw [textC]
      simp only [hJ, empty_lit]
      simp [ByteArray.size_append, lit_size]
      try omega
    · skip
      unfold ownB noneB slots2 withinB at hown
      simp [empty_iff] at hown
      obtain ⟨qi, ql, ⟨q3, q4, q5⟩, qn⟩ := hown
      have hne : xs ≠ [] := by rintro rfl; simp at qn
      subst q3 q4 q5
      subst ql
      obtain ⟨J, hJ⟩ : ∃ J, commaB (textL xs) = J := ⟨_, rfl⟩
      have h0 : restL s k = ([116, 97, 98, 108, 101] ++ ([58] ++ (i.data.toList ++ ([40] ++ (J.data.toList ++ (41 :: r)))))) := by rw [h, textC]; simp only [hJ]; simp
      have l0 : k ≤ s.size := hk
      obtain ⟨a1, b1⟩ := piece_at (ends := colE) h0 (by decide) (.inr ⟨_, _, rfl, by decide⟩)
      have b1 : afterP s colE k = (k + 5) := b1
      have r1 : restL s (k + 5) = ([58] ++ (i.data.toList ++ ([40] ++ (J.data.toList ++ (41 :: r))))) := rest_add h0
      have l1 : (k + 5) ≤ s.size := rest_len l0 h0
      have w2 : wantP s ⟨#[58]⟩ (k + 5) = some ((k + 5) + 1) := want_at (t := ⟨#[58]⟩) r1
      have r2 : restL s ((k + 5) + 1) = (i.data.toList ++ ([40] ++ (J.data.toList ++ (41 :: r)))) := rest_add (p := [58]) r1
      have l2 : ((k + 5) + 1) ≤ s.size := rest_len (p := [58]) l1 r1
      obtain ⟨a3, b3⟩ := piece_at (ends := idE) r2 (fun b hb => (id_no qi b hb).1) (.inr ⟨_, _, rfl, by decide⟩)
      rw [list_ba] at a3
      rw [ba_size] at b3
      have r3 : restL s (((k + 5) + 1) + i.size) = ([40] ++ (J.data.toList ++ (41 :: r))) := by have hq := rest_add r2; rwa [ba_size] at hq
      have l3 : (((k + 5) + 1) + i.size) ≤ s.size := by have hq := rest_len l2 r2; rwa [ba_size] at hq
      have w4 : wantP s ⟨#[40]⟩ (((k + 5) + 1) + i.size) = some ((((k + 5) + 1) + i.size) + 1) := want_at (t := ⟨#[40]⟩) r3
      have r4 : restL s ((((k + 5) + 1) + i.size) + 1) = (J.data.toList ++ (41 :: r)) := rest_add (p := [40]) r3
      have l4 : ((((k + 5) + 1) + i.size) + 1) ≤ s.size := rest_len (p := [40]) l3 r3
      have j5 := inner_text s xs hne hix ((((k + 5) + 1) + i.size) + 1) f r [] (by rw [hJ]; exact r4) l4 (by omega)
      rw [hJ, List.nil_append] at j5
      rw [contP_table a1]
      simp only [show (⟨#[58, 44, 41]⟩ : ByteArray) = colE from rfl, show (⟨#[58, 40, 44, 41]⟩ : ByteArray) = idE from rfl]
      rw [b1]
      rw [w2]
      simp only [Option.bind_some]
      rw [a3, b3]
      rw [w4]
      simp only [Option.bind_some]
      rw [j5]
      simp only [Option.map_some]
      rw [textC]
      simp only [hJ, empty_lit]
      simp [ByteArray.size_append, lit_size]
      try omega
end Go.Cold

