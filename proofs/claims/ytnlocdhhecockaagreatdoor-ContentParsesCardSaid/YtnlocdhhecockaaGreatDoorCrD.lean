/-
  The plain side of layer 7, on: what the parser reads as a valid content is the text of this content. No program is named here.
-/
import Derived.Test.YtnlocdhhecockaaGreatDoorCrC
import Derived.Test.YtnlocdhhecockaaGreatDoorCpD
set_option linter.unusedSimpArgs false
set_option linter.unusedVariables false
namespace Go.Cold
open Go Go.RowKit Go.Proofs.YtnlocdhhecockaaGreatDoor
theorem until_le (r ends : ByteArray) : untilN r ends ≤ r.size := by
  unfold untilN
  split
  · exact Nat.le_refl _
  · rename_i h
    have h1 : ∀ (l cs : List UInt8), Lib.indexAny l cs ≤ l.length := by
      intro l cs
      induction l with
      | nil => rw [Lib.indexAny]; simp
      | cons b l ih =>
        rw [Lib.indexAny]
        simp only [List.length_cons]
        split
        · omega
        · split
          · omega
          · push_cast; omega
    have := h1 r.data.toList ends.data.toList
    rw [ba_size] at this
    omega
theorem rest_drop (s : ByteArray) (k n : Nat) : restL s (k + n) = (restL s k).drop n := by
  unfold restL; rw [List.drop_drop]
theorem piece_rev (s e : ByteArray) {k : Nat} (hk : k ≤ s.size) : restL s k = (pieceP s e k).data.toList ++ restL s (afterP s e k) ∧ afterP s e k ≤ s.size := by
  have h1 := until_le (s.extract k s.size) e
  unfold pieceP afterP
  refine ⟨?_, ?_⟩
  · rw [Lib.extract_data, rest_ext, rest_drop]
    simp
  · rw [ByteArray.size_extract] at h1; omega
theorem want_rev {s t : ByteArray} {k k' : Nat} (hk : k ≤ s.size) (h : wantP s t k = some k') : restL s k = t.data.toList ++ restL s k' ∧ k' ≤ s.size := by
  unfold wantP at h
  split at h
  · rename_i h1
    have h2 := skipB_le hk h1
    cases h
    refine ⟨?_, h2⟩
    unfold skipB Lib.hasPrefix at h1
    obtain ⟨r, hr⟩ := List.isPrefixOf_iff_prefix.1 h1
    rw [rest_ext] at hr
    rw [rest_drop, ← hr, ← ba_size, List.drop_left]
  · cases h
theorem skip_rev {s t : ByteArray} {k : Nat} (hk : k ≤ s.size) (h : skipB s k t = true) : restL s k = t.data.toList ++ restL s (k + t.size) ∧ k + t.size ≤ s.size :=
  want_rev hk (by unfold wantP; rw [if_pos h])
theorem num_rev {s : ByteArray} {k k' : Nat} {n : Int} (hk : k ≤ s.size) (h : numAt s k = some (n, k')) (hn : 0 ≤ n) : restL s k = (numT n).data.toList ++ restL s k' ∧ k' ≤ s.size := by
  have hd : numAt s k = (numP (pieceP s slashE k)).map fun n => (n, afterP s slashE k) := rfl
  rw [hd] at h
  obtain ⟨h1, h2⟩ := piece_rev s slashE hk
  cases hp : numP (pieceP s slashE k) with
  | none => rw [hp] at h; cases h
  | some m =>
    rw [hp] at h
    simp only [Option.map_some, Option.some.injEq, Prod.mk.injEq] at h
    obtain ⟨rfl, rfl⟩ := h
    refine ⟨?_, h2⟩
    unfold numP at hp
    split at hp
    · rename_i z hz
      split at hp
      · rename_i hi
        cases hp
        unfold Lib.itoa at hi
        rw [if_neg (by omega)] at hi
        rw [h1, ← hi]
        rfl
      · cases hp
    · cases hp
def ReadC (s : ByteArray) (f : Nat) : Prop := ∀ (k k' : Nat) (c : Cont), k ≤ s.size → contP s f k = some (c, k') → AllOk c → restL s k = (textC c).data.toList ++ restL s k' ∧ k' ≤ s.size
def ReadI (s : ByteArray) (f : Nat) : Prop := ∀ (k k' : Nat) (xs ys : List Cont), k ≤ s.size → innerP s f k xs = some (ys, k') → ∃ zs, ys = xs ++ zs ∧ zs ≠ [] ∧ ((∀ z ∈ zs, AllOk z) → restL s k = (commaB (textL zs)).data.toList ++ 41 :: restL s k' ∧ k' ≤ s.size)
theorem read_inner {s : ByteArray} {f : Nat} (hc : ReadC s f) (hi : ReadI s f) (hle : ∀ k c k', k ≤ s.size → contP s f k = some (c, k') → k' ≤ s.size) : ReadI s (f + 1) := by
  intro k k' xs ys hk h
  rw [innerP] at h
  obtain ⟨⟨x, k1⟩, h1, h2⟩ := Option.bind_eq_some_iff.1 h
  have hk1 := hle _ _ _ hk h1
  simp only at h2
  split at h2
  · rename_i hs
    cases h2
    obtain ⟨q1, q2⟩ := skip_rev hk1 hs
    refine ⟨[x], rfl, by simp, fun hz => ?_⟩
    obtain ⟨p1, p2⟩ := hc k k1 x hk h1 (hz x (by simp))
    refine ⟨?_, q2⟩
    rw [textL, textL, comma_one, p1, q1]
    rfl
  · obtain ⟨k2, h3, h4⟩ := Option.bind_eq_some_iff.1 h2
    obtain ⟨q1, q2⟩ := want_rev hk1 h3
    obtain ⟨zs, e1, e2, e3⟩ := hi k2 k' _ _ q2 h4
    refine ⟨x :: zs, by rw [e1]; simp, by simp, fun hz => ?_⟩
    obtain ⟨p1, p2⟩ := hc k k1 x hk h1 (hz x (by simp))
    obtain ⟨r1, r2⟩ := e3 (fun z hzz => hz z (by simp [hzz]))
    obtain ⟨z, zs, rfl⟩ : ∃ z t, zs = z :: t := by cases zs with | nil => exact absurd rfl e2 | cons a b => exact ⟨a, b, rfl⟩
    refine ⟨?_, r2⟩
    rw [textL, textL, comma_two, p1, q1, r1, ← textL]
    simp
theorem num_le {s : ByteArray} {k k' : Nat} {n : Int} (hk : k ≤ s.size) (h : numAt s k = some (n, k')) : k' ≤ s.size := by
  have hd : numAt s k = (numP (pieceP s slashE k)).map fun n => (n, afterP s slashE k) := rfl
  rw [hd] at h
  obtain ⟨m, -, h2⟩ := Option.map_eq_some_iff.1 h
  cases h2
  exact (piece_rev s slashE hk).2
set_option maxHeartbeats 1000000 in
theorem cont_le (s : ByteArray) : ∀ f : Nat, (∀ k c k', k ≤ s.size → contP s f k = some (c, k') → k' ≤ s.size) ∧ (∀ k xs ys k', k ≤ s.size → innerP s f k xs = some (ys, k') → k' ≤ s.size)
  | 0 => ⟨fun k c k' _ h => (by rw [contP] at h; cases h), fun k xs ys k' _ h => (by rw [innerP] at h; cases h)⟩
  | f + 1 => by
    obtain ⟨hcl, hle⟩ := cont_le s f
    refine ⟨fun k c k' hk h => ?_, fun k xs ys k' hk h => ?_⟩
    obtain ⟨a, c0⟩ := piece_rev s colE hk
    by_cases h0 : pieceP s colE k = ⟨#[]⟩
    · skip
      rw [contP_none h0] at h
      cases h
      exact c0
    by_cases hK : pieceP s colE k = (⟨#[102, 115]⟩ : ByteArray)
    · skip
      rw [contP_fs hK] at h
      obtain ⟨k2, w0, h⟩ := Option.bind_eq_some_iff.1 h
      obtain ⟨a0, b0⟩ := want_rev c0 w0
      obtain ⟨a1, b1⟩ := piece_rev s idE b0
      obtain ⟨q2, w2, h⟩ := Option.bind_eq_some_iff.1 h
      obtain ⟨a2, b2⟩ := want_rev b1 w2
      obtain ⟨a3, b3⟩ := piece_rev s endE b2
      simp only [Option.some.injEq, Prod.mk.injEq] at h
      obtain ⟨rfl, rfl⟩ := h
      exact b3
    have h1 := hK; clear hK
    by_cases hK : pieceP s colE k = (⟨#[114, 97, 105, 100]⟩ : ByteArray)
    · skip
      rw [contP_raid hK] at h
      obtain ⟨k2, w0, h⟩ := Option.bind_eq_some_iff.1 h
      obtain ⟨a0, b0⟩ := want_rev c0 w0
      obtain ⟨a1, b1⟩ := piece_rev s idE b0
      obtain ⟨q2, w2, h⟩ := Option.bind_eq_some_iff.1 h
      obtain ⟨a2, b2⟩ := want_rev b1 w2
      obtain ⟨⟨n1, q3⟩, w3, h⟩ := Option.bind_eq_some_iff.1 h
      simp only at h
      have b3 := num_le b2 w3
      obtain ⟨q4, w4, h⟩ := Option.bind_eq_some_iff.1 h
      obtain ⟨a4, b4⟩ := want_rev b3 w4
      obtain ⟨⟨n2, q5⟩, w5, h⟩ := Option.bind_eq_some_iff.1 h
      simp only at h
      have b5 := num_le b4 w5
      obtain ⟨q6, w6, h⟩ := Option.bind_eq_some_iff.1 h
      obtain ⟨a6, b6⟩ := want_rev b5 w6
      obtain ⟨⟨n3, q7⟩, w7, h⟩ := Option.bind_eq_some_iff.1 h
      simp only at h
      have b7 := num_le b6 w7
      obtain ⟨q8, w8, h⟩ := Option.bind_eq_some_iff.1 h
      obtain ⟨a8, b8⟩ := want_rev b7 w8
      obtain ⟨⟨xs, k11⟩, wj, h⟩ := Option.map_eq_some_iff.1 h
      simp only [Prod.mk.injEq] at h
      obtain ⟨rfl, rfl⟩ := h
      exact hle _ _ _ _ b8 wj
    have h2 := hK; clear hK
    by_cases hK : pieceP s colE k = (⟨#[99, 114, 121, 112, 116]⟩ : ByteArray)
    · skip
      rw [contP_crypt hK] at h
      obtain ⟨k2, w0, h⟩ := Option.bind_eq_some_iff.1 h
      obtain ⟨a0, b0⟩ := want_rev c0 w0
      obtain ⟨a1, b1⟩ := piece_rev s idE b0
      obtain ⟨q2, w2, h⟩ := Option.bind_eq_some_iff.1 h
      obtain ⟨a2, b2⟩ := want_rev b1 w2
      obtain ⟨⟨xs, k11⟩, wj, h⟩ := Option.map_eq_some_iff.1 h
      simp only [Prod.mk.injEq] at h
      obtain ⟨rfl, rfl⟩ := h
      exact hle _ _ _ _ b2 wj
    have h3 := hK; clear hK
    by_cases hK : pieceP s colE k = (⟨#[112, 118]⟩ : ByteArray)
    · skip
      rw [contP_pv hK] at h
      obtain ⟨k2, w0, h⟩ := Option.bind_eq_some_iff.1 h
      obtain ⟨a0, b0⟩ := want_rev c0 w0
      obtain ⟨a1, b1⟩ := piece_rev s idE b0
      obtain ⟨q2, w2, h⟩ := Option.bind_eq_some_iff.1 h
      obtain ⟨a2, b2⟩ := want_rev b1 w2
      obtain ⟨⟨n1, q3⟩, w3, h⟩ := Option.bind_eq_some_iff.1 h
      simp only at h
      have b3 := num_le b2 w3
      obtain ⟨q4, w4, h⟩ := Option.bind_eq_some_iff.1 h
      obtain ⟨a4, b4⟩ := want_rev b3 w4
      obtain ⟨⟨n2, q5⟩, w5, h⟩ := Option.bind_eq_some_iff.1 h
      simp only at h
      have b5 := num_le b4 w5
      obtain ⟨q6, w6, h⟩ := Option.bind_eq_some_iff.1 h
      obtain ⟨a6, b6⟩ := want_rev b5 w6
      obtain ⟨⟨xs, k11⟩, wj, h⟩ := Option.map_eq_some_iff.1 h
      simp only [Prod.mk.injEq] at h
      obtain ⟨rfl, rfl⟩ := h
      exact hle _ _ _ _ b6 wj
    have h4 := hK; clear hK
    by_cases hK : pieceP s colE k = (⟨#[116, 97, 98, 108, 101]⟩ : ByteArray)
    · skip
      rw [contP_table hK] at h
      obtain ⟨k2, w0, h⟩ := Option.bind_eq_some_iff.1 h
      obtain ⟨a0, b0⟩ := want_rev c0 w0
      obtain ⟨a1, b1⟩ := piece_rev s idE b0
      obtain ⟨q2, w2, h⟩ := Option.bind_eq_some_iff.1 h
      obtain ⟨a2, b2⟩ := want_rev b1 w2
      obtain ⟨⟨xs, k11⟩, wj, h⟩ := Option.map_eq_some_iff.1 h
      simp only [Prod.mk.injEq] at h
      obtain ⟨rfl, rfl⟩ := h
      exact hle _ _ _ _ b2 wj
    have h5 := hK; clear hK
    rw [contP_other h0 h1 h2 h3 h4 h5] at h
    cases h
    rw [innerP] at h
    obtain ⟨⟨x, k1⟩, h1, h2⟩ := Option.bind_eq_some_iff.1 h
    have hk1 := hcl _ _ _ hk h1
    simp only at h2
    split at h2
    · rename_i hs
      cases h2
      exact (skip_rev hk1 hs).2
    · obtain ⟨k2, h3, h4⟩ := Option.bind_eq_some_iff.1 h2
      exact hle _ _ _ _ (want_rev hk1 h3).2 h4
set_option maxHeartbeats 2000000 in
theorem read_back (s : ByteArray) : ∀ f : Nat, ReadC s f ∧ ReadI s f
  | 0 => ⟨fun k k' c _ h => (by rw [contP] at h; cases h), fun k k' xs ys _ h => (by rw [innerP] at h; cases h)⟩
  | f + 1 => by
    obtain ⟨hc, hi⟩ := read_back s f
    refine ⟨fun k k' c hk h hall => ?_, read_inner hc hi (cont_le s f).1⟩
    obtain ⟨a, c0⟩ := piece_rev s colE hk
    by_cases h0 : pieceP s colE k = ⟨#[]⟩
    · skip
      rw [contP_none h0] at h
      simp only [Option.some.injEq, Prod.mk.injEq] at h
      obtain ⟨rfl, rfl⟩ := h
      refine ⟨?_, c0⟩
      rw [a, h0, textC]
      simp [show (⟨#[58, 44, 41]⟩ : ByteArray) = colE from rfl]
    by_cases hK : pieceP s colE k = (⟨#[102, 115]⟩ : ByteArray)
    · skip
      rw [contP_fs hK] at h
      obtain ⟨k2, w0, h⟩ := Option.bind_eq_some_iff.1 h
      obtain ⟨a0, b0⟩ := want_rev c0 w0
      obtain ⟨a1, b1⟩ := piece_rev s idE b0
      obtain ⟨q2, w2, h⟩ := Option.bind_eq_some_iff.1 h
      obtain ⟨a2, b2⟩ := want_rev b1 w2
      obtain ⟨a3, b3⟩ := piece_rev s endE b2
      simp only [Option.some.injEq, Prod.mk.injEq] at h
      obtain ⟨rfl, rfl⟩ := h
      obtain ⟨hown, hin⟩ := AllOk_mk.1 hall
      obtain ⟨-, -, -, hs0, ht0, he0⟩ := own_nums hown
      refine ⟨?_, b3⟩
      rw [a, hK, a0, a1, a2, a3, textC]
      simp [idE, endE]
    have h1 := hK; clear hK
    by_cases hK : pieceP s colE k = (⟨#[114, 97, 105, 100]⟩ : ByteArray)
    · skip
      rw [contP_raid hK] at h
      obtain ⟨k2, w0, h⟩ := Option.bind_eq_some_iff.1 h
      obtain ⟨a0, b0⟩ := want_rev c0 w0
      obtain ⟨a1, b1⟩ := piece_rev s idE b0
      obtain ⟨q2, w2, h⟩ := Option.bind_eq_some_iff.1 h
      obtain ⟨a2, b2⟩ := want_rev b1 w2
      obtain ⟨⟨n1, q3⟩, w3, h⟩ := Option.bind_eq_some_iff.1 h
      simp only at h
      have b3 := num_le b2 w3
      obtain ⟨q4, w4, h⟩ := Option.bind_eq_some_iff.1 h
      obtain ⟨a4, b4⟩ := want_rev b3 w4
      obtain ⟨⟨n2, q5⟩, w5, h⟩ := Option.bind_eq_some_iff.1 h
      simp only at h
      have b5 := num_le b4 w5
      obtain ⟨q6, w6, h⟩ := Option.bind_eq_some_iff.1 h
      obtain ⟨a6, b6⟩ := want_rev b5 w6
      obtain ⟨⟨n3, q7⟩, w7, h⟩ := Option.bind_eq_some_iff.1 h
      simp only at h
      have b7 := num_le b6 w7
      obtain ⟨q8, w8, h⟩ := Option.bind_eq_some_iff.1 h
      obtain ⟨a8, b8⟩ := want_rev b7 w8
      obtain ⟨⟨xs, k11⟩, wj, h⟩ := Option.map_eq_some_iff.1 h
      simp only [Prod.mk.injEq] at h
      obtain ⟨rfl, rfl⟩ := h
      obtain ⟨hown, hin⟩ := AllOk_mk.1 hall
      obtain ⟨-, -, -, hs0, ht0, he0⟩ := own_nums hown
      obtain ⟨a3, -⟩ := num_rev b2 w3 hs0.1
      obtain ⟨a5, -⟩ := num_rev b4 w5 ht0.1
      obtain ⟨a7, -⟩ := num_rev b6 w7 he0.1
      obtain ⟨zs, e1, e2, e3⟩ := hi _ _ _ _ b8 wj
      rw [List.nil_append] at e1
      subst e1
      obtain ⟨r1, r2⟩ := e3 hin
      refine ⟨?_, r2⟩
      rw [a, hK, a0, a1, a2, a3, a4, a5, a6, a7, a8, r1, textC]
      simp [idE, endE]
    have h2 := hK; clear hK
    by_cases hK : pieceP s colE k = (⟨#[99, 114, 121, 112, 116]⟩ : ByteArray)
    · skip
      rw [contP_crypt hK] at h
      obtain ⟨k2, w0, h⟩ := Option.bind_eq_some_iff.1 h
      obtain ⟨a0, b0⟩ := want_rev c0 w0
      obtain ⟨a1, b1⟩ := piece_rev s idE b0
      obtain ⟨q2, w2, h⟩ := Option.bind_eq_some_iff.1 h
      obtain ⟨a2, b2⟩ := want_rev b1 w2
      obtain ⟨⟨xs, k11⟩, wj, h⟩ := Option.map_eq_some_iff.1 h
      simp only [Prod.mk.injEq] at h
      obtain ⟨rfl, rfl⟩ := h
      obtain ⟨hown, hin⟩ := AllOk_mk.1 hall
      obtain ⟨-, -, -, hs0, ht0, he0⟩ := own_nums hown
      obtain ⟨zs, e1, e2, e3⟩ := hi _ _ _ _ b2 wj
      rw [List.nil_append] at e1
      subst e1
      obtain ⟨r1, r2⟩ := e3 hin
      refine ⟨?_, r2⟩
      rw [a, hK, a0, a1, a2, r1, textC]
      simp [idE, endE]
    have h3 := hK; clear hK
    by_cases hK : pieceP s colE k = (⟨#[112, 118]⟩ : ByteArray)
    · skip
      rw [contP_pv hK] at h
      obtain ⟨k2, w0, h⟩ := Option.bind_eq_some_iff.1 h
      obtain ⟨a0, b0⟩ := want_rev c0 w0
      obtain ⟨a1, b1⟩ := piece_rev s idE b0
      obtain ⟨q2, w2, h⟩ := Option.bind_eq_some_iff.1 h
      obtain ⟨a2, b2⟩ := want_rev b1 w2
      obtain ⟨⟨n1, q3⟩, w3, h⟩ := Option.bind_eq_some_iff.1 h
      simp only at h
      have b3 := num_le b2 w3
      obtain ⟨q4, w4, h⟩ := Option.bind_eq_some_iff.1 h
      obtain ⟨a4, b4⟩ := want_rev b3 w4
      obtain ⟨⟨n2, q5⟩, w5, h⟩ := Option.bind_eq_some_iff.1 h
      simp only at h
      have b5 := num_le b4 w5
      obtain ⟨q6, w6, h⟩ := Option.bind_eq_some_iff.1 h
      obtain ⟨a6, b6⟩ := want_rev b5 w6
      obtain ⟨⟨xs, k11⟩, wj, h⟩ := Option.map_eq_some_iff.1 h
      simp only [Prod.mk.injEq] at h
      obtain ⟨rfl, rfl⟩ := h
      obtain ⟨hown, hin⟩ := AllOk_mk.1 hall
      obtain ⟨-, -, -, hs0, ht0, he0⟩ := own_nums hown
      obtain ⟨a3, -⟩ := num_rev b2 w3 hs0.1
      obtain ⟨a5, -⟩ := num_rev b4 w5 ht0.1
      obtain ⟨zs, e1, e2, e3⟩ := hi _ _ _ _ b6 wj
      rw [List.nil_append] at e1
      subst e1
      obtain ⟨r1, r2⟩ := e3 hin
      refine ⟨?_, r2⟩
      rw [a, hK, a0, a1, a2, a3, a4, a5, a6, r1, textC]
      simp [idE, endE]
    have h4 := hK; clear hK
    by_cases hK : pieceP s colE k = (⟨#[116, 97, 98, 108, 101]⟩ : ByteArray)
    · skip
      rw [contP_table hK] at h
      obtain ⟨k2, w0, h⟩ := Option.bind_eq_some_iff.1 h
      obtain ⟨a0, b0⟩ := want_rev c0 w0
      obtain ⟨a1, b1⟩ := piece_rev s idE b0
      obtain ⟨q2, w2, h⟩ := Option.bind_eq_some_iff.1 h
      obtain ⟨a2, b2⟩ := want_rev b1 w2
      obtain ⟨⟨xs, k11⟩, wj, h⟩ := Option.map_eq_some_iff.1 h
      simp only [Prod.mk.injEq] at h
      obtain ⟨rfl, rfl⟩ := h
      obtain ⟨hown, hin⟩ := AllOk_mk.1 hall
      obtain ⟨-, -, -, hs0, ht0, he0⟩ := own_nums hown
      obtain ⟨zs, e1, e2, e3⟩ := hi _ _ _ _ b2 wj
      rw [List.nil_append] at e1
      subst e1
      obtain ⟨r1, r2⟩ := e3 hin
      refine ⟨?_, r2⟩
      rw [a, hK, a0, a1, a2, r1, textC]
      simp [idE, endE]
    have h5 := hK; clear hK
    rw [contP_other h0 h1 h2 h3 h4 h5] at h
    cases h
theorem AllOk_parse {s : ByteArray} {c : Cont} (h : parseC s = some c) : AllOk c ∧ depthC c ≤ 6 ∧ s.size ≤ 256 ∧ contP s (s.size + 1) 0 = some (c, s.size) := by
  unfold parseC at h
  split at h
  · cases h
  · rename_i h1
    split at h
    · rename_i c' k' h2
      split at h
      · rename_i h3
        cases h
        obtain ⟨rfl, h4⟩ := h3
        obtain ⟨h5, h6⟩ := ok_of_bad h4
        exact ⟨h5, h6, by omega, h2⟩
      · cases h
    · cases h
/-- A text that is parsed is the text of what it was parsed as. -/
theorem text_parse {s : ByteArray} {c : Cont} (h : parseC s = some c) : textC c = s := by
  obtain ⟨h1, h2, h3, h4⟩ := AllOk_parse h
  obtain ⟨h5, -⟩ := (read_back s _).1 0 s.size c (Nat.zero_le _) h4 h1
  apply ba_ext
  have e1 : restL s 0 = s.data.toList := by unfold restL; simp
  have e2 : restL s s.size = [] := by unfold restL; rw [← ba_size]; simp
  rw [e1, e2, List.append_nil] at h5
  exact h5.symm
/-- The text of a valid content is parsed as this content. -/
theorem parse_text {c : Cont} (h : badC c = false) (hs : (textC c).size ≤ 256) : parseC (textC c) = some c := by
  obtain ⟨h1, h2⟩ := ok_of_bad h
  have h3 := reads_all (textC c) (szC c + 1) c (by omega) h1 0 ((textC c).size + 1) [] (by unfold restL; simp) (.inl rfl) (Nat.zero_le _) (by omega)
  unfold parseC
  rw [if_neg (by omega), h3, Nat.zero_add]
  simp [h]
end Go.Cold
