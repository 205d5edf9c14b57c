/-
  The plain side of layer 7, on: the parser reads the text of a valid content as this content. No program is named here.
-/
import Derived.Test.YtnlocdhhecockaaGreatDoorCrA
namespace Go.Cold
open Go Go.RowKit
def colE : ByteArray := ⟨#[58, 44, 41]⟩
def idE : ByteArray := ⟨#[58, 40, 44, 41]⟩
def endE : ByteArray := ⟨#[44, 41]⟩
theorem id_byte : ∀ n : Fin 256, idL.contains (UInt8.ofNat n.val) = true → colE.data.toList.contains (UInt8.ofNat n.val) = false ∧ idE.data.toList.contains (UInt8.ofNat n.val) = false ∧ endE.data.toList.contains (UInt8.ofNat n.val) = false := by decide +kernel
theorem id_no {i : ByteArray} (h : idB i = true) : ∀ b ∈ i.data.toList, idE.data.toList.contains b = false ∧ endE.data.toList.contains b = false := by
  intro b hb
  unfold idB inB at h
  simp only [Bool.and_eq_true, List.all_eq_true] at h
  have h1 := h.2.2 b hb
  have h2 := id_byte ⟨b.toNat, UInt8.toNat_lt b⟩
  have h3 : UInt8.ofNat b.toNat = b := by simp
  simp only [h3] at h2
  exact (h2 h1).2
def EndR (r : List UInt8) : Prop := r = [] ∨ ∃ b r', r = b :: r' ∧ (b = 44 ∨ b = 41)
theorem EndR.ends {r : List UInt8} (h : EndR r) : EndsIn colE r ∧ EndsIn endE r := by
  rcases h with rfl | ⟨b, r', rfl, rfl | rfl⟩
  · exact ⟨.inl rfl, .inl rfl⟩
  · exact ⟨.inr ⟨_, _, rfl, by decide⟩, .inr ⟨_, _, rfl, by decide⟩⟩
  · exact ⟨.inr ⟨_, _, rfl, by decide⟩, .inr ⟨_, _, rfl, by decide⟩⟩
theorem comma_two (x y : ByteArray) (ys : List ByteArray) : (commaB (x :: y :: ys)).data.toList = x.data.toList ++ 44 :: (commaB (y :: ys)).data.toList := by
  unfold commaB
  simp only [List.map_cons, Lib.join_cons]
  simp [Lib.joinTail]
theorem comma_one (x : ByteArray) : (commaB [x]).data.toList = x.data.toList := by
  unfold commaB
  simp [Lib.join_one]
theorem inner_text (s : ByteArray) : ∀ (xs : List Cont), xs ≠ [] → (∀ x ∈ xs, ∀ (k f : Nat) (r : List UInt8), restL s k = (textC x).data.toList ++ r → EndR r → k ≤ s.size → s.size < f + k → contP s f k = some (x, k + (textC x).size)) →
    ∀ (k f : Nat) (r : List UInt8) (acc : List Cont), restL s k = (commaB (textL xs)).data.toList ++ 41 :: r → k ≤ s.size → s.size + 1 < f + k → innerP s f k acc = some (acc ++ xs, k + (commaB (textL xs)).size + 1)
  | [], h, _ => absurd rfl h
  | [x], _, hx => fun k f r acc h hk hf => by
    obtain ⟨f, rfl⟩ : ∃ g, f = g + 1 := ⟨f - 1, by omega⟩
    have hc : (commaB (textL [x])).data.toList = (textC x).data.toList := by rw [textL, textL, comma_one]
    rw [hc] at h
    have h1 := hx x (by simp) k f _ h (.inr ⟨_, _, rfl, .inr rfl⟩) hk (by omega)
    have h2 := rest_add h
    rw [ba_size] at h2
    rw [innerP, h1]
    simp only [Option.bind_some]
    rw [if_pos (skip_at (t := ⟨#[41]⟩) (by rw [h2]; rfl))]
    have h3 : (commaB (textL [x])).size = (textC x).size := by rw [← ba_size, hc, ba_size]
    rw [h3]
  | x :: y :: ys, _, hx => fun k f r acc h hk hf => by
    obtain ⟨f, rfl⟩ : ∃ g, f = g + 1 := ⟨f - 1, by omega⟩
    have hc : (commaB (textL (x :: y :: ys))).data.toList = (textC x).data.toList ++ 44 :: (commaB (textL (y :: ys))).data.toList := by
      rw [textL, textL, comma_two, ← textL]
    rw [hc, List.append_assoc, List.cons_append] at h
    have h1 := hx x (by simp) k f _ h (.inr ⟨_, _, rfl, .inl rfl⟩) hk (by omega)
    have h2 := rest_add h
    have hl := rest_len hk h
    rw [ba_size] at h2 hl
    have h4 : restL s (k + (textC x).size + 1) = (commaB (textL (y :: ys))).data.toList ++ 41 :: r := rest_add (p := [44]) (by rw [h2]; rfl)
    have hl2 : k + (textC x).size + 1 ≤ s.size := rest_len (p := [44]) hl (by rw [h2]; rfl)
    have ih := inner_text s (y :: ys) (by simp) (fun z hz => hx z (by simp only [List.mem_cons] at hz ⊢; exact .inr hz)) (k + (textC x).size + 1) f r (acc ++ [x]) h4 hl2 (by omega)
    rw [innerP, h1]
    simp only [Option.bind_some]
    rw [if_neg (by rw [skip_no h2 (by decide)]; simp), want_at (t := ⟨#[44]⟩) (by rw [h2]; rfl)]
    simp only [Option.bind_some]
    have h5 : (⟨#[44]⟩ : ByteArray).size = 1 := rfl
    rw [h5, ih]
    have h3 : (commaB (textL (x :: y :: ys))).size = (textC x).size + 1 + (commaB (textL (y :: ys))).size := by
      rw [← ba_size, hc, List.length_append, List.length_cons, ba_size, ba_size]; omega
    rw [h3]
    simp only [List.append_assoc, List.cons_append, List.nil_append, Option.some.injEq, Prod.mk.injEq, true_and]
    omega
end Go.Cold
