/-
  The plain side of layer 1, on: the laws of the order of paths. No program is named here.
-/
import Derived.Test.YtnoifjkgimlfaaaDoorNmS
import Derived.Test.YtnoifjkgimlfaaaDoorNmQ
namespace Go.Cold
open Go Go.RowKit

/-- A way to compare that is a total order. -/
structure Total {α : Type} (f : α → α → Int) : Prop where
  zero : ∀ a b, f a b = 0 ↔ a = b
  anti : ∀ a b, f b a = - f a b
  lt : ∀ a b c, f a b < 0 → f b c < 0 → f a c < 0
def cmpG {α : Type} (f : α → α → Int) : List α → List α → Int
  | [], [] => 0
  | [], _ :: _ => -1
  | _ :: _, [] => 1
  | x :: xs, y :: ys => if f x y = 0 then cmpG f xs ys else f x y
theorem cmpG_zero {α : Type} {f : α → α → Int} (h : Total f) : ∀ xs ys, cmpG f xs ys = 0 ↔ xs = ys
  | [], [] => by simp [cmpG]
  | [], _ :: _ => by simp [cmpG]
  | _ :: _, [] => by simp [cmpG]
  | x :: xs, y :: ys => by
    rw [cmpG]
    split
    · rename_i h0
      rw [(h.zero _ _).1 h0, cmpG_zero h xs ys]; simp
    · rename_i h0
      have : ¬ x = y := fun e => h0 ((h.zero _ _).2 e)
      simp [this, h0]
theorem cmpG_anti {α : Type} {f : α → α → Int} (h : Total f) : ∀ xs ys, cmpG f ys xs = - cmpG f xs ys
  | [], [] => by simp [cmpG]
  | [], _ :: _ => by simp [cmpG]
  | _ :: _, [] => by simp [cmpG]
  | x :: xs, y :: ys => by
    rw [cmpG, cmpG, h.anti x y, cmpG_anti h xs ys]
    by_cases h0 : f x y = 0
    · rw [if_pos h0, if_pos (by omega)]
    · rw [if_neg h0, if_neg (by omega)]
theorem cmpG_lt {α : Type} {f : α → α → Int} (h : Total f) : ∀ xs ys zs, cmpG f xs ys < 0 → cmpG f ys zs < 0 → cmpG f xs zs < 0
  | _, [], [], _, h2 => by simp [cmpG] at h2
  | [], _, _ :: _, _, _ => by simp [cmpG]
  | [], _ :: _, [], _, h2 => by simp [cmpG] at h2
  | _ :: _, [], _, h1, _ => by simp [cmpG] at h1
  | _ :: _, _ :: _, [], _, h2 => by simp [cmpG] at h2
  | x :: xs, y :: ys, z :: zs, h1, h2 => by
    have ih := cmpG_lt h xs ys zs
    rw [cmpG] at h1 h2 ⊢
    by_cases hxy : f x y = 0
    · rw [if_pos hxy] at h1
      obtain rfl := (h.zero _ _).1 hxy
      by_cases hyz : f x z = 0
      · rw [if_pos hyz] at h2 ⊢
        exact ih h1 h2
      · rw [if_neg hyz] at h2 ⊢
        exact h2
    · rw [if_neg hxy] at h1
      by_cases hyz : f y z = 0
      · obtain rfl := (h.zero _ _).1 hyz
        rw [if_neg hxy]; exact h1
      · rw [if_neg hyz] at h2
        have := h.lt _ _ _ h1 h2
        rw [if_neg (by omega)]; exact this
theorem Total.list {α : Type} {f : α → α → Int} (h : Total f) : Total (cmpG f) := ⟨cmpG_zero h, cmpG_anti h, cmpG_lt h⟩
def byteC (a b : UInt8) : Int := if a < b then -1 else if b < a then 1 else 0
theorem byteC_total : Total byteC where
  zero a b := by
    unfold byteC
    constructor
    · intro h
      split at h
      · cases h
      · split at h
        · cases h
        · exact UInt8.le_antisymm (UInt8.not_lt.1 (by assumption)) (UInt8.not_lt.1 (by assumption))
    · rintro rfl
      rw [if_neg (UInt8.lt_irrefl _), if_neg (UInt8.lt_irrefl _)]
  anti a b := by
    unfold byteC
    by_cases h1 : a < b
    · have h2 : ¬ b < a := fun h => UInt8.lt_irrefl _ (UInt8.lt_trans h1 h)
      rw [if_neg h2, if_pos h1, if_pos h1]; rfl
    · by_cases h2 : b < a
      · rw [if_pos h2, if_neg h1, if_pos h2]
      · rw [if_neg h2, if_neg h1, if_neg h1, if_neg h2]; rfl
  lt a b c h1 h2 := by
    have e : ∀ x y : UInt8, byteC x y < 0 → x < y := by
      intro x y h
      unfold byteC at h
      split at h
      · assumption
      · split at h <;> simp at h
    have := UInt8.lt_trans (e _ _ h1) (e _ _ h2)
    unfold byteC
    rw [if_pos this]; decide
theorem compareBytes_G : ∀ x y : List UInt8, Lib.compareBytes x y = cmpG byteC x y
  | [], [] => rfl
  | [], _ :: _ => rfl
  | _ :: _, [] => rfl
  | a :: x, b :: y => by
    have ih := compareBytes_G x y
    unfold Lib.compareBytes
    rw [cmpG]
    by_cases h1 : a < b
    · simp [h1, byteC]
    · by_cases h2 : b < a
      · have hne : ¬ a = b := by rintro rfl; exact UInt8.lt_irrefl _ h2
        simp [h1, h2, byteC, hne]
      · have he : a = b := UInt8.le_antisymm (UInt8.not_lt.1 h2) (UInt8.not_lt.1 h1)
        subst he
        rw [if_pos ((byteC_total.zero _ _).2 rfl)]
        simp [ih]
theorem cmpB_total : Total cmpB where
  zero a b := ⟨cmpB_zero, cmpB_eq⟩
  anti a b := by unfold cmpB; rw [compareBytes_G, compareBytes_G]; exact byteC_total.list.anti _ _
  lt a b c h1 h2 := by
    unfold cmpB at *
    rw [compareBytes_G] at *
    exact byteC_total.list.lt _ _ _ h1 h2
theorem cmpL_G : ∀ xs ys : List ByteArray, cmpL xs ys = cmpG cmpB xs ys
  | [], [] => rfl
  | [], _ :: _ => rfl
  | _ :: _, [] => rfl
  | x :: xs, y :: ys => by rw [cmpL, cmpG, cmpL_G xs ys]
theorem cmpL_total : Total cmpL where
  zero a b := ⟨cmpL_zero, cmpL_same⟩
  anti a b := by rw [cmpL_G, cmpL_G]; exact cmpB_total.list.anti _ _
  lt a b c h1 h2 := by
    rw [cmpL_G] at *
    exact cmpB_total.list.lt _ _ _ h1 h2
theorem cmpL_cases : ∀ xs ys : List ByteArray, cmpL xs ys = -1 ∨ cmpL xs ys = 0 ∨ cmpL xs ys = 1
  | [], [] => by simp [cmpL]
  | [], _ :: _ => by simp [cmpL]
  | _ :: _, [] => by simp [cmpL]
  | x :: xs, y :: ys => by
    rw [cmpL]
    split
    · exact cmpL_cases xs ys
    · exact cmpB_cases x y
theorem between : ∀ (xs ys t : List ByteArray), cmpL xs ys < 0 → cmpL ys (xs ++ t) ≤ 0 → xs.length < ys.length ∧ ys.take xs.length = xs
  | [], [], _, h, _ => by simp [cmpL] at h
  | [], _ :: _, _, _, _ => by simp
  | _ :: _, [], _, h, _ => by simp [cmpL] at h
  | x :: xs, y :: ys, t, h1, h2 => by
    rw [List.cons_append] at h2
    rw [cmpL] at h1 h2
    by_cases h0 : cmpB x y = 0
    · rw [if_pos h0] at h1
      obtain rfl := cmpB_zero h0
      rw [if_pos h0] at h2
      have ih := between xs ys t h1 h2
      simp [ih.1, ih.2]
    · rw [if_neg h0] at h1
      have ha := cmpB_total.anti x y
      rw [if_neg (by omega)] at h2
      omega
theorem under_between {xs ys zs : List ByteArray} (hu : underL xs zs = true) (h1 : cmpL xs ys < 0) (h2 : cmpL ys zs ≤ 0) : underL xs ys = true := by
  unfold underL at *
  rw [decide_eq_true_eq] at *
  obtain ⟨_, ht⟩ := hu
  have e : zs = xs ++ zs.drop xs.length := by
    conv => lhs; rw [← List.take_append_drop xs.length zs, ht]
  rw [e] at h2
  exact between xs ys _ h1 h2
theorem pathOf_inj {a b : ByteArray} {xs : List ByteArray} (ha : pathOf a = some xs) (hb : pathOf b = some xs) : a = b := by
  obtain ⟨h1, h2, _⟩ := pathOf_some ha
  obtain ⟨h3, h4, _⟩ := pathOf_some hb
  apply ba_ext
  rw [slash_cons h1, slash_cons h3]
  have e1 := joinB_pieces (restOf a).data.toList
  have e2 := joinB_pieces (restOf b).data.toList
  rw [← h2] at e1; rw [← h4] at e2
  rw [e1] at e2
  have := congrArg (fun x : ByteArray => x.data.toList) e2
  rw [show (47 :: (restOf a).data.toList) = 47 :: (restOf b).data.toList from congrArg _ this]
/-- What the order of paths answers, at once. -/
def cmpV (a b : ByteArray) : Int := match pathOf a, pathOf b with
  | some xs, some ys => cmpL xs ys
  | _, _ => 0
def cmpE (a b : ByteArray) : Int := match pathOf a, pathOf b with
  | some _, some _ => 0
  | _, _ => 10
def undV (a b : ByteArray) : Bool := match pathOf a, pathOf b with
  | some xs, some ys => underL xs ys
  | _, _ => false
theorem cmpE_cases (a b : ByteArray) : cmpE a b = 0 ∨ cmpE a b = 10 := by
  unfold cmpE; split <;> simp
theorem cmpE_zero {a b : ByteArray} (h : cmpE a b = 0) : ∃ xs ys, pathOf a = some xs ∧ pathOf b = some ys := by
  unfold cmpE at h
  split at h
  · rename_i xs ys h1 h2; exact ⟨xs, ys, h1, h2⟩
  · cases h
/-- The laws of the order, for three paths: which signs can be. -/
theorem order_cases {a b c : ByteArray} (h1 : cmpE a b = 0) (h2 : cmpE b c = 0) : cmpE a c = 0 ∧ cmpE b a = 0 ∧ cmpV b a = - cmpV a b ∧
    ((cmpV a b = -1 ∧ ¬ a = b ∧ ((cmpV b c = -1 ∧ cmpV a c = -1 ∧ (undV a c = true → undV a b = true)) ∨ (cmpV b c = 0 ∧ cmpV a c = -1 ∧ (undV a c = true → undV a b = true)) ∨ (cmpV b c = 1 ∧ (cmpV a c = -1 ∨ cmpV a c = 0 ∨ cmpV a c = 1)))) ∨
     (cmpV a b = 0 ∧ a = b ∧ ((cmpV b c = -1 ∧ cmpV a c = -1) ∨ (cmpV b c = 0 ∧ cmpV a c = 0) ∨ (cmpV b c = 1 ∧ cmpV a c = 1))) ∨
     (cmpV a b = 1 ∧ ¬ a = b ∧ ((cmpV b c = -1 ∧ (cmpV a c = -1 ∨ cmpV a c = 0 ∨ cmpV a c = 1)) ∨ (cmpV b c = 0 ∧ (cmpV a c = -1 ∨ cmpV a c = 0 ∨ cmpV a c = 1)) ∨ (cmpV b c = 1 ∧ (cmpV a c = -1 ∨ cmpV a c = 0 ∨ cmpV a c = 1))))) := by
  obtain ⟨xs, ys, ha, hb⟩ := cmpE_zero h1
  obtain ⟨ys', zs, hb', hc⟩ := cmpE_zero h2
  rw [hb] at hb'
  obtain rfl := Option.some.inj hb'
  have e1 : cmpV a b = cmpL xs ys := by unfold cmpV; rw [ha, hb]
  have e2 : cmpV b c = cmpL ys zs := by unfold cmpV; rw [hb, hc]
  have e3 : cmpV a c = cmpL xs zs := by unfold cmpV; rw [ha, hc]
  have e4 : cmpV b a = cmpL ys xs := by unfold cmpV; rw [ha, hb]
  have e5 : undV a c = underL xs zs := by unfold undV; rw [ha, hc]
  have e6 : undV a b = underL xs ys := by unfold undV; rw [ha, hb]
  have hne : ∀ h : cmpL xs ys ≠ 0, ¬ a = b := by
    rintro h rfl
    rw [ha] at hb
    obtain rfl := Option.some.inj hb
    exact h (cmpL_same rfl)
  rw [e1, e2, e3, e4, e5, e6]
  refine ⟨by unfold cmpE; rw [ha, hc], by unfold cmpE; rw [ha, hb], cmpL_total.anti _ _, ?_⟩
  have hub : cmpL xs ys < 0 → cmpL ys zs ≤ 0 → underL xs zs = true → underL xs ys = true := fun h1 h2 hu => under_between hu h1 h2
  have hz := cmpL_cases xs zs
  rcases cmpL_cases xs ys with h | h | h
  · refine .inl ⟨h, hne (by omega), ?_⟩
    rcases cmpL_cases ys zs with h' | h' | h'
    · have := cmpL_total.lt xs ys zs (by omega) (by omega)
      exact .inl ⟨h', by omega, hub (by omega) (by omega)⟩
    · obtain rfl := cmpL_zero h'
      exact .inr (.inl ⟨h', h, hub (by omega) (by omega)⟩)
    · exact .inr (.inr ⟨h', hz⟩)
  · obtain rfl := cmpL_zero h
    refine .inr (.inl ⟨h, pathOf_inj ha hb, ?_⟩)
    omega
  · refine .inr (.inr ⟨h, hne (by omega), ?_⟩)
    rcases cmpL_cases ys zs with h' | h' | h'
    · exact .inl ⟨h', hz⟩
    · exact .inr (.inl ⟨h', hz⟩)
    · exact .inr (.inr ⟨h', hz⟩)
end Go.Cold
