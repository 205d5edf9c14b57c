/-
  The walks of the tests for names, keys and interface names, and of Beneath.
-/
import Derived.Test.YtnoifjkgimlfaaaDoorNmA
namespace Go.Proofs.YtnoifjkgimlfaaaDoor
open Go.RowKit Go.Cold

/-- name.Valid. -/
theorem Valid_any (s : ByteArray) (w : World) (hs : s.size ≤ maxLen) : Calls Tryd.prog 30 #[.string s] w fun e w' => e = .returned (.bool (validB s)) ∧ Below w.heap.size w w' := by
  go_enter Tryd.func30, Tryd.ntmps30
  go_wp2_with (first
    | (go_at_call 46; go_must (refine (dots_any _ _).mono ?_); rintro e w' ⟨rfl, rfl⟩)
    | (go_at_call 55; go_must (refine (common_any _).mono ?_); rintro e w1 ⟨rfl, hb1⟩)
    | (go_at_call 42; go_must (refine (plus_any _ _ _ (by decide)).mono ?_); rintro e w2 ⟨rfl, hb2⟩)
    | (go_at_call 47; go_must (refine (has_any _ _ _ hs).mono ?_); rintro e w3 ⟨rfl, hb3⟩))
  · go_ret
    exact ⟨ret_bool (by simp [validB, *]), Below.refl _ _⟩
  · go_ret
    exact ⟨ret_bool (by simp [validB, *]), Below.refl _ _⟩
  · go_ret
    refine ⟨ret_bool (by simp [validB, nameL, *]), ?_⟩
    have h2 := hb1.trans (hb2.mono hb1.size)
    exact h2.trans (hb3.mono h2.size)
  · go_ret
    exact ⟨ret_bool (by simp [validB, *]; omega), Below.refl _ _⟩

/-- The reference's Valid. -/
theorem RValid_any (s : ByteArray) (w : World) (hs : s.size ≤ maxLen) : Calls Tryd.prog 21 #[.string s] w fun e w' => e = .returned (.bool (validB s)) ∧ w = w' := by
  go_enter Tryd.func21, Tryd.ntmps21
  go_wp2_with (go_at_call 49; go_must (refine (in_any _ _ nameL _ hs rfl).mono ?_); rintro e w' ⟨rfl, rfl⟩)
  all_goals (go_ret; exact ⟨ret_bool (by first | (simp [validB, dotsB, *]; done) | (simp [validB, dotsB, *]; omega) | simp [validB, dotsB, Bool.and_assoc, *]), rfl⟩)

/-- The reference's Key. -/
theorem RKey_any (s : ByteArray) (w : World) (hs : s.size ≤ maxLen) : Calls Tryd.prog 32 #[.string s] w fun e w' => e = .returned (.bool (keyB s)) ∧ w = w' := by
  by_cases h0 : s.toList = []
  · go_enter Tryd.func32, Tryd.ntmps32
    go_wp2_with fail
    go_ret
    exact ⟨ret_bool (by simp [keyB, h0]), rfl⟩
  have hpos : 0 < s.size := by
    rcases Nat.eq_zero_or_pos s.size with h | h
    · exfalso
      apply h0
      rw [Lib.toList_data]
      exact List.eq_nil_of_length_eq_zero (by rw [ba_size]; exact h)
    · exact h
  have h0' : (!s.toList.isEmpty) = true := by simpa using h0
  by_cases h1 : s.size ≤ 32
  · have e1 : (s.extract 0 1).size ≤ maxLen := by rw [ByteArray.size_extract]; unfold maxLen; omega
    go_enter Tryd.func32, Tryd.ntmps32
    go_wp2_with fail
    refine (in_any _ _ keyL _ hs rfl).mono ?_; rintro e w' ⟨rfl, rfl⟩
    go_wp2_with fail
    · refine (in_any _ _ upperL _ e1 rfl).mono ?_; rintro e w' ⟨rfl, rfl⟩
      go_wp2
      go_ret
      exact ⟨ret_bool (by simp [keyB, *]), rfl⟩
    · go_ret
      exact ⟨ret_bool (by simp [keyB, *]), rfl⟩
  · go_enter Tryd.func32, Tryd.ntmps32
    go_wp2_with fail
    go_ret
    exact ⟨ret_bool (by simp [keyB, *]; omega), rfl⟩

theorem indexByte_contains (l : List UInt8) (c : UInt8) : decide (0 ≤ Lib.indexByte l c) = l.contains c := (Lib.contains_iff_indexByte l c).symm

/-- The reference's Interface. -/
theorem RInterface_any (s : ByteArray) (w : World) (hs : s.size ≤ maxLen) : Calls Tryd.prog 36 #[.string s] w fun e w' => e = .returned (.bool (ifaceB s)) ∧ w = w' := by
  go_enter Tryd.func36, Tryd.ntmps36
  go_wp2_with fail
  refine (RValid_any _ _ hs).mono ?_; rintro e w' ⟨rfl, rfl⟩
  cases hv : validB s with
  | false =>
    have HV := Lib.hid hv; clear hv
    go_wp2
    go_ret
    exact ⟨ret_bool (by rw [ifaceB, HV.out]; rfl), rfl⟩
  | true =>
    have HV := Lib.hid hv; clear hv
    by_cases h1 : s.size ≤ 15
    · go_wp2_with fail
      refine (Tryd.strings_Contains_one _ 58 _).mono ?_; rintro e w' ⟨rfl, rfl⟩
      rw [indexByte_contains]
      cases h2 : s.data.toList.contains 58 with
      | true =>
        have H2 := Lib.hid h2; clear h2
        go_wp2
        go_ret
        exact ⟨ret_bool (by rw [ifaceB, HV.out, H2.out]; simp), rfl⟩
      | false =>
        have H2 := Lib.hid h2; clear h2
        go_wp2_with fail
        refine (Tryd.strings_Contains_one _ 33 _).mono ?_; rintro e w' ⟨rfl, rfl⟩
        rw [indexByte_contains]
        cases h3 : s.data.toList.contains 33 with
        | true =>
          have H3 := Lib.hid h3; clear h3
          go_wp2
          go_ret
          exact ⟨ret_bool (by rw [ifaceB, HV.out, H2.out, H3.out]; simp), rfl⟩
        | false =>
          have H3 := Lib.hid h3; clear h3
          go_wp2
          go_ret
          exact ⟨ret_bool (by rw [ifaceB, HV.out, H2.out, H3.out]; simp; omega), rfl⟩
    · go_wp2
      go_ret
      exact ⟨ret_bool (by rw [ifaceB, HV.out]; simp; omega), rfl⟩

/-- name.Interface. -/
theorem Interface_any (s : ByteArray) (w : World) (hs : s.size ≤ maxLen) : Calls Tryd.prog 35 #[.string s] w fun e w' => e = .returned (.bool (ifaceB s)) ∧ Below w.heap.size w w' := by
  go_enter Tryd.func35, Tryd.ntmps35
  go_wp2_with fail
  refine (Valid_any _ _ hs).mono ?_; rintro e w1 ⟨rfl, hb1⟩
  cases hv : validB s with
  | false =>
    have HV := Lib.hid hv; clear hv
    go_wp2
    go_ret
    exact ⟨ret_bool (by rw [ifaceB, HV.out]; rfl), hb1⟩
  | true =>
    have HV := Lib.hid hv; clear hv
    by_cases h1 : s.size ≤ 15
    · go_wp2_with fail
      refine (Tryd.strings_ContainsAny_laid _ _ _ (by omega) (by decide) (fun j b hj => name_ascii HV.out j b hj) (fun j b hj => of_decide_eq_true (List.all_eq_true.1 (by decide : [58, 33].all (fun b : UInt8 => decide (b.toNat < 128)) = true) b (List.mem_of_getElem? hj)))).mono ?_; rintro e w2 ⟨rfl, hb2⟩
      obtain ⟨c, hc⟩ : ∃ c, Lib.containsAny s.data.toList (ByteArray.mk #[58, 33]).data.toList = c := ⟨_, rfl⟩
      rw [hc]
      have HC := Lib.hid hc; clear hc
      go_wp2
      go_ret
      refine ⟨ret_bool ?_, hb1.trans (hb2.mono hb1.size)⟩
      rw [ifaceB, HV.out, ← iface_any, ← indexAny_any, ← HC.out]
      simp [Lib.containsAny]; omega
    · go_wp2
      go_ret
      exact ⟨ret_bool (by rw [ifaceB, HV.out]; simp; omega), hb1⟩

/-- Beneath. -/
theorem Beneath_any (a b : ByteArray) (w : World) (hs : a.size ≤ 4294967280) : Calls Tryd.prog 19 #[.string a, .string b] w fun e w' => e = .returned (.bool (belowB a b)) ∧ w = w' := by
  go_enter Tryd.func19, Tryd.ntmps19
  go_wp2_with (go_at_call 48; go_must (refine (Tryd.strings_HasPrefix _ _ _).mono ?_); rintro e w' ⟨rfl, rfl⟩)
  go_ret
  exact ⟨rfl, rfl⟩
/-- The reference's Beneath. -/
theorem RBeneath_any (a b : ByteArray) (w : World) (hs : a.size ≤ 4294967280) : Calls Tryd.prog 20 #[.string a, .string b] w fun e w' => e = .returned (.bool (belowB a b)) ∧ w = w' := by
  go_enter Tryd.func20, Tryd.ntmps20
  go_wp2_with (go_at_call 48; go_must (refine (Tryd.strings_HasPrefix _ _ _).mono ?_); rintro e w' ⟨rfl, rfl⟩)
  go_ret
  exact ⟨rfl, rfl⟩
end Go.Proofs.YtnoifjkgimlfaaaDoor
