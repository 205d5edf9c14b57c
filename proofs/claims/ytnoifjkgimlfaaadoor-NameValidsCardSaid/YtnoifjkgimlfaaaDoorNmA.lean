/-
  The walks of package name's and the reference's tests on texts.
-/
import Derived.Test.YtnoifjkgimlfaaaDoorNmSet
namespace Go.Proofs.YtnoifjkgimlfaaaDoor
open Go.RowKit Go.Cold

/-- dots. -/
theorem dots_any (s : ByteArray) (w : World) : Calls Tryd.prog 46 #[.string s] w fun e w' => e = .returned (.bool (dotsB s)) ∧ w = w' := by
  go_enter Tryd.func46, Tryd.ntmps46
  go_wp2
  · have h : s.toList = [46] := by assumption
    go_ret
    exact ⟨ret_bool (by simp [dotsB, h]), rfl⟩
  · go_ret
    exact ⟨rfl, rfl⟩

/-- The reference's 'in'. -/
theorem in_any (s t : ByteArray) (T : List UInt8) (w : World) (hs : s.size ≤ maxLen) (hT : t.data.toList = T) : Calls Tryd.prog 49 #[.string s, .string t] w fun e w' => e = .returned (.bool (inB T s)) ∧ w = w' := by
  subst hT
  unfold maxLen at hs
  go_enter Tryd.func49, Tryd.ntmps49
  go_wp2
  go_loop [5] (fun i => ∃ k : Nat, k ≤ s.size ∧ i = .int .i64 k ∧ Hid ((s.data.toList.take k).all t.data.toList.contains = true)) (fun i => s.size - (intOf i).toNat)
  case atStart => exact ⟨0, Nat.zero_le _, rfl, rfl⟩
  case round =>
    obtain ⟨k, hk, rfl, HA⟩ := hrel
    by_cases hlt : k < s.size
    · obtain ⟨x, hx⟩ : ∃ x : UInt8, s[k]'hlt = x := ⟨_, rfl⟩
      have hxl : s.data.toList[k]? = some x := by rw [← hx]; exact Lib.data_getElem? s k hlt
      have HX := Lib.hid hxl; clear hxl
      go_wp2_with (go_at_call 44; refine (Tryd.strings_IndexByte _ _ _).mono ?_; rintro e w' ⟨rfl, rfl⟩)
      · have hn : Lib.indexByte t.data.toList x < 0 := by assumption
        go_ret
        exact ⟨ret_bool (all_stop HX.out (by rw [Lib.contains_iff_indexByte]; simp; omega)).symm, rfl⟩
      · have hn : 0 ≤ Lib.indexByte t.data.toList x := by assumption
        go_round
        case rel => exact ⟨k + 1, by omega, by go_num, all_step HA.out HX.out (by rw [Lib.contains_iff_indexByte]; simpa using hn)⟩
        case measure => simp [intOf]; omega
    · go_wp2
      go_ret
      exact ⟨ret_bool (all_end HA.out (by rw [ba_size]; omega)).symm, rfl⟩

/-- The reference's Printable. -/
theorem Printable_any (s : ByteArray) (w : World) (hs : s.size ≤ maxLen) : Calls Tryd.prog 56 #[.string s] w fun e w' => e = .returned (.bool (printB s)) ∧ w = w' := by
  unfold maxLen at hs
  go_enter Tryd.func56, Tryd.ntmps56
  go_wp2
  go_loop [3] (fun i => ∃ k : Nat, k ≤ s.size ∧ i = .int .i64 k ∧ Hid ((s.data.toList.take k).all printP = true)) (fun i => s.size - (intOf i).toNat)
  case atStart => exact ⟨0, Nat.zero_le _, rfl, rfl⟩
  case round =>
    obtain ⟨k, hk, rfl, HA⟩ := hrel
    by_cases hlt : k < s.size
    · obtain ⟨x, hx⟩ : ∃ x : UInt8, s[k]'hlt = x := ⟨_, rfl⟩
      have hxl : s.data.toList[k]? = some x := by rw [← hx]; exact Lib.data_getElem? s k hlt
      have HX := Lib.hid hxl; clear hxl
      go_wp2
      · go_ret
        exact ⟨ret_bool (all_stop HX.out (by simp [printP]; omega)).symm, rfl⟩
      · have hh : (32 : Int) ≤ (x.toNat : Int) ∧ (x.toNat : Int) ≤ 126 := by assumption
        go_round
        case rel => exact ⟨k + 1, by omega, by go_num, all_step HA.out HX.out (by simp [printP]; omega)⟩
        case measure => simp [intOf]; omega
      · go_ret
        exact ⟨ret_bool (all_stop HX.out (by simp [printP]; omega)).symm, rfl⟩
    · go_wp2
      go_ret
      exact ⟨ret_bool (all_end HA.out (by rw [ba_size]; omega)).symm, rfl⟩

/-- name.Text. -/
theorem Text_any (s : ByteArray) (w : World) (hs : s.size ≤ maxLen) : Calls Tryd.prog 33 #[.string s] w fun e w' => e = .returned (.bool (textB s)) ∧ w = w' := by
  unfold maxLen at hs
  go_enter Tryd.func33, Tryd.ntmps33
  go_wp2
  go_loop [6] (fun i => ∃ k : Nat, k ≤ s.size ∧ i = .int .i64 k ∧ Hid ((s.data.toList.take k).all printP = true)) (fun i => s.size - (intOf i).toNat)
  case atStart => exact ⟨0, Nat.zero_le _, rfl, rfl⟩
  case round =>
    obtain ⟨k, hk, rfl, HA⟩ := hrel
    by_cases hlt : k < s.size
    · obtain ⟨x, hx⟩ : ∃ x : UInt8, s[k]'hlt = x := ⟨_, rfl⟩
      have hxl : s.data.toList[k]? = some x := by rw [← hx]; exact Lib.data_getElem? s k hlt
      have HX := Lib.hid hxl; clear hxl
      go_wp2
      · go_ret
        exact ⟨ret_bool (textB_no (all_stop HX.out (by simp [printP]; omega))), rfl⟩
      · have hh : (32 : Int) ≤ (x.toNat : Int) ∧ (x.toNat : Int) ≤ 126 := by assumption
        go_round
        case rel => exact ⟨k + 1, by omega, by go_num, all_step HA.out HX.out (by simp [printP]; omega)⟩
        case measure => simp [intOf]; omega
      · go_ret
        exact ⟨ret_bool (textB_no (all_stop HX.out (by simp [printP]; omega))), rfl⟩
    · go_wp2
      go_ret
      exact ⟨ret_bool (textB_yes (all_end HA.out (by rw [ba_size]; omega))), rfl⟩

/-- The reference's Text. -/
theorem RText_any (s : ByteArray) (w : World) (hs : s.size ≤ maxLen) : Calls Tryd.prog 34 #[.string s] w fun e w' => e = .returned (.bool (textB s)) ∧ w = w' := by
  go_enter Tryd.func34, Tryd.ntmps34
  go_wp2_with (go_at_call 56; refine (Printable_any _ _ hs).mono ?_; rintro e w' ⟨rfl, rfl⟩)
  · have h : printB s = true := by assumption
    go_ret
    exact ⟨ret_bool (textB_yes h), rfl⟩
  · have h : ¬ printB s = true := by assumption
    go_ret
    exact ⟨ret_bool (textB_no (Bool.eq_false_iff.2 h)), rfl⟩

/-- name.Number. -/
theorem Number_any (s : ByteArray) (w : World) (hs : s.size ≤ maxLen) : Calls Tryd.prog 24 #[.string s] w fun e w' => e = .returned (.string (numB s)) ∧ Below w.heap.size w w' := by
  have hs' := hs; unfold maxLen at hs'
  have hle := trimRightS_le s.data.toList digitL
  rw [ba_size] at hle
  go_enter Tryd.func24, Tryd.ntmps24
  go_wp2_with (go_at_call 50; go_must (refine (Tryd.strings_TrimRight_set _ _ _ (by omega) (by decide) (fun j b hj => of_decide_eq_true (List.all_eq_true.1 (by decide : digitL.all (fun b => decide (b.toNat < 128)) = true) b (List.mem_of_getElem? hj)))).mono ?_); rintro e w1 ⟨rfl, hb1⟩)
  go_ret
  exact ⟨rfl, hb1⟩

/-- The reference's Number. -/
theorem RNumber_any (s : ByteArray) (w : World) (hs : s.size ≤ maxLen) : Calls Tryd.prog 25 #[.string s] w fun e w' => e = .returned (.string (numB s)) ∧ w = w' := by
  unfold maxLen at hs
  go_enter Tryd.func25, Tryd.ntmps25
  go_wp2
  go_loop [3] (fun i => ∃ k : Nat, k ≤ s.size ∧ i = .int .i64 k ∧ Hid ((s.data.toList.drop k).all digitL.contains = true)) (fun i => (intOf i).toNat)
  case atStart => exact ⟨s.size, Nat.le_refl _, rfl, by rw [← ba_size, List.drop_length]; rfl⟩
  case round =>
    obtain ⟨k, hk, rfl, HA⟩ := hrel
    by_cases hlt : 0 < k
    · obtain ⟨j, rfl⟩ : ∃ j, k = j + 1 := ⟨k - 1, by omega⟩
      have hjs : j < s.size := by omega
      obtain ⟨x, hx⟩ : ∃ x : UInt8, s[j]'hjs = x := ⟨_, rfl⟩
      have hxl : s.data.toList[j]? = some x := by rw [← hx]; exact Lib.data_getElem? s j hjs
      have HX := Lib.hid hxl; clear hxl
      go_wp2
      · have h1 : (48 : Int) ≤ (x.toNat : Int) := by assumption
        have h2 : (x.toNat : Int) ≤ 57 := by assumption
        go_round
        case rel =>
          refine ⟨j, by omega, rfl, ?_⟩
          show _ = true
          rw [List.drop_eq_getElem_cons (by rw [ba_size]; exact hjs), List.all_cons, HA.out, Bool.and_true]
          have := HX.out
          rw [List.getElem?_eq_getElem (by rw [ba_size]; exact hjs)] at this
          rw [Option.some.inj this, digit_iff]; simp <;> omega
        case measure => simp [intOf] <;> omega
      · go_ret
        exact ⟨ret_str (numB_stop hjs HA.out HX.out (by omega)), rfl⟩
      · go_ret
        exact ⟨ret_str (numB_stop hjs HA.out HX.out (by omega)), rfl⟩
    · obtain rfl : k = 0 := by omega
      go_wp2
      go_ret
      exact ⟨ret_str (numB_all HA.out), rfl⟩
end Go.Proofs.YtnoifjkgimlfaaaDoor
