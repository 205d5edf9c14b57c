/-
  The walks of layer 7: IDs, numbers within bounds.
-/
import Derived.Test.YtnlocdhhecockaaGreatDoorNmP
import Derived.Test.YtnlocdhhecockaaGreatDoorCnA
set_option linter.unusedSimpArgs false
set_option linter.unusedVariables false
namespace Go.Cold
open Go Go.RowKit
def idL : List UInt8 := upperL ++ lowerL ++ digitL ++ [95, 46, 45]
def idB (s : ByteArray) : Bool := !s.toList.isEmpty && (decide ((s.size : Int) ≤ 16) && inB idL s)
theorem id_iff (x : UInt8) : idL.contains x = decide ((65 ≤ x.toNat ∧ x.toNat ≤ 90) ∨ (97 ≤ x.toNat ∧ x.toNat ≤ 122) ∨ (48 ≤ x.toNat ∧ x.toNat ≤ 57) ∨ x.toNat = 95 ∨ x.toNat = 46 ∨ x.toNat = 45) := by
  have h : ∀ n : Fin 256, idL.contains (UInt8.ofNat n.val) = decide ((65 ≤ n.val ∧ n.val ≤ 90) ∨ (97 ≤ n.val ∧ n.val ≤ 122) ∨ (48 ≤ n.val ∧ n.val ≤ 57) ∨ n.val = 95 ∨ n.val = 46 ∨ n.val = 45) := by decide +kernel
  have := h ⟨x.toNat, UInt8.toNat_lt x⟩
  simpa using this
end Go.Cold
namespace Go.Proofs.YtnlocdhhecockaaGreatDoor
open Go.RowKit Go.Cold

/-- within. -/
theorem within_any (n high : Int) (w : World) : Calls Tryz.prog 47 #[.int .i64 n, .int .i64 high] w fun e w' => e = .returned (.bool (decide (1 ≤ n) && decide (n ≤ high))) ∧ w = w' := by
  go_enter Tryz.func47, Tryz.ntmps47
  by_cases h : 1 ≤ n
  · have h' : decide (1 ≤ n) = true := by simpa using h
    rw [h']
    go_wp2
    go_ret
    exact ⟨by simp, rfl⟩
  · have h' : decide (1 ≤ n) = false := by simpa using h
    rw [h']
    go_wp2
    go_ret
    exact ⟨by simp, rfl⟩

set_option maxRecDepth 100000 in
/-- isID. -/
theorem isID_any (s : ByteArray) (w : World) (hs : s.size ≤ maxLen) : Calls Tryz.prog 45 #[.string s] w fun e w' => e = .returned (.bool (idB s)) ∧ Below w.heap.size w w' := by
  unfold maxLen at hs
  go_enter Tryz.func45, Tryz.ntmps45
  go_wp2_with (with_reducible refine at_dst 6 ?_; go_must (refine wpList_conv_bytes rfl 9 69 5 _ rfl s rfl Tryz.underlying9 Tryz.underlying69 Tryz.underlying5 ?_); intro cap w3 hcap hrow hlt3 hb5)
  have HRow := Lib.hid hrow; clear hrow
  go_loop [8] (fun i => ∃ k : Nat, k ≤ s.size ∧ i = .int .i64 k ∧ Hid ((s.data.toList.take k).all idL.contains = true)) (fun i => s.size - (intOf i).toNat)
  case atStart => exact ⟨0, Nat.zero_le _, rfl, rfl⟩
  case round =>
    obtain ⟨k, hk, rfl, HA⟩ := hrel
    by_cases hlt : k < s.size
    · obtain ⟨x, hx⟩ : ∃ x : UInt8, s[k]'hlt = x := ⟨_, rfl⟩
      have hxl : s.data.toList[k]? = some x := by rw [← hx]; exact Lib.data_getElem? s k hlt
      obtain ⟨hbc, hbf⟩ := HRow.out k x hxl
      have HX := Lib.hid hxl; clear hxl hx
      have i1 : (k : Int) < (s.size : Int) := by omega
      cases hid : idL.contains x with
      | true =>
        have hid2 := hid
        rw [id_iff] at hid2
        have hid3 := of_decide_eq_true hid2
        have HID := Lib.hid hid; clear hid hid2
        have hcase : (65 ≤ (x.toNat : Int) ∧ (x.toNat : Int) ≤ 90) ∨ (97 ≤ (x.toNat : Int) ∧ (x.toNat : Int) ≤ 122) ∨ (48 ≤ (x.toNat : Int) ∧ (x.toNat : Int) ≤ 57) ∨ (x.toNat : Int) = 95 ∨ (x.toNat : Int) = 46 ∨ (x.toNat : Int) = 45 := by omega
        have HCASE := Lib.hid hcase; clear hcase hid3
        go_wp2
        all_goals first
          | (go_round
             case rel => exact ⟨k + 1, by omega, by go_num, all_step HA.out HX.out HID.out⟩
             case measure => simp [intOf]; omega)
          | (exfalso; have hh := HCASE.out; simp at *; omega)
      | false =>
        have hid2 := hid
        rw [id_iff] at hid2
        have hid3 := of_decide_eq_false hid2
        have HID := Lib.hid hid; clear hid hid2
        have hcase : ¬ ((65 ≤ (x.toNat : Int) ∧ (x.toNat : Int) ≤ 90) ∨ (97 ≤ (x.toNat : Int) ∧ (x.toNat : Int) ≤ 122) ∨ (48 ≤ (x.toNat : Int) ∧ (x.toNat : Int) ≤ 57) ∨ (x.toNat : Int) = 95 ∨ (x.toNat : Int) = 46 ∨ (x.toNat : Int) = 45) := by omega
        have HCASE := Lib.hid hcase; clear hcase hid3
        go_wp2
        all_goals first
          | (go_ret
             exact ⟨ret_bool (by rw [idB, show inB idL s = false from all_stop HX.out HID.out]; simp), hb5⟩)
          | (exfalso; have hh := HCASE.out; simp at *; omega)
    · have hall : inB idL s = true := all_end HA.out (by rw [ba_size]; omega)
      cases he : s.toList.isEmpty with
      | true =>
        have he' : s.toList = [] := by simpa using he
        have HE := Lib.hid he; clear he
        go_wp2
        go_ret
        exact ⟨ret_bool (by rw [idB, HE.out]; rfl), hb5⟩
      | false =>
        have he' : ¬ s.toList = [] := by simpa using he
        have he2 : (!s.toList.isEmpty) = true := by rw [he]; rfl
        have HALL := Lib.hid hall; clear hall
        go_wp2
        go_ret
        exact ⟨ret_bool (by rw [idB, HALL.out, he]; simp), hb5⟩
end Go.Proofs.YtnlocdhhecockaaGreatDoor
