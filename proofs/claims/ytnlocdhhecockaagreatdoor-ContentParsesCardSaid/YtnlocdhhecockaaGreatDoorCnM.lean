/-
  The walks of layer 7's reference: ID.
-/
import Derived.Test.YtnlocdhhecockaaGreatDoorCnH
set_option linter.unusedSimpArgs false
set_option linter.unusedVariables false
namespace Go.Proofs.YtnlocdhhecockaaGreatDoor
open Go.RowKit Go.Cold

theorem IndexByte_at (t : ByteArray) (T : List UInt8) (hT : t.data.toList = T) (x : UInt8) (w : World) : Calls Tryz.prog 48 #[.string t, .int .u8 x.toNat] w fun e w' => e = .returned (.int .i64 (Lib.indexByte T x)) ∧ w' = w := by
  refine (Tryz.strings_IndexByte t x.toNat w).mono ?_
  rintro e w' ⟨rfl, rfl⟩
  rw [hT, show ((x.toNat : Int).toNat).toUInt8 = x by simp]
  exact ⟨rfl, rfl⟩

/-- The reference's ID. -/
theorem RID_any (s : ByteArray) (w : World) (hs : s.size ≤ maxLen) : Calls Tryz.prog 50 #[.string s] w fun e w' => e = .returned (.bool (idB s)) ∧ w = w' := by
  unfold maxLen at hs
  go_enter Tryz.func50, Tryz.ntmps50
  go_wp2_with fail
  go_loop [3] (fun i => ∃ k : Nat, k ≤ s.size ∧ i = .int .i64 k ∧ Hid ((s.data.toList.take k).all idL.contains = true)) (fun i => s.size - (intOf i).toNat)
  case atStart => exact ⟨0, Nat.zero_le _, rfl, rfl⟩
  case round =>
    obtain ⟨k, hk, rfl, HA⟩ := hrel
    by_cases hlt : k < s.size
    · obtain ⟨x, hx⟩ : ∃ x : UInt8, s[k]'hlt = x := ⟨_, rfl⟩
      have hxl : s.data.toList[k]? = some x := by rw [← hx]; exact Lib.data_getElem? s k hlt
      have HX := Lib.hid hxl; clear hxl
      go_wp2_with fail
      refine (IndexByte_at _ idL rfl x _).mono ?_; rintro e w' ⟨rfl, rfl⟩
      have hin := Lib.contains_iff_indexByte idL x
      obtain ⟨z, hz⟩ : ∃ z, Lib.indexByte idL x = z := ⟨_, rfl⟩
      rw [hz] at hin ⊢
      have HIN := Lib.hid hin; clear hin hz
      by_cases hz0 : z < 0
      · have hc : idL.contains x = false := by rw [HIN.out]; simp; omega
        have HC := Lib.hid hc; clear hc
        go_wp2
        go_ret
        exact ⟨ret_bool (by rw [idB, show inB idL s = false from all_stop HX.out HC.out]; simp), rfl⟩
      · have hc : idL.contains x = true := by rw [HIN.out]; simp; omega
        have HC := Lib.hid hc; clear hc
        go_wp2
        go_round
        case rel => exact ⟨k + 1, by omega, by go_num, all_step HA.out HX.out HC.out⟩
        case measure => simp [intOf]; omega
    · have hall : inB idL s = true := all_end HA.out (by rw [ba_size]; omega)
      cases he : s.toList.isEmpty with
      | true =>
        have he' : s.toList = [] := by simpa using he
        have HE := Lib.hid he; clear he
        go_wp2
        go_ret
        exact ⟨ret_bool (by rw [idB, HE.out]; rfl), rfl⟩
      | false =>
        have he' : ¬ s.toList = [] := by simpa using he
        have he2 : (!s.toList.isEmpty) = true := by rw [he]; rfl
        have HALL := Lib.hid hall; clear hall
        go_wp2
        go_ret
        exact ⟨ret_bool (by rw [idB, HALL.out, he]; simp), rfl⟩
end Go.Proofs.YtnlocdhhecockaaGreatDoor
