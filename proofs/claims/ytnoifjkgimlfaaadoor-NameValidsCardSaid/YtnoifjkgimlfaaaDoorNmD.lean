/-
  The walks of the comparisons of lists of texts and of paths.
-/
import Derived.Test.YtnoifjkgimlfaaaDoorNmC
import Derived.Test.YtnoifjkgimlfaaaDoorNmQ
namespace Go.Proofs.YtnoifjkgimlfaaaDoor
open Go.RowKit Go.Cold

/-- cmp.Compare at texts. -/
theorem cmpCompare_any (a b : ByteArray) (w : World) : Calls Tryd.prog 72 #[.string a, .string b] w fun e w' => e = .returned (.int .i64 (cmpB a b)) ∧ w = w' := by
  cases hl : Op.bytesLess a.toList b.toList with
  | true =>
    have hc := cmpB_less hl
    have HC := Lib.hid hc; clear hc
    go_enter Tryd.func72, Tryd.ntmps72
    go_wp2
    go_ret
    exact ⟨ret_int HC.out.symm, rfl⟩
  | false =>
    by_cases he : a = b
    · have hc := cmpB_eq he
      have HC := Lib.hid hc; clear hc
      have h2 : (a.toList == b.toList) = true := by rw [ba_beq]; simpa using he
      clear he
      go_enter Tryd.func72, Tryd.ntmps72
      go_wp2
      go_ret
      exact ⟨ret_int HC.out.symm, rfl⟩
    · have hc := cmpB_more hl he
      have HC := Lib.hid hc; clear hc
      have h2 : (a.toList == b.toList) = false := by rw [ba_beq]; simpa using he
      clear he
      go_enter Tryd.func72, Tryd.ntmps72
      go_wp2
      go_ret
      exact ⟨ret_int HC.out.symm, rfl⟩

/-- slices.Compare at lists of texts. -/
theorem slicesCompare_any (A B : Option Addr) (c d : Nat) (xs ys : List ByteArray) (w : World) (b1 b2 : Nat) (hx : Sl w b1 A c xs) (hy : Sl w b2 B d ys) :
    Calls Tryd.prog 52 #[.slice A xs.length c, .slice B ys.length d] w fun e w' => e = .returned (.int .i64 (cmpL xs ys)) ∧ w = w' := by
  have hc := hx.1; have hc2 := hx.2.1; have hd := hy.1; have hd2 := hy.2.1
  unfold maxLen at hc2 hd2
  go_enter Tryd.func52, Tryd.ntmps52
  go_wp2
  go_loop [11] (fun i => ∃ k : Nat, k ≤ xs.length ∧ k ≤ ys.length ∧ i = .int .i64 k ∧ Hid (xs.take k = ys.take k)) (fun i => xs.length - (intOf i).toNat)
  case atStart => exact ⟨0, Nat.zero_le _, Nat.zero_le _, rfl, rfl⟩
  case round =>
    obtain ⟨k, hk, hk', rfl, ht⟩ := hrel
    by_cases hlx : k < xs.length
    · obtain ⟨b3, o3, rfl, _, cx, _⟩ := hx.str hlx
      have i1 : (k : Int) < (xs.length : Int) := by omega
      by_cases hly : k < ys.length
      · obtain ⟨b4, o4, rfl, _, cy, _⟩ := hy.str hly
        have i2 : (k : Int) < (ys.length : Int) := by omega
        go_wp2_with fail
        refine (cmpCompare_any _ _ _).mono ?_
        rintro e w' ⟨rfl, rfl⟩
        by_cases he : xs[k] = ys[k]
        · rw [cmpB_eq he]
          have HE := Lib.hid he; clear he
          go_wp2
          go_round
          case rel => exact ⟨k + 1, by omega, by omega, by go_num, take_succ_iff hlx hly ht.out HE.out⟩
          case measure => simp [intOf]; omega
        · obtain ⟨z, hz⟩ : ∃ z, cmpB xs[k] ys[k] = z := ⟨_, rfl⟩
          have hz0 : ¬ z = 0 := by rw [← hz]; exact cmpB_ne he
          have hcl := cmpL_diff ht.out hlx hly he
          rw [hz] at hcl ⊢
          have HC := Lib.hid hcl; clear hcl hz he
          go_wp2
          go_ret
          exact ⟨ret_int HC.out.symm, rfl⟩
      · go_wp2
        go_ret
        exact ⟨ret_int (cmpL_more ht.out (by omega) (by omega)).symm, rfl⟩
    · go_wp2
      · have hl : xs.length < ys.length := by assumption
        go_ret
        exact ⟨ret_int (cmpL_less ht.out (by omega) hl).symm, rfl⟩
      · have hl : ¬ xs.length < ys.length := by assumption
        go_ret
        exact ⟨ret_int (cmpL_same (take_all ht.out (by omega) (by omega))).symm, rfl⟩
end Go.Proofs.YtnoifjkgimlfaaaDoor
