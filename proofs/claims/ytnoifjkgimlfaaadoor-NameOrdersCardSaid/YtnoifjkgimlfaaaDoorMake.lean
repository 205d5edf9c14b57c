/-
  The walks of coldplugmake's plain comparisons.
-/
import Derived.Test.YtnoifjkgimlfaaaDoorRows
import Derived.Test.YtnoifjkgimlfaaaDoorBase
namespace Go.Proofs.YtnoifjkgimlfaaaDoor
open Go.RowKit Go.Cold

/-- coldplugmake.SameTexts. -/
theorem SameTexts_any (A B : Option Addr) (c d : Nat) (xs ys : List ByteArray) (w : World) (b1 b2 : Nat) (hx : Sl w b1 A c xs) (hy : Sl w b2 B d ys) :
    Calls Tryd.prog 15 #[.slice A xs.length c, .slice B ys.length d] w fun e w' => e = .returned (.bool (decide (xs = ys))) ∧ ∃ n, w' = w.drewN n := by
  have hc := hx.1; have hc2 := hx.2.1; have hd := hy.1; have hd2 := hy.2.1
  unfold maxLen at hc2 hd2
  by_cases hl : xs.length = ys.length
  · have HL := Lib.hid hl
    go_enter Tryd.func15, Tryd.ntmps15
    go_wp2
    clear hl
    go_loopw [5] (fun i wr => ∃ k n : Nat, k ≤ ys.length ∧ i = .int .i64 k ∧ Hid (xs.take k = ys.take k) ∧ wr = w.drewN n) (fun i _ => ys.length - (intOf i).toNat)
    case atStart => exact ⟨0, 0, Nat.zero_le _, rfl, rfl, rfl⟩
    case round =>
      obtain ⟨k, n, hk, rfl, ht, rfl⟩ := hrel
      by_cases hlt : k < ys.length
      · have hlx : k < xs.length := by have := HL.out; omega
        obtain ⟨b3, o3, rfl, _, cx, _⟩ := hx.str hlx
        obtain ⟨b4, o4, rfl, _, cy, _⟩ := hy.str hlt
        have i1 : (k : Int) < (xs.length : Int) := by omega
        have i2 : (k : Int) < (ys.length : Int) := by omega
        go_wp2
        go_quiet (fail)
        go_wp2
        · have hne := ba_ne (by assumption)
          go_ret
          exact ⟨ret_bool (by simp; rintro rfl; exact hne rfl), _, World.drewN_drewN _ _ _⟩
        · have he := ba_eq (by assumption)
          go_roundw
          case rel => exact ⟨k + 1, _, by omega, by go_num, take_succ_iff hlx hlt ht.out he, rfl⟩
          case measure => simp [intOf]; omega
      · have hlx : ¬ k < xs.length := by have := HL.out; omega
        go_wp2
        go_ret
        exact ⟨ret_bool (by simp [take_all ht.out (by omega) (by omega)]), _, rfl⟩
  · go_enter Tryd.func15, Tryd.ntmps15
    go_wp2
    go_ret
    exact ⟨ret_bool (by simp; rintro rfl; exact hl rfl), 0, rfl⟩
end Go.Proofs.YtnoifjkgimlfaaaDoor
