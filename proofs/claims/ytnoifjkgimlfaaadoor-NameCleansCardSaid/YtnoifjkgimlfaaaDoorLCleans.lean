/-
  NameCleans answers true for every text: program and reference make the same link name of it, or none.
  Conditions: those of the given row and card, nothing else.
-/
import Derived.Test.YtnoifjkgimlfaaaDoorNmK
import Derived.Test.YtnoifjkgimlfaaaDoorNmI
namespace Go.Proofs.YtnoifjkgimlfaaaDoor
open Go.RowKit Go.Cold

theorem lawCleans_any (s : ByteArray) (w : World) (hok : Ok w) (_hs : s.size ≤ maxLen) : Calls Tryd.prog 4 #[.string s] w fun e w' => e = .returned (.bool true) ∧ Below w.heap.size w w' := by
  have HOK := Lib.hid hok; clear hok
  by_cases hl : s.size ≤ 600
  · have HC := Lib.hid (show s.size ≤ 4096 by omega)
    go_enter Tryd.func4, Tryd.ntmps4
    go_wp2_with fail
    refine (Clean_any s _ HC.out HOK.out).mono ?_; rintro e w1 ⟨hb1, rfl⟩
    have HOK1 := Lib.hid (HOK.out.next hb1); clear HOK
    rw [cleanOf_cleanR]
    obtain ⟨o, ho⟩ : ∃ o, cleanR s = o := ⟨_, rfl⟩
    rw [ho]
    have HO := Lib.hid ho; clear ho
    cases o with
    | none =>
      go_wp2_with fail
      refine (RClean_any s _ HC.out HOK1.out).mono ?_; rintro e w2 ⟨hb2, rfl⟩
      rw [HO.out]
      have hb3 := hb1.trans (hb2.mono hb1.size)
      have HOK2 := Lib.hid (HOK1.out.next hb2); clear HOK1 hb1 hb2
      go_wp2_with fail
      refine (known_any _ HOK2.out).mono ?_; rintro e w3 ⟨rfl, hb4⟩
      go_wp2
      go_ret
      exact ⟨rfl, hb3.trans (hb4.mono hb3.size)⟩
    | some t =>
      go_wp2_with fail
      refine (RClean_any s _ HC.out HOK1.out).mono ?_; rintro e w2 ⟨hb2, rfl⟩
      rw [HO.out]
      have hb3 := hb1.trans (hb2.mono hb1.size)
      have HOK2 := Lib.hid (HOK1.out.next hb2); clear HOK1 hb1 hb2
      go_wp2_with fail
      refine (known_any _ HOK2.out).mono ?_; rintro e w3 ⟨rfl, hb4⟩
      go_wp2
      go_ret
      exact ⟨rfl, hb3.trans (hb4.mono hb3.size)⟩
  · go_enter Tryd.func4, Tryd.ntmps4
    go_wp2_with fail
    refine (known_any _ HOK.out).mono ?_
    rintro e w1 ⟨rfl, hb1⟩
    go_wp2
    go_ret
    exact ⟨rfl, hb1⟩
end Go.Proofs.YtnoifjkgimlfaaaDoor
