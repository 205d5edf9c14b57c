/-
  NameSplits answers true for every text: program and reference find the same names of a path, or none.
  Conditions: those of the given row and card, nothing else.
-/
import Derived.Test.YtnoifjkgimlfaaaDoorNmK
import Derived.Test.YtnoifjkgimlfaaaDoorMake
namespace Go.Proofs.YtnoifjkgimlfaaaDoor
open Go.RowKit Go.Cold

theorem lawSplits_any (s : ByteArray) (w : World) (hok : Ok w) (hs : s.size ≤ maxLen) : Calls Tryd.prog 3 #[.string s] w fun e w' => e = .returned (.bool true) ∧ Below w.heap.size w w' := by
  have HOK := Lib.hid hok; clear hok
  by_cases hl : s.size ≤ 600
  · have HS := Lib.hid (show s.size < 4294967281 by omega)
    go_enter Tryd.func3, Tryd.ntmps3
    go_wp2_with fail
    refine (Split_any s _ HS.out HOK.out).mono ?_; rintro e w1 ⟨hb1, hr⟩
    have HOK1 := Lib.hid (HOK.out.next hb1); clear HOK
    rcases hr with ⟨xs, A, c, hxs, rfl, hsx⟩ | ⟨hn, rfl⟩
    · have HX := Lib.hid hxs; clear hxs
      have HSX := Lib.hid hsx; clear hsx
      go_wp2_with fail
      refine (RSplit_any s _ HS.out HOK1.out).mono ?_; rintro e w2 ⟨hb2, hr⟩
      have hb3 := hb1.trans (hb2.mono hb1.size)
      have HOK2 := Lib.hid (HOK1.out.next hb2); clear HOK1
      have HSX2 := Lib.hid (HSX.out.next (Nat.le_refl _) hb2); clear HSX hb1 hb2
      rcases hr with ⟨ys, B, d, hys, rfl, hsy⟩ | ⟨hn, _⟩
      · rw [HX.out] at hys
        obtain rfl := Option.some.inj hys; clear hys
        have HSY := Lib.hid hsy; clear hsy
        go_wp2_with fail
        refine (SameTexts_any A B c d xs xs w2 _ _ HSX2.out HSY.out).mono ?_; rintro e w3 ⟨rfl, n, rfl⟩
        rw [show decide (xs = xs) = true by simp]
        have hb4 := below_drewN hb3 n
        have HOK3 := Lib.hid (HOK2.out.next (below_drewN_self w2 _ n)); clear HOK2
        go_wp2_with fail
        refine (known_any _ HOK3.out).mono ?_; rintro e w4 ⟨rfl, hb5⟩
        go_wp2
        go_ret
        exact ⟨rfl, hb4.trans (hb5.mono hb4.size)⟩
      · rw [HX.out] at hn; cases hn
    · have HN := Lib.hid hn; clear hn
      go_wp2_with fail
      refine (RSplit_any s _ HS.out HOK1.out).mono ?_; rintro e w2 ⟨hb2, hr⟩
      have hb3 := hb1.trans (hb2.mono hb1.size)
      have HOK2 := Lib.hid (HOK1.out.next hb2); clear HOK1
      rcases hr with ⟨ys, B, d, hys, rfl, hsy⟩ | ⟨hn, rfl⟩
      · rw [HN.out] at hys; cases hys
      · clear hn
        go_wp2_with fail
        refine (known_any _ HOK2.out).mono ?_; rintro e w4 ⟨rfl, hb5⟩
        go_wp2
        go_ret
        exact ⟨rfl, hb3.trans (hb5.mono hb3.size)⟩
  · go_enter Tryd.func3, Tryd.ntmps3
    go_wp2_with fail
    refine (known_any _ HOK.out).mono ?_
    rintro e w1 ⟨rfl, hb1⟩
    go_wp2
    go_ret
    exact ⟨rfl, hb1⟩
end Go.Proofs.YtnoifjkgimlfaaaDoor
