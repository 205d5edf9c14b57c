/-
  The examples of the chapter: 'known' answers true.
-/
import Derived.Test.YtnoifjkgimlfaaaDoorNmH
namespace Go.Proofs.YtnoifjkgimlfaaaDoor
open Go.RowKit Go.Cold

theorem k1 : pathOf ⟨#[47, 97, 47, 98]⟩ = some [⟨#[97]⟩, ⟨#[98]⟩] := by kernel_rfl
theorem k2 : pathOf ⟨#[47, 97, 43, 47, 98]⟩ = some [⟨#[97, 43]⟩, ⟨#[98]⟩] := by kernel_rfl
theorem k3 : cmpL [⟨#[97]⟩, ⟨#[98]⟩] [⟨#[97, 43]⟩, ⟨#[98]⟩] = -1 := by kernel_rfl
theorem k4 : cleanOf ⟨#[100, 105, 115, 107, 47, 47, 98, 121, 32, 105, 100, 47, 46, 47, 120]⟩ = some ⟨#[100, 105, 115, 107, 47, 98, 121, 95, 105, 100, 47, 120]⟩ := by kernel_rfl
theorem k5 : validB ⟨#[99, 99, 105, 115, 115, 33, 99, 48, 100, 48]⟩ = true := by kernel_rfl
theorem k6 : validB ⟨#[46]⟩ = false := by kernel_rfl
theorem k7 : numB ⟨#[115, 100, 97, 49, 50]⟩ = ⟨#[49, 50]⟩ := by kernel_rfl

theorem ok_of_shape (W : World) (h : W.ShapedOpen Tryd.prog) : Ok W := Tryd.laysM146.s1_3 W h

/-- known. -/
theorem known_any (w : World) (hok : Ok w) : Calls Tryd.prog 12 #[] w fun e w' => e = .returned (.bool true) ∧ Below w.heap.size w w' := by
  have HOK := Lib.hid hok; clear hok
  go_enter Tryd.func12, Tryd.ntmps12
  go_wp2_with fail
  refine (Compare_any _ _ w (by decide) (by decide) HOK.out).mono ?_
  rintro e w1 ⟨hb1, hr⟩
  have hr' : e = .returned (.tuple #[.int .i64 (-1), .int .i64 0]) := by
    rcases hr with ⟨xs, ys, h1, h2, rfl⟩ | ⟨hn, _⟩
    · rw [k1] at h1; rw [k2] at h2
      obtain rfl := Option.some.inj h1
      obtain rfl := Option.some.inj h2
      rw [k3]
    · rw [k1, k2] at hn; simp at hn
  subst hr'
  clear hr
  go_wp2_with fail
  refine (Clean_any _ w1 (by decide) (HOK.out.next hb1)).mono ?_
  rintro e w2 ⟨hb2, rfl⟩
  rw [k4]
  have hb3 := hb1.trans (hb2.mono hb1.size)
  clear hb1 hb2
  go_wp2_with fail
  refine (Valid_any _ w2 (by decide)).mono ?_
  rintro e w3 ⟨rfl, hb4⟩
  rw [k5]
  have hb5 := hb3.trans (hb4.mono hb3.size)
  clear hb3 hb4
  go_wp2_with fail
  refine (Valid_any _ w3 (by decide)).mono ?_
  rintro e w4 ⟨rfl, hb6⟩
  rw [k6]
  have hb7 := hb5.trans (hb6.mono hb5.size)
  clear hb5 hb6
  go_wp2_with fail
  refine (Number_any _ w4 (by decide)).mono ?_
  rintro e w5 ⟨rfl, hb8⟩
  rw [k7]
  have hb9 := hb7.trans (hb8.mono hb7.size)
  clear hb7 hb8
  go_wp2
  go_ret
  exact ⟨rfl, hb9⟩
end Go.Proofs.YtnoifjkgimlfaaaDoor
