/-
  NameBeneath answers true for every two texts: whichever lies beneath the other, the program and the reference agree.
  Conditions: those of the given row and card, nothing else.
-/
import Derived.Test.YtnoifjkgimlfaaaDoorNmK
namespace Go.Proofs.YtnoifjkgimlfaaaDoor
open Go.RowKit Go.Cold

theorem below_self (a b : ByteArray) : belowB a (a ++ ⟨#[47]⟩ ++ b) = true := by
  unfold belowB
  rw [ByteArray.data_append, ByteArray.data_append]
  simp
theorem below_not_both (a b : ByteArray) : (belowB a b && belowB b a) = false := by
  cases h1 : belowB a b with
  | false => rfl
  | true =>
    cases h2 : belowB b a with
    | false => rfl
    | true =>
      exfalso
      unfold belowB at h1 h2
      have e1 := (List.isPrefixOf_iff_prefix.1 h1).length_le
      have e2 := (List.isPrefixOf_iff_prefix.1 h2).length_le
      simp at e1 e2
      omega

theorem lawBeneath_any (a b : ByteArray) (w : World) (hok : Ok w) (_ha : a.size ≤ maxLen) (_hb : b.size ≤ maxLen) : Calls Tryd.prog 6 #[.string a, .string b] w fun e w' => e = .returned (.bool true) ∧ Below w.heap.size w w' := by
  have HOK := Lib.hid hok; clear hok
  by_cases ha : a.size ≤ 300
  · by_cases hb : b.size ≤ 300
    · go_enter Tryd.func6, Tryd.ntmps6
      go_wp2_with fail
      refine (Beneath_any a b _ (by omega)).mono ?_; rintro e w' ⟨rfl, rfl⟩
      cases h1 : belowB a b with
      | true =>
        have h2 : belowB b a = false := by
          have := below_not_both a b
          rwa [h1, Bool.true_and] at this
        have H1 := Lib.hid h1; clear h1
        have H2 := Lib.hid h2; clear h2
        go_wp2_with fail
        refine (RBeneath_any a b _ (by omega)).mono ?_; rintro e w' ⟨rfl, rfl⟩
        rw [H1.out]
        go_wp2_with fail
        refine (Beneath_any a _ _ (by omega)).mono ?_; rintro e w' ⟨rfl, rfl⟩
        rw [below_self]
        go_wp2_with fail
        refine (Beneath_any a b _ (by omega)).mono ?_; rintro e w' ⟨rfl, rfl⟩
        rw [H1.out]
        go_wp2_with fail
        refine (Beneath_any b a _ (by omega)).mono ?_; rintro e w' ⟨rfl, rfl⟩
        rw [H2.out]
        go_wp2_with fail
        refine (known_any _ HOK.out).mono ?_; rintro e w1 ⟨rfl, hb1⟩
        go_wp2
        go_ret
        exact ⟨rfl, hb1⟩
      | false =>
        have H1 := Lib.hid h1; clear h1
        go_wp2_with fail
        refine (RBeneath_any a b _ (by omega)).mono ?_; rintro e w' ⟨rfl, rfl⟩
        rw [H1.out]
        go_wp2_with fail
        refine (Beneath_any a _ _ (by omega)).mono ?_; rintro e w' ⟨rfl, rfl⟩
        rw [below_self]
        go_wp2_with fail
        refine (Beneath_any a b _ (by omega)).mono ?_; rintro e w' ⟨rfl, rfl⟩
        rw [H1.out]
        go_wp2_with fail
        refine (known_any _ HOK.out).mono ?_; rintro e w1 ⟨rfl, hb1⟩
        go_wp2
        go_ret
        exact ⟨rfl, hb1⟩
    · go_enter Tryd.func6, Tryd.ntmps6
      go_wp2_with fail
      refine (known_any _ HOK.out).mono ?_
      rintro e w1 ⟨rfl, hb1⟩
      go_wp2
      go_ret
      exact ⟨rfl, hb1⟩
  · go_enter Tryd.func6, Tryd.ntmps6
    go_wp2_with fail
    refine (known_any _ HOK.out).mono ?_
    rintro e w1 ⟨rfl, hb1⟩
    go_wp2
    go_ret
    exact ⟨rfl, hb1⟩

end Go.Proofs.YtnoifjkgimlfaaaDoor
