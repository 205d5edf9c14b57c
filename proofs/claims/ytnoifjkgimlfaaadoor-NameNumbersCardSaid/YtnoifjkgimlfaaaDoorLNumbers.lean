/-
  NameNumbers answers true for every text: program and reference find the same digits at its end.
  Conditions: those of the given row and card, nothing else.
-/
import Derived.Test.YtnoifjkgimlfaaaDoorNmK
namespace Go.Proofs.YtnoifjkgimlfaaaDoor
open Go.RowKit Go.Cold

theorem numB_suffix (s : ByteArray) : Lib.hasSuffix s.data.toList (numB s).data.toList = true := by
  unfold numB Lib.hasSuffix
  rw [Lib.extract_data]
  have h : ∀ (l : List UInt8) (k m : Nat), l.length ≤ m → (List.isSuffixOf ((l.drop k).take (m - k)) l) = true := by
    intro l k m hm
    rw [List.take_of_length_le (by simp; omega)]
    exact List.isSuffixOf_iff_suffix.2 (List.drop_suffix _ _)
  exact h _ _ _ (by rw [ba_size]; exact Nat.le_refl _)

theorem lawNumbers_any (s : ByteArray) (w : World) (hok : Ok w) (hs : s.size ≤ maxLen) : Calls Tryd.prog 8 #[.string s] w fun e w' => e = .returned (.bool true) ∧ Below w.heap.size w w' := by
  have HOK := Lib.hid hok; clear hok
  by_cases hl : s.size ≤ 600
  · go_enter Tryd.func8, Tryd.ntmps8
    go_wp2_with fail
    refine (Number_any s _ hs).mono ?_; rintro e w1 ⟨rfl, hb1⟩
    have hsuf := numB_suffix s
    obtain ⟨n, hn⟩ : ∃ n, numB s = n := ⟨_, rfl⟩
    rw [hn] at hsuf ⊢
    have HN := Lib.hid hn; clear hn
    have HS := Lib.hid hsuf; clear hsuf
    go_wp2_with fail
    refine (RNumber_any s _ hs).mono ?_; rintro e w2 ⟨rfl, rfl⟩
    rw [HN.out]
    go_wp2_with fail
    refine (Tryd.strings_HasSuffix s n _ (by omega)).mono ?_; rintro e w2 ⟨rfl, rfl⟩
    rw [HS.out]
    go_wp2_with fail
    refine (known_any _ (HOK.out.next hb1)).mono ?_; rintro e w2 ⟨rfl, hb2⟩
    go_wp2
    go_ret
    exact ⟨rfl, hb1.trans (hb2.mono hb1.size)⟩
  · go_enter Tryd.func8, Tryd.ntmps8
    go_wp2_with fail
    refine (known_any _ HOK.out).mono ?_
    rintro e w1 ⟨rfl, hb1⟩
    go_wp2
    go_ret
    exact ⟨rfl, hb1⟩
end Go.Proofs.YtnoifjkgimlfaaaDoor
