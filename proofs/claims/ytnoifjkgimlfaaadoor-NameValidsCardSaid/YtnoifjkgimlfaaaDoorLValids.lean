/-
  NameValids answers true for every text: program and reference agree on names, keys, texts, interface names and link names.
  Conditions: those of the given row and card, nothing else.
-/
import Derived.Test.YtnoifjkgimlfaaaDoorNmK
import Derived.Test.YtnoifjkgimlfaaaDoorNmT
namespace Go.Proofs.YtnoifjkgimlfaaaDoor
open Go.RowKit Go.Cold

theorem lawValids_any (s : ByteArray) (w : World) (hok : Ok w) (hs : s.size ≤ maxLen) : Calls Tryd.prog 11 #[.string s] w fun e w' => e = .returned (.bool true) ∧ Below w.heap.size w w' := by
  have HOK := Lib.hid hok; clear hok
  by_cases hl : s.size ≤ 600
  · have HS := Lib.hid (show s.size < 4294967281 by omega)
    obtain ⟨b1, h1⟩ : ∃ b, validB s = b := ⟨_, rfl⟩
    obtain ⟨b2, h2⟩ : ∃ b, keyB s = b := ⟨_, rfl⟩
    obtain ⟨b3, h3⟩ : ∃ b, textB s = b := ⟨_, rfl⟩
    obtain ⟨b4, h4⟩ : ∃ b, ifaceB s = b := ⟨_, rfl⟩
    obtain ⟨b5, h5⟩ : ∃ b, linkB s = b := ⟨_, rfl⟩
    have H1 := Lib.hid h1; have H2 := Lib.hid h2; have H3 := Lib.hid h3; have H4 := Lib.hid h4; have H5 := Lib.hid h5
    clear h1 h2 h3 h4 h5
    go_enter Tryd.func11, Tryd.ntmps11
    go_wp2_with fail
    refine (Valid_any s _ hs).mono ?_; rintro e w1 ⟨rfl, hb1⟩
    rw [H1.out]
    have HOK1 := Lib.hid (HOK.out.next hb1); clear HOK
    go_wp2_with fail
    refine (RValid_any s _ hs).mono ?_; rintro e w2 ⟨rfl, rfl⟩
    rw [H1.out]
    go_wp2_with fail
    refine (Key_any s _ hs).mono ?_; rintro e w2 ⟨rfl, hb2⟩
    rw [H2.out]
    have hb3 := hb1.trans (hb2.mono hb1.size)
    have HOK2 := Lib.hid (HOK1.out.next hb2); clear HOK1 hb1 hb2
    go_wp2_with fail
    refine (RKey_any s _ hs).mono ?_; rintro e w3 ⟨rfl, rfl⟩
    rw [H2.out]
    go_wp2_with fail
    refine (Text_any s _ hs).mono ?_; rintro e w3 ⟨rfl, rfl⟩
    rw [H3.out]
    go_wp2_with fail
    refine (RText_any s _ hs).mono ?_; rintro e w3 ⟨rfl, rfl⟩
    rw [H3.out]
    go_wp2_with fail
    refine (Interface_any s _ hs).mono ?_; rintro e w3 ⟨rfl, hb4⟩
    rw [H4.out]
    have hb5 := hb3.trans (hb4.mono hb3.size)
    have HOK3 := Lib.hid (HOK2.out.next hb4); clear HOK2 hb3 hb4
    go_wp2_with fail
    refine (RInterface_any s _ hs).mono ?_; rintro e w4 ⟨rfl, rfl⟩
    rw [H4.out]
    go_wp2_with fail
    refine (Link_any s _ HS.out HOK3.out).mono ?_; rintro e w4 ⟨rfl, hb6⟩
    rw [H5.out]
    have hb7 := hb5.trans (hb6.mono hb5.size)
    have HOK4 := Lib.hid (HOK3.out.next hb6); clear HOK3 hb5 hb6
    go_wp2_with fail
    refine (RLink_any s _ HS.out HOK4.out).mono ?_; rintro e w5 ⟨rfl, hb8⟩
    rw [H5.out]
    have hb9 := hb7.trans (hb8.mono hb7.size)
    have HOK5 := Lib.hid (HOK4.out.next hb8); clear HOK4 hb7 hb8
    go_wp2_with fail
    refine (known_any _ HOK5.out).mono ?_; rintro e w6 ⟨rfl, hb10⟩
    go_wp2
    go_ret
    exact ⟨rfl, hb9.trans (hb10.mono hb9.size)⟩
  · go_enter Tryd.func11, Tryd.ntmps11
    go_wp2_with fail
    refine (known_any _ HOK.out).mono ?_
    rintro e w1 ⟨rfl, hb1⟩
    go_wp2
    go_ret
    exact ⟨rfl, hb1⟩
end Go.Proofs.YtnoifjkgimlfaaaDoor
