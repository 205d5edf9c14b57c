/-
  NameLinks answers true for every text: what Clean returns is a link name that Clean leaves as it is, and Clean leaves every link name as it is.
  Conditions: those of the given row and card, nothing else.
-/
import Derived.Test.YtnoifjkgimlfaaaDoorNmK
import Derived.Test.YtnoifjkgimlfaaaDoorNmS
namespace Go.Proofs.YtnoifjkgimlfaaaDoor
open Go.RowKit Go.Cold

theorem lawLinks_any (s : ByteArray) (w : World) (hok : Ok w) (_hs : s.size ≤ maxLen) : Calls Tryd.prog 5 #[.string s] w fun e w' => e = .returned (.bool true) ∧ Below w.heap.size w w' := by
  have HOK := Lib.hid hok; clear hok
  by_cases hl : s.size ≤ 600
  · have HS := Lib.hid (show s.size < 4294967281 by omega)
    have HC := Lib.hid (show s.size ≤ 4096 by omega)
    go_enter Tryd.func5, Tryd.ntmps5
    go_wp2_with fail
    refine (Clean_any s _ HC.out HOK.out).mono ?_; rintro e w1 ⟨hb1, rfl⟩
    have HOK1 := Lib.hid (HOK.out.next hb1); clear HOK
    cases hc : cleanOf s with
    | none =>
      have hk : linkB s = false := by
        cases h : linkB s with
        | false => rfl
        | true => rw [clean_link h] at hc; cases hc
      have HK := Lib.hid hk; clear hk hc
      go_wp2_with fail
      refine (Link_any s _ HS.out HOK1.out).mono ?_; rintro e w2 ⟨rfl, hb2⟩
      rw [HK.out]
      have hb3 := hb1.trans (hb2.mono hb1.size)
      have HOK2 := Lib.hid (HOK1.out.next hb2); clear HOK1 hb1 hb2
      go_wp2_with fail
      refine (known_any _ HOK2.out).mono ?_; rintro e w3 ⟨rfl, hb4⟩
      go_wp2
      go_ret
      exact ⟨rfl, hb3.trans (hb4.mono hb3.size)⟩
    | some t =>
      have hlt := clean_is_link hc
      have hct := clean_link hlt
      have hts : t.size ≤ 256 := by
        unfold linkB at hlt
        rw [Bool.and_eq_true] at hlt
        have := of_decide_eq_true hlt.1
        omega
      have HTS := Lib.hid (show t.size < 4294967281 by omega)
      have HTC := Lib.hid (show t.size ≤ 4096 by omega); clear hts
      have heq : linkB s = true → t = s := fun h => by rw [clean_link h] at hc; exact (Option.some.inj hc).symm
      have HEQ := Lib.hid heq; clear heq
      have HLT := Lib.hid hlt; clear hlt
      have HCT := Lib.hid hct; clear hct hc
      go_wp2_with fail
      refine (Clean_any t _ HTC.out HOK1.out).mono ?_; rintro e w2 ⟨hb2, rfl⟩
      rw [HCT.out]
      have hb3 := hb1.trans (hb2.mono hb1.size)
      have HOK2 := Lib.hid (HOK1.out.next hb2); clear HOK1 hb1 hb2
      go_wp2_with fail
      refine (Link_any t _ HTS.out HOK2.out).mono ?_; rintro e w3 ⟨rfl, hb4⟩
      rw [HLT.out]
      have hb5 := hb3.trans (hb4.mono hb3.size)
      have HOK3 := Lib.hid (HOK2.out.next hb4); clear HOK2 hb3 hb4
      go_wp2_with fail
      refine (Link_any s _ HS.out HOK3.out).mono ?_; rintro e w4 ⟨rfl, hb6⟩
      have hb7 := hb5.trans (hb6.mono hb5.size)
      have HOK4 := Lib.hid (HOK3.out.next hb6); clear HOK3 hb5 hb6
      cases hk : linkB s with
      | false =>
        clear hk
        go_wp2_with fail
        refine (known_any _ HOK4.out).mono ?_; rintro e w5 ⟨rfl, hb8⟩
        go_wp2
        go_ret
        exact ⟨rfl, hb7.trans (hb8.mono hb7.size)⟩
      | true =>
        obtain rfl := HEQ.out hk
        clear hk
        go_wp2_with fail
        refine (known_any _ HOK4.out).mono ?_; rintro e w5 ⟨rfl, hb8⟩
        go_wp2
        go_ret
        exact ⟨rfl, hb7.trans (hb8.mono hb7.size)⟩
  · go_enter Tryd.func5, Tryd.ntmps5
    go_wp2_with fail
    refine (known_any _ HOK.out).mono ?_
    rintro e w1 ⟨rfl, hb1⟩
    go_wp2
    go_ret
    exact ⟨rfl, hb1⟩
end Go.Proofs.YtnoifjkgimlfaaaDoor
