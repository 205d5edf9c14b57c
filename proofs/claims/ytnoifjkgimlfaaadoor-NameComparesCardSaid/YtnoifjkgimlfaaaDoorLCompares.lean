/-
  NameCompares answers true for every two texts: program and reference agree on which comes first as a path, and on which lies below which.
  Conditions: those of the given row and card, nothing else.
-/
import Derived.Test.YtnoifjkgimlfaaaDoorNmK
namespace Go.Proofs.YtnoifjkgimlfaaaDoor
open Go.RowKit Go.Cold

theorem lawCompares_any (a b : ByteArray) (w : World) (hok : Ok w) (_ha : a.size ≤ maxLen) (_hb : b.size ≤ maxLen) : Calls Tryd.prog 10 #[.string a, .string b] w fun e w' => e = .returned (.bool true) ∧ Below w.heap.size w w' := by
  have HOK := Lib.hid hok; clear hok
  by_cases hla : a.size ≤ 300
  · by_cases hlb : b.size ≤ 300
    · have HA := Lib.hid (show a.size < 4294967281 by omega)
      have HB := Lib.hid (show b.size < 4294967281 by omega)
      go_enter Tryd.func10, Tryd.ntmps10
      go_wp2_with fail
      refine (Compare_any a b _ HA.out HB.out HOK.out).mono ?_; rintro e w1 ⟨hb1, hr⟩
      have HOK1 := Lib.hid (HOK.out.next hb1); clear HOK
      rcases hr with ⟨xs, ys, hxs, hys, rfl⟩ | ⟨hn, rfl⟩
      · have HX := Lib.hid hxs; clear hxs
        have HY := Lib.hid hys; clear hys
        obtain ⟨z, hz⟩ : ∃ z, cmpL xs ys = z := ⟨_, rfl⟩
        rw [hz]
        have HZ := Lib.hid hz; clear hz
        go_wp2_with fail
        refine (Under_any a b _ HA.out HB.out HOK1.out).mono ?_; rintro e w2 ⟨hb2, hr⟩
        have hb3 := hb1.trans (hb2.mono hb1.size)
        have HOK2 := Lib.hid (HOK1.out.next hb2); clear HOK1 hb1 hb2
        rcases hr with ⟨xs', ys', hxs', hys', rfl⟩ | ⟨hn, rfl⟩
        · rw [HX.out] at hxs'; rw [HY.out] at hys'
          obtain rfl := Option.some.inj hxs'; clear hxs'
          obtain rfl := Option.some.inj hys'; clear hys'
          obtain ⟨u, hu⟩ : ∃ u, underL xs ys = u := ⟨_, rfl⟩
          rw [hu]
          have HU := Lib.hid hu; clear hu
          go_wp2_with fail
          refine (RSplit_any a _ HA.out HOK2.out).mono ?_; rintro e w3 ⟨hb4, hr⟩
          have hb5 := hb3.trans (hb4.mono hb3.size)
          have HOK3 := Lib.hid (HOK2.out.next hb4); clear HOK2 hb3 hb4
          rcases hr with ⟨xs', A, c, hxs', rfl, hsx⟩ | ⟨hn, _⟩
          · rw [HX.out] at hxs'
            obtain rfl := Option.some.inj hxs'; clear hxs'
            have HSX := Lib.hid hsx; clear hsx
            go_wp2_with fail
            refine (RSplit_any b _ HB.out HOK3.out).mono ?_; rintro e w4 ⟨hb6, hr⟩
            have hb7 := hb5.trans (hb6.mono hb5.size)
            have HOK4 := Lib.hid (HOK3.out.next hb6); clear HOK3
            have HSX2 := Lib.hid (HSX.out.next (Nat.le_refl _) hb6); clear HSX hb5 hb6
            rcases hr with ⟨ys', B, d, hys', rfl, hsy⟩ | ⟨hn, _⟩
            · rw [HY.out] at hys'
              obtain rfl := Option.some.inj hys'; clear hys'
              have HSY := Lib.hid hsy
              have hx1 := HSX2.out.1; have hx2 := HSX2.out.2.1
              have hd := hsy.1; have hd2 := hsy.2.1
              unfold maxLen at hd2 hx2
              by_cases hlt : xs.length < ys.length
              · have htk := hsy.take (n := xs.length) (by omega)
                have hlen : (ys.take xs.length).length = xs.length := by rw [List.length_take]; omega
                have hR := RCompare_any A B c d xs (ys.take xs.length) w4 _ _ HSX2.out htk
                rw [hlen] at hR
                have HR := Lib.hid hR; clear hR htk hlen hsy
                have hu2 : (cmpL xs (ys.take xs.length) == 0) = u := by
                  rw [← HU.out, underL, Bool.eq_iff_iff]
                  simp only [beq_iff_eq, decide_eq_true_eq]
                  exact ⟨fun h => ⟨hlt, (cmpL_zero h).symm⟩, fun h => cmpL_same h.2.symm⟩
                obtain ⟨z2, hz2⟩ : ∃ z2, cmpL xs (ys.take xs.length) = z2 := ⟨_, rfl⟩
                rw [hz2] at HR hu2
                clear hz2
                have HU2 := Lib.hid hu2; clear hu2
                go_wp2_with fail
                refine HR.out.mono ?_; rintro e w5 ⟨rfl, n, rfl⟩
                obtain rfl := HU2.out
                have hb8 := below_drewN hb7 n
                have HOK5 := Lib.hid (HOK4.out.next (below_drewN_self w4 _ n)); clear HOK4
                go_wp2_with fail
                refine (RCompare_any A B c d xs ys _ _ _ (HSX2.out.drewN n) (HSY.out.drewN n)).mono ?_; rintro e w5 ⟨rfl, m, rfl⟩
                rw [HZ.out]
                have hb9 := below_drewN hb8 m
                have hok6 := HOK5.out.next (below_drewN_self _ _ m)
                rw [World.drewN_drewN] at hok6 hb9
                have HOK6 := Lib.hid hok6; clear HOK5 hok6
                go_wp2_with fail
                refine (known_any _ HOK6.out).mono ?_; rintro e w6 ⟨rfl, hb10⟩
                go_wp2
                go_ret
                exact ⟨rfl, hb9.trans (hb10.mono hb9.size)⟩
              · have hu2 : u = false := by
                  rw [← HU.out, underL]; simp [hlt]
                subst hu2
                have HSY := Lib.hid hsy; clear hsy
                go_wp2_with fail
                refine (RCompare_any A B c d xs ys _ _ _ HSX2.out HSY.out).mono ?_; rintro e w5 ⟨rfl, m, rfl⟩
                rw [HZ.out]
                have hb9 := below_drewN hb7 m
                have HOK6 := Lib.hid (HOK4.out.next (below_drewN_self _ _ m)); clear HOK4
                go_wp2_with fail
                refine (known_any _ HOK6.out).mono ?_; rintro e w6 ⟨rfl, hb10⟩
                go_wp2
                go_ret
                exact ⟨rfl, hb9.trans (hb10.mono hb9.size)⟩
            · rw [HY.out] at hn; cases hn
          · rw [HX.out] at hn; cases hn
        · rw [HX.out, HY.out] at hn; simp at hn
      · have HN := Lib.hid hn; clear hn
        go_wp2_with fail
        refine (Under_any a b _ HA.out HB.out HOK1.out).mono ?_; rintro e w2 ⟨hb2, hr⟩
        have hb3 := hb1.trans (hb2.mono hb1.size)
        have HOK2 := Lib.hid (HOK1.out.next hb2); clear HOK1 hb1 hb2
        rcases hr with ⟨xs', ys', hxs', hys', rfl⟩ | ⟨hn, rfl⟩
        · have := HN.out
          rw [hxs', hys'] at this; simp at this
        · clear hn
          go_wp2_with fail
          refine (RSplit_any a _ HA.out HOK2.out).mono ?_; rintro e w3 ⟨hb4, hr⟩
          have hb5 := hb3.trans (hb4.mono hb3.size)
          have HOK3 := Lib.hid (HOK2.out.next hb4); clear HOK2 hb3 hb4
          rcases hr with ⟨xs', A, c, hxs', rfl, hsx⟩ | ⟨hn, rfl⟩
          · have HX := Lib.hid hxs'; clear hxs'
            clear hsx
            go_wp2_with fail
            refine (RSplit_any b _ HB.out HOK3.out).mono ?_; rintro e w4 ⟨hb6, hr⟩
            have hb7 := hb5.trans (hb6.mono hb5.size)
            have HOK4 := Lib.hid (HOK3.out.next hb6); clear HOK3
            rcases hr with ⟨ys', B, d, hys', rfl, hsy⟩ | ⟨hn, rfl⟩
            · have := HN.out
              rw [HX.out, hys'] at this; simp at this
            · clear hn
              go_wp2_with fail
              refine (known_any _ HOK4.out).mono ?_; rintro e w6 ⟨rfl, hb10⟩
              go_wp2
              go_ret
              exact ⟨rfl, hb7.trans (hb10.mono hb7.size)⟩
          · clear hn
            go_wp2_with fail
            refine (RSplit_any b _ HB.out HOK3.out).mono ?_; rintro e w4 ⟨hb6, hr⟩
            have hb7 := hb5.trans (hb6.mono hb5.size)
            have HOK4 := Lib.hid (HOK3.out.next hb6); clear HOK3
            rcases hr with ⟨ys', B, d, hys', rfl, hsy⟩ | ⟨hn, rfl⟩
            · clear hsy hys'
              go_wp2_with fail
              refine (known_any _ HOK4.out).mono ?_; rintro e w6 ⟨rfl, hb10⟩
              go_wp2
              go_ret
              exact ⟨rfl, hb7.trans (hb10.mono hb7.size)⟩
            · clear hn
              go_wp2_with fail
              refine (known_any _ HOK4.out).mono ?_; rintro e w6 ⟨rfl, hb10⟩
              go_wp2
              go_ret
              exact ⟨rfl, hb7.trans (hb10.mono hb7.size)⟩
    · go_enter Tryd.func10, Tryd.ntmps10
      go_wp2_with fail
      refine (known_any _ HOK.out).mono ?_
      rintro e w1 ⟨rfl, hb1⟩
      go_wp2
      go_ret
      exact ⟨rfl, hb1⟩
  · go_enter Tryd.func10, Tryd.ntmps10
    go_wp2_with fail
    refine (known_any _ HOK.out).mono ?_
    rintro e w1 ⟨rfl, hb1⟩
    go_wp2
    go_ret
    exact ⟨rfl, hb1⟩
end Go.Proofs.YtnoifjkgimlfaaaDoor
