/-
  NameOrders answers true for every three texts: paths are totally ordered, and what stands between a path and a path below it lies below it, too.
  Conditions: those of the given row and card, nothing else.
-/
import Derived.Test.YtnoifjkgimlfaaaDoorNmK
import Derived.Test.YtnoifjkgimlfaaaDoorNmO
namespace Go.Proofs.YtnoifjkgimlfaaaDoor
open Go.RowKit Go.Cold

theorem Compare2_any (a b : ByteArray) (w : World) (ha : a.size < 4294967281) (hb : b.size < 4294967281) (hok : Ok w) : Calls Tryd.prog 27 #[.string a, .string b] w fun e w' => e = .returned (.tuple #[.int .i64 (cmpV a b), .int .i64 (cmpE a b)]) ∧ Below w.heap.size w w' := by
  refine (Compare_any a b w ha hb hok).mono ?_
  rintro e w' ⟨hbel, hr⟩
  refine ⟨?_, hbel⟩
  rcases hr with ⟨xs, ys, h1, h2, rfl⟩ | ⟨hn, rfl⟩
  · unfold cmpV cmpE; rw [h1, h2]
  · unfold cmpV cmpE
    rcases hn with hn | hn
    · rw [hn]
    · rw [hn]; cases pathOf a <;> rfl
theorem Under2_any (a b : ByteArray) (w : World) (ha : a.size < 4294967281) (hb : b.size < 4294967281) (hok : Ok w) : Calls Tryd.prog 28 #[.string a, .string b] w fun e w' => e = .returned (.tuple #[.bool (undV a b), .int .i64 (cmpE a b)]) ∧ Below w.heap.size w w' := by
  refine (Under_any a b w ha hb hok).mono ?_
  rintro e w' ⟨hbel, hr⟩
  refine ⟨?_, hbel⟩
  rcases hr with ⟨xs, ys, h1, h2, rfl⟩ | ⟨hn, rfl⟩
  · unfold undV cmpE; rw [h1, h2]
  · unfold undV cmpE
    rcases hn with hn | hn
    · rw [hn]
    · rw [hn]; cases pathOf a <;> rfl

set_option maxHeartbeats 4000000 in
theorem lawOrders_any (a b c : ByteArray) (w : World) (hok : Ok w) (_ha : a.size ≤ maxLen) (_hb : b.size ≤ maxLen) (_hc : c.size ≤ maxLen) : Calls Tryd.prog 9 #[.string a, .string b, .string c] w fun e w' => e = .returned (.bool true) ∧ Below w.heap.size w w' := by
  have HOK := Lib.hid hok; clear hok
  clear _ha _hb _hc
  by_cases hl : a.size ≤ 200 ∧ b.size ≤ 200 ∧ c.size ≤ 200
  · obtain ⟨ha, hb, hc⟩ := hl
    have HA := Lib.hid (show a.size < 4294967281 by omega)
    have HB := Lib.hid (show b.size < 4294967281 by omega)
    have HC := Lib.hid (show c.size < 4294967281 by omega)
    go_enter Tryd.func9, Tryd.ntmps9
    go_wp2_with fail
    refine (known_any _ HOK.out).mono ?_; rintro e w0 ⟨rfl, hb0⟩
    have HOK0 := Lib.hid (HOK.out.next hb0); clear HOK
    obtain ⟨x, hx⟩ : ∃ x, cmpV a b = x := ⟨_, rfl⟩
    obtain ⟨y, hy⟩ : ∃ y, cmpV b c = y := ⟨_, rfl⟩
    obtain ⟨z, hz⟩ : ∃ z, cmpV a c = z := ⟨_, rfl⟩
    obtain ⟨v, hv⟩ : ∃ v, cmpV b a = v := ⟨_, rfl⟩
    obtain ⟨e1, he1⟩ : ∃ x, cmpE a b = x := ⟨_, rfl⟩
    obtain ⟨e2, he2⟩ : ∃ y, cmpE b c = y := ⟨_, rfl⟩
    obtain ⟨e3, he3⟩ : ∃ z, cmpE a c = z := ⟨_, rfl⟩
    obtain ⟨e4, he4⟩ : ∃ v, cmpE b a = v := ⟨_, rfl⟩
    obtain ⟨u1, hu1⟩ : ∃ v, undV a c = v := ⟨_, rfl⟩
    obtain ⟨u2, hu2⟩ : ∃ v, undV a b = v := ⟨_, rfl⟩
    have hcas := @order_cases a b c
    have c1 := cmpE_cases a b
    have c2 := cmpE_cases b c
    rw [hx, hy, hz, hv, he1, he2, he3, he4, hu1, hu2] at hcas
    rw [he1] at c1
    rw [he2] at c2
    have HX := Lib.hid hx; have HY := Lib.hid hy; have HZ := Lib.hid hz; have HV := Lib.hid hv
    have HE1 := Lib.hid he1; have HE2 := Lib.hid he2; have HE3 := Lib.hid he3; have HE4 := Lib.hid he4
    have HU1 := Lib.hid hu1; have HU2 := Lib.hid hu2
    have HCAS := Lib.hid hcas
    have HC1 := Lib.hid c1; have HC2 := Lib.hid c2
    clear hx hy hz hv he1 he2 he3 he4 hu1 hu2 hcas c1 c2
    go_wp2_with fail
    refine (Compare2_any a b _ HA.out HB.out HOK0.out).mono ?_; rintro e w1 ⟨rfl, hb1⟩
    rw [HX.out, HE1.out]
    have hb2 := hb0.trans (hb1.mono hb0.size)
    have HOK1 := Lib.hid (HOK0.out.next hb1); clear HOK0 hb0 hb1
    go_wp2_with fail
    refine (Compare2_any b c _ HB.out HC.out HOK1.out).mono ?_; rintro e w2 ⟨rfl, hb3⟩
    rw [HY.out, HE2.out]
    have hb4 := hb2.trans (hb3.mono hb2.size)
    have HOK2 := Lib.hid (HOK1.out.next hb3); clear HOK1 hb2 hb3
    go_wp2_with fail
    refine (Compare2_any a c _ HA.out HC.out HOK2.out).mono ?_; rintro e w3 ⟨rfl, hb5⟩
    rw [HZ.out, HE3.out]
    have hb6 := hb4.trans (hb5.mono hb4.size)
    have HOK3 := Lib.hid (HOK2.out.next hb5); clear HOK2 hb4 hb5
    go_wp2_with fail
    refine (Compare2_any b a _ HB.out HA.out HOK3.out).mono ?_; rintro e w4 ⟨rfl, hb7⟩
    rw [HV.out, HE4.out]
    have hb8 := hb6.trans (hb7.mono hb6.size)
    have HOK4 := Lib.hid (HOK3.out.next hb7); clear HOK3 hb6 hb7
    rcases HC1.out with rfl | rfl
    · rcases HC2.out with rfl | rfl
      · obtain ⟨rfl, rfl, rfl, hc4⟩ := HCAS.out rfl rfl
        clear HCAS HC1 HC2
        rcases hc4 with ⟨rfl, hne, hr⟩ | ⟨rfl, rfl, hr⟩ | ⟨rfl, hne, hr⟩
        · have hab : (a.toList == b.toList) = false := by rw [ba_beq]; simpa using hne
          clear hne
          rcases hr with ⟨rfl, rfl, hu⟩ | ⟨rfl, rfl, hu⟩ | ⟨rfl, rfl | rfl | rfl⟩
          all_goals
            cases u1 <;> cases u2
          all_goals first
            | (exfalso; exact absurd (hu rfl) (by decide))
            | (go_wp2_with fail
               refine (Under2_any a c _ HA.out HC.out HOK4.out).mono ?_; rintro e w5 ⟨rfl, hb9⟩
               rw [HU1.out, HE3.out]
               have hb10 := hb8.trans (hb9.mono hb8.size)
               have HOK5 := Lib.hid (HOK4.out.next hb9); clear HOK4 hb8 hb9
               go_wp2_with fail
               refine (Under2_any a b _ HA.out HB.out HOK5.out).mono ?_; rintro e w6 ⟨rfl, hb11⟩
               rw [HU2.out, HE1.out]
               have hb12 := hb10.trans (hb11.mono hb10.size)
               go_wp2
               go_ret
               exact ⟨rfl, hb12⟩)
        · rcases hr with ⟨rfl, rfl⟩ | ⟨rfl, rfl⟩ | ⟨rfl, rfl⟩
          all_goals
            cases u1 <;> cases u2
          all_goals
            (go_wp2_with fail
             refine (Under2_any a c _ HA.out HC.out HOK4.out).mono ?_; rintro e w5 ⟨rfl, hb9⟩
             rw [HU1.out, HE3.out]
             have hb10 := hb8.trans (hb9.mono hb8.size)
             have HOK5 := Lib.hid (HOK4.out.next hb9); clear HOK4 hb8 hb9
             go_wp2_with fail
             refine (Under2_any a a _ HA.out HB.out HOK5.out).mono ?_; rintro e w6 ⟨rfl, hb11⟩
             rw [HU2.out, HE1.out]
             have hb12 := hb10.trans (hb11.mono hb10.size)
             go_wp2
             go_ret
             exact ⟨rfl, hb12⟩)
        · have hab : (a.toList == b.toList) = false := by rw [ba_beq]; simpa using hne
          clear hne
          rcases hr with ⟨rfl, rfl | rfl | rfl⟩ | ⟨rfl, rfl | rfl | rfl⟩ | ⟨rfl, rfl | rfl | rfl⟩
          all_goals
            cases u1 <;> cases u2
          all_goals
            (go_wp2_with fail
             refine (Under2_any a c _ HA.out HC.out HOK4.out).mono ?_; rintro e w5 ⟨rfl, hb9⟩
             rw [HU1.out, HE3.out]
             have hb10 := hb8.trans (hb9.mono hb8.size)
             have HOK5 := Lib.hid (HOK4.out.next hb9); clear HOK4 hb8 hb9
             go_wp2_with fail
             refine (Under2_any a b _ HA.out HB.out HOK5.out).mono ?_; rintro e w6 ⟨rfl, hb11⟩
             rw [HU2.out, HE1.out]
             have hb12 := hb10.trans (hb11.mono hb10.size)
             go_wp2
             go_ret
             exact ⟨rfl, hb12⟩)
      · clear HCAS HC1 HC2
        go_wp2_with fail
        refine (known_any _ HOK4.out).mono ?_; rintro e w5 ⟨rfl, hb9⟩
        go_wp2
        go_ret
        exact ⟨rfl, hb8.trans (hb9.mono hb8.size)⟩
    · clear HCAS HC1 HC2
      go_wp2_with fail
      refine (known_any _ HOK4.out).mono ?_; rintro e w5 ⟨rfl, hb9⟩
      go_wp2
      go_ret
      exact ⟨rfl, hb8.trans (hb9.mono hb8.size)⟩
  · go_enter Tryd.func9, Tryd.ntmps9
    go_wp2_with fail
    refine (known_any _ HOK.out).mono ?_; rintro e w0 ⟨rfl, hb0⟩
    have HOK0 := Lib.hid (HOK.out.next hb0); clear HOK
    by_cases ha : a.size ≤ 200
    · by_cases hb : b.size ≤ 200
      · have hc : ¬ c.size ≤ 200 := fun h => hl ⟨ha, hb, h⟩
        clear hl
        go_wp2_with fail
        refine (known_any _ HOK0.out).mono ?_; rintro e w1 ⟨rfl, hb1⟩
        go_wp2
        go_ret
        exact ⟨rfl, hb0.trans (hb1.mono hb0.size)⟩
      · clear hl
        go_wp2_with fail
        refine (known_any _ HOK0.out).mono ?_; rintro e w1 ⟨rfl, hb1⟩
        go_wp2
        go_ret
        exact ⟨rfl, hb0.trans (hb1.mono hb0.size)⟩
    · clear hl
      go_wp2_with fail
      refine (known_any _ HOK0.out).mono ?_; rintro e w1 ⟨rfl, hb1⟩
      go_wp2
      go_ret
      exact ⟨rfl, hb0.trans (hb1.mono hb0.size)⟩
end Go.Proofs.YtnoifjkgimlfaaaDoor
