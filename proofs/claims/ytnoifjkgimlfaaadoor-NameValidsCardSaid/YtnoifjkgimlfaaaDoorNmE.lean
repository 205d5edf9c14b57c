/-
  The walks of the reference's Compare and Split, of name.Compare and Under, and of both Joins.
-/
import Derived.Test.YtnoifjkgimlfaaaDoorNmD
namespace Go.Proofs.YtnoifjkgimlfaaaDoor
open Go.RowKit Go.Cold

/-- strings.Compare. -/
theorem stringsCompare_any (a b : ByteArray) (w : World) : Calls Tryd.prog 54 #[.string a, .string b] w fun e w' => e = .returned (.int .i64 (cmpB a b)) ∧ w' = w := Tryd.strings_Compare a b w

/-- The reference's Compare. -/
theorem RCompare_any (A B : Option Addr) (c d : Nat) (xs ys : List ByteArray) (w : World) (b1 b2 : Nat) (hx : Sl w b1 A c xs) (hy : Sl w b2 B d ys) :
    Calls Tryd.prog 29 #[.slice A xs.length c, .slice B ys.length d] w fun e w' => e = .returned (.int .i64 (cmpL xs ys)) ∧ ∃ n, w' = w.drewN n := by
  have hc := hx.1; have hc2 := hx.2.1; have hd := hy.1; have hd2 := hy.2.1
  unfold maxLen at hc2 hd2
  go_enter Tryd.func29, Tryd.ntmps29
  go_wp2
  go_loopw [5] (fun i wr => ∃ k n : Nat, k ≤ xs.length ∧ k ≤ ys.length ∧ i = .int .i64 k ∧ Hid (xs.take k = ys.take k) ∧ wr = w.drewN n) (fun i _ => xs.length - (intOf i).toNat)
  case atStart => exact ⟨0, 0, Nat.zero_le _, Nat.zero_le _, rfl, rfl, rfl⟩
  case round =>
    obtain ⟨k, n, hk, hk', rfl, ht, rfl⟩ := hrel
    by_cases hlx : k < xs.length
    · have i1 : (k : Int) < (xs.length : Int) := by omega
      by_cases hly : k < ys.length
      · obtain ⟨b3, o3, rfl, _, cx, _⟩ := hx.str hlx
        obtain ⟨b4, o4, rfl, _, cy, _⟩ := hy.str hly
        have i2 : (k : Int) < (ys.length : Int) := by omega
        go_wp2
        go_quiet (fail)
        go_wp2
        · have he := ba_ne (by assumption)
          have hcl := cmpL_diff ht.out hlx hly he
          have HC := Lib.hid hcl; clear hcl he
          go_quiet ((go_at_call 54; exact quiet_add_same (stringsCompare_any _ _ _)))
          go_wp2
          go_ret
          exact ⟨ret_int HC.out.symm, by simp only [World.drewN_drewN]; exact ⟨_, rfl⟩⟩
        · have he := ba_eq (by assumption)
          have HE := Lib.hid he; clear he
          go_roundw
          case rel => exact ⟨k + 1, _, by omega, by omega, by go_num, take_succ_iff hlx hly ht.out HE.out, rfl⟩
          case measure => simp [intOf]; omega
      · have hl : ys.length < xs.length := by omega
        go_wp2
        go_ret
        exact ⟨ret_int (cmpL_more ht.out (by omega) hl).symm, _, rfl⟩
    · go_wp2
      · have hl : xs.length < ys.length := by assumption
        go_ret
        exact ⟨ret_int (cmpL_less ht.out (by omega) hl).symm, _, rfl⟩
      · have hl : ¬ xs.length < ys.length := by assumption
        go_ret
        exact ⟨ret_int (cmpL_same (take_all ht.out (by omega) (by omega))).symm, _, rfl⟩

def path2 (a b : ByteArray) : Option (List ByteArray × List ByteArray) := match pathOf a, pathOf b with
  | some xs, some ys => some (xs, ys)
  | _, _ => none

/-- name.Compare. -/
theorem Compare_any (a b : ByteArray) (w : World) (ha : a.size < 4294967281) (hb : b.size < 4294967281) (hok : Ok w) : Calls Tryd.prog 27 #[.string a, .string b] w fun e w' => Below w.heap.size w w' ∧
    ((∃ xs ys, pathOf a = some xs ∧ pathOf b = some ys ∧ e = .returned (.tuple #[.int .i64 (cmpL xs ys), .int .i64 0])) ∨
     ((pathOf a = none ∨ pathOf b = none) ∧ e = .returned (.tuple #[.int .i64 0, .int .i64 10]))) := by
  go_enter Tryd.func27, Tryd.ntmps27
  go_wp2_with fail
  refine (Split_any a w ha hok).mono ?_
  rintro e w1 ⟨hb1, hr⟩
  have hok1 := hok.next hb1
  rcases hr with ⟨xs, A, c, hxs, rfl, hsx⟩ | ⟨hn, rfl⟩
  · have HX := Lib.hid hxs; clear hxs
    have HSX := Lib.hid hsx; clear hsx
    go_wp2_with fail
    refine (Split_any b w1 hb hok1).mono ?_
    rintro e w2 ⟨hb2, hr⟩
    have hb3 := hb1.trans (hb2.mono hb1.size)
    have HSX2 := Lib.hid (HSX.out.next (Nat.le_refl _) hb2)
    clear HSX
    rcases hr with ⟨ys, B, d, hys, rfl, hsy⟩ | ⟨hn, rfl⟩
    · have HY := Lib.hid hys; clear hys
      have HSY := Lib.hid hsy; clear hsy
      go_wp2_with fail
      refine (slicesCompare_any A B c d xs ys w2 _ _ HSX2.out HSY.out).mono ?_
      rintro e w3 ⟨rfl, rfl⟩
      obtain ⟨z, hz⟩ : ∃ z, cmpL xs ys = z := ⟨_, rfl⟩
      rw [hz]
      have HZ := Lib.hid hz; clear hz
      go_wp2
      go_ret2
      exact ⟨hb3, .inl ⟨xs, ys, HX.out, HY.out, by rw [HZ.out]; rfl⟩⟩
    · have HN := Lib.hid hn; clear hn
      go_wp2
      go_ret2
      exact ⟨hb3, .inr ⟨.inr HN.out, rfl⟩⟩
  · have HN := Lib.hid hn; clear hn
    go_wp2_with fail
    refine (Split_any b w1 hb hok1).mono ?_
    rintro e w2 ⟨hb2, hr⟩
    have hb3 := hb1.trans (hb2.mono hb1.size)
    rcases hr with ⟨ys, B, d, hys, rfl, hsy⟩ | ⟨hn, rfl⟩
    · have HY := Lib.hid hys; clear hys
      have HSY := Lib.hid hsy; clear hsy
      go_wp2
      go_ret2
      exact ⟨hb3, .inr ⟨.inl HN.out, rfl⟩⟩
    · clear hn
      go_wp2
      go_ret2
      exact ⟨hb3, .inr ⟨.inl HN.out, rfl⟩⟩

/-- slices.Equal at lists of texts. -/
theorem slicesEqual_any (A B : Option Addr) (c d : Nat) (xs ys : List ByteArray) (w : World) (b1 b2 : Nat) (hx : Sl w b1 A c xs) (hy : Sl w b2 B d ys) :
    Calls Tryd.prog 53 #[.slice A xs.length c, .slice B ys.length d] w fun e w' => e = .returned (.bool (decide (xs = ys))) ∧ ∃ n, w' = w.drewN n := by
  have hc := hx.1; have hc2 := hx.2.1; have hd := hy.1; have hd2 := hy.2.1
  unfold maxLen at hc2 hd2
  by_cases hl : xs.length = ys.length
  · rcases Nat.eq_zero_or_pos xs.length with h0 | h0
    · have hx0 : xs = [] := List.eq_nil_of_length_eq_zero h0
      have hy0 : ys = [] := List.eq_nil_of_length_eq_zero (by omega)
      subst hx0; subst hy0
      exact (Tryd.slices_Equal_string_empty A B c 0 d w (by omega)).mono fun e w' ⟨he, hw⟩ => ⟨by simpa using he, 0, hw⟩
    · obtain ⟨p1, o1, rfl, _, h1⟩ := hx.strs h0
      obtain ⟨p2, o2, rfl, _, h2⟩ := hy.strs (by omega)
      refine (Tryd.slices_Equal_string p1 o1 xs.length c p2 o2 ys.length d xs ys w (Nat.le_refl _) (Nat.le_refl _) (by omega) (by omega) (fun j hj => ?_) (fun j hj => ?_)).mono fun e w' ⟨he, hw⟩ => ⟨by simpa using he, hw⟩
      · rw [h1 j xs[j] (List.getElem?_eq_getElem hj)]; simp [hj]
      · rw [h2 j ys[j] (List.getElem?_eq_getElem hj)]; simp [hj]
  · exact (Tryd.slices_Equal_string_lens A B xs.length c ys.length d w hl).mono fun e w' ⟨he, hw⟩ => ⟨by
      rw [he]; exact ret_bool (by symm; simp; rintro rfl; exact hl rfl), 0, hw⟩

/-- name.Under. -/
theorem Under_any (a b : ByteArray) (w : World) (ha : a.size < 4294967281) (hb : b.size < 4294967281) (hok : Ok w) : Calls Tryd.prog 28 #[.string a, .string b] w fun e w' => Below w.heap.size w w' ∧
    ((∃ xs ys, pathOf a = some xs ∧ pathOf b = some ys ∧ e = .returned (.tuple #[.bool (underL xs ys), .int .i64 0])) ∨
     ((pathOf a = none ∨ pathOf b = none) ∧ e = .returned (.tuple #[.bool false, .int .i64 10]))) := by
  go_enter Tryd.func28, Tryd.ntmps28
  go_wp2_with fail
  refine (Split_any a w ha hok).mono ?_
  rintro e w1 ⟨hb1, hr⟩
  have hok1 := hok.next hb1
  rcases hr with ⟨xs, A, c, hxs, rfl, hsx⟩ | ⟨hn, rfl⟩
  · have HX := Lib.hid hxs; clear hxs
    have HSX := Lib.hid hsx; clear hsx
    go_wp2_with fail
    refine (Split_any b w1 hb hok1).mono ?_
    rintro e w2 ⟨hb2, hr⟩
    have hb3 := hb1.trans (hb2.mono hb1.size)
    have HSX2 := Lib.hid (HSX.out.next (Nat.le_refl _) hb2)
    clear HSX
    rcases hr with ⟨ys, B, d, hys, rfl, hsy⟩ | ⟨hn, rfl⟩
    · have HY := Lib.hid hys; clear hys
      have hd := hsy.1; have hd2 := hsy.2.1
      unfold maxLen at hd2
      by_cases hl : xs.length < ys.length
      · have htk := hsy.take (n := xs.length) (by omega)
        have hlen : (ys.take xs.length).length = xs.length := by rw [List.length_take]; omega
        have hEq := slicesEqual_any B A d c (ys.take xs.length) xs w2 _ _ htk HSX2.out
        rw [hlen] at hEq
        have HSY := Lib.hid hEq; clear hEq hsy htk hlen
        go_wp2_with fail
        refine (HSY.out).mono ?_
        rintro e w3 ⟨rfl, nq, rfl⟩
        have hu : underL xs ys = decide (ys.take xs.length = xs) := by simp [underL, hl]
        rw [← hu]
        obtain ⟨z, hz⟩ : ∃ z, underL xs ys = z := ⟨_, rfl⟩
        rw [hz]
        have HZ := Lib.hid hz; clear hz hu
        go_wp2
        go_ret2
        exact ⟨below_drewN hb3 _, .inl ⟨xs, ys, HX.out, HY.out, by rw [HZ.out]; rfl⟩⟩
      · have HSY := Lib.hid hsy; clear hsy
        go_wp2
        go_ret2
        exact ⟨hb3, .inl ⟨xs, ys, HX.out, HY.out, by simp [underL, hl]⟩⟩
    · have HN := Lib.hid hn; clear hn
      go_wp2
      go_ret2
      exact ⟨hb3, .inr ⟨.inr HN.out, rfl⟩⟩
  · have HN := Lib.hid hn; clear hn
    go_wp2_with fail
    refine (Split_any b w1 hb hok1).mono ?_
    rintro e w2 ⟨hb2, hr⟩
    have hb3 := hb1.trans (hb2.mono hb1.size)
    rcases hr with ⟨ys, B, d, hys, rfl, hsy⟩ | ⟨hn, rfl⟩
    · have HY := Lib.hid hys; clear hys
      have HSY := Lib.hid hsy; clear hsy
      go_wp2
      go_ret2
      exact ⟨hb3, .inr ⟨.inl HN.out, rfl⟩⟩
    · clear hn
      go_wp2
      go_ret2
      exact ⟨hb3, .inr ⟨.inl HN.out, rfl⟩⟩
end Go.Proofs.YtnoifjkgimlfaaaDoor
