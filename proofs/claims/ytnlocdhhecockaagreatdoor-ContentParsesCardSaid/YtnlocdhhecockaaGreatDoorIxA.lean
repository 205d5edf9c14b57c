/-
  strings.IndexRune at a rune that is no ASCII, in ASCII texts; strings.IndexAny at every text, ASCII sets.
-/
import Derived.Test.YtnlocdhhecockaaGreatDoorShelf
import Derived.Shelf.Strings.IndexAnyAll
import Derived.Laws.RangeAny
import Derived.Laws.Runes
import Derived.Lib.MapLaws
import Derived.WalkMore
import Derived.Deep.DeepMust
set_option linter.unusedSimpArgs false
set_option linter.unusedVariables false
namespace Go.Proofs.YtnlocdhhecockaaGreatDoor
open Go.RowKit Go.Lib Go.Shelf

theorem quiet_sameX {P : Program} {f : FuncId} {args : Array Value} {w : World} {n : Nat} {v : Value}
    (h : Calls P f args (w.drewN n) fun e w' => e = .returned v ∧ w' = w.drewN n) : Calls P f args (w.drewN n) fun e w'' => e = .returned v ∧ ∃ m, w'' = w.drewN m :=
  h.mono fun _ _ ⟨he, hm⟩ => ⟨he, n, hm⟩
theorem byte_none (c : UInt8) : ∀ l : List UInt8, (∀ b ∈ l, b ≠ c) → Lib.indexByte l c = -1
  | [], _ => rfl
  | b :: l, h => by
    have h2 : (b == c) = false := by simpa using h b List.mem_cons_self
    rw [Lib.indexByte, h2, byte_none c l (fun x hx => h x (List.mem_cons_of_mem _ hx))]
    rfl
theorem ascii_mem {s : ByteArray} (h : ∀ (j : Nat) b, s.data.toList[j]? = some b → b.toNat < 128) : ∀ b ∈ s.data.toList, b.toNat < 128 := fun b hb => by
  obtain ⟨j, hj, e⟩ := List.getElem_of_mem hb
  exact h j b (by rw [List.getElem?_eq_getElem hj, e])

set_option maxHeartbeats 4000000 in
set_option maxRecDepth 1000000 in
theorem IndexRune_bad (s : ByteArray) (w : World) (hascii : ∀ (j : Nat) b, s.data.toList[j]? = some b → b.toNat < 128) :
    Calls Tryz.prog 54 #[.string s, .int .i32 65533] w fun e w' => e = .returned (.int .i64 (-1)) ∧ ∃ pos, w' = w.iter s pos := by
  have HA := Lib.hid hascii
  clear hascii
  go_enter Tryz.func54, Tryz.ntmps54
  go_wp2_with fail
  go_loopg [5, 6] s.size (fun g _ _ wx => ∃ i : Nat, i + g = s.size ∧ wx = w.iter s i)
  case atStart => exact ⟨0, by omega, rfl⟩
  case round =>
    obtain ⟨i, hig, rfl⟩ := hrel
    cases gk with
    | zero =>
      obtain rfl : i = s.size := by omega
      have hnx := fun ty => run_next_end (P := Tryz.prog) w s s.size ty (by omega)
      go_wp2
      go_ret
      exact ⟨rfl, _, rfl⟩
    | succ g =>
      have hi : i < s.size := by omega
      obtain ⟨x, hx⟩ : ∃ x : UInt8, s[i]'hi = x := ⟨_, rfl⟩
      have hxl : s.data.toList[i]? = some x := by rw [← hx]; exact Lib.data_getElem? s i hi
      have hx128 : x.toNat < 128 := HA.out i x hxl
      have hnx := fun ty => run_next_ascii (P := Tryz.prog) w s i ty hi (by rw [hx]; exact hx128)
      rw [hx] at hnx
      have hne : ((x.toNat : Int) == 65533) = false := beq_eq_false_iff_ne.2 (by omega)
      clear hxl hx hx128
      go_wp2_with fail
      go_roundg g
      case measure => omega
      case rel => exact ⟨i + 1, by omega, rfl⟩

set_option maxHeartbeats 4000000 in
set_option maxRecDepth 1000000 in
theorem IndexRune_wide (s : ByteArray) (r : Int) (w : World) (hs : s.size ≤ 1000) (hascii : ∀ (j : Nat) b, s.data.toList[j]? = some b → b.toNat < 128) (hr : 128 ≤ r) (hne : r ≠ 65533) (hv : Utf8.valid r = true) :
    Calls Tryz.prog 54 #[.string s, .int .i32 r] w fun e w' => e = .returned (.int .i64 (-1)) ∧ Below w.heap.size w w' := by
  obtain ⟨z1, z2, z3⟩ := encode_facts r hv hr
  obtain ⟨rs, hrs⟩ : ∃ rs, Utf8.encode r = rs := ⟨_, rfl⟩
  rw [hrs] at z1 z2 z3
  have hvr : Lib.validRune r = true := by
    have h := (Go.validRune_eq r).symm.trans hv
    unfold Go.validRune at h
    unfold Lib.validRune
    simpa using h
  have hne2 : (r == 65533) = false := beq_eq_false_iff_ne.2 hne
  have hr0 : (0 : Int) ≤ r := by omega
  have hr1 : ¬ r < (128 : Int) := by omega
  have u21 := Tryz.underlying21
  have u9 := Tryz.underlying9
  have HA := Lib.hid hascii
  clear hascii
  go_enter Tryz.func54, Tryz.ntmps54
  go_wp2_with fail
  refine (Tryz.utf8_ValidRune r _).mono ?_
  rintro e w1 ⟨rfl, hw1⟩
  subst hw1
  rw [hvr]
  go_wp2_with fail
  go_step3
  go_wp2_with fail
  obtain ⟨n, hn⟩ : ∃ n, rs.size = n + 1 := ⟨rs.size - 1, by omega⟩
  have hn2 : (rs.size : Int) - 1 = (n : Int) := by omega
  simp only [hn2]
  apply wp_loop_once
  by_cases hlt : s.size ≤ n
  · have i1 : (s.size : Int) ≤ (n : Int) := by omega
    go_wp2_with fail
    rw [Exit.noGoto_ret]
    go_ret
    exact ⟨rfl, Below.refl _ _⟩
  · have hi : n < s.size := by omega
    have hi2 : n < rs.size := by omega
    have i1 : (n : Int) < (s.size : Int) := by omega
    have i2 : (n : Int) < (rs.size : Int) := by omega
    obtain ⟨m, hm⟩ : ∃ m, n + 1 = m := ⟨_, rfl⟩
    have i3 : (m : Int) ≤ (s.size : Int) := by omega
    have hwr : IntKind.i64.wrap ((n : Int) + 1) = (m : Int) := by rw [wrap_small _ (by omega) (by omega)]; omega
    obtain ⟨x, hx⟩ : ∃ x : UInt8, s[n]'hi = x := ⟨_, rfl⟩
    obtain ⟨y, hy⟩ : ∃ y : UInt8, rs[n]'hi2 = y := ⟨_, rfl⟩
    have hxl : s.data.toList[n]? = some x := by rw [← hx]; exact Lib.data_getElem? s n hi
    have hx128 : x.toNat < 128 := HA.out n x hxl
    have hy128 : 128 ≤ y.toNat := by
      have h := z3 (by omega)
      have e : rs.size - 1 = n := by omega
      simp only [e, hy] at h
      exact h
    have hneq : ((x.toNat : Int) != (y.toNat : Int)) = true := by
      rw [bne_iff_ne]; omega
    have hnone : Lib.indexByte (s.extract m s.size).data.toList y = -1 := byte_none _ _ fun b hb e => by
      have h1 := ascii_mem HA.out b (by rw [Lib.extract_data] at hb; exact List.mem_of_mem_drop (List.mem_of_mem_take hb))
      rw [e] at h1; omega
    have hback : ((y.toNat : Int)).toNat.toUInt8 = y := by simp
    have hib : ∀ W : World, Calls Tryz.prog 48 #[.string (s.extract m s.size), .int .u8 (y.toNat : Int)] W fun e w' => e = .returned (.int .i64 (-1)) ∧ w' = W := fun W => (Tryz.strings_IndexByte (s.extract m s.size) (y.toNat : Int) W).mono fun e w' ⟨h1, h2⟩ => ⟨by rw [h1, hback, hnone], h2⟩
    clear hxl hx128 hnone hback z3 hn hn2 hv hrs
    go_wp2_with fail
    go_step3
    go_wp2_with fail
    go_quiet (fail)
    obtain ⟨w2, hw2⟩ : ∃ w2, w1.drewN nq = w2 := ⟨_, rfl⟩
    rw [hw2]
    go_wp2_with fail
    go_quiet ((go_at_call 48; go_must (exact quiet_sameX (hib _))))
    go_wp2_with fail
    rw [Exit.noGoto_ret]
    go_wp2_with fail
    all_goals rw [Exit.noGoto_ret]
    go_ret
    subst hw2
    exact ⟨rfl, rfl, rfl, rfl, Nat.le_refl _, fun _ _ => rfl⟩
end Go.Proofs.YtnlocdhhecockaaGreatDoor
