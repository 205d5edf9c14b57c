/-
  The walks of layer 7's reference: until and number.
-/
import Derived.Test.YtnlocdhhecockaaGreatDoorRdA
import Derived.Test.YtnlocdhhecockaaGreatDoorCnM
set_option linter.unusedSimpArgs false
set_option linter.unusedVariables false
namespace Go.Cold
open Go Go.RowKit
theorem take_step {α : Type} {l : List α} {k : Nat} {x : α} {P : α → Bool} (h : (l.take k).all P = true) (hx : l[k]? = some x) (hp : P x = true) : (l.take (k + 1)).all P = true := by
  rw [List.take_add_one, List.all_append, h, hx]; simp [hp]
theorem until_found {s ends : ByteArray} {k : Nat} {x : UInt8} (h : (s.data.toList.take k).all (fun b => !ends.data.toList.contains b) = true) (hx : s.data.toList[k]? = some x) (hc : ends.data.toList.contains x = true) : untilN s ends = k := by
  have hk : k < s.data.toList.length := (List.getElem?_eq_some_iff.1 hx).1
  have h1 : s.data.toList = s.data.toList.take k ++ x :: s.data.toList.drop (k + 1) := by
    have h2 := (List.getElem?_eq_some_iff.1 hx).2
    rw [← h2, ← List.drop_eq_getElem_cons hk, List.take_append_drop]
  have h3 := until_all (ends := ends) h1 (fun b hb => by have := List.all_eq_true.1 h b hb; simpa using this) (.inr ⟨_, _, rfl, hc⟩)
  rw [h3, List.length_take]; omega
theorem until_end {s ends : ByteArray} (h : (s.data.toList.take s.size).all (fun b => !ends.data.toList.contains b) = true) : untilN s ends = s.size := by
  rw [List.take_of_length_le (by rw [ba_size]; exact Nat.le_refl _)] at h
  have h3 := until_all (s := s) (p := s.data.toList) (ends := ends) (r := []) (by simp) (fun b hb => by have := List.all_eq_true.1 h b hb; simpa using this) (.inl rfl)
  rw [h3, ba_size]
/-- The value of digits. -/
def numV (l : List UInt8) : Int := l.foldl (fun n b => 10 * n + ((b.toNat : Int) - 48)) 0
def digB (b : UInt8) : Bool := decide (48 ≤ b.toNat) && decide (b.toNat ≤ 57)
theorem numV_step {l : List UInt8} {k : Nat} {x : UInt8} (hx : l[k]? = some x) : numV (l.take (k + 1)) = 10 * numV (l.take k) + ((x.toNat : Int) - 48) := by
  unfold numV
  rw [List.take_add_one, List.foldl_append, hx]; rfl
theorem numR_long {s : ByteArray} (h : 2 < s.size) : numR s = 0 := by
  rw [← ba_size] at h
  unfold numR
  match hl : s.data.toList with
  | [] => rfl
  | [a] => rw [hl] at h; simp at h
  | [a, b] => rw [hl] at h; simp at h
  | _ :: _ :: _ :: _ => rfl
theorem numR_nil {s : ByteArray} (h : s.size = 0) : numR s = 0 := by
  rw [← ba_size] at h
  unfold numR
  rw [List.eq_nil_of_length_eq_zero h]
theorem numR_zero {s : ByteArray} {x : UInt8} (hx : s.data.toList[0]? = some x) (h : x.toNat = 48) : numR s = 0 := by
  unfold numR
  match hl : s.data.toList with
  | [] => rfl
  | [a] => rw [hl] at hx; simp at hx; subst hx; simp only; rw [if_neg (by omega)]
  | [a, b] => rw [hl] at hx; simp at hx; subst hx; simp only; rw [if_neg (by omega)]
  | _ :: _ :: _ :: _ => rfl
theorem numR_bad {s : ByteArray} {k : Nat} {x : UInt8} (hx : s.data.toList[k]? = some x) (h : digB x = false) : numR s = 0 := by
  have hd : ¬ (48 ≤ x.toNat ∧ x.toNat ≤ 57) := by unfold digB at h; simp at h; omega
  unfold numR
  match hl : s.data.toList with
  | [] => rfl
  | [a] =>
    rw [hl] at hx
    have hk : k = 0 := by have := (List.getElem?_eq_some_iff.1 hx).1; simp at this; omega
    subst hk; simp at hx; subst hx; simp only; rw [if_neg (by omega)]
  | [a, b] =>
    rw [hl] at hx
    have hk : k = 0 ∨ k = 1 := by have := (List.getElem?_eq_some_iff.1 hx).1; simp at this; omega
    rcases hk with rfl | rfl
    · simp at hx; subst hx; simp only; rw [if_neg (by omega)]
    · simp at hx; subst hx; simp only; rw [if_neg (by omega)]
  | _ :: _ :: _ :: _ => rfl
theorem numR_ok {s : ByteArray} {x : UInt8} (h1 : 0 < s.size) (h2 : s.size ≤ 2) (hx : s.data.toList[0]? = some x) (h0 : x.toNat ≠ 48) (hall : (s.data.toList.take s.size).all digB = true) : numR s = numV s.data.toList := by
  rw [List.take_of_length_le (by rw [ba_size]; exact Nat.le_refl _)] at hall
  rw [← ba_size] at h1 h2
  unfold numR
  match hl : s.data.toList with
  | [] => rw [hl] at h1; simp at h1
  | [a] =>
    rw [hl] at hx hall
    simp at hx; subst hx
    simp [digB] at hall
    simp only; rw [if_pos (by omega)]; unfold numV; simp
  | [a, b] =>
    rw [hl] at hx hall
    simp at hx; subst hx
    simp [digB] at hall
    simp only; rw [if_pos (by omega)]; unfold numV; simp
  | _ :: _ :: _ :: _ => rw [hl] at h2; simp at h2
end Go.Cold
namespace Go.Proofs.YtnlocdhhecockaaGreatDoor
open Go.RowKit Go.Cold

set_option maxRecDepth 10000 in
/-- The reference's until. -/
theorem RUntil_any (s : ByteArray) (w : World) (hs : s.size ≤ maxLen) : Calls Tryz.prog 31 #[.string s, .string brE] w fun e w' => e = .returned (.tuple #[.string (s.extract 0 (untilN s brE)), .string (s.extract (untilN s brE) s.size)]) ∧ Below w.heap.size w w' := by
  unfold maxLen at hs
  obtain ⟨E, hE⟩ : ∃ E, brE = E := ⟨_, rfl⟩
  rw [hE]
  obtain ⟨L, hL⟩ : ∃ L, E.data.toList = L := ⟨_, rfl⟩
  have HL := Lib.hid hL; clear hE hL
  go_enter Tryz.func31, Tryz.ntmps31
  go_wp2_with fail
  go_loop [6] (fun i => ∃ k : Nat, k ≤ s.size ∧ i = .int .i64 k ∧ Hid ((s.data.toList.take k).all (fun b => !L.contains b) = true)) (fun i => s.size - (intOf i).toNat)
  case atStart => exact ⟨0, Nat.zero_le _, rfl, rfl⟩
  case round =>
    obtain ⟨k, hk, rfl, HA⟩ := hrel
    by_cases hlt : k < s.size
    · obtain ⟨x, hx⟩ : ∃ x : UInt8, s[k]'hlt = x := ⟨_, rfl⟩
      have hxl : s.data.toList[k]? = some x := by rw [← hx]; exact Lib.data_getElem? s k hlt
      have HX := Lib.hid hxl; clear hxl
      go_wp2_with fail
      refine (IndexByte_at _ L HL.out x _).mono ?_; rintro e w' ⟨rfl, rfl⟩
      have hin := Lib.contains_iff_indexByte L x
      obtain ⟨z, hz⟩ : ∃ z, Lib.indexByte L x = z := ⟨_, rfl⟩
      rw [hz] at hin ⊢
      have HIN := Lib.hid hin; clear hin hz
      by_cases hz0 : 0 ≤ z
      · have hc : L.contains x = true := by rw [HIN.out]; simp; omega
        have hu := until_found (ends := E) (by rw [HL.out]; exact HA.out) HX.out (by rw [HL.out]; exact hc)
        have HU := Lib.hid hu; clear hc hu
        have i1 : (k : Int) ≤ (s.size : Int) := by omega
        go_wp2_with fail
        go_quiet (fail)
        go_wp2_with fail
        go_ret2
        rw [HU.out]
        exact ⟨rfl, below_drewN_self _ _ _⟩
      · have hc : L.contains x = false := by rw [HIN.out]; simp; omega
        have HC := Lib.hid hc; clear hc
        go_wp2
        go_round
        case rel => exact ⟨k + 1, by omega, by go_num, take_step HA.out HX.out (by have := HC.out; simp only [this]; rfl)⟩
        case measure => simp [intOf]; omega
    · have hk2 : k = s.size := by omega
      have hu := until_end (s := s) (ends := E) (by rw [HL.out, ← hk2]; exact HA.out)
      have HU := Lib.hid hu; clear hu
      go_wp2
      go_ret2
      rw [HU.out, all_ext]
      refine ⟨?_, Below.refl _ _⟩
      have : s.extract s.size s.size = ⟨#[]⟩ := by apply ba_ext; rw [Lib.extract_data]; simp
      rw [this]; rfl

set_option maxRecDepth 10000 in
/-- The reference's number. -/
theorem RNumber_any (s : ByteArray) (w : World) (hs : s.size ≤ maxLen) : Calls Tryz.prog 33 #[.string s] w fun e w' => e = .returned (.int .i64 (numR s)) ∧ w' = w := by
  unfold maxLen at hs
  go_enter Tryz.func33, Tryz.ntmps33
  by_cases h2 : 2 < s.size
  · have h2i : (2 : Int) < (s.size : Int) := by omega
    have HR := Lib.hid (numR_long h2)
    go_wp2
    go_ret
    exact ⟨by rw [HR.out]; try rfl, rfl⟩
  have h2i : ¬ (2 : Int) < (s.size : Int) := by omega
  by_cases h0 : s.size = 0
  · have he : s.toList = [] := by
      have h := ba_size s
      rw [h0] at h
      have h3 := List.eq_nil_of_length_eq_zero h
      have h4 : s = ⟨#[]⟩ := of_list h3
      rw [h4]; decide +kernel
    have HR := Lib.hid (numR_nil h0)
    go_wp2
    go_ret
    exact ⟨by rw [HR.out]; try rfl, rfl⟩
  have hpos : 0 < s.size := by omega
  have he : ¬ s.toList = [] := fun h => h0 (by rw [(empty_iff s).1 h]; rfl)
  have he2 : s.toList.isEmpty = false := by simpa using he
  obtain ⟨x0, hx0⟩ : ∃ x : UInt8, s[0]'hpos = x := ⟨_, rfl⟩
  have hxl0 : s.data.toList[0]? = some x0 := by rw [← hx0]; exact Lib.data_getElem? s 0 hpos
  have HX0 := Lib.hid hxl0; clear hxl0
  by_cases h48 : x0.toNat = 48
  · have h48i : ((x0.toNat : Int) == 48) = true := beq_iff_eq.2 (by omega)
    have HR := Lib.hid (numR_zero HX0.out h48)
    go_wp2
    go_ret
    exact ⟨by rw [HR.out]; try rfl, rfl⟩
  have h48i : ((x0.toNat : Int) == 48) = false := beq_eq_false_iff_ne.2 (by omega)
  have H48 := Lib.hid h48; clear h48
  go_wp2_with fail
  go_loop [3, 4] (fun n i => ∃ (k : Nat) (v : Int), k ≤ s.size ∧ i = .int .i64 k ∧ n = .int .i64 v ∧ Hid (v = numV (s.data.toList.take k) ∧ (s.data.toList.take k).all digB = true ∧ 0 ≤ v ∧ v < 10 ^ k)) (fun _ i => s.size - (intOf i).toNat)
  case atStart => exact ⟨0, 0, Nat.zero_le _, rfl, rfl, ⟨rfl, rfl, by omega, by omega⟩⟩
  case round =>
    obtain ⟨k, v, hk, rfl, rfl, HA⟩ := hrel
    by_cases hlt : k < s.size
    · obtain ⟨x, hx⟩ : ∃ x : UInt8, s[k]'hlt = x := ⟨_, rfl⟩
      have hxl : s.data.toList[k]? = some x := by rw [← hx]; exact Lib.data_getElem? s k hlt
      have HX := Lib.hid hxl; clear hxl
      by_cases hlo : x.toNat < 48
      · have i1 : (x.toNat : Int) < 48 := by omega
        have HR := Lib.hid (numR_bad HX.out (by unfold digB; simp; omega))
        go_wp2
        go_ret
        exact ⟨by rw [HR.out]; try rfl, rfl⟩
      have i1 : ¬ (x.toNat : Int) < 48 := by omega
      by_cases hhi : 57 < x.toNat
      · have i2 : (57 : Int) < (x.toNat : Int) := by omega
        have HR := Lib.hid (numR_bad HX.out (by unfold digB; simp; omega))
        go_wp2
        go_ret
        exact ⟨by rw [HR.out]; try rfl, rfl⟩
      have i2 : ¬ (57 : Int) < (x.toNat : Int) := by omega
      have hpow : v < 10 := by
        obtain ⟨-, -, h3, h4⟩ := HA.out
        have : k = 0 ∨ k = 1 := by omega
        rcases this with rfl | rfl <;> omega
      have hv0 : 0 ≤ v := HA.out.2.2.1
      have e1 : IntKind.u8.wrap ((x.toNat : Int) - 48) = (x.toNat : Int) - 48 := by
        unfold IntKind.wrap; simp [IntKind.bits, IntKind.signed]; omega
      have e2 : IntKind.i64.wrap ((x.toNat : Int) - 48) = (x.toNat : Int) - 48 := wrap_small _ (by omega) (by omega)
      have e3 : IntKind.i64.wrap (10 * v) = 10 * v := wrap_small _ (by omega) (by omega)
      have e4 : IntKind.i64.wrap (10 * v + ((x.toNat : Int) - 48)) = 10 * v + ((x.toNat : Int) - 48) := wrap_small _ (by omega) (by omega)
      go_wp2
      go_round
      case rel =>
        refine ⟨k + 1, 10 * v + ((x.toNat : Int) - 48), by omega, by go_num, by first | rfl | (simp only [e1, e2, e3, e4]), ⟨?_, take_step HA.out.2.1 HX.out (by unfold digB; simp; omega), by omega, ?_⟩⟩
        · rw [numV_step HX.out, ← HA.out.1]
        · have h4 := HA.out.2.2.2
          rw [Nat.pow_succ] at *
          have h5 : (10 : Int) ^ (k + 1) = 10 ^ k * 10 := by rw [Int.pow_succ]
          omega
      case measure => simp [intOf]; omega
    · have hk2 : k = s.size := by omega
      have hr := numR_ok hpos (by omega) HX0.out H48.out (by rw [← hk2]; exact HA.out.2.1)
      have hv : v = numR s := by
        rw [hr, HA.out.1, hk2, List.take_of_length_le (by rw [ba_size]; exact Nat.le_refl _)]
      have HV := Lib.hid hv; clear hv hr
      go_wp2
      go_ret
      exact ⟨by rw [← HV.out]; try rfl, rfl⟩
end Go.Proofs.YtnlocdhhecockaaGreatDoor
