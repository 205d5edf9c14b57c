/-
  The walks of package name's sets of bytes.
-/
import Derived.Test.YtjgllhlilbchpaaGreatDoorRows
import Derived.Test.YtjgllhlilbchpaaGreatDoorHA
import Derived.Test.YtjgllhlilbchpaaGreatDoorHShf
import Derived.Shelf.Abstract
set_option linter.unusedSimpArgs false
set_option linter.unusedVariables false
namespace Go.Proofs.YtjgllhlilbchpaaGreatDoor
open Go.RowKit Go.Cold

end Go.Proofs.YtjgllhlilbchpaaGreatDoor
namespace Go.Proofs.YtjgllhlilbchpaaGreatDoor
open Go.RowKit Go.Cold

/-- The reference's 'in'. -/
theorem in_any (s t : ByteArray) (T : List UInt8) (w : World) (hs : s.size ≤ maxLen) (hT : t.data.toList = T) : Calls Tryz.prog 158 #[.string s, .string t] w fun e w' => e = .returned (.bool (inB T s)) ∧ w = w' := by
 subst hT
 unfold maxLen at hs
 go_enter Tryz.func158, Tryz.ntmps158
 go_wp2
 go_loop [5] (fun i => ∃ k : Nat, k ≤ s.size ∧ i = .int .i64 k ∧ Hid ((s.data.toList.take k).all t.data.toList.contains = true)) (fun i => s.size - (intOf i).toNat)
 case atStart => exact ⟨0, Nat.zero_le _, rfl, rfl⟩
 case round =>
  obtain ⟨k, hk, rfl, HA⟩ := hrel
  by_cases hlt : k < s.size
  ·
   obtain ⟨x, hx⟩ : ∃ x : UInt8, s[k]'hlt = x := ⟨_, rfl⟩
   have hxl : s.data.toList[k]? = some x := by rw [← hx]; exact Lib.data_getElem? s k hlt
   have HX := Lib.hid hxl; clear hxl
   go_wp2_with (go_at_call 63; refine (Tryz.strings_IndexByte _ _ _).mono ?_; rintro e w' ⟨rfl, rfl⟩)
   ·
    have hn : Lib.indexByte t.data.toList x < 0 := by assumption
    go_ret
    exact ⟨ret_bool (all_stop HX.out (by rw [Lib.contains_iff_indexByte]; simp; omega)).symm, rfl⟩
   ·
    have hn : 0 ≤ Lib.indexByte t.data.toList x := by assumption
    go_round
    case rel => exact ⟨k + 1, by omega, by go_num, all_step HA.out HX.out (by rw [Lib.contains_iff_indexByte]; simpa using hn)⟩
    case measure => simp [intOf]; omega
  ·
   go_wp2
   go_ret
   exact ⟨ret_bool (all_end HA.out (by rw [ba_size]; omega)).symm, rfl⟩

/-- The reference's Printable. -/
theorem Printable_any (s : ByteArray) (w : World) (hs : s.size ≤ maxLen) : Calls Tryz.prog 165 #[.string s] w fun e w' => e = .returned (.bool (printB s)) ∧ w = w' := by
 unfold maxLen at hs
 go_enter Tryz.func165, Tryz.ntmps165
 go_wp2
 go_loop [3] (fun i => ∃ k : Nat, k ≤ s.size ∧ i = .int .i64 k ∧ Hid ((s.data.toList.take k).all printP = true)) (fun i => s.size - (intOf i).toNat)
 case atStart => exact ⟨0, Nat.zero_le _, rfl, rfl⟩
 case round =>
  obtain ⟨k, hk, rfl, HA⟩ := hrel
  by_cases hlt : k < s.size
  ·
   obtain ⟨x, hx⟩ : ∃ x : UInt8, s[k]'hlt = x := ⟨_, rfl⟩
   have hxl : s.data.toList[k]? = some x := by rw [← hx]; exact Lib.data_getElem? s k hlt
   have HX := Lib.hid hxl; clear hxl
   go_wp2
   ·
    go_ret
    exact ⟨ret_bool (all_stop HX.out (by simp [printP]; omega)).symm, rfl⟩
   ·
    have hh : (32 : Int) ≤ (x.toNat : Int) ∧ (x.toNat : Int) ≤ 126 := by assumption
    go_round
    case rel => exact ⟨k + 1, by omega, by go_num, all_step HA.out HX.out (by simp [printP]; omega)⟩
    case measure => simp [intOf]; omega
   ·
    go_ret
    exact ⟨ret_bool (all_stop HX.out (by simp [printP]; omega)).symm, rfl⟩
  ·
   go_wp2
   go_ret
   exact ⟨ret_bool (all_end HA.out (by rw [ba_size]; omega)).symm, rfl⟩

/-- The reference's Text. -/
theorem RText_any (s : ByteArray) (w : World) (hs : s.size ≤ maxLen) : Calls Tryz.prog 129 #[.string s] w fun e w' => e = .returned (.bool (textB s)) ∧ w = w' := by
 go_enter Tryz.func129, Tryz.ntmps129
 go_wp2_with (go_at_call 165; refine (Printable_any _ _ hs).mono ?_; rintro e w' ⟨rfl, rfl⟩)
 ·
  have h : printB s = true := by assumption
  go_ret
  exact ⟨ret_bool (textB_yes h), rfl⟩
 ·
  have h : ¬ printB s = true := by assumption
  go_ret
  exact ⟨ret_bool (textB_no (Bool.eq_false_iff.2 h)), rfl⟩

end Go.Proofs.YtjgllhlilbchpaaGreatDoor
namespace Go.Proofs.YtjgllhlilbchpaaGreatDoor
open Go.RowKit Go.Cold

/-- The reference's Valid. -/
theorem RValid_any (s : ByteArray) (w : World) (hs : s.size ≤ maxLen) : Calls Tryz.prog 114 #[.string s] w fun e w' => e = .returned (.bool (validB s)) ∧ w = w' := by
 go_enter Tryz.func114, Tryz.ntmps114
 go_wp2_with (go_at_call 158; go_must (refine (in_any _ _ nameL _ hs rfl).mono ?_); rintro e w' ⟨rfl, rfl⟩)
 all_goals (go_ret; exact ⟨ret_bool (by first | (simp [validB, dotsB, *]; done) | (simp [validB, dotsB, *]; omega) | simp [validB, dotsB, Bool.and_assoc, *]), rfl⟩)

theorem indexByte_contains (l : List UInt8) (c : UInt8) : decide (0 ≤ Lib.indexByte l c) = l.contains c := (Lib.contains_iff_indexByte l c).symm

/-- The reference's Interface. -/
theorem RInterface_any (s : ByteArray) (w : World) (hs : s.size ≤ maxLen) : Calls Tryz.prog 66 #[.string s] w fun e w' => e = .returned (.bool (ifaceB s)) ∧ w = w' := by
 go_enter Tryz.func66, Tryz.ntmps66
 go_wp2_with fail
 refine (RValid_any _ _ hs).mono ?_; rintro e w' ⟨rfl, rfl⟩
 cases hv : validB s with
 | false =>
  have HV := Lib.hid hv; clear hv
  go_wp2
  go_ret
  exact ⟨ret_bool (by rw [ifaceB, HV.out]; rfl), rfl⟩
 | true =>
  have HV := Lib.hid hv; clear hv
  by_cases h1 : s.size ≤ 15
  ·
   go_wp2_with fail
   refine (Tryz.strings_Contains_one _ 58 _).mono ?_; rintro e w' ⟨rfl, rfl⟩
   rw [indexByte_contains]
   cases h2 : s.data.toList.contains 58 with
   | true =>
    have H2 := Lib.hid h2; clear h2
    go_wp2
    go_ret
    exact ⟨ret_bool (by rw [ifaceB, HV.out, H2.out]; simp), rfl⟩
   | false =>
    have H2 := Lib.hid h2; clear h2
    go_wp2_with fail
    refine (Tryz.strings_Contains_one _ 33 _).mono ?_; rintro e w' ⟨rfl, rfl⟩
    rw [indexByte_contains]
    cases h3 : s.data.toList.contains 33 with
    | true =>
     have H3 := Lib.hid h3; clear h3
     go_wp2
     go_ret
     exact ⟨ret_bool (by rw [ifaceB, HV.out, H2.out, H3.out]; simp), rfl⟩
    | false =>
     have H3 := Lib.hid h3; clear h3
     go_wp2
     go_ret
     exact ⟨ret_bool (by rw [ifaceB, HV.out, H2.out, H3.out]; simp; omega), rfl⟩
  ·
   go_wp2
   go_ret
   exact ⟨ret_bool (by rw [ifaceB, HV.out]; simp; omega), rfl⟩

/-- The reference's Beneath. -/
theorem RBeneath_any (a b : ByteArray) (w : World) (hs : a.size ≤ 4294967280) : Calls Tryz.prog 132 #[.string a, .string b] w fun e w' => e = .returned (.bool (belowB a b)) ∧ w = w' := by
 go_enter Tryz.func132, Tryz.ntmps132
 go_wp2_with (go_at_call 13; go_must (refine (Tryz.strings_HasPrefix _ _ _).mono ?_); rintro e w' ⟨rfl, rfl⟩)
 go_ret
 exact ⟨rfl, rfl⟩
end Go.Proofs.YtjgllhlilbchpaaGreatDoor
namespace Go.Proofs.YtjgllhlilbchpaaGreatDoor
open Go.RowKit Go.Cold

/-- What all walks ask of the library's own variables. -/
def Ok (w : World) : Prop := ∃ m, w.cell? ⟨0, 0, none⟩ = some (.int .i64 m)
theorem Ok.next {w w' : World} (h : Ok w) (hb : Below w.heap.size w w') : Ok w' := by
 obtain ⟨m, hm⟩ := h
 exact ⟨m, (hb.cell (p := ⟨0, 0, none⟩) (block_lt_of_cell hm)).trans hm⟩

/-- strings.Split at the slash. -/
theorem SplitSlash_any (s : ByteArray) (w : World) (hs : s.size < 4294967281) (hok : Ok w) : Calls Tryz.prog 122 #[.string s, .string ⟨#[47]⟩] w fun e w' =>
  ∃ A c, e = .returned (.slice A (piecesL s.data.toList).length c) ∧ Sl w' w'.heap.size A c (piecesL s.data.toList) ∧ Below w.heap.size w w' := by
 obtain ⟨m, hm⟩ := hok
 refine (Tryz.strings_Split s ⟨#[47]⟩ m w hs hm (by decide)).mono ?_
 rintro e w' ⟨rfl, rfl⟩
 have hlen := pieces_length s ⟨#[47]⟩ rfl
 have hcnt := splitOn_count 47 s.data.toList
 have hb : Below w.heap.size w (w.alloc (.cells ((Lib.splitB ⟨#[47]⟩ 0 (Lib.countB s ⟨#[47]⟩) s).map Value.string).toArray 9)) := (Below.refl _ _).alloc (Nat.le_refl _) _
 refine ⟨_, (piecesL s.data.toList).length, by rw [hlen], ?_, hb⟩
 refine Sl.ofStrs (Nat.le_refl _) ?_ (by simp) (fun x hx => ?_) (fun i x hx => ?_)
 · unfold piecesL maxLen; rw [List.length_map]; rw [ba_size] at hcnt; omega
 · have := pieces_sizes hx; rw [ba_size] at this; unfold maxLen; omega
 ·
  rw [splitB_eq s ⟨#[47]⟩ rfl, World.cell?_alloc_at _ _ _ _ rfl]
  simp [hx]

end Go.Proofs.YtjgllhlilbchpaaGreatDoor
namespace Go.Proofs.YtjgllhlilbchpaaGreatDoor
open Go.RowKit Go.Cold

end Go.Proofs.YtjgllhlilbchpaaGreatDoor
namespace Go.Proofs.YtjgllhlilbchpaaGreatDoor
open Go.RowKit Go.Cold

/-- strings.Compare. -/
theorem stringsCompare_any (a b : ByteArray) (w : World) : Calls Tryz.prog 69 #[.string a, .string b] w fun e w' => e = .returned (.int .i64 (cmpB a b)) ∧ w' = w := Tryz.strings_Compare a b w

/-- The reference's Compare. -/
theorem RCompare_any (A B : Option Addr) (c d : Nat) (xs ys : List ByteArray) (w : World) (b1 b2 : Nat) (hx : Sl w b1 A c xs) (hy : Sl w b2 B d ys) :
  Calls Tryz.prog 87 #[.slice A xs.length c, .slice B ys.length d] w fun e w' => e = .returned (.int .i64 (cmpL xs ys)) ∧ ∃ n, w' = w.drewN n := by
 have hc := hx.1; have hc2 := hx.2.1; have hd := hy.1; have hd2 := hy.2.1
 unfold maxLen at hc2 hd2
 go_enter Tryz.func87, Tryz.ntmps87
 go_wp2
 go_loopw [5] (fun i wr => ∃ k n : Nat, k ≤ xs.length ∧ k ≤ ys.length ∧ i = .int .i64 k ∧ Hid (xs.take k = ys.take k) ∧ wr = w.drewN n) (fun i _ => xs.length - (intOf i).toNat)
 case atStart => exact ⟨0, 0, Nat.zero_le _, Nat.zero_le _, rfl, rfl, rfl⟩
 case round =>
  obtain ⟨k, n, hk, hk', rfl, ht, rfl⟩ := hrel
  by_cases hlx : k < xs.length
  ·
   have i1 : (k : Int) < (xs.length : Int) := by omega
   by_cases hly : k < ys.length
   ·
    obtain ⟨b3, o3, rfl, _, cx, _⟩ := hx.str hlx
    obtain ⟨b4, o4, rfl, _, cy, _⟩ := hy.str hly
    have i2 : (k : Int) < (ys.length : Int) := by omega
    go_wp2
    go_quiet (fail)
    go_wp2
    ·
     have he := ba_ne (by assumption)
     have hcl := cmpL_diff ht.out hlx hly he
     have HC := Lib.hid hcl; clear hcl he
     go_quiet ((go_at_call 69; exact quiet_add_same (stringsCompare_any _ _ _)))
     go_wp2
     go_ret
     exact ⟨ret_int HC.out.symm, by simp only [World.drewN_drewN]; exact ⟨_, rfl⟩⟩
    ·
     have he := ba_eq (by assumption)
     have HE := Lib.hid he; clear he
     go_roundw
     case rel => exact ⟨k + 1, _, by omega, by omega, by go_num, take_succ_iff hlx hly ht.out HE.out, rfl⟩
     case measure => simp [intOf]; omega
   ·
    have hl : ys.length < xs.length := by omega
    go_wp2
    go_ret
    exact ⟨ret_int (cmpL_more ht.out (by omega) hl).symm, _, rfl⟩
  ·
   go_wp2
   ·
    have hl : xs.length < ys.length := by assumption
    go_ret
    exact ⟨ret_int (cmpL_less ht.out (by omega) hl).symm, _, rfl⟩
   ·
    have hl : ¬ xs.length < ys.length := by assumption
    go_ret
    exact ⟨ret_int (cmpL_same (take_all ht.out (by omega) (by omega))).symm, _, rfl⟩

end Go.Proofs.YtjgllhlilbchpaaGreatDoor
namespace Go.Proofs.YtjgllhlilbchpaaGreatDoor
open Go.RowKit Go.Cold

/-- strings.Join with the slash. -/
theorem JoinSlash_any (A : Option Addr) (c : Nat) (xs : List ByteArray) (w : World) (hx : Sl w w.heap.size A c xs) (hlen : (joinB xs).size ≤ 140737488355328) (hn : xs.length ≤ 140737488355328) :
  Calls Tryz.prog 140 #[.slice A xs.length c, .string ⟨#[47]⟩] w fun e w' => e = .returned (.string (joinB xs)) ∧ Below w.heap.size w w' := by
 rcases Nat.eq_zero_or_pos xs.length with h0 | h0
 ·
  have hx0 : xs = [] := List.eq_nil_of_length_eq_zero h0
  subst hx0
  exact (Tryz.strings_Join_none A c ⟨#[47]⟩ w).mono fun e w' ⟨he, hw⟩ => ⟨he, by rw [hw]; exact Below.refl _ _⟩
 ·
  obtain ⟨b, o, rfl, hb, h1⟩ := hx.strs h0
  exact Tryz.strings_Join b o c xs ⟨#[47]⟩ w h1 hb hn hx.1 hlen

/-- The reference's Join. -/
theorem RJoin_any (A : Option Addr) (c : Nat) (xs : List ByteArray) (w : World) (hx : Sl w w.heap.size A c xs) (hlen : (joinB xs).size ≤ 4294967280) (hn : xs.length ≤ 4294967280) :
  Calls Tryz.prog 104 #[.slice A xs.length c] w fun e w' => e = .returned (.string (toB (47 :: (joinB xs).data.toList))) ∧ Below w.heap.size w w' := by
 go_enter Tryz.func104, Tryz.ntmps104
 go_wp2_with fail
 refine (JoinSlash_any A c xs w hx (by omega) (by omega)).mono ?_
 rintro e w1 ⟨rfl, hb⟩
 obtain ⟨j, hj⟩ : ∃ j, joinB xs = j := ⟨_, rfl⟩
 rw [hj] at hlen ⊢
 clear hx
 have HJ := Lib.hid hj; clear hj
 go_wp2
 go_ret
 exact ⟨ret_str (by rw [HJ.out]; exact slash_app j), hb⟩

end Go.Proofs.YtjgllhlilbchpaaGreatDoor
namespace Go.Proofs.YtjgllhlilbchpaaGreatDoor
open Go.RowKit Go.Cold

/-- The reference's Link. -/
theorem RLink_any (s : ByteArray) (w : World) (hs : s.size < 4294967281) (hok : Ok w) : Calls Tryz.prog 131 #[.string s] w fun e w' => e = .returned (.bool (linkB s)) ∧ Below w.heap.size w w' := by
  have HS := Lib.hid hs; clear hs
  go_enter Tryz.func131, Tryz.ntmps131
  go_wp2_with fail
  refine (SplitSlash_any s w HS.out hok).mono ?_
  rintro e w1 ⟨A, c, rfl, hsl, hb⟩
  obtain ⟨xs, hxs⟩ : ∃ xs, piecesL s.data.toList = xs := ⟨_, rfl⟩
  rw [hxs] at hsl ⊢
  have HXS := Lib.hid hxs; clear hxs
  have hc := hsl.1; have hc2 := hsl.2.1
  unfold maxLen at hc2
  have HSl := Lib.hid hsl; clear hsl
  go_wp2_with fail
  go_loop [4] (fun i => ∃ k : Nat, k ≤ xs.length ∧ i = .int .i64 k ∧ Hid ((xs.take k).all compB = true)) (fun i => xs.length - (intOf i).toNat)
  case atStart => exact ⟨0, Nat.zero_le _, rfl, rfl⟩
  case round =>
    obtain ⟨k, hk, rfl, HA⟩ := hrel
    by_cases hlt : k < xs.length
    · obtain ⟨b3, o3, rfl, _, cx, hsk⟩ := HSl.out.str hlt
      have hxk : xs[k]? = some xs[k] := List.getElem?_eq_getElem hlt
      obtain ⟨x, hx⟩ : ∃ x, xs[k] = x := ⟨_, rfl⟩
      rw [hx] at cx hsk hxk
      have HX := Lib.hid hxk; clear hxk hx
      have i1 : (k : Int) < (xs.length : Int) := by omega
      cases hv : compB x with
      | true =>
        have h1 : x.toList.isEmpty = false := by
          unfold compB at hv; simp only [Bool.and_eq_true] at hv; simpa using hv.1
        have h2 : (x.toList == [46]) = false ∧ (x.toList == [46, 46]) = false := by
          unfold compB dotsB at hv; simp only [Bool.and_eq_true, Bool.not_eq_true', Bool.or_eq_false_iff] at hv; exact hv.2.1
        have h3 : inB partL x = true := by
          unfold compB at hv; simp only [Bool.and_eq_true] at hv; exact hv.2.2
        obtain ⟨h21, h22⟩ := h2
        have HV := Lib.hid hv; clear hv
        go_wp2_with (go_at_call 158; go_must (refine (in_any _ _ partL _ hsk rfl).mono ?_); rintro e w' ⟨rfl, rfl⟩)
        go_round
        case rel => exact ⟨k + 1, by omega, by go_num, all_step HA.out HX.out HV.out⟩
        case measure => simp [intOf]; omega
      | false =>
        have HV := Lib.hid hv; clear hv
        have hfin : false = linkB s := by rw [linkB, HXS.out, all_stop HX.out HV.out]; simp
        have HF := Lib.hid hfin; clear hfin
        go_wp2_with (go_at_call 158; go_must (refine (in_any _ _ partL _ hsk rfl).mono ?_); rintro e w' ⟨rfl, rfl⟩)
        all_goals first
          | (go_ret; exact ⟨ret_bool HF.out, hb⟩)
          | (exfalso
             have := HV.out
             simp_all [compB, dotsB])
    · go_wp2
      go_ret
      exact ⟨ret_bool (by rw [linkB, HXS.out, all_end HA.out (by omega)]; simp), hb⟩
end Go.Proofs.YtjgllhlilbchpaaGreatDoor
namespace Go.Cold
open Go Go.RowKit

end Go.Cold
