/-
  The walks of package name's sets of bytes.
-/
import Derived.Test.YtjpoljlgkgmdkaaGreatDoorRows
import Derived.Test.YtjpoljlgkgmdkaaGreatDoorYA
import Derived.Test.YtjpoljlgkgmdkaaGreatDoorYShf
import Derived.Shelf.Abstract
set_option linter.unusedSimpArgs false
set_option linter.unusedVariables false
namespace Go.Proofs.YtjpoljlgkgmdkaaGreatDoor
open Go.RowKit Go.Cold

theorem info_set : (Tryz.prog.info? 76).map (fun i => (i.zero, i.size)) = some (some (.agg (Array.replicate 256 (.bool false))), 256) := by kernel_rfl

theorem plus_any (S : List UInt8) (s : ByteArray) (w : World) (hs : s.size ≤ maxLen) :
  Calls Tryz.prog 46 #[.agg (Lib.setCells S), .string s] w fun e w' => e = .returned (.agg (Lib.setCells (S ++ s.data.toList))) ∧ Below w.heap.size w w' := by
 obtain ⟨hz, hi⟩ := zero_of_info info_set
 unfold maxLen at hs
 rw [← Lib.setCells_nil] at hz
 have HI := Lib.hid hi; clear hi
 go_enter Tryz.func46, Tryz.ntmps46
 go_wp2
 go_loopw [8] (fun i wr => ∃ k : Nat, k ≤ s.size ∧ i = .int .i64 k ∧ Blk wr w.heap.size 76 (Lib.setCells (S ++ s.data.toList.take k)) ∧ Blk wr (w.heap.size + 1) 76 (Lib.setCells []) ∧ Below w.heap.size w wr) (fun i _ => s.size - (intOf i).toNat)
 case atStart =>
  refine ⟨0, Nat.zero_le _, rfl, ?_, ?_, ((Below.refl _ _).alloc (Nat.le_refl _) _).alloc (by simp) _⟩
  · simpa using (Blk.new w 76 (Lib.setCells S)).alloc _
  ·
   have := Blk.new (w.alloc (Obj.cells (Lib.setCells S) 76)) 76 (Lib.setCells [])
   simpa using this
 case round =>
  obtain ⟨k, hk, rfl, h1, h2, hb⟩ := hrel
  by_cases hlt : k < s.size
  ·
   obtain ⟨x, hx⟩ : ∃ x : UInt8, s[k]'hlt = x := ⟨_, rfl⟩
   have hxl : s.data.toList[k]? = some x := by rw [← hx]; exact Lib.data_getElem? s k hlt
   have hx256 : (x.toNat : Int) < 256 := by have := UInt8.toNat_lt x; omega
   have hcell := (h1.cell x.toNat).trans (Lib.setCells_at _ x)
   have hfr := h1.frozen x.toNat
   have HX := Lib.hid hxl; clear hxl
   have H1 := Lib.hid h1; clear h1
   have H2 := Lib.hid h2; clear h2
   go_wp2
   go_roundw
   case rel =>
    refine ⟨k + 1, by omega, by go_num, ?_, H2.out.far (by simp) _, hb.setCell (by simp) _⟩
    rw [List.take_add_one, HX.out, Option.toList, ← List.append_assoc, Lib.setCells_snoc]
    exact H1.out.set_ _ _
   case measure => simp [intOf]; omega
  ·
   rw [List.take_of_length_le (by rw [← Lib.size_eq]; omega)] at h1
   have H1 := Lib.hid h1; clear h1
   have H2 := Lib.hid h2; clear h2
   go_wp2_with (first
    | (with_reducible refine at_dst 16 ?_; go_must (refine wpList_load_blk rfl 76 _ rfl w.heap.size rfl 76 _ _ H1.out Tryz.underlying76 rfl (by rw [Lib.setCells_size]; exact HI.out) ?_))
    | (with_reducible refine at_store 4 16 ?_; go_must (refine wpList_store_blk rfl 76 _ _ rfl (w.heap.size + 1) rfl (Lib.setCells (S ++ s.data.toList)) rfl 76 _ H2.out (by rw [Lib.setCells_size]; exact HI.out) (by rw [Lib.setCells_size, Lib.setCells_size]) (Lib.setCells_one _) ?_)))
   refine bodyPost_ret (v := .agg (Lib.setCells (S ++ s.data.toList))) ?_ rfl ⟨rfl, below_setRow hb (by omega) _⟩
   exact results_cell_blk rfl _ _ (w.heap.size + 1) 76 _ _ rfl (H2.out.setRow_ _) Tryz.underlying76 rfl (by rw [Lib.setCells_size]; exact HI.out)

theorem has_any (S : List UInt8) (s : ByteArray) (w : World) (hs : s.size ≤ maxLen) :
  Calls Tryz.prog 45 #[.agg (Lib.setCells S), .string s] w fun e w' => e = .returned (.bool (inB S s)) ∧ Below w.heap.size w w' := by
 unfold maxLen at hs
 go_enter Tryz.func45, Tryz.ntmps45
 go_wp2
 go_loop [8] (fun i => ∃ k : Nat, k ≤ s.size ∧ i = .int .i64 k ∧ Hid ((s.data.toList.take k).all S.contains = true)) (fun i => s.size - (intOf i).toNat)
 case atStart => exact ⟨0, Nat.zero_le _, rfl, rfl⟩
 case round =>
  obtain ⟨k, hk, rfl, HA⟩ := hrel
  have h1 := Blk.new w 76 (Lib.setCells S)
  by_cases hlt : k < s.size
  ·
   obtain ⟨x, hx⟩ : ∃ x : UInt8, s[k]'hlt = x := ⟨_, rfl⟩
   have hxl : s.data.toList[k]? = some x := by rw [← hx]; exact Lib.data_getElem? s k hlt
   have hx256 : (x.toNat : Int) < 256 := by have := UInt8.toNat_lt x; omega
   have hcell := (h1.cell x.toNat).trans (Lib.setCells_at _ x)
   have HX := Lib.hid hxl; clear hxl
   clear h1
   obtain ⟨c, hc⟩ : ∃ c, S.contains x = c := ⟨_, rfl⟩
   rw [hc] at hcell
   have HC := Lib.hid hc; clear hc
   cases c with
   | false =>
    go_wp2
    go_ret
    refine ⟨ret_bool ?_, (Below.refl _ _).alloc (Nat.le_refl _) _⟩
    symm
    rw [inB, List.all_eq_false]
    exact ⟨x, List.mem_of_getElem? HX.out, by rw [HC.out]; decide⟩
   | true =>
    go_wp2
    go_round
    case rel =>
     refine ⟨k + 1, by omega, by go_num, ?_⟩
     show _ = true
     rw [List.take_add_one, HX.out]
     simp only [Option.toList, List.all_append, HA.out, List.all_cons, List.all_nil, HC.out, Bool.and_self]
    case measure => simp [intOf]; omega
  ·
   clear h1
   go_wp2
   go_ret
   refine ⟨ret_bool ?_, (Below.refl _ _).alloc (Nat.le_refl _) _⟩
   have := HA.out
   rw [List.take_of_length_le (by rw [← Lib.size_eq]; omega)] at this
   exact this.symm

theorem common_any (w : World) : Calls Tryz.prog 84 #[] w fun e w' => e = .returned (.agg (Lib.setCells commonL)) ∧ Below w.heap.size w w' := by
 obtain ⟨hz, hi⟩ := zero_of_info info_set
 rw [← Lib.setCells_nil] at hz
 have HI := Lib.hid hi; clear hi
 go_enter Tryz.func84, Tryz.ntmps84
 go_wp2_with fail
 have hb0 : Below w.heap.size w (w.alloc (Obj.cells (Lib.setCells []) 76)) := (Below.refl _ _).alloc (Nat.le_refl _) _
 have k0 : Blk (w.alloc (Obj.cells (Lib.setCells []) 76)) w.heap.size 76 (Lib.setCells []) := Blk.new _ _ _
 generalize w.alloc (Obj.cells (Lib.setCells []) 76) = w0 at *
 refine (plus_any [] _ _ (by decide)).mono ?_; rintro e w1 ⟨rfl, hb1⟩
 have k1 := k0.below hb1 k0.lt; have b1 := hb0.trans (hb1.mono hb0.size)
 clear hb0 hb1 k0
 go_wp2_with fail
 refine (Tryz.strings_ToLower_ascii _ _ (by decide) (fun j b hj => of_decide_eq_true (List.all_eq_true.1 (by decide : upperL.all (fun b => decide (b.toNat < 128)) = true) b (List.mem_of_getElem? hj)))).mono ?_
 rintro e w2 ⟨rfl, hb2⟩
 have k2 := k1.below hb2 k1.lt; have b2 := b1.trans (hb2.mono b1.size)
 clear hb2 k1 b1
 go_wp2_with fail
 refine (plus_any _ _ _ (by decide)).mono ?_; rintro e w3 ⟨rfl, hb3⟩
 have k3 := k2.below hb3 k2.lt; have b3 := b2.trans (hb3.mono b2.size)
 clear hb3 k2 b2
 go_wp2_with fail
 refine (plus_any _ _ _ (by decide)).mono ?_; rintro e w4 ⟨rfl, hb4⟩
 have k4 := k3.below hb4 k3.lt; have b4 := b3.trans (hb4.mono b3.size)
 clear hb4 k3 b3
 go_wp2_with fail
 refine (plus_any _ _ _ (by decide)).mono ?_; rintro e w5 ⟨rfl, hb5⟩
 have k5 := k4.below hb5 k4.lt; have b5 := b4.trans (hb5.mono b4.size)
 clear hb5 k4 b4
 go_wp2_with (with_reducible refine at_store 0 6 ?_; go_must (refine wpList_store_blk rfl 76 _ _ rfl w.heap.size rfl (Lib.setCells commonL) rfl 76 _ k5 (by rw [Lib.setCells_size]; exact HI.out) (by rw [Lib.setCells_size, Lib.setCells_size]) (Lib.setCells_one _) ?_))
 refine bodyPost_ret (v := .agg (Lib.setCells commonL)) ?_ rfl ⟨rfl, below_setRow b5 (Nat.le_refl _) _⟩
 exact results_cell_blk rfl _ _ w.heap.size 76 _ _ rfl (k5.setRow_ _) Tryz.underlying76 rfl (by rw [Lib.setCells_size]; exact HI.out)
end Go.Proofs.YtjpoljlgkgmdkaaGreatDoor
namespace Go.Proofs.YtjpoljlgkgmdkaaGreatDoor
open Go.RowKit Go.Cold

theorem dots_any (s : ByteArray) (w : World) : Calls Tryz.prog 44 #[.string s] w fun e w' => e = .returned (.bool (dotsB s)) ∧ w = w' := by
 go_enter Tryz.func44, Tryz.ntmps44
 go_wp2
 ·
  have h : s.toList = [46] := by assumption
  go_ret
  exact ⟨ret_bool (by simp [dotsB, h]), rfl⟩
 ·
  go_ret
  exact ⟨rfl, rfl⟩

theorem in_any (s t : ByteArray) (T : List UInt8) (w : World) (hs : s.size ≤ maxLen) (hT : t.data.toList = T) : Calls Tryz.prog 114 #[.string s, .string t] w fun e w' => e = .returned (.bool (inB T s)) ∧ w = w' := by
 subst hT
 unfold maxLen at hs
 go_enter Tryz.func114, Tryz.ntmps114
 go_wp2
 go_loop [5] (fun i => ∃ k : Nat, k ≤ s.size ∧ i = .int .i64 k ∧ Hid ((s.data.toList.take k).all t.data.toList.contains = true)) (fun i => s.size - (intOf i).toNat)
 case atStart => exact ⟨0, Nat.zero_le _, rfl, rfl⟩
 case round =>
  obtain ⟨k, hk, rfl, HA⟩ := hrel
  by_cases hlt : k < s.size
  ·
   obtain ⟨x, hx⟩ : ∃ x : UInt8, s[k]'hlt = x := ⟨_, rfl⟩
   have hxl : s.data.toList[k]? = some x := by rw [← hx]; exact Lib.data_getElem? s k hlt
   have HX := Lib.hid hxl; clear hxl
   go_wp2_with (go_at_call 141; refine (Tryz.strings_IndexByte _ _ _).mono ?_; rintro e w' ⟨rfl, rfl⟩)
   ·
    have hn : Lib.indexByte t.data.toList x < 0 := by assumption
    go_ret
    exact ⟨ret_bool (all_stop HX.out (by rw [Lib.contains_iff_indexByte]; simp; omega)).symm, rfl⟩
   ·
    have hn : 0 ≤ Lib.indexByte t.data.toList x := by assumption
    go_round
    case rel => exact ⟨k + 1, by omega, by go_num, all_step HA.out HX.out (by rw [Lib.contains_iff_indexByte]; simpa using hn)⟩
    case measure => simp [intOf]; omega
  ·
   go_wp2
   go_ret
   exact ⟨ret_bool (all_end HA.out (by rw [ba_size]; omega)).symm, rfl⟩

theorem Printable_any (s : ByteArray) (w : World) (hs : s.size ≤ maxLen) : Calls Tryz.prog 115 #[.string s] w fun e w' => e = .returned (.bool (printB s)) ∧ w = w' := by
 unfold maxLen at hs
 go_enter Tryz.func115, Tryz.ntmps115
 go_wp2
 go_loop [3] (fun i => ∃ k : Nat, k ≤ s.size ∧ i = .int .i64 k ∧ Hid ((s.data.toList.take k).all printP = true)) (fun i => s.size - (intOf i).toNat)
 case atStart => exact ⟨0, Nat.zero_le _, rfl, rfl⟩
 case round =>
  obtain ⟨k, hk, rfl, HA⟩ := hrel
  by_cases hlt : k < s.size
  ·
   obtain ⟨x, hx⟩ : ∃ x : UInt8, s[k]'hlt = x := ⟨_, rfl⟩
   have hxl : s.data.toList[k]? = some x := by rw [← hx]; exact Lib.data_getElem? s k hlt
   have HX := Lib.hid hxl; clear hxl
   go_wp2
   ·
    go_ret
    exact ⟨ret_bool (all_stop HX.out (by simp [printP]; omega)).symm, rfl⟩
   ·
    have hh : (32 : Int) ≤ (x.toNat : Int) ∧ (x.toNat : Int) ≤ 126 := by assumption
    go_round
    case rel => exact ⟨k + 1, by omega, by go_num, all_step HA.out HX.out (by simp [printP]; omega)⟩
    case measure => simp [intOf]; omega
   ·
    go_ret
    exact ⟨ret_bool (all_stop HX.out (by simp [printP]; omega)).symm, rfl⟩
  ·
   go_wp2
   go_ret
   exact ⟨ret_bool (all_end HA.out (by rw [ba_size]; omega)).symm, rfl⟩

theorem Text_any (s : ByteArray) (w : World) (hs : s.size ≤ maxLen) : Calls Tryz.prog 112 #[.string s] w fun e w' => e = .returned (.bool (textB s)) ∧ w = w' := by
 unfold maxLen at hs
 go_enter Tryz.func112, Tryz.ntmps112
 go_wp2
 go_loop [6] (fun i => ∃ k : Nat, k ≤ s.size ∧ i = .int .i64 k ∧ Hid ((s.data.toList.take k).all printP = true)) (fun i => s.size - (intOf i).toNat)
 case atStart => exact ⟨0, Nat.zero_le _, rfl, rfl⟩
 case round =>
  obtain ⟨k, hk, rfl, HA⟩ := hrel
  by_cases hlt : k < s.size
  ·
   obtain ⟨x, hx⟩ : ∃ x : UInt8, s[k]'hlt = x := ⟨_, rfl⟩
   have hxl : s.data.toList[k]? = some x := by rw [← hx]; exact Lib.data_getElem? s k hlt
   have HX := Lib.hid hxl; clear hxl
   go_wp2
   ·
    go_ret
    exact ⟨ret_bool (textB_no (all_stop HX.out (by simp [printP]; omega))), rfl⟩
   ·
    have hh : (32 : Int) ≤ (x.toNat : Int) ∧ (x.toNat : Int) ≤ 126 := by assumption
    go_round
    case rel => exact ⟨k + 1, by omega, by go_num, all_step HA.out HX.out (by simp [printP]; omega)⟩
    case measure => simp [intOf]; omega
   ·
    go_ret
    exact ⟨ret_bool (textB_no (all_stop HX.out (by simp [printP]; omega))), rfl⟩
  ·
   go_wp2
   go_ret
   exact ⟨ret_bool (textB_yes (all_end HA.out (by rw [ba_size]; omega))), rfl⟩

theorem RText_any (s : ByteArray) (w : World) (hs : s.size ≤ maxLen) : Calls Tryz.prog 63 #[.string s] w fun e w' => e = .returned (.bool (textB s)) ∧ w = w' := by
 go_enter Tryz.func63, Tryz.ntmps63
 go_wp2_with (go_at_call 115; refine (Printable_any _ _ hs).mono ?_; rintro e w' ⟨rfl, rfl⟩)
 ·
  have h : printB s = true := by assumption
  go_ret
  exact ⟨ret_bool (textB_yes h), rfl⟩
 ·
  have h : ¬ printB s = true := by assumption
  go_ret
  exact ⟨ret_bool (textB_no (Bool.eq_false_iff.2 h)), rfl⟩

end Go.Proofs.YtjpoljlgkgmdkaaGreatDoor
namespace Go.Proofs.YtjpoljlgkgmdkaaGreatDoor
open Go.RowKit Go.Cold

theorem Valid_any (s : ByteArray) (w : World) (hs : s.size ≤ maxLen) : Calls Tryz.prog 78 #[.string s] w fun e w' => e = .returned (.bool (validB s)) ∧ Below w.heap.size w w' := by
 go_enter Tryz.func78, Tryz.ntmps78
 go_wp2_with (first
  | (go_at_call 44; go_must (refine (dots_any _ _).mono ?_); rintro e w' ⟨rfl, rfl⟩)
  | (go_at_call 84; go_must (refine (common_any _).mono ?_); rintro e w1 ⟨rfl, hb1⟩)
  | (go_at_call 46; go_must (refine (plus_any _ _ _ (by decide)).mono ?_); rintro e w2 ⟨rfl, hb2⟩)
  | (go_at_call 45; go_must (refine (has_any _ _ _ hs).mono ?_); rintro e w3 ⟨rfl, hb3⟩))
 ·
  go_ret
  exact ⟨ret_bool (by simp [validB, *]), Below.refl _ _⟩
 ·
  go_ret
  exact ⟨ret_bool (by simp [validB, *]), Below.refl _ _⟩
 ·
  go_ret
  refine ⟨ret_bool (by simp [validB, nameL, *]), ?_⟩
  have h2 := hb1.trans (hb2.mono hb1.size)
  exact h2.trans (hb3.mono h2.size)
 ·
  go_ret
  exact ⟨ret_bool (by simp [validB, *]; omega), Below.refl _ _⟩

theorem RValid_any (s : ByteArray) (w : World) (hs : s.size ≤ maxLen) : Calls Tryz.prog 64 #[.string s] w fun e w' => e = .returned (.bool (validB s)) ∧ w = w' := by
 go_enter Tryz.func64, Tryz.ntmps64
 go_wp2_with (go_at_call 114; go_must (refine (in_any _ _ nameL _ hs rfl).mono ?_); rintro e w' ⟨rfl, rfl⟩)
 all_goals (go_ret; exact ⟨ret_bool (by first | (simp [validB, dotsB, *]; done) | (simp [validB, dotsB, *]; omega) | simp [validB, dotsB, Bool.and_assoc, *]), rfl⟩)

theorem indexByte_contains (l : List UInt8) (c : UInt8) : decide (0 ≤ Lib.indexByte l c) = l.contains c := (Lib.contains_iff_indexByte l c).symm

theorem RInterface_any (s : ByteArray) (w : World) (hs : s.size ≤ maxLen) : Calls Tryz.prog 66 #[.string s] w fun e w' => e = .returned (.bool (ifaceB s)) ∧ w = w' := by
 go_enter Tryz.func66, Tryz.ntmps66
 go_wp2_with fail
 refine (RValid_any _ _ hs).mono ?_; rintro e w' ⟨rfl, rfl⟩
 cases hv : validB s with
 | false =>
  have HV := Lib.hid hv; clear hv
  go_wp2
  go_ret
  exact ⟨ret_bool (by rw [ifaceB, HV.out]; rfl), rfl⟩
 | true =>
  have HV := Lib.hid hv; clear hv
  by_cases h1 : s.size ≤ 15
  ·
   go_wp2_with fail
   refine (Tryz.strings_Contains_one _ 58 _).mono ?_; rintro e w' ⟨rfl, rfl⟩
   rw [indexByte_contains]
   cases h2 : s.data.toList.contains 58 with
   | true =>
    have H2 := Lib.hid h2; clear h2
    go_wp2
    go_ret
    exact ⟨ret_bool (by rw [ifaceB, HV.out, H2.out]; simp), rfl⟩
   | false =>
    have H2 := Lib.hid h2; clear h2
    go_wp2_with fail
    refine (Tryz.strings_Contains_one _ 33 _).mono ?_; rintro e w' ⟨rfl, rfl⟩
    rw [indexByte_contains]
    cases h3 : s.data.toList.contains 33 with
    | true =>
     have H3 := Lib.hid h3; clear h3
     go_wp2
     go_ret
     exact ⟨ret_bool (by rw [ifaceB, HV.out, H2.out, H3.out]; simp), rfl⟩
    | false =>
     have H3 := Lib.hid h3; clear h3
     go_wp2
     go_ret
     exact ⟨ret_bool (by rw [ifaceB, HV.out, H2.out, H3.out]; simp; omega), rfl⟩
  ·
   go_wp2
   go_ret
   exact ⟨ret_bool (by rw [ifaceB, HV.out]; simp; omega), rfl⟩

theorem Interface_any (s : ByteArray) (w : World) (hs : s.size ≤ maxLen) : Calls Tryz.prog 76 #[.string s] w fun e w' => e = .returned (.bool (ifaceB s)) ∧ Below w.heap.size w w' := by
 go_enter Tryz.func76, Tryz.ntmps76
 go_wp2_with fail
 refine (Valid_any _ _ hs).mono ?_; rintro e w1 ⟨rfl, hb1⟩
 cases hv : validB s with
 | false =>
  have HV := Lib.hid hv; clear hv
  go_wp2
  go_ret
  exact ⟨ret_bool (by rw [ifaceB, HV.out]; rfl), hb1⟩
 | true =>
  have HV := Lib.hid hv; clear hv
  by_cases h1 : s.size ≤ 15
  ·
   go_wp2_with fail
   refine (Tryz.strings_ContainsAny_laid _ _ _ (by omega) (by decide) (fun j b hj => name_ascii HV.out j b hj) (fun j b hj => of_decide_eq_true (List.all_eq_true.1 (by decide : [58, 33].all (fun b : UInt8 => decide (b.toNat < 128)) = true) b (List.mem_of_getElem? hj)))).mono ?_; rintro e w2 ⟨rfl, hb2⟩
   obtain ⟨c, hc⟩ : ∃ c, Lib.containsAny s.data.toList (ByteArray.mk #[58, 33]).data.toList = c := ⟨_, rfl⟩
   rw [hc]
   have HC := Lib.hid hc; clear hc
   go_wp2
   go_ret
   refine ⟨ret_bool ?_, hb1.trans (hb2.mono hb1.size)⟩
   rw [ifaceB, HV.out, ← iface_any, ← indexAny_any, ← HC.out]
   simp [Lib.containsAny]; omega
  ·
   go_wp2
   go_ret
   exact ⟨ret_bool (by rw [ifaceB, HV.out]; simp; omega), hb1⟩

theorem RBeneath_any (a b : ByteArray) (w : World) (hs : a.size ≤ 4294967280) : Calls Tryz.prog 140 #[.string a, .string b] w fun e w' => e = .returned (.bool (belowB a b)) ∧ w = w' := by
 go_enter Tryz.func140, Tryz.ntmps140
 go_wp2_with (go_at_call 172; go_must (refine (Tryz.strings_HasPrefix _ _ _).mono ?_); rintro e w' ⟨rfl, rfl⟩)
 go_ret
 exact ⟨rfl, rfl⟩
end Go.Proofs.YtjpoljlgkgmdkaaGreatDoor
namespace Go.Proofs.YtjpoljlgkgmdkaaGreatDoor
open Go.RowKit Go.Cold

structure PredS (g : FuncId) (caps : Array Value) (w : World) (p : ByteArray → Bool) : Prop where
 enters : ∀ args w, (callFunc g args).run Tryz.prog w = .ok (.enter g args) w
 gives : ∀ (x : ByteArray) (W : World), x.size ≤ maxLen → Below w.heap.size w W → Calls Tryz.prog g (#[.string x] ++ caps) W fun e W' => e = .returned (.bool (p x)) ∧ Below W.heap.size W W'
theorem PredS.next {g : FuncId} {caps : Array Value} {w w' : World} {p : ByteArray → Bool} (h : PredS g caps w p) (hb : Below w.heap.size w w') : PredS g caps w' p :=
 ⟨h.enters, fun x W hx hW => h.gives x W hx (hb.trans (hW.mono hb.size))⟩

set_option maxRecDepth 10000 in
theorem IndexFunc_any (A : Option Addr) (c : Nat) (xs : List ByteArray) (g : FuncId) (caps : Array Value) (p : ByteArray → Bool) (w : World) (hx : Sl w w.heap.size A c xs) (hp : PredS g caps w p) :
  Calls Tryz.prog 130 #[.slice A xs.length c, .func (.func g) #[] caps] w fun e w' => e = .returned (.int .i64 (idxInt p xs)) ∧ Below w.heap.size w w' := by
 have hc := hx.1; have hc2 := hx.2.1
 unfold maxLen at hc2
 have hen := hp.enters
 have HP := Lib.hid hp; clear hp
 have HSl := Lib.hid hx; clear hx
 go_enter Tryz.func130, Tryz.ntmps130
 go_wp2
 go_loopw [8] (fun i wr => ∃ k : Nat, k ≤ xs.length ∧ i = .int .i64 k ∧ Hid ((xs.take k).all (fun x => !p x) = true) ∧ Below w.heap.size w wr) (fun i _ => xs.length - (intOf i).toNat)
 case atStart => exact ⟨0, Nat.zero_le _, rfl, rfl, Below.refl _ _⟩
 case round =>
  obtain ⟨k, hk, rfl, HA, hb⟩ := hrel
  by_cases hlt : k < xs.length
  ·
   obtain ⟨b3, o3, rfl, hb3, cx, hsz⟩ := (HSl.out.keep hb).str hlt
   have hxk : xs[k]? = some xs[k] := List.getElem?_eq_getElem hlt
   obtain ⟨x, hx⟩ : ∃ x, xs[k] = x := ⟨_, rfl⟩
   rw [hx] at cx hsz hxk
   have HX := Lib.hid hxk; clear hxk
   have HXX := Lib.hid hx; clear hx
   have i1 : (k : Int) < (xs.length : Int) := by omega
   go_wp2_with fail
   have hcall := HP.out.gives x wr hsz hb
   refine Calls.mono (R := fun e W' => e = .returned (.bool (p x)) ∧ Below wr.heap.size wr W') ?_ ?_
   · first | exact hcall | simpa using hcall
   rintro e w1 ⟨rfl, hb1⟩
   have hb2 := hb.trans (hb1.mono hb.size)
   clear hcall hb1 hb cx
   cases hpx : p x with
   | true =>
    have HPX := Lib.hid hpx; clear hpx
    go_wp2
    go_ret
    exact ⟨ret_int (idxInt_some hlt HA.out (by rw [HXX.out]; exact HPX.out)).symm, hb2⟩
   | false =>
    have HPX := Lib.hid hpx; clear hpx
    go_wp2
    go_roundw
    case rel => exact ⟨k + 1, by omega, by go_num, all_step HA.out HX.out (by rw [HPX.out]; rfl), hb2⟩
    case measure => simp [intOf]; omega
  ·
   go_wp2
   go_ret
   exact ⟨ret_int (idxInt_none (all_end HA.out (by omega))).symm, hb⟩

theorem ContainsFunc_any (A : Option Addr) (c : Nat) (xs : List ByteArray) (g : FuncId) (caps : Array Value) (p : ByteArray → Bool) (w : World) (hx : Sl w w.heap.size A c xs) (hp : PredS g caps w p) :
  Calls Tryz.prog 85 #[.slice A xs.length c, .func (.func g) #[] caps] w fun e w' => e = .returned (.bool (xs.any p)) ∧ Below w.heap.size w w' := by
 have HP := Lib.hid hp; clear hp
 have HSl := Lib.hid hx; clear hx
 go_enter Tryz.func85, Tryz.ntmps85
 go_wp2_with fail
 refine (IndexFunc_any A c xs g caps p w HSl.out HP.out).mono ?_
 rintro e w1 ⟨rfl, hb1⟩
 go_wp2
 go_ret
 exact ⟨ret_bool (idxInt_any _ _), hb1⟩

theorem all1_any (g : FuncId) (caps : Array Value) (p : ByteArray → Bool) (w : World) (b : Nat) (hb : b < w.heap.size) (hc : w.cell? ⟨b, 0, none⟩ = some (.func (.func g) #[] caps)) (hp : PredS g caps w p) :
  PredS 86 #[.pointer (some ⟨b, 0, none⟩)] w (fun x => !p x) := by
 refine ⟨enters_of Tryz.func86 (by kernel_rfl) rfl, fun x W hx hW => ?_⟩
 have hcell := (hW.cell (p := ⟨b, 0, none⟩) hb).trans hc
 have hen := hp.enters
 have HP := Lib.hid hp; clear hp hc
 go_enter Tryz.func86, Tryz.ntmps86
 go_wp2_with fail
 have hcall := HP.out.gives x W hx hW
 refine Calls.mono (R := fun e W' => e = .returned (.bool (p x)) ∧ Below W.heap.size W W') ?_ ?_
 · first | exact hcall | simpa using hcall
 rintro e w1 ⟨rfl, hb1⟩
 clear hcall
 go_wp2
 go_ret
 exact ⟨rfl, hb1⟩

theorem all_any (A : Option Addr) (c : Nat) (xs : List ByteArray) (g : FuncId) (caps : Array Value) (p : ByteArray → Bool) (w : World) (hx : Sl w w.heap.size A c xs) (hp : PredS g caps w p) :
  Calls Tryz.prog 41 #[.slice A xs.length c, .func (.func g) #[] caps] w fun e w' => e = .returned (.bool (xs.all p)) ∧ Below w.heap.size w w' := by
 have HP := Lib.hid hp; clear hp
 have HSl := Lib.hid hx; clear hx
 go_enter Tryz.func41, Tryz.ntmps41
 go_wp2_with fail
 have hba : Below w.heap.size w (w.alloc (Obj.cells #[Value.func (Fn.func g) #[] caps] 40)) := (Below.refl _ _).alloc (Nat.le_refl _) _
 have hsz : (w.alloc (Obj.cells #[Value.func (Fn.func g) #[] caps] 40)).heap.size = w.heap.size + 1 := by simp
 have hpa := all1_any g caps p (w.alloc (Obj.cells #[Value.func (Fn.func g) #[] caps] 40)) w.heap.size (by rw [hsz]; omega) (by rw [World.cell?_alloc_at _ _ _ _ rfl]; rfl) (HP.out.next hba)
 refine (ContainsFunc_any A c xs _ _ _ _ (HSl.out.next (Nat.le_refl _) hba) hpa).mono ?_
 rintro e w1 ⟨rfl, hb1⟩
 have hb2 := hba.trans (hb1.mono hba.size)
 clear hba hsz hpa hb1
 obtain ⟨r, hr⟩ : ∃ r, xs.any (fun x => !p x) = r := ⟨_, rfl⟩
 rw [hr]
 have HR := Lib.hid hr; clear hr
 go_wp2
 go_ret
 refine ⟨ret_bool ?_, hb2⟩
 rw [← HR.out, List.not_any_eq_all_not]
 simp

def Ok (w : World) : Prop := ∃ m, w.cell? ⟨0, 0, none⟩ = some (.int .i64 m)
theorem Ok.next {w w' : World} (h : Ok w) (hb : Below w.heap.size w w') : Ok w' := by
 obtain ⟨m, hm⟩ := h
 exact ⟨m, (hb.cell (p := ⟨0, 0, none⟩) (block_lt_of_cell hm)).trans hm⟩

theorem SplitSlash_any (s : ByteArray) (w : World) (hs : s.size < 4294967281) (hok : Ok w) : Calls Tryz.prog 42 #[.string s, .string ⟨#[47]⟩] w fun e w' =>
  ∃ A c, e = .returned (.slice A (piecesL s.data.toList).length c) ∧ Sl w' w'.heap.size A c (piecesL s.data.toList) ∧ Below w.heap.size w w' := by
 obtain ⟨m, hm⟩ := hok
 refine (Tryz.strings_Split s ⟨#[47]⟩ m w hs hm (by decide)).mono ?_
 rintro e w' ⟨rfl, rfl⟩
 have hlen := pieces_length s ⟨#[47]⟩ rfl
 have hcnt := splitOn_count 47 s.data.toList
 have hb : Below w.heap.size w (w.alloc (.cells ((Lib.splitB ⟨#[47]⟩ 0 (Lib.countB s ⟨#[47]⟩) s).map Value.string).toArray 9)) := (Below.refl _ _).alloc (Nat.le_refl _) _
 refine ⟨_, (piecesL s.data.toList).length, by rw [hlen], ?_, hb⟩
 refine Sl.ofStrs (Nat.le_refl _) ?_ (by simp) (fun x hx => ?_) (fun i x hx => ?_)
 · unfold piecesL maxLen; rw [List.length_map]; rw [ba_size] at hcnt; omega
 · have := pieces_sizes hx; rw [ba_size] at this; unfold maxLen; omega
 ·
  rw [splitB_eq s ⟨#[47]⟩ rfl, World.cell?_alloc_at _ _ _ _ rfl]
  simp [hx]

end Go.Proofs.YtjpoljlgkgmdkaaGreatDoor
namespace Go.Proofs.YtjpoljlgkgmdkaaGreatDoor
open Go.RowKit Go.Cold

end Go.Proofs.YtjpoljlgkgmdkaaGreatDoor
namespace Go.Proofs.YtjpoljlgkgmdkaaGreatDoor
open Go.RowKit Go.Cold

theorem stringsCompare_any (a b : ByteArray) (w : World) : Calls Tryz.prog 139 #[.string a, .string b] w fun e w' => e = .returned (.int .i64 (cmpB a b)) ∧ w' = w := Tryz.strings_Compare a b w

theorem RCompare_any (A B : Option Addr) (c d : Nat) (xs ys : List ByteArray) (w : World) (b1 b2 : Nat) (hx : Sl w b1 A c xs) (hy : Sl w b2 B d ys) :
  Calls Tryz.prog 97 #[.slice A xs.length c, .slice B ys.length d] w fun e w' => e = .returned (.int .i64 (cmpL xs ys)) ∧ ∃ n, w' = w.drewN n := by
 have hc := hx.1; have hc2 := hx.2.1; have hd := hy.1; have hd2 := hy.2.1
 unfold maxLen at hc2 hd2
 go_enter Tryz.func97, Tryz.ntmps97
 go_wp2
 go_loopw [5] (fun i wr => ∃ k n : Nat, k ≤ xs.length ∧ k ≤ ys.length ∧ i = .int .i64 k ∧ Hid (xs.take k = ys.take k) ∧ wr = w.drewN n) (fun i _ => xs.length - (intOf i).toNat)
 case atStart => exact ⟨0, 0, Nat.zero_le _, Nat.zero_le _, rfl, rfl, rfl⟩
 case round =>
  obtain ⟨k, n, hk, hk', rfl, ht, rfl⟩ := hrel
  by_cases hlx : k < xs.length
  ·
   have i1 : (k : Int) < (xs.length : Int) := by omega
   by_cases hly : k < ys.length
   ·
    obtain ⟨b3, o3, rfl, _, cx, _⟩ := hx.str hlx
    obtain ⟨b4, o4, rfl, _, cy, _⟩ := hy.str hly
    have i2 : (k : Int) < (ys.length : Int) := by omega
    go_wp2
    go_quiet (fail)
    go_wp2
    ·
     have he := ba_ne (by assumption)
     have hcl := cmpL_diff ht.out hlx hly he
     have HC := Lib.hid hcl; clear hcl he
     go_quiet ((go_at_call 139; exact quiet_add_same (stringsCompare_any _ _ _)))
     go_wp2
     go_ret
     exact ⟨ret_int HC.out.symm, by simp only [World.drewN_drewN]; exact ⟨_, rfl⟩⟩
    ·
     have he := ba_eq (by assumption)
     have HE := Lib.hid he; clear he
     go_roundw
     case rel => exact ⟨k + 1, _, by omega, by omega, by go_num, take_succ_iff hlx hly ht.out HE.out, rfl⟩
     case measure => simp [intOf]; omega
   ·
    have hl : ys.length < xs.length := by omega
    go_wp2
    go_ret
    exact ⟨ret_int (cmpL_more ht.out (by omega) hl).symm, _, rfl⟩
  ·
   go_wp2
   ·
    have hl : xs.length < ys.length := by assumption
    go_ret
    exact ⟨ret_int (cmpL_less ht.out (by omega) hl).symm, _, rfl⟩
   ·
    have hl : ¬ xs.length < ys.length := by assumption
    go_ret
    exact ⟨ret_int (cmpL_same (take_all ht.out (by omega) (by omega))).symm, _, rfl⟩

end Go.Proofs.YtjpoljlgkgmdkaaGreatDoor
namespace Go.Proofs.YtjpoljlgkgmdkaaGreatDoor
open Go.RowKit Go.Cold

theorem JoinSlash_any (A : Option Addr) (c : Nat) (xs : List ByteArray) (w : World) (hx : Sl w w.heap.size A c xs) (hlen : (joinB xs).size ≤ 140737488355328) (hn : xs.length ≤ 140737488355328) :
  Calls Tryz.prog 47 #[.slice A xs.length c, .string ⟨#[47]⟩] w fun e w' => e = .returned (.string (joinB xs)) ∧ Below w.heap.size w w' := by
 rcases Nat.eq_zero_or_pos xs.length with h0 | h0
 ·
  have hx0 : xs = [] := List.eq_nil_of_length_eq_zero h0
  subst hx0
  exact (Tryz.strings_Join_none A c ⟨#[47]⟩ w).mono fun e w' ⟨he, hw⟩ => ⟨he, by rw [hw]; exact Below.refl _ _⟩
 ·
  obtain ⟨b, o, rfl, hb, h1⟩ := hx.strs h0
  exact Tryz.strings_Join b o c xs ⟨#[47]⟩ w h1 hb hn hx.1 hlen

theorem RJoin_any (A : Option Addr) (c : Nat) (xs : List ByteArray) (w : World) (hx : Sl w w.heap.size A c xs) (hlen : (joinB xs).size ≤ 4294967280) (hn : xs.length ≤ 4294967280) :
  Calls Tryz.prog 93 #[.slice A xs.length c] w fun e w' => e = .returned (.string (toB (47 :: (joinB xs).data.toList))) ∧ Below w.heap.size w w' := by
 go_enter Tryz.func93, Tryz.ntmps93
 go_wp2_with fail
 refine (JoinSlash_any A c xs w hx (by omega) (by omega)).mono ?_
 rintro e w1 ⟨rfl, hb⟩
 obtain ⟨j, hj⟩ : ∃ j, joinB xs = j := ⟨_, rfl⟩
 rw [hj] at hlen ⊢
 clear hx
 have HJ := Lib.hid hj; clear hj
 go_wp2
 go_ret
 exact ⟨ret_str (by rw [HJ.out]; exact slash_app j), hb⟩

end Go.Proofs.YtjpoljlgkgmdkaaGreatDoor
namespace Go.Proofs.YtjpoljlgkgmdkaaGreatDoor
open Go.RowKit Go.Cold

theorem parts_any (w : World) : Calls Tryz.prog 40 #[] w fun e w' => e = .returned (.agg (Lib.setCells partL)) ∧ Below w.heap.size w w' := by
  obtain ⟨hz, hi⟩ := zero_of_info info_set
  rw [← Lib.setCells_nil] at hz
  have HI := Lib.hid hi; clear hi
  go_enter Tryz.func40, Tryz.ntmps40
  go_wp2_with fail
  have hb0 : Below w.heap.size w (w.alloc (Obj.cells (Lib.setCells []) 76)) := (Below.refl _ _).alloc (Nat.le_refl _) _
  have k0 : Blk (w.alloc (Obj.cells (Lib.setCells []) 76)) w.heap.size 76 (Lib.setCells []) := Blk.new _ _ _
  generalize w.alloc (Obj.cells (Lib.setCells []) 76) = w0 at *
  refine (common_any _).mono ?_; rintro e w1 ⟨rfl, hb1⟩
  have k1 := k0.below hb1 k0.lt; have b1 := hb0.trans (hb1.mono hb0.size)
  clear hb0 hb1 k0
  go_wp2_with fail
  refine (plus_any _ _ _ (by decide)).mono ?_; rintro e w2 ⟨rfl, hb2⟩
  have k2 := k1.below hb2 k1.lt; have b2 := b1.trans (hb2.mono b1.size)
  clear hb2 k1 b1
  go_wp2_with (with_reducible refine at_store 0 2 ?_; go_must (refine wpList_store_blk rfl 76 _ _ rfl w.heap.size rfl (Lib.setCells partL) rfl 76 _ k2 (by rw [Lib.setCells_size]; exact HI.out) (by rw [Lib.setCells_size, Lib.setCells_size]) (Lib.setCells_one _) ?_))
  refine bodyPost_ret (v := .agg (Lib.setCells partL)) ?_ rfl ⟨rfl, below_setRow b2 (Nat.le_refl _) _⟩
  exact results_cell_blk rfl _ _ w.heap.size 76 _ _ rfl (k2.setRow_ _) Tryz.underlying76 rfl (by rw [Lib.setCells_size]; exact HI.out)

theorem link1_any (w : World) (b : Nat) (hk : Blk w b 76 (Lib.setCells partL)) : PredS 43 #[.pointer (some ⟨b, 0, none⟩)] w compB := by
  obtain ⟨_, hi⟩ := zero_of_info info_set
  have HI := Lib.hid hi; clear hi
  refine ⟨enters_of Tryz.func43 (by kernel_rfl) rfl, fun x W hx hW => ?_⟩
  have HK := Lib.hid (hk.below hW hk.lt); clear hk hW
  by_cases h0 : x.toList = []
  · go_enter Tryz.func43, Tryz.ntmps43
    go_wp2_with fail
    go_ret
    exact ⟨ret_bool (by simp [compB, h0]), Below.refl _ _⟩
  · have h0' : (x.toList.isEmpty) = false := by simpa using h0
    go_enter Tryz.func43, Tryz.ntmps43
    go_wp2_with fail
    refine (dots_any _ _).mono ?_
    rintro e w' ⟨rfl, rfl⟩
    cases hd : dotsB x with
    | true =>
      go_wp2_with fail
      go_ret
      exact ⟨ret_bool (by simp [compB, hd]), Below.refl _ _⟩
    | false =>
      go_wp2_with (first
        | (with_reducible refine at_dst 12 ?_; go_must (refine wpList_load_blk_w (by simp [Region.wanted, yielded]) 76 _ rfl b rfl 76 _ _ HK.out Tryz.underlying76 rfl (by rw [Lib.setCells_size]; exact HI.out) ?_))
        | (go_at_call 45; go_must (refine (has_any _ _ _ hx).mono ?_); rintro e w1 ⟨rfl, hb1⟩))
      go_ret
      exact ⟨ret_bool (by simp [compB, hd, h0']), hb1⟩

theorem Link_any (s : ByteArray) (w : World) (hs : s.size < 4294967281) (hok : Ok w) : Calls Tryz.prog 17 #[.string s] w fun e w' => e = .returned (.bool (linkB s)) ∧ Below w.heap.size w w' := by
  obtain ⟨hz, hi⟩ := zero_of_info info_set
  rw [← Lib.setCells_nil] at hz
  have HI := Lib.hid hi; clear hi
  have HS := Lib.hid hs; clear hs
  by_cases h256 : s.size ≤ 256
  · have hd : decide ((s.size : Int) ≤ 256) = true := by simp; omega
    have H256 := Lib.hid h256; clear h256
    go_enter Tryz.func17, Tryz.ntmps17
    go_wp2_with fail
    refine (parts_any _).mono ?_; rintro e w1 ⟨rfl, hb1⟩
    have hk0 : Blk (w1.alloc (Obj.cells (Lib.setCells []) 76)) w1.heap.size 76 (Lib.setCells []) := Blk.new _ _ _
    go_wp2_with (with_reducible refine at_store 3 4 ?_; go_must (refine wpList_store_blk rfl 76 _ _ rfl w1.heap.size rfl (Lib.setCells partL) rfl 76 _ hk0 (by rw [Lib.setCells_size]; exact HI.out) (by rw [Lib.setCells_size, Lib.setCells_size]) (Lib.setCells_one _) ?_))
    have hb2 : Below w.heap.size w ((w1.alloc (Obj.cells (Lib.setCells []) 76)).setRow w1.heap.size (Lib.setCells partL)) := below_setRow (hb1.alloc hb1.size _) hb1.size _
    have hk : Blk ((w1.alloc (Obj.cells (Lib.setCells []) 76)).setRow w1.heap.size (Lib.setCells partL)) w1.heap.size 76 (Lib.setCells partL) := (Blk.new _ _ _).setRow_ _
    generalize (w1.alloc (Obj.cells (Lib.setCells []) 76)).setRow w1.heap.size (Lib.setCells partL) = w2 at *
    generalize w1.heap.size = g at *
    clear hb1
    go_wp2_with fail
    refine (SplitSlash_any s w2 HS.out (hok.next hb2)).mono ?_
    rintro e w3 ⟨A, c, rfl, hsl, hb3⟩
    have hk3 := hk.below hb3 hk.lt
    have hb4 := hb2.trans (hb3.mono hb2.size)
    have HSl := Lib.hid hsl
    have HK := Lib.hid hk3
    clear hb2 hb3 hk hk3 hsl
    go_wp2_with fail
    refine (all_any A c _ _ _ _ w3 HSl.out (link1_any w3 g HK.out)).mono ?_
    rintro e w4 ⟨rfl, hb5⟩
    have hb6 := hb4.trans (hb5.mono hb4.size)
    obtain ⟨z, hz⟩ : ∃ z, (piecesL s.data.toList).all compB = z := ⟨_, rfl⟩
    rw [hz]
    have HZ := Lib.hid hz; clear hz
    go_wp2
    go_ret
    exact ⟨ret_bool (by have := H256.out; rw [linkB, HZ.out]; simp; omega), hb6⟩
  · have hd : decide ((s.size : Int) ≤ 256) = false := by simp; omega
    have H256 := Lib.hid h256; clear h256
    go_enter Tryz.func17, Tryz.ntmps17
    go_wp2_with fail
    refine (parts_any _).mono ?_; rintro e w1 ⟨rfl, hb1⟩
    have hk0 : Blk (w1.alloc (Obj.cells (Lib.setCells []) 76)) w1.heap.size 76 (Lib.setCells []) := Blk.new _ _ _
    go_wp2_with (with_reducible refine at_store 3 4 ?_; go_must (refine wpList_store_blk rfl 76 _ _ rfl w1.heap.size rfl (Lib.setCells partL) rfl 76 _ hk0 (by rw [Lib.setCells_size]; exact HI.out) (by rw [Lib.setCells_size, Lib.setCells_size]) (Lib.setCells_one _) ?_))
    go_ret
    exact ⟨ret_bool (by have := H256.out; rw [linkB]; simp; omega), below_setRow (hb1.alloc hb1.size _) hb1.size _⟩

theorem RLink_any (s : ByteArray) (w : World) (hs : s.size < 4294967281) (hok : Ok w) : Calls Tryz.prog 65 #[.string s] w fun e w' => e = .returned (.bool (linkB s)) ∧ Below w.heap.size w w' := by
  have HS := Lib.hid hs; clear hs
  go_enter Tryz.func65, Tryz.ntmps65
  go_wp2_with fail
  refine (SplitSlash_any s w HS.out hok).mono ?_
  rintro e w1 ⟨A, c, rfl, hsl, hb⟩
  obtain ⟨xs, hxs⟩ : ∃ xs, piecesL s.data.toList = xs := ⟨_, rfl⟩
  rw [hxs] at hsl ⊢
  have HXS := Lib.hid hxs; clear hxs
  have hc := hsl.1; have hc2 := hsl.2.1
  unfold maxLen at hc2
  have HSl := Lib.hid hsl; clear hsl
  go_wp2_with fail
  go_loop [4] (fun i => ∃ k : Nat, k ≤ xs.length ∧ i = .int .i64 k ∧ Hid ((xs.take k).all compB = true)) (fun i => xs.length - (intOf i).toNat)
  case atStart => exact ⟨0, Nat.zero_le _, rfl, rfl⟩
  case round =>
    obtain ⟨k, hk, rfl, HA⟩ := hrel
    by_cases hlt : k < xs.length
    · obtain ⟨b3, o3, rfl, _, cx, hsk⟩ := HSl.out.str hlt
      have hxk : xs[k]? = some xs[k] := List.getElem?_eq_getElem hlt
      obtain ⟨x, hx⟩ : ∃ x, xs[k] = x := ⟨_, rfl⟩
      rw [hx] at cx hsk hxk
      have HX := Lib.hid hxk; clear hxk hx
      have i1 : (k : Int) < (xs.length : Int) := by omega
      cases hv : compB x with
      | true =>
        have h1 : x.toList.isEmpty = false := by
          unfold compB at hv; simp only [Bool.and_eq_true] at hv; simpa using hv.1
        have h2 : (x.toList == [46]) = false ∧ (x.toList == [46, 46]) = false := by
          unfold compB dotsB at hv; simp only [Bool.and_eq_true, Bool.not_eq_true', Bool.or_eq_false_iff] at hv; exact hv.2.1
        have h3 : inB partL x = true := by
          unfold compB at hv; simp only [Bool.and_eq_true] at hv; exact hv.2.2
        obtain ⟨h21, h22⟩ := h2
        have HV := Lib.hid hv; clear hv
        go_wp2_with (go_at_call 114; go_must (refine (in_any _ _ partL _ hsk rfl).mono ?_); rintro e w' ⟨rfl, rfl⟩)
        go_round
        case rel => exact ⟨k + 1, by omega, by go_num, all_step HA.out HX.out HV.out⟩
        case measure => simp [intOf]; omega
      | false =>
        have HV := Lib.hid hv; clear hv
        have hfin : false = linkB s := by rw [linkB, HXS.out, all_stop HX.out HV.out]; simp
        have HF := Lib.hid hfin; clear hfin
        go_wp2_with (go_at_call 114; go_must (refine (in_any _ _ partL _ hsk rfl).mono ?_); rintro e w' ⟨rfl, rfl⟩)
        all_goals first
          | (go_ret; exact ⟨ret_bool HF.out, hb⟩)
          | (exfalso
             have := HV.out
             simp_all [compB, dotsB])
    · go_wp2
      go_ret
      exact ⟨ret_bool (by rw [linkB, HXS.out, all_end HA.out (by omega)]; simp), hb⟩
end Go.Proofs.YtjpoljlgkgmdkaaGreatDoor
namespace Go.Cold
open Go Go.RowKit

def cleanP (b : UInt8) : UInt8 := if (partL ++ [47]).contains b then b else 95
theorem cleanP_good {b : UInt8} (h : (partL ++ [47]).contains b = true) : cleanP b = b := by rw [cleanP, if_pos h]
theorem cleanP_bad {b : UInt8} (h : (partL ++ [47]).contains b = false) : cleanP b = 95 := by rw [cleanP, h]; rfl
def cleanK (l : List UInt8) (k : Nat) : List UInt8 := (l.take k).map cleanP ++ l.drop k
theorem cleanK_length (l : List UInt8) (k : Nat) (hk : k ≤ l.length) : (cleanK l k).length = l.length := by
 simp [cleanK]; omega
theorem cleanK_zero (l : List UInt8) : cleanK l 0 = l := by simp [cleanK]
theorem cleanK_all (l : List UInt8) {k : Nat} (hk : l.length ≤ k) : cleanK l k = l.map cleanP := by
 rw [cleanK, List.take_of_length_le hk, List.drop_eq_nil_of_le hk, List.append_nil]
theorem cleanK_at {l : List UInt8} {k : Nat} {b : UInt8} (h : l[k]? = some b) : (cleanK l k)[k]? = some b := by
 have hk := (List.getElem?_eq_some_iff.1 h).1
 rw [cleanK, List.getElem?_append_right (by simp; omega)]
 simp only [List.length_map, List.length_take]
 rw [Nat.min_eq_left (by omega), Nat.sub_self, List.getElem?_drop]
 exact h
theorem cleanK_succ {l : List UInt8} {k : Nat} {b : UInt8} (h : l[k]? = some b) : cleanK l (k + 1) = (cleanK l k).set k (cleanP b) := by
 have hk := (List.getElem?_eq_some_iff.1 h).1
 have hb := (List.getElem?_eq_some_iff.1 h).2
 have e1 : cleanK l k = ((l.take k).map cleanP) ++ b :: l.drop (k + 1) := by
  rw [cleanK, List.drop_eq_getElem_cons hk, hb]
 rw [e1, List.set_append_right _ _ (by simp; omega)]
 simp only [List.length_map, List.length_take]
 rw [Nat.min_eq_left (by omega), Nat.sub_self, List.set_cons_zero, cleanK, List.take_succ_eq_append_getElem hk, hb, List.map_append, List.append_assoc]
 rfl
theorem cleanK_same {l : List UInt8} {k : Nat} {b : UInt8} (h : l[k]? = some b) (hg : cleanP b = b) : cleanK l (k + 1) = cleanK l k := by
 rw [cleanK_succ h, hg]
 have := cleanK_at h
 apply List.ext_getElem?
 intro i
 rw [List.getElem?_set]
 split
 ·
  rename_i he
  subst he
  have hl := (List.getElem?_eq_some_iff.1 this).1
  rw [if_pos hl, this]
 · rfl

def keepB (x : ByteArray) : Bool := !x.toList.isEmpty && !(x.toList == [46])
def fsOf (s : ByteArray) : List ByteArray := (piecesL (s.data.toList.map cleanP)).filter keepB
def cleanOf (s : ByteArray) : Option ByteArray := if linkB (joinB (fsOf s)) then some (joinB (fsOf s)) else none

def tot (xs : List (List UInt8)) : Nat := (xs.map fun x => x.length + 1).sum
theorem tot_splitOn (c : UInt8) : ∀ l : List UInt8, tot (splitOn c l) = l.length + 1
 | [] => rfl
 | b :: l => by
  have ih := tot_splitOn c l
  unfold splitOn
  split
  · simp [tot] at ih ⊢; omega
  ·
   cases hs : splitOn c l with
   | nil => exact absurd hs (splitOn_ne c l)
   | cons y r => rw [hs] at ih; simp [tot] at ih ⊢; omega
theorem tot_filter (p : List UInt8 → Bool) : ∀ xs : List (List UInt8), tot (xs.filter p) ≤ tot xs
 | [] => Nat.le_refl _
 | x :: xs => by
  have ih := tot_filter p xs
  rw [List.filter_cons]
  split <;> (simp [tot] at ih ⊢; omega)
theorem join_length (c : UInt8) : ∀ xs : List (List UInt8), xs ≠ [] → (Lib.join xs [c]).length + 1 = tot xs
 | [], h => absurd rfl h
 | x :: r, _ => by
  rw [Lib.join_cons]
  have : ∀ r : List (List UInt8), (Lib.joinTail [c] r).length = tot r := by
   intro r
   induction r with
   | nil => rfl
   | cons y r ih =>
    have e : Lib.joinTail [c] (y :: r) = (c :: y) ++ Lib.joinTail [c] r := by simp [Lib.joinTail]
    rw [e, List.length_append, ih]; simp [tot]
  rw [List.length_append, this]; simp [tot]; omega
theorem joinB_filter_size (l : List UInt8) (p : ByteArray → Bool) : (joinB ((piecesL l).filter p)).size ≤ l.length := by
 unfold joinB
 rw [toB_size]
 have e : ((piecesL l).filter p).map (·.data.toList) = (splitOn 47 l).filter (fun x => p (toB x)) := by
  unfold piecesL
  generalize splitOn 47 l = ys
  induction ys with
  | nil => rfl
  | cons y ys ih =>
   simp only [List.map_cons, List.filter_cons]
   split
   · rw [List.map_cons, ih]; rfl
   · exact ih
 rw [e]
 by_cases hn : (splitOn 47 l).filter (fun x => p (toB x)) = []
 · rw [hn]; simp [Lib.join_nil]
 ·
  have h1 := join_length 47 _ hn
  have h2 := tot_filter (fun x => p (toB x)) (splitOn 47 l)
  have h3 := tot_splitOn 47 l
  omega
theorem fsOf_join_size (s : ByteArray) : (joinB (fsOf s)).size ≤ s.size := by
 have := joinB_filter_size (s.data.toList.map cleanP) keepB
 rw [List.length_map, ba_size] at this
 exact this
theorem fsOf_sizes {s x : ByteArray} (h : x ∈ fsOf s) : x.size ≤ s.size := by
 have := pieces_sizes (List.mem_filter.1 h).1
 rwa [List.length_map, ba_size] at this
theorem fsOf_length (s : ByteArray) : (fsOf s).length ≤ s.size + 1 := by
 have h1 := List.length_filter_le keepB (piecesL (s.data.toList.map cleanP))
 have h2 : (piecesL (s.data.toList.map cleanP)).length ≤ s.size + 1 := by
  unfold piecesL
  rw [List.length_map]
  have := splitOn_count 47 (s.data.toList.map cleanP)
  rwa [List.length_map, ba_size] at this
 exact Nat.le_trans h1 h2
end Go.Cold
