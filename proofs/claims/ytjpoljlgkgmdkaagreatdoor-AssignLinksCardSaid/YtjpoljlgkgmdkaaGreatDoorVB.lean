/-
  The walks of package name's sets of bytes.
-/
import Derived.Test.YtjpoljlgkgmdkaaGreatDoorRows
import Derived.Test.YtjpoljlgkgmdkaaGreatDoorVA
import Derived.Test.YtjpoljlgkgmdkaaGreatDoorVShf
import Derived.Shelf.Abstract
import Derived.Deep.DeepCutAuto
import Derived.Lib.QuietBelow
import Derived.BigQuiet
import Derived.Maps.Views
import Derived.Maps.OwnSet
import Derived.Maps.Keyed
import Derived.Maps.OwnIn
import Derived.Lib.ItoaNum
import Derived.Lib.AtoiAllCases
import Derived.Lib.AppendIntMem
import Derived.Test.YtjpoljlgkgmdkaaGreatDoorCards
import Derived.Test.YtjpoljlgkgmdkaaGreatDoorTie
import Derived.ProofKit
import Derived.OpenShut
import Derived.Below
import Derived.ChangeSame
import Derived.Deep.DeepHandedRow
import Derived.Lay
import Derived.SevenTiedAt
import Derived.SliceStrings
import Derived.WideKeyArgs
import Derived.Stop.LaidErr
import Derived.ChangeSlices
set_option linter.unusedSimpArgs false
set_option linter.unusedVariables false
namespace Go.Proofs.YtjpoljlgkgmdkaaGreatDoor
open Go.RowKit Go.Cold

theorem info_set : (Tryz.prog.info? 76).map (fun i => (i.zero, i.size)) = some (some (.agg (Array.replicate 256 (.bool false))), 256) := by kernel_rfl

theorem plus_any (S : List UInt8) (s : ByteArray) (w : World) (hs : s.size ≤ maxLen) :
  Calls Tryz.prog 46 #[.agg (Lib.setCells S), .string s] w fun e w' => e = .returned (.agg (Lib.setCells (S ++ s.data.toList))) ∧ Below w.heap.size w w' := by
 obtain ⟨hz, hi⟩ := zero_of_info info_set
 unfold maxLen at hs
 rw [← Lib.setCells_nil] at hz
 have HI := Lib.hid hi; clear hi
 go_enter Tryz.func46, Tryz.ntmps46
 go_wp2
 go_loopw [8] (fun i wr => ∃ k : Nat, k ≤ s.size ∧ i = .int .i64 k ∧ Blk wr w.heap.size 76 (Lib.setCells (S ++ s.data.toList.take k)) ∧ Blk wr (w.heap.size + 1) 76 (Lib.setCells []) ∧ Below w.heap.size w wr) (fun i _ => s.size - (intOf i).toNat)
 case atStart =>
  refine ⟨0, Nat.zero_le _, rfl, ?_, ?_, ((Below.refl _ _).alloc (Nat.le_refl _) _).alloc (by simp) _⟩
  · simpa using (Blk.new w 76 (Lib.setCells S)).alloc _
  ·
   have := Blk.new (w.alloc (Obj.cells (Lib.setCells S) 76)) 76 (Lib.setCells [])
   simpa using this
 case round =>
  obtain ⟨k, hk, rfl, h1, h2, hb⟩ := hrel
  by_cases hlt : k < s.size
  ·
   obtain ⟨x, hx⟩ : ∃ x : UInt8, s[k]'hlt = x := ⟨_, rfl⟩
   have hxl : s.data.toList[k]? = some x := by rw [← hx]; exact Lib.data_getElem? s k hlt
   have hx256 : (x.toNat : Int) < 256 := by have := UInt8.toNat_lt x; omega
   have hcell := (h1.cell x.toNat).trans (Lib.setCells_at _ x)
   have hfr := h1.frozen x.toNat
   have HX := Lib.hid hxl; clear hxl
   have H1 := Lib.hid h1; clear h1
   have H2 := Lib.hid h2; clear h2
   go_wp2
   go_roundw
   case rel =>
    refine ⟨k + 1, by omega, by go_num, ?_, H2.out.far (by simp) _, hb.setCell (by simp) _⟩
    rw [List.take_add_one, HX.out, Option.toList, ← List.append_assoc, Lib.setCells_snoc]
    exact H1.out.set_ _ _
   case measure => simp [intOf]; omega
  ·
   rw [List.take_of_length_le (by rw [← Lib.size_eq]; omega)] at h1
   have H1 := Lib.hid h1; clear h1
   have H2 := Lib.hid h2; clear h2
   go_wp2_with (first
    | (with_reducible refine at_dst 16 ?_; go_must (refine wpList_load_blk rfl 76 _ rfl w.heap.size rfl 76 _ _ H1.out Tryz.underlying76 rfl (by rw [Lib.setCells_size]; exact HI.out) ?_))
    | (with_reducible refine at_store 4 16 ?_; go_must (refine wpList_store_blk rfl 76 _ _ rfl (w.heap.size + 1) rfl (Lib.setCells (S ++ s.data.toList)) rfl 76 _ H2.out (by rw [Lib.setCells_size]; exact HI.out) (by rw [Lib.setCells_size, Lib.setCells_size]) (Lib.setCells_one _) ?_)))
   refine bodyPost_ret (v := .agg (Lib.setCells (S ++ s.data.toList))) ?_ rfl ⟨rfl, below_setRow hb (by omega) _⟩
   exact results_cell_blk rfl _ _ (w.heap.size + 1) 76 _ _ rfl (H2.out.setRow_ _) Tryz.underlying76 rfl (by rw [Lib.setCells_size]; exact HI.out)

theorem has_any (S : List UInt8) (s : ByteArray) (w : World) (hs : s.size ≤ maxLen) :
  Calls Tryz.prog 45 #[.agg (Lib.setCells S), .string s] w fun e w' => e = .returned (.bool (inB S s)) ∧ Below w.heap.size w w' := by
 unfold maxLen at hs
 go_enter Tryz.func45, Tryz.ntmps45
 go_wp2
 go_loop [8] (fun i => ∃ k : Nat, k ≤ s.size ∧ i = .int .i64 k ∧ Hid ((s.data.toList.take k).all S.contains = true)) (fun i => s.size - (intOf i).toNat)
 case atStart => exact ⟨0, Nat.zero_le _, rfl, rfl⟩
 case round =>
  obtain ⟨k, hk, rfl, HA⟩ := hrel
  have h1 := Blk.new w 76 (Lib.setCells S)
  by_cases hlt : k < s.size
  ·
   obtain ⟨x, hx⟩ : ∃ x : UInt8, s[k]'hlt = x := ⟨_, rfl⟩
   have hxl : s.data.toList[k]? = some x := by rw [← hx]; exact Lib.data_getElem? s k hlt
   have hx256 : (x.toNat : Int) < 256 := by have := UInt8.toNat_lt x; omega
   have hcell := (h1.cell x.toNat).trans (Lib.setCells_at _ x)
   have HX := Lib.hid hxl; clear hxl
   clear h1
   obtain ⟨c, hc⟩ : ∃ c, S.contains x = c := ⟨_, rfl⟩
   rw [hc] at hcell
   have HC := Lib.hid hc; clear hc
   cases c with
   | false =>
    go_wp2
    go_ret
    refine ⟨ret_bool ?_, (Below.refl _ _).alloc (Nat.le_refl _) _⟩
    symm
    rw [inB, List.all_eq_false]
    exact ⟨x, List.mem_of_getElem? HX.out, by rw [HC.out]; decide⟩
   | true =>
    go_wp2
    go_round
    case rel =>
     refine ⟨k + 1, by omega, by go_num, ?_⟩
     show _ = true
     rw [List.take_add_one, HX.out]
     simp only [Option.toList, List.all_append, HA.out, List.all_cons, List.all_nil, HC.out, Bool.and_self]
    case measure => simp [intOf]; omega
  ·
   clear h1
   go_wp2
   go_ret
   refine ⟨ret_bool ?_, (Below.refl _ _).alloc (Nat.le_refl _) _⟩
   have := HA.out
   rw [List.take_of_length_le (by rw [← Lib.size_eq]; omega)] at this
   exact this.symm

theorem common_any (w : World) : Calls Tryz.prog 84 #[] w fun e w' => e = .returned (.agg (Lib.setCells commonL)) ∧ Below w.heap.size w w' := by
 obtain ⟨hz, hi⟩ := zero_of_info info_set
 rw [← Lib.setCells_nil] at hz
 have HI := Lib.hid hi; clear hi
 go_enter Tryz.func84, Tryz.ntmps84
 go_wp2_with fail
 have hb0 : Below w.heap.size w (w.alloc (Obj.cells (Lib.setCells []) 76)) := (Below.refl _ _).alloc (Nat.le_refl _) _
 have k0 : Blk (w.alloc (Obj.cells (Lib.setCells []) 76)) w.heap.size 76 (Lib.setCells []) := Blk.new _ _ _
 generalize w.alloc (Obj.cells (Lib.setCells []) 76) = w0 at *
 refine (plus_any [] _ _ (by decide)).mono ?_; rintro e w1 ⟨rfl, hb1⟩
 have k1 := k0.below hb1 k0.lt; have b1 := hb0.trans (hb1.mono hb0.size)
 clear hb0 hb1 k0
 go_wp2_with fail
 refine (Tryz.strings_ToLower_ascii _ _ (by decide) (fun j b hj => of_decide_eq_true (List.all_eq_true.1 (by decide : upperL.all (fun b => decide (b.toNat < 128)) = true) b (List.mem_of_getElem? hj)))).mono ?_
 rintro e w2 ⟨rfl, hb2⟩
 have k2 := k1.below hb2 k1.lt; have b2 := b1.trans (hb2.mono b1.size)
 clear hb2 k1 b1
 go_wp2_with fail
 refine (plus_any _ _ _ (by decide)).mono ?_; rintro e w3 ⟨rfl, hb3⟩
 have k3 := k2.below hb3 k2.lt; have b3 := b2.trans (hb3.mono b2.size)
 clear hb3 k2 b2
 go_wp2_with fail
 refine (plus_any _ _ _ (by decide)).mono ?_; rintro e w4 ⟨rfl, hb4⟩
 have k4 := k3.below hb4 k3.lt; have b4 := b3.trans (hb4.mono b3.size)
 clear hb4 k3 b3
 go_wp2_with fail
 refine (plus_any _ _ _ (by decide)).mono ?_; rintro e w5 ⟨rfl, hb5⟩
 have k5 := k4.below hb5 k4.lt; have b5 := b4.trans (hb5.mono b4.size)
 clear hb5 k4 b4
 go_wp2_with (with_reducible refine at_store 0 6 ?_; go_must (refine wpList_store_blk rfl 76 _ _ rfl w.heap.size rfl (Lib.setCells commonL) rfl 76 _ k5 (by rw [Lib.setCells_size]; exact HI.out) (by rw [Lib.setCells_size, Lib.setCells_size]) (Lib.setCells_one _) ?_))
 refine bodyPost_ret (v := .agg (Lib.setCells commonL)) ?_ rfl ⟨rfl, below_setRow b5 (Nat.le_refl _) _⟩
 exact results_cell_blk rfl _ _ w.heap.size 76 _ _ rfl (k5.setRow_ _) Tryz.underlying76 rfl (by rw [Lib.setCells_size]; exact HI.out)
end Go.Proofs.YtjpoljlgkgmdkaaGreatDoor
namespace Go.Proofs.YtjpoljlgkgmdkaaGreatDoor
open Go.RowKit Go.Cold

theorem dots_any (s : ByteArray) (w : World) : Calls Tryz.prog 44 #[.string s] w fun e w' => e = .returned (.bool (dotsB s)) ∧ w = w' := by
 go_enter Tryz.func44, Tryz.ntmps44
 go_wp2
 ·
  have h : s.toList = [46] := by assumption
  go_ret
  exact ⟨ret_bool (by simp [dotsB, h]), rfl⟩
 ·
  go_ret
  exact ⟨rfl, rfl⟩

theorem Text_any (s : ByteArray) (w : World) (hs : s.size ≤ maxLen) : Calls Tryz.prog 112 #[.string s] w fun e w' => e = .returned (.bool (textB s)) ∧ w = w' := by
 unfold maxLen at hs
 go_enter Tryz.func112, Tryz.ntmps112
 go_wp2
 go_loop [6] (fun i => ∃ k : Nat, k ≤ s.size ∧ i = .int .i64 k ∧ Hid ((s.data.toList.take k).all printP = true)) (fun i => s.size - (intOf i).toNat)
 case atStart => exact ⟨0, Nat.zero_le _, rfl, rfl⟩
 case round =>
  obtain ⟨k, hk, rfl, HA⟩ := hrel
  by_cases hlt : k < s.size
  ·
   obtain ⟨x, hx⟩ : ∃ x : UInt8, s[k]'hlt = x := ⟨_, rfl⟩
   have hxl : s.data.toList[k]? = some x := by rw [← hx]; exact Lib.data_getElem? s k hlt
   have HX := Lib.hid hxl; clear hxl
   go_wp2
   ·
    go_ret
    exact ⟨ret_bool (textB_no (all_stop HX.out (by simp [printP]; omega))), rfl⟩
   ·
    have hh : (32 : Int) ≤ (x.toNat : Int) ∧ (x.toNat : Int) ≤ 126 := by assumption
    go_round
    case rel => exact ⟨k + 1, by omega, by go_num, all_step HA.out HX.out (by simp [printP]; omega)⟩
    case measure => simp [intOf]; omega
   ·
    go_ret
    exact ⟨ret_bool (textB_no (all_stop HX.out (by simp [printP]; omega))), rfl⟩
  ·
   go_wp2
   go_ret
   exact ⟨ret_bool (textB_yes (all_end HA.out (by rw [ba_size]; omega))), rfl⟩

end Go.Proofs.YtjpoljlgkgmdkaaGreatDoor
namespace Go.Proofs.YtjpoljlgkgmdkaaGreatDoor
open Go.RowKit Go.Cold

theorem Valid_any (s : ByteArray) (w : World) (hs : s.size ≤ maxLen) : Calls Tryz.prog 78 #[.string s] w fun e w' => e = .returned (.bool (validB s)) ∧ Below w.heap.size w w' := by
 go_enter Tryz.func78, Tryz.ntmps78
 go_wp2_with (first
  | (go_at_call 44; go_must (refine (dots_any _ _).mono ?_); rintro e w' ⟨rfl, rfl⟩)
  | (go_at_call 84; go_must (refine (common_any _).mono ?_); rintro e w1 ⟨rfl, hb1⟩)
  | (go_at_call 46; go_must (refine (plus_any _ _ _ (by decide)).mono ?_); rintro e w2 ⟨rfl, hb2⟩)
  | (go_at_call 45; go_must (refine (has_any _ _ _ hs).mono ?_); rintro e w3 ⟨rfl, hb3⟩))
 ·
  go_ret
  exact ⟨ret_bool (by simp [validB, *]), Below.refl _ _⟩
 ·
  go_ret
  exact ⟨ret_bool (by simp [validB, *]), Below.refl _ _⟩
 ·
  go_ret
  refine ⟨ret_bool (by simp [validB, nameL, *]), ?_⟩
  have h2 := hb1.trans (hb2.mono hb1.size)
  exact h2.trans (hb3.mono h2.size)
 ·
  go_ret
  exact ⟨ret_bool (by simp [validB, *]; omega), Below.refl _ _⟩

theorem Interface_any (s : ByteArray) (w : World) (hs : s.size ≤ maxLen) : Calls Tryz.prog 76 #[.string s] w fun e w' => e = .returned (.bool (ifaceB s)) ∧ Below w.heap.size w w' := by
 go_enter Tryz.func76, Tryz.ntmps76
 go_wp2_with fail
 refine (Valid_any _ _ hs).mono ?_; rintro e w1 ⟨rfl, hb1⟩
 cases hv : validB s with
 | false =>
  have HV := Lib.hid hv; clear hv
  go_wp2
  go_ret
  exact ⟨ret_bool (by rw [ifaceB, HV.out]; rfl), hb1⟩
 | true =>
  have HV := Lib.hid hv; clear hv
  by_cases h1 : s.size ≤ 15
  ·
   go_wp2_with fail
   refine (Tryz.strings_ContainsAny_laid _ _ _ (by omega) (by decide) (fun j b hj => name_ascii HV.out j b hj) (fun j b hj => of_decide_eq_true (List.all_eq_true.1 (by decide : [58, 33].all (fun b : UInt8 => decide (b.toNat < 128)) = true) b (List.mem_of_getElem? hj)))).mono ?_; rintro e w2 ⟨rfl, hb2⟩
   obtain ⟨c, hc⟩ : ∃ c, Lib.containsAny s.data.toList (ByteArray.mk #[58, 33]).data.toList = c := ⟨_, rfl⟩
   rw [hc]
   have HC := Lib.hid hc; clear hc
   go_wp2
   go_ret
   refine ⟨ret_bool ?_, hb1.trans (hb2.mono hb1.size)⟩
   rw [ifaceB, HV.out, ← iface_any, ← indexAny_any, ← HC.out]
   simp [Lib.containsAny]; omega
  ·
   go_wp2
   go_ret
   exact ⟨ret_bool (by rw [ifaceB, HV.out]; simp; omega), hb1⟩

end Go.Proofs.YtjpoljlgkgmdkaaGreatDoor
namespace Go.Proofs.YtjpoljlgkgmdkaaGreatDoor
open Go.RowKit Go.Cold

structure PredS (g : FuncId) (caps : Array Value) (w : World) (p : ByteArray → Bool) : Prop where
 enters : ∀ args w, (callFunc g args).run Tryz.prog w = .ok (.enter g args) w
 gives : ∀ (x : ByteArray) (W : World), x.size ≤ maxLen → Below w.heap.size w W → Calls Tryz.prog g (#[.string x] ++ caps) W fun e W' => e = .returned (.bool (p x)) ∧ Below W.heap.size W W'
theorem PredS.next {g : FuncId} {caps : Array Value} {w w' : World} {p : ByteArray → Bool} (h : PredS g caps w p) (hb : Below w.heap.size w w') : PredS g caps w' p :=
 ⟨h.enters, fun x W hx hW => h.gives x W hx (hb.trans (hW.mono hb.size))⟩

set_option maxRecDepth 10000 in
theorem IndexFunc_any (A : Option Addr) (c : Nat) (xs : List ByteArray) (g : FuncId) (caps : Array Value) (p : ByteArray → Bool) (w : World) (hx : Sl w w.heap.size A c xs) (hp : PredS g caps w p) :
  Calls Tryz.prog 130 #[.slice A xs.length c, .func (.func g) #[] caps] w fun e w' => e = .returned (.int .i64 (idxInt p xs)) ∧ Below w.heap.size w w' := by
 have hc := hx.1; have hc2 := hx.2.1
 unfold maxLen at hc2
 have hen := hp.enters
 have HP := Lib.hid hp; clear hp
 have HSl := Lib.hid hx; clear hx
 go_enter Tryz.func130, Tryz.ntmps130
 go_wp2
 go_loopw [8] (fun i wr => ∃ k : Nat, k ≤ xs.length ∧ i = .int .i64 k ∧ Hid ((xs.take k).all (fun x => !p x) = true) ∧ Below w.heap.size w wr) (fun i _ => xs.length - (intOf i).toNat)
 case atStart => exact ⟨0, Nat.zero_le _, rfl, rfl, Below.refl _ _⟩
 case round =>
  obtain ⟨k, hk, rfl, HA, hb⟩ := hrel
  by_cases hlt : k < xs.length
  ·
   obtain ⟨b3, o3, rfl, hb3, cx, hsz⟩ := (HSl.out.keep hb).str hlt
   have hxk : xs[k]? = some xs[k] := List.getElem?_eq_getElem hlt
   obtain ⟨x, hx⟩ : ∃ x, xs[k] = x := ⟨_, rfl⟩
   rw [hx] at cx hsz hxk
   have HX := Lib.hid hxk; clear hxk
   have HXX := Lib.hid hx; clear hx
   have i1 : (k : Int) < (xs.length : Int) := by omega
   go_wp2_with fail
   have hcall := HP.out.gives x wr hsz hb
   refine Calls.mono (R := fun e W' => e = .returned (.bool (p x)) ∧ Below wr.heap.size wr W') ?_ ?_
   · first | exact hcall | simpa using hcall
   rintro e w1 ⟨rfl, hb1⟩
   have hb2 := hb.trans (hb1.mono hb.size)
   clear hcall hb1 hb cx
   cases hpx : p x with
   | true =>
    have HPX := Lib.hid hpx; clear hpx
    go_wp2
    go_ret
    exact ⟨ret_int (idxInt_some hlt HA.out (by rw [HXX.out]; exact HPX.out)).symm, hb2⟩
   | false =>
    have HPX := Lib.hid hpx; clear hpx
    go_wp2
    go_roundw
    case rel => exact ⟨k + 1, by omega, by go_num, all_step HA.out HX.out (by rw [HPX.out]; rfl), hb2⟩
    case measure => simp [intOf]; omega
  ·
   go_wp2
   go_ret
   exact ⟨ret_int (idxInt_none (all_end HA.out (by omega))).symm, hb⟩

theorem ContainsFunc_any (A : Option Addr) (c : Nat) (xs : List ByteArray) (g : FuncId) (caps : Array Value) (p : ByteArray → Bool) (w : World) (hx : Sl w w.heap.size A c xs) (hp : PredS g caps w p) :
  Calls Tryz.prog 85 #[.slice A xs.length c, .func (.func g) #[] caps] w fun e w' => e = .returned (.bool (xs.any p)) ∧ Below w.heap.size w w' := by
 have HP := Lib.hid hp; clear hp
 have HSl := Lib.hid hx; clear hx
 go_enter Tryz.func85, Tryz.ntmps85
 go_wp2_with fail
 refine (IndexFunc_any A c xs g caps p w HSl.out HP.out).mono ?_
 rintro e w1 ⟨rfl, hb1⟩
 go_wp2
 go_ret
 exact ⟨ret_bool (idxInt_any _ _), hb1⟩

theorem all1_any (g : FuncId) (caps : Array Value) (p : ByteArray → Bool) (w : World) (b : Nat) (hb : b < w.heap.size) (hc : w.cell? ⟨b, 0, none⟩ = some (.func (.func g) #[] caps)) (hp : PredS g caps w p) :
  PredS 86 #[.pointer (some ⟨b, 0, none⟩)] w (fun x => !p x) := by
 refine ⟨enters_of Tryz.func86 (by kernel_rfl) rfl, fun x W hx hW => ?_⟩
 have hcell := (hW.cell (p := ⟨b, 0, none⟩) hb).trans hc
 have hen := hp.enters
 have HP := Lib.hid hp; clear hp hc
 go_enter Tryz.func86, Tryz.ntmps86
 go_wp2_with fail
 have hcall := HP.out.gives x W hx hW
 refine Calls.mono (R := fun e W' => e = .returned (.bool (p x)) ∧ Below W.heap.size W W') ?_ ?_
 · first | exact hcall | simpa using hcall
 rintro e w1 ⟨rfl, hb1⟩
 clear hcall
 go_wp2
 go_ret
 exact ⟨rfl, hb1⟩

theorem all_any (A : Option Addr) (c : Nat) (xs : List ByteArray) (g : FuncId) (caps : Array Value) (p : ByteArray → Bool) (w : World) (hx : Sl w w.heap.size A c xs) (hp : PredS g caps w p) :
  Calls Tryz.prog 41 #[.slice A xs.length c, .func (.func g) #[] caps] w fun e w' => e = .returned (.bool (xs.all p)) ∧ Below w.heap.size w w' := by
 have HP := Lib.hid hp; clear hp
 have HSl := Lib.hid hx; clear hx
 go_enter Tryz.func41, Tryz.ntmps41
 go_wp2_with fail
 have hba : Below w.heap.size w (w.alloc (Obj.cells #[Value.func (Fn.func g) #[] caps] 40)) := (Below.refl _ _).alloc (Nat.le_refl _) _
 have hsz : (w.alloc (Obj.cells #[Value.func (Fn.func g) #[] caps] 40)).heap.size = w.heap.size + 1 := by simp
 have hpa := all1_any g caps p (w.alloc (Obj.cells #[Value.func (Fn.func g) #[] caps] 40)) w.heap.size (by rw [hsz]; omega) (by rw [World.cell?_alloc_at _ _ _ _ rfl]; rfl) (HP.out.next hba)
 refine (ContainsFunc_any A c xs _ _ _ _ (HSl.out.next (Nat.le_refl _) hba) hpa).mono ?_
 rintro e w1 ⟨rfl, hb1⟩
 have hb2 := hba.trans (hb1.mono hba.size)
 clear hba hsz hpa hb1
 obtain ⟨r, hr⟩ : ∃ r, xs.any (fun x => !p x) = r := ⟨_, rfl⟩
 rw [hr]
 have HR := Lib.hid hr; clear hr
 go_wp2
 go_ret
 refine ⟨ret_bool ?_, hb2⟩
 rw [← HR.out, List.not_any_eq_all_not]
 simp

def Ok (w : World) : Prop := ∃ m, w.cell? ⟨0, 0, none⟩ = some (.int .i64 m)
theorem Ok.next {w w' : World} (h : Ok w) (hb : Below w.heap.size w w') : Ok w' := by
 obtain ⟨m, hm⟩ := h
 exact ⟨m, (hb.cell (p := ⟨0, 0, none⟩) (block_lt_of_cell hm)).trans hm⟩

theorem SplitSlash_any (s : ByteArray) (w : World) (hs : s.size < 4294967281) (hok : Ok w) : Calls Tryz.prog 42 #[.string s, .string ⟨#[47]⟩] w fun e w' =>
  ∃ A c, e = .returned (.slice A (piecesL s.data.toList).length c) ∧ Sl w' w'.heap.size A c (piecesL s.data.toList) ∧ Below w.heap.size w w' := by
 obtain ⟨m, hm⟩ := hok
 refine (Tryz.strings_Split s ⟨#[47]⟩ m w hs hm (by decide)).mono ?_
 rintro e w' ⟨rfl, rfl⟩
 have hlen := pieces_length s ⟨#[47]⟩ rfl
 have hcnt := splitOn_count 47 s.data.toList
 have hb : Below w.heap.size w (w.alloc (.cells ((Lib.splitB ⟨#[47]⟩ 0 (Lib.countB s ⟨#[47]⟩) s).map Value.string).toArray 9)) := (Below.refl _ _).alloc (Nat.le_refl _) _
 refine ⟨_, (piecesL s.data.toList).length, by rw [hlen], ?_, hb⟩
 refine Sl.ofStrs (Nat.le_refl _) ?_ (by simp) (fun x hx => ?_) (fun i x hx => ?_)
 · unfold piecesL maxLen; rw [List.length_map]; rw [ba_size] at hcnt; omega
 · have := pieces_sizes hx; rw [ba_size] at this; unfold maxLen; omega
 ·
  rw [splitB_eq s ⟨#[47]⟩ rfl, World.cell?_alloc_at _ _ _ _ rfl]
  simp [hx]

end Go.Proofs.YtjpoljlgkgmdkaaGreatDoor
namespace Go.Proofs.YtjpoljlgkgmdkaaGreatDoor
open Go.RowKit Go.Cold

end Go.Proofs.YtjpoljlgkgmdkaaGreatDoor
namespace Go.Proofs.YtjpoljlgkgmdkaaGreatDoor
open Go.RowKit Go.Cold

theorem stringsCompare_any (a b : ByteArray) (w : World) : Calls Tryz.prog 139 #[.string a, .string b] w fun e w' => e = .returned (.int .i64 (cmpB a b)) ∧ w' = w := Tryz.strings_Compare a b w

end Go.Proofs.YtjpoljlgkgmdkaaGreatDoor
namespace Go.Proofs.YtjpoljlgkgmdkaaGreatDoor
open Go.RowKit Go.Cold

theorem JoinSlash_any (A : Option Addr) (c : Nat) (xs : List ByteArray) (w : World) (hx : Sl w w.heap.size A c xs) (hlen : (joinB xs).size ≤ 140737488355328) (hn : xs.length ≤ 140737488355328) :
  Calls Tryz.prog 47 #[.slice A xs.length c, .string ⟨#[47]⟩] w fun e w' => e = .returned (.string (joinB xs)) ∧ Below w.heap.size w w' := by
 rcases Nat.eq_zero_or_pos xs.length with h0 | h0
 ·
  have hx0 : xs = [] := List.eq_nil_of_length_eq_zero h0
  subst hx0
  exact (Tryz.strings_Join_none A c ⟨#[47]⟩ w).mono fun e w' ⟨he, hw⟩ => ⟨he, by rw [hw]; exact Below.refl _ _⟩
 ·
  obtain ⟨b, o, rfl, hb, h1⟩ := hx.strs h0
  exact Tryz.strings_Join b o c xs ⟨#[47]⟩ w h1 hb hn hx.1 hlen

end Go.Proofs.YtjpoljlgkgmdkaaGreatDoor
namespace Go.Proofs.YtjpoljlgkgmdkaaGreatDoor
open Go.RowKit Go.Cold

theorem parts_any (w : World) : Calls Tryz.prog 40 #[] w fun e w' => e = .returned (.agg (Lib.setCells partL)) ∧ Below w.heap.size w w' := by
 obtain ⟨hz, hi⟩ := zero_of_info info_set
 rw [← Lib.setCells_nil] at hz
 have HI := Lib.hid hi; clear hi
 go_enter Tryz.func40, Tryz.ntmps40
 go_wp2_with fail
 have hb0 : Below w.heap.size w (w.alloc (Obj.cells (Lib.setCells []) 76)) := (Below.refl _ _).alloc (Nat.le_refl _) _
 have k0 : Blk (w.alloc (Obj.cells (Lib.setCells []) 76)) w.heap.size 76 (Lib.setCells []) := Blk.new _ _ _
 generalize w.alloc (Obj.cells (Lib.setCells []) 76) = w0 at *
 refine (common_any _).mono ?_; rintro e w1 ⟨rfl, hb1⟩
 have k1 := k0.below hb1 k0.lt; have b1 := hb0.trans (hb1.mono hb0.size)
 clear hb0 hb1 k0
 go_wp2_with fail
 refine (plus_any _ _ _ (by decide)).mono ?_; rintro e w2 ⟨rfl, hb2⟩
 have k2 := k1.below hb2 k1.lt; have b2 := b1.trans (hb2.mono b1.size)
 clear hb2 k1 b1
 go_wp2_with (with_reducible refine at_store 0 2 ?_; go_must (refine wpList_store_blk rfl 76 _ _ rfl w.heap.size rfl (Lib.setCells partL) rfl 76 _ k2 (by rw [Lib.setCells_size]; exact HI.out) (by rw [Lib.setCells_size, Lib.setCells_size]) (Lib.setCells_one _) ?_))
 refine bodyPost_ret (v := .agg (Lib.setCells partL)) ?_ rfl ⟨rfl, below_setRow b2 (Nat.le_refl _) _⟩
 exact results_cell_blk rfl _ _ w.heap.size 76 _ _ rfl (k2.setRow_ _) Tryz.underlying76 rfl (by rw [Lib.setCells_size]; exact HI.out)

theorem link1_any (w : World) (b : Nat) (hk : Blk w b 76 (Lib.setCells partL)) : PredS 43 #[.pointer (some ⟨b, 0, none⟩)] w compB := by
 obtain ⟨_, hi⟩ := zero_of_info info_set
 have HI := Lib.hid hi; clear hi
 refine ⟨enters_of Tryz.func43 (by kernel_rfl) rfl, fun x W hx hW => ?_⟩
 have HK := Lib.hid (hk.below hW hk.lt); clear hk hW
 by_cases h0 : x.toList = []
 ·
  go_enter Tryz.func43, Tryz.ntmps43
  go_wp2_with fail
  go_ret
  exact ⟨ret_bool (by simp [compB, h0]), Below.refl _ _⟩
 ·
  have h0' : (x.toList.isEmpty) = false := by simpa using h0
  go_enter Tryz.func43, Tryz.ntmps43
  go_wp2_with fail
  refine (dots_any _ _).mono ?_
  rintro e w' ⟨rfl, rfl⟩
  cases hd : dotsB x with
  | true =>
   go_wp2_with fail
   go_ret
   exact ⟨ret_bool (by simp [compB, hd]), Below.refl _ _⟩
  | false =>
   go_wp2_with (first
    | (with_reducible refine at_dst 12 ?_; go_must (refine wpList_load_blk_w (by simp [Region.wanted, yielded]) 76 _ rfl b rfl 76 _ _ HK.out Tryz.underlying76 rfl (by rw [Lib.setCells_size]; exact HI.out) ?_))
    | (go_at_call 45; go_must (refine (has_any _ _ _ hx).mono ?_); rintro e w1 ⟨rfl, hb1⟩))
   go_ret
   exact ⟨ret_bool (by simp [compB, hd, h0']), hb1⟩

theorem Link_any (s : ByteArray) (w : World) (hs : s.size < 4294967281) (hok : Ok w) : Calls Tryz.prog 17 #[.string s] w fun e w' => e = .returned (.bool (linkB s)) ∧ Below w.heap.size w w' := by
 obtain ⟨hz, hi⟩ := zero_of_info info_set
 rw [← Lib.setCells_nil] at hz
 have HI := Lib.hid hi; clear hi
 have HS := Lib.hid hs; clear hs
 by_cases h256 : s.size ≤ 256
 ·
  have hd : decide ((s.size : Int) ≤ 256) = true := by simp; omega
  have H256 := Lib.hid h256; clear h256
  go_enter Tryz.func17, Tryz.ntmps17
  go_wp2_with fail
  refine (parts_any _).mono ?_; rintro e w1 ⟨rfl, hb1⟩
  have hk0 : Blk (w1.alloc (Obj.cells (Lib.setCells []) 76)) w1.heap.size 76 (Lib.setCells []) := Blk.new _ _ _
  go_wp2_with (with_reducible refine at_store 3 4 ?_; go_must (refine wpList_store_blk rfl 76 _ _ rfl w1.heap.size rfl (Lib.setCells partL) rfl 76 _ hk0 (by rw [Lib.setCells_size]; exact HI.out) (by rw [Lib.setCells_size, Lib.setCells_size]) (Lib.setCells_one _) ?_))
  have hb2 : Below w.heap.size w ((w1.alloc (Obj.cells (Lib.setCells []) 76)).setRow w1.heap.size (Lib.setCells partL)) := below_setRow (hb1.alloc hb1.size _) hb1.size _
  have hk : Blk ((w1.alloc (Obj.cells (Lib.setCells []) 76)).setRow w1.heap.size (Lib.setCells partL)) w1.heap.size 76 (Lib.setCells partL) := (Blk.new _ _ _).setRow_ _
  generalize (w1.alloc (Obj.cells (Lib.setCells []) 76)).setRow w1.heap.size (Lib.setCells partL) = w2 at *
  generalize w1.heap.size = g at *
  clear hb1
  go_wp2_with fail
  refine (SplitSlash_any s w2 HS.out (hok.next hb2)).mono ?_
  rintro e w3 ⟨A, c, rfl, hsl, hb3⟩
  have hk3 := hk.below hb3 hk.lt
  have hb4 := hb2.trans (hb3.mono hb2.size)
  have HSl := Lib.hid hsl
  have HK := Lib.hid hk3
  clear hb2 hb3 hk hk3 hsl
  go_wp2_with fail
  refine (all_any A c _ _ _ _ w3 HSl.out (link1_any w3 g HK.out)).mono ?_
  rintro e w4 ⟨rfl, hb5⟩
  have hb6 := hb4.trans (hb5.mono hb4.size)
  obtain ⟨z, hz⟩ : ∃ z, (piecesL s.data.toList).all compB = z := ⟨_, rfl⟩
  rw [hz]
  have HZ := Lib.hid hz; clear hz
  go_wp2
  go_ret
  exact ⟨ret_bool (by have := H256.out; rw [linkB, HZ.out]; simp; omega), hb6⟩
 ·
  have hd : decide ((s.size : Int) ≤ 256) = false := by simp; omega
  have H256 := Lib.hid h256; clear h256
  go_enter Tryz.func17, Tryz.ntmps17
  go_wp2_with fail
  refine (parts_any _).mono ?_; rintro e w1 ⟨rfl, hb1⟩
  have hk0 : Blk (w1.alloc (Obj.cells (Lib.setCells []) 76)) w1.heap.size 76 (Lib.setCells []) := Blk.new _ _ _
  go_wp2_with (with_reducible refine at_store 3 4 ?_; go_must (refine wpList_store_blk rfl 76 _ _ rfl w1.heap.size rfl (Lib.setCells partL) rfl 76 _ hk0 (by rw [Lib.setCells_size]; exact HI.out) (by rw [Lib.setCells_size, Lib.setCells_size]) (Lib.setCells_one _) ?_))
  go_ret
  exact ⟨ret_bool (by have := H256.out; rw [linkB]; simp; omega), below_setRow (hb1.alloc hb1.size _) hb1.size _⟩

end Go.Proofs.YtjpoljlgkgmdkaaGreatDoor
namespace Go.Cold
open Go Go.RowKit

def cleanP (b : UInt8) : UInt8 := if (partL ++ [47]).contains b then b else 95
theorem cleanP_good {b : UInt8} (h : (partL ++ [47]).contains b = true) : cleanP b = b := by rw [cleanP, if_pos h]
theorem cleanP_bad {b : UInt8} (h : (partL ++ [47]).contains b = false) : cleanP b = 95 := by rw [cleanP, h]; rfl
def cleanK (l : List UInt8) (k : Nat) : List UInt8 := (l.take k).map cleanP ++ l.drop k
theorem cleanK_length (l : List UInt8) (k : Nat) (hk : k ≤ l.length) : (cleanK l k).length = l.length := by
 simp [cleanK]; omega
theorem cleanK_zero (l : List UInt8) : cleanK l 0 = l := by simp [cleanK]
theorem cleanK_all (l : List UInt8) {k : Nat} (hk : l.length ≤ k) : cleanK l k = l.map cleanP := by
 rw [cleanK, List.take_of_length_le hk, List.drop_eq_nil_of_le hk, List.append_nil]
theorem cleanK_at {l : List UInt8} {k : Nat} {b : UInt8} (h : l[k]? = some b) : (cleanK l k)[k]? = some b := by
 have hk := (List.getElem?_eq_some_iff.1 h).1
 rw [cleanK, List.getElem?_append_right (by simp; omega)]
 simp only [List.length_map, List.length_take]
 rw [Nat.min_eq_left (by omega), Nat.sub_self, List.getElem?_drop]
 exact h
theorem cleanK_succ {l : List UInt8} {k : Nat} {b : UInt8} (h : l[k]? = some b) : cleanK l (k + 1) = (cleanK l k).set k (cleanP b) := by
 have hk := (List.getElem?_eq_some_iff.1 h).1
 have hb := (List.getElem?_eq_some_iff.1 h).2
 have e1 : cleanK l k = ((l.take k).map cleanP) ++ b :: l.drop (k + 1) := by
  rw [cleanK, List.drop_eq_getElem_cons hk, hb]
 rw [e1, List.set_append_right _ _ (by simp; omega)]
 simp only [List.length_map, List.length_take]
 rw [Nat.min_eq_left (by omega), Nat.sub_self, List.set_cons_zero, cleanK, List.take_succ_eq_append_getElem hk, hb, List.map_append, List.append_assoc]
 rfl
theorem cleanK_same {l : List UInt8} {k : Nat} {b : UInt8} (h : l[k]? = some b) (hg : cleanP b = b) : cleanK l (k + 1) = cleanK l k := by
 rw [cleanK_succ h, hg]
 have := cleanK_at h
 apply List.ext_getElem?
 intro i
 rw [List.getElem?_set]
 split
 ·
  rename_i he
  subst he
  have hl := (List.getElem?_eq_some_iff.1 this).1
  rw [if_pos hl, this]
 · rfl

def keepB (x : ByteArray) : Bool := !x.toList.isEmpty && !(x.toList == [46])
def fsOf (s : ByteArray) : List ByteArray := (piecesL (s.data.toList.map cleanP)).filter keepB
def cleanOf (s : ByteArray) : Option ByteArray := if linkB (joinB (fsOf s)) then some (joinB (fsOf s)) else none

def tot (xs : List (List UInt8)) : Nat := (xs.map fun x => x.length + 1).sum
theorem tot_splitOn (c : UInt8) : ∀ l : List UInt8, tot (splitOn c l) = l.length + 1
 | [] => rfl
 | b :: l => by
  have ih := tot_splitOn c l
  unfold splitOn
  split
  · simp [tot] at ih ⊢; omega
  ·
   cases hs : splitOn c l with
   | nil => exact absurd hs (splitOn_ne c l)
   | cons y r => rw [hs] at ih; simp [tot] at ih ⊢; omega
theorem tot_filter (p : List UInt8 → Bool) : ∀ xs : List (List UInt8), tot (xs.filter p) ≤ tot xs
 | [] => Nat.le_refl _
 | x :: xs => by
  have ih := tot_filter p xs
  rw [List.filter_cons]
  split <;> (simp [tot] at ih ⊢; omega)
theorem join_length (c : UInt8) : ∀ xs : List (List UInt8), xs ≠ [] → (Lib.join xs [c]).length + 1 = tot xs
 | [], h => absurd rfl h
 | x :: r, _ => by
  rw [Lib.join_cons]
  have : ∀ r : List (List UInt8), (Lib.joinTail [c] r).length = tot r := by
   intro r
   induction r with
   | nil => rfl
   | cons y r ih =>
    have e : Lib.joinTail [c] (y :: r) = (c :: y) ++ Lib.joinTail [c] r := by simp [Lib.joinTail]
    rw [e, List.length_append, ih]; simp [tot]
  rw [List.length_append, this]; simp [tot]; omega
theorem joinB_filter_size (l : List UInt8) (p : ByteArray → Bool) : (joinB ((piecesL l).filter p)).size ≤ l.length := by
 unfold joinB
 rw [toB_size]
 have e : ((piecesL l).filter p).map (·.data.toList) = (splitOn 47 l).filter (fun x => p (toB x)) := by
  unfold piecesL
  generalize splitOn 47 l = ys
  induction ys with
  | nil => rfl
  | cons y ys ih =>
   simp only [List.map_cons, List.filter_cons]
   split
   · rw [List.map_cons, ih]; rfl
   · exact ih
 rw [e]
 by_cases hn : (splitOn 47 l).filter (fun x => p (toB x)) = []
 · rw [hn]; simp [Lib.join_nil]
 ·
  have h1 := join_length 47 _ hn
  have h2 := tot_filter (fun x => p (toB x)) (splitOn 47 l)
  have h3 := tot_splitOn 47 l
  omega
theorem fsOf_join_size (s : ByteArray) : (joinB (fsOf s)).size ≤ s.size := by
 have := joinB_filter_size (s.data.toList.map cleanP) keepB
 rw [List.length_map, ba_size] at this
 exact this
theorem fsOf_sizes {s x : ByteArray} (h : x ∈ fsOf s) : x.size ≤ s.size := by
 have := pieces_sizes (List.mem_filter.1 h).1
 rwa [List.length_map, ba_size] at this
theorem fsOf_length (s : ByteArray) : (fsOf s).length ≤ s.size + 1 := by
 have h1 := List.length_filter_le keepB (piecesL (s.data.toList.map cleanP))
 have h2 : (piecesL (s.data.toList.map cleanP)).length ≤ s.size + 1 := by
  unfold piecesL
  rw [List.length_map]
  have := splitOn_count 47 (s.data.toList.map cleanP)
  rwa [List.length_map, ba_size] at this
 exact Nat.le_trans h1 h2
end Go.Cold
namespace Go.Cold
open Go Go.RowKit
end Go.Cold
namespace Go.Proofs.YtjpoljlgkgmdkaaGreatDoor
open Go.RowKit Go.Cold

end Go.Proofs.YtjpoljlgkgmdkaaGreatDoor
namespace Go.Cold
open Go Go.RowKit
def zero10 : List Value := [.int .i64 0, .int .i64 0, .string ByteArray.empty, .string ByteArray.empty, .string ByteArray.empty, .string ByteArray.empty, .string ByteArray.empty, .int .i64 0, .int .i64 0, .slice none 0 0]
theorem zero_ok : devOk zeroD := ⟨⟨by decide, by decide⟩, ⟨by decide, by decide⟩, Nat.zero_le _, Nat.zero_le _, Nat.zero_le _, Nat.zero_le _, Nat.zero_le _, ⟨by decide, by decide⟩, ⟨by decide, by decide⟩⟩
end Go.Cold
namespace Go.Proofs.YtjpoljlgkgmdkaaGreatDoor
open Go.RowKit Go.Cold
end Go.Proofs.YtjpoljlgkgmdkaaGreatDoor
namespace Go.Cold
open Go Go.RowKit
end Go.Cold
namespace Go.Proofs.YtjpoljlgkgmdkaaGreatDoor
open Go.RowKit Go.Cold
end Go.Proofs.YtjpoljlgkgmdkaaGreatDoor
namespace Go.Cold
open Go Go.RowKit
end Go.Cold
namespace Go.Proofs.YtjpoljlgkgmdkaaGreatDoor
open Go.RowKit Go.Cold
theorem info_txt : (Tryz.prog.info? 9).map (fun i => (i.zero, i.size, i.bytes)) = some (some (.string ByteArray.empty), 1, 16) := by kernel_rfl
end Go.Proofs.YtjpoljlgkgmdkaaGreatDoor
namespace Go.Cold
open Go Go.RowKit
end Go.Cold
namespace Go.Proofs.YtjpoljlgkgmdkaaGreatDoor
open Go.RowKit Go.Cold
end Go.Proofs.YtjpoljlgkgmdkaaGreatDoor
namespace Go.Proofs.YtjpoljlgkgmdkaaGreatDoor
open Go.RowKit Go.Cold
end Go.Proofs.YtjpoljlgkgmdkaaGreatDoor
namespace Go.Proofs.YtjpoljlgkgmdkaaGreatDoor
open Go.RowKit Go.Cold
end Go.Proofs.YtjpoljlgkgmdkaaGreatDoor
namespace Go.Proofs.YtjpoljlgkgmdkaaGreatDoor
open Go.RowKit Go.Cold Go.Sort
end Go.Proofs.YtjpoljlgkgmdkaaGreatDoor
namespace Go.Cold
open Go Go.RowKit
end Go.Cold
namespace Go.Proofs.YtjpoljlgkgmdkaaGreatDoor
open Go.RowKit Go.Cold
end Go.Proofs.YtjpoljlgkgmdkaaGreatDoor
namespace Go.Proofs.YtjpoljlgkgmdkaaGreatDoor
open Go.RowKit Go.Cold

structure PredA (g : FuncId) (caps : Array Value) (w : World) (B : Nat) (Q : Attr → Prop) (p : Attr → Bool) : Prop where
 enters : ∀ args w, (callFunc g args).run Tryz.prog w = .ok (.enter g args) w
 gives : ∀ (d : Attr) (W : World), d.name.size ≤ maxLen → d.value.size ≤ maxLen → Q d → Below w.heap.size w W → Calls Tryz.prog g (#[.agg #[.string d.name, .string d.value]] ++ caps) W fun e W' => e = .returned (.bool (p d)) ∧ Below W.heap.size W W'
theorem PredA.next {g : FuncId} {caps : Array Value} {w w' : World} {B : Nat} {Q : Attr → Prop} {p : Attr → Bool} (h : PredA g caps w B Q p) (hb : Below w.heap.size w w') : PredA g caps w' B Q p :=
 ⟨h.enters, fun d W h1 h2 h3 hW => h.gives d W h1 h2 h3 (hb.trans (hW.mono hb.size))⟩
structure PredD (g : FuncId) (caps : Array Value) (w : World) (B : Nat) (Q : Dev → Prop) (p : Dev → Bool) : Prop where
 enters : ∀ args w, (callFunc g args).run Tryz.prog w = .ok (.enter g args) w
 gives : ∀ (d : Dev) (A : Option Addr) (c : Nat) (W : World), devOk d → Sl W B A c d.attrs → Q d → Below w.heap.size w W → Calls Tryz.prog g (#[.agg #[.int .i64 d.idx, .int .i64 d.par, .string d.nm, .string d.orig, .string d.sub, .string d.drv, .string d.ali, .int .i64 d.kind, .int .i64 d.num, .slice A d.attrs.length c]] ++ caps) W fun e W' => e = .returned (.bool (p d)) ∧ Below W.heap.size W W'
theorem PredD.next {g : FuncId} {caps : Array Value} {w w' : World} {B : Nat} {Q : Dev → Prop} {p : Dev → Bool} (h : PredD g caps w B Q p) (hb : Below w.heap.size w w') : PredD g caps w' B Q p :=
 ⟨h.enters, fun d A c W h1 h2 h3 hW => h.gives d A c W h1 h2 h3 (hb.trans (hW.mono hb.size))⟩
end Go.Proofs.YtjpoljlgkgmdkaaGreatDoor
namespace Go.Cold
open Go Go.RowKit
end Go.Cold
namespace Go.Proofs.YtjpoljlgkgmdkaaGreatDoor
open Go.RowKit Go.Cold
end Go.Proofs.YtjpoljlgkgmdkaaGreatDoor
namespace Go.Cold
open Go Go.RowKit
class El (α : Type) where
 val : α → Value
 lit : α → Lit
 desc : TypeDesc
 ok : α → Prop
 zero : α
 zero_ok : ok zero
 rd : ∀ {P : Program} {e : TypeId} {a : α}, P.underlying e = some desc → ok a → plainElem (H := Unit) P e (val a) = some (.lit (lit a), [])
 inv : ∀ {P : Program} {e : TypeId} {v : Value} {z : DataW Unit × List MemPlace}, P.underlying e = some desc → plainElem (H := Unit) P e v = some z → ∃ a, v = val a ∧ ok a ∧ z.1 = .lit (lit a)
 inj : ∀ {a b : α}, lit a = lit b → a = b
instance : El ByteArray where
 val s := .string s
 lit s := .string s.data.toList
 desc := .string
 ok s := s.size ≤ maxLen
 zero := ByteArray.empty
 zero_ok := Nat.zero_le _
 rd he h := plainElem_string he h
 inv {P e v z} he h := by
  unfold plainElem at h
  rw [he] at h
  cases v <;> simp at h
  obtain ⟨hs, rfl⟩ := h
  exact ⟨_, rfl, hs, rfl⟩
 inj {a b} h := by
  injection h with h
  have h2 := Array.toList_inj.1 h
  cases a; cases b; simp at h2; rw [h2]
theorem wf_i64 {a : Int} : (Lit.int .i64 a).wf = true ↔ okI a := by
 unfold okI
 simp [Lit.wf, IntKind.min, IntKind.max, IntKind.signed, IntKind.bits]
instance : El Int where
 val n := .int .i64 n
 lit n := .int .i64 n
 desc := .int .i64
 ok n := okI n
 zero := 0
 zero_ok := ⟨by decide, by decide⟩
 rd he h := plainElem_int he (wf_i64.2 h)
 inv {P e v z} he h := by
  obtain ⟨a, rfl, rfl, hw⟩ := plainElem_int_inv he h
  exact ⟨a, rfl, wf_i64.1 hw, rfl⟩
 inj h := by injection h
instance : El Bool where
 val x := .bool x
 lit x := .bool x
 desc := .bool
 ok _ := True
 zero := false
 zero_ok := trivial
 rd he _ := plainElem_bool he _
 inv {P e v z} he h := by
  unfold plainElem at h
  rw [he] at h
  cases v <;> simp at h
  subst h
  exact ⟨_, rfl, trivial, rfl⟩
 inj h := by injection h
def MapV {α : Type} [El α] (P : Program) (k e : TypeId) (w : World) (b n : Nat) (f : Int → Option α) : Prop :=
 ∃ D : DataW Unit, w.ownsMap P k (plainElem P e) b n D ∧ ∀ i, okI i → Maps.has D (.int .i64 i) = (f i).isSome ∧ (∀ z a, f i = some a → D.atKey (.int .i64 i) z = .lit (El.lit a)) ∧ ∀ z, f i = none → D.atKey (.int .i64 i) z = z
def updF {α : Type} (f : Int → Option α) (i : Int) (a : α) : Int → Option α := fun j => if j = i then some a else f j
section
variable {α : Type} [El α] {P : Program} {k e t : TypeId} {w w' : World} {b n : Nat} {f : Int → Option α}
theorem MapV.kept {row : Option Nat} (h : MapV P k e w b n f) (hg : w.grownBy w' row) (hne : some b ≠ row) : MapV P k e w' b n f := by
 obtain ⟨D, h1, h2⟩ := h
 exact ⟨D, h1.kept hg hne, h2⟩
theorem MapV.lt (h : MapV P k e w b n f) : b < w.heap.size := by obtain ⟨D, h1, _⟩ := h; exact h1.lt
theorem MapV.below {B : Nat} (h : MapV P k e w b n f) (hb : Below B w w') (hlt : b < B) : MapV P k e w' b n f := by
 obtain ⟨D, ⟨es, clock, h1, h2⟩, h3⟩ := h
 exact ⟨D, ⟨es, clock, (hb.block b hlt).trans h1, h2⟩, h3⟩
theorem MapV.next (h : MapV P k e w b n f) (hb : Below w.heap.size w w') : MapV P k e w' b n f := h.below hb h.lt
theorem MapV.mono {m : Nat} (h : MapV P k e w b n f) (hm : n ≤ m) : MapV P k e w b m f := by obtain ⟨D, h1, h2⟩ := h; exact ⟨D, h1.mono hm, h2⟩
end
end Go.Cold
namespace Go.Cold
open Go Go.RowKit
structure ElemT (P : Program) (n : Nat) (T TS : TypeId) (bytes : Nat) : Prop where
 sl : P.underlying TS = some (.slice T)
 info : ∃ i z, P.info? T = some i ∧ i.zero = some z ∧ i.size = n ∧ i.bytes = bytes ∧ z.cells.size = n
section
variable {P : Program} {α : Type} [RepS α] {F : Nat → Prop} {w : World} {base bytes : Nat} {T TS : TypeId} {ops : Array Oper} {rest : List Oper} {o : Oper} {a : Act} {Q : Exit → Act → World → Prop}
theorem flat_len {α : Type} [RepS α] {w : World} {S : Nat → Prop} : ∀ {ys : List α} {dss : List (List Value)}, dss.length = ys.length → (∀ (i : Nat) (y : α) (cs : List Value), ys[i]? = some y → dss[i]? = some cs → RepS.rdS w S y cs) → dss.flatten.length = ys.length * Rep.size α ∧ ∀ u ∈ dss.flatten, u.oneCell' = true
 | [], [], _, _ => ⟨by simp, by simp⟩
 | [], _ :: _, h, _ => by simp at h
 | _ :: _, [], h, _ => by simp at h
 | y :: ys, d :: dss, h, hr => by
  have h0 := hr 0 y d rfl rfl
  obtain ⟨h1, h2⟩ := flat_len (ys := ys) (dss := dss) (by simpa using h) (fun i y cs hy hcs => hr (i + 1) y cs (by simpa using hy) (by simpa using hcs))
  refine ⟨by rw [List.flatten_cons, List.length_append, h1, RepS.lenS h0, List.length_cons, Nat.succ_mul, Nat.add_comm], fun u hu => ?_⟩
  rw [List.flatten_cons, List.mem_append] at hu
  exact hu.elim (RepS.one h0 u) (h2 u)
theorem SlS.rows {S : Nat → Prop} {A : Option Addr} {c : Nat} {ys : List α} (h : SlS w S A c ys) (h0 : 0 < ys.length) : ∃ b o, A = some ⟨b, o, none⟩ ∧ S b ∧ ∃ dss : List (List Value), dss.length = ys.length ∧ (∀ (i : Nat) (y : α) (cs : List Value), ys[i]? = some y → dss[i]? = some cs → RepS.rdS w S y cs) ∧
  ∀ j u, dss.flatten[j]? = some u → w.cell? ⟨b, o + j, none⟩ = some u := by
 obtain ⟨b, o, e, hb, hc⟩ := h.2.2 h0
 refine ⟨b, o, e, hb, ?_⟩
 clear h h0
 induction ys generalizing o A with
 | nil => exact ⟨[], rfl, by simp, by simp⟩
 | cons y ys ih =>
  obtain ⟨cs, hr, hcs⟩ := hc 0 y rfl
  obtain ⟨dss, h1, h2, h3⟩ := ih (A := some ⟨b, o + Rep.size α, none⟩) (o + Rep.size α) rfl (fun i x hx => by
   obtain ⟨cs, h4, h5⟩ := hc (i + 1) x (by simpa using hx)
   exact ⟨cs, h4, fun j u hu => by have := h5 j u hu; rw [Nat.succ_mul] at this; rw [← this]; congr 2; omega⟩)
  refine ⟨cs :: dss, by simp [h1], fun i x ds hx hds => ?_, fun j u hu => ?_⟩
  ·
   cases i with
   | zero => simp at hx hds; subst hx; subst hds; exact hr
   | succ i => exact h2 i x ds (by simpa using hx) (by simpa using hds)
  ·
   rw [List.flatten_cons] at hu
   by_cases hj : j < cs.length
   ·
    rw [List.getElem?_append_left hj] at hu
    have := hcs j u hu
    rw [Nat.zero_mul, Nat.zero_add] at this; exact this
   ·
    rw [List.getElem?_append_right (by omega)] at hu
    have := h3 _ u hu
    rw [RepS.lenS hr] at this hj
    rw [← this]; congr 2; omega
theorem run_appL (E : ElemT P (Rep.size α) T TS bytes) (ty : TypeId) (v : Value) (acc : List α) (h : OwnsS F w base T v acc) (A : Option Addr) (c : Nat) (ys : List α)
  (hy : SlS w (fun b => F b ∧ b < w.heap.size ∧ v.ownBlock ≠ some b) A c ys ∨ ys = []) (h1 : acc.length + ys.length ≤ maxLen) (h2 : (acc.length + ys.length) * bytes ≤ 140737488355328) (hb : base ≤ w.heap.size) :
  ∃ v' w', (Builtin.append_ #[TS, TS] ty #[v, .slice A ys.length c]).run P w = .ok v' w' ∧ OwnsS F w' base T v' (acc ++ ys) ∧ w.grownBy w' v.ownBlock ∧ (∀ k, v'.ownBlock = some k → v.ownBlock = some k ∨ w.heap.size ≤ k) := by
 obtain ⟨i, z, hi, hz, hs1, hs2, hs3⟩ := E.info
 obtain ⟨css, o1, o2, o3⟩ := h
 rcases A with _ | A
 ·
  have h0 : ys = [] := by
   rcases hy with hy | hy
   ·
    rcases ys with _ | ⟨y, r⟩
    · rfl
    ·
     obtain ⟨b, o, e, _⟩ := hy.2.2 (by simp)
     cases e
   · exact hy
  subst h0
  refine ⟨v, w, ?_, by rw [List.append_nil]; exact ⟨css, o1, o2, o3⟩, ⟨rfl, rfl, rfl, Nat.le_refl _, fun _ _ _ => rfl⟩, fun k hk => .inl hk⟩
  rcases o1.2 with ⟨rfl, hn⟩ | ⟨g, cap, cur, rfl, _, _, hnc, _⟩
  · simp [Builtin.append_, run_underlying E.sl, sizeOf, typeInfo, hi, Builtin.lenOf, Builtin.firstCells]
  · simp [Builtin.append_, run_underlying E.sl, sizeOf, typeInfo, hi, Builtin.lenOf, Builtin.firstCells, hnc, storeCells]
 ·
  obtain ⟨dss, d1, d2, d3⟩ : ∃ dss : List (List Value), dss.length = ys.length ∧ (∀ (i : Nat) (y : α) (cs : List Value), ys[i]? = some y → dss[i]? = some cs → RepS.rdS w (fun b => F b ∧ b < w.heap.size ∧ v.ownBlock ≠ some b) y cs) ∧ ∀ j u, dss.flatten[j]? = some u → w.cell? (A.add j) = some u := by
   rcases hy with hy | rfl
   ·
    rcases ys with _ | ⟨y, r⟩
    · exact ⟨[], rfl, by simp, by simp⟩
    ·
     obtain ⟨b, o, e, _, dss, d1, d2, d3⟩ := hy.rows (by simp)
     obtain rfl := Option.some.inj e
     exact ⟨dss, d1, d2, fun j u hu => by rw [add_mk]; exact d3 j u hu⟩
   · exact ⟨[], rfl, by simp, by simp⟩
  obtain ⟨f1, f2⟩ := flat_len d1 d2
  obtain ⟨v', w', hr, hown, hg, _, hat⟩ := run_append_own_at (P := P) w base TS ty T i z (Rep.size α) bytes E.sl hi hz hs1 hs2 hs3 RepS.pos v acc.length css.flatten o1 A ys.length c dss.flatten f1 d3 f2 h1 h2 hb
  have hnew : ∀ k, v'.ownBlock = some k → v.ownBlock = some k ∨ w.heap.size ≤ k := fun k hk => hat.elim (fun h => .inl (h.symm.trans hk)) (fun h => .inr (by rw [hk] at h; have := Option.some.inj h; omega))
  exact ⟨v', w', hr, OwnsS.appL o1 o2 o3 d1 d2 hown hg hnew, hg, hnew⟩
theorem run_app1 (E : ElemT P (Rep.size α) T TS bytes) (ty : TypeId) (v : Value) (acc : List α) (h : OwnsS F w base T v acc) (g : Nat) (y : α) (cs : List Value)
  (hc : ∀ (j : Nat) u, cs[j]? = some u → w.cell? ⟨g, j, none⟩ = some u) (hr : RepS.rdS w (fun b => F b ∧ b < w.heap.size ∧ v.ownBlock ≠ some b) y cs)
  (h1 : acc.length + 1 ≤ maxLen) (h2 : (acc.length + 1) * bytes ≤ 140737488355328) (hb : base ≤ w.heap.size) :
  ∃ v' w', (Builtin.append_ #[TS, TS] ty #[v, .slice (some ⟨g, 0, none⟩) 1 1]).run P w = .ok v' w' ∧ OwnsS F w' base T v' (acc ++ [y]) ∧ w.grownBy w' v.ownBlock ∧ (∀ k, v'.ownBlock = some k → v.ownBlock = some k ∨ w.heap.size ≤ k) := by
 obtain ⟨i, z, hi, hz, hs1, hs2, hs3⟩ := E.info
 obtain ⟨css, o1, o2, o3⟩ := h
 obtain ⟨v', w', hr', hown, hg, _, hat⟩ := run_append_own_at (P := P) w base TS ty T i z (Rep.size α) bytes E.sl hi hz hs1 hs2 hs3 RepS.pos v acc.length css.flatten o1 ⟨g, 0, none⟩ 1 1 cs (by rw [RepS.lenS hr, Nat.one_mul]) (fun j u hu => by rw [add_mk, Nat.zero_add]; exact hc j u hu) (RepS.one hr) h1 h2 hb
 have hnew : ∀ k, v'.ownBlock = some k → v.ownBlock = some k ∨ w.heap.size ≤ k := fun k hk => hat.elim (fun h => .inl (h.symm.trans hk)) (fun h => .inr (by rw [hk] at h; have := Option.some.inj h; omega))
 exact ⟨v', w', hr', OwnsS.app o1 o2 o3 hr hown hg hnew, hg, hnew⟩
theorem step_app {K : Act → World → Prop} {Z : Prop} (hgd : o.guard = none) (s x : Operand) (ho : o.op = .call { callee := .builtin .append, args := #[s, x], argTypes := #[TS, TS] }) (v u : Value) (hs : a.eval s = v) (hx : a.eval x = u)
  {R : Value → World → Prop} (hrun : ∃ v' w', (Builtin.append_ #[TS, TS] o.type #[v, u]).run P w = .ok v' w' ∧ R v' w') (hK : ∀ v' w', R v' w' → K (a.put o.dst v') w') :
  if Region.wanted o (yielded ops a.tmps) = true then Oper.wp P o a w K Q else Z := by
 have hw : Region.wanted o (yielded ops a.tmps) = true := by simp [Region.wanted, hgd]
 rw [if_pos hw]
 obtain ⟨v', w', hr, hR⟩ := hrun
 unfold Oper.wp execOp
 simp only [ho, resolve, invoke, builtin, Sem.run_bind, Sem.run_pure, Result.andThen_ok, List.map_toArray, List.map_cons, List.map_nil, hs, hx, hr]
 exact hK _ _ hR
theorem wpList_app {R : Value → World → Prop} (hgd : o.guard = none) (s x : Operand) (ho : o.op = .call { callee := .builtin .append, args := #[s, x], argTypes := #[TS, TS] }) (v u : Value) (hs : a.eval s = v) (hx : a.eval x = u)
  (hrun : ∃ v' w', (Builtin.append_ #[TS, TS] o.type #[v, u]).run P w = .ok v' w' ∧ R v' w') (hK : ∀ v' w', R v' w' → wpList P ops Q rest (a.put o.dst v') w') : wpList P ops Q (o :: rest) a w := by
 refine wpList_plain hgd fun K hK' => ?_
 obtain ⟨v', w', hr, hR⟩ := hrun
 unfold Oper.wp execOp
 simp only [ho, resolve, invoke, builtin, Sem.run_bind, Sem.run_pure, Result.andThen_ok, List.map_toArray, List.map_cons, List.map_nil, hs, hx, hr]
 exact hK' _ _ (hK _ _ hR)
end
theorem ownsRow_low {w : World} {base base' n size : Nat} {T : TypeId} {v : Value} {xs : List Value} (h : w.ownsRow base T size v n xs) (hb : base' ≤ base) : w.ownsRow base' T size v n xs := by
 obtain ⟨h1, h2⟩ := h
 refine ⟨h1, ?_⟩
 rcases h2 with h2 | ⟨g, cap, cur, e, hg, h3⟩
 · exact .inl h2
 · exact .inr ⟨g, cap, cur, e, Nat.le_trans hb hg, h3⟩
theorem OwnsS.low {α : Type} [RepS α] {F : Nat → Prop} {w : World} {base base' : Nat} {T : TypeId} {v : Value} {xs : List α} (h : OwnsS F w base T v xs) (hb : base' ≤ base) : OwnsS F w base' T v xs := by
 obtain ⟨css, h1, h2⟩ := h
 exact ⟨css, ownsRow_low h1 hb, h2⟩
end Go.Cold
namespace Go.Cold
open Go Go.RowKit
def TapeAt (w : World) (B b : Nat) (xs : List Int) (k : Nat) : Prop := ∃ A c, w.cell? ⟨b, 0, none⟩ = some (.slice A xs.length c) ∧ w.cell? ⟨b, 1, none⟩ = some (.int .i64 k) ∧
 (∀ j, w.frozen? ⟨b, j, none⟩ = false) ∧ Sl w B A c xs ∧ B ≤ b ∧ b < w.heap.size
end Go.Cold
namespace Go.Proofs.YtjpoljlgkgmdkaaGreatDoor
open Go.RowKit Go.Cold

end Go.Proofs.YtjpoljlgkgmdkaaGreatDoor
namespace Go.Cold
open Go Go.RowKit
theorem TapeAt.kept {w w' : World} {B b k : Nat} {xs : List Int} {row : Option Nat} (h : TapeAt w B b xs k) (hg : w.grownBy w' row) (hne : some b ≠ row) (hB : ∀ g, row = some g → B ≤ g) : TapeAt w' B b xs k := by
 obtain ⟨A, c, h0, h1, hf, hsl, hBb, hlt⟩ := h
 have hh := hg.block b hlt hne
 have hbl : Below B w w' := (Below.refl B w).grown hg (by omega) hB
 exact ⟨A, c, (cell_heap hh 0).trans h0, (cell_heap hh 1).trans h1, fun j => (frozen_heap hh j).trans (hf j), hsl.keep hbl, hBb, Nat.lt_of_lt_of_le hlt hg.size⟩
theorem TapeAt.set_ {w : World} {B b k g j : Nat} {xs : List Int} (h : TapeAt w B b xs k) (hne : g ≠ b) (hB : B ≤ g) (v : Value) : TapeAt (w.setCell ⟨g, j, none⟩ v) B b xs k := by
 obtain ⟨A, c, h0, h1, hf, hsl, hBb, hlt⟩ := h
 exact ⟨A, c, (cell_set_far w ⟨g, j, none⟩ v b 0 hne).trans h0, (cell_set_far w ⟨g, j, none⟩ v b 1 hne).trans h1, fun i => (World.frozen?_setCell w _ _ _).trans (hf i), hsl.keep ((Below.refl _ _).setCell (by exact hB) _), hBb, by simpa using hlt⟩
end Go.Cold
namespace Go.Cold
open Go Go.RowKit
end Go.Cold
namespace Go.Cold
open Go Go.RowKit
def unitR (v : Value) : Option (DataW Unit × List MemPlace) := match v with
 | .agg a => if a.size = 0 then some (.agg [], []) else none
 | _ => none
def SetV (P : Program) (k e : TypeId) (w : World) (b n : Nat) (s : Int → Bool) : Prop :=
 ∃ D : DataW Unit, w.ownsMap P k unitR b n D ∧ ∀ i, okI i → Maps.has D (.int .i64 i) = s i
section
variable {P : Program} {k e t : TypeId} {w w' : World} {b n : Nat} {s : Int → Bool}
theorem SetV.kept {row : Option Nat} (h : SetV P k e w b n s) (hg : w.grownBy w' row) (hne : some b ≠ row) : SetV P k e w' b n s := by
 obtain ⟨D, h1, h2⟩ := h
 exact ⟨D, h1.kept hg hne, h2⟩
theorem SetV.lt (h : SetV P k e w b n s) : b < w.heap.size := by obtain ⟨D, h1, _⟩ := h; exact h1.lt
theorem SetV.below {B : Nat} (h : SetV P k e w b n s) (hb : Below B w w') (hlt : b < B) : SetV P k e w' b n s := by
 obtain ⟨D, ⟨es, clock, h1, h2⟩, h3⟩ := h
 exact ⟨D, ⟨es, clock, (hb.block b hlt).trans h1, h2⟩, h3⟩
theorem SetV.next (h : SetV P k e w b n s) (hb : Below w.heap.size w w') : SetV P k e w' b n s := h.below hb h.lt
theorem SetV.mono {m : Nat} (h : SetV P k e w b n s) (hm : n ≤ m) : SetV P k e w b m s := by obtain ⟨D, h1, h2⟩ := h; exact ⟨D, h1.mono hm, h2⟩
end
end Go.Cold
namespace Go.Cold
open Go Go.RowKit
instance : RepS Int where
 rdS _ _ n cs := cs = [.int .i64 n] ∧ -9223372036854775808 ≤ n ∧ n ≤ 9223372036854775807
 pos := by show 0 < 1; omega
 lenS h := by rw [h.1]; rfl
 one h u hu := by rw [h.1] at hu; simp at hu; subst hu; rfl
 mono _ _ h := h
 rd_iff := Iff.rfl
end Go.Cold
namespace Go.Cold
open Go Go.RowKit
def inS (L : List Dev) (s : Int → Bool) (n : Int) : Bool := (chainO L n).any fun d => s d.idx
def aboveB (L : List Dev) (i j : Int) : Bool := ((chainO L j).drop 1).any fun d => decide (d.idx = i)
theorem drop_any {L : List Dev} (h : WF L) {d : Dev} (hd : d ∈ L) (s : Int → Bool) : (((chainO L d.idx).drop 1).any fun e => s e.idx) = inS L s d.par := by
 unfold inS
 rw [chainO_cons h hd]; rfl
end Go.Cold
namespace Go.Cold
open Go Go.RowKit
def itB (k : Nat) : ByteArray := ⟨(Lib.itoa (k : Int)).toArray⟩
def partS (p : ByteArray) (k : Nat) : ByteArray := (p ++ ⟨#[112]⟩) ++ itB k
def numGo (p o : ByteArray) : Nat → Nat → Nat
 | 0, _ => 0
 | m + 1, k => if o = partS p k then k else numGo p o m (k + 1)
def numR (p o : ByteArray) : Nat := numGo p o 16 1
def partO (L : List Dev) (n : Int) : Nat := match findD L n with
 | none => 0
 | some d => match findD L d.par with
  | none => 0
  | some p => if d.kind = 2 ∧ p.kind = 2 then numR p.orig d.orig else 0
def parO (L : List Dev) (n : Int) : Int := ((findD L n).getD zeroD).par
def sisB (L : List Dev) (i j : Int) : Bool := decide (partO L i ≠ 0) && decide (partO L j ≠ 0) && decide (i ≠ j) && decide (parO L i = parO L j)
theorem sis_comm (L : List Dev) (i j : Int) : sisB L i j = sisB L j i := by
 unfold sisB
 rw [Bool.eq_iff_iff]
 simp only [Bool.and_eq_true, decide_eq_true_eq]
 exact ⟨fun ⟨⟨⟨a, b⟩, c⟩, d⟩ => ⟨⟨⟨b, a⟩, Ne.symm c⟩, d.symm⟩, fun ⟨⟨⟨a, b⟩, c⟩, d⟩ => ⟨⟨⟨b, a⟩, Ne.symm c⟩, d.symm⟩⟩
theorem sis_self (L : List Dev) (i : Int) : sisB L i i = false := by unfold sisB; simp
def ordR (L : List Dev) (l : List Int) : List Int := idxs (L.filter fun d => l.contains d.idx)
def okBat (L : List Dev) (dirty busy out : List Int) (n : Int) : Bool :=
 !busy.contains n && ((chainO L n).drop 1).all (fun u => !dirty.contains u.idx && !busy.contains u.idx) && busy.all (fun b => !sisB L n b) && out.all (fun b => !sisB L n b)
def batR (L : List Dev) (dirty busy : List Int) : List Int → List Int → List Int
 | [], out => out
 | n :: r, out => if okBat L dirty busy out n then batR L dirty busy r (out ++ [n]) else batR L dirty busy r out
theorem ord_nodup {L : List Dev} (h : WF L) (l : List Int) : (ordR L l).Nodup := h.uniq.sublist ((List.filter_sublist (l := L)).map _)
end Go.Cold
namespace Go.Cold
open Go Go.RowKit
theorem chain_left {A B : List Dev} (h : WF (A ++ B)) : ∀ (k : Nat) (n : Int), n ∈ idxs A → ∀ u ∈ chainL (A ++ B) k n, u ∈ A
 | 0, n, _, u, hu => by rw [chainL] at hu; cases hu
 | k + 1, n, hn, u, hu => by
  obtain ⟨e, he, rfl⟩ := List.mem_map.1 hn
  rw [chainL, find_of h.uniq (List.mem_append_left _ he)] at hu
  rcases List.mem_cons.1 hu with rfl | hu
  · exact he
  ·
   have hw := h.left
   rcases parA_mem hw.par he with h1 | h1 | h1
   ·
    exfalso
    rw [h1] at hu
    have hz := zero_out h
    cases k with
    | zero => rw [chainL] at hu; cases hu
    | succ k => rw [chainL, find_none.2 hz] at hu; cases hu
   · cases h1
   · exact chain_left h k e.par h1 u hu
theorem anc_left {A B : List Dev} {d : Dev} (h : WF (A ++ d :: B)) : ∀ u ∈ (chainO (A ++ d :: B) d.idx).drop 1, u ∈ A := by
 intro u hu
 rw [chainO_cons h (List.mem_append_right _ List.mem_cons_self)] at hu
 have hu2 : u ∈ chainO (A ++ d :: B) d.par := hu
 rcases (parA_append.1 h.par).2.1 with h1 | h1
 · rw [h1, chainO_none (zero_out h)] at hu2; cases hu2
 ·
  rw [List.append_nil] at h1
  exact chain_left h _ _ h1 u hu2
theorem bat_mono (L : List Dev) (dirty busy : List Int) : ∀ (l out : List Int), ∃ more, batR L dirty busy l out = out ++ more
 | [], out => ⟨[], by rw [batR, List.append_nil]⟩
 | n :: r, out => by
  rw [batR]
  split
  ·
   obtain ⟨m, hm⟩ := bat_mono L dirty busy r (out ++ [n])
   exact ⟨n :: m, by rw [hm, List.append_assoc]; rfl⟩
  · exact bat_mono L dirty busy r out
theorem bat_progress {L : List Dev} (h : WF L) (dirty : List Int) : (batR L dirty [] (ordR L dirty) [] = []) ↔ ordR L dirty = [] := by
 constructor
 ·
  intro hb
  rcases hl : ordR L dirty with _ | ⟨n, r⟩
  · rfl
  ·
   exfalso
   unfold ordR idxs at hl
   rcases hf : L.filter (fun d => dirty.contains d.idx) with _ | ⟨d, s⟩
   · rw [hf] at hl; cases hl
   ·
    rw [hf, List.map_cons] at hl
    injection hl with h1 h2
    obtain ⟨A, B, hL, hA, hd, -⟩ := List.filter_eq_cons_iff.1 hf
    have hok : okBat L dirty [] [] n = true := by
     unfold okBat
     have hch : ((chainO L n).drop 1).all (fun u => !dirty.contains u.idx && !([] : List Int).contains u.idx) = true := by
      rw [List.all_eq_true]
      intro u hu
      rw [← h1, hL] at hu
      have hua := anc_left (by rw [← hL]; exact h) u hu
      have := hA u hua
      cases hq : dirty.contains u.idx with
      | true => rw [hq] at this; exact absurd rfl this
      | false => rfl
     rw [hch]; rfl
    unfold ordR idxs at hb
    rw [hf, List.map_cons, h1, batR, hok, if_pos rfl] at hb
    obtain ⟨m, hm⟩ := bat_mono L dirty [] (s.map (·.idx)) ([] ++ [n])
    rw [hm] at hb
    cases hb
 ·
  intro hb
  rw [hb]; rfl
def BatOk (L : List Dev) (dirty busy : List Int) (n : Int) : Prop := n ∉ busy ∧ (∀ u ∈ (chainO L n).drop 1, u.idx ∉ dirty ∧ u.idx ∉ busy) ∧ ∀ b ∈ busy, sisB L n b = false
theorem okBat_iff {L : List Dev} {dirty busy out : List Int} {n : Int} : okBat L dirty busy out n = true ↔ BatOk L dirty busy n ∧ ∀ b ∈ out, sisB L n b = false := by
 unfold okBat BatOk
 simp only [Bool.and_eq_true, List.all_eq_true, Bool.not_eq_true']
 have hc : ∀ (l : List Int) (m : Int), l.contains m = false ↔ m ∉ l := fun l m => by
  rw [← Bool.not_eq_true, List.contains_iff_mem]
 simp only [hc]
 exact ⟨fun ⟨⟨⟨a, b⟩, c⟩, d⟩ => ⟨⟨a, b, c⟩, d⟩, fun ⟨⟨a, b, c⟩, d⟩ => ⟨⟨⟨a, b⟩, c⟩, d⟩⟩
theorem bat_facts (L : List Dev) (dirty busy : List Int) : ∀ (l out : List Int), (∀ n ∈ out, BatOk L dirty busy n) → (out.Pairwise fun a b => sisB L a b = false) →
  (∀ n ∈ batR L dirty busy l out, (n ∈ l ∨ n ∈ out) ∧ BatOk L dirty busy n) ∧ ((batR L dirty busy l out).Pairwise fun a b => sisB L a b = false) ∧
  (∀ n ∈ l, BatOk L dirty busy n → (∀ b ∈ batR L dirty busy l out, b ≠ n → sisB L n b = false) → n ∈ batR L dirty busy l out)
 | [], out, h1, h2 => ⟨fun n hn => ⟨.inr hn, h1 n hn⟩, h2, fun n hn => by cases hn⟩
 | n :: r, out, h1, h2 => by
  rw [batR]
  cases hk : okBat L dirty busy out n with
  | true =>
   rw [if_pos rfl]
   obtain ⟨hb, hs⟩ := okBat_iff.1 hk
   obtain ⟨q1, q2, q3⟩ := bat_facts L dirty busy r (out ++ [n]) (fun m hm => by
    rcases List.mem_append.1 hm with hm | hm
    · exact h1 m hm
    · rw [List.mem_singleton.1 hm]; exact hb) (List.pairwise_append.2 ⟨h2, List.pairwise_singleton _ _, fun a ha b hb2 => by rw [List.mem_singleton.1 hb2, sis_comm]; exact hs a ha⟩)
   refine ⟨fun m hm => ?_, q2, fun m hm hmb hms => ?_⟩
   ·
    obtain ⟨h3, h4⟩ := q1 m hm
    refine ⟨?_, h4⟩
    rcases h3 with h3 | h3
    · exact .inl (List.mem_cons_of_mem _ h3)
    ·
     rcases List.mem_append.1 h3 with h3 | h3
     · exact .inr h3
     · rw [List.mem_singleton.1 h3]; exact .inl List.mem_cons_self
   ·
    rcases List.mem_cons.1 hm with rfl | hm
    ·
     obtain ⟨more, hmo⟩ := bat_mono L dirty busy r (out ++ [m])
     rw [hmo]
     exact List.mem_append_left _ (List.mem_append_right _ (List.mem_singleton.2 rfl))
    · exact q3 m hm hmb hms
  | false =>
   rw [if_neg (by decide)]
   obtain ⟨q1, q2, q3⟩ := bat_facts L dirty busy r out h1 h2
   refine ⟨fun m hm => ?_, q2, fun m hm hmb hms => ?_⟩
   ·
    obtain ⟨h3, h4⟩ := q1 m hm
    exact ⟨h3.imp (List.mem_cons_of_mem _) id, h4⟩
   ·
    rcases List.mem_cons.1 hm with rfl | hm
    ·
     exfalso
     obtain ⟨more, hmo⟩ := bat_mono L dirty busy r out
     have : okBat L dirty busy out m = true := okBat_iff.2 ⟨hmb, fun b hb => by
      by_cases he : b = m
      · subst he; exact sis_self L b
      · exact hms b (by rw [hmo]; exact List.mem_append_left _ hb) he⟩
     rw [hk] at this; cases this
    · exact q3 m hm hmb hms
theorem ord_iff {L : List Dev} {l : List Int} {n : Int} : n ∈ ordR L l ↔ n ∈ idxs L ∧ n ∈ l := by
 constructor
 ·
  intro h
  obtain ⟨d, hd, rfl⟩ := List.mem_map.1 h
  obtain ⟨h1, h2⟩ := List.mem_filter.1 hd
  exact ⟨mem_idxs h1, List.contains_iff_mem.1 h2⟩
 ·
  rintro ⟨h1, h2⟩
  obtain ⟨d, hd, rfl⟩ := List.mem_map.1 h1
  exact mem_idxs (List.mem_filter.2 ⟨hd, List.contains_iff_mem.2 h2⟩)
def batch (L : List Dev) (dirty busy : List Int) : List Int := batR L dirty busy (ordR L dirty) []
theorem batch_iff {L : List Dev} (h : WF L) (dirty busy : List Int) {n : Int} (hn : n ∈ idxs L) :
  (n ∈ batch L dirty busy → n ∈ dirty ∧ BatOk L dirty busy n) ∧ (n ∈ dirty → BatOk L dirty busy n → (∀ b ∈ batch L dirty busy, b ≠ n → sisB L n b = false) → n ∈ batch L dirty busy) := by
 obtain ⟨q1, q2, q3⟩ := bat_facts L dirty busy (ordR L dirty) [] (fun _ h => by cases h) List.Pairwise.nil
 refine ⟨fun hb => ?_, fun hd hb hs => q3 n (ord_iff.2 ⟨hn, hd⟩) hb hs⟩
 obtain ⟨h1, h2⟩ := q1 n hb
 rcases h1 with h1 | h1
 · exact ⟨(ord_iff.1 h1).2, h2⟩
 · cases h1
end Go.Cold
namespace Go.Cold
open Go Go.RowKit
def restB (batch dirty : List Int) : List Int := dirty.filter fun n => !batch.contains n
structure EndAt (L : List Dev) (all taken dirty : List Int) : Prop where
 tree : ∀ n ∈ dirty, n ∈ idxs L
 nodup : dirty.Nodup
 apart : ∀ n ∈ taken, n ∉ dirty
 tnodup : taken.Nodup
 size : taken.length + dirty.length = all.length
 later : ∀ n ∈ taken, ∀ m ∈ dirty, aboveB L m n = false
 order : taken.Pairwise fun a b => aboveB L b a = false
theorem EndAt.start {L : List Dev} {all : List Int} (h1 : ∀ n ∈ all, n ∈ idxs L) (h2 : all.Nodup) : EndAt L all [] all :=
 ⟨h1, h2, fun _ h => by (cases h), List.nodup_nil, by simp, fun _ h => by (cases h), List.Pairwise.nil⟩
theorem bat_sub (L : List Dev) (dirty busy : List Int) : ∀ (l out : List Int), ∃ more, batR L dirty busy l out = out ++ more ∧ more.Sublist l
 | [], out => ⟨[], by rw [batR, List.append_nil], List.Sublist.refl _⟩
 | n :: r, out => by
  rw [batR]
  split
  ·
   obtain ⟨m, hm, hs⟩ := bat_sub L dirty busy r (out ++ [n])
   exact ⟨n :: m, by rw [hm, List.append_assoc]; rfl, hs.cons_cons n⟩
  ·
   obtain ⟨m, hm, hs⟩ := bat_sub L dirty busy r out
   exact ⟨m, hm, hs.cons n⟩
theorem batch_nodup {L : List Dev} (h : WF L) (dirty busy : List Int) : (batch L dirty busy).Nodup := by
 obtain ⟨m, hm, hs⟩ := bat_sub L dirty busy (ordR L dirty) []
 unfold batch
 rw [hm, List.nil_append]
 exact (ord_nodup h dirty).sublist hs
theorem filter_size {l b : List Int} (hl : l.Nodup) (hb : b.Nodup) (hs : ∀ n ∈ b, n ∈ l) : b.length + (restB b l).length = l.length := by
 have h1 : (l.filter fun n => b.contains n).length + (restB b l).length = l.length := by
  unfold restB
  have := List.length_eq_countP_add_countP (fun n => b.contains n) (l := l)
  rw [List.countP_eq_length_filter, List.countP_eq_length_filter] at this
  have e : (fun n : Int => decide (¬ b.contains n = true)) = fun n => !b.contains n := funext fun n => by cases b.contains n <;> rfl
  rw [e] at this
  omega
 have h2 : (l.filter fun n => b.contains n).length = b.length := by
  have p : (l.filter fun n => b.contains n).Perm b := by
   refine (List.perm_ext_iff_of_nodup (hl.sublist List.filter_sublist) hb).2 fun n => ?_
   rw [List.mem_filter, List.contains_iff_mem]
   exact ⟨fun h => h.2, fun h => ⟨hs n h, h⟩⟩
  exact p.length_eq
 omega
theorem EndAt.next {L : List Dev} (h : WF L) {all taken dirty : List Int} (he : EndAt L all taken dirty) : EndAt L all (taken ++ batch L dirty []) (restB (batch L dirty []) dirty) := by
 have hb : ∀ n ∈ batch L dirty [], n ∈ dirty ∧ BatOk L dirty [] n := fun n hn => by
  have h1 : n ∈ idxs L := by
   obtain ⟨q1, -, -⟩ := bat_facts L dirty [] (ordR L dirty) [] (fun _ h => by cases h) List.Pairwise.nil
   rcases (q1 n hn).1 with h2 | h2
   · exact (ord_iff.1 h2).1
   · cases h2
  exact (batch_iff h dirty [] h1).1 hn
 have hsub : ∀ n ∈ restB (batch L dirty []) dirty, n ∈ dirty ∧ n ∉ batch L dirty [] := fun n hn => by
  obtain ⟨h1, h2⟩ := List.mem_filter.1 hn
  exact ⟨h1, fun h3 => by rw [List.contains_iff_mem.2 h3] at h2; cases h2⟩
 have habove : ∀ n ∈ batch L dirty [], ∀ m ∈ dirty, aboveB L m n = false := fun n hn m hm => by
  cases ha : aboveB L m n with
  | false => rfl
  | true =>
   exfalso
   obtain ⟨e, he2, hi⟩ := List.any_eq_true.1 ha
   exact ((hb n hn).2.2.1 e he2).1 ((of_decide_eq_true hi) ▸ hm)
 refine ⟨fun n hn => he.tree n (hsub n hn).1, he.nodup.sublist List.filter_sublist, fun n hn hd => ?_, ?_, ?_, fun n hn m hm => ?_, ?_⟩
 ·
  rcases List.mem_append.1 hn with hn | hn
  · exact he.apart n hn (hsub n hd).1
  · exact (hsub n hd).2 hn
 ·
  refine List.nodup_append.2 ⟨he.tnodup, batch_nodup h _ _, fun a ha b hb2 e => ?_⟩
  subst e
  exact he.apart a ha (hb a hb2).1
 ·
  rw [List.length_append]
  have := filter_size he.nodup (batch_nodup h dirty []) (fun n hn => (hb n hn).1)
  have := he.size
  omega
 ·
  rcases List.mem_append.1 hn with hn | hn
  · exact he.later n hn m (hsub m hm).1
  · exact habove n hn m (hsub m hm).1
 ·
  refine List.pairwise_append.2 ⟨he.order, ?_, fun a ha b hb2 => he.later a ha b (hb b hb2).1⟩
  exact List.Pairwise.imp_of_mem (fun {a b} ha hb2 _ => habove a ha b (hb b hb2).1) (batch_nodup h dirty [])
theorem EndAt.more {L : List Dev} (h : WF L) {all taken dirty : List Int} (he : EndAt L all taken dirty) (hd : dirty ≠ []) : batch L dirty [] ≠ [] ∧ (restB (batch L dirty []) dirty).length < dirty.length := by
 have h1 : batch L dirty [] ≠ [] := fun hb => by
  have h2 := (bat_progress h dirty).1 hb
  rcases dirty with _ | ⟨n, r⟩
  · exact hd rfl
  ·
   have h3 : n ∈ ordR L (n :: r) := ord_iff.2 ⟨he.tree n List.mem_cons_self, List.mem_cons_self⟩
   rw [h2] at h3; cases h3
 refine ⟨h1, ?_⟩
 have hb : ∀ n ∈ batch L dirty [], n ∈ dirty := fun n hn => by
  obtain ⟨q1, -, -⟩ := bat_facts L dirty [] (ordR L dirty) [] (fun _ h => by cases h) List.Pairwise.nil
  rcases (q1 n hn).1 with h2 | h2
  · exact (ord_iff.1 h2).2
  · cases h2
 have := filter_size he.nodup (batch_nodup h dirty []) hb
 have : 0 < (batch L dirty []).length := List.length_pos_iff.2 h1
 omega
end Go.Cold
namespace Go.Cold
open Go Go.RowKit
end Go.Cold
namespace Go.Cold
open Go Go.RowKit
end Go.Cold
namespace Go.Cold
open Go Go.RowKit
end Go.Cold
namespace Go.Proofs.YtjpoljlgkgmdkaaGreatDoor
open Go.RowKit Go.Cold
end Go.Proofs.YtjpoljlgkgmdkaaGreatDoor
namespace Go.Cold
open Go Go.RowKit
end Go.Cold
namespace Go.Proofs.YtjpoljlgkgmdkaaGreatDoor
open Go.RowKit Go.Cold
def ifaceW (ev : Value) : Prop := ev = .nilIface ∨ ∃ te pe, ev = .iface te pe
def OkA (w : World) : Prop := (∃ ev, w.cell? ⟨2, 0, none⟩ = some ev ∧ ifaceW ev) ∧ (∃ ev, w.cell? ⟨3, 0, none⟩ = some ev ∧ ifaceW ev)
theorem OkA.lt {w : World} (h : OkA w) : 2 < w.heap.size ∧ 3 < w.heap.size := by
 obtain ⟨⟨e1, h1, _⟩, ⟨e2, h2, _⟩⟩ := h
 exact ⟨block_lt_of_cell h1, block_lt_of_cell h2⟩
theorem OkA.next {w w' : World} (h : OkA w) (hb : Below w.heap.size w w') : OkA w' := by
 obtain ⟨l1, l2⟩ := h.lt
 obtain ⟨⟨e1, h1, q1⟩, ⟨e2, h2, q2⟩⟩ := h
 exact ⟨⟨e1, (hb.cell (p := ⟨_, 0, none⟩) (by exact l1)).trans h1, q1⟩, ⟨e2, (hb.cell (p := ⟨_, 0, none⟩) (by exact l2)).trans h2, q2⟩⟩
end Go.Proofs.YtjpoljlgkgmdkaaGreatDoor
namespace Go.Cold
open Go Go.RowKit
end Go.Cold
namespace Go.Proofs.YtjpoljlgkgmdkaaGreatDoor
open Go.ChangeShapes Go.WideShapes Go.ChangeAt Go.RowKit

theorem own : ownKnob Tryz.prog.godebug = none := by kernel_rfl

section
variable {H : Type} {enc : TypeId × Value → H} {P : Program}
theorem post_of_below {f : Func} {s : ChangeSpec} {apart fresh handsOn again : Bool} {W W' : World} {args : Array Value} {v : Value} {ds gs : List (DataW H)} {before pa pv : List MemPlace}
  (hW : DataW.Whole enc P f.params.toList s.vars apart W args.toList ds gs before)
  (hres : ∀ (b : Nat) (sp : Nat → Bool) (hd : Bool), DataW.TrodAll enc P W' b sp hd f.resultTypes.toList (v.resultList f.resultTypes.size) (s.fn H (ds ++ gs)).results [])
  (hargs : ∀ sp : Nat → Bool, (∀ p ∈ before, sp p.block = true) → DataW.TrodAll enc P W' 0 sp true f.params.toList args.toList (s.fn H (ds ++ gs)).args pa)
  (hvars : ∀ sp : Nat → Bool, (∀ p ∈ before, sp p.block = true) → DataW.TrodVars enc P W' sp s.vars (s.fn H (ds ++ gs)).vars pv)
  (hps : before = pa ++ pv) (hb : Below W.heap.size W W')
  (hok : ∀ (j : Nat) (t : TypeId) (r : Value), f.resultTypes[j]? = some t → (v.resultList f.resultTypes.size)[j]? = some r → Value.okWide P W' .any 0 t r) :
  s.post enc P f apart fresh handsOn again W args v W' := by
 have hlt : ∀ p ∈ before, p.block < W.heap.size := fun p hp => hW.lt p hp
 have hold : ∀ p ∈ before, (fun b => decide (b < W.heap.size)) p.block = true := fun p hp => by simpa using hlt p hp
 refine ⟨ds, gs, before, [], pa, pv, hW, hres _ _ _, hargs _ hold, hvars _ hold, World.keptBut_mono (fun p hp => ⟨hp, ?_⟩) (hb.frame (· ∈ before)), fun _ => ?_⟩
 ·
  rw [hps, List.mem_append] at hp
  exact Or.inr hp
 ·
  obtain ⟨_, _, _, _, _, hz, hn⟩ := hW
  refine ⟨hok, _, _, ([] ++ pa) ++ pv, ⟨[] ++ pa, pv, trodAll_append (hargs _ (fun _ _ => rfl)) (hres _ _ _), hvars _ (fun _ _ => rfl), rfl, ?_, ?_⟩, ?_⟩
  ·
   intro b off hp
   have hin : MemPlace.cell b off ∈ before := by rw [hps]; simpa using hp
   rw [hb.frozen (hlt _ hin)]
   exact hz b off hin
  ·
   intro ha
   have := hn ha
   rw [hps] at this
   simpa using this
  ·
   intro p hp _
   rw [hps]
   simpa using hp
theorem witness_row_shaped {C : Checked} {os : Os} {f : FuncId} {fn : Func} {s : OpenSpec} {conds : List PathCond} {apart : Bool} {laid : List (String × DataW Unit)} (modest : Bool) (w0 : World) (args : Array Value) (hos : w0.os = os)
  (hsh : (w0.forCall (fun _ _ => 0) ⟨#[], args, []⟩).Shaped C.prog)
  (hok : Input.okWideB C.prog (w0.forCall (fun _ _ => 0) ⟨#[], args, []⟩) f ⟨#[], args, []⟩ = true)
  (hrow : s.preRow enc C.prog fn conds apart laid (w0.forCall (fun _ _ => 0) ⟨#[], args, []⟩).memory args) :
  ∃ (w : World) (tape : Tape) (i : Input), w.os = os ∧ (w.forCall tape i).Shaped C.prog ∧ i.vars = [] ∧ Input.okWide C.prog (w.forCall tape i) .any w.heap.size f i ∧
   s.preRow enc C.prog fn conds apart laid (w.forCall tape i).memory i.args ∧ ({ modest := modest } : Assume).holds C.prog (lone (Frame.enter C.prog f i.args .normal) [] (w.forCall tape i)) :=
 ⟨w0, fun _ _ => 0, ⟨#[], args, []⟩, hos, hsh, rfl, (Input.okWide_of_okWideB hok).2, hrow, by
  simp only [Assume.holds]
  exact ⟨by simp, by simp, fun _ => Modest.zero, by simp, by simp⟩⟩
end

section
variable {H : Type} {enc : TypeId × Value → H} {P : Program}
theorem trodAll_stays (hl : laidOutB P = true) {W W' : World} {sp' : Nat → Bool} : ∀ {ts : List TypeId} {vs : List Value} {ds : List (DataW H)} {ps : List MemPlace},
  (ts.all fun t => P.readableRec t && decide (t < P.types.size)) = true → DataW.TrodAll enc P W 0 (fun _ => true) true ts vs ds ps → (∀ p ∈ ps, W.sameAt W' p) → (∀ p ∈ ps, sp' p.block = true) → DataW.TrodAll enc P W' 0 sp' true ts vs ds ps
 | [], _, _, _, _, h, _, _ => by
  obtain ⟨rfl, rfl, rfl⟩ := trodAll_nil h
  exact trodAll_mk0
 | t :: ts, _, _, _, hr, h, hs, hsp => by
  obtain ⟨v, vs, d, ds, p, q, rfl, rfl, rfl, h0, h1⟩ := trodAll_cons h
  simp only [List.all_cons, Bool.and_eq_true, decide_eq_true_eq] at hr
  exact trodAll_cons_mk (WideElems.Trod_stays hl hr.1.1 hr.1.2 h0 (fun x hx => hs x (List.mem_append_left _ hx)) (fun x hx => hsp x (List.mem_append_left _ hx)))
   (trodAll_stays hl (by simpa using hr.2) h1 (fun x hx => hs x (List.mem_append_right _ hx)) (fun x hx => hsp x (List.mem_append_right _ hx)))
theorem trodAll_length {W : World} {sp : Nat → Bool} : ∀ {ts : List TypeId} {vs : List Value} {ds : List (DataW H)} {ps : List MemPlace}, DataW.TrodAll enc P W 0 sp true ts vs ds ps → ds.length = ts.length
 | [], _, _, _, h => by obtain ⟨_, rfl, _⟩ := trodAll_nil h; rfl
 | t :: ts, _, _, _, h => by
  obtain ⟨v, vs, d, ds, p, q, rfl, rfl, rfl, _, h1⟩ := trodAll_cons h
  have := trodAll_length h1
  simpa using this
theorem open_strs {W : World} {base : Nat} {t e : TypeId} {v : Value} {d : DataW H} {ps : List MemPlace} (ht : P.underlying t = some (.slice e)) (he : P.underlying e = some .string) (hc : P.cellsOf e = 1)
  (hok : Value.okWide P W .any base t v) (h : DataW.Trod enc P W 0 (fun _ => true) true t v d ps) (hlt : ∀ p ∈ ps, p.block < W.heap.size) :
  ∃ A c, ∃ xs : List ByteArray, v = .slice A xs.length c ∧ Cold.Sl W W.heap.size A c xs := by
 obtain ⟨a0, len, cap, rfl⟩ := okWide_slice ht hok
 obtain ⟨fuel, hf⟩ := h
 rcases open_strings ht he hc hf with ⟨hcs, hx⟩ | ⟨a, len', cap', ss, hcs, _, hl, hm, hlen, hx, hcell, hws⟩
 ·
  simp [Value.cells] at hcs
  obtain ⟨rfl, rfl, rfl⟩ := hcs
  exact ⟨none, 0, [], rfl, Cold.Sl.nil_⟩
 ·
  simp [Value.cells] at hcs
  obtain ⟨rfl, rfl, rfl⟩ := hcs
  simp only [if_true] at hlen
  simp only [Prod.mk.injEq] at hx
  obtain ⟨_, rfl⟩ := hx
  have htl : (ss.take len).length = len := by rw [List.length_take]; omega
  refine ⟨some a, cap, ss.take len, by rw [htl], ⟨by rw [htl]; exact hl, hm, fun h0 => ?_⟩⟩
  rw [htl] at h0
  have hb : a.block < W.heap.size := hlt (.cell a.block (a.off + 0)) (MemPlace.mem_row.2 ⟨0, by omega, rfl⟩)
  have h00 := hcell 0 (by omega)
  have hspot : a.spot = none := by
   have e : a.add 0 = a := by simp [Addr.add]
   rw [e] at h00
   cases hs : a.spot with
   | none => rfl
   | some z => simp [World.cell?, hs] at h00; split at h00 <;> simp_all
  obtain ⟨b, o, sp⟩ := a
  simp only at hspot hb
  subst hspot
  refine ⟨b, o, rfl, hb, fun i x hx => ?_⟩
  rw [List.getElem?_take] at hx
  split at hx
  case isFalse => cases hx
  have hi : i < ss.length := (List.getElem?_eq_some_iff.1 hx).1
  refine ⟨[.string x], ⟨rfl, hws x (List.mem_of_getElem? hx)⟩, fun j u hu => ?_⟩
  have hj : j = 0 := by
   rcases j with _ | j
   · rfl
   · simp at hu
  subst hj
  simp at hu
  subst hu
  have h1 := hcell i hi
  rw [Cold.add_mk] at h1
  have h2 : ss.getD i ByteArray.empty = x := by simp [List.getD, hx]
  rw [h2] at h1
  simpa [Cold.Rep.size] using h1
end

theorem gES : Tryz.prog.globalNamed "strconv.ErrSyntax" = some 2 := by kernel_rfl
theorem gESType : (Tryz.prog.globals[2]?).map (·.type) = some 114 := by kernel_rfl
theorem gER : Tryz.prog.globalNamed "strconv.ErrRange" = some 3 := by kernel_rfl
theorem gERType : (Tryz.prog.globals[3]?).map (·.type) = some 114 := by kernel_rfl
theorem rowErr (u : TypeId) (h : Tryz.prog.typeName? 3 u = some "*errors.errorString") : u = 224 :=
 typeName_ptr_named (nm := "errors.errorString") (by rw [show "*" ++ "errors.errorString" = "*errors.errorString" by decide]; kernel_rfl) (by kernel_rfl) (by decide) u (by rw [show "*" ++ "errors.errorString" = "*errors.errorString" by decide]; exact h)
theorem oka_of_laid {W : World} (h : laidMetH Tryz.prog [("math/bits.deBruijn32tab", Rows.laid_math_bits_deBruijn32tab), ("math/bits.deBruijn64tab", Rows.laid_math_bits_deBruijn64tab), ("internal/strconv.uint64pow10", Rows.laid_internal_strconv_uint64pow10), ("unicode/utf8.acceptRanges", Rows.laid_unicode_utf8_acceptRanges), ("strconv.ErrRange", Rows.laid_strconv_ErrRange), ("strconv.ErrSyntax", Rows.laid_strconv_ErrSyntax), ("unicode.CaseRanges", Rows.laid_unicode_CaseRanges), ("unicode/utf8.first", Rows.laid_unicode_utf8_first)] W) : OkA W := by
 have h0 : laidMet Tryz.prog [("math/bits.deBruijn32tab", Rows.laid_math_bits_deBruijn32tab), ("math/bits.deBruijn64tab", Rows.laid_math_bits_deBruijn64tab), ("internal/strconv.uint64pow10", Rows.laid_internal_strconv_uint64pow10), ("unicode/utf8.acceptRanges", Rows.laid_unicode_utf8_acceptRanges), ("strconv.ErrRange", Rows.laid_strconv_ErrRange), ("strconv.ErrSyntax", Rows.laid_strconv_ErrSyntax), ("unicode.CaseRanges", Rows.laid_unicode_CaseRanges), ("unicode/utf8.first", Rows.laid_unicode_utf8_first)] W := h
 have h2 := h0.tail.tail.tail.tail
 obtain ⟨a1, s1, hv1, -, -, -⟩ := laid_sentinel h2 gER gERType Tryz.underlying114 rowErr Tryz.underlying224 Tryz.underlying226 rfl rfl Tryz.underlying9 (by kernel_rfl) (by kernel_rfl)
 obtain ⟨a0, s0, hv0, -, -, -⟩ := laid_sentinel h2.tail gES gESType Tryz.underlying114 rowErr Tryz.underlying224 Tryz.underlying226 rfl rfl Tryz.underlying9 (by kernel_rfl) (by kernel_rfl)
 exact ⟨⟨_, by have h0 := World.var?_cell gES hv0 0; simpa using h0, .inr ⟨_, _, rfl⟩⟩, ⟨_, by have h0 := World.var?_cell gER hv1 0; simpa using h0, .inr ⟨_, _, rfl⟩⟩⟩

theorem laidOut : laidOutB Tryz.prog = true := by kernel_rfl

set_option maxRecDepth 100000 in
theorem law_lifted {f : FuncId} {fn : Func} {s : ChangeSpec} {laid : List (String × DataW Unit)} (os : Os) (started : os.Started) (H : Type) (enc : TypeId × Value → H) (F : Stop.Interp)
  (noInit : Tryz.prog.inits.idxOf? f = none) (hfn : Tryz.prog.funcs[f]? = some fn) (args0 : Array Value)
  (hsh0 : ((World.laidAll Tryz.prog os laid).forCall (fun _ _ => 0) ⟨#[], args0, []⟩).Shaped Tryz.prog)
  (hok0 : Input.okWideB Tryz.prog ((World.laidAll Tryz.prog os laid).forCall (fun _ _ => 0) ⟨#[], args0, []⟩) f ⟨#[], args0, []⟩ = true)
  (hrow0 : (OpenSpec.ofChange s).preRow enc Tryz.prog fn [] false laid ((World.laidAll Tryz.prog os laid).forCall (fun _ _ => 0) ⟨#[], args0, []⟩).memory args0)
  (hvars : s.vars = []) (hres : fn.resultTypes = #[4])
  (hs : ∀ ds : List (DataW H), ds.length = fn.params.toList.length → s.fn H (ds ++ []) = { results := [.lit (.bool true)], args := ds })
  (hr : (fn.params.toList.all fun t => Tryz.prog.readableRec t && decide (t < Tryz.prog.types.size)) = true)
  (law : ∀ (W : World) (base : Nat) (args : Array Value) (ds : List (DataW H)) (ps : List MemPlace),
   (∀ (j : Nat) t v, fn.params[j]? = some t → args[j]? = some v → Value.okWide Tryz.prog W .any base t v) →
   DataW.TrodAll enc Tryz.prog W 0 (fun _ => true) true fn.params.toList args.toList ds ps → (∀ p ∈ ps, p.block < W.heap.size) →
   (DataW.weightsEach Tryz.checked.prog (fn.params.toList ++ (OpenSpec.ofChange s).bare.plain.varTypes Tryz.checked.prog) (ds ++ [])).all (· ≤ reachBytes) = true → W.ShapedOpen Tryz.checked.prog → laidMetH Tryz.prog laid W →
   Calls Tryz.prog f args W fun e W' => e = .returned (.bool true) ∧ Below W.heap.size W W') :
  ReturnsInHanded {} Tryz.checked os f .any ((OpenSpec.ofChange s).preRow enc Tryz.prog fn [] false laid) (((OpenSpec.ofChange s).at F).post enc Tryz.prog fn false true false false) := by
 refine returnsInHanded_of_row (C := Tryz.checked) (s := OpenSpec.ofChange s) own started noInit hfn
  (witness_row_shaped (enc := enc) (C := Tryz.checked) false (World.laidAll Tryz.prog os laid) args0 (World.laidAll_os _ _ _) hsh0 hok0 hrow0) ?_
 intro W base args ds gs before hval hW _ _ hz hlaid hsh _
 have hlt : ∀ p ∈ before, p.block < W.heap.size := fun p hp => hW.lt p hp
 have hW' := hW
 obtain ⟨p, q, hA0, hV, rfl, hfz, hnd⟩ := hW
 have hA : DataW.TrodAll enc Tryz.prog W 0 (fun _ => true) true fn.params.toList args.toList ds p := hA0
 have hv : (OpenSpec.ofChange s).vars = [] := hvars
 rw [hv] at hV
 obtain ⟨rfl, rfl⟩ := trodVars_none hV
 simp only [List.append_nil] at hW' hlt
 have hlen : ds.length = fn.params.toList.length := trodAll_length hA
 refine (law W base args ds p hval hA hlt hz hsh hlaid).mono fun e W' ⟨he, hb⟩ => ?_
 subst he
 have e1 := hs ds hlen
 have hrt : fn.resultTypes.toList = [4] := by rw [hres]
 have hrl : (Value.bool true).resultList fn.resultTypes.size = [.bool true] := by rw [hres]; rfl
 refine ⟨_, rfl, post_of_below (s := s) (pa := p) (pv := []) hW' (fun _ _ _ => ?_) (fun sp hsp => ?_) (fun _ _ => ?_) (by simp) hb ?_⟩
 · rw [hrt, hrl, e1]; exact trodAll_mk1 (shut_bool Tryz.underlying4 _)
 · rw [e1]; exact trodAll_stays laidOut hr hA (fun x hx => hb.same (hlt x hx)) (fun x hx => hsp x hx)
 · rw [e1, hvars]; rfl
 ·
  intro j t r hj hr'
  rw [hres] at hj
  rw [hrl] at hr'
  rcases j with _ | j
  ·
   simp at hj hr'
   subst hj; subst hr'
   exact okWide_bool_mk Tryz.underlying4 _
  · simp at hr'

end Go.Proofs.YtjpoljlgkgmdkaaGreatDoor
namespace Go.Proofs.YtjpoljlgkgmdkaaGreatDoor
open Go.ChangeShapes Go.WideShapes Go.ChangeAt Go.RowKit
section
variable {H : Type} {enc : TypeId × Value → H} {P : Program}
theorem open_nums {W : World} {base : Nat} {t e : TypeId} {v : Value} {d : DataW H} {ps : List MemPlace} (ht : P.underlying t = some (.slice e)) (he : P.underlying e = some (.int .i64)) (hc : P.cellsOf e = 1)
  (hok : Value.okWide P W .any base t v) (h : DataW.Trod enc P W 0 (fun _ => true) true t v d ps) (hlt : ∀ p ∈ ps, p.block < W.heap.size) :
  ∃ A c, ∃ xs : List Int, v = .slice A xs.length c ∧ Cold.Sl W W.heap.size A c xs := by
 obtain ⟨a0, len, cap, rfl⟩ := okWide_slice ht hok
 obtain ⟨fuel, hf⟩ := h
 rcases open_ints ht he hc hf with ⟨hcs, hx⟩ | ⟨a, len', cap', ss, hcs, _, hl, hm, hlen, hx, hcell, hws⟩
 ·
  simp [Value.cells] at hcs
  obtain ⟨rfl, rfl, rfl⟩ := hcs
  exact ⟨none, 0, [], rfl, Cold.Sl.nil_⟩
 ·
  simp [Value.cells] at hcs
  obtain ⟨rfl, rfl, rfl⟩ := hcs
  simp only [if_true] at hlen
  simp only [Prod.mk.injEq] at hx
  obtain ⟨_, rfl⟩ := hx
  have htl : (ss.take len).length = len := by rw [List.length_take]; omega
  refine ⟨some a, cap, ss.take len, by rw [htl], ⟨by rw [htl]; exact hl, hm, fun h0 => ?_⟩⟩
  rw [htl] at h0
  have hb : a.block < W.heap.size := hlt (.cell a.block (a.off + 0)) (MemPlace.mem_row.2 ⟨0, by omega, rfl⟩)
  have h00 := hcell 0 (by omega)
  have hspot : a.spot = none := by
   have e : a.add 0 = a := by simp [Addr.add]
   rw [e] at h00
   cases hs : a.spot with
   | none => rfl
   | some z => simp [World.cell?, hs] at h00; split at h00 <;> simp_all
  obtain ⟨b, o, sp⟩ := a
  simp only at hspot hb
  subst hspot
  refine ⟨b, o, rfl, hb, fun i x hx => ?_⟩
  rw [List.getElem?_take] at hx
  split at hx
  case isFalse => cases hx
  have hi : i < ss.length := (List.getElem?_eq_some_iff.1 hx).1
  have hwf := hws x (List.mem_of_getElem? hx)
  simp only [Lit.wf, Bool.and_eq_true, decide_eq_true_eq] at hwf
  refine ⟨[.int .i64 x], ⟨rfl, hwf.1, hwf.2⟩, fun j u hu => ?_⟩
  have hj : j = 0 := by
   rcases j with _ | j
   · rfl
   · simp at hu
  subst hj
  simp at hu
  subst hu
  have h1 := hcell i hi
  rw [Cold.add_mk] at h1
  have h2 : ss.getD i 0 = x := by simp [List.getD, hx]
  rw [h2] at h1
  simpa [Cold.Rep.size] using h1
end
end Go.Proofs.YtjpoljlgkgmdkaaGreatDoor
namespace Go.Cold
open Go Go.RowKit
end Go.Cold
namespace Go.Proofs.YtjpoljlgkgmdkaaGreatDoor
open Go.RowKit Go.Cold
end Go.Proofs.YtjpoljlgkgmdkaaGreatDoor
