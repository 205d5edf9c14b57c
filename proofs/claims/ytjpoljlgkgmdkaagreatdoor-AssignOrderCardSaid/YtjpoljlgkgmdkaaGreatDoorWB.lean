/-
  The walks of package name's sets of bytes.
-/
import Derived.Test.YtjpoljlgkgmdkaaGreatDoorRows
import Derived.Test.YtjpoljlgkgmdkaaGreatDoorWA
import Derived.Test.YtjpoljlgkgmdkaaGreatDoorWShf
import Derived.Shelf.Abstract
import Derived.Deep.DeepCutAuto
import Derived.Lib.QuietBelow
import Derived.BigQuiet
import Derived.Maps.Views
import Derived.Maps.OwnSet
import Derived.Maps.Keyed
import Derived.Deep.RegionHeld3
import Derived.StillTailTactics
import Derived.RangeFuncNested
import Derived.RangeFuncBound
import Derived.RangeFuncCalls
import Derived.RangeFuncLeaves
import Derived.Shelf.RegionOpen
import Derived.OwnWalkIn
import Derived.TacticsInMore
import Derived.LoopNIn
import Derived.LoopIn
set_option linter.unusedSimpArgs false
set_option linter.unusedVariables false
namespace Go.Proofs.YtjpoljlgkgmdkaaGreatDoor
open Go.RowKit Go.Cold

theorem info_set : (Tryz.prog.info? 76).map (fun i => (i.zero, i.size)) = some (some (.agg (Array.replicate 256 (.bool false))), 256) := by kernel_rfl

theorem plus_any (S : List UInt8) (s : ByteArray) (w : World) (hs : s.size ≤ maxLen) :
  Calls Tryz.prog 46 #[.agg (Lib.setCells S), .string s] w fun e w' => e = .returned (.agg (Lib.setCells (S ++ s.data.toList))) ∧ Below w.heap.size w w' := by
 obtain ⟨hz, hi⟩ := zero_of_info info_set
 unfold maxLen at hs
 rw [← Lib.setCells_nil] at hz
 have HI := Lib.hid hi; clear hi
 go_enter Tryz.func46, Tryz.ntmps46
 go_wp2
 go_loopw [8] (fun i wr => ∃ k : Nat, k ≤ s.size ∧ i = .int .i64 k ∧ Blk wr w.heap.size 76 (Lib.setCells (S ++ s.data.toList.take k)) ∧ Blk wr (w.heap.size + 1) 76 (Lib.setCells []) ∧ Below w.heap.size w wr) (fun i _ => s.size - (intOf i).toNat)
 case atStart =>
  refine ⟨0, Nat.zero_le _, rfl, ?_, ?_, ((Below.refl _ _).alloc (Nat.le_refl _) _).alloc (by simp) _⟩
  · simpa using (Blk.new w 76 (Lib.setCells S)).alloc _
  ·
   have := Blk.new (w.alloc (Obj.cells (Lib.setCells S) 76)) 76 (Lib.setCells [])
   simpa using this
 case round =>
  obtain ⟨k, hk, rfl, h1, h2, hb⟩ := hrel
  by_cases hlt : k < s.size
  ·
   obtain ⟨x, hx⟩ : ∃ x : UInt8, s[k]'hlt = x := ⟨_, rfl⟩
   have hxl : s.data.toList[k]? = some x := by rw [← hx]; exact Lib.data_getElem? s k hlt
   have hx256 : (x.toNat : Int) < 256 := by have := UInt8.toNat_lt x; omega
   have hcell := (h1.cell x.toNat).trans (Lib.setCells_at _ x)
   have hfr := h1.frozen x.toNat
   have HX := Lib.hid hxl; clear hxl
   have H1 := Lib.hid h1; clear h1
   have H2 := Lib.hid h2; clear h2
   go_wp2
   go_roundw
   case rel =>
    refine ⟨k + 1, by omega, by go_num, ?_, H2.out.far (by simp) _, hb.setCell (by simp) _⟩
    rw [List.take_add_one, HX.out, Option.toList, ← List.append_assoc, Lib.setCells_snoc]
    exact H1.out.set_ _ _
   case measure => simp [intOf]; omega
  ·
   rw [List.take_of_length_le (by rw [← Lib.size_eq]; omega)] at h1
   have H1 := Lib.hid h1; clear h1
   have H2 := Lib.hid h2; clear h2
   go_wp2_with (first
    | (with_reducible refine at_dst 16 ?_; go_must (refine wpList_load_blk rfl 76 _ rfl w.heap.size rfl 76 _ _ H1.out Tryz.underlying76 rfl (by rw [Lib.setCells_size]; exact HI.out) ?_))
    | (with_reducible refine at_store 4 16 ?_; go_must (refine wpList_store_blk rfl 76 _ _ rfl (w.heap.size + 1) rfl (Lib.setCells (S ++ s.data.toList)) rfl 76 _ H2.out (by rw [Lib.setCells_size]; exact HI.out) (by rw [Lib.setCells_size, Lib.setCells_size]) (Lib.setCells_one _) ?_)))
   refine bodyPost_ret (v := .agg (Lib.setCells (S ++ s.data.toList))) ?_ rfl ⟨rfl, below_setRow hb (by omega) _⟩
   exact results_cell_blk rfl _ _ (w.heap.size + 1) 76 _ _ rfl (H2.out.setRow_ _) Tryz.underlying76 rfl (by rw [Lib.setCells_size]; exact HI.out)

theorem has_any (S : List UInt8) (s : ByteArray) (w : World) (hs : s.size ≤ maxLen) :
  Calls Tryz.prog 45 #[.agg (Lib.setCells S), .string s] w fun e w' => e = .returned (.bool (inB S s)) ∧ Below w.heap.size w w' := by
 unfold maxLen at hs
 go_enter Tryz.func45, Tryz.ntmps45
 go_wp2
 go_loop [8] (fun i => ∃ k : Nat, k ≤ s.size ∧ i = .int .i64 k ∧ Hid ((s.data.toList.take k).all S.contains = true)) (fun i => s.size - (intOf i).toNat)
 case atStart => exact ⟨0, Nat.zero_le _, rfl, rfl⟩
 case round =>
  obtain ⟨k, hk, rfl, HA⟩ := hrel
  have h1 := Blk.new w 76 (Lib.setCells S)
  by_cases hlt : k < s.size
  ·
   obtain ⟨x, hx⟩ : ∃ x : UInt8, s[k]'hlt = x := ⟨_, rfl⟩
   have hxl : s.data.toList[k]? = some x := by rw [← hx]; exact Lib.data_getElem? s k hlt
   have hx256 : (x.toNat : Int) < 256 := by have := UInt8.toNat_lt x; omega
   have hcell := (h1.cell x.toNat).trans (Lib.setCells_at _ x)
   have HX := Lib.hid hxl; clear hxl
   clear h1
   obtain ⟨c, hc⟩ : ∃ c, S.contains x = c := ⟨_, rfl⟩
   rw [hc] at hcell
   have HC := Lib.hid hc; clear hc
   cases c with
   | false =>
    go_wp2
    go_ret
    refine ⟨ret_bool ?_, (Below.refl _ _).alloc (Nat.le_refl _) _⟩
    symm
    rw [inB, List.all_eq_false]
    exact ⟨x, List.mem_of_getElem? HX.out, by rw [HC.out]; decide⟩
   | true =>
    go_wp2
    go_round
    case rel =>
     refine ⟨k + 1, by omega, by go_num, ?_⟩
     show _ = true
     rw [List.take_add_one, HX.out]
     simp only [Option.toList, List.all_append, HA.out, List.all_cons, List.all_nil, HC.out, Bool.and_self]
    case measure => simp [intOf]; omega
  ·
   clear h1
   go_wp2
   go_ret
   refine ⟨ret_bool ?_, (Below.refl _ _).alloc (Nat.le_refl _) _⟩
   have := HA.out
   rw [List.take_of_length_le (by rw [← Lib.size_eq]; omega)] at this
   exact this.symm

theorem common_any (w : World) : Calls Tryz.prog 84 #[] w fun e w' => e = .returned (.agg (Lib.setCells commonL)) ∧ Below w.heap.size w w' := by
 obtain ⟨hz, hi⟩ := zero_of_info info_set
 rw [← Lib.setCells_nil] at hz
 have HI := Lib.hid hi; clear hi
 go_enter Tryz.func84, Tryz.ntmps84
 go_wp2_with fail
 have hb0 : Below w.heap.size w (w.alloc (Obj.cells (Lib.setCells []) 76)) := (Below.refl _ _).alloc (Nat.le_refl _) _
 have k0 : Blk (w.alloc (Obj.cells (Lib.setCells []) 76)) w.heap.size 76 (Lib.setCells []) := Blk.new _ _ _
 generalize w.alloc (Obj.cells (Lib.setCells []) 76) = w0 at *
 refine (plus_any [] _ _ (by decide)).mono ?_; rintro e w1 ⟨rfl, hb1⟩
 have k1 := k0.below hb1 k0.lt; have b1 := hb0.trans (hb1.mono hb0.size)
 clear hb0 hb1 k0
 go_wp2_with fail
 refine (Tryz.strings_ToLower_ascii _ _ (by decide) (fun j b hj => of_decide_eq_true (List.all_eq_true.1 (by decide : upperL.all (fun b => decide (b.toNat < 128)) = true) b (List.mem_of_getElem? hj)))).mono ?_
 rintro e w2 ⟨rfl, hb2⟩
 have k2 := k1.below hb2 k1.lt; have b2 := b1.trans (hb2.mono b1.size)
 clear hb2 k1 b1
 go_wp2_with fail
 refine (plus_any _ _ _ (by decide)).mono ?_; rintro e w3 ⟨rfl, hb3⟩
 have k3 := k2.below hb3 k2.lt; have b3 := b2.trans (hb3.mono b2.size)
 clear hb3 k2 b2
 go_wp2_with fail
 refine (plus_any _ _ _ (by decide)).mono ?_; rintro e w4 ⟨rfl, hb4⟩
 have k4 := k3.below hb4 k3.lt; have b4 := b3.trans (hb4.mono b3.size)
 clear hb4 k3 b3
 go_wp2_with fail
 refine (plus_any _ _ _ (by decide)).mono ?_; rintro e w5 ⟨rfl, hb5⟩
 have k5 := k4.below hb5 k4.lt; have b5 := b4.trans (hb5.mono b4.size)
 clear hb5 k4 b4
 go_wp2_with (with_reducible refine at_store 0 6 ?_; go_must (refine wpList_store_blk rfl 76 _ _ rfl w.heap.size rfl (Lib.setCells commonL) rfl 76 _ k5 (by rw [Lib.setCells_size]; exact HI.out) (by rw [Lib.setCells_size, Lib.setCells_size]) (Lib.setCells_one _) ?_))
 refine bodyPost_ret (v := .agg (Lib.setCells commonL)) ?_ rfl ⟨rfl, below_setRow b5 (Nat.le_refl _) _⟩
 exact results_cell_blk rfl _ _ w.heap.size 76 _ _ rfl (k5.setRow_ _) Tryz.underlying76 rfl (by rw [Lib.setCells_size]; exact HI.out)
end Go.Proofs.YtjpoljlgkgmdkaaGreatDoor
namespace Go.Proofs.YtjpoljlgkgmdkaaGreatDoor
open Go.RowKit Go.Cold

theorem dots_any (s : ByteArray) (w : World) : Calls Tryz.prog 44 #[.string s] w fun e w' => e = .returned (.bool (dotsB s)) ∧ w = w' := by
 go_enter Tryz.func44, Tryz.ntmps44
 go_wp2
 ·
  have h : s.toList = [46] := by assumption
  go_ret
  exact ⟨ret_bool (by simp [dotsB, h]), rfl⟩
 ·
  go_ret
  exact ⟨rfl, rfl⟩

theorem Text_any (s : ByteArray) (w : World) (hs : s.size ≤ maxLen) : Calls Tryz.prog 112 #[.string s] w fun e w' => e = .returned (.bool (textB s)) ∧ w = w' := by
 unfold maxLen at hs
 go_enter Tryz.func112, Tryz.ntmps112
 go_wp2
 go_loop [6] (fun i => ∃ k : Nat, k ≤ s.size ∧ i = .int .i64 k ∧ Hid ((s.data.toList.take k).all printP = true)) (fun i => s.size - (intOf i).toNat)
 case atStart => exact ⟨0, Nat.zero_le _, rfl, rfl⟩
 case round =>
  obtain ⟨k, hk, rfl, HA⟩ := hrel
  by_cases hlt : k < s.size
  ·
   obtain ⟨x, hx⟩ : ∃ x : UInt8, s[k]'hlt = x := ⟨_, rfl⟩
   have hxl : s.data.toList[k]? = some x := by rw [← hx]; exact Lib.data_getElem? s k hlt
   have HX := Lib.hid hxl; clear hxl
   go_wp2
   ·
    go_ret
    exact ⟨ret_bool (textB_no (all_stop HX.out (by simp [printP]; omega))), rfl⟩
   ·
    have hh : (32 : Int) ≤ (x.toNat : Int) ∧ (x.toNat : Int) ≤ 126 := by assumption
    go_round
    case rel => exact ⟨k + 1, by omega, by go_num, all_step HA.out HX.out (by simp [printP]; omega)⟩
    case measure => simp [intOf]; omega
   ·
    go_ret
    exact ⟨ret_bool (textB_no (all_stop HX.out (by simp [printP]; omega))), rfl⟩
  ·
   go_wp2
   go_ret
   exact ⟨ret_bool (textB_yes (all_end HA.out (by rw [ba_size]; omega))), rfl⟩

end Go.Proofs.YtjpoljlgkgmdkaaGreatDoor
namespace Go.Proofs.YtjpoljlgkgmdkaaGreatDoor
open Go.RowKit Go.Cold

theorem Valid_any (s : ByteArray) (w : World) (hs : s.size ≤ maxLen) : Calls Tryz.prog 78 #[.string s] w fun e w' => e = .returned (.bool (validB s)) ∧ Below w.heap.size w w' := by
 go_enter Tryz.func78, Tryz.ntmps78
 go_wp2_with (first
  | (go_at_call 44; go_must (refine (dots_any _ _).mono ?_); rintro e w' ⟨rfl, rfl⟩)
  | (go_at_call 84; go_must (refine (common_any _).mono ?_); rintro e w1 ⟨rfl, hb1⟩)
  | (go_at_call 46; go_must (refine (plus_any _ _ _ (by decide)).mono ?_); rintro e w2 ⟨rfl, hb2⟩)
  | (go_at_call 45; go_must (refine (has_any _ _ _ hs).mono ?_); rintro e w3 ⟨rfl, hb3⟩))
 ·
  go_ret
  exact ⟨ret_bool (by simp [validB, *]), Below.refl _ _⟩
 ·
  go_ret
  exact ⟨ret_bool (by simp [validB, *]), Below.refl _ _⟩
 ·
  go_ret
  refine ⟨ret_bool (by simp [validB, nameL, *]), ?_⟩
  have h2 := hb1.trans (hb2.mono hb1.size)
  exact h2.trans (hb3.mono h2.size)
 ·
  go_ret
  exact ⟨ret_bool (by simp [validB, *]; omega), Below.refl _ _⟩

theorem Interface_any (s : ByteArray) (w : World) (hs : s.size ≤ maxLen) : Calls Tryz.prog 76 #[.string s] w fun e w' => e = .returned (.bool (ifaceB s)) ∧ Below w.heap.size w w' := by
 go_enter Tryz.func76, Tryz.ntmps76
 go_wp2_with fail
 refine (Valid_any _ _ hs).mono ?_; rintro e w1 ⟨rfl, hb1⟩
 cases hv : validB s with
 | false =>
  have HV := Lib.hid hv; clear hv
  go_wp2
  go_ret
  exact ⟨ret_bool (by rw [ifaceB, HV.out]; rfl), hb1⟩
 | true =>
  have HV := Lib.hid hv; clear hv
  by_cases h1 : s.size ≤ 15
  ·
   go_wp2_with fail
   refine (Tryz.strings_ContainsAny_laid _ _ _ (by omega) (by decide) (fun j b hj => name_ascii HV.out j b hj) (fun j b hj => of_decide_eq_true (List.all_eq_true.1 (by decide : [58, 33].all (fun b : UInt8 => decide (b.toNat < 128)) = true) b (List.mem_of_getElem? hj)))).mono ?_; rintro e w2 ⟨rfl, hb2⟩
   obtain ⟨c, hc⟩ : ∃ c, Lib.containsAny s.data.toList (ByteArray.mk #[58, 33]).data.toList = c := ⟨_, rfl⟩
   rw [hc]
   have HC := Lib.hid hc; clear hc
   go_wp2
   go_ret
   refine ⟨ret_bool ?_, hb1.trans (hb2.mono hb1.size)⟩
   rw [ifaceB, HV.out, ← iface_any, ← indexAny_any, ← HC.out]
   simp [Lib.containsAny]; omega
  ·
   go_wp2
   go_ret
   exact ⟨ret_bool (by rw [ifaceB, HV.out]; simp; omega), hb1⟩

end Go.Proofs.YtjpoljlgkgmdkaaGreatDoor
namespace Go.Proofs.YtjpoljlgkgmdkaaGreatDoor
open Go.RowKit Go.Cold

structure PredS (g : FuncId) (caps : Array Value) (w : World) (p : ByteArray → Bool) : Prop where
 enters : ∀ args w, (callFunc g args).run Tryz.prog w = .ok (.enter g args) w
 gives : ∀ (x : ByteArray) (W : World), x.size ≤ maxLen → Below w.heap.size w W → Calls Tryz.prog g (#[.string x] ++ caps) W fun e W' => e = .returned (.bool (p x)) ∧ Below W.heap.size W W'
theorem PredS.next {g : FuncId} {caps : Array Value} {w w' : World} {p : ByteArray → Bool} (h : PredS g caps w p) (hb : Below w.heap.size w w') : PredS g caps w' p :=
 ⟨h.enters, fun x W hx hW => h.gives x W hx (hb.trans (hW.mono hb.size))⟩

set_option maxRecDepth 10000 in
theorem IndexFunc_any (A : Option Addr) (c : Nat) (xs : List ByteArray) (g : FuncId) (caps : Array Value) (p : ByteArray → Bool) (w : World) (hx : Sl w w.heap.size A c xs) (hp : PredS g caps w p) :
  Calls Tryz.prog 130 #[.slice A xs.length c, .func (.func g) #[] caps] w fun e w' => e = .returned (.int .i64 (idxInt p xs)) ∧ Below w.heap.size w w' := by
 have hc := hx.1; have hc2 := hx.2.1
 unfold maxLen at hc2
 have hen := hp.enters
 have HP := Lib.hid hp; clear hp
 have HSl := Lib.hid hx; clear hx
 go_enter Tryz.func130, Tryz.ntmps130
 go_wp2
 go_loopw [8] (fun i wr => ∃ k : Nat, k ≤ xs.length ∧ i = .int .i64 k ∧ Hid ((xs.take k).all (fun x => !p x) = true) ∧ Below w.heap.size w wr) (fun i _ => xs.length - (intOf i).toNat)
 case atStart => exact ⟨0, Nat.zero_le _, rfl, rfl, Below.refl _ _⟩
 case round =>
  obtain ⟨k, hk, rfl, HA, hb⟩ := hrel
  by_cases hlt : k < xs.length
  ·
   obtain ⟨b3, o3, rfl, hb3, cx, hsz⟩ := (HSl.out.keep hb).str hlt
   have hxk : xs[k]? = some xs[k] := List.getElem?_eq_getElem hlt
   obtain ⟨x, hx⟩ : ∃ x, xs[k] = x := ⟨_, rfl⟩
   rw [hx] at cx hsz hxk
   have HX := Lib.hid hxk; clear hxk
   have HXX := Lib.hid hx; clear hx
   have i1 : (k : Int) < (xs.length : Int) := by omega
   go_wp2_with fail
   have hcall := HP.out.gives x wr hsz hb
   refine Calls.mono (R := fun e W' => e = .returned (.bool (p x)) ∧ Below wr.heap.size wr W') ?_ ?_
   · first | exact hcall | simpa using hcall
   rintro e w1 ⟨rfl, hb1⟩
   have hb2 := hb.trans (hb1.mono hb.size)
   clear hcall hb1 hb cx
   cases hpx : p x with
   | true =>
    have HPX := Lib.hid hpx; clear hpx
    go_wp2
    go_ret
    exact ⟨ret_int (idxInt_some hlt HA.out (by rw [HXX.out]; exact HPX.out)).symm, hb2⟩
   | false =>
    have HPX := Lib.hid hpx; clear hpx
    go_wp2
    go_roundw
    case rel => exact ⟨k + 1, by omega, by go_num, all_step HA.out HX.out (by rw [HPX.out]; rfl), hb2⟩
    case measure => simp [intOf]; omega
  ·
   go_wp2
   go_ret
   exact ⟨ret_int (idxInt_none (all_end HA.out (by omega))).symm, hb⟩

theorem ContainsFunc_any (A : Option Addr) (c : Nat) (xs : List ByteArray) (g : FuncId) (caps : Array Value) (p : ByteArray → Bool) (w : World) (hx : Sl w w.heap.size A c xs) (hp : PredS g caps w p) :
  Calls Tryz.prog 85 #[.slice A xs.length c, .func (.func g) #[] caps] w fun e w' => e = .returned (.bool (xs.any p)) ∧ Below w.heap.size w w' := by
 have HP := Lib.hid hp; clear hp
 have HSl := Lib.hid hx; clear hx
 go_enter Tryz.func85, Tryz.ntmps85
 go_wp2_with fail
 refine (IndexFunc_any A c xs g caps p w HSl.out HP.out).mono ?_
 rintro e w1 ⟨rfl, hb1⟩
 go_wp2
 go_ret
 exact ⟨ret_bool (idxInt_any _ _), hb1⟩

theorem all1_any (g : FuncId) (caps : Array Value) (p : ByteArray → Bool) (w : World) (b : Nat) (hb : b < w.heap.size) (hc : w.cell? ⟨b, 0, none⟩ = some (.func (.func g) #[] caps)) (hp : PredS g caps w p) :
  PredS 86 #[.pointer (some ⟨b, 0, none⟩)] w (fun x => !p x) := by
 refine ⟨enters_of Tryz.func86 (by kernel_rfl) rfl, fun x W hx hW => ?_⟩
 have hcell := (hW.cell (p := ⟨b, 0, none⟩) hb).trans hc
 have hen := hp.enters
 have HP := Lib.hid hp; clear hp hc
 go_enter Tryz.func86, Tryz.ntmps86
 go_wp2_with fail
 have hcall := HP.out.gives x W hx hW
 refine Calls.mono (R := fun e W' => e = .returned (.bool (p x)) ∧ Below W.heap.size W W') ?_ ?_
 · first | exact hcall | simpa using hcall
 rintro e w1 ⟨rfl, hb1⟩
 clear hcall
 go_wp2
 go_ret
 exact ⟨rfl, hb1⟩

theorem all_any (A : Option Addr) (c : Nat) (xs : List ByteArray) (g : FuncId) (caps : Array Value) (p : ByteArray → Bool) (w : World) (hx : Sl w w.heap.size A c xs) (hp : PredS g caps w p) :
  Calls Tryz.prog 41 #[.slice A xs.length c, .func (.func g) #[] caps] w fun e w' => e = .returned (.bool (xs.all p)) ∧ Below w.heap.size w w' := by
 have HP := Lib.hid hp; clear hp
 have HSl := Lib.hid hx; clear hx
 go_enter Tryz.func41, Tryz.ntmps41
 go_wp2_with fail
 have hba : Below w.heap.size w (w.alloc (Obj.cells #[Value.func (Fn.func g) #[] caps] 40)) := (Below.refl _ _).alloc (Nat.le_refl _) _
 have hsz : (w.alloc (Obj.cells #[Value.func (Fn.func g) #[] caps] 40)).heap.size = w.heap.size + 1 := by simp
 have hpa := all1_any g caps p (w.alloc (Obj.cells #[Value.func (Fn.func g) #[] caps] 40)) w.heap.size (by rw [hsz]; omega) (by rw [World.cell?_alloc_at _ _ _ _ rfl]; rfl) (HP.out.next hba)
 refine (ContainsFunc_any A c xs _ _ _ _ (HSl.out.next (Nat.le_refl _) hba) hpa).mono ?_
 rintro e w1 ⟨rfl, hb1⟩
 have hb2 := hba.trans (hb1.mono hba.size)
 clear hba hsz hpa hb1
 obtain ⟨r, hr⟩ : ∃ r, xs.any (fun x => !p x) = r := ⟨_, rfl⟩
 rw [hr]
 have HR := Lib.hid hr; clear hr
 go_wp2
 go_ret
 refine ⟨ret_bool ?_, hb2⟩
 rw [← HR.out, List.not_any_eq_all_not]
 simp

def Ok (w : World) : Prop := ∃ m, w.cell? ⟨0, 0, none⟩ = some (.int .i64 m)
theorem Ok.next {w w' : World} (h : Ok w) (hb : Below w.heap.size w w') : Ok w' := by
 obtain ⟨m, hm⟩ := h
 exact ⟨m, (hb.cell (p := ⟨0, 0, none⟩) (block_lt_of_cell hm)).trans hm⟩

theorem SplitSlash_any (s : ByteArray) (w : World) (hs : s.size < 4294967281) (hok : Ok w) : Calls Tryz.prog 42 #[.string s, .string ⟨#[47]⟩] w fun e w' =>
  ∃ A c, e = .returned (.slice A (piecesL s.data.toList).length c) ∧ Sl w' w'.heap.size A c (piecesL s.data.toList) ∧ Below w.heap.size w w' := by
 obtain ⟨m, hm⟩ := hok
 refine (Tryz.strings_Split s ⟨#[47]⟩ m w hs hm (by decide)).mono ?_
 rintro e w' ⟨rfl, rfl⟩
 have hlen := pieces_length s ⟨#[47]⟩ rfl
 have hcnt := splitOn_count 47 s.data.toList
 have hb : Below w.heap.size w (w.alloc (.cells ((Lib.splitB ⟨#[47]⟩ 0 (Lib.countB s ⟨#[47]⟩) s).map Value.string).toArray 9)) := (Below.refl _ _).alloc (Nat.le_refl _) _
 refine ⟨_, (piecesL s.data.toList).length, by rw [hlen], ?_, hb⟩
 refine Sl.ofStrs (Nat.le_refl _) ?_ (by simp) (fun x hx => ?_) (fun i x hx => ?_)
 · unfold piecesL maxLen; rw [List.length_map]; rw [ba_size] at hcnt; omega
 · have := pieces_sizes hx; rw [ba_size] at this; unfold maxLen; omega
 ·
  rw [splitB_eq s ⟨#[47]⟩ rfl, World.cell?_alloc_at _ _ _ _ rfl]
  simp [hx]

end Go.Proofs.YtjpoljlgkgmdkaaGreatDoor
namespace Go.Proofs.YtjpoljlgkgmdkaaGreatDoor
open Go.RowKit Go.Cold

end Go.Proofs.YtjpoljlgkgmdkaaGreatDoor
namespace Go.Proofs.YtjpoljlgkgmdkaaGreatDoor
open Go.RowKit Go.Cold

theorem stringsCompare_any (a b : ByteArray) (w : World) : Calls Tryz.prog 139 #[.string a, .string b] w fun e w' => e = .returned (.int .i64 (cmpB a b)) ∧ w' = w := Tryz.strings_Compare a b w

end Go.Proofs.YtjpoljlgkgmdkaaGreatDoor
namespace Go.Proofs.YtjpoljlgkgmdkaaGreatDoor
open Go.RowKit Go.Cold

theorem JoinSlash_any (A : Option Addr) (c : Nat) (xs : List ByteArray) (w : World) (hx : Sl w w.heap.size A c xs) (hlen : (joinB xs).size ≤ 140737488355328) (hn : xs.length ≤ 140737488355328) :
  Calls Tryz.prog 47 #[.slice A xs.length c, .string ⟨#[47]⟩] w fun e w' => e = .returned (.string (joinB xs)) ∧ Below w.heap.size w w' := by
 rcases Nat.eq_zero_or_pos xs.length with h0 | h0
 ·
  have hx0 : xs = [] := List.eq_nil_of_length_eq_zero h0
  subst hx0
  exact (Tryz.strings_Join_none A c ⟨#[47]⟩ w).mono fun e w' ⟨he, hw⟩ => ⟨he, by rw [hw]; exact Below.refl _ _⟩
 ·
  obtain ⟨b, o, rfl, hb, h1⟩ := hx.strs h0
  exact Tryz.strings_Join b o c xs ⟨#[47]⟩ w h1 hb hn hx.1 hlen

end Go.Proofs.YtjpoljlgkgmdkaaGreatDoor
namespace Go.Proofs.YtjpoljlgkgmdkaaGreatDoor
open Go.RowKit Go.Cold

theorem parts_any (w : World) : Calls Tryz.prog 40 #[] w fun e w' => e = .returned (.agg (Lib.setCells partL)) ∧ Below w.heap.size w w' := by
 obtain ⟨hz, hi⟩ := zero_of_info info_set
 rw [← Lib.setCells_nil] at hz
 have HI := Lib.hid hi; clear hi
 go_enter Tryz.func40, Tryz.ntmps40
 go_wp2_with fail
 have hb0 : Below w.heap.size w (w.alloc (Obj.cells (Lib.setCells []) 76)) := (Below.refl _ _).alloc (Nat.le_refl _) _
 have k0 : Blk (w.alloc (Obj.cells (Lib.setCells []) 76)) w.heap.size 76 (Lib.setCells []) := Blk.new _ _ _
 generalize w.alloc (Obj.cells (Lib.setCells []) 76) = w0 at *
 refine (common_any _).mono ?_; rintro e w1 ⟨rfl, hb1⟩
 have k1 := k0.below hb1 k0.lt; have b1 := hb0.trans (hb1.mono hb0.size)
 clear hb0 hb1 k0
 go_wp2_with fail
 refine (plus_any _ _ _ (by decide)).mono ?_; rintro e w2 ⟨rfl, hb2⟩
 have k2 := k1.below hb2 k1.lt; have b2 := b1.trans (hb2.mono b1.size)
 clear hb2 k1 b1
 go_wp2_with (with_reducible refine at_store 0 2 ?_; go_must (refine wpList_store_blk rfl 76 _ _ rfl w.heap.size rfl (Lib.setCells partL) rfl 76 _ k2 (by rw [Lib.setCells_size]; exact HI.out) (by rw [Lib.setCells_size, Lib.setCells_size]) (Lib.setCells_one _) ?_))
 refine bodyPost_ret (v := .agg (Lib.setCells partL)) ?_ rfl ⟨rfl, below_setRow b2 (Nat.le_refl _) _⟩
 exact results_cell_blk rfl _ _ w.heap.size 76 _ _ rfl (k2.setRow_ _) Tryz.underlying76 rfl (by rw [Lib.setCells_size]; exact HI.out)

theorem link1_any (w : World) (b : Nat) (hk : Blk w b 76 (Lib.setCells partL)) : PredS 43 #[.pointer (some ⟨b, 0, none⟩)] w compB := by
 obtain ⟨_, hi⟩ := zero_of_info info_set
 have HI := Lib.hid hi; clear hi
 refine ⟨enters_of Tryz.func43 (by kernel_rfl) rfl, fun x W hx hW => ?_⟩
 have HK := Lib.hid (hk.below hW hk.lt); clear hk hW
 by_cases h0 : x.toList = []
 ·
  go_enter Tryz.func43, Tryz.ntmps43
  go_wp2_with fail
  go_ret
  exact ⟨ret_bool (by simp [compB, h0]), Below.refl _ _⟩
 ·
  have h0' : (x.toList.isEmpty) = false := by simpa using h0
  go_enter Tryz.func43, Tryz.ntmps43
  go_wp2_with fail
  refine (dots_any _ _).mono ?_
  rintro e w' ⟨rfl, rfl⟩
  cases hd : dotsB x with
  | true =>
   go_wp2_with fail
   go_ret
   exact ⟨ret_bool (by simp [compB, hd]), Below.refl _ _⟩
  | false =>
   go_wp2_with (first
    | (with_reducible refine at_dst 12 ?_; go_must (refine wpList_load_blk_w (by simp [Region.wanted, yielded]) 76 _ rfl b rfl 76 _ _ HK.out Tryz.underlying76 rfl (by rw [Lib.setCells_size]; exact HI.out) ?_))
    | (go_at_call 45; go_must (refine (has_any _ _ _ hx).mono ?_); rintro e w1 ⟨rfl, hb1⟩))
   go_ret
   exact ⟨ret_bool (by simp [compB, hd, h0']), hb1⟩

theorem Link_any (s : ByteArray) (w : World) (hs : s.size < 4294967281) (hok : Ok w) : Calls Tryz.prog 17 #[.string s] w fun e w' => e = .returned (.bool (linkB s)) ∧ Below w.heap.size w w' := by
 obtain ⟨hz, hi⟩ := zero_of_info info_set
 rw [← Lib.setCells_nil] at hz
 have HI := Lib.hid hi; clear hi
 have HS := Lib.hid hs; clear hs
 by_cases h256 : s.size ≤ 256
 ·
  have hd : decide ((s.size : Int) ≤ 256) = true := by simp; omega
  have H256 := Lib.hid h256; clear h256
  go_enter Tryz.func17, Tryz.ntmps17
  go_wp2_with fail
  refine (parts_any _).mono ?_; rintro e w1 ⟨rfl, hb1⟩
  have hk0 : Blk (w1.alloc (Obj.cells (Lib.setCells []) 76)) w1.heap.size 76 (Lib.setCells []) := Blk.new _ _ _
  go_wp2_with (with_reducible refine at_store 3 4 ?_; go_must (refine wpList_store_blk rfl 76 _ _ rfl w1.heap.size rfl (Lib.setCells partL) rfl 76 _ hk0 (by rw [Lib.setCells_size]; exact HI.out) (by rw [Lib.setCells_size, Lib.setCells_size]) (Lib.setCells_one _) ?_))
  have hb2 : Below w.heap.size w ((w1.alloc (Obj.cells (Lib.setCells []) 76)).setRow w1.heap.size (Lib.setCells partL)) := below_setRow (hb1.alloc hb1.size _) hb1.size _
  have hk : Blk ((w1.alloc (Obj.cells (Lib.setCells []) 76)).setRow w1.heap.size (Lib.setCells partL)) w1.heap.size 76 (Lib.setCells partL) := (Blk.new _ _ _).setRow_ _
  generalize (w1.alloc (Obj.cells (Lib.setCells []) 76)).setRow w1.heap.size (Lib.setCells partL) = w2 at *
  generalize w1.heap.size = g at *
  clear hb1
  go_wp2_with fail
  refine (SplitSlash_any s w2 HS.out (hok.next hb2)).mono ?_
  rintro e w3 ⟨A, c, rfl, hsl, hb3⟩
  have hk3 := hk.below hb3 hk.lt
  have hb4 := hb2.trans (hb3.mono hb2.size)
  have HSl := Lib.hid hsl
  have HK := Lib.hid hk3
  clear hb2 hb3 hk hk3 hsl
  go_wp2_with fail
  refine (all_any A c _ _ _ _ w3 HSl.out (link1_any w3 g HK.out)).mono ?_
  rintro e w4 ⟨rfl, hb5⟩
  have hb6 := hb4.trans (hb5.mono hb4.size)
  obtain ⟨z, hz⟩ : ∃ z, (piecesL s.data.toList).all compB = z := ⟨_, rfl⟩
  rw [hz]
  have HZ := Lib.hid hz; clear hz
  go_wp2
  go_ret
  exact ⟨ret_bool (by have := H256.out; rw [linkB, HZ.out]; simp; omega), hb6⟩
 ·
  have hd : decide ((s.size : Int) ≤ 256) = false := by simp; omega
  have H256 := Lib.hid h256; clear h256
  go_enter Tryz.func17, Tryz.ntmps17
  go_wp2_with fail
  refine (parts_any _).mono ?_; rintro e w1 ⟨rfl, hb1⟩
  have hk0 : Blk (w1.alloc (Obj.cells (Lib.setCells []) 76)) w1.heap.size 76 (Lib.setCells []) := Blk.new _ _ _
  go_wp2_with (with_reducible refine at_store 3 4 ?_; go_must (refine wpList_store_blk rfl 76 _ _ rfl w1.heap.size rfl (Lib.setCells partL) rfl 76 _ hk0 (by rw [Lib.setCells_size]; exact HI.out) (by rw [Lib.setCells_size, Lib.setCells_size]) (Lib.setCells_one _) ?_))
  go_ret
  exact ⟨ret_bool (by have := H256.out; rw [linkB]; simp; omega), below_setRow (hb1.alloc hb1.size _) hb1.size _⟩

end Go.Proofs.YtjpoljlgkgmdkaaGreatDoor
namespace Go.Cold
open Go Go.RowKit

def cleanP (b : UInt8) : UInt8 := if (partL ++ [47]).contains b then b else 95
theorem cleanP_good {b : UInt8} (h : (partL ++ [47]).contains b = true) : cleanP b = b := by rw [cleanP, if_pos h]
theorem cleanP_bad {b : UInt8} (h : (partL ++ [47]).contains b = false) : cleanP b = 95 := by rw [cleanP, h]; rfl
def cleanK (l : List UInt8) (k : Nat) : List UInt8 := (l.take k).map cleanP ++ l.drop k
theorem cleanK_length (l : List UInt8) (k : Nat) (hk : k ≤ l.length) : (cleanK l k).length = l.length := by
 simp [cleanK]; omega
theorem cleanK_zero (l : List UInt8) : cleanK l 0 = l := by simp [cleanK]
theorem cleanK_all (l : List UInt8) {k : Nat} (hk : l.length ≤ k) : cleanK l k = l.map cleanP := by
 rw [cleanK, List.take_of_length_le hk, List.drop_eq_nil_of_le hk, List.append_nil]
theorem cleanK_at {l : List UInt8} {k : Nat} {b : UInt8} (h : l[k]? = some b) : (cleanK l k)[k]? = some b := by
 have hk := (List.getElem?_eq_some_iff.1 h).1
 rw [cleanK, List.getElem?_append_right (by simp; omega)]
 simp only [List.length_map, List.length_take]
 rw [Nat.min_eq_left (by omega), Nat.sub_self, List.getElem?_drop]
 exact h
theorem cleanK_succ {l : List UInt8} {k : Nat} {b : UInt8} (h : l[k]? = some b) : cleanK l (k + 1) = (cleanK l k).set k (cleanP b) := by
 have hk := (List.getElem?_eq_some_iff.1 h).1
 have hb := (List.getElem?_eq_some_iff.1 h).2
 have e1 : cleanK l k = ((l.take k).map cleanP) ++ b :: l.drop (k + 1) := by
  rw [cleanK, List.drop_eq_getElem_cons hk, hb]
 rw [e1, List.set_append_right _ _ (by simp; omega)]
 simp only [List.length_map, List.length_take]
 rw [Nat.min_eq_left (by omega), Nat.sub_self, List.set_cons_zero, cleanK, List.take_succ_eq_append_getElem hk, hb, List.map_append, List.append_assoc]
 rfl
theorem cleanK_same {l : List UInt8} {k : Nat} {b : UInt8} (h : l[k]? = some b) (hg : cleanP b = b) : cleanK l (k + 1) = cleanK l k := by
 rw [cleanK_succ h, hg]
 have := cleanK_at h
 apply List.ext_getElem?
 intro i
 rw [List.getElem?_set]
 split
 ·
  rename_i he
  subst he
  have hl := (List.getElem?_eq_some_iff.1 this).1
  rw [if_pos hl, this]
 · rfl

def keepB (x : ByteArray) : Bool := !x.toList.isEmpty && !(x.toList == [46])
def fsOf (s : ByteArray) : List ByteArray := (piecesL (s.data.toList.map cleanP)).filter keepB
def cleanOf (s : ByteArray) : Option ByteArray := if linkB (joinB (fsOf s)) then some (joinB (fsOf s)) else none

def tot (xs : List (List UInt8)) : Nat := (xs.map fun x => x.length + 1).sum
theorem tot_splitOn (c : UInt8) : ∀ l : List UInt8, tot (splitOn c l) = l.length + 1
 | [] => rfl
 | b :: l => by
  have ih := tot_splitOn c l
  unfold splitOn
  split
  · simp [tot] at ih ⊢; omega
  ·
   cases hs : splitOn c l with
   | nil => exact absurd hs (splitOn_ne c l)
   | cons y r => rw [hs] at ih; simp [tot] at ih ⊢; omega
theorem tot_filter (p : List UInt8 → Bool) : ∀ xs : List (List UInt8), tot (xs.filter p) ≤ tot xs
 | [] => Nat.le_refl _
 | x :: xs => by
  have ih := tot_filter p xs
  rw [List.filter_cons]
  split <;> (simp [tot] at ih ⊢; omega)
theorem join_length (c : UInt8) : ∀ xs : List (List UInt8), xs ≠ [] → (Lib.join xs [c]).length + 1 = tot xs
 | [], h => absurd rfl h
 | x :: r, _ => by
  rw [Lib.join_cons]
  have : ∀ r : List (List UInt8), (Lib.joinTail [c] r).length = tot r := by
   intro r
   induction r with
   | nil => rfl
   | cons y r ih =>
    have e : Lib.joinTail [c] (y :: r) = (c :: y) ++ Lib.joinTail [c] r := by simp [Lib.joinTail]
    rw [e, List.length_append, ih]; simp [tot]
  rw [List.length_append, this]; simp [tot]; omega
theorem joinB_filter_size (l : List UInt8) (p : ByteArray → Bool) : (joinB ((piecesL l).filter p)).size ≤ l.length := by
 unfold joinB
 rw [toB_size]
 have e : ((piecesL l).filter p).map (·.data.toList) = (splitOn 47 l).filter (fun x => p (toB x)) := by
  unfold piecesL
  generalize splitOn 47 l = ys
  induction ys with
  | nil => rfl
  | cons y ys ih =>
   simp only [List.map_cons, List.filter_cons]
   split
   · rw [List.map_cons, ih]; rfl
   · exact ih
 rw [e]
 by_cases hn : (splitOn 47 l).filter (fun x => p (toB x)) = []
 · rw [hn]; simp [Lib.join_nil]
 ·
  have h1 := join_length 47 _ hn
  have h2 := tot_filter (fun x => p (toB x)) (splitOn 47 l)
  have h3 := tot_splitOn 47 l
  omega
theorem fsOf_join_size (s : ByteArray) : (joinB (fsOf s)).size ≤ s.size := by
 have := joinB_filter_size (s.data.toList.map cleanP) keepB
 rw [List.length_map, ba_size] at this
 exact this
theorem fsOf_sizes {s x : ByteArray} (h : x ∈ fsOf s) : x.size ≤ s.size := by
 have := pieces_sizes (List.mem_filter.1 h).1
 rwa [List.length_map, ba_size] at this
theorem fsOf_length (s : ByteArray) : (fsOf s).length ≤ s.size + 1 := by
 have h1 := List.length_filter_le keepB (piecesL (s.data.toList.map cleanP))
 have h2 : (piecesL (s.data.toList.map cleanP)).length ≤ s.size + 1 := by
  unfold piecesL
  rw [List.length_map]
  have := splitOn_count 47 (s.data.toList.map cleanP)
  rwa [List.length_map, ba_size] at this
 exact Nat.le_trans h1 h2
end Go.Cold
namespace Go.Cold
open Go Go.RowKit
end Go.Cold
namespace Go.Proofs.YtjpoljlgkgmdkaaGreatDoor
open Go.RowKit Go.Cold

end Go.Proofs.YtjpoljlgkgmdkaaGreatDoor
namespace Go.Cold
open Go Go.RowKit
def zero10 : List Value := [.int .i64 0, .int .i64 0, .string ByteArray.empty, .string ByteArray.empty, .string ByteArray.empty, .string ByteArray.empty, .string ByteArray.empty, .int .i64 0, .int .i64 0, .slice none 0 0]
theorem zero_ok : devOk zeroD := ⟨⟨by decide, by decide⟩, ⟨by decide, by decide⟩, Nat.zero_le _, Nat.zero_le _, Nat.zero_le _, Nat.zero_le _, Nat.zero_le _, ⟨by decide, by decide⟩, ⟨by decide, by decide⟩⟩
end Go.Cold
namespace Go.Proofs.YtjpoljlgkgmdkaaGreatDoor
open Go.RowKit Go.Cold
end Go.Proofs.YtjpoljlgkgmdkaaGreatDoor
namespace Go.Cold
open Go Go.RowKit
end Go.Cold
namespace Go.Proofs.YtjpoljlgkgmdkaaGreatDoor
open Go.RowKit Go.Cold
end Go.Proofs.YtjpoljlgkgmdkaaGreatDoor
namespace Go.Cold
open Go Go.RowKit
end Go.Cold
namespace Go.Proofs.YtjpoljlgkgmdkaaGreatDoor
open Go.RowKit Go.Cold
theorem info_txt : (Tryz.prog.info? 9).map (fun i => (i.zero, i.size, i.bytes)) = some (some (.string ByteArray.empty), 1, 16) := by kernel_rfl
end Go.Proofs.YtjpoljlgkgmdkaaGreatDoor
namespace Go.Cold
open Go Go.RowKit
end Go.Cold
namespace Go.Proofs.YtjpoljlgkgmdkaaGreatDoor
open Go.RowKit Go.Cold
end Go.Proofs.YtjpoljlgkgmdkaaGreatDoor
namespace Go.Proofs.YtjpoljlgkgmdkaaGreatDoor
open Go.RowKit Go.Cold
set_option maxRecDepth 100000 in
theorem SameAttrs_same (A B : Option Addr) (c d : Nat) (xs : List Attr) (w : World) (b1 b2 : Nat) (hx : Sl w b1 A c xs) (hy : Sl w b2 B d xs) :
  Calls Tryz.prog 37 #[.slice A xs.length c, .slice B xs.length d] w fun e w' => e = .returned (.bool true) ∧ ∃ n, w' = w.drewN n := by
 have hc := hx.1; have hc2 := hx.2.1; have hd := hy.1; have hd2 := hy.2.1
 unfold maxLen at hc2 hd2
 have HX := Lib.hid hx; have HY := Lib.hid hy; clear hx hy
 go_enter Tryz.func37, Tryz.ntmps37
 go_wp2
 go_loopw [5] (fun i wr => ∃ k n : Nat, k ≤ xs.length ∧ i = .int .i64 k ∧ wr = w.drewN n) (fun i _ => xs.length - (intOf i).toNat)
 case atStart => exact ⟨0, 0, Nat.zero_le _, rfl, rfl⟩
 case round =>
  obtain ⟨k, n, hk, rfl, rfl⟩ := hrel
  by_cases hlt : k < xs.length
  ·
   obtain ⟨b3, o3, rfl, _, _, cx, cx2⟩ := HX.out.attr hlt
   obtain ⟨b4, o4, rfl, _, _, cy, cy2⟩ := HY.out.attr hlt
   have i1 : (k : Int) < (xs.length : Int) := by omega
   obtain ⟨x, hxx⟩ : ∃ x, xs[k]'hlt = x := ⟨_, rfl⟩
   rw [hxx] at cx cx2 cy cy2
   clear hxx
   go_wp2
   go_quiet (fail)
   go_wp2
   go_roundw
   case rel => exact ⟨k + 1, _, by omega, by go_num, rfl⟩
   case measure => simp [intOf]; omega
  ·
   have i1 : ¬ (k : Int) < (xs.length : Int) := by omega
   go_wp2
   go_ret
   exact ⟨rfl, _, rfl⟩
end Go.Proofs.YtjpoljlgkgmdkaaGreatDoor
namespace Go.Proofs.YtjpoljlgkgmdkaaGreatDoor
open Go.RowKit Go.Cold
end Go.Proofs.YtjpoljlgkgmdkaaGreatDoor
namespace Go.Proofs.YtjpoljlgkgmdkaaGreatDoor
open Go.RowKit Go.Cold Go.Sort
end Go.Proofs.YtjpoljlgkgmdkaaGreatDoor
namespace Go.Cold
open Go Go.RowKit
end Go.Cold
namespace Go.Proofs.YtjpoljlgkgmdkaaGreatDoor
open Go.RowKit Go.Cold
end Go.Proofs.YtjpoljlgkgmdkaaGreatDoor
namespace Go.Proofs.YtjpoljlgkgmdkaaGreatDoor
open Go.RowKit Go.Cold

structure PredA (g : FuncId) (caps : Array Value) (w : World) (B : Nat) (Q : Attr → Prop) (p : Attr → Bool) : Prop where
 enters : ∀ args w, (callFunc g args).run Tryz.prog w = .ok (.enter g args) w
 gives : ∀ (d : Attr) (W : World), d.name.size ≤ maxLen → d.value.size ≤ maxLen → Q d → Below w.heap.size w W → Calls Tryz.prog g (#[.agg #[.string d.name, .string d.value]] ++ caps) W fun e W' => e = .returned (.bool (p d)) ∧ Below W.heap.size W W'
theorem PredA.next {g : FuncId} {caps : Array Value} {w w' : World} {B : Nat} {Q : Attr → Prop} {p : Attr → Bool} (h : PredA g caps w B Q p) (hb : Below w.heap.size w w') : PredA g caps w' B Q p :=
 ⟨h.enters, fun d W h1 h2 h3 hW => h.gives d W h1 h2 h3 (hb.trans (hW.mono hb.size))⟩
structure PredD (g : FuncId) (caps : Array Value) (w : World) (B : Nat) (Q : Dev → Prop) (p : Dev → Bool) : Prop where
 enters : ∀ args w, (callFunc g args).run Tryz.prog w = .ok (.enter g args) w
 gives : ∀ (d : Dev) (A : Option Addr) (c : Nat) (W : World), devOk d → Sl W B A c d.attrs → Q d → Below w.heap.size w W → Calls Tryz.prog g (#[.agg #[.int .i64 d.idx, .int .i64 d.par, .string d.nm, .string d.orig, .string d.sub, .string d.drv, .string d.ali, .int .i64 d.kind, .int .i64 d.num, .slice A d.attrs.length c]] ++ caps) W fun e W' => e = .returned (.bool (p d)) ∧ Below W.heap.size W W'
theorem PredD.next {g : FuncId} {caps : Array Value} {w w' : World} {B : Nat} {Q : Dev → Prop} {p : Dev → Bool} (h : PredD g caps w B Q p) (hb : Below w.heap.size w w') : PredD g caps w' B Q p :=
 ⟨h.enters, fun d A c W h1 h2 h3 hW => h.gives d A c W h1 h2 h3 (hb.trans (hW.mono hb.size))⟩
end Go.Proofs.YtjpoljlgkgmdkaaGreatDoor
namespace Go.Cold
open Go Go.RowKit
end Go.Cold
namespace Go.Proofs.YtjpoljlgkgmdkaaGreatDoor
open Go.RowKit Go.Cold
end Go.Proofs.YtjpoljlgkgmdkaaGreatDoor
namespace Go.Cold
open Go Go.RowKit
class El (α : Type) where
 val : α → Value
 lit : α → Lit
 desc : TypeDesc
 ok : α → Prop
 zero : α
 zero_ok : ok zero
 rd : ∀ {P : Program} {e : TypeId} {a : α}, P.underlying e = some desc → ok a → plainElem (H := Unit) P e (val a) = some (.lit (lit a), [])
 inv : ∀ {P : Program} {e : TypeId} {v : Value} {z : DataW Unit × List MemPlace}, P.underlying e = some desc → plainElem (H := Unit) P e v = some z → ∃ a, v = val a ∧ ok a ∧ z.1 = .lit (lit a)
 inj : ∀ {a b : α}, lit a = lit b → a = b
instance : El ByteArray where
 val s := .string s
 lit s := .string s.data.toList
 desc := .string
 ok s := s.size ≤ maxLen
 zero := ByteArray.empty
 zero_ok := Nat.zero_le _
 rd he h := plainElem_string he h
 inv {P e v z} he h := by
  unfold plainElem at h
  rw [he] at h
  cases v <;> simp at h
  obtain ⟨hs, rfl⟩ := h
  exact ⟨_, rfl, hs, rfl⟩
 inj {a b} h := by
  injection h with h
  have h2 := Array.toList_inj.1 h
  cases a; cases b; simp at h2; rw [h2]
theorem wf_i64 {a : Int} : (Lit.int .i64 a).wf = true ↔ okI a := by
 unfold okI
 simp [Lit.wf, IntKind.min, IntKind.max, IntKind.signed, IntKind.bits]
instance : El Int where
 val n := .int .i64 n
 lit n := .int .i64 n
 desc := .int .i64
 ok n := okI n
 zero := 0
 zero_ok := ⟨by decide, by decide⟩
 rd he h := plainElem_int he (wf_i64.2 h)
 inv {P e v z} he h := by
  obtain ⟨a, rfl, rfl, hw⟩ := plainElem_int_inv he h
  exact ⟨a, rfl, wf_i64.1 hw, rfl⟩
 inj h := by injection h
instance : El Bool where
 val x := .bool x
 lit x := .bool x
 desc := .bool
 ok _ := True
 zero := false
 zero_ok := trivial
 rd he _ := plainElem_bool he _
 inv {P e v z} he h := by
  unfold plainElem at h
  rw [he] at h
  cases v <;> simp at h
  subst h
  exact ⟨_, rfl, trivial, rfl⟩
 inj h := by injection h
def MapV {α : Type} [El α] (P : Program) (k e : TypeId) (w : World) (b n : Nat) (f : Int → Option α) : Prop :=
 ∃ D : DataW Unit, w.ownsMap P k (plainElem P e) b n D ∧ ∀ i, okI i → Maps.has D (.int .i64 i) = (f i).isSome ∧ (∀ z a, f i = some a → D.atKey (.int .i64 i) z = .lit (El.lit a)) ∧ ∀ z, f i = none → D.atKey (.int .i64 i) z = z
def updF {α : Type} (f : Int → Option α) (i : Int) (a : α) : Int → Option α := fun j => if j = i then some a else f j
section
variable {α : Type} [El α] {P : Program} {k e t : TypeId} {w w' : World} {b n : Nat} {f : Int → Option α}
theorem MapV.kept {row : Option Nat} (h : MapV P k e w b n f) (hg : w.grownBy w' row) (hne : some b ≠ row) : MapV P k e w' b n f := by
 obtain ⟨D, h1, h2⟩ := h
 exact ⟨D, h1.kept hg hne, h2⟩
theorem MapV.lt (h : MapV P k e w b n f) : b < w.heap.size := by obtain ⟨D, h1, _⟩ := h; exact h1.lt
theorem MapV.below {B : Nat} (h : MapV P k e w b n f) (hb : Below B w w') (hlt : b < B) : MapV P k e w' b n f := by
 obtain ⟨D, ⟨es, clock, h1, h2⟩, h3⟩ := h
 exact ⟨D, ⟨es, clock, (hb.block b hlt).trans h1, h2⟩, h3⟩
theorem MapV.next (h : MapV P k e w b n f) (hb : Below w.heap.size w w') : MapV P k e w' b n f := h.below hb h.lt
theorem MapV.mono {m : Nat} (h : MapV P k e w b n f) (hm : n ≤ m) : MapV P k e w b m f := by obtain ⟨D, h1, h2⟩ := h; exact ⟨D, h1.mono hm, h2⟩
end
end Go.Cold
namespace Go.Cold
open Go Go.RowKit
structure ElemT (P : Program) (n : Nat) (T TS : TypeId) (bytes : Nat) : Prop where
 sl : P.underlying TS = some (.slice T)
 info : ∃ i z, P.info? T = some i ∧ i.zero = some z ∧ i.size = n ∧ i.bytes = bytes ∧ z.cells.size = n
section
variable {P : Program} {α : Type} [RepS α] {F : Nat → Prop} {w : World} {base bytes : Nat} {T TS : TypeId} {ops : Array Oper} {rest : List Oper} {o : Oper} {a : Act} {Q : Exit → Act → World → Prop}
theorem flat_len {α : Type} [RepS α] {w : World} {S : Nat → Prop} : ∀ {ys : List α} {dss : List (List Value)}, dss.length = ys.length → (∀ (i : Nat) (y : α) (cs : List Value), ys[i]? = some y → dss[i]? = some cs → RepS.rdS w S y cs) → dss.flatten.length = ys.length * Rep.size α ∧ ∀ u ∈ dss.flatten, u.oneCell' = true
 | [], [], _, _ => ⟨by simp, by simp⟩
 | [], _ :: _, h, _ => by simp at h
 | _ :: _, [], h, _ => by simp at h
 | y :: ys, d :: dss, h, hr => by
  have h0 := hr 0 y d rfl rfl
  obtain ⟨h1, h2⟩ := flat_len (ys := ys) (dss := dss) (by simpa using h) (fun i y cs hy hcs => hr (i + 1) y cs (by simpa using hy) (by simpa using hcs))
  refine ⟨by rw [List.flatten_cons, List.length_append, h1, RepS.lenS h0, List.length_cons, Nat.succ_mul, Nat.add_comm], fun u hu => ?_⟩
  rw [List.flatten_cons, List.mem_append] at hu
  exact hu.elim (RepS.one h0 u) (h2 u)
theorem SlS.rows {S : Nat → Prop} {A : Option Addr} {c : Nat} {ys : List α} (h : SlS w S A c ys) (h0 : 0 < ys.length) : ∃ b o, A = some ⟨b, o, none⟩ ∧ S b ∧ ∃ dss : List (List Value), dss.length = ys.length ∧ (∀ (i : Nat) (y : α) (cs : List Value), ys[i]? = some y → dss[i]? = some cs → RepS.rdS w S y cs) ∧
  ∀ j u, dss.flatten[j]? = some u → w.cell? ⟨b, o + j, none⟩ = some u := by
 obtain ⟨b, o, e, hb, hc⟩ := h.2.2 h0
 refine ⟨b, o, e, hb, ?_⟩
 clear h h0
 induction ys generalizing o A with
 | nil => exact ⟨[], rfl, by simp, by simp⟩
 | cons y ys ih =>
  obtain ⟨cs, hr, hcs⟩ := hc 0 y rfl
  obtain ⟨dss, h1, h2, h3⟩ := ih (A := some ⟨b, o + Rep.size α, none⟩) (o + Rep.size α) rfl (fun i x hx => by
   obtain ⟨cs, h4, h5⟩ := hc (i + 1) x (by simpa using hx)
   exact ⟨cs, h4, fun j u hu => by have := h5 j u hu; rw [Nat.succ_mul] at this; rw [← this]; congr 2; omega⟩)
  refine ⟨cs :: dss, by simp [h1], fun i x ds hx hds => ?_, fun j u hu => ?_⟩
  ·
   cases i with
   | zero => simp at hx hds; subst hx; subst hds; exact hr
   | succ i => exact h2 i x ds (by simpa using hx) (by simpa using hds)
  ·
   rw [List.flatten_cons] at hu
   by_cases hj : j < cs.length
   ·
    rw [List.getElem?_append_left hj] at hu
    have := hcs j u hu
    rw [Nat.zero_mul, Nat.zero_add] at this; exact this
   ·
    rw [List.getElem?_append_right (by omega)] at hu
    have := h3 _ u hu
    rw [RepS.lenS hr] at this hj
    rw [← this]; congr 2; omega
theorem run_appL (E : ElemT P (Rep.size α) T TS bytes) (ty : TypeId) (v : Value) (acc : List α) (h : OwnsS F w base T v acc) (A : Option Addr) (c : Nat) (ys : List α)
  (hy : SlS w (fun b => F b ∧ b < w.heap.size ∧ v.ownBlock ≠ some b) A c ys ∨ ys = []) (h1 : acc.length + ys.length ≤ maxLen) (h2 : (acc.length + ys.length) * bytes ≤ 140737488355328) (hb : base ≤ w.heap.size) :
  ∃ v' w', (Builtin.append_ #[TS, TS] ty #[v, .slice A ys.length c]).run P w = .ok v' w' ∧ OwnsS F w' base T v' (acc ++ ys) ∧ w.grownBy w' v.ownBlock ∧ (∀ k, v'.ownBlock = some k → v.ownBlock = some k ∨ w.heap.size ≤ k) := by
 obtain ⟨i, z, hi, hz, hs1, hs2, hs3⟩ := E.info
 obtain ⟨css, o1, o2, o3⟩ := h
 rcases A with _ | A
 ·
  have h0 : ys = [] := by
   rcases hy with hy | hy
   ·
    rcases ys with _ | ⟨y, r⟩
    · rfl
    ·
     obtain ⟨b, o, e, _⟩ := hy.2.2 (by simp)
     cases e
   · exact hy
  subst h0
  refine ⟨v, w, ?_, by rw [List.append_nil]; exact ⟨css, o1, o2, o3⟩, ⟨rfl, rfl, rfl, Nat.le_refl _, fun _ _ _ => rfl⟩, fun k hk => .inl hk⟩
  rcases o1.2 with ⟨rfl, hn⟩ | ⟨g, cap, cur, rfl, _, _, hnc, _⟩
  · simp [Builtin.append_, run_underlying E.sl, sizeOf, typeInfo, hi, Builtin.lenOf, Builtin.firstCells]
  · simp [Builtin.append_, run_underlying E.sl, sizeOf, typeInfo, hi, Builtin.lenOf, Builtin.firstCells, hnc, storeCells]
 ·
  obtain ⟨dss, d1, d2, d3⟩ : ∃ dss : List (List Value), dss.length = ys.length ∧ (∀ (i : Nat) (y : α) (cs : List Value), ys[i]? = some y → dss[i]? = some cs → RepS.rdS w (fun b => F b ∧ b < w.heap.size ∧ v.ownBlock ≠ some b) y cs) ∧ ∀ j u, dss.flatten[j]? = some u → w.cell? (A.add j) = some u := by
   rcases hy with hy | rfl
   ·
    rcases ys with _ | ⟨y, r⟩
    · exact ⟨[], rfl, by simp, by simp⟩
    ·
     obtain ⟨b, o, e, _, dss, d1, d2, d3⟩ := hy.rows (by simp)
     obtain rfl := Option.some.inj e
     exact ⟨dss, d1, d2, fun j u hu => by rw [add_mk]; exact d3 j u hu⟩
   · exact ⟨[], rfl, by simp, by simp⟩
  obtain ⟨f1, f2⟩ := flat_len d1 d2
  obtain ⟨v', w', hr, hown, hg, _, hat⟩ := run_append_own_at (P := P) w base TS ty T i z (Rep.size α) bytes E.sl hi hz hs1 hs2 hs3 RepS.pos v acc.length css.flatten o1 A ys.length c dss.flatten f1 d3 f2 h1 h2 hb
  have hnew : ∀ k, v'.ownBlock = some k → v.ownBlock = some k ∨ w.heap.size ≤ k := fun k hk => hat.elim (fun h => .inl (h.symm.trans hk)) (fun h => .inr (by rw [hk] at h; have := Option.some.inj h; omega))
  exact ⟨v', w', hr, OwnsS.appL o1 o2 o3 d1 d2 hown hg hnew, hg, hnew⟩
theorem run_app1 (E : ElemT P (Rep.size α) T TS bytes) (ty : TypeId) (v : Value) (acc : List α) (h : OwnsS F w base T v acc) (g : Nat) (y : α) (cs : List Value)
  (hc : ∀ (j : Nat) u, cs[j]? = some u → w.cell? ⟨g, j, none⟩ = some u) (hr : RepS.rdS w (fun b => F b ∧ b < w.heap.size ∧ v.ownBlock ≠ some b) y cs)
  (h1 : acc.length + 1 ≤ maxLen) (h2 : (acc.length + 1) * bytes ≤ 140737488355328) (hb : base ≤ w.heap.size) :
  ∃ v' w', (Builtin.append_ #[TS, TS] ty #[v, .slice (some ⟨g, 0, none⟩) 1 1]).run P w = .ok v' w' ∧ OwnsS F w' base T v' (acc ++ [y]) ∧ w.grownBy w' v.ownBlock ∧ (∀ k, v'.ownBlock = some k → v.ownBlock = some k ∨ w.heap.size ≤ k) := by
 obtain ⟨i, z, hi, hz, hs1, hs2, hs3⟩ := E.info
 obtain ⟨css, o1, o2, o3⟩ := h
 obtain ⟨v', w', hr', hown, hg, _, hat⟩ := run_append_own_at (P := P) w base TS ty T i z (Rep.size α) bytes E.sl hi hz hs1 hs2 hs3 RepS.pos v acc.length css.flatten o1 ⟨g, 0, none⟩ 1 1 cs (by rw [RepS.lenS hr, Nat.one_mul]) (fun j u hu => by rw [add_mk, Nat.zero_add]; exact hc j u hu) (RepS.one hr) h1 h2 hb
 have hnew : ∀ k, v'.ownBlock = some k → v.ownBlock = some k ∨ w.heap.size ≤ k := fun k hk => hat.elim (fun h => .inl (h.symm.trans hk)) (fun h => .inr (by rw [hk] at h; have := Option.some.inj h; omega))
 exact ⟨v', w', hr', OwnsS.app o1 o2 o3 hr hown hg hnew, hg, hnew⟩
theorem step_app {K : Act → World → Prop} {Z : Prop} (hgd : o.guard = none) (s x : Operand) (ho : o.op = .call { callee := .builtin .append, args := #[s, x], argTypes := #[TS, TS] }) (v u : Value) (hs : a.eval s = v) (hx : a.eval x = u)
  {R : Value → World → Prop} (hrun : ∃ v' w', (Builtin.append_ #[TS, TS] o.type #[v, u]).run P w = .ok v' w' ∧ R v' w') (hK : ∀ v' w', R v' w' → K (a.put o.dst v') w') :
  if Region.wanted o (yielded ops a.tmps) = true then Oper.wp P o a w K Q else Z := by
 have hw : Region.wanted o (yielded ops a.tmps) = true := by simp [Region.wanted, hgd]
 rw [if_pos hw]
 obtain ⟨v', w', hr, hR⟩ := hrun
 unfold Oper.wp execOp
 simp only [ho, resolve, invoke, builtin, Sem.run_bind, Sem.run_pure, Result.andThen_ok, List.map_toArray, List.map_cons, List.map_nil, hs, hx, hr]
 exact hK _ _ hR
theorem wpList_app {R : Value → World → Prop} (hgd : o.guard = none) (s x : Operand) (ho : o.op = .call { callee := .builtin .append, args := #[s, x], argTypes := #[TS, TS] }) (v u : Value) (hs : a.eval s = v) (hx : a.eval x = u)
  (hrun : ∃ v' w', (Builtin.append_ #[TS, TS] o.type #[v, u]).run P w = .ok v' w' ∧ R v' w') (hK : ∀ v' w', R v' w' → wpList P ops Q rest (a.put o.dst v') w') : wpList P ops Q (o :: rest) a w := by
 refine wpList_plain hgd fun K hK' => ?_
 obtain ⟨v', w', hr, hR⟩ := hrun
 unfold Oper.wp execOp
 simp only [ho, resolve, invoke, builtin, Sem.run_bind, Sem.run_pure, Result.andThen_ok, List.map_toArray, List.map_cons, List.map_nil, hs, hx, hr]
 exact hK' _ _ (hK _ _ hR)
end
theorem ownsRow_low {w : World} {base base' n size : Nat} {T : TypeId} {v : Value} {xs : List Value} (h : w.ownsRow base T size v n xs) (hb : base' ≤ base) : w.ownsRow base' T size v n xs := by
 obtain ⟨h1, h2⟩ := h
 refine ⟨h1, ?_⟩
 rcases h2 with h2 | ⟨g, cap, cur, e, hg, h3⟩
 · exact .inl h2
 · exact .inr ⟨g, cap, cur, e, Nat.le_trans hb hg, h3⟩
theorem OwnsS.low {α : Type} [RepS α] {F : Nat → Prop} {w : World} {base base' : Nat} {T : TypeId} {v : Value} {xs : List α} (h : OwnsS F w base T v xs) (hb : base' ≤ base) : OwnsS F w base' T v xs := by
 obtain ⟨css, h1, h2⟩ := h
 exact ⟨css, ownsRow_low h1 hb, h2⟩
theorem below_own {B : Nat} {a w w' : World} {v : Value} (h : Below B a w) (hg : w.grownBy w' v.ownBlock) (hB : B ≤ w.heap.size) (hv : ∀ k, v.ownBlock = some k → B ≤ k) : Below B a w' := h.grown hg hB hv
end Go.Cold
namespace Go.Cold
open Go Go.RowKit
def foldI (v n : Int) : Int := if n ≤ 1 then 0 else if v.tmod n < 0 then v.tmod n + n else v.tmod n
theorem foldI_range {v n : Int} (h : 1 < n) : 0 ≤ foldI v n ∧ foldI v n < n := by
 unfold foldI
 rw [if_neg (by omega)]
 have h1 := Int.tmod_lt_of_pos v (show 0 < n by omega)
 have h2 : -n < v.tmod n := by
  have := Int.lt_tmod_of_pos v (show 0 < n by omega)
  exact this
 split <;> omega
def TapeAt (w : World) (B b : Nat) (xs : List Int) (k : Nat) : Prop := ∃ A c, w.cell? ⟨b, 0, none⟩ = some (.slice A xs.length c) ∧ w.cell? ⟨b, 1, none⟩ = some (.int .i64 k) ∧
 (∀ j, w.frozen? ⟨b, j, none⟩ = false) ∧ Sl w B A c xs ∧ B ≤ b ∧ b < w.heap.size
def tapeI (xs : List Int) (k : Nat) : Int := match xs[k]? with
 | some v => v
 | none => ((k : Int) * 7).tmod 11
end Go.Cold
namespace Go.Proofs.YtjpoljlgkgmdkaaGreatDoor
open Go.RowKit Go.Cold

theorem Fold_any (v n : Int) (w : World) (hv : okI v) (hn : okI n) : Calls Tryz.prog 33 #[.int .i64 v, .int .i64 n] w fun e w' => e = .returned (.int .i64 (foldI v n)) ∧ w = w' := by
 unfold okI at hv hn
 by_cases h1 : n ≤ 1
 ·
  go_enter Tryz.func33, Tryz.ntmps33
  go_wp2
  go_ret
  exact ⟨ret_int (by rw [foldI, if_pos h1]), rfl⟩
 ·
  have h2 : ¬ n = 0 := by omega
  have hlt := Int.tmod_lt_of_pos v (show 0 < n by omega)
  have hgt := Int.lt_tmod_of_pos v (show 0 < n by omega)
  have hnn : ¬ n = -1 := by omega
  have hf : foldI v n = if v.tmod n < 0 then v.tmod n + n else v.tmod n := by rw [foldI, if_neg h1]
  have HF := Lib.hid hf; clear hf
  by_cases h3 : v.tmod n < 0
  ·
   go_enter Tryz.func33, Tryz.ntmps33
   go_wp2
   go_ret
   exact ⟨ret_int (by rw [HF.out, if_pos h3]), rfl⟩
  ·
   go_enter Tryz.func33, Tryz.ntmps33
   go_wp2
   go_ret
   exact ⟨ret_int (by rw [HF.out, if_neg (by omega)]), rfl⟩

theorem set_at (w : World) (a : Addr) (v : Value) (h : (w.cell? a).isSome) : (w.setCell a v).cell? a = some v := World.cell?_setCell_same' w a v h
theorem tape_next {w : World} {B b c k : Nat} {A : Option Addr} {xs : List Int} (nq : Nat) (h0 : w.cell? ⟨b, 0, none⟩ = some (.slice A xs.length c)) (h1 : w.cell? ⟨b, 1, none⟩ = some (.int .i64 k))
  (hfr : ∀ j, w.frozen? ⟨b, j, none⟩ = false) (hsl : Sl w B A c xs) (hB : B ≤ b) (hlt : b < w.heap.size) : TapeAt ((w.setCell ⟨b, 1, none⟩ (.int .i64 ((k : Int) + 1))).drewN nq) B b xs (k + 1) := by
 have hb : Below B w ((w.setCell ⟨b, 1, none⟩ (.int .i64 ((k : Int) + 1))).drewN nq) := below_drewN ((Below.refl _ _).setCell hB _) nq
 refine ⟨A, c, ?_, ?_, fun j => ?_, hsl.keep hb, hB, by simpa using hlt⟩
 · exact (World.cell?_setCell_other w ⟨b, 1, none⟩ ⟨b, 0, none⟩ _ (fun e => by injection e with _ e; cases e)).trans h0
 · exact (set_at w _ _ (by rw [h1]; rfl)).trans (by simp)
 · exact (World.frozen?_setCell w _ _ _).trans (hfr j)
theorem grown_next {w : World} {b : Nat} {v : Value} (nq : Nat) (_hlt : b < w.heap.size) : w.grownBy ((w.setCell ⟨b, 1, none⟩ v).drewN nq) (some b) := by
 refine ⟨rfl, rfl, rfl, by simp, fun k hk hne => ?_⟩
 have hne' : ¬ k = b := fun e => hne (by rw [e])
 exact Below.heap_setCell _ _ _ _ (by show ¬ _ ; simp; omega)
theorem tape_step {w : World} {B b c k : Nat} {A : Option Addr} {xs : List Int} (nq : Nat) (h0 : w.cell? ⟨b, 0, none⟩ = some (.slice A xs.length c)) (h1 : w.cell? ⟨b, 1, none⟩ = some (.int .i64 k))
  (hfr : ∀ j, w.frozen? ⟨b, j, none⟩ = false) (hsl : Sl w B A c xs) (hB : B ≤ b) (hlt : b < w.heap.size) : TapeAt ((w.setCell ⟨b, 1, none⟩ (.int .i64 ((k : Int) + 1))).drewN nq) B b xs (k + 1) ∧ w.grownBy ((w.setCell ⟨b, 1, none⟩ (.int .i64 ((k : Int) + 1))).drewN nq) (some b) :=
 ⟨tape_next nq h0 h1 hfr hsl hB hlt, grown_next nq hlt⟩
def NextPost (xs : List Int) (k : Nat) (B b : Nat) (n : Int) (w : World) (e : Ending) (w' : World) : Prop := e = .returned (.int .i64 (foldI (tapeI xs k) n)) ∧ TapeAt w' B b xs (k + 1) ∧ w.grownBy w' (some b)
set_option maxRecDepth 10000 in
theorem Next_any (xs : List Int) (k B b : Nat) (n : Int) (w : World) (hn : okI n) (hk : k ≤ 2 ^ 40) (ht : TapeAt w B b xs k) : Calls Tryz.prog 12 #[.pointer (some ⟨b, 0, none⟩), .int .i64 n] w (NextPost xs k B b n w) := by
 obtain ⟨A, c, h0, h1, hfr, hsl, hB, hlt⟩ := ht
 have hx1 := hsl.1; have hx2 := hsl.2.1
 unfold maxLen at hx2
 have HSL := Lib.hid hsl; clear hsl
 by_cases hin : k < xs.length
 ·
  obtain ⟨b3, o3, rfl, hb3, cx, hr⟩ := HSL.out.int hin
  have hv : tapeI xs k = xs[k] := by unfold tapeI; rw [List.getElem?_eq_getElem hin]
  obtain ⟨v, hvv⟩ : ∃ v, xs[k] = v := ⟨_, rfl⟩
  rw [hvv] at cx hr hv
  have HV := Lib.hid hv; clear hv hvv
  have i1 : (k : Int) < (xs.length : Int) := by omega
  have hok : okI v := by unfold okI; omega
  go_enter Tryz.func12, Tryz.ntmps12
  go_wp2_with fail
  go_quiet (fail)
  go_wp2_with fail
  go_quiet (fail)
  go_wp2_with fail
  refine (Fold_any v n _ hok hn).mono ?_; rintro e w' ⟨rfl, rfl⟩
  obtain ⟨z, hz⟩ : ∃ z, foldI v n = z := ⟨_, rfl⟩
  rw [hz]
  have HZ := Lib.hid hz; clear hz
  go_wp2
  go_ret
  exact ⟨ret_int (by rw [HV.out, HZ.out]), tape_step _ h0 h1 hfr HSL.out hB hlt⟩
 ·
  have hv : tapeI xs k = ((k : Int) * 7) % 11 := by
   unfold tapeI
   rw [List.getElem?_eq_none (by omega)]
   show ((k : Int) * 7).tmod 11 = _
   rw [Int.tmod_eq_emod_of_nonneg (by omega)]
  have HV := Lib.hid hv; clear hv
  have i1 : ¬ (k : Int) < (xs.length : Int) := by omega
  have hok : okI (((k : Int) * 7) % 11) := by unfold okI; omega
  go_enter Tryz.func12, Tryz.ntmps12
  go_wp2_with fail
  go_quiet (fail)
  go_wp2_with fail
  refine (Fold_any _ n _ hok hn).mono ?_; rintro e w' ⟨rfl, rfl⟩
  obtain ⟨z, hz⟩ : ∃ z, foldI (((k : Int) * 7) % 11) n = z := ⟨_, rfl⟩
  rw [hz]
  have HZ := Lib.hid hz; clear hz
  go_wp2
  go_ret
  exact ⟨ret_int (by rw [HV.out, HZ.out]), tape_step _ h0 h1 hfr HSL.out hB hlt⟩

def OnePost (xs : List Int) (k B b : Nat) (ys : List ByteArray) (w : World) (e : Ending) (w' : World) : Prop := e = .returned (.string (ys.getD (foldI (tapeI xs k) ys.length).toNat ⟨#[]⟩)) ∧ TapeAt w' B b xs (k + 1) ∧ w.grownBy w' (some b)
set_option maxRecDepth 10000 in
theorem One_any (xs : List Int) (k B b : Nat) (ys : List ByteArray) (b2 o2 c2 : Nat) (w : World) (hk : k ≤ 2 ^ 40) (ht : TapeAt w B b xs k) (h0 : 1 < ys.length) (hy : ys.length ≤ 100) (hc : ys.length ≤ c2) (hc2 : c2 ≤ maxLen) (hne : ¬ b2 = b)
  (hcell : ∀ (i : Nat) y, ys[i]? = some y → w.cell? ⟨b2, o2 + i, none⟩ = some (.string y)) :
  Calls Tryz.prog 13 #[.pointer (some ⟨b, 0, none⟩), .slice (some ⟨b2, o2, none⟩) ys.length c2] w (OnePost xs k B b ys w) := by
 have hf := @foldI_range (tapeI xs k) ys.length (by omega)
 have hz : ((ys.length : Int) == 0) = false := by simp; rintro rfl; simp at h0
 have hcall := Next_any xs k B b ys.length w (by unfold okI; omega) hk ht
 have HCALL := Lib.hid hcall; clear hcall ht
 have HCELL := Lib.hid hcell; clear hcell
 unfold maxLen at hc2
 go_enter Tryz.func13, Tryz.ntmps13
 go_wp2_with fail
 refine HCALL.out.mono ?_
 rintro e w1 ⟨rfl, htape, hg⟩
 obtain ⟨m, hm⟩ := Int.eq_ofNat_of_zero_le hf.1
 have hml : m < ys.length := by omega
 have hget : ys[m]? = some ys[m] := List.getElem?_eq_getElem hml
 have hD : ys.getD (foldI (tapeI xs k) ys.length).toNat ⟨#[]⟩ = ys[m] := by rw [hm, List.getD_eq_getElem?_getD, Int.toNat_natCast, hget]; rfl
 have hc1 := hg.cell (HCELL.out m ys[m] hget) (fun e => hne (Option.some.inj e))
 rw [hm] at hf ⊢
 obtain ⟨y, hyy⟩ : ∃ y, ys[m] = y := ⟨_, rfl⟩
 rw [hyy] at hc1 hD
 have HD := Lib.hid hD; clear hD hget hyy hm
 have HT := Lib.hid htape; have HG := Lib.hid hg; clear htape hg
 have i1 : (m : Int) < (ys.length : Int) := by omega
 go_wp2
 go_ret
 exact ⟨ret_str (by rw [HD.out]), HT.out, HG.out⟩
end Go.Proofs.YtjpoljlgkgmdkaaGreatDoor
namespace Go.Cold
open Go Go.RowKit
theorem TapeAt.kept {w w' : World} {B b k : Nat} {xs : List Int} {row : Option Nat} (h : TapeAt w B b xs k) (hg : w.grownBy w' row) (hne : some b ≠ row) (hB : ∀ g, row = some g → B ≤ g) : TapeAt w' B b xs k := by
 obtain ⟨A, c, h0, h1, hf, hsl, hBb, hlt⟩ := h
 have hh := hg.block b hlt hne
 have hbl : Below B w w' := (Below.refl B w).grown hg (by omega) hB
 exact ⟨A, c, (cell_heap hh 0).trans h0, (cell_heap hh 1).trans h1, fun j => (frozen_heap hh j).trans (hf j), hsl.keep hbl, hBb, Nat.lt_of_lt_of_le hlt hg.size⟩
theorem TapeAt.set_ {w : World} {B b k g j : Nat} {xs : List Int} (h : TapeAt w B b xs k) (hne : g ≠ b) (hB : B ≤ g) (v : Value) : TapeAt (w.setCell ⟨g, j, none⟩ v) B b xs k := by
 obtain ⟨A, c, h0, h1, hf, hsl, hBb, hlt⟩ := h
 exact ⟨A, c, (cell_set_far w ⟨g, j, none⟩ v b 0 hne).trans h0, (cell_set_far w ⟨g, j, none⟩ v b 1 hne).trans h1, fun i => (World.frozen?_setCell w _ _ _).trans (hf i), hsl.keep ((Below.refl _ _).setCell (by exact hB) _), hBb, by simpa using hlt⟩
theorem foldI_pos {v n : Int} (h : 1 ≤ n) : 0 ≤ foldI v n ∧ foldI v n < n := by
 by_cases h1 : 1 < n
 · exact foldI_range h1
 · unfold foldI; rw [if_pos (by omega)]; omega
end Go.Cold
namespace Go.Cold
open Go Go.RowKit
end Go.Cold
namespace Go.Proofs.YtjpoljlgkgmdkaaGreatDoor
open Go.RowKit Go.Cold
end Go.Proofs.YtjpoljlgkgmdkaaGreatDoor
namespace Go.Proofs.YtjpoljlgkgmdkaaGreatDoor
open Go.RowKit Go.Cold
theorem info_attr : (Tryz.prog.info? 53).map (fun i => (i.zero, i.size, i.bytes)) = some (some (.agg #[.string ByteArray.empty, .string ByteArray.empty]), 2, 32) := by kernel_rfl
theorem E_attr : ElemT Tryz.prog (Rep.size Attr) 53 26 32 := ⟨Tryz.underlying26, by obtain ⟨i, hi, hz, h1, h2⟩ := info_parts info_attr; exact ⟨i, _, hi, hz, h1, h2, rfl⟩⟩
end Go.Proofs.YtjpoljlgkgmdkaaGreatDoor
namespace Go.Cold
open Go Go.RowKit
theorem getD_mem {ys : List ByteArray} {m : Nat} (h : m < ys.length) : ys.getD m ⟨#[]⟩ ∈ ys := by
 rw [List.getD_eq_getElem?_getD, List.getElem?_eq_getElem h]
 exact List.getElem_mem h
theorem SlS.tape {α : Type} [RepS α] {w w' : World} {A : Option Addr} {c b : Nat} {xs : List α} {S : Nat → Prop} (h : SlS w S A c xs) (hg : w.grownBy w' (some b)) (hS : ∀ x, S x → x ≠ b) : SlS w' S A c xs :=
 h.mono (fun _ hb => hb) (fun x o u hx hu => hg.cell hu (fun e => hS x hx (Option.some.inj e)))
end Go.Cold
namespace Go.Proofs.YtjpoljlgkgmdkaaGreatDoor
open Go.RowKit Go.Cold
def OneL (xs : List Int) (k B b : Nat) (ys : List ByteArray) (w : World) (e : Ending) (w' : World) : Prop := ∃ y, y ∈ ys ∧ e = .returned (.string y) ∧ TapeAt w' B b xs (k + 1) ∧ w.grownBy w' (some b)
theorem One_lit (ys : List ByteArray) (xs : List Int) (k B b : Nat) (cs : Array Value) (T : TypeId) (w : World) (n : Nat) (hcs : cs.toList = ys.map Value.string) (hn : n = ys.length) (hk : k ≤ 2 ^ 40) (ht : TapeAt w B b xs k) (h0 : 1 < ys.length) (hy : ys.length ≤ 100) :
  Calls Tryz.prog 13 #[.pointer (some ⟨b, 0, none⟩), .slice (some ⟨w.heap.size, 0, none⟩) n n] (w.alloc (.cells cs T)) (OneL xs k B b ys w) := by
 subst hn
 have hlt : b < w.heap.size := by obtain ⟨_, _, _, _, _, _, _, h⟩ := ht; exact h
 have hB : B ≤ w.heap.size := by obtain ⟨_, _, _, _, _, _, h1, h2⟩ := ht; omega
 have hb : Below w.heap.size w (w.alloc (.cells cs T)) := (Below.refl _ _).alloc (Nat.le_refl _) _
 refine (One_any xs k B b ys w.heap.size 0 ys.length (w.alloc (.cells cs T)) hk (ht.kept (grown_none hb) (fun e => by cases e) (fun g e => by cases e)) h0 hy (Nat.le_refl _) (by unfold maxLen; omega) (by omega) (fun i y hi => ?_)).mono ?_
 ·
  rw [Nat.zero_add, World.cell?_alloc_at _ _ _ _ rfl]
  have h1 : cs.toList[i]? = some (.string y) := by rw [hcs, List.getElem?_map, hi]; rfl
  rw [Array.getElem?_toList] at h1; exact h1
 ·
  rintro e w' ⟨rfl, h1, h2⟩
  have hf := @foldI_range (tapeI xs k) ys.length (by omega)
  exact ⟨_, getD_mem (by omega), rfl, h1, grown_trans (grown_none hb |> fun h => ⟨h.os, h.tape, h.output, h.size, fun k hk _ => h.block k hk (by simp)⟩) h2⟩
def NextL (lo hi : Int) (xs : List Int) (k B b : Nat) (w : World) (e : Ending) (w' : World) : Prop := ∃ n : Int, lo ≤ n ∧ n < hi ∧ e = .returned (.int .i64 n) ∧ TapeAt w' B b xs (k + 1) ∧ w.grownBy w' (some b)
theorem Next_lit (n : Int) (xs : List Int) (k B b : Nat) (w : World) (hk : k ≤ 2 ^ 40) (ht : TapeAt w B b xs k) (h1 : 1 ≤ n) (h2 : n ≤ 1000000) : Calls Tryz.prog 12 #[.pointer (some ⟨b, 0, none⟩), .int .i64 n] w (NextL 0 n xs k B b w) :=
 (Next_any xs k B b n w (by unfold okI; omega) hk ht).mono fun e w' ⟨h3, h4, h5⟩ => ⟨_, (foldI_pos h1).1, (foldI_pos h1).2, h3, h4, h5⟩
end Go.Proofs.YtjpoljlgkgmdkaaGreatDoor
namespace Go.Cold
open Go Go.RowKit
theorem SlS.set_ {α : Type} [RepS α] {w : World} {A : Option Addr} {c g j : Nat} {xs : List α} {S : Nat → Prop} (h : SlS w S A c xs) (hS : ∀ x, S x → x ≠ g) (v : Value) : SlS (w.setCell ⟨g, j, none⟩ v) S A c xs :=
 h.mono (fun _ hb => hb) (fun x o u hx hu => (cell_set_far w ⟨g, j, none⟩ v x o (fun e => hS x hx e.symm)).trans hu)
theorem SlS.below {α : Type} [RepS α] {w w' : World} {A : Option Addr} {c : Nat} {xs : List α} {S : Nat → Prop} (h : SlS w S A c xs) (hb : Below w.heap.size w w') (hS : ∀ x, S x → x < w.heap.size) : SlS w' S A c xs :=
 h.mono (fun _ hb => hb) (fun x o u hx hu => (hb.cell (p := ⟨x, o, none⟩) (hS x hx)).trans hu)
theorem SlS.sl {α : Type} [RepS α] {w : World} {A : Option Addr} {c B : Nat} {xs : List α} {S : Nat → Prop} (h : SlS w S A c xs) (hS : ∀ x, S x → x < B) : Sl w B A c xs := SlS_iff.2 (h.mono hS (fun _ _ _ _ hu => hu))
structure DvK (w0 : World) (B b g3 g4 g5 : Nat) (S : Nat → Prop) : Prop where
 lt : b < w0.heap.size
 le : B ≤ b
 i3 : w0.heap.size ≤ g3
 i4 : g3 < g4
 i5 : g4 < g5
 s : ∀ x, S x → g4 < x ∧ x ≠ g5
def StD (w0 : World) (B b : Nat) (xs : List Int) (k g3 g4 g5 : Nat) (t3 : Value) (cs : List Value) (S : Nat → Prop) (A : Option Addr) (c : Nat) (l : List Attr) (w : World) : Prop :=
 TapeAt w B b xs k ∧ w0.grownBy w (some b) ∧ BoxL w g3 [t3] ∧ BoxL w g4 zero10 ∧ BoxL w g5 cs ∧ SlS w S A c l ∧ ∀ x, S x → x < w.heap.size
section
variable {w0 w w' : World} {B b k k' g3 g4 g5 c : Nat} {xs : List Int} {t3 : Value} {cs : List Value} {S : Nat → Prop} {A : Option Addr} {l : List Attr}
theorem StD.tape (h : StD w0 B b xs k g3 g4 g5 t3 cs S A c l w) (K : DvK w0 B b g3 g4 g5 S) (ht : TapeAt w' B b xs k') (hg : w.grownBy w' (some b)) : StD w0 B b xs k' g3 g4 g5 t3 cs S A c l w' := by
 obtain ⟨h1, h2, h3, h4, h5, h6, h7⟩ := h
 obtain ⟨a1, a2, a3, a4, a5, a6⟩ := K
 exact ⟨ht, grown_trans h2 hg, h3.kept hg (fun e => by have := Option.some.inj e; omega), h4.kept hg (fun e => by have := Option.some.inj e; omega), h5.kept hg (fun e => by have := Option.some.inj e; omega),
  h6.tape hg (fun x hx => by have := a6 x hx; omega), fun x hx => by have := h7 x hx; have := hg.size; omega⟩
theorem StD.below (h : StD w0 B b xs k g3 g4 g5 t3 cs S A c l w) (hb : Below w.heap.size w w') : StD w0 B b xs k g3 g4 g5 t3 cs S A c l w' := by
 obtain ⟨h1, h2, h3, h4, h5, h6, h7⟩ := h
 exact ⟨h1.kept (grown_none hb) (fun e => by cases e) (fun g e => by cases e), grown_below h2 hb, h3.kept (grown_none hb) (fun e => by cases e), h4.kept (grown_none hb) (fun e => by cases e), h5.kept (grown_none hb) (fun e => by cases e), h6.below hb h7, fun x hx => by have := h7 x hx; have := hb.size; omega⟩
theorem StD.set_ (h : StD w0 B b xs k g3 g4 g5 t3 cs S A c l w) (K : DvK w0 B b g3 g4 g5 S) {j : Nat} (hj : j < cs.length) (v : Value) : StD w0 B b xs k g3 g4 g5 t3 (cs.set j v) S A c l (w.setCell ⟨g5, j, none⟩ v) := by
 obtain ⟨h1, h2, h3, h4, h5, h6, h7⟩ := h
 obtain ⟨a1, a2, a3, a4, a5, a6⟩ := K
 exact ⟨h1.set_ (by omega) (by omega) v, grown_set h2 (by omega) v, h3.far (by omega) v, h4.far (by omega) v, h5.set_ hj v, h6.set_ (fun x hx => (a6 x hx).2) v, fun x hx => by simpa using h7 x hx⟩
theorem StD.drew (h : StD w0 B b xs k g3 g4 g5 t3 cs S A c l w) : StD w0 B b xs k g3 g4 g5 t3 cs S A c l w.drew := h.below (below_drewN_self w _ 1)
end
structure TreeIn (w : World) (b : Nat) (S : Nat → Prop) (A : Option Addr) (c : Nat) (L : List Dev) : Prop where
 sl : SlS w S A c L
 ne : ∀ x, S x → x ≠ b
 lt : ∀ x, S x → x < w.heap.size
theorem TreeIn.tape {w w' : World} {b : Nat} {S : Nat → Prop} {A : Option Addr} {c : Nat} {L : List Dev} (h : TreeIn w b S A c L) (hg : w.grownBy w' (some b)) : TreeIn w' b S A c L :=
 ⟨h.sl.tape hg h.ne, h.ne, fun x hx => by have := h.lt x hx; have := hg.size; omega⟩
theorem TreeIn.out {w : World} {b : Nat} {S : Nat → Prop} {A : Option Addr} {c : Nat} {L : List Dev} (h : TreeIn w b S A c L) : Sl w w.heap.size A c L := h.sl.sl h.lt
end Go.Cold
namespace Go.Proofs.YtjpoljlgkgmdkaaGreatDoor
open Go.RowKit Go.Cold
end Go.Proofs.YtjpoljlgkgmdkaaGreatDoor
namespace Go.Cold
open Go Go.RowKit
theorem SlS.drop_ {α : Type} [RepS α] {w : World} {S : Nat → Prop} {A : Option Addr} {c m : Nat} {xs : List α} (h : SlS w S A c xs) :
  SlS w S (if c = m then A else A.map (·.add (m * Rep.size α))) (c - m) (xs.drop m) ∨ xs.drop m = [] := by
 by_cases hm : m < xs.length
 ·
  left
  obtain ⟨b, o, e, hb, hc⟩ := h.2.2 (by omega)
  have hcm : ¬ c = m := by have := h.1; omega
  refine ⟨by rw [List.length_drop]; have := h.1; omega, by have := h.2.1; omega, fun _ => ⟨b, o + m * Rep.size α, by rw [if_neg hcm, e]; simp [add_mk], hb, fun i x hx => ?_⟩⟩
  rw [List.getElem?_drop] at hx
  obtain ⟨cs, h1, h2⟩ := hc (m + i) x hx
  refine ⟨cs, h1, fun j u hu => ?_⟩
  have := h2 j u hu
  rw [Nat.add_mul] at this
  rw [← this]; congr 2; omega
 ·
  right
  exact List.drop_eq_nil_of_le (by omega)
theorem sliced_take {A : Option Addr} {c m s : Nat} : sliced A 0 m c s = .slice A m c := by
 unfold sliced
 cases A with
 | none => simp
 | some ad => simp [Addr.add]
theorem SlS.low {α : Type} [RepS α] {w : World} {S : Nat → Prop} {A : Option Addr} {c B : Nat} {xs : List α} (h : SlS w S A c xs) (hS : ∀ x, S x → x < B) (hB : B ≤ w.heap.size) : Sl w w.heap.size A c xs := (h.sl hS).more hB
end Go.Cold
namespace Go.Proofs.YtjpoljlgkgmdkaaGreatDoor
open Go.RowKit Go.Cold
theorem E_txt : ElemT Tryz.prog (Rep.size ByteArray) 9 27 16 := ⟨Tryz.underlying27, by obtain ⟨i, hi, hz, h1, h2⟩ := info_parts info_txt; exact ⟨i, _, hi, hz, h1, h2, rfl⟩⟩
end Go.Proofs.YtjpoljlgkgmdkaaGreatDoor
namespace Go.Cold
open Go Go.RowKit
def TrSt (w0 : World) (B b : Nat) (xs : List Int) (k g4 g5 : Nat) (A : Option Addr) (c : Nat) (L : List Dev) (w : World) : Prop :=
 TapeAt w B b xs k ∧ w0.grownBy w (some b) ∧ BoxL w g4 [.slice none 0 0] ∧ BoxL w g5 [.slice A L.length c] ∧ SlS w (fun x => g5 < x ∧ x < w.heap.size) A c L
def TrK (w0 : World) (B b g4 g5 : Nat) : Prop := b < w0.heap.size ∧ B ≤ b ∧ w0.heap.size ≤ g4 ∧ g4 < g5
section
variable {w0 w w' : World} {B b k k' g4 g5 c : Nat} {xs : List Int} {A : Option Addr} {L : List Dev}
theorem TrSt.tape (h : TrSt w0 B b xs k g4 g5 A c L w) (K : TrK w0 B b g4 g5) (ht : TapeAt w' B b xs k') (hg : w.grownBy w' (some b)) : TrSt w0 B b xs k' g4 g5 A c L w' := by
 obtain ⟨h1, h2, h3, h4, h5⟩ := h
 obtain ⟨a1, a2, a3, a4⟩ := K
 exact ⟨ht, grown_trans h2 hg, h3.kept hg (fun e => by have := Option.some.inj e; omega), h4.kept hg (fun e => by have := Option.some.inj e; omega),
  h5.mono (fun x hx => ⟨hx.1, by have := hg.size; omega⟩) (fun x o u hx hu => hg.cell hu (fun e => by have h : x = b := Option.some.inj e; omega))⟩
theorem TrSt.below (h : TrSt w0 B b xs k g4 g5 A c L w) (hb : Below w.heap.size w w') : TrSt w0 B b xs k g4 g5 A c L w' := by
 obtain ⟨h1, h2, h3, h4, h5⟩ := h
 exact ⟨h1.kept (grown_none hb) (fun e => by cases e) (fun g e => by cases e), grown_below h2 hb, h3.kept (grown_none hb) (fun e => by cases e), h4.kept (grown_none hb) (fun e => by cases e),
  h5.mono (fun x hx => ⟨hx.1, by have := hb.size; omega⟩) (fun x o u hx hu => (hb.cell (p := ⟨x, o, none⟩) (by exact hx.2)).trans hu)⟩
theorem TrSt.drew (h : TrSt w0 B b xs k g4 g5 A c L w) : TrSt w0 B b xs k g4 g5 A c L w.drew := h.below (below_drewN_self w _ 1)
theorem TrSt.put {A' : Option Addr} {c' : Nat} {L' : List Dev} (h : TrSt w0 B b xs k g4 g5 A c L w) (K : TrK w0 B b g4 g5) (hs : SlS w (fun x => g5 < x ∧ x < w.heap.size) A' c' L') : TrSt w0 B b xs k g4 g5 A' c' L' (w.setCell ⟨g5, 0, none⟩ (.slice A' L'.length c')) := by
 obtain ⟨h1, h2, h3, h4, h5⟩ := h
 obtain ⟨a1, a2, a3, a4⟩ := K
 exact ⟨h1.set_ (by omega) (by omega) _, grown_set h2 (by omega) _, h3.far (by omega) _, h4.set_ (j := 0) (by simp) _, (hs.set_ (fun x hx => by omega) _).mono (fun x hx => ⟨hx.1, by simpa using hx.2⟩) (fun _ _ _ _ hu => hu)⟩
end
end Go.Cold
namespace Go.Proofs.YtjpoljlgkgmdkaaGreatDoor
open Go.RowKit Go.Cold
def NotG (b : Nat) : Prop := ¬ b = 0
theorem Ok.tape {w w' : World} {b : Nat} (h : Ok w) (hg : w.grownBy w' (some b)) (hb : NotG b) : Ok w' := by
 obtain ⟨m, hm⟩ := h
 exact ⟨m, hg.cell hm (fun e => hb (Option.some.inj e).symm)⟩
end Go.Proofs.YtjpoljlgkgmdkaaGreatDoor
namespace Go.Cold
open Go Go.RowKit
end Go.Cold
namespace Go.Proofs.YtjpoljlgkgmdkaaGreatDoor
open Go.RowKit Go.Cold
end Go.Proofs.YtjpoljlgkgmdkaaGreatDoor
namespace Go.Cold
open Go Go.RowKit
def orgM (L : List Dev) : Int → Option ByteArray := L.foldl (fun f d => updF f d.idx (((f d.par).getD ByteArray.empty ++ ⟨#[47]⟩) ++ d.orig)) (fun _ => none)
def plGo : List Dev → Nat → (Int → Option Int) → (Int → Option Int)
 | [], _, f => f
 | d :: r, i, f => plGo r (i + 1) (updF f d.idx (i : Int))
def plM (L : List Dev) : Int → Option Int := plGo L 0 (fun _ => none)
def LkSt (P : Program) (tI tS : TypeId) (w0 : World) (g1 g2 g3 bp bo : Nat) (A : Option Addr) (c : Nat) (L : List Dev) (k : Nat) (w : World) : Prop :=
 Below w0.heap.size w0 w ∧ BoxL w g1 [.slice A L.length c] ∧ BoxL w g2 [.slice none 0 0, .map none, .map none] ∧ BoxL w g3 [.slice A L.length c, .map (some bp), .map (some bo)] ∧ MapV P tI tI w bp k (plM (L.take k)) ∧ MapV P tI tS w bo k (orgM (L.take k))
theorem LkSt.below {P : Program} {tI tS : TypeId} {w0 w w' : World} {g1 g2 g3 bp bo c k : Nat} {A : Option Addr} {L : List Dev} (h : LkSt P tI tS w0 g1 g2 g3 bp bo A c L k w) (hb : Below w.heap.size w w') : LkSt P tI tS w0 g1 g2 g3 bp bo A c L k w' := by
 obtain ⟨h1, h2, h3, h4, h5, h6⟩ := h
 exact ⟨h1.trans (hb.mono h1.size), h2.kept (grown_none hb) (fun e => by cases e), h3.kept (grown_none hb) (fun e => by cases e), h4.kept (grown_none hb) (fun e => by cases e), h5.next hb, h6.next hb⟩
section
variable {α : Type} [El α] {P : Program} {k e t : TypeId} {w w' : World} {b n : Nat} {f : Int → Option α}
end
end Go.Cold
namespace Go.Proofs.YtjpoljlgkgmdkaaGreatDoor
open Go.RowKit Go.Cold
end Go.Proofs.YtjpoljlgkgmdkaaGreatDoor
namespace Go.Cold
open Go Go.RowKit
end Go.Cold
namespace Go.Proofs.YtjpoljlgkgmdkaaGreatDoor
open Go.RowKit Go.Cold
end Go.Proofs.YtjpoljlgkgmdkaaGreatDoor
namespace Go.Cold
open Go Go.RowKit
end Go.Cold
namespace Go.Proofs.YtjpoljlgkgmdkaaGreatDoor
open Go.RowKit Go.Cold
end Go.Proofs.YtjpoljlgkgmdkaaGreatDoor
namespace Go.Cold
open Go Go.RowKit
def chkAll (L : List Dev) : Int := if 256 < L.length then 40 else chkGo chkP [] L
theorem chk_step {L : List Dev} {k : Nat} {y : Dev} (hk : L[k]? = some y) : chkGo chkP (L.take k) (L.drop k) = if chkP (L.take k) y ≠ 0 then chkP (L.take k) y else chkGo chkP (L.take (k + 1)) (L.drop (k + 1)) := by
 obtain ⟨h1, h2⟩ := List.getElem?_eq_some_iff.1 hk
 rw [List.drop_eq_getElem_cons h1, h2, chkGo, List.take_add_one, hk]
 rfl
def ChkAt (L : List Dev) (k : Nat) : Prop := chkGo chkP [] L = chkGo chkP (L.take k) (L.drop k) ∧ ∀ d ∈ L.take k, d.orig.size ≤ 32
theorem ChkAt.next {L : List Dev} {k : Nat} {y : Dev} (h : ChkAt L k) (hk : L[k]? = some y) (hc : chkP (L.take k) y = 0) (hs : y.orig.size ≤ 32) : ChkAt L (k + 1) := by
 refine ⟨by rw [h.1, chk_step hk, if_neg (by simp [hc])], fun d hd => ?_⟩
 rw [List.take_add_one, hk] at hd
 rcases List.mem_append.1 hd with hd | hd
 · exact h.2 d hd
 · simp at hd; subst hd; exact hs
theorem ChkAt.end_ {L : List Dev} (h : ChkAt L L.length) (hl : ¬ 256 < L.length) : chkAll L = 0 := by
 unfold chkAll
 rw [if_neg hl, h.1, List.take_length, List.drop_length]; rfl
end Go.Cold
namespace Go.Proofs.YtjpoljlgkgmdkaaGreatDoor
open Go.RowKit Go.Cold
end Go.Proofs.YtjpoljlgkgmdkaaGreatDoor
namespace Go.Cold
open Go Go.RowKit
def KpZ (Z : Nat → Prop) (W W' : World) : Prop := W.heap.size ≤ W'.heap.size ∧ ∀ k, k < W.heap.size → Z k → W'.heap[k]? = W.heap[k]?
theorem KpZ.refl (Z : Nat → Prop) (W : World) : KpZ Z W W := ⟨Nat.le_refl _, fun _ _ _ => rfl⟩
theorem KpZ.trans {Z : Nat → Prop} {A B C : World} (h : KpZ Z A B) (k : KpZ Z B C) : KpZ Z A C := ⟨Nat.le_trans h.1 k.1, fun i hi hz => (k.2 i (Nat.lt_of_lt_of_le hi h.1) hz).trans (h.2 i hi hz)⟩
theorem KpZ.below {Z : Nat → Prop} {W W' : World} (h : Below W.heap.size W W') : KpZ Z W W' := ⟨h.size, fun k hk _ => h.block k hk⟩
theorem KpZ.grown {Z : Nat → Prop} {W W' : World} {b : Nat} (h : W.grownBy W' (some b)) (hb : ¬ Z b) : KpZ Z W W' := ⟨h.size, fun k hk hz => h.block k hk (fun e => hb (by rw [← Option.some.inj e]; exact hz))⟩
variable {F : Fence} {n : Nat} {P : Program}
end Go.Cold
namespace Go.Cold
open Go Go.RowKit
def UpSt (P : Program) (tI : TypeId) (gv gi bp bo : Nat) (A : Option Addr) (c N B : Nat) (L : List Dev) (m : Int) (W : World) : Prop :=
 BoxL W gv [.slice A L.length c, .map (some bp), .map (some bo)] ∧ BoxL W gi [.int .i64 m] ∧ MapV P tI tI W bp N (plM L) ∧ Sl W B A c L ∧ B ≤ W.heap.size
section
variable {P : Program} {tI : TypeId} {gv gi bp bo c N B : Nat} {A : Option Addr} {L : List Dev} {m m' : Int} {W W' : World}
theorem UpSt.below (h : UpSt P tI gv gi bp bo A c N B L m W) (hb : Below W.heap.size W W') : UpSt P tI gv gi bp bo A c N B L m W' := by
 obtain ⟨h1, h2, h3, h4, h5⟩ := h
 exact ⟨h1.kept (grown_none hb) (fun e => by cases e), h2.kept (grown_none hb) (fun e => by cases e), h3.next hb, h4.keep (hb.mono h5), Nat.le_trans h5 hb.size⟩
theorem UpSt.put (h : UpSt P tI gv gi bp bo A c N B L m W) (h1 : gi ≠ gv) (h2 : gi ≠ bp) (h3 : B ≤ gi) : UpSt P tI gv gi bp bo A c N B L m' (W.setCell ⟨gi, 0, none⟩ (.int .i64 m')) := by
 obtain ⟨a1, a2, a3, a4, a5⟩ := h
 exact ⟨a1.far h1 _, a2.set_ (j := 0) (by simp) _, a3.kept (grown_one _ gi 0 _) (fun e => h2 (Option.some.inj e).symm), a4.keep ((Below.refl _ _).setCell (by exact h3) _), by simpa using a5⟩
end
abbrev DevX := Dev × Option Addr × Nat
end Go.Cold
namespace Go.Proofs.YtjpoljlgkgmdkaaGreatDoor
open Go.RowKit Go.Cold Go.Shelf
attribute [local go_sem] Oper.semAt_some
end Go.Proofs.YtjpoljlgkgmdkaaGreatDoor
namespace Go.Cold
open Go Go.RowKit
end Go.Cold
namespace Go.Proofs.YtjpoljlgkgmdkaaGreatDoor
open Go.RowKit Go.Cold Go.Shelf
attribute [local go_sem] Oper.semAt_some
end Go.Proofs.YtjpoljlgkgmdkaaGreatDoor
namespace Go.Cold
open Go Go.RowKit
end Go.Cold
namespace Go.Proofs.YtjpoljlgkgmdkaaGreatDoor
open Go.RowKit Go.Cold
end Go.Proofs.YtjpoljlgkgmdkaaGreatDoor
namespace Go.Cold
open Go Go.RowKit
def k6 : Dev := ⟨6, 4, ⟨#[115, 100, 97]⟩, ⟨#[115, 100, 97]⟩, ⟨#[98, 108, 111, 99, 107]⟩, ⟨#[]⟩, ⟨#[]⟩, 2, 9, []⟩
end Go.Cold
namespace Go.Proofs.YtjpoljlgkgmdkaaGreatDoor
open Go.RowKit Go.Cold
end Go.Proofs.YtjpoljlgkgmdkaaGreatDoor
namespace Go.Cold
open Go Go.RowKit
end Go.Cold
namespace Go.Proofs.YtjpoljlgkgmdkaaGreatDoor
open Go.RowKit Go.Cold
theorem ok_of_shape (W : World) (h : W.ShapedOpen Tryz.prog) : Ok W := Tryz.laysM146.s1_3 W h
theorem tape_new {w : World} {A : Option Addr} {c : Nat} {xs : List Int} (h : Sl w w.heap.size A c xs) : TapeAt (w.alloc (.cells #[.slice A xs.length c, .int .i64 0] 25)) w.heap.size w.heap.size xs 0 := by
 refine ⟨A, c, ?_, ?_, fun j => World.frozen?_alloc_at _ _ _ _ rfl, h.keep ((Below.refl _ _).alloc (Nat.le_refl _) _), Nat.le_refl _, by simp⟩ <;> (rw [World.cell?_alloc_at _ _ _ _ rfl]; rfl)
end Go.Proofs.YtjpoljlgkgmdkaaGreatDoor
