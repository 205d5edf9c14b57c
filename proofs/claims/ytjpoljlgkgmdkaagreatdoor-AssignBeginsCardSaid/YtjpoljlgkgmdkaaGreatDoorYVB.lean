/-
  Walks' tools, for chapter 11: an append to a slice of attributes that has no room, whosever it is; what binary search knows. No program is named here.
-/
import Derived.Test.YtjpoljlgkgmdkaaGreatDoorYSE
import Derived.Test.YtjpoljlgkgmdkaaGreatDoorYC
import Derived.Test.YtjpoljlgkgmdkaaGreatDoorYF
import Derived.Test.YtjpoljlgkgmdkaaGreatDoorYB
import Derived.Test.YtjpoljlgkgmdkaaGreatDoorYA
import Derived.Lib.AppendZeros
import Derived.StillTailTactics
import Derived.Test.YtjpoljlgkgmdkaaGreatDoorYG
import Derived.Lib.SlicesS
set_option linter.unusedSimpArgs false
set_option linter.unusedVariables false
namespace Go.Cold
open Go Go.RowKit
def rowA (l : List Attr) : List Value := (l.map attrCells).flatten
theorem rowA_len : ∀ l : List Attr, (rowA l).length = l.length * 2
 | [] => rfl
 | a :: r => by
  have := rowA_len r
  unfold rowA at this ⊢
  rw [List.map_cons, List.flatten_cons, List.length_append, this, List.length_cons]
  show 2 + _ = _; omega
theorem rowA_cells {w : World} {S : Nat → Prop} {A : Option Addr} {c : Nat} {l : List Attr} (h : SlS w S A c l) (h0 : 0 < l.length) : ∃ b o, A = some ⟨b, o, none⟩ ∧ S b ∧ ∀ j u, (rowA l)[j]? = some u → w.cell? ⟨b, o + j, none⟩ = some u := by
 obtain ⟨b, o, e, hb, dss, d1, d2, d3⟩ := h.rows h0
 refine ⟨b, o, e, hb, ?_⟩
 have : dss = l.map attrCells := by
  apply List.ext_getElem
  · rw [d1, List.length_map]
  ·
   intro i h1 h2
   have hi : i < l.length := by rw [← d1]; exact h1
   have := d2 i l[i] dss[i] (List.getElem?_eq_getElem hi) (List.getElem?_eq_getElem h1)
   rw [List.getElem_map]; exact this.1
 rw [this] at d3
 exact d3
theorem own_attrs {F : Nat → Prop} {w : World} {base : Nat} {T : TypeId} {v : Value} {l : List Attr} (h : w.ownsRow base T 2 v l.length (rowA l)) (hs : ∀ a ∈ l, a.name.size ≤ maxLen ∧ a.value.size ≤ maxLen) : OwnsS F w base T v l := by
 refine ⟨l.map attrCells, h, by rw [List.length_map], fun i x cs hx hcs => ?_⟩
 rw [List.getElem?_map, hx] at hcs
 cases hcs
 exact ⟨rfl, hs x (List.mem_of_getElem? hx)⟩
theorem attr_okS {w : World} {S : Nat → Prop} {A : Option Addr} {c : Nat} {l : List Attr} (h : SlS w S A c l) : ∀ a ∈ l, a.name.size ≤ maxLen ∧ a.value.size ≤ maxLen := fun a ha => by
 have h0 : 0 < l.length := List.length_pos_of_mem ha
 obtain ⟨b, o, e, hb, h4⟩ := h.2.2 h0
 obtain ⟨i, hi, rfl⟩ := List.getElem_of_mem ha
 obtain ⟨cs, h5, -⟩ := h4 i _ (List.getElem?_eq_getElem hi)
 exact h5.2
theorem run_app_full {P : Program} {F S : Nat → Prop} {w : World} {base bytes : Nat} {T TS : TypeId} (E : ElemT P (Rep.size Attr) T TS bytes) (ty : TypeId) (A : Option Addr) (l : List Attr) (h : SlS w S A l.length l) (hA : A = none → l = []) (g : Nat) (y : Attr)
  (hc : ∀ (j : Nat) u, (attrCells y)[j]? = some u → w.cell? ⟨g, j, none⟩ = some u) (hy : y.name.size ≤ maxLen ∧ y.value.size ≤ maxLen)
  (h1 : l.length + 1 ≤ maxLen) (h2 : (l.length + 1) * bytes ≤ 140737488355328) (hb : base ≤ w.heap.size) :
  ∃ v' w', (Builtin.append_ #[TS, TS] ty #[.slice A l.length l.length, .slice (some ⟨g, 0, none⟩) 1 1]).run P w = .ok v' w' ∧ OwnsS F w' base T v' (l ++ [y]) ∧ Below w.heap.size w w' ∧ (∀ k, v'.ownBlock = some k → w.heap.size ≤ k) := by
 obtain ⟨i, z, hi, hz, hs1, hs2, hs3⟩ := E.info
 have hsz : Rep.size Attr = 2 := rfl
 rw [hsz] at hs1 hs3
 cases A with
 | none =>
  obtain rfl := hA rfl
  obtain ⟨v', w', hr, ho, hg, hnew⟩ := run_app1 (F := F) (base := base) E ty (.slice none 0 0) [] (OwnsS.nil_ F w base T) g y (attrCells y) hc ⟨rfl, hy⟩ h1 h2 hb
  refine ⟨v', w', hr, ho, ⟨hg.os, hg.tape, hg.output, hg.size, fun k hk => hg.block k hk (by simp [Value.ownBlock])⟩, fun k hk => ?_⟩
  rcases hnew k hk with h | h
  · simp [Value.ownBlock] at h
  · exact h
 | some a =>
  have hcells : ∃ b, a = b ∧ ∀ j u, (rowA l)[j]? = some u → w.cell? (b.add j) = some u := by
   refine ⟨a, rfl, fun j u hu => ?_⟩
   by_cases h0 : 0 < l.length
   ·
    obtain ⟨b, o, e, -, hcc⟩ := rowA_cells h h0
    obtain rfl := Option.some.inj e
    rw [add_mk]; exact hcc j u hu
   ·
    have : l = [] := List.length_eq_zero_iff.1 (by omega)
    rw [this] at hu
    simp [rowA] at hu
  obtain ⟨_, rfl, holds⟩ := hcells
  have h63 := h1
  unfold maxLen at h63
  have hr := run_append_grow (P := P) w TS ty T i z E.sl hi hz a l.length l.length (rowA l) (by rw [rowA_len, hs1]) holds ⟨g, 0, none⟩ 1 1 (attrCells y) (by rw [hs1]; rfl) (fun j v hv => by rw [add_mk, Nat.zero_add]; exact hc j v hv) (by omega) (by omega) (growslice_fits (by omega) (by rw [hs2]; exact h2))
  have hge := grownCap_ge w (l.length + 1) l.length T
  have hcm : grownCap w (l.length + 1) l.length T ≤ maxLen := grownCap_le_maxLen w (l.length + 1) l.length T h1
  refine ⟨_, _, hr, ?_, (show Below w.heap.size w w.drew from below_drewN_self w w.heap.size 1).alloc (Nat.le_refl _) _, fun k hk => by simp [Value.ownBlock] at hk; omega⟩
  have hl2 : (l ++ [y]).length = l.length + 1 := by rw [List.length_append]; rfl
  have hrow : rowA l ++ attrCells y = rowA (l ++ [y]) := by unfold rowA; simp
  refine own_attrs ?_ (fun b hb2 => ?_)
  ·
   rw [hl2]
   refine ⟨by rw [rowA_len, hl2], .inr ⟨w.heap.size, _, _, rfl, hb, heap_alloc_new w.drew _, hge, hcm, ?_, ?_⟩⟩
   ·
    simp only [Array.size_append, List.size_toArray, size_zeroCells, hs3, rowA_len]
    have : (attrCells y).length = 2 := rfl
    omega
   ·
    simp only [Array.toList_append, List.append_assoc]
    rw [← List.append_assoc, hrow, show (l.length + 1) * 2 = (rowA (l ++ [y])).length by rw [rowA_len, hl2]]
    exact List.take_left
  ·
   rcases List.mem_append.1 hb2 with hb2 | hb2
   · exact attr_okS h b hb2
   · rw [List.mem_singleton] at hb2; rw [hb2]; exact hy
def BsR (l : List Attr) (n : ByteArray) (i j : Nat) : Prop := i ≤ j ∧ j ≤ l.length ∧ (∀ (k : Nat) (a : Attr), l[k]? = some a → k < i → strLt a.name n = true) ∧ ∀ (k : Nat) (a : Attr), l[k]? = some a → j ≤ k → strLt a.name n = false
theorem BsR.start (l : List Attr) (n : ByteArray) : BsR l n 0 l.length := ⟨Nat.zero_le _, Nat.le_refl _, fun k a _ h => by omega, fun k a hk h => by have := (List.getElem?_eq_some_iff.1 hk).1; omega⟩
theorem BsR.left {l : List Attr} {n : ByteArray} {i j h : Nat} {a : Attr} (hr : BsR l n i j) (hs : sortedA l = true) (h1 : i ≤ h) (h2 : h < j) (ha : l[h]? = some a) (hl : strLt a.name n = true) : BsR l n (h + 1) j := by
 refine ⟨by omega, hr.2.1, fun k b hk hlt => ?_, hr.2.2.2⟩
 have hp := posA_spec hs n
 exact (hp k b hk).2 (by have := (hp h a ha).1 hl; omega)
theorem BsR.right {l : List Attr} {n : ByteArray} {i j h : Nat} {a : Attr} (hr : BsR l n i j) (hs : sortedA l = true) (h1 : i ≤ h) (h2 : h < j) (ha : l[h]? = some a) (hl : strLt a.name n = false) : BsR l n i h := by
 refine ⟨h1, by have := hr.2.1; omega, hr.2.2.1, fun k b hk hle => ?_⟩
 have hp := posA_spec hs n
 cases hc : strLt b.name n with
 | false => rfl
 | true =>
  have h3 := (hp k b hk).1 hc
  have := (hp h a ha).2 (by omega)
  rw [hl] at this; cases this
theorem BsR.done {l : List Attr} {n : ByteArray} {i j : Nat} (hr : BsR l n i j) (hs : sortedA l = true) (h : ¬ i < j) : i = posA l n := by
 obtain ⟨h1, h2, h3, h4⟩ := hr
 exact (posA_unique hs (by omega) h3 (fun k a hk hle => h4 k a hk (by omega))).symm
theorem atA_some {l : List Attr} {n : ByteArray} {a : Attr} (h : l[posA l n]? = some a) : atA l n = decide (a.name = n) := by unfold atA; rw [h]
theorem atA_end {l : List Attr} {n : ByteArray} (h : ¬ posA l n < l.length) : atA l n = false := by
 unfold atA
 rw [List.getElem?_eq_none (by omega)]
theorem atA_lt {l : List Attr} {n : ByteArray} (h : atA l n = true) : posA l n < l.length := Decidable.byContradiction fun hc => by rw [atA_end hc] at h; cases h
theorem sl_head {w : World} {B c : Nat} {A : Option Addr} {l : List Attr} (h : Sl w B A c l) {k : Nat} (hk : k ≤ l.length) : Sl w B A k (l.take k) := by
 refine ⟨by rw [List.length_take]; omega, by have := h.2.1; have := h.1; omega, fun hn => ?_⟩
 rw [List.length_take] at hn
 obtain ⟨b', o', e, hb, h4⟩ := h.2.2 (by omega)
 refine ⟨b', o', e, hb, fun i x hx => ?_⟩
 rw [List.getElem?_take] at hx
 split at hx
 · exact h4 i x hx
 · cases hx
end Go.Cold
namespace Go.Cold
open Go Go.RowKit Go.Proofs.YtjpoljlgkgmdkaaGreatDoor
theorem ret_bs {l : List Attr} {n : ByteArray} {i : Int} {b : Bool} (h : i = (posA l n : Int) ∧ atA l n = b) : Ending.returned (.tuple #[.int .i64 i, .bool b]) = .returned (.tuple #[.int .i64 (posA l n : Int), .bool (atA l n)]) := by rw [h.1, h.2]
theorem bs_rel (h : Nat) : Value.int .i64 ((h : Int) + 1) = Value.int .i64 ((h + 1 : Nat) : Int) := by rw [show ((h : Int) + 1) = ((h + 1 : Nat) : Int) by omega]
theorem bs_meas {i j h : Nat} (h1 : i ≤ h) (h2 : h < j) : (intOf (Value.int .i64 (j : Int))).toNat - (intOf (Value.int .i64 ((h : Int) + 1))).toNat < (intOf (Value.int .i64 (j : Int))).toNat - (intOf (Value.int .i64 (i : Int))).toNat := by
 simp only [intOf]; omega
theorem cmp_lt {a n : ByteArray} {z : Int} (h : cmpB a n = z) : strLt a n = decide (z < 0) := by
 rw [Bool.eq_iff_iff, strLt_iff, h, decide_eq_true_eq]
theorem cmp_eq {a n : ByteArray} {z : Int} (h : cmpB a n = z) : decide (a = n) = (z == 0) := by
 rw [Bool.eq_iff_iff, decide_eq_true_eq, beq_iff_eq, ← h]
 exact ⟨cmpB_eq, cmpB_zero⟩
end Go.Cold
namespace Go.Proofs.YtjpoljlgkgmdkaaGreatDoor
open Go.RowKit Go.Cold
theorem set1_any (d : Attr) (n : ByteArray) (w : World) : Calls Tryz.prog 144 #[.agg #[.string d.name, .string d.value], .string n] w fun e w' => e = .returned (.int .i64 (cmpB d.name n)) ∧ Below w.heap.size w w' := by
 go_enter Tryz.func144, Tryz.ntmps144
 go_upto_region 1 with fail
 obtain ⟨w1, hw1⟩ : ∃ w1, w.alloc (.cells #[.string d.name, .string d.value] 53) = w1 := ⟨_, rfl⟩
 have hbw1 : Below w.heap.size w w1 := by rw [← hw1]; exact (Below.refl _ _).alloc (Nat.le_refl _) _
 have HGw1 := Lib.hid (show w1.heap.size = w.heap.size + 1 by rw [← hw1]; simp)
 have HXaw1 := Lib.hid (show BoxL w1 w.heap.size [.string d.name, .string d.value] from box_mk hw1)
 try simp only [hw1]
 have HBw1 := Lib.hid hbw1
 clear hw1 hbw1
 try rw [show w.heap.size + 1 = w1.heap.size from HGw1.out.symm]
 have ca0 := HXaw1.out.1 0 _ rfl
 go_wp2_with fail
 refine (stringsCompare_any d.name n _).mono ?_
 rintro e w9 ⟨rfl, hw_⟩
 rw [hw_]; clear hw_ w9
 obtain ⟨z, hz⟩ : ∃ z, cmpB d.name n = z := ⟨_, rfl⟩
 rw [hz]
 have HZ := Lib.hid hz; clear hz
 go_wp2
 go_ret
 exact ⟨by rw [HZ.out]; rfl, HBw1.out⟩
set_option maxRecDepth 100000 in
set_option maxHeartbeats 4000000 in
theorem BSearch_any (A : Option Addr) (c : Nat) (xs : List Attr) (n : ByteArray) (w : World) (B : Nat) (hB : B ≤ w.heap.size) (hx : Sl w B A c xs) (hs : sortedA xs = true) (hl : xs.length ≤ 4611686018427387904) :
  Calls Tryz.prog 143 #[.slice A xs.length c, .string n, .func (.func 144) #[] #[]] w fun e w' => e = .returned (.tuple #[.int .i64 (posA xs n : Int), .bool (atA xs n)]) ∧ Below w.heap.size w w' := by
 have hx1 := hx.1; have hx2 := hx.2.1
 unfold maxLen at hx2
 have hen := enters_of Tryz.func144 (by kernel_rfl) rfl
 have HX := Lib.hid hx; have HB := Lib.hid hB; have HS := Lib.hid hs; clear hx hB hs
 go_enter Tryz.func143, Tryz.ntmps143
 go_wp2_with fail
 go_loopw [9, 10] (fun u v wr => ∃ i j : Nat, u = .int .i64 (i : Int) ∧ v = .int .i64 (j : Int) ∧ Hid (BsR xs n i j) ∧ Hid (Below w.heap.size w wr)) (fun u v _ => (intOf v).toNat - (intOf u).toNat)
 case atStart => exact ⟨0, xs.length, rfl, rfl, Lib.hid (BsR.start xs n), Lib.hid (Below.refl _ _)⟩
 case round =>
  obtain ⟨i, j, rfl, rfl, HR, HBR⟩ := hrel
  have hij := HR.out.1; have hjl := HR.out.2.1
  by_cases hlt : i < j
  ·
   have i1 : (i : Int) < (j : Int) := by omega
   obtain ⟨h, hh⟩ : ∃ h, (i + j) / 2 = h := ⟨_, rfl⟩
   have h1 : i ≤ h := by omega
   have h2 : h < j := by omega
   have h3 : h < xs.length := by omega
   have i3 : (h : Int) < (xs.length : Int) := by omega
   have hdv : ((i : Int) + (j : Int)) / 2 = (h : Int) := by omega
   have hadd : IntKind.i64.wrap ((i : Int) + (j : Int)) = ((i + j : Nat) : Int) := by rw [IntKind.wrap_i64]; omega
   have hadd2 : wrap64 ((i : Int) + (j : Int)) = ((i + j : Nat) : Int) := by unfold wrap64; omega
   have hcv1 : IntKind.u64.wrap ((i + j : Nat) : Int) = ((i + j : Nat) : Int) := by simp only [IntKind.wrap, IntKind.signed, IntKind.bits]; first | omega | (simp; omega)
   have hcv2 : IntKind.i64.wrap (h : Int) = (h : Int) := by rw [IntKind.wrap_i64]; omega
   obtain ⟨b, o, rfl, hb, hsz, hc0, hc1⟩ := (HX.out.keep (HBR.out.mono HB.out)).attr h3
   have hxk : xs[h]? = some xs[h] := List.getElem?_eq_getElem h3
   obtain ⟨y, hy⟩ : ∃ y, xs[h]'h3 = y := ⟨_, rfl⟩
   rw [hy] at hsz hc0 hc1 hxk
   have HY := Lib.hid hxk; clear hy hsz hb hxk
   go_upto_region 5 with fail
   go_wp2_with fail
   refine Calls.mono (R := fun e W' => e = .returned (.int .i64 (cmpB y.name n)) ∧ Below wr.heap.size wr W') ?_ ?_
   · first | exact set1_any y n wr | simpa using set1_any y n wr
   rintro e w1 ⟨rfl, hb1⟩
   have HB1 := Lib.hid (HBR.out.trans (hb1.mono HBR.out.size)); clear hb1 hc0 hc1
   obtain ⟨z, hz⟩ : ∃ z, cmpB y.name n = z := ⟨_, rfl⟩
   rw [hz]
   have HLT := Lib.hid (cmp_lt hz); clear hz
   by_cases hz0 : z < 0
   ·
    have hinc : IntKind.i64.wrap ((h : Int) + 1) = ((h + 1 : Nat) : Int) := by rw [IntKind.wrap_i64]; omega
    have hinc2 : wrap64 ((h : Int) + 1) = ((h + 1 : Nat) : Int) := by unfold wrap64; omega
    have HN := Lib.hid (HR.out.left HS.out h1 h2 HY.out (by rw [HLT.out]; exact decide_eq_true hz0))
    go_wp2
    go_roundw
    case rel => exact ⟨h + 1, j, bs_rel h, rfl, HN, HB1⟩
    case measure => exact bs_meas h1 h2
   ·
    have HN := Lib.hid (HR.out.right HS.out h1 h2 HY.out (by rw [HLT.out]; exact decide_eq_false hz0))
    go_wp2
    go_roundw
    case rel => exact ⟨i, h, rfl, by simp only [hdv], HN, HB1⟩
    case measure => simp only [intOf, hdv, Int.toNat_natCast]; omega
  ·
   have i1 : ¬ (i : Int) < (j : Int) := by omega
   have hpi := HR.out.done HS.out hlt
   have HPI := Lib.hid hpi
   by_cases hin : i < xs.length
   ·
    have i2 : (i : Int) < (xs.length : Int) := by omega
    obtain ⟨b, o, rfl, hb, hsz, hc0, hc1⟩ := (HX.out.keep (HBR.out.mono HB.out)).attr hin
    have hxk : xs[i]? = some xs[i] := List.getElem?_eq_getElem hin
    obtain ⟨y, hy⟩ : ∃ y, xs[i]'hin = y := ⟨_, rfl⟩
    rw [hy] at hsz hc0 hc1 hxk
    rw [hpi] at hxk
    have HY := Lib.hid (atA_some hxk); clear hy hsz hb hxk hpi
    go_wp2_with fail
    refine Calls.mono (R := fun e W' => e = .returned (.int .i64 (cmpB y.name n)) ∧ Below wr.heap.size wr W') ?_ ?_
    · first | exact set1_any y n wr | simpa using set1_any y n wr
    rintro e w1 ⟨rfl, hb1⟩
    have HB1 := Lib.hid (HBR.out.trans (hb1.mono HBR.out.size)); clear hb1 hc0 hc1
    obtain ⟨z, hz⟩ : ∃ z, cmpB y.name n = z := ⟨_, rfl⟩
    rw [hz]
    have HEQ := Lib.hid (cmp_eq hz); clear hz
    obtain ⟨q, hq⟩ : ∃ q, (z == 0) = q := ⟨_, rfl⟩
    have HQ := Lib.hid hq
    go_wp2
    go_ret2
    exact ⟨ret_bs ⟨by rw [HPI.out], by rw [HY.out, HEQ.out, HQ.out]⟩, HB1.out⟩
   ·
    have i2 : ¬ (i : Int) < (xs.length : Int) := by omega
    have HE := Lib.hid (atA_end (l := xs) (n := n) (by rw [← hpi]; exact hin)); clear hpi
    go_wp2
    go_ret2
    exact ⟨ret_bs ⟨by rw [HPI.out], HE.out⟩, HBR.out⟩
end Go.Proofs.YtjpoljlgkgmdkaaGreatDoor
namespace Go.Cold
open Go Go.RowKit Go.Proofs.YtjpoljlgkgmdkaaGreatDoor
theorem own_grown {w : World} {T : TypeId} {k cap : Nat} {cs : Array Value} (hk : k ≤ cap) (hcap : cap ≤ maxLen) (hcs : cs.size = cap * 2) : OwnsS (α := Attr) (fun _ => False) (w.drew.alloc (.cells cs T)) w.heap.size T (.slice (some ⟨w.heap.size, 0, none⟩) 0 cap) [] := by
 refine ⟨[], ⟨rfl, .inr ⟨w.heap.size, cap, cs, rfl, Nat.le_refl _, heap_alloc_new w.drew _, Nat.zero_le _, hcap, hcs, by simp⟩⟩, rfl, fun i x cs h => by simp at h⟩
end Go.Cold
namespace Go.Proofs.YtjpoljlgkgmdkaaGreatDoor
open Go.RowKit Go.Cold
theorem wpList_appZ {P : Program} {w : World} {ops : Array Oper} {rest : List Oper} {o : Oper} {a : Act} {Q : Exit → Act → World → Prop} {TS TN : TypeId} {R : Value → World → Prop} (hgd : o.guard = none) (s x : Operand) (ho : o.op = .call { callee := .builtin .append, args := #[s, x], argTypes := #[TS, TN] }) (v u : Value) (hs : a.eval s = v) (hx : a.eval x = u)
  (hrun : ∃ v' w', (Builtin.append_ #[TS, TN] o.type #[v, u]).run P w = .ok v' w' ∧ R v' w') (hK : ∀ v' w', R v' w' → wpList P ops Q rest (a.put o.dst v') w') : wpList P ops Q (o :: rest) a w := by
 refine wpList_plain hgd fun K hK' => ?_
 obtain ⟨v', w', hr, hR⟩ := hrun
 unfold Oper.wp execOp
 simp only [ho, resolve, invoke, builtin, Sem.run_bind, Sem.run_pure, Result.andThen_ok, List.map_toArray, List.map_cons, List.map_nil, hs, hx, hr]
 exact hK' _ _ (hK _ _ hR)
set_option maxRecDepth 100000 in
theorem Grow_any (n : Nat) (w : World) (hn : n ≤ 1000000000) :
  Calls Tryz.prog 175 #[.slice none 0 0, .int .i64 (n : Int)] w fun e w' => Below w.heap.size w w' ∧ ∃ v, e = .returned v ∧ OwnsS (α := Attr) (fun _ => False) w' w.heap.size 53 v [] := by
 obtain ⟨i0, z0, hi0, hz0, hs0, hbt, hzs⟩ := E_attr.info
 have hrun : 0 < n → ∃ v' w', (Builtin.append_ #[26, 3] 26 #[.slice none 0 0, .int .i64 (n : Int)]).run Tryz.prog w = .ok v' w' ∧ ∃ cap cs, v' = .slice (some ⟨w.heap.size, 0, none⟩) n cap ∧ w' = w.drew.alloc (.cells cs 53) ∧ n ≤ cap ∧ cap ≤ maxLen ∧ cs.size = cap * 2 := fun h0 => by
  have hr := Lib.run_append_nil_zeros (P := Tryz.prog) w 26 3 26 53 i0 z0 .i64 .i64 Tryz.underlying26 Tryz.underlying3 hi0 hz0 n h0 (by rw [hs0]; show 0 < 2; omega) (by omega) (by rw [hbt]; omega)
  have hge := grownCap_ge w n 0 53
  refine ⟨_, _, hr, _, _, rfl, rfl, hge, grownCap_le_maxLen w n 0 _ (by unfold maxLen; omega), ?_⟩
  rw [Array.size_append, size_zeroCells, size_zeroCells, hzs, show Rep.size Attr = 2 from rfl]
  omega
 have HRUN := Lib.hid hrun; clear hrun hi0 hz0 hs0 hbt hzs
 go_enter Tryz.func175, Tryz.ntmps175
 have w1 : IntKind.i64.wrap ((n : Int) - 0) = (n : Int) := by rw [IntKind.wrap_i64]; omega
 have w2 : wrap64 ((n : Int) - 0) = (n : Int) := by unfold wrap64; omega
 have w3 : IntKind.i64.wrap ((0 : Int) - 0) = 0 := by decide
 have w4 : wrap64 ((n : Int)) = (n : Int) := by unfold wrap64; omega
 have n0 : ¬ (n : Int) < 0 := by omega
 by_cases h0 : n = 0
 ·
  subst h0
  go_wp2
  go_ret
  exact ⟨Below.refl _ _, _, rfl, OwnsS.nil_ _ _ _ _⟩
 ·
  have i1 : (0 : Int) < (n : Int) := by omega
  have i2 : (n : Int) > 0 := by omega
  go_wp2_with (at_builtin; go_must (refine wpList_appZ rfl _ _ rfl (.slice none 0 0) (.int .i64 (n : Int)) rfl rfl (HRUN.out (by omega)) ?_); rintro v1 w1' ⟨cap, cs, rfl, rfl, hcap1, hcap2, hcs⟩)
  go_ret
  exact ⟨(show Below w.heap.size w w.drew from below_drewN_self w w.heap.size 1).alloc (Nat.le_refl _) _, _, rfl, own_grown hcap1 hcap2 hcs⟩
end Go.Proofs.YtjpoljlgkgmdkaaGreatDoor
namespace Go.Cold
open Go Go.RowKit Go.Proofs.YtjpoljlgkgmdkaaGreatDoor
theorem own_anyF {F F' : Nat → Prop} {w : World} {base : Nat} {T : TypeId} {v : Value} {l : List Attr} (h : OwnsS F w base T v l) : OwnsS F' w base T v l := by
 obtain ⟨css, h1, h2, h3⟩ := h
 exact ⟨css, h1, h2, fun i x cs hx hcs => h3 i x cs hx hcs⟩
theorem cell_old31 {w w' : World} {b o : Nat} {v : Value} (h : w.cell? ⟨b, o, none⟩ = some v) (hb : Below w.heap.size w w') : w'.cell? ⟨b, o, none⟩ = some v := (hb.cell (p := ⟨b, o, none⟩) (block_lt_of_cell h)).trans h
theorem srcA {w wr : World} {A : Option Addr} {c : Nat} {l : List Attr} {v : Value} (h : Sl w w.heap.size A c l ∨ l = []) (hb : Below w.heap.size w wr) (hv : ∀ q, v.ownBlock = some q → w.heap.size ≤ q ∧ q < wr.heap.size) : SlS wr (fun b => (fun _ => True) b ∧ b < wr.heap.size ∧ v.ownBlock ≠ some b) A c l ∨ l = [] := by
 rcases h with h | h
 ·
  left
  refine (SlS_iff.1 (h.keep hb)).mono (fun b hlt => ⟨trivial, Nat.lt_of_lt_of_le hlt hb.size, fun e => ?_⟩) (fun _ _ _ _ hu => hu)
  have h1 : b < w.heap.size := hlt
  have := (hv b e).1; omega
 · exact .inr h
end Go.Cold
namespace Go.Proofs.YtjpoljlgkgmdkaaGreatDoor
open Go.RowKit Go.Cold
set_option maxRecDepth 100000 in
set_option maxHeartbeats 4000000 in
theorem Concat_any (b : Nat) (A0 A1 : Option Addr) (c0_ c1_ : Nat) (xs ys : List Attr) (w : World) (c0 : w.cell? ⟨b, 0, none⟩ = some (.slice A0 xs.length c0_)) (c1 : w.cell? ⟨b, 1, none⟩ = some (.slice A1 ys.length c1_)) (hx : Sl w w.heap.size A0 c0_ xs ∨ xs = []) (hy : Sl w w.heap.size A1 c1_ ys ∨ ys = []) (hl : xs.length ≤ 1000000 ∧ ys.length ≤ 1000000) :
  Calls Tryz.prog 145 #[.slice (some ⟨b, 0, none⟩) 2 2] w fun e w' => Below w.heap.size w w' ∧ ∃ v, e = .returned v ∧ OwnsS (fun _ => False) w' w.heap.size 53 v (xs ++ ys) := by
 have HX := Lib.hid hx; have HY := Lib.hid hy; have HC0 := Lib.hid c0; have HC1 := Lib.hid c1; have HL := Lib.hid hl
 clear hx hy
 go_enter Tryz.func145, Tryz.ntmps145
 go_wp2_with fail
 go_loop [3, 11] (fun s i => (i = .int .i64 0 ∧ s = .int .i64 0) ∨ (i = .int .i64 1 ∧ s = .int .i64 (xs.length : Int)) ∨ (i = .int .i64 2 ∧ s = .int .i64 ((xs.length + ys.length : Nat) : Int))) (fun _ i => 2 - (intOf i).toNat)
 case atStart => exact .inl ⟨rfl, rfl⟩
 case round =>
  have hxl := HL.out.1; have hyl := HL.out.2
  have w1 : IntKind.i64.wrap ((0 : Int) + (xs.length : Int)) = (xs.length : Int) := by rw [IntKind.wrap_i64]; omega
  have w2 : IntKind.i64.wrap ((xs.length : Int) + (ys.length : Int)) = ((xs.length + ys.length : Nat) : Int) := by rw [IntKind.wrap_i64]; omega
  have w3 : wrap64 ((xs.length : Int)) = (xs.length : Int) := by unfold wrap64; omega
  have w4 : wrap64 ((xs.length : Int) + (ys.length : Int)) = ((xs.length + ys.length : Nat) : Int) := by unfold wrap64; omega
  have n1 : ¬ (xs.length : Int) < 0 := by omega
  have n2 : ¬ ((xs.length + ys.length : Nat) : Int) < 0 := by omega
  have n3 : ¬ (xs.length : Int) + (ys.length : Int) < 0 := by omega
  rcases hrel with ⟨rfl, rfl⟩ | ⟨rfl, rfl⟩ | ⟨rfl, rfl⟩
  ·
   go_wp2
   go_round
   case rel => exact .inr (.inl ⟨rfl, by first | rfl | go_num⟩)
   case measure => simp [intOf]
  ·
   go_wp2
   go_round
   case rel => exact .inr (.inr ⟨rfl, by first | rfl | go_num⟩)
   case measure => simp [intOf]
  ·
   go_wp2_with fail
   refine (Grow_any (xs.length + ys.length) _ (by omega)).mono ?_
   rintro e wa ⟨hb1, v0, rfl, hown⟩
   have HOWN := Lib.hid (show OwnsS (fun _ => True) wa w.heap.size 53 v0 ([] : List Attr) from own_anyF hown); have HB1 := Lib.hid hb1
   clear hown hb1 w1 w2 w3 w4 n1 n2 n3 c0 c1
   have c0 := cell_old31 HC0.out HB1.out; have c1 := cell_old31 HC1.out HB1.out
   have HC0a := Lib.hid c0; have HC1a := Lib.hid c1
   go_wp2_with fail
   go_loopw [6, 27] (fun v i wr => ∃ (k : Nat) (acc : List Attr), i = .int .i64 (k : Int) ∧ Hid ((k = 0 ∧ acc = []) ∨ (k = 1 ∧ acc = xs) ∨ (k = 2 ∧ acc = xs ++ ys)) ∧ Hid (OwnsS (fun _ => True) wr w.heap.size 53 v acc) ∧ Hid (Below w.heap.size w wr)) (fun _ i _ => 2 - (intOf i).toNat)
   case atStart => exact ⟨0, [], rfl, Lib.hid (.inl ⟨rfl, rfl⟩), HOWN, HB1⟩
   case round =>
    clear c0 c1
    obtain ⟨k, acc, rfl, HK, HO, HBR⟩ := hrel
    have c0 := cell_old31 HC0.out HBR.out; have c1 := cell_old31 HC1.out HBR.out
    have HOB := Lib.hid (HO.out.lt)
    rcases HK.out with ⟨rfl, rfl⟩ | ⟨rfl, rfl⟩ | ⟨rfl, rfl⟩
    ·
     have hap := run_appL E_attr 26 u6 [] HO.out A0 c0_ xs (srcA HX.out HBR.out HOB.out) (by have := HL.out; unfold maxLen; first | omega | (simp; omega)) (by have := HL.out; first | omega | (simp; omega)) HBR.out.size
     have HAP := Lib.hid hap; clear hap
     go_wp2_with (at_builtin; go_must (refine wpList_app rfl _ _ rfl u6 (.slice A0 xs.length c0_) rfl rfl HAP.out ?_); rintro v2 w2 ⟨ho2, hg2, hn2⟩; have HO2 := Lib.hid ho2; have HB2 := Lib.hid (HBR.out.grown hg2 HBR.out.size (fun q hq => (HOB.out q hq).1)); clear ho2 hg2 hn2 c0 c1)
     go_roundw
     case rel => exact ⟨1, xs, rfl, Lib.hid (.inr (.inl ⟨rfl, rfl⟩)), by first | exact HO2 | simpa using HO2, HB2⟩
     case measure => simp [intOf]
    ·
     have hap := run_appL E_attr 26 u6 acc HO.out A1 c1_ ys (srcA HY.out HBR.out HOB.out) (by have := HL.out; unfold maxLen; first | omega | (simp; omega)) (by have := HL.out; first | omega | (simp; omega)) HBR.out.size
     have HAP := Lib.hid hap; clear hap
     go_wp2_with (at_builtin; go_must (refine wpList_app rfl _ _ rfl u6 (.slice A1 ys.length c1_) rfl rfl HAP.out ?_); rintro v2 w2 ⟨ho2, hg2, hn2⟩; have HO2 := Lib.hid ho2; have HB2 := Lib.hid (HBR.out.grown hg2 HBR.out.size (fun q hq => (HOB.out q hq).1)); clear ho2 hg2 hn2 c0 c1)
     go_roundw
     case rel => exact ⟨2, acc ++ ys, rfl, Lib.hid (.inr (.inr ⟨rfl, rfl⟩)), HO2, HB2⟩
     case measure => simp [intOf]
    ·
     go_wp2
     go_ret
     exact ⟨HBR.out, _, rfl, own_anyF HO.out⟩
end Go.Proofs.YtjpoljlgkgmdkaaGreatDoor
namespace Go.Cold
open Go Go.RowKit Go.Proofs.YtjpoljlgkgmdkaaGreatDoor
theorem tailS {w : World} {B B' c i : Nat} {A Ad : Option Addr} {l : List Attr} (hA : (if c = i then A else A.map (·.add (i * 2))) = Ad) (h : Sl w B A c l) (hB : B ≤ B') : Sl w B' Ad (c - i) (l.drop i) ∨ l.drop i = [] := by
 rcases (SlS_iff.1 h).drop_ (m := i) with h1 | h1
 ·
  left
  rw [show Rep.size Attr = 2 from rfl, hA] at h1
  exact (SlS_iff.2 h1).more hB
 · exact .inr h1
theorem tailS1 {w : World} {B c i : Nat} {A Ad : Option Addr} {l : List Attr} (hA : (if c = 1 then A else A.map (·.add (1 * 2))) = Ad) (h : Sl w B A c (l.drop i) ∨ l.drop i = []) : Sl w B Ad (c - 1) (l.drop (i + 1)) ∨ l.drop (i + 1) = [] := by
 rcases h with h | h
 ·
  have := tailS hA h (Nat.le_refl _)
  rw [List.drop_drop] at this
  exact this
 ·
  right
  rw [← List.drop_drop, h]; rfl
end Go.Cold
namespace Go.Proofs.YtjpoljlgkgmdkaaGreatDoor
open Go.RowKit Go.Cold
set_option maxRecDepth 100000 in
set_option maxHeartbeats 4000000 in
theorem DSet_any (A : Option Addr) (c : Nat) (xs : List Attr) (n x : ByteArray) (w : World) (B : Nat) (hB : B ≤ w.heap.size) (hx : Sl w B A c xs) (hs : sortedA xs = true) (hl : xs.length ≤ 1000) (h1 : n.size ≤ maxLen) (h2 : x.size ≤ maxLen) :
  Calls Tryz.prog 113 #[.slice A xs.length c, .string n, .string x] w fun e w' => Below w.heap.size w w' ∧ ∃ v, e = .returned v ∧ OwnsS (fun _ => False) w' w.heap.size 53 v (setA xs n x) := by
 have hx1 := hx.1; have hx2 := hx.2.1
 unfold maxLen at hx2
 have HX := Lib.hid hx; have HB := Lib.hid hB; have HS := Lib.hid hs; have HL := Lib.hid hl; have H1 := Lib.hid h1; have H2 := Lib.hid h2
 clear hx hB hs h1 h2
 go_enter Tryz.func113, Tryz.ntmps113
 go_wp2_with fail
 refine (BSearch_any A c xs n _ B HB.out HX.out HS.out (by have := HL.out; omega)).mono ?_
 rintro e w1 ⟨rfl, hb1⟩
 have HB1 := Lib.hid hb1
 obtain ⟨i, hi⟩ : ∃ i, posA xs n = i := ⟨_, rfl⟩
 have hil := posA_le xs n
 obtain ⟨q, hq⟩ : ∃ q, atA xs n = q := ⟨_, rfl⟩
 rw [hi] at hil ⊢
 rw [hq]
 have HPUT := Lib.hid (show setA xs n x = xs.take i ++ ((if x.toList.isEmpty then [] else [⟨n, x⟩]) ++ xs.drop (i + (if q then 1 else 0))) by rw [set_put HS.out]; unfold putL; rw [hi, hq])
 have HAT := Lib.hid (show q = true → i < xs.length from fun h => by rw [← hi]; exact atA_lt (by rw [hq]; exact h))
 clear hb1 hi hq
 have m1 : (i : Int) ≤ (xs.length : Int) := by omega
 have m2 : (i : Int) ≤ (c : Int) := by omega
 have m3 : i ≤ c := by omega
 go_upto_region 2 with fail
 refine wp_region_held_drew (S := fun w' => w' = w') (by kernel_rfl) rfl (fun hS0 => ?_)
 obtain ⟨wd, hwd⟩ : ∃ z, World.drew w1 = z := ⟨_, rfl⟩
 rw [hwd] at hS0 ⊢
 have hb_ : Below w1.heap.size w1 wd := by rw [← hwd]; exact below_drewN_self _ _ 1
 clear hwd hS0
 have HBwd := Lib.hid (HB1.out.trans (hb_.mono HB1.out.size))
 clear hb_
 refine wpAnyH_take (i := 0) (oi := ⟨some 17, _, _, _, _, _⟩) (v := .slice A xs.length c) rfl (by kernel_rfl) (by kernel_rfl) (by kernel_rfl) (fun _ _ _ h => h) (Or.inl ⟨by rfl, fun w' hS => by go_simp⟩) (by trivial) ?_
 try simp only [Act.put, List.setIfInBounds_toArray, List.set_cons_zero, List.set_cons_succ]
 refine wpAnyH_take (i := 1) (oi := ⟨some 18, _, _, _, _, _⟩) (v := .int .i64 i) rfl (by kernel_rfl) (by kernel_rfl) (by kernel_rfl) (fun _ _ _ h => h) (Or.inl ⟨by rfl, fun w' hS => by go_simp⟩) (by trivial) ?_
 try simp only [Act.put, List.setIfInBounds_toArray, List.set_cons_zero, List.set_cons_succ]
 refine wpAnyH_take (i := 2) (oi := ⟨some 19, _, _, _, _, _⟩) (v := .int .i64 i) rfl (by kernel_rfl) (by kernel_rfl) (by kernel_rfl) (fun _ _ _ h => h) (Or.inl ⟨by rfl, fun w' hS => by go_simp⟩) (by trivial) ?_
 try simp only [Act.put, List.setIfInBounds_toArray, List.set_cons_zero, List.set_cons_succ]
 refine wpAnyH_take (i := 3) (oi := ⟨some 20, _, _, _, _, _⟩) (v := .slice A i i) rfl (by kernel_rfl) (by kernel_rfl) (by kernel_rfl) (fun _ _ _ h => h) (Or.inl ⟨by rfl, fun w' hS => by (rw [← sliced_take (A := A) (c := i) (m := i) (s := 2)]; go_simp)⟩) (by trivial) ?_
 try simp only [Act.put, List.setIfInBounds_toArray, List.set_cons_zero, List.set_cons_succ]
 refine wpAnyH_take (i := 4) (oi := ⟨some 21, _, _, _, _, _⟩) (v := .slice A xs.length c) rfl (by kernel_rfl) (by kernel_rfl) (by kernel_rfl) (fun _ _ _ h => h) (Or.inl ⟨by rfl, fun w' hS => by go_simp⟩) (by trivial) ?_
 try simp only [Act.put, List.setIfInBounds_toArray, List.set_cons_zero, List.set_cons_succ]
 refine wpAnyH_take (i := 5) (oi := ⟨some 22, _, _, _, _, _⟩) (v := .int .i64 i) rfl (by kernel_rfl) (by kernel_rfl) (by kernel_rfl) (fun _ _ _ h => h) (Or.inl ⟨by rfl, fun w' hS => by go_simp⟩) (by trivial) ?_
 try simp only [Act.put, List.setIfInBounds_toArray, List.set_cons_zero, List.set_cons_succ]
 obtain ⟨Ad, hAd⟩ : ∃ z, (if c = i then A else A.map (·.add (i * 2))) = z := ⟨_, rfl⟩
 have HAD := Lib.hid hAd; clear hAd
 refine wpAnyH_take (i := 6) (oi := ⟨some 23, _, _, _, _, _⟩) (v := .slice Ad (xs.length - i) (c - i)) rfl (by kernel_rfl) (by kernel_rfl) (by kernel_rfl) (fun _ _ _ h => h) (Or.inl ⟨by rfl, fun w' hS => by (rw [show (Value.slice Ad (xs.length - i) (c - i)) = sliced A i xs.length c 2 by unfold sliced; rw [HAD.out]]; go_simp)⟩) (by trivial) ?_
 try simp only [Act.put, List.setIfInBounds_toArray, List.set_cons_zero, List.set_cons_succ]
 refine wpAnyH_take (i := 7) (oi := ⟨some 9, _, _, _, _, _⟩) (v := .slice A i i) rfl (by kernel_rfl) (by kernel_rfl) (by kernel_rfl) (fun _ _ _ h => h) (Or.inl ⟨by rfl, fun w' hS => by go_simp⟩) (by trivial) ?_
 try simp only [Act.put, List.setIfInBounds_toArray, List.set_cons_zero, List.set_cons_succ]
 refine wpAnyH_take (i := 8) (oi := ⟨some 10, _, _, _, _, _⟩) (v := .slice Ad (xs.length - i) (c - i)) rfl (by kernel_rfl) (by kernel_rfl) (by kernel_rfl) (fun _ _ _ h => h) (Or.inl ⟨by rfl, fun w' hS => by go_simp⟩) (by trivial) ?_
 try simp only [Act.put, List.setIfInBounds_toArray, List.set_cons_zero, List.set_cons_succ]
 refine wpAnyH_done (by kernel_rfl) ?_ _
 have HTL := Lib.hid (show Sl wd wd.heap.size Ad (c - i) (xs.drop i) ∨ xs.drop i = [] from tailS HAD.out (HX.out.keep (HBwd.out.mono HB.out)) (Nat.le_trans HB.out HBwd.out.size))
 have HHD := Lib.hid (show Sl wd wd.heap.size A i (xs.take i) from (sl_head (HX.out.keep (HBwd.out.mono HB.out)) hil).more (Nat.le_trans HB.out HBwd.out.size))
 have HLD := Lib.hid (show (xs.drop i).length = xs.length - i ∧ (xs.take i).length = i from ⟨List.length_drop, by rw [List.length_take]; omega⟩)
 cases q
 ·
  have HT := HTL; have HTLEN := Lib.hid (show (xs.drop i).length = xs.length - i from HLD.out.1)
  have HQE := Lib.hid (show xs.drop (i + (if false = true then 1 else 0)) = xs.drop i by simp)
  have HTN := Lib.hid (show (xs.drop i).length ≤ 1000000 ∧ (xs.take i).length ≤ 1000000 by have := HL.out; have := HLD.out; constructor; (rw [HTLEN.out]; omega); omega)
  by_cases hv : x.toList.isEmpty = true
  ·
   have hv2 : (x.toList == (⟨#[]⟩ : ByteArray).toList) = true := by rw [show (⟨#[]⟩ : ByteArray).toList = [] by decide +kernel]; cases hq : x.toList with | nil => rfl | cons a r => rw [hq] at hv; cases hv
   have hv3 : (x.toList == []) = true := by cases hq : x.toList with | nil => rfl | cons a r => rw [hq] at hv; cases hv
   have HV := Lib.hid hv; clear hv
   obtain ⟨wa, hwa⟩ : ∃ z, wd.alloc (.cells #[.slice A i i, .slice Ad (xs.length - i) (c - i)] 26) = z := ⟨_, rfl⟩
   have hba : Below wd.heap.size wd wa := by rw [← hwa]; exact (Below.refl _ _).alloc (Nat.le_refl _) _
   have hbx : BoxL wa wd.heap.size [.slice A i i, .slice Ad (xs.length - i) (c - i)] := box_mk hwa
   have HBA := Lib.hid hba; have HBX := Lib.hid hbx; clear hba hbx
   go_wp2_with fail
   refine (Concat_any wd.heap.size A Ad i ((c - i)) (xs.take i) (xs.drop i) _ (by rw [HLD.out.2]; exact HBX.out.1 0 _ rfl) (by rw [HTLEN.out]; exact HBX.out.1 1 _ rfl) (.inl (HHD.out.next (Nat.le_refl _) HBA.out)) (HT.out.imp (fun h => h.next (Nat.le_refl _) HBA.out) id) ⟨HTN.out.2, HTN.out.1⟩).mono ?_
   rintro e wb ⟨hb2, v, rfl, hown⟩
   have HB2 := Lib.hid (HBA.out.trans (hb2.mono HBA.out.size)); have HOWN := Lib.hid (hown.low (show wd.heap.size ≤ wa.heap.size from HBA.out.size)); clear hb2 hown hwa
   have HF := Lib.hid (HBwd.out.trans (HB2.out.mono HBwd.out.size))
   go_wp2
   go_ret
   exact ⟨HF.out, _, rfl, by rw [HPUT.out, if_pos HV.out, List.nil_append, HQE.out]; exact HOWN.out.low HBwd.out.size⟩
  ·
   have hv1 : x.toList.isEmpty = false := by simpa using hv
   have hv2 : (x.toList == (⟨#[]⟩ : ByteArray).toList) = false := by rw [show (⟨#[]⟩ : ByteArray).toList = [] by decide +kernel]; cases hq : x.toList with | nil => rw [hq] at hv1; cases hv1 | cons a r => rfl
   have hv3 : (x.toList == []) = false := by cases hq : x.toList with | nil => rw [hq] at hv1; cases hv1 | cons a r => rfl
   have HV := Lib.hid hv; clear hv hv1
   obtain ⟨wa, hwa⟩ : ∃ z, wd.alloc (.cells #[.string n, .string x] 53) = z := ⟨_, rfl⟩
   have hba : Below wd.heap.size wd wa := by rw [← hwa]; exact (Below.refl _ _).alloc (Nat.le_refl _) _
   have hbx : BoxL wa wd.heap.size [.string n, .string x] := box_mk hwa
   have HBA := Lib.hid hba; have HBX := Lib.hid hbx; clear hba hbx
   have hrun := run_app_full (F := fun _ => True) (base := wa.heap.size) E_attr 26 A (xs.take i) (w := wa) (S := fun b => b < wa.heap.size) (by rw [HLD.out.2]; exact SlS_iff.1 (HHD.out.next (Nat.le_refl _) HBA.out)) (fun hA => by have h := HHD.out.2.2; rw [hA] at h; rcases Nat.eq_zero_or_pos (xs.take i).length with h0 | h0; exact List.length_eq_zero_iff.1 h0; obtain ⟨b, o, e, -⟩ := h h0; cases e) wd.heap.size ⟨n, x⟩ (fun j u hu => HBX.out.1 j u hu) ⟨H1.out, H2.out⟩ (by have := HTN.out.2; unfold maxLen; omega) (by have := HTN.out.2; omega) (Nat.le_refl _)
   rw [HLD.out.2] at hrun
   have HRUN := Lib.hid hrun; clear hrun
   go_wp2_with (at_builtin; go_must (refine wpList_app rfl _ _ rfl (.slice A i i) (.slice (some ⟨wd.heap.size, 0, none⟩) 1 1) rfl rfl HRUN.out ?_); rintro v3 w3 ⟨ho3, hb3, hn3⟩; have HO3 := Lib.hid ho3; have HB3 := Lib.hid hb3; clear ho3 hb3 hn3 hwa; obtain ⟨A3, c3, hv3_, hs3⟩ := HO3.out.sl; have hlen3 : (xs.take i ++ [(⟨n, x⟩ : Attr)]).length = i + 1 := (by rw [List.length_append, HLD.out.2]; rfl); rw [hlen3] at hv3_; subst hv3_; have HS3 := Lib.hid hs3; have HLN3 := Lib.hid hlen3; clear hs3 hlen3; obtain ⟨w4, hw4⟩ : ∃ z, w3.alloc (.cells #[.slice A3 (i + 1) c3, .slice Ad (xs.length - i) (c - i)] 26) = z := ⟨_, rfl⟩; have hb4 : Below w3.heap.size w3 w4 := (by rw [← hw4]; exact (Below.refl _ _).alloc (Nat.le_refl _) _); have hx4 : BoxL w4 w3.heap.size [.slice A3 (i + 1) c3, .slice Ad (xs.length - i) (c - i)] := box_mk hw4; have HB4 := Lib.hid hb4; have HX4 := Lib.hid hx4; clear hb4 hx4)
   have HB34 := Lib.hid (HB3.out.trans (HB4.out.mono HB3.out.size))
   have HBA4 := Lib.hid (HBA.out.trans (HB34.out.mono HBA.out.size))
   refine (Concat_any w3.heap.size A3 Ad c3 ((c - i)) (xs.take i ++ [⟨n, x⟩]) (xs.drop i) _ (by rw [HLN3.out]; exact HX4.out.1 0 _ rfl) (by rw [HTLEN.out]; exact HX4.out.1 1 _ rfl) (.inl (HS3.out.next (Nat.le_refl _) HB4.out)) (HT.out.imp (fun h => h.next (Nat.le_refl _) HBA4.out) id) ⟨by rw [List.length_append, List.length_singleton]; have := HLD.out.2; have := HL.out; omega, HTN.out.1⟩).mono ?_
   rintro e wb ⟨hb2, v, rfl, hown⟩
   have HB2 := Lib.hid (HBA4.out.trans (hb2.mono HBA4.out.size)); have HOWN := Lib.hid (hown.low (show wd.heap.size ≤ w4.heap.size from HBA4.out.size)); clear hb2 hown hw4
   have HF := Lib.hid (HBwd.out.trans (HB2.out.mono HBwd.out.size))
   go_wp2
   go_ret
   exact ⟨HF.out, _, rfl, by rw [HPUT.out, if_neg HV.out, HQE.out, ← List.append_assoc]; exact HOWN.out.low HBwd.out.size⟩
 ·
  have hilt := HAT.out rfl
  have k1 : (1 : Int) ≤ ((xs.length - i : Nat) : Int) := by omega
  have k2 : (1 : Int) ≤ ((c - i : Nat) : Int) := by omega
  have k3 : 1 ≤ c - i := by omega
  have k4 : 1 ≤ xs.length - i := by omega
  have HTLEN := Lib.hid (show (xs.drop (i + 1)).length = xs.length - i - 1 by rw [List.length_drop]; omega)
  have HQE := Lib.hid (show xs.drop (i + (if true = true then 1 else 0)) = xs.drop (i + 1) by simp)
  by_cases hc1 : c - i = 1
  ·
   have HT := Lib.hid (show Sl wd wd.heap.size Ad 0 (xs.drop (i + 1)) ∨ xs.drop (i + 1) = [] from .inr (List.drop_eq_nil_of_le (by omega)))
   go_upto_region 5 with fail
   clear k1 k2 k3 k4
   have HTN := Lib.hid (show (xs.drop (i + 1)).length ≤ 1000000 ∧ (xs.take i).length ≤ 1000000 by have := HL.out; have := HLD.out; constructor; (rw [HTLEN.out]; omega); omega)
   by_cases hv : x.toList.isEmpty = true
   ·
    have hv2 : (x.toList == (⟨#[]⟩ : ByteArray).toList) = true := by rw [show (⟨#[]⟩ : ByteArray).toList = [] by decide +kernel]; cases hq : x.toList with | nil => rfl | cons a r => rw [hq] at hv; cases hv
    have hv3 : (x.toList == []) = true := by cases hq : x.toList with | nil => rfl | cons a r => rw [hq] at hv; cases hv
    have HV := Lib.hid hv; clear hv
    obtain ⟨wa, hwa⟩ : ∃ z, wd.alloc (.cells #[.slice A i i, .slice Ad (xs.length - i - 1) 0] 26) = z := ⟨_, rfl⟩
    have hba : Below wd.heap.size wd wa := by rw [← hwa]; exact (Below.refl _ _).alloc (Nat.le_refl _) _
    have hbx : BoxL wa wd.heap.size [.slice A i i, .slice Ad (xs.length - i - 1) 0] := box_mk hwa
    have HBA := Lib.hid hba; have HBX := Lib.hid hbx; clear hba hbx
    go_wp2_with fail
    refine (Concat_any wd.heap.size A Ad i (0) (xs.take i) (xs.drop (i + 1)) _ (by rw [HLD.out.2]; exact HBX.out.1 0 _ rfl) (by rw [HTLEN.out]; exact HBX.out.1 1 _ rfl) (.inl (HHD.out.next (Nat.le_refl _) HBA.out)) (HT.out.imp (fun h => h.next (Nat.le_refl _) HBA.out) id) ⟨HTN.out.2, HTN.out.1⟩).mono ?_
    rintro e wb ⟨hb2, v, rfl, hown⟩
    have HB2 := Lib.hid (HBA.out.trans (hb2.mono HBA.out.size)); have HOWN := Lib.hid (hown.low (show wd.heap.size ≤ wa.heap.size from HBA.out.size)); clear hb2 hown hwa
    have HF := Lib.hid (HBwd.out.trans (HB2.out.mono HBwd.out.size))
    go_wp2
    go_ret
    exact ⟨HF.out, _, rfl, by rw [HPUT.out, if_pos HV.out, List.nil_append, HQE.out]; exact HOWN.out.low HBwd.out.size⟩
   ·
    have hv1 : x.toList.isEmpty = false := by simpa using hv
    have hv2 : (x.toList == (⟨#[]⟩ : ByteArray).toList) = false := by rw [show (⟨#[]⟩ : ByteArray).toList = [] by decide +kernel]; cases hq : x.toList with | nil => rw [hq] at hv1; cases hv1 | cons a r => rfl
    have hv3 : (x.toList == []) = false := by cases hq : x.toList with | nil => rw [hq] at hv1; cases hv1 | cons a r => rfl
    have HV := Lib.hid hv; clear hv hv1
    obtain ⟨wa, hwa⟩ : ∃ z, wd.alloc (.cells #[.string n, .string x] 53) = z := ⟨_, rfl⟩
    have hba : Below wd.heap.size wd wa := by rw [← hwa]; exact (Below.refl _ _).alloc (Nat.le_refl _) _
    have hbx : BoxL wa wd.heap.size [.string n, .string x] := box_mk hwa
    have HBA := Lib.hid hba; have HBX := Lib.hid hbx; clear hba hbx
    have hrun := run_app_full (F := fun _ => True) (base := wa.heap.size) E_attr 26 A (xs.take i) (w := wa) (S := fun b => b < wa.heap.size) (by rw [HLD.out.2]; exact SlS_iff.1 (HHD.out.next (Nat.le_refl _) HBA.out)) (fun hA => by have h := HHD.out.2.2; rw [hA] at h; rcases Nat.eq_zero_or_pos (xs.take i).length with h0 | h0; exact List.length_eq_zero_iff.1 h0; obtain ⟨b, o, e, -⟩ := h h0; cases e) wd.heap.size ⟨n, x⟩ (fun j u hu => HBX.out.1 j u hu) ⟨H1.out, H2.out⟩ (by have := HTN.out.2; unfold maxLen; omega) (by have := HTN.out.2; omega) (Nat.le_refl _)
    rw [HLD.out.2] at hrun
    have HRUN := Lib.hid hrun; clear hrun
    go_wp2_with (at_builtin; go_must (refine wpList_app rfl _ _ rfl (.slice A i i) (.slice (some ⟨wd.heap.size, 0, none⟩) 1 1) rfl rfl HRUN.out ?_); rintro v3 w3 ⟨ho3, hb3, hn3⟩; have HO3 := Lib.hid ho3; have HB3 := Lib.hid hb3; clear ho3 hb3 hn3 hwa; obtain ⟨A3, c3, hv3_, hs3⟩ := HO3.out.sl; have hlen3 : (xs.take i ++ [(⟨n, x⟩ : Attr)]).length = i + 1 := (by rw [List.length_append, HLD.out.2]; rfl); rw [hlen3] at hv3_; subst hv3_; have HS3 := Lib.hid hs3; have HLN3 := Lib.hid hlen3; clear hs3 hlen3; obtain ⟨w4, hw4⟩ : ∃ z, w3.alloc (.cells #[.slice A3 (i + 1) c3, .slice Ad (xs.length - i - 1) 0] 26) = z := ⟨_, rfl⟩; have hb4 : Below w3.heap.size w3 w4 := (by rw [← hw4]; exact (Below.refl _ _).alloc (Nat.le_refl _) _); have hx4 : BoxL w4 w3.heap.size [.slice A3 (i + 1) c3, .slice Ad (xs.length - i - 1) 0] := box_mk hw4; have HB4 := Lib.hid hb4; have HX4 := Lib.hid hx4; clear hb4 hx4)
    have HB34 := Lib.hid (HB3.out.trans (HB4.out.mono HB3.out.size))
    have HBA4 := Lib.hid (HBA.out.trans (HB34.out.mono HBA.out.size))
    refine (Concat_any w3.heap.size A3 Ad c3 (0) (xs.take i ++ [⟨n, x⟩]) (xs.drop (i + 1)) _ (by rw [HLN3.out]; exact HX4.out.1 0 _ rfl) (by rw [HTLEN.out]; exact HX4.out.1 1 _ rfl) (.inl (HS3.out.next (Nat.le_refl _) HB4.out)) (HT.out.imp (fun h => h.next (Nat.le_refl _) HBA4.out) id) ⟨by rw [List.length_append, List.length_singleton]; have := HLD.out.2; have := HL.out; omega, HTN.out.1⟩).mono ?_
    rintro e wb ⟨hb2, v, rfl, hown⟩
    have HB2 := Lib.hid (HBA4.out.trans (hb2.mono HBA4.out.size)); have HOWN := Lib.hid (hown.low (show wd.heap.size ≤ w4.heap.size from HBA4.out.size)); clear hb2 hown hw4
    have HF := Lib.hid (HBwd.out.trans (HB2.out.mono HBwd.out.size))
    go_wp2
    go_ret
    exact ⟨HF.out, _, rfl, by rw [HPUT.out, if_neg HV.out, HQE.out, ← List.append_assoc]; exact HOWN.out.low HBwd.out.size⟩
  ·
   go_upto_region 5 with fail
   obtain ⟨At, hAt⟩ : ∃ z, Ad.map (·.add (1 * 2)) = z := ⟨_, rfl⟩
   have hAt2 : Ad.map (·.add 2) = At := hAt
   simp [Addr.add] at hAt2
   have HT := Lib.hid (show Sl wd wd.heap.size At (c - i - 1) (xs.drop (i + 1)) ∨ xs.drop (i + 1) = [] from tailS1 (by rw [if_neg hc1]; exact hAt) HTL.out)
   rw [hAt2]
   clear hAt hAt2 k1 k2 k3 k4 hc1
   have HTN := Lib.hid (show (xs.drop (i + 1)).length ≤ 1000000 ∧ (xs.take i).length ≤ 1000000 by have := HL.out; have := HLD.out; constructor; (rw [HTLEN.out]; omega); omega)
   by_cases hv : x.toList.isEmpty = true
   ·
    have hv2 : (x.toList == (⟨#[]⟩ : ByteArray).toList) = true := by rw [show (⟨#[]⟩ : ByteArray).toList = [] by decide +kernel]; cases hq : x.toList with | nil => rfl | cons a r => rw [hq] at hv; cases hv
    have hv3 : (x.toList == []) = true := by cases hq : x.toList with | nil => rfl | cons a r => rw [hq] at hv; cases hv
    have HV := Lib.hid hv; clear hv
    obtain ⟨wa, hwa⟩ : ∃ z, wd.alloc (.cells #[.slice A i i, .slice At (xs.length - i - 1) (c - i - 1)] 26) = z := ⟨_, rfl⟩
    have hba : Below wd.heap.size wd wa := by rw [← hwa]; exact (Below.refl _ _).alloc (Nat.le_refl _) _
    have hbx : BoxL wa wd.heap.size [.slice A i i, .slice At (xs.length - i - 1) (c - i - 1)] := box_mk hwa
    have HBA := Lib.hid hba; have HBX := Lib.hid hbx; clear hba hbx
    go_wp2_with fail
    refine (Concat_any wd.heap.size A At i ((c - i - 1)) (xs.take i) (xs.drop (i + 1)) _ (by rw [HLD.out.2]; exact HBX.out.1 0 _ rfl) (by rw [HTLEN.out]; exact HBX.out.1 1 _ rfl) (.inl (HHD.out.next (Nat.le_refl _) HBA.out)) (HT.out.imp (fun h => h.next (Nat.le_refl _) HBA.out) id) ⟨HTN.out.2, HTN.out.1⟩).mono ?_
    rintro e wb ⟨hb2, v, rfl, hown⟩
    have HB2 := Lib.hid (HBA.out.trans (hb2.mono HBA.out.size)); have HOWN := Lib.hid (hown.low (show wd.heap.size ≤ wa.heap.size from HBA.out.size)); clear hb2 hown hwa
    have HF := Lib.hid (HBwd.out.trans (HB2.out.mono HBwd.out.size))
    go_wp2
    go_ret
    exact ⟨HF.out, _, rfl, by rw [HPUT.out, if_pos HV.out, List.nil_append, HQE.out]; exact HOWN.out.low HBwd.out.size⟩
   ·
    have hv1 : x.toList.isEmpty = false := by simpa using hv
    have hv2 : (x.toList == (⟨#[]⟩ : ByteArray).toList) = false := by rw [show (⟨#[]⟩ : ByteArray).toList = [] by decide +kernel]; cases hq : x.toList with | nil => rw [hq] at hv1; cases hv1 | cons a r => rfl
    have hv3 : (x.toList == []) = false := by cases hq : x.toList with | nil => rw [hq] at hv1; cases hv1 | cons a r => rfl
    have HV := Lib.hid hv; clear hv hv1
    obtain ⟨wa, hwa⟩ : ∃ z, wd.alloc (.cells #[.string n, .string x] 53) = z := ⟨_, rfl⟩
    have hba : Below wd.heap.size wd wa := by rw [← hwa]; exact (Below.refl _ _).alloc (Nat.le_refl _) _
    have hbx : BoxL wa wd.heap.size [.string n, .string x] := box_mk hwa
    have HBA := Lib.hid hba; have HBX := Lib.hid hbx; clear hba hbx
    have hrun := run_app_full (F := fun _ => True) (base := wa.heap.size) E_attr 26 A (xs.take i) (w := wa) (S := fun b => b < wa.heap.size) (by rw [HLD.out.2]; exact SlS_iff.1 (HHD.out.next (Nat.le_refl _) HBA.out)) (fun hA => by have h := HHD.out.2.2; rw [hA] at h; rcases Nat.eq_zero_or_pos (xs.take i).length with h0 | h0; exact List.length_eq_zero_iff.1 h0; obtain ⟨b, o, e, -⟩ := h h0; cases e) wd.heap.size ⟨n, x⟩ (fun j u hu => HBX.out.1 j u hu) ⟨H1.out, H2.out⟩ (by have := HTN.out.2; unfold maxLen; omega) (by have := HTN.out.2; omega) (Nat.le_refl _)
    rw [HLD.out.2] at hrun
    have HRUN := Lib.hid hrun; clear hrun
    go_wp2_with (at_builtin; go_must (refine wpList_app rfl _ _ rfl (.slice A i i) (.slice (some ⟨wd.heap.size, 0, none⟩) 1 1) rfl rfl HRUN.out ?_); rintro v3 w3 ⟨ho3, hb3, hn3⟩; have HO3 := Lib.hid ho3; have HB3 := Lib.hid hb3; clear ho3 hb3 hn3 hwa; obtain ⟨A3, c3, hv3_, hs3⟩ := HO3.out.sl; have hlen3 : (xs.take i ++ [(⟨n, x⟩ : Attr)]).length = i + 1 := (by rw [List.length_append, HLD.out.2]; rfl); rw [hlen3] at hv3_; subst hv3_; have HS3 := Lib.hid hs3; have HLN3 := Lib.hid hlen3; clear hs3 hlen3; obtain ⟨w4, hw4⟩ : ∃ z, w3.alloc (.cells #[.slice A3 (i + 1) c3, .slice At (xs.length - i - 1) (c - i - 1)] 26) = z := ⟨_, rfl⟩; have hb4 : Below w3.heap.size w3 w4 := (by rw [← hw4]; exact (Below.refl _ _).alloc (Nat.le_refl _) _); have hx4 : BoxL w4 w3.heap.size [.slice A3 (i + 1) c3, .slice At (xs.length - i - 1) (c - i - 1)] := box_mk hw4; have HB4 := Lib.hid hb4; have HX4 := Lib.hid hx4; clear hb4 hx4)
    have HB34 := Lib.hid (HB3.out.trans (HB4.out.mono HB3.out.size))
    have HBA4 := Lib.hid (HBA.out.trans (HB34.out.mono HBA.out.size))
    refine (Concat_any w3.heap.size A3 At c3 ((c - i - 1)) (xs.take i ++ [⟨n, x⟩]) (xs.drop (i + 1)) _ (by rw [HLN3.out]; exact HX4.out.1 0 _ rfl) (by rw [HTLEN.out]; exact HX4.out.1 1 _ rfl) (.inl (HS3.out.next (Nat.le_refl _) HB4.out)) (HT.out.imp (fun h => h.next (Nat.le_refl _) HBA4.out) id) ⟨by rw [List.length_append, List.length_singleton]; have := HLD.out.2; have := HL.out; omega, HTN.out.1⟩).mono ?_
    rintro e wb ⟨hb2, v, rfl, hown⟩
    have HB2 := Lib.hid (HBA4.out.trans (hb2.mono HBA4.out.size)); have HOWN := Lib.hid (hown.low (show wd.heap.size ≤ w4.heap.size from HBA4.out.size)); clear hb2 hown hw4
    have HF := Lib.hid (HBwd.out.trans (HB2.out.mono HBwd.out.size))
    go_wp2
    go_ret
    exact ⟨HF.out, _, rfl, by rw [HPUT.out, if_neg HV.out, HQE.out, ← List.append_assoc]; exact HOWN.out.low HBwd.out.size⟩
end Go.Proofs.YtjpoljlgkgmdkaaGreatDoor
namespace Go.Cold
open Go Go.RowKit Go.Proofs.YtjpoljlgkgmdkaaGreatDoor
def SlPost (l : List Attr) (w : World) (e : Ending) (w' : World) : Prop := Below w.heap.size w w' ∧ ∃ A c, e = .returned (.slice A l.length c) ∧ Sl w' w'.heap.size A c l
def baseK (x : ByteArray) : Bool := baseKeys.any fun k => decide (x = k)
theorem baseK_contains (x : ByteArray) : Lib.containsS (baseKeys.take 7) x = baseK x := by
 rw [show baseKeys.take 7 = baseKeys from rfl, Bool.eq_iff_iff, Lib.containsS_iff]
 unfold baseK; rw [List.any_eq_true]
 constructor
 · intro h; exact ⟨x, h, decide_eq_true rfl⟩
 · rintro ⟨k, hk, e⟩; rw [of_decide_eq_true e]; exact hk
end Go.Cold
namespace Go.Proofs.YtjpoljlgkgmdkaaGreatDoor
open Go.RowKit Go.Cold
theorem BKey_any (x : ByteArray) (w : World) : Calls Tryz.prog 111 #[.string x] w fun e w' => e = .returned (.bool (baseK x)) ∧ Below w.heap.size w w' := by
 go_enter Tryz.func111, Tryz.ntmps111
 obtain ⟨wa, hwa⟩ : ∃ z, w.alloc (.cells #[.string ⟨#[68, 69, 86, 78, 65, 77, 69]⟩, .string ⟨#[68, 69, 86, 80, 65, 84, 72]⟩, .string ⟨#[68, 82, 73, 86, 69, 82]⟩, .string ⟨#[73, 78, 84, 69, 82, 70, 65, 67, 69]⟩, .string ⟨#[77, 79, 68, 65, 76, 73, 65, 83]⟩, .string ⟨#[78, 85, 77, 66, 69, 82]⟩, .string ⟨#[83, 85, 66, 83, 89, 83, 84, 69, 77]⟩] 9) = z := ⟨_, rfl⟩
 have hba : Below w.heap.size w wa := by rw [← hwa]; exact (Below.refl _ _).alloc (Nat.le_refl _) _
 have hbx : BoxL wa w.heap.size [.string ⟨#[68, 69, 86, 78, 65, 77, 69]⟩, .string ⟨#[68, 69, 86, 80, 65, 84, 72]⟩, .string ⟨#[68, 82, 73, 86, 69, 82]⟩, .string ⟨#[73, 78, 84, 69, 82, 70, 65, 67, 69]⟩, .string ⟨#[77, 79, 68, 65, 76, 73, 65, 83]⟩, .string ⟨#[78, 85, 77, 66, 69, 82]⟩, .string ⟨#[83, 85, 66, 83, 89, 83, 84, 69, 77]⟩] := box_mk hwa
 have HBA := Lib.hid hba; have HBX := Lib.hid hbx; clear hba hbx
 go_wp2_with fail
 try rw [hwa]
 refine (Tryz.slices_Contains_string w.heap.size 0 7 7 baseKeys x _ (by decide) (by decide) (fun j hj => ?_)).mono ?_
 ·
  have hj7 : j < 7 := hj
  rw [Nat.zero_add]
  refine HBX.out.1 j _ ?_
  rcases j with _ | _ | _ | _ | _ | _ | _ | j <;> first | rfl | omega
 rintro e w9 ⟨rfl, hw_⟩
 rw [hw_]; clear hw_ w9
 rw [baseK_contains]
 clear hwa
 go_wp2
 go_ret
 exact ⟨rfl, HBA.out⟩
end Go.Proofs.YtjpoljlgkgmdkaaGreatDoor
