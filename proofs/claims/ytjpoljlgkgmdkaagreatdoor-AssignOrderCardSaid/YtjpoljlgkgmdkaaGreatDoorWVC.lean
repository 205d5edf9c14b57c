/-
  The walks of coldplugmake's plain comparisons.
-/
import Derived.Test.YtjpoljlgkgmdkaaGreatDoorRows
import Derived.Test.YtjpoljlgkgmdkaaGreatDoorWA
import Derived.Test.YtjpoljlgkgmdkaaGreatDoorWB
import Derived.Lib.BufferMore
import Derived.Test.YtjpoljlgkgmdkaaGreatDoorWW
import Derived.Test.YtjpoljlgkgmdkaaGreatDoorWVD
import Derived.Lib.Overlaps
import Derived.Laws.Externs
import Derived.Test.YtjpoljlgkgmdkaaGreatDoorWSA
import Derived.Lib.ConvBytes
import Derived.Lib.Strings
import Derived.Lib.Walk
import Derived.Lib.AtoiErrMem
import Derived.Laws.Strings3
import Derived.Laws.Closers25
import Derived.Laws.Closers25b
set_option linter.unusedSimpArgs false
set_option linter.unusedVariables false
namespace Go.Proofs.YtjpoljlgkgmdkaaGreatDoor
open Go.RowKit Go.Cold

theorem SameTexts_any (A B : Option Addr) (c d : Nat) (xs ys : List ByteArray) (w : World) (b1 b2 : Nat) (hx : Sl w b1 A c xs) (hy : Sl w b2 B d ys) :
  Calls Tryz.prog 38 #[.slice A xs.length c, .slice B ys.length d] w fun e w' => e = .returned (.bool (decide (xs = ys))) ∧ ∃ n, w' = w.drewN n := by
 have hc := hx.1; have hc2 := hx.2.1; have hd := hy.1; have hd2 := hy.2.1
 unfold maxLen at hc2 hd2
 by_cases hl : xs.length = ys.length
 ·
  have HL := Lib.hid hl
  go_enter Tryz.func38, Tryz.ntmps38
  go_wp2
  clear hl
  go_loopw [5] (fun i wr => ∃ k n : Nat, k ≤ ys.length ∧ i = .int .i64 k ∧ Hid (xs.take k = ys.take k) ∧ wr = w.drewN n) (fun i _ => ys.length - (intOf i).toNat)
  case atStart => exact ⟨0, 0, Nat.zero_le _, rfl, rfl, rfl⟩
  case round =>
   obtain ⟨k, n, hk, rfl, ht, rfl⟩ := hrel
   by_cases hlt : k < ys.length
   ·
    have hlx : k < xs.length := by have := HL.out; omega
    obtain ⟨b3, o3, rfl, _, cx, _⟩ := hx.str hlx
    obtain ⟨b4, o4, rfl, _, cy, _⟩ := hy.str hlt
    have i1 : (k : Int) < (xs.length : Int) := by omega
    have i2 : (k : Int) < (ys.length : Int) := by omega
    go_wp2
    go_quiet (fail)
    go_wp2
    ·
     have hne := ba_ne (by assumption)
     go_ret
     exact ⟨ret_bool (by simp; rintro rfl; exact hne rfl), _, World.drewN_drewN _ _ _⟩
    ·
     have he := ba_eq (by assumption)
     go_roundw
     case rel => exact ⟨k + 1, _, by omega, by go_num, take_succ_iff hlx hlt ht.out he, rfl⟩
     case measure => simp [intOf]; omega
   ·
    have hlx : ¬ k < xs.length := by have := HL.out; omega
    go_wp2
    go_ret
    exact ⟨ret_bool (by simp [take_all ht.out (by omega) (by omega)]), _, rfl⟩
 ·
  go_enter Tryz.func38, Tryz.ntmps38
  go_wp2
  go_ret
  exact ⟨ret_bool (by simp; rintro rfl; exact hl rfl), 0, rfl⟩
end Go.Proofs.YtjpoljlgkgmdkaaGreatDoor
namespace Go.Proofs.YtjpoljlgkgmdkaaGreatDoor
open Go.RowKit Go.Cold

theorem info_strH : (Tryz.prog.info? 9).map (fun i => (i.zero, i.size, i.bytes)) = some (some (.string ByteArray.empty), 1, 16) := by kernel_rfl

def CleanPost (s : ByteArray) (w : World) (e : Ending) (w' : World) : Prop := Below w.heap.size w w' ∧ e = .returned (match cleanOf s with | some t => .tuple #[.string t, .bool true] | none => .tuple #[.string ⟨#[]⟩, .bool false])

set_option maxRecDepth 100000 in
theorem Clean_any (s : ByteArray) (w : World) (hs : s.size ≤ 4096) (hok : Ok w) : Calls Tryz.prog 18 #[.string s] w (CleanPost s w) := by
 obtain ⟨hz, hi⟩ := zero_of_info info_set
 rw [← Lib.setCells_nil] at hz
 have HI := Lib.hid hi; clear hi
 have HOK := Lib.hid hok; clear hok
 obtain ⟨i0, hi0, hz0, hz1, hz2⟩ := info_parts info_strH
 have HI0 := Lib.hid hi0; clear hi0
 have HZ0 := Lib.hid hz0; clear hz0
 have HZ1 := Lib.hid hz1; clear hz1
 have HZ2 := Lib.hid hz2; clear hz2
 go_enter Tryz.func18, Tryz.ntmps18
 go_wp2_with fail
 refine (parts_any _).mono ?_; rintro e w1 ⟨rfl, hb1⟩
 go_wp2_with fail
 refine (plus_any _ _ _ (by decide)).mono ?_; rintro e w2 ⟨rfl, hb2⟩
 have hk0 : Blk (w2.alloc (Obj.cells (Lib.setCells []) 76)) w2.heap.size 76 (Lib.setCells []) := Blk.new _ _ _
 go_wp2_with (first
  | (with_reducible refine at_store 4 13 ?_; go_must (refine wpList_store_blk rfl 76 _ _ rfl w2.heap.size rfl (Lib.setCells (partL ++ [47])) rfl 76 _ hk0 (by rw [Lib.setCells_size]; exact HI.out) (by rw [Lib.setCells_size, Lib.setCells_size]) (Lib.setCells_one _) ?_))
  | (with_reducible refine at_dst 15 ?_; go_must (refine wpList_conv_bytes rfl 9 81 5 _ rfl s rfl Tryz.underlying9 Tryz.underlying81 Tryz.underlying5 ?_); intro cap w3 hcap hrow hlt3 hb3))
 have hb4 := hb1.trans (hb2.mono hb1.size)
 have hsz : ((w2.alloc (Obj.cells (Lib.setCells []) 76)).setRow w2.heap.size (Lib.setCells (partL ++ [47]))).heap.size = w2.heap.size + 1 := by simp
 have hk1 := (hk0.setRow_ (Lib.setCells (partL ++ [47]))).below hb3 (by rw [hsz]; omega)
 have hb5 : Below w.heap.size w w3 := by
  have h1 : Below w.heap.size w ((w2.alloc (Obj.cells (Lib.setCells []) 76)).setRow w2.heap.size (Lib.setCells (partL ++ [47]))) := below_setRow (hb4.alloc hb4.size _) hb4.size _
  exact h1.trans (hb3.mono h1.size)
 have hg : w.heap.size ≤ w2.heap.size := hb4.size
 rw [hsz] at hrow hlt3
 clear hb1 hb2 hb3 hb4 hk0 hsz
 have HRow := Lib.hid hrow; clear hrow
 have HK := Lib.hid hk1; clear hk1
 generalize w2.heap.size = g at *
 go_loopw [18] (fun i wr => ∃ k : Nat, k ≤ s.size ∧ i = .int .i64 k ∧ Hid (ByteRow wr (g + 1) (cleanK s.data.toList k)) ∧ Hid (Blk wr g 76 (Lib.setCells (partL ++ [47]))) ∧ g + 1 < wr.heap.size ∧ Below w.heap.size w wr) (fun i _ => s.size - (intOf i).toNat)
 case atStart => exact ⟨0, Nat.zero_le _, rfl, by rw [cleanK_zero]; exact HRow, HK, hlt3, hb5⟩
 case round =>
  clear HRow HK hlt3 hb5
  obtain ⟨k, hk, rfl, HRow, HK, hlt3, hb5⟩ := hrel
  by_cases hlt : k < s.size
  ·
   obtain ⟨x, hx⟩ : ∃ x : UInt8, s[k]'hlt = x := ⟨_, rfl⟩
   have hxl : s.data.toList[k]? = some x := by rw [← hx]; exact Lib.data_getElem? s k hlt
   have hx256 : (x.toNat : Int) < 256 := by have := UInt8.toNat_lt x; omega
   have hcell := (HK.out.cell x.toNat).trans (Lib.setCells_at _ x)
   obtain ⟨hbc, hbf⟩ := HRow.out k x (cleanK_at hxl)
   have hkl : k < (cleanK s.data.toList k).length := by rw [cleanK_length _ _ (by rw [ba_size]; omega), ba_size]; exact hlt
   have HKL := Lib.hid hkl; clear hkl
   have HX := Lib.hid hxl; clear hxl hx
   have i1 : (k : Int) < (s.size : Int) := by omega
   obtain ⟨c, hc⟩ : ∃ c, (partL ++ [47]).contains x = c := ⟨_, rfl⟩
   rw [hc] at hcell
   have HC := Lib.hid hc; clear hc
   cases c with
   | true =>
    go_wp2
    go_roundw
    case rel => exact ⟨k + 1, by omega, by go_num, by rw [cleanK_same HX.out (cleanP_good HC.out)]; exact HRow, HK, hlt3, hb5⟩
    case measure => simp [intOf]; omega
   | false =>
    go_wp2
    go_roundw
    case rel =>
     refine ⟨k + 1, by omega, by go_num, ?_, HK.out.far (by simp) _, by simpa using hlt3, hb5.setCell (by simp; omega) _⟩
     rw [cleanK_succ HX.out, cleanP_bad HC.out]
     exact HRow.out.set_ HKL.out 95
    case measure => simp [intOf]; omega
  ·
   have hall : ByteRow wr (g + 1) (s.data.toList.map cleanP) := by
    have := HRow.out
    rwa [cleanK_all _ (by rw [ba_size]; omega)] at this
   have HAll := Lib.hid hall; clear hall HRow HK
   go_wp2_with (with_reducible refine at_dst 32 ?_; go_must (refine wpList_conv_string rfl 81 9 5 _ rfl (g + 1) cap s.size (s.data.toList.map cleanP) (by rw [List.length_map, ba_size]) rfl HAll.out Tryz.underlying81 Tryz.underlying5 Tryz.underlying9 ?_))
   clear hlt3 hcap
   refine (SplitSlash_any (toB (s.data.toList.map cleanP)) wr (by rw [toB_size, List.length_map, ba_size]; omega) (HOK.out.next hb5)).mono ?_
   rintro e w5 ⟨A, c, rfl, hsl, hb6⟩
   have hb7 := hb5.trans (hb6.mono hb5.size)
   rw [toB_data] at hsl ⊢
   have hlen : (piecesL (s.data.toList.map cleanP)).length ≤ s.size + 1 := by
    unfold piecesL
    rw [List.length_map]
    have := splitOn_count 47 (s.data.toList.map cleanP)
    rwa [List.length_map, ba_size] at this
   obtain ⟨xs, hxs⟩ : ∃ xs, piecesL (s.data.toList.map cleanP) = xs := ⟨_, rfl⟩
   rw [hxs] at hsl hlen ⊢
   have HXS := Lib.hid hxs; clear hxs
   have HSl := Lib.hid hsl; clear hsl HAll hb5 hb6 hg
   go_wp2_with fail
   go_loopw [8, 35] (fun v i wr => ∃ k : Nat, k ≤ xs.length ∧ i = .int .i64 k ∧ wr.ownsRow w5.heap.size 9 1 v ((xs.take k).filter keepB).length (((xs.take k).filter keepB).map Value.string) ∧ Below w5.heap.size w5 wr) (fun _ i _ => xs.length - (intOf i).toNat)
   case atStart => exact ⟨0, Nat.zero_le _, rfl, World.ownsRow_nil _ _ _ _, Below.refl _ _⟩
   case round =>
    obtain ⟨k2, hk2, rfl, hown, hbr⟩ := hrel
    have HOwn := Lib.hid hown; clear hown
    by_cases hlt2 : k2 < xs.length
    ·
     obtain ⟨b3, o3, rfl, hb3, cx, hsk⟩ := HSl.out.str hlt2
     have cx' := (hbr.cell (p := ⟨b3, o3 + k2, none⟩) hb3).trans cx
     have hxk : xs[k2]? = some xs[k2] := List.getElem?_eq_getElem hlt2
     obtain ⟨x, hx⟩ : ∃ x, xs[k2] = x := ⟨_, rfl⟩
     rw [hx] at cx' hsk hxk
     clear cx
     have HX := Lib.hid hxk; clear hxk hx
     have i1 : (k2 : Int) < (xs.length : Int) := by omega
     have hfl : ((xs.take k2).filter keepB).length ≤ k2 := Nat.le_trans (List.length_filter_le _ _) (List.length_take_le _ _)
     have HFL := Lib.hid hfl; clear hfl
     cases hkp : keepB x with
     | true =>
      have h1 : x.toList.isEmpty = false := by
       unfold keepB at hkp; simp only [Bool.and_eq_true] at hkp; simpa using hkp.1
      have h2 : (x.toList == [46]) = false := by
       unfold keepB at hkp; simp only [Bool.and_eq_true] at hkp; simpa using hkp.2
      have HKP := Lib.hid hkp; clear hkp
      go_wp2_with (at_builtin; go_must (refine wpList_append_own _ rfl _ _ 27 rfl w5.heap.size 9 i0 (.string ByteArray.empty) 1 16 Tryz.underlying27 HI0.out HZ0.out HZ1.out HZ2.out rfl (by decide) _ _ _ rfl (HOwn.out.alloc _) ⟨wr.heap.size, 0, none⟩ 1 1 [.string x] rfl rfl (cell_one_new _ _ _) (by intro u hu; simp at hu; subst hu; rfl) (by have := HFL.out; unfold maxLen; omega) (by have := HFL.out; omega) (by have := hbr.size; simp; omega) ?_); intro v' w1 hown' hgrow _)
      have hbr' : Below w5.heap.size w5 w1 := (hbr.alloc hbr.size _).grown hgrow (by have := hbr.size; simp; omega) (fun g' hg' => (HOwn.out.lt g' hg').1)
      have HOwn' := Lib.hid hown'; clear hown' hgrow cx' hbr
      go_wp2
      go_roundw
      case rel =>
       refine ⟨k2 + 1, by omega, by go_num, ?_, hbr'⟩
       have e : (xs.take (k2 + 1)).filter keepB = (xs.take k2).filter keepB ++ [x] := by
        rw [List.take_add_one, HX.out, List.filter_append]; simp [HKP.out]
       rw [e, List.length_append, List.map_append]
       exact HOwn'.out
      case measure => simp [intOf]; omega
     | false =>
      have hor : x.toList = [] ∨ ((x.toList.isEmpty) = false ∧ (x.toList == [46]) = true) := by
       unfold keepB at hkp
       cases h1 : x.toList.isEmpty with
       | true => left; simpa using h1
       | false =>
        right
        rw [h1] at hkp
        simpa using hkp
      have HKP := Lib.hid hkp; clear hkp
      have hnext : (xs.take (k2 + 1)).filter keepB = (xs.take k2).filter keepB := by
       rw [List.take_add_one, HX.out, List.filter_append]; simp [HKP.out]
      have HNext := Lib.hid hnext; clear hnext
      rcases hor with h1 | ⟨h1, h2⟩
      ·
       go_wp2
       go_roundw
       case rel => exact ⟨k2 + 1, by omega, by go_num, by rw [HNext.out]; exact HOwn.out, hbr⟩
       case measure => simp [intOf]; omega
      ·
       go_wp2
       go_roundw
       case rel => exact ⟨k2 + 1, by omega, by go_num, by rw [HNext.out]; exact HOwn.out, hbr⟩
       case measure => simp [intOf]; omega
    ·
     have hfs : fsOf s = xs.filter keepB := by rw [fsOf, HXS.out]
     have hown := HOwn.out
     rw [List.take_of_length_le (by omega), ← hfs] at hown
     obtain ⟨A2, c2, rfl, hsl2⟩ := Sl.ofOwn hown (fun x hx => by have := fsOf_sizes hx; unfold maxLen; omega)
     have hb8 := hb7.trans (hbr.mono hb7.size)
     have HSl2 := Lib.hid hsl2
     clear HSl HOwn hown hsl2 hfs hbr hb7
     go_wp2_with fail
     refine (JoinSlash_any A2 c2 (fsOf s) wr HSl2.out (by have := fsOf_join_size s; omega) (by have := fsOf_length s; omega)).mono ?_
     rintro e w6 ⟨rfl, hb9⟩
     have hb10 := hb8.trans (hb9.mono hb8.size)
     have hjs := fsOf_join_size s
     obtain ⟨j, hj⟩ : ∃ j, joinB (fsOf s) = j := ⟨_, rfl⟩
     rw [hj] at hjs ⊢
     have HJ := Lib.hid hj; clear hj HSl2 hb8 hb9
     go_wp2_with fail
     refine (Link_any j w6 (by omega) (HOK.out.next hb10)).mono ?_
     rintro e w7 ⟨rfl, hb11⟩
     have hb12 := hb10.trans (hb11.mono hb10.size)
     cases hl : linkB j with
     | true =>
      have HL := Lib.hid hl; clear hl
      go_wp2
      go_ret2
      exact ⟨hb12, by rw [cleanOf, HJ.out, HL.out]; rfl⟩
     | false =>
      have HL := Lib.hid hl; clear hl
      go_wp2
      go_ret2
      exact ⟨hb12, by rw [cleanOf, HJ.out, HL.out]; rfl⟩
end Go.Proofs.YtjpoljlgkgmdkaaGreatDoor
namespace Go.Cold
open Go Go.RowKit
theorem OwnsS.attr {F F' : Nat → Prop} {w : World} {base : Nat} {e : TypeId} {v : Value} {xs : List Attr} (h : OwnsS F w base e v xs) : OwnsS F' w base e v xs := by
 obtain ⟨css, h1, h2, h3⟩ := h
 exact ⟨css, h1, h2, fun i x cs hx hcs => h3 i x cs hx hcs⟩
theorem owns_made (F : Nat → Prop) (w : World) {base : Nat} (T : TypeId) (α : Type) [RepS α] (hb : base ≤ w.heap.size) : OwnsS F (w.alloc (.cells #[] T)) base T (.slice (some ⟨w.heap.size, 0, none⟩) 0 0) ([] : List α) := by
 refine ⟨[], ⟨by simp, .inr ⟨w.heap.size, 0, #[], rfl, hb, ?_, Nat.le_refl _, by unfold maxLen; omega, by simp, by simp⟩⟩, rfl, fun i x cs h => by simp at h⟩
 show (w.heap.push _)[w.heap.size]? = _
 exact Array.getElem?_push_size
end Go.Cold
namespace Go.Proofs.YtjpoljlgkgmdkaaGreatDoor
open Go.RowKit Go.Cold
set_option maxRecDepth 100000 in
theorem Clone_any (A : Option Addr) (c : Nat) (ys : List Attr) (w : World) (B : Nat) (hB : B ≤ w.heap.size) (hx : Sl w B A c ys) (hl : ys.length ≤ 1000000) : Calls Tryz.prog 70 #[.slice A ys.length c] w fun e w' => Below w.heap.size w w' ∧ ∃ v, e = .returned v ∧ OwnsS (fun _ => False) w' w.heap.size 53 v ys := by
 have hx1 := hx.1; have hx2 := hx.2.1
 unfold maxLen at hx2
 have HX := Lib.hid hx; have HB := Lib.hid hB; have HL := Lib.hid hl; clear hx hB hl
 rcases A with _ | A
 ·
  have h0 : ys = [] := by
    rcases ys with _ | ⟨y, r⟩
    · rfl
    ·
     obtain ⟨b, o, e, _⟩ := HX.out.2.2 (by simp)
     cases e
  subst h0
  go_enter Tryz.func70, Tryz.ntmps70
  have hn := fun W => Lib.run_eql_slice_nil_nil (P := Tryz.prog) W 0 c Tryz.underlying26
  go_wp2
  go_ret
  exact ⟨Below.refl _ _, .slice none 0 0, by try rfl, OwnsS.nil_ _ _ _ _⟩
 ·
  go_enter Tryz.func70, Tryz.ntmps70
  have hn := fun W => Lib.run_eql_slice_some_nil (P := Tryz.prog) W A ys.length c Tryz.underlying26
  go_upto_region 3 with fail
  have HOWN0 := Lib.hid (owns_made (fun x => x < B) w (base := w.heap.size) 53 Attr (Nat.le_refl _))
  have hb1 : Below w.heap.size w (w.alloc (.cells #[] 53)) := (Below.refl _ _).alloc (Nat.le_refl _) _
  have HB1 := Lib.hid hb1; clear hb1
  have HSRC := Lib.hid (show SlS (w.alloc (.cells #[] 53)) (fun b => b < B ∧ b < (w.alloc (.cells #[] 53)).heap.size ∧ (Value.slice (some ⟨w.heap.size, 0, none⟩) 0 0).ownBlock ≠ some b) (some A) c ys from (SlS_iff.1 (HX.out.keep (HB1.out.mono HB.out))).mono (fun b hb => ⟨hb, by have := HB.out; have := HB1.out.size; omega, fun e => by have h1 : w.heap.size = b := Option.some.inj e; have := HB.out; have h2 : b < B := hb; omega⟩) (fun _ _ _ _ hu => hu))
  clear hx1 hx2 hn
  go_wp2_with (at_builtin; go_must (refine wpList_app rfl _ _ rfl (.slice (some ⟨w.heap.size, 0, none⟩) 0 0) _ rfl rfl (run_appL E_attr _ _ [] HOWN0.out (some A) c ys (.inl HSRC.out) (by have := HL.out; simp; unfold maxLen; omega) (by have := HL.out; simp; omega) HB1.out.size) ?_); intro v1 w1 hR_; have HR1 := Lib.hid hR_; clear hR_)
  obtain ⟨ho, hg, -⟩ := HR1.out
  rw [List.nil_append] at ho
  go_ret
  exact ⟨HB1.out.grown hg HB1.out.size (fun q hq => by have h1 : w.heap.size = q := Option.some.inj hq; omega), v1, by try rfl, ho.attr⟩
end Go.Proofs.YtjpoljlgkgmdkaaGreatDoor
namespace Go.Cold
open Go Go.RowKit
end Go.Cold
namespace Go.Proofs.YtjpoljlgkgmdkaaGreatDoor
open Go.RowKit Go.Cold
end Go.Proofs.YtjpoljlgkgmdkaaGreatDoor
namespace Go.Cold
open Go Go.RowKit
def NoYet (p : Dev → Bool) (L : List Dev) (k : Nat) : Prop := ∀ d ∈ L.take k, p d = false
theorem NoYet.end_ {p : Dev → Bool} {L : List Dev} (h : NoYet p L L.length) : L.find? p = none := List.find?_eq_none.2 (fun d hd => by
 have h2 := h d (by rw [List.take_length]; exact hd)
 simp [h2])
end Go.Cold
namespace Go.Proofs.YtjpoljlgkgmdkaaGreatDoor
open Go.RowKit Go.Cold
end Go.Proofs.YtjpoljlgkgmdkaaGreatDoor
namespace Go.Cold
open Go Go.RowKit
theorem idx_casesT (p : ByteArray → Bool) (xs : List ByteArray) : (idxInt p xs = -1 ∧ ∀ x ∈ xs, p x = false) ∨ ∃ (i : Nat) (x : ByteArray), idxInt p xs = (i : Int) ∧ xs[i]? = some x ∧ p x = true ∧ ∀ y ∈ xs.take i, p y = false := by
 unfold idxInt
 cases h : xs.findIdx? p with
 | none => exact .inl ⟨rfl, List.findIdx?_eq_none_iff.1 h⟩
 | some i =>
  obtain ⟨hi, h1, h2⟩ := List.findIdx?_eq_some_iff_getElem.1 h
  refine .inr ⟨i, xs[i], rfl, List.getElem?_eq_getElem hi, h1, fun y hy => ?_⟩
  obtain ⟨j, hj, rfl⟩ := List.getElem_of_mem hy
  rw [List.length_take] at hj
  rw [List.getElem_take]
  exact Bool.eq_false_iff.2 (h2 j (by omega))
theorem DelSt.leT {α : Type} [RepS α] {F : Nat → Prop} {w W : World} {base : Nat} {T : TypeId} {g cap : Nat} {xs : List α} {p : α → Bool} {i j : Nat} (h : DelSt F base T g cap w xs p i j W) : i < j ∧ j ≤ xs.length ∧ xs.length ≤ cap := by
 obtain ⟨zs, cur, css, h1, h2, h3, h4, h5, h6, h7⟩ := h
 have := h1.le
 exact ⟨h6, h7, by omega⟩
theorem DelSt.belowT {α : Type} [RepS α] {F : Nat → Prop} {w W W' : World} {base : Nat} {T : TypeId} {g cap : Nat} {xs : List α} {p : α → Bool} {i j : Nat} (h : DelSt F base T g cap w xs p i j W) (hb : Below W.heap.size W W') : DelSt F base T g cap w xs p i j W' := by
 obtain ⟨zs, cur, css, h1, h2, h3, h4, h5, h6, h7⟩ := h
 exact ⟨zs, cur, css, h1.below hb, h2, h3, h4, grown_seq h5 (grown_wide (grown_none hb)), h6, h7⟩
theorem DelSt.grownT {α : Type} [RepS α] {F : Nat → Prop} {w W : World} {base : Nat} {T : TypeId} {g cap : Nat} {xs : List α} {p : α → Bool} {i j : Nat} (h : DelSt F base T g cap w xs p i j W) : w.grownBy W (some g) := by
 obtain ⟨zs, cur, css, h1, h2, h3, h4, h5, h6, h7⟩ := h
 exact h5
theorem setCells1 (w : World) (g o : Nat) (v : Value) : w.setCells g o [v] = w.setCell ⟨g, o, none⟩ v := rfl
end Go.Cold
namespace Go.Proofs.YtjpoljlgkgmdkaaGreatDoor
open Go.RowKit Go.Cold Go.Shelf
theorem overlapsT (w : World) (b1 o1 b2 o2 la ca lb cb : Nat) (hne : b1 ≠ b2) (c1 c2 : Array Value) (h1 : w.heap[b1]? = some (.cells c1 9 (0, 0))) (h2 : w.heap[b2]? = some (.cells c2 9 (0, 0))) (hk : c2.size ≠ 0) :
  (callFunc (155) #[.slice (some ⟨b1, o1, none⟩) la ca, .slice (some ⟨b2, o2, none⟩) lb cb]).run Tryz.prog w = .ok (.value (.bool false)) w := by
 have hz : ∀ w, (Go.sizeOf 9).run Tryz.prog w = .ok 1 w := fun w => by
  obtain ⟨ti, z, hti, hz, hs1, hs2, hs3⟩ := E_txt.info
  have hs1 : ti.size = 1 := hs1
  simp [sizeOf, typeInfo, hti, hs1]
 rw [run_callFunc_extern Tryz.func155 (by kernel_rfl) (by kernel_rfl) (by kernel_rfl) (e := Extern.SlicesOverlaps.overlaps #[27, 27] #[4]) (by kernel_rfl),
  Lib.run_overlaps_apart w 27 4 9 E_txt.sl 1 hz ⟨b1, o1, none⟩ ⟨b2, o2, none⟩ la ca lb cb hne 9 9 c1.size c2.size (by simp [World.shape?, h1]) (by simp [World.shape?, h2]) hk (by simp [World.frozen?, h1]) (by simp [World.frozen?, h1])]
 rfl
set_option maxHeartbeats 4000000 in
set_option maxRecDepth 100000 in
theorem SlInsertT_any (F : Nat → Prop) (base : Nat) (v : Value) (xs : List ByteArray) (i : Nat) (y : ByteArray) (cs : List Value) (gv : Nat) (w : World) (ho : OwnsS F w base 9 v xs) (hi : i ≤ xs.length) (hl : xs.length ≤ 1000)
  (hgv : v.ownBlock ≠ some gv) (hc : w.heap[gv]? = some (.cells cs.toArray 9 (0, 0))) (hr : RepS.rdS w (fun b => F b ∧ b < w.heap.size ∧ v.ownBlock ≠ some b) y cs) (hb : base ≤ w.heap.size) :
  Calls Tryz.prog 127 #[v, .int .i64 i, .slice (some ⟨gv, 0, none⟩) 1 1] w fun e w' => ∃ v', e = .returned v' ∧ OwnsS F w' base 9 v' (xs.take i ++ y :: xs.drop i) ∧ w.grownBy w' v.ownBlock ∧ ∀ k, v'.ownBlock = some k → v.ownBlock = some k ∨ w.heap.size ≤ k := by
 have hcc : ∀ (j : Nat) u, cs[j]? = some u → w.cell? ⟨gv, j, none⟩ = some u := fun j u hu => by
  rw [cell_of_row w gv j cs.toArray _ (0, 0) hc]; simpa using hu
 have HR := Lib.hid hr; have HC := Lib.hid hcc; have HCH := Lib.hid hc; have HGV := Lib.hid hgv; have HO := Lib.hid ho; have HB := Lib.hid hb
 clear hr hcc hc hb
 go_enter Tryz.func127, Tryz.ntmps127
 by_cases hin : i = xs.length
 ·
  subst hin
  obtain ⟨A, c, rfl, hsl⟩ := ho.cs
  have hsl1 := hsl.1; have hsl2 := hsl.2.1
  unfold maxLen at hsl2
  clear ho hgv hsl
  by_cases hcn : c = xs.length
  ·
   subst hcn
   go_wp2_with (at_builtin; go_must (refine wpList_app rfl _ _ rfl _ _ rfl rfl (run_app1 E_txt _ _ xs HO.out gv y cs HC.out HR.out (by unfold maxLen; omega) (by omega) HB.out) ?_); rintro v2 w9 ⟨hown_, hgrow_, hnew_⟩; have HOWN9 := Lib.hid hown_; have HGROW9 := Lib.hid hgrow_; have HNEW9 := Lib.hid hnew_; clear hown_ hgrow_ hnew_)
   go_ret
   exact ⟨v2, rfl, by rw [List.take_length, List.drop_length]; exact HOWN9.out, HGROW9.out, HNEW9.out⟩
  ·
   go_wp2_with (at_builtin; go_must (refine wpList_app rfl _ _ rfl _ _ rfl rfl (run_app1 E_txt _ _ xs HO.out gv y cs HC.out HR.out (by unfold maxLen; omega) (by omega) HB.out) ?_); rintro v2 w9 ⟨hown_, hgrow_, hnew_⟩; have HOWN9 := Lib.hid hown_; have HGROW9 := Lib.hid hgrow_; have HNEW9 := Lib.hid hnew_; clear hown_ hgrow_ hnew_)
   go_ret
   exact ⟨v2, rfl, by rw [List.take_length, List.drop_length]; exact HOWN9.out, HGROW9.out, HNEW9.out⟩
 ·
  rcases ho.opened with ⟨-, rfl⟩ | ⟨g, cap, cur, css, rfl, hrow⟩
  ·
   have h0 : ([] : List ByteArray).length = 0 := rfl
   omega
  ·
   have hne : gv ≠ g := fun e => hgv (by rw [e]; rfl)
   have HROW := Lib.hid hrow
   have hr2 := HR.out
   have HR2 := Lib.hid (show RepS.rdS w (fun b => F b ∧ b < w.heap.size ∧ b ≠ g) y cs from RepS.mono (fun b hb => ⟨hb.1, hb.2.1, fun e => hb.2.2 (by rw [e]; rfl)⟩) (fun _ _ _ _ hu => hu) HR.out)
   have hle := hrow.le; have hlim := hrow.lim
   unfold maxLen at hlim
   have hik : i < xs.length := by omega
   have hw1 : IntKind.i64.wrap ((i : Int) + 1) = ((i + 1 : Nat) : Int) := by rw [IntKind.wrap_i64]; omega
   have hw2 : IntKind.i64.wrap ((xs.length : Int) + 1) = ((xs.length + 1 : Nat) : Int) := by rw [IntKind.wrap_i64]; omega
   have hn1 : ¬ ((i : Int) = (xs.length : Int)) := by omega
   clear ho hgv hr2 hrow HR HO
   by_cases hroom : xs.length + 1 ≤ cap
   ·
    obtain ⟨cur1, cur2, k1, k2, k3⟩ := insert_room (w := w.drew) E_txt HROW.out.drew (i := i) (by omega) hroom gv hne HC.out (RepS.mono (w := w) (fun _ h => h) (fun _ _ _ _ h => h) HR2.out)
    have hov : ∀ lb cb, (callFunc (155) #[.slice (some ⟨gv, 0, none⟩) 1 1, .slice (some ⟨g, i + 1, none⟩) lb cb]).run Tryz.prog w = .ok (.value (.bool false)) w := fun lb cb =>
     overlapsT w gv 0 g (i + 1) 1 1 lb cb hne _ cur HCH.out HROW.out.heap (by rw [HROW.out.size]; show cap * 1 ≠ 0; omega)
    simp only [show Rep.size ByteArray = 1 from rfl, Nat.mul_one] at k1 k2 k3
    have K1 := Lib.hid (show ∀ ty dc sc, (Builtin.copy_ #[27, 27] ty #[.slice (some ⟨g, i + 1, none⟩) (xs.length + 1 - (i + 1)) dc, .slice (some ⟨g, i, none⟩) (xs.length + 1 - i) sc]).run Tryz.prog w.drew = .ok (goInt ((xs.length - i : Nat) : Int)) (w.drew.setRow g cur1) from fun ty dc sc => k1 ty dc sc _ _ E_txt.sl)
    have K2 := Lib.hid (show ∀ ty dc sc, (Builtin.copy_ #[27, 27] ty #[.slice (some ⟨g, i, none⟩) (xs.length + 1 - i) dc, .slice (some ⟨gv, 0, none⟩) 1 sc]).run Tryz.prog (w.drew.setRow g cur1) = .ok (goInt 1) (w.drew.setRow g cur2) from fun ty dc sc => k2 ty dc sc _ _ E_txt.sl)
    have K3 := Lib.hid k3
    clear k1 k2 k3
    have hn2 : ¬ ((cap : Int) < ((xs.length + 1 : Nat) : Int)) := by omega
    have hn3 : ((xs.length + 1 : Nat) : Int) ≤ (cap : Int) := by omega
    have hn4 : ((i + 1 : Nat) : Int) ≤ ((xs.length + 1 : Nat) : Int) := by omega
    have hn5 : (i : Int) ≤ ((xs.length + 1 : Nat) : Int) := by omega
    have hn6 : ¬ cap = i + 1 := by omega
    have ht1 : ((i : Int) + 1).toNat = i + 1 := by omega
    have ht2 : (0 : Int) ≤ (i : Int) + 1 := by omega
    have ht3 : (i : Int) + 1 ≤ (xs.length : Int) + 1 := by omega
    have ht4 : (i : Int) ≤ (xs.length : Int) + 1 := by omega
    have mixed : Tryz.prog.follows Departure.mixedOrders = true := by kernel_rfl
    have hn7 : ¬ cap = i := by omega
    go_wp2_with (simp only [hov])
    go_region_law_o (refine step_copyR (R := fun v' w' => w' = w.drew.setRow g cur1) rfl _ _ rfl (.slice (some ⟨g, i + 1, none⟩) (xs.length + 1 - (i + 1)) (cap - (i + 1))) (.slice (some ⟨g, i, none⟩) (xs.length + 1 - i) (cap - i)) (by simp [Act.eval, Act.put]) (by simp [Act.eval, Act.put]) ⟨_, _, K1.out _ _ _, rfl⟩ ?_; rintro v' w' rfl)
    go_wp2_with (refine wpList_copyR (R := fun v' w' => w' = w.drew.setRow g cur2) rfl _ _ rfl _ _ rfl rfl ⟨_, _, K2.out _ _ _, rfl⟩ ?_; rintro v' w' rfl)
    go_ret
    exact ⟨.slice (some ⟨g, 0, none⟩) (xs.length + 1) cap, rfl, by have h := K3.out.owns; rw [show (xs.take i ++ y :: xs.drop i).length = xs.length + 1 by simp; omega] at h; exact h, grown_seq (grown_wide (grown_none (below_drew w))) (grown_setRow w.drew g cur2), fun k hk => .inl hk⟩
   ·
    obtain ⟨G, cur1, W1, k1, hGn, hbW, hsW, hrW⟩ := insert_grow E_txt HROW.out hik (by omega) HB.out (by omega) (by omega) 3 27 .i64 Tryz.underlying3 .i64
    obtain ⟨N, hN⟩ : ∃ z, w.heap.size = z := ⟨_, rfl⟩
    have hgN : g < w.heap.size := HROW.out.lt
    have hvN : gv < w.heap.size := (Array.getElem?_eq_some_iff.1 HCH.out).1
    have hti2 : (xs.take i).length = i := by rw [List.length_take]; omega
    have hdi : (xs.drop i).length = xs.length - i := List.length_drop
    have hmv : ∀ b o u, (F b ∧ b < w.heap.size ∧ b ≠ g) → w.cell? ⟨b, o, none⟩ = some u → W1.cell? ⟨b, o, none⟩ = some u := fun b o u hb hu => (hbW.cell (p := ⟨b, o, none⟩) hb.2.1).trans hu
    have hmS : ∀ b, (F b ∧ b < w.heap.size ∧ b ≠ g) → (F b ∧ b < W1.heap.size ∧ b ≠ w.heap.size) := fun b hb => ⟨hb.1, by omega, by omega⟩
    obtain ⟨c1, c2, k2, k3, k4⟩ := insert_new E_txt hrW (ys := xs.drop i) (ess := css.drop i) (by rw [hti2, hdi]; omega) gv g (i * 1) (by omega) (by omega) (fun j u hu => (hbW.cell (p := ⟨gv, j, none⟩) hvN).trans (HC.out j u hu)) (RepS.mono hmS hmv HR2.out)
     (by rw [List.length_drop, List.length_drop, HROW.out.len]) (RdL.mono hmS hmv (RdL.drop HROW.out.rd i)) (fun j u hu => (hbW.cell (p := ⟨g, i * 1 + j, none⟩) hgN).trans (HROW.out.from_ i j u hu))
    simp only [show Rep.size ByteArray = 1 from rfl, Nat.mul_one] at k1 k2 k3
    rw [hti2, hdi] at k3
    rw [hti2] at k2
    rw [hN] at k1 k2 k3 k4 hsW hbW
    have hkk : (xs.length : Int) + 1 - (i : Int) = ((xs.length + 1 - i : Nat) : Int) := by omega
    rw [← hkk] at k1
    have hG63 : G ≤ 9223372036854775807 := by have h := k4.lim; unfold maxLen at h; omega
    have K1 := Lib.hid (show ∀ ty, (Builtin.append_ #[27, 3] ty #[.slice (some ⟨g, 0, none⟩) i cap, .int .i64 ((xs.length : Int) + 1 - (i : Int))]).run Tryz.prog w = .ok (.slice (some ⟨N, 0, none⟩) (xs.length + 1) G) W1 from fun ty => k1)
    have K2 := Lib.hid (show ∀ ty dl dc sc, 1 ≤ dl → (Builtin.copy_ #[27, 27] ty #[.slice (some ⟨N, i, none⟩) dl dc, .slice (some ⟨gv, 0, none⟩) 1 sc]).run Tryz.prog W1 = .ok (goInt 1) (W1.setRow N c1) from fun ty dl dc sc h => k2 ty dl dc sc _ _ E_txt.sl h)
    have K3 := Lib.hid (show ∀ ty dl dc sc, xs.length - i ≤ dl → (Builtin.copy_ #[27, 27] ty #[.slice (some ⟨N, i + 1, none⟩) dl dc, .slice (some ⟨g, i, none⟩) (xs.length - i) sc]).run Tryz.prog (W1.setRow N c1).drew = .ok (goInt ((xs.length - i : Nat) : Int)) (W1.setRow N c2).drew from fun ty dl dc sc h => k3 ty dl dc sc _ _ E_txt.sl h)
    have K4 := Lib.hid k4; have HBW := Lib.hid hbW; have HGN := Lib.hid hGn
    clear k1 k2 k3 k4 hbW hmv hmS hkk
    have hw3 : IntKind.i64.wrap ((xs.length : Int) + 1 - (i : Int)) = (xs.length : Int) + 1 - (i : Int) := by rw [IntKind.wrap_i64]; omega
    have hn2 : (cap : Int) < (xs.length : Int) + 1 := by omega
    have ht1 : ((i : Int) + 1).toNat = i + 1 := by omega
    have ht2 : (0 : Int) ≤ (i : Int) + 1 := by omega
    have ht3 : (i : Int) + 1 ≤ (xs.length : Int) + 1 := by omega
    have ht4 : (i : Int) ≤ (xs.length : Int) + 1 := by omega
    have ht5 : (i : Int) ≤ (xs.length : Int) := by omega
    have ht6 : (i : Int) ≤ (cap : Int) := by omega
    have hc1 : ¬ G = i := by omega
    have hc2 : ¬ G = i + 1 := by omega
    have hc3 : ¬ cap = i := by omega
    have mixed : Tryz.prog.follows Departure.mixedOrders = true := by kernel_rfl
    go_wp2_with (first
     | (at_builtin; go_must (refine wpList_appR (R := fun v' w' => v' = .slice (some ⟨N, 0, none⟩) (xs.length + 1) G ∧ W1 = w') rfl _ _ rfl _ _ rfl rfl ⟨_, _, K1.out _, rfl, rfl⟩ ?_); rintro v' w' ⟨rfl, rfl⟩)
     | (refine wpList_copyR (R := fun v' w' => w' = W1.setRow N c1) rfl _ _ rfl _ _ rfl rfl ⟨_, _, K2.out _ _ _ _ (by omega), rfl⟩ ?_; rintro v' w' rfl))
    go_region_law_o (refine step_copyR (R := fun v' w' => w' = (W1.setRow N c2).drew) rfl _ _ rfl (.slice (some ⟨N, i + 1, none⟩) (xs.length + 1 - (i + 1)) (G - (i + 1))) (.slice (some ⟨g, i, none⟩) (xs.length - i) (cap - i)) (by simp [Act.eval, Act.put]) (by simp [Act.eval, Act.put]) ⟨_, _, K3.out _ _ _ _ (by omega), rfl⟩ ?_; rintro v' w' rfl)
    go_wp2
    go_ret
    have hb2 : Below w.heap.size w (W1.setRow N c2).drew := by
     have h1 : Below w.heap.size w (W1.setRow N c2) := (show Below w.heap.size w W1 by rw [hN]; exact HBW.out).grown (grown_setRow W1 N c2) (by omega) (fun q hq => by have := Option.some.inj hq; omega)
     exact h1.trans ((below_drew _).mono h1.size)
    refine ⟨.slice (some ⟨N, 0, none⟩) (xs.length + 1) G, rfl, ?_, grown_wide (grown_none hb2), fun k hk => .inr (by have h1_ : N = k := Option.some.inj hk; omega)⟩
    have h := K4.out.drew.owns
    rw [show (xs.take i ++ y :: xs.drop i).length = xs.length + 1 by simp; omega] at h
    exact h
theorem zero_txt (z : Value) (hz : ∃ ti, Tryz.prog.info? 9 = some ti ∧ ti.zero = some z) : ∀ u ∈ z.cells, u.oneCell' = true := by
 obtain ⟨ti, h1, h2⟩ := hz
 obtain ⟨i, hi, h0, hs, hb⟩ := info_parts info_txt
 rw [h1] at hi
 obtain rfl := Option.some.inj hi
 rw [h2] at h0
 obtain rfl := Option.some.inj h0
 exact fun u hu => (List.all_eq_true.1 (show (Value.cells _).toList.all (fun u => u.oneCell') = true by kernel_rfl)) u (Array.mem_toList_iff.2 hu)
set_option maxHeartbeats 4000000 in
set_option maxRecDepth 100000 in
theorem SlDeleteT_any (base : Nat) (v : Value) (xs : List ByteArray) (fn : FuncId) (caps : Array Value) (p : ByteArray → Bool) (w : World) (ho : OwnsS (fun _ => False) w base 9 v xs) (hp : PredS fn caps w p) (hq : ∀ (x : ByteArray) (W : World), x.size ≤ maxLen → w.grownBy W v.ownBlock → Calls Tryz.prog fn (#[.string x] ++ caps) W fun e W' => e = .returned (.bool (p x)) ∧ Below W.heap.size W W') (hl : xs.length ≤ 1000) :
  Calls Tryz.prog 148 #[v, .func (.func fn) #[] caps] w fun e w' => ∃ v', e = .returned v' ∧ OwnsS (fun _ => False) w' base 9 v' (xs.filter fun x => !p x) ∧ w.grownBy w' v.ownBlock ∧ ∀ k, v'.ownBlock = some k → v.ownBlock = some k := by
 have HQ := Lib.hid hq; clear hq
 have hen := hp.1
 have HP := Lib.hid hp; have HL := Lib.hid hl; have HO := Lib.hid ho
 clear hp
 go_enter Tryz.func148, Tryz.ntmps148
 rcases ho.opened with ⟨rfl, rfl⟩ | ⟨gr, cap, cur, css, rfl, hrow⟩
 ·
  clear ho
  go_wp2_with fail
  refine (IndexFunc_any none 0 [] fn caps p w Sl.nil_ HP.out).mono ?_
  rintro e w1 ⟨rfl, hb1⟩
  have HB1 := Lib.hid hb1; clear hb1
  have hz : idxInt p ([] : List ByteArray) = -1 := rfl
  rw [hz]
  go_wp2
  go_ret
  exact ⟨.slice none 0 0, rfl, HO.out.below HB1.out, grown_wide (grown_none HB1.out), fun k hk => by cases hk⟩
 ·
  have HROW := Lib.hid hrow; have hc1 := hrow.le; have hc2 := hrow.lim
  unfold maxLen at hc2
  clear ho hrow
  have hsl : Sl w w.heap.size (some ⟨gr, 0, none⟩) cap xs := by obtain ⟨A9, c9, he, hs⟩ := HO.out.sl; injection he with e1 e2 e3; subst e1; subst e3; exact hs
  have HSL := Lib.hid hsl; clear hsl
  go_wp2_with fail
  refine (IndexFunc_any (some ⟨gr, 0, none⟩) cap xs fn caps p w HSL.out HP.out).mono ?_
  rintro e w1 ⟨rfl, hb1⟩
  have HB1 := Lib.hid hb1; clear hb1
  have hidx := idx_casesT p xs
  obtain ⟨z, hz⟩ : ∃ z, idxInt p xs = z := ⟨_, rfl⟩
  rw [hz] at hidx ⊢
  clear hz
  rcases hidx with ⟨rfl, hall⟩ | ⟨i0, x0, rfl, hx0, hp0, hbe⟩
  ·
   have HF := Lib.hid (show xs.filter (fun x => !p x) = xs from List.filter_eq_self.2 fun x hx => by rw [hall x hx]; rfl)
   clear hall
   go_wp2
   go_ret
   exact ⟨.slice (some ⟨gr, 0, none⟩) xs.length cap, rfl, by rw [HF.out]; exact HO.out.below HB1.out, grown_wide (grown_none HB1.out), fun k hk => hk⟩
  ·
   have hi0 := (List.getElem?_eq_some_iff.1 hx0).1
   have hst := DelSt.start (W := w) (HROW.out.below HB1.out) (grown_wide (grown_none HB1.out)) hx0 hp0 hbe
   have HST := Lib.hid hst
   clear hst hx0 hp0 hbe
   have hm1 : ((i0 : Int) == -1) = false := by simp; try omega
   have hwi : IntKind.i64.wrap ((i0 : Int) + 1) = ((i0 + 1 : Nat) : Int) := by rw [IntKind.wrap_i64]; omega
   go_wp2_with fail
   go_loopw [5, 6] (fun si sj wr => ∃ i j : Nat, si = .int .i64 i ∧ sj = .int .i64 j ∧ Hid (DelSt (fun _ => False) base 9 gr cap w xs p i j wr)) (fun _ sj _ => xs.length - (intOf sj).toNat)
   case atStart => exact ⟨i0, i0 + 1, rfl, by first | rfl | go_num, HST⟩
   case round =>
    clear HST hwi hm1 hi0
    obtain ⟨i, j, rfl, rfl, HST⟩ := hrel
    obtain ⟨hij, hjx, hxc⟩ := HST.out.leT
    have HSR := Lib.hid HST.out.grownT.size
    by_cases hlt : j < xs.length
    ·
     have i1 : (j : Int) < (xs.length : Int) := by omega
     have hxj : xs[j]? = some xs[j] := List.getElem?_eq_getElem hlt
     obtain ⟨x, hx⟩ : ∃ x, xs[j]'hlt = x := ⟨_, rfl⟩
     rw [hx] at hxj
     have HXJ := Lib.hid hxj; clear hxj hx
     obtain ⟨⟨cs, hrd, hcs⟩, hci, hfz, hgw⟩ := HST.out.at_ HXJ.out
     have HRD := Lib.hid hrd
     obtain ⟨rfl, hxs⟩ := hrd
     have y0 := hcs 0 _ rfl
     rw [show j * Rep.size ByteArray + 0 = j by show j * 1 + 0 = j; omega] at y0
     clear hcs hci hfz hgw
     go_wp2_with fail
     have hcall := HQ.out x wr hxs HST.out.grownT
     refine Calls.mono (R := fun e W' => e = .returned (.bool (p x)) ∧ Below wr.heap.size wr W') ?_ ?_
     · first | exact hcall | simpa using hcall
     rintro e w3 ⟨rfl, hb3⟩
     have HB3 := Lib.hid hb3; clear hb3 y0 hcall
     cases hpx : p x with
     | true =>
      have hs2 := HST.out.skip HXJ.out hpx HB3.out
      have HS2 := Lib.hid hs2; clear hs2 hpx
      go_wp2
      go_roundw
      case rel => exact ⟨i, j + 1, rfl, by go_num, HS2⟩
      case measure => simp [intOf]; omega
     | false =>
      have HPX := Lib.hid hpx; clear hpx
      obtain ⟨-, kk, hfz, -⟩ := (HST.out.belowT HB3.out).at_ HXJ.out
      obtain ⟨v0, e0⟩ : ∃ u, w3.cell? ⟨gr, i * 1 + 0, none⟩ = some u := kk 0 (by decide)
      rw [show i * 1 + 0 = i by omega] at e0
      have hcx : i ≤ cap := by omega
      have hix : (i : Int) < (xs.length : Int) := by omega
      clear kk
      go_upto_region 10 with fail
      clear e0 hfz
      obtain ⟨w4, hw4⟩ : ∃ z, w3.setCell ⟨gr, i, none⟩ (.string x) = z := ⟨_, rfl⟩
      have hs2 := HST.out.put HXJ.out HPX.out HB3.out HRD.out
      rw [show w3.setCells gr (i * Rep.size ByteArray) [.string x] = w4 from by rw [show i * Rep.size ByteArray = i by show i * 1 = i; omega, setCells1]; exact hw4] at hs2
      rw [hw4]
      clear hw4
      have HS2 := Lib.hid hs2; clear hs2
      have hwi : IntKind.i64.wrap ((i : Int) + 1) = ((i + 1 : Nat) : Int) := by rw [IntKind.wrap_i64]; omega
      go_wp2
      go_roundw
      case rel => exact ⟨i + 1, j + 1, by first | rfl | go_num, by go_num, HS2⟩
      case measure => simp [intOf]; omega
    ·
     have i1 : ¬ (j : Int) < (xs.length : Int) := by omega
     obtain rfl : j = xs.length := by omega
     have hic : ¬ cap = i := by omega
     have hix2 : (i : Int) ≤ (xs.length : Int) := by omega
     have hix3 : (i : Int) ≤ (cap : Int) := by omega
     have hone : ∀ (z : Value), (∃ ti, Tryz.prog.info? 9 = some ti ∧ ti.zero = some z) → ∀ u ∈ z.cells, u.oneCell' = true := fun z hz => zero_txt z hz
     go_wp2_with (refine wpList_clearR (R := fun v' w' => w.grownBy w' (some gr) ∧ OwnsS (fun _ => False) w' base 9 (.slice (some ⟨gr, 0, none⟩) i cap) (xs.filter fun x => !p x)) (tys := #[27]) rfl _ rfl (.slice (some ⟨gr, i, none⟩) (xs.length - i) (cap - i)) rfl (by obtain ⟨W2, hrun, hgr, hown, -⟩ := HST.out.done E_txt _ (cap - i) hone; rw [show i * Rep.size ByteArray = i by show i * 1 = i; omega] at hrun; exact ⟨_, W2, hrun, hgr, hown⟩) ?_; rintro v' w9 ⟨hgr_, hown_⟩; have HGR := Lib.hid hgr_; have HOW := Lib.hid hown_; clear hgr_ hown_)
     go_ret
     exact ⟨.slice (some ⟨gr, 0, none⟩) i cap, rfl, HOW.out, HGR.out, fun k hk => hk⟩
end Go.Proofs.YtjpoljlgkgmdkaaGreatDoor
namespace Go.Cold
open Go Go.RowKit Go.Proofs.YtjpoljlgkgmdkaaGreatDoor
theorem Sl.term {w : World} {B c : Nat} {A : Option Addr} {xs : List Term4} (h : Sl w B A c xs) {i : Nat} (hi : i < xs.length) :
  ∃ b o, A = some ⟨b, o, none⟩ ∧ b < B ∧ okT xs[i] ∧ w.cell? ⟨b, o + i * 4, none⟩ = some (.int .i64 xs[i].key) ∧ w.cell? ⟨b, o + i * 4 + 1, none⟩ = some (.string xs[i].nm) ∧ w.cell? ⟨b, o + i * 4 + 2, none⟩ = some (.int .i64 xs[i].op) ∧ w.cell? ⟨b, o + i * 4 + 3, none⟩ = some (.string xs[i].val) := by
 obtain ⟨b, o, e, hlt, cs, hr, hc⟩ := h.at_ hi
 obtain ⟨rfl, hs⟩ := hr
 have hsz : Rep.size Term4 = 4 := rfl
 refine ⟨b, o, e, hlt, hs, ?_, ?_, ?_, ?_⟩
 · have := hc 0 _ rfl; rw [hsz] at this; exact this
 · have := hc 1 _ rfl; rw [hsz] at this; rw [Nat.add_assoc]; exact this
 · have := hc 2 _ rfl; rw [hsz] at this; rw [Nat.add_assoc]; exact this
 · have := hc 3 _ rfl; rw [hsz] at this; rw [Nat.add_assoc]; exact this
end Go.Cold
namespace Go.Proofs.YtjpoljlgkgmdkaaGreatDoor
open Go.RowKit Go.Cold
theorem info_draft2 : (Tryz.prog.info? 30).map (fun i => (i.zero, i.size)) = some (some (.agg #[.slice none 0 0, .slice none 0 0, .slice none 0 0, .slice none 0 0, .slice none 0 0, .string ByteArray.empty, .int .i64 0, .string ByteArray.empty, .string ByteArray.empty, .int .i64 0, .string ByteArray.empty, .int .i64 0, .int .i64 0, .slice none 0 0]), 14) := by kernel_rfl
theorem info_term : (Tryz.prog.info? 35).map (fun i => (i.zero, i.size, i.bytes)) = some (some (.agg #[.int .i64 0, .string ByteArray.empty, .int .i64 0, .string ByteArray.empty]), 4, 48) := by kernel_rfl
theorem E_term : ElemT Tryz.prog (Rep.size Term4) 35 28 48 := ⟨Tryz.underlying28, by obtain ⟨i, hi, hz, h1, h2⟩ := info_parts info_term; exact ⟨i, _, hi, hz, h1, h2, rfl⟩⟩
set_option maxRecDepth 100000 in
theorem Clone4_any (A : Option Addr) (c : Nat) (ys : List Term4) (w : World) (B : Nat) (hB : B ≤ w.heap.size) (hx : Sl w B A c ys) (hl : ys.length ≤ 1000000) : Calls Tryz.prog 71 #[.slice A ys.length c] w fun e w' => Below w.heap.size w w' ∧ ∃ v, e = .returned v ∧ OwnsS (fun _ => False) w' w.heap.size 35 v ys := by
 have hx1 := hx.1; have hx2 := hx.2.1
 unfold maxLen at hx2
 have HX := Lib.hid hx; have HB := Lib.hid hB; have HL := Lib.hid hl; clear hx hB hl
 rcases A with _ | A
 ·
  have h0 : ys = [] := by
    rcases ys with _ | ⟨y, r⟩
    · rfl
    ·
     obtain ⟨b, o, e, _⟩ := HX.out.2.2 (by simp)
     cases e
  subst h0
  go_enter Tryz.func71, Tryz.ntmps71
  have hn := fun W => Lib.run_eql_slice_nil_nil (P := Tryz.prog) W 0 c Tryz.underlying28
  go_wp2
  go_ret
  exact ⟨Below.refl _ _, .slice none 0 0, by try rfl, OwnsS.nil_ _ _ _ _⟩
 ·
  go_enter Tryz.func71, Tryz.ntmps71
  have hn := fun W => Lib.run_eql_slice_some_nil (P := Tryz.prog) W A ys.length c Tryz.underlying28
  go_upto_region 3 with fail
  have HOWN0 := Lib.hid (owns_made (fun x => x < B) w (base := w.heap.size) 35 Term4 (Nat.le_refl _))
  have hb1 : Below w.heap.size w (w.alloc (.cells #[] 35)) := (Below.refl _ _).alloc (Nat.le_refl _) _
  have HB1 := Lib.hid hb1; clear hb1
  have HSRC := Lib.hid (show SlS (w.alloc (.cells #[] 35)) (fun b => b < B ∧ b < (w.alloc (.cells #[] 35)).heap.size ∧ (Value.slice (some ⟨w.heap.size, 0, none⟩) 0 0).ownBlock ≠ some b) (some A) c ys from (SlS_iff.1 (HX.out.keep (HB1.out.mono HB.out))).mono (fun b hb => ⟨hb, by have := HB.out; have := HB1.out.size; omega, fun e => by have h1 : w.heap.size = b := Option.some.inj e; have := HB.out; have h2 : b < B := hb; omega⟩) (fun _ _ _ _ hu => hu))
  clear hx1 hx2 hn
  go_wp2_with (at_builtin; go_must (refine wpList_app rfl _ _ rfl (.slice (some ⟨w.heap.size, 0, none⟩) 0 0) _ rfl rfl (run_appL E_term _ _ [] HOWN0.out (some A) c ys (.inl HSRC.out) (by have := HL.out; have h0_ : ([] : List Term4).length = 0 := rfl; unfold maxLen; omega) (by have := HL.out; have h0_ : ([] : List Term4).length = 0 := rfl; omega) HB1.out.size) ?_); intro v1 w1 hR_; have HR1 := Lib.hid hR_; clear hR_)
  obtain ⟨ho, hg, -⟩ := HR1.out
  rw [List.nil_append] at ho
  go_ret
  exact ⟨HB1.out.grown hg HB1.out.size (fun q hq => by have h1 : w.heap.size = q := Option.some.inj hq; omega), v1, by try rfl, own_any4 ho⟩
set_option maxRecDepth 100000 in
theorem CloneT_any (A : Option Addr) (c : Nat) (ys : List ByteArray) (w : World) (B : Nat) (hB : B ≤ w.heap.size) (hx : Sl w B A c ys) (hl : ys.length ≤ 1000000) : Calls Tryz.prog 72 #[.slice A ys.length c] w fun e w' => Below w.heap.size w w' ∧ ∃ v, e = .returned v ∧ OwnsS (fun _ => False) w' w.heap.size 9 v ys := by
 have hx1 := hx.1; have hx2 := hx.2.1
 unfold maxLen at hx2
 have HX := Lib.hid hx; have HB := Lib.hid hB; have HL := Lib.hid hl; clear hx hB hl
 rcases A with _ | A
 ·
  have h0 : ys = [] := by
    rcases ys with _ | ⟨y, r⟩
    · rfl
    ·
     obtain ⟨b, o, e, _⟩ := HX.out.2.2 (by simp)
     cases e
  subst h0
  go_enter Tryz.func72, Tryz.ntmps72
  have hn := fun W => Lib.run_eql_slice_nil_nil (P := Tryz.prog) W 0 c Tryz.underlying27
  go_wp2
  go_ret
  exact ⟨Below.refl _ _, .slice none 0 0, by try rfl, OwnsS.nil_ _ _ _ _⟩
 ·
  go_enter Tryz.func72, Tryz.ntmps72
  have hn := fun W => Lib.run_eql_slice_some_nil (P := Tryz.prog) W A ys.length c Tryz.underlying27
  go_upto_region 3 with fail
  have HOWN0 := Lib.hid (owns_made (fun x => x < B) w (base := w.heap.size) 9 ByteArray (Nat.le_refl _))
  have hb1 : Below w.heap.size w (w.alloc (.cells #[] 9)) := (Below.refl _ _).alloc (Nat.le_refl _) _
  have HB1 := Lib.hid hb1; clear hb1
  have HSRC := Lib.hid (show SlS (w.alloc (.cells #[] 9)) (fun b => b < B ∧ b < (w.alloc (.cells #[] 9)).heap.size ∧ (Value.slice (some ⟨w.heap.size, 0, none⟩) 0 0).ownBlock ≠ some b) (some A) c ys from (SlS_iff.1 (HX.out.keep (HB1.out.mono HB.out))).mono (fun b hb => ⟨hb, by have := HB.out; have := HB1.out.size; omega, fun e => by have h1 : w.heap.size = b := Option.some.inj e; have := HB.out; have h2 : b < B := hb; omega⟩) (fun _ _ _ _ hu => hu))
  clear hx1 hx2 hn
  go_wp2_with (at_builtin; go_must (refine wpList_app rfl _ _ rfl (.slice (some ⟨w.heap.size, 0, none⟩) 0 0) _ rfl rfl (run_appL E_txt _ _ [] HOWN0.out (some A) c ys (.inl HSRC.out) (by have := HL.out; have h0_ : ([] : List ByteArray).length = 0 := rfl; unfold maxLen; omega) (by have := HL.out; have h0_ : ([] : List ByteArray).length = 0 := rfl; omega) HB1.out.size) ?_); intro v1 w1 hR_; have HR1 := Lib.hid hR_; clear hR_)
  obtain ⟨ho, hg, -⟩ := HR1.out
  rw [List.nil_append] at ho
  go_ret
  exact ⟨HB1.out.grown hg HB1.out.size (fun q hq => by have h1 : w.heap.size = q := Option.some.inj hq; omega), v1, by try rfl, own_anyT ho⟩
theorem lower_any (c : Int) (w : World) : Calls Tryz.prog 180 #[.int .u8 c] w fun e w' => e = .returned (.int .u8 (bits .or .u8 c 32)) ∧ w' = w := by
 go_enter Tryz.func180, Tryz.ntmps180
 go_wp2
 go_ret
 exact ⟨rfl, rfl⟩
def PuPost (o : Option Int) (w : World) (e : Ending) (w' : World) : Prop := Below w.heap.size w w' ∧ ((∃ n, o = some n ∧ e = .returned (.tuple #[.int .u64 n, .nilIface])) ∨ (o = none ∧ ∃ x z, e = .returned (.tuple #[.int .u64 x, .iface 192 (.int .i64 z)]) ∧ (z = 1 ∨ z = 2)))
theorem puGo_big {a : Int} {c : UInt8} {r : List UInt8} (h : ¬ (48 ≤ c.toNat ∧ c.toNat ≤ 55 ∧ 8 * a + ((c.toNat : Int) - 48) ≤ 4095)) : puGo a (c :: r) = none := by rw [puGo, if_neg h]
theorem puGo_ok {a : Int} {c : UInt8} {r : List UInt8} (h : 48 ≤ c.toNat ∧ c.toNat ≤ 55 ∧ 8 * a + ((c.toNat : Int) - 48) ≤ 4095) : puGo a (c :: r) = puGo (8 * a + ((c.toNat : Int) - 48)) r := by rw [puGo, if_pos h]
set_option maxHeartbeats 32000000 in
set_option maxRecDepth 100000 in
theorem puI_any (t : ByteArray) (hne : t.size ≠ 0) (hmax : t.size ≤ 100000) (w : World) : Calls Tryz.prog 151 #[.string t, .int .i64 8, .int .i64 12] w (PuPost (puGo 0 t.data.toList) w) := by
 have mixed : Tryz.prog.follows Departure.mixedOrders = true := by kernel_rfl
 have hemp : t.toList.isEmpty = false := by
  rw [← decide_eq_emptyBytes]
  exact decide_eq_false (fun h => hne (by rw [h]; rfl))
 have hcv := Lib.run_convert_string_bytes (P := Tryz.prog) w 9 81 5 t (u := .string) Tryz.underlying9 Tryz.underlying81 Tryz.underlying5
 have hB : ∀ j, j < t.size → (Lib.bytesWorld w 5 t).cell? ⟨w.heap.size, j, none⟩ = some (.int .u8 (t.data.toList.getD j 0).toNat) := fun j hj => Lib.bytesWorld_cell w 5 t j hj
 have HBW := Lib.hid (Lib.bytesWorld_below w 5 t)
 obtain ⟨W1, hW1⟩ : ∃ W1, W1 = Lib.bytesWorld w 5 t := ⟨_, rfl⟩
 rw [← hW1] at hcv hB HBW
 clear hW1
 obtain ⟨bs, hL⟩ : ∃ bs, bs = t.data.toList := ⟨_, rfl⟩
 have hLn : bs.length = t.size := by rw [hL, Lib.size_eq]
 rw [← hL] at hB ⊢
 clear hL hne
 have hmv : IntKind.u64.wrap (IntKind.u64.wrap 4096 - 1) = 4095 := by
  rw [IntKind.wrap_u64, IntKind.wrap_u64]
  decide
 go_enter Tryz.func151, Tryz.ntmps151
 go_wp2
 go_loop [12, 13, 101] (fun vu vn vi => ∃ (k : Nat) (a : Int), vu = .bool false ∧ vn = .int .u64 a ∧ vi = .int .i64 k ∧ k ≤ t.size ∧ Hid (0 ≤ a ∧ a ≤ 4095 ∧ puGo 0 bs = puGo a (bs.drop k)))
  (fun _ _ vi => t.size - (intOf vi).toNat)
 case atStart => exact ⟨0, 0, rfl, rfl, rfl, by omega, by omega, by omega, rfl⟩
 case round =>
  obtain ⟨k, a, rfl, rfl, rfl, hk, hh⟩ := hrel
  obtain ⟨a0, a1, hdec⟩ := hh.out
  clear hh
  by_cases hkn : k < t.size
  ·
   have hc := hB k hkn
   have hdrop : bs.drop k = bs[k]'(by omega) :: bs.drop (k + 1) := List.drop_eq_getElem_cons (by omega)
   have hget : bs.getD k 0 = bs[k]'(by omega) := by simp [List.getD, List.getElem?_eq_getElem (show k < bs.length by omega)]
   rw [hdrop] at hdec
   rw [hget] at hc
   generalize bs[k]'(by omega) = c at hc hdec
   have hc256 : c.toNat < 256 := c.toNat_lt
   clear hB hdrop hget
   by_cases hdig : 48 ≤ c.toNat ∧ c.toNat ≤ 57
   ·
    obtain ⟨hd0, hd1⟩ := hdig
    by_cases hoct : c.toNat ≤ 55
    ·
     by_cases hov : 4095 < a * 8 + ((c.toNat : Int) - 48)
     ·
      have hF := hdec.trans (puGo_big (by omega))
      have HF := Lib.hid hF; clear hF hdec
      go_wp2
      go_ret2
      exact ⟨HBW.out, .inr ⟨HF.out, _, _, rfl, .inl rfl⟩⟩
     ·
      have HN : Hid (0 ≤ a * 8 + ((c.toNat : Int) - 48) ∧ a * 8 + ((c.toNat : Int) - 48) ≤ 4095 ∧ puGo 0 bs = puGo (a * 8 + ((c.toNat : Int) - 48)) (bs.drop (k + 1))) := Lib.hid ⟨by omega, by omega, hdec.trans (by rw [puGo_ok (by omega), show 8 * a + ((c.toNat : Int) - 48) = a * 8 + ((c.toNat : Int) - 48) by omega])⟩
      have iov : a * 8 + ((c.toNat : Int) - 48) ≤ 4095 := by omega
      clear hov hdec
      go_wp2
      refine ⟨⟨k + 1, a * 8 + ((c.toNat : Int) - 48), rfl, (by first | rfl | (congr 1; omega)), (by first | rfl | (congr 1; omega)), by omega, HN⟩, by simp [intOf]; omega⟩
    ·
     have hF := hdec.trans (puGo_big (by omega))
     have HF := Lib.hid hF; clear hF hdec
     go_wp2
     go_ret2
     exact ⟨HBW.out, .inr ⟨HF.out, _, _, rfl, .inr rfl⟩⟩
   ·
    have hF := hdec.trans (puGo_big (by omega))
    have HF := Lib.hid hF; clear hF hdec
    have hv0 := bits_lo_u8 .or (c.toNat : Int) 32
    have hv1 := bits_hi_u8 .or (c.toNat : Int) 32
    have hu0 := bits_lo_u8 .or 95 32
    have hu1 := bits_hi_u8 .or 95 32
    go_wp2_with (go_at_call 180; refine (lower_any _ _).mono ?_; rintro e w' ⟨rfl, rfl⟩)
    all_goals go_ret2
    all_goals exact ⟨HBW.out, .inr ⟨HF.out, _, _, rfl, .inr rfl⟩⟩
  ·
   have hkk : k = t.size := by omega
   subst hkk
   have hF : puGo 0 bs = some a := hdec.trans (by rw [List.drop_eq_nil_of_le (by omega)]; rfl)
   have HF := Lib.hid hF; clear hF hdec a0 a1
   go_wp2
   go_ret2
   exact ⟨HBW.out, .inl ⟨a, HF.out, rfl⟩⟩
def PuR (o : Option Int) (w : World) (e : Ending) (w' : World) : Prop := Below w.heap.size w w' ∧ ∃ x ev, e = .returned (.tuple #[.int .u64 x, ev]) ∧ ((o = some x ∧ ev = .nilIface) ∨ (o = none ∧ ∃ te pe, ev = .iface te pe))
set_option maxHeartbeats 4000000 in
set_option maxRecDepth 100000 in
theorem Pu_any (t : ByteArray) (w : World) (hok : Ok7 w) (ht : t.size ≤ 100000) : Calls Tryz.prog 125 #[.string t, .int .i64 8, .int .i64 12] w (PuR (puT t) w) := by
 have H7 := Lib.hid hok; clear hok
 have HT := Lib.hid ht; clear ht
 have hint : Calls Tryz.prog 151 #[.string t, .int .i64 8, .int .i64 12] w (PuPost (puT t) w) := by
  by_cases h0 : t.size = 0
  ·
   have hpt : puT t = none := by unfold puT; rw [if_pos h0]
   have hemp : t.toList.isEmpty = true := by
    rw [← decide_eq_emptyBytes]
    exact decide_eq_true (ba_ext (List.eq_nil_of_length_eq_zero (by rw [ba_size]; exact h0)))
   obtain ⟨p1, p2⟩ := emptiesR hemp
   have HPT := Lib.hid hpt; clear hpt h0
   go_enter Tryz.func151, Tryz.ntmps151
   go_wp2
   go_ret2
   exact ⟨Below.refl _ _, .inr ⟨HPT.out, _, _, rfl, .inr rfl⟩⟩
  ·
   have hpt : puT t = puGo 0 t.data.toList := by unfold puT; rw [if_neg h0]
   rw [hpt]
   exact puI_any t h0 HT.out w
 have HI := Lib.hid hint; clear hint
 go_enter Tryz.func125, Tryz.ntmps125
 go_wp2_with fail
 refine HI.out.mono ?_
 rintro e w1 ⟨hb1, hor⟩
 have HB1 := Lib.hid hb1
 have HK := Lib.hid (H7.out.below hb1)
 clear hb1
 rcases hor with ⟨n, hn, rfl⟩ | ⟨hn, x, z, rfl, hz⟩
 ·
  have HN := Lib.hid hn; clear hn
  go_wp2
  go_ret2
  exact ⟨HB1.out, n, _, rfl, .inl ⟨HN.out, rfl⟩⟩
 ·
  have HN := Lib.hid hn; clear hn
  rcases hz with rfl | rfl
  ·
   obtain ⟨-, ⟨ev, h1, h2⟩, -⟩ := HK.out
   have HE1 := Lib.hid h1; have HE2 := Lib.hid h2; clear h1 h2
   go_wp2_with fail
   refine (Tryz.strconv_toError_range _ t 8 12 ev _ (by have := HT.out; omega) HE1.out HE2.out).mono ?_
   rintro e w2 ⟨N, rfl, h1, h2, h3⟩
   have HB2 := Lib.hid (below_next HB1.out h3); clear h1 h2 h3
   go_wp2
   go_ret2
   exact ⟨HB2.out, x, _, rfl, .inr ⟨HN.out, _, _, rfl⟩⟩
  ·
   obtain ⟨⟨ev, h1, h2⟩, -, -⟩ := HK.out
   have HE1 := Lib.hid h1; have HE2 := Lib.hid h2; clear h1 h2
   go_wp2_with fail
   refine (Tryz.strconv_toError_syntax _ t 8 12 ev _ (by have := HT.out; omega) HE1.out HE2.out).mono ?_
   rintro e w2 ⟨N, rfl, h1, h2, h3⟩
   have HB2 := Lib.hid (below_next HB1.out h3); clear h1 h2 h3
   go_wp2
   go_ret2
   exact ⟨HB2.out, x, _, rfl, .inr ⟨HN.out, _, _, rfl⟩⟩
end Go.Proofs.YtjpoljlgkgmdkaaGreatDoor
namespace Go.Proofs.YtjpoljlgkgmdkaaGreatDoor
open Go.RowKit Go.Cold Go.Shelf
structure PredM (g : FuncId) (caps : Array Value) (w : World) (B : Nat) (Q : Term4 → Prop) (p : Term4 → Bool) : Prop where
  enters : ∀ args w, (callFunc g args).run Tryz.prog w = .ok (.enter g args) w
  gives : ∀ (d : Term4) (W : World), okT d → Q d → Below w.heap.size w W → Calls Tryz.prog g (#[.agg #[.int .i64 d.key, .string d.nm, .int .i64 d.op, .string d.val]] ++ caps) W fun e W' => e = .returned (.bool (p d)) ∧ Below W.heap.size W W'
theorem PredM.next {g : FuncId} {caps : Array Value} {w w' : World} {B : Nat} {Q : Term4 → Prop} {p : Term4 → Bool} (h : PredM g caps w B Q p) (hb : Below w.heap.size w w') : PredM g caps w' B Q p :=
  ⟨h.enters, fun d W h1 h3 hW => h.gives d W h1 h3 (hb.trans (hW.mono hb.size))⟩
set_option maxRecDepth 10000 in
theorem IndexFuncM_any (A : Option Addr) (c : Nat) (xs : List Term4) (g : FuncId) (caps : Array Value) (Q : Term4 → Prop) (p : Term4 → Bool) (w : World) (B : Nat) (hB : B ≤ w.heap.size) (hx : Sl w B A c xs) (hp : PredM g caps w B Q p) (hq : ∀ d ∈ xs, Q d) :
    Calls Tryz.prog 73 #[.slice A xs.length c, .func (.func g) #[] caps] w fun e w' => e = .returned (.int .i64 (idxInt p xs)) ∧ Below w.heap.size w w' := by
  have hc := hx.1; have hc2 := hx.2.1
  unfold maxLen at hc2
  have hen := hp.enters
  have HP := Lib.hid hp; clear hp
  have HSl := Lib.hid hx; clear hx
  have HQQ := Lib.hid hq; clear hq
  have HB := Lib.hid hB; clear hB
  go_enter Tryz.func73, Tryz.ntmps73
  go_wp2
  go_loopw [8] (fun i wr => ∃ k : Nat, k ≤ xs.length ∧ i = .int .i64 k ∧ Hid ((xs.take k).all (fun x => !p x) = true) ∧ Below w.heap.size w wr) (fun i _ => xs.length - (intOf i).toNat)
  case atStart => exact ⟨0, Nat.zero_le _, rfl, rfl, Below.refl _ _⟩
  case round =>
    obtain ⟨k, hk, rfl, HA, hb⟩ := hrel
    by_cases hlt : k < xs.length
    · obtain ⟨b3, o3, rfl, hb3, hsz, cx0, cx1, cx2, cx3⟩ := Sl.term (HSl.out.keep (hb.mono HB.out)) hlt
      have hxk : xs[k]? = some xs[k] := List.getElem?_eq_getElem hlt
      have HQ := Lib.hid (HQQ.out _ (List.getElem_mem hlt))
      obtain ⟨x, hx⟩ : ∃ x, xs[k]'hlt = x := ⟨_, rfl⟩
      rw [hx] at cx0 cx1 cx2 cx3 hsz hxk HQ
      have HX := Lib.hid hxk; clear hxk
      have HXX := Lib.hid hx; clear hx
      have i1 : (k : Int) < (xs.length : Int) := by omega
      have HCALL := Lib.hid (HP.out.gives x wr hsz HQ.out hb)
      
      go_wp2_with fail
      refine Calls.mono (R := fun e W' => e = .returned (.bool (p x)) ∧ Below wr.heap.size wr W') ?_ ?_
      · first | exact HCALL.out | simpa using HCALL.out
      rintro e w1 ⟨rfl, hb1⟩
      have hb2 := hb.trans (hb1.mono hb.size)
      clear hb1 hb HCALL cx2 cx3 cx0 cx1 hsz
      cases hpx : p x with
      | true =>
        have HPX := Lib.hid hpx; clear hpx
        go_wp2
        go_ret
        exact ⟨ret_int (idxInt_some hlt HA.out (by rw [HXX.out]; exact HPX.out)).symm, hb2⟩
      | false =>
        have HPX := Lib.hid hpx; clear hpx
        go_wp2
        go_roundw
        case rel => exact ⟨k + 1, by omega, by go_num, all_step HA.out HX.out (by rw [HPX.out]; rfl), hb2⟩
        case measure => simp [intOf]; omega
    · go_wp2
      go_ret
      exact ⟨ret_int (idxInt_none (all_end HA.out (by omega))).symm, hb⟩
theorem ContainsFuncM_any (A : Option Addr) (c : Nat) (xs : List Term4) (g : FuncId) (caps : Array Value) (Q : Term4 → Prop) (p : Term4 → Bool) (w : World) (B : Nat) (hB : B ≤ w.heap.size) (hx : Sl w B A c xs) (hp : PredM g caps w B Q p) (hq : ∀ d ∈ xs, Q d) :
    Calls Tryz.prog 34 #[.slice A xs.length c, .func (.func g) #[] caps] w fun e w' => e = .returned (.bool (xs.any p)) ∧ Below w.heap.size w w' := by
  have HP := Lib.hid hp; clear hp
  have HSl := Lib.hid hx; clear hx
  have HQQ := Lib.hid hq; clear hq
  have HB := Lib.hid hB; clear hB
  go_enter Tryz.func34, Tryz.ntmps34
  go_wp2_with fail
  refine (IndexFuncM_any A c xs g caps Q p w B HB.out HSl.out HP.out HQQ.out).mono ?_
  rintro e w1 ⟨rfl, hb1⟩
  go_wp2
  go_ret
  exact ⟨ret_bool (idxInt_any _ _), hb1⟩

theorem BS_any (A : Option Addr) (c : Nat) (l : List ByteArray) (s : ByteArray) (w : World) (hx : Sl w w.heap.size A c l) (ha : ascL l = true) (hl : l.length ≤ 1000000) : Calls Tryz.prog 126 #[.slice A l.length c, .string s] w fun e w' => e = .returned (.tuple #[.int .i64 (posT l s : Nat), .bool (hasT l s)]) ∧ Below w.heap.size w w' := by
  by_cases h0 : l.length = 0
  · have hn : l = [] := List.eq_nil_of_length_eq_zero h0
    subst hn
    refine (Tryz.slices_BinarySearch_textsE A c s w).mono ?_
    rintro e w' ⟨rfl, rfl⟩
    exact ⟨rfl, Below.refl _ _⟩
  · obtain ⟨b, o, rfl, hb, h4⟩ := hx.2.2 (by omega)
    refine (Tryz.slices_BinarySearch_texts b o l.length c (fun t => l.getD t s) s w (by omega) (fun j hj => ?_)).mono ?_
    · obtain ⟨cs, ⟨rfl, h5⟩, h6⟩ := h4 j _ (List.getElem?_eq_getElem hj)
      have h7 := h6 0 _ rfl
      rw [show j * Rep.size ByteArray + 0 = j by show j * 1 + 0 = j; omega] at h7
      rw [h7]
      simp [List.getD, List.getElem?_eq_getElem hj]
    · rintro e w' ⟨rfl, q, rfl⟩
      rw [bs_pos ha, bs_has]
      exact ⟨rfl, below_drewN_self _ _ _⟩
theorem full_any (v : ByteArray) (w : World) (hv : v.size ≤ maxLen) : Calls Tryz.prog 81 #[.string v] w fun e w' => e = .returned (.bool (fullT v)) ∧ Below w.heap.size w w' := by
  have HV := Lib.hid hv; clear hv
  go_enter Tryz.func81, Tryz.ntmps81
  by_cases hve : v.toList.isEmpty = true
  · obtain ⟨p1, p2⟩ := emptiesR hve
    have HF := Lib.hid (show fullT v = false by unfold fullT; rw [hve]; rfl); clear hve
    go_wp2
    go_ret
    exact ⟨by rw [HF.out]; rfl, Below.refl _ _⟩
  · have hve2 : v.toList.isEmpty = false := by simpa using hve
    obtain ⟨p1, p2⟩ := emptiesR hve2
    have HF := Lib.hid (show fullT v = textB v by unfold fullT; rw [hve2]; rfl); clear hve hve2
    go_wp2_with fail
    refine (Text_any v _ HV.out).mono ?_
    rintro e w9 ⟨rfl, hw_⟩
    rw [← hw_]; clear hw_ w9
    obtain ⟨tx, htx⟩ : ∃ z, textB v = z := ⟨_, rfl⟩
    rw [htx]
    have HTX := Lib.hid htx; clear htx
    go_wp2
    go_ret
    exact ⟨by rw [HF.out, HTX.out]; rfl, Below.refl _ _⟩
theorem putT_no {l : List ByteArray} {s : ByteArray} {n : Nat} (h : hasT l s = true ∨ n ≤ l.length) : putT l s n = l := if_pos h
theorem putT_yes {l : List ByteArray} {s : ByteArray} {n p : Nat} (h1 : hasT l s = false) (h2 : ¬ n ≤ l.length) (hp : posT l s = p) : putT l s n = l.take p ++ s :: l.drop p := by
  unfold putT
  rw [if_neg (by rintro (h | h); · rw [h1] at h; cases h
                 · exact h2 h), hp]
set_option maxRecDepth 100000 in
theorem put_any (base : Nat) (v : Value) (l : List ByteArray) (s : ByteArray) (w : World) (ho : OwnsS (fun _ => False) w base 9 v l) (ha : ascL l = true) (hl : l.length ≤ 1000) (hs : s.size ≤ maxLen) (hb : base ≤ w.heap.size) :
    Calls Tryz.prog 82 #[v, .string s, .int .i64 16] w (RowPost 9 base v (putT l s 16) w) := by
  obtain ⟨A, c, rfl, hsl⟩ := ho.sl
  have hc1 := hsl.1; have hc2 := hsl.2.1
  unfold maxLen at hc2
  have HO := Lib.hid ho; have HSL := Lib.hid hsl; have HA := Lib.hid ha; have HS := Lib.hid hs; have HB := Lib.hid hb
  clear ho hsl ha hs hb
  go_enter Tryz.func82, Tryz.ntmps82
  go_wp2_with fail
  refine (BS_any A c l s _ HSL.out HA.out (by omega)).mono ?_
  rintro e w1 ⟨rfl, hb1⟩
  have HB1 := Lib.hid hb1; clear hb1
  have hpl := posT_le l s
  obtain ⟨p, hp⟩ : ∃ z, posT l s = z := ⟨_, rfl⟩
  obtain ⟨q, hq⟩ : ∃ z, hasT l s = z := ⟨_, rfl⟩
  rw [hp] at hpl
  rw [hp, hq]
  have HP := Lib.hid hp; have HQ := Lib.hid hq; clear hp hq
  cases q with
  | true =>
    have HE := Lib.hid (putT_no (n := 16) (.inl HQ.out))
    go_wp2
    go_ret
    rw [HE.out]
    exact RowPost.same HO.out HB1.out
  | false =>
    by_cases h16 : 16 ≤ l.length
    · have i1 : (16 : Int) ≤ (l.length : Int) := by omega
      have HE := Lib.hid (putT_no (s := s) (.inr h16)); clear h16
      go_wp2
      go_ret
      rw [HE.out]
      exact RowPost.same HO.out HB1.out
    · have i1 : ¬ (16 : Int) ≤ (l.length : Int) := by omega
      have HE := Lib.hid (putT_yes HQ.out h16 HP.out); clear h16
      obtain ⟨w2, hw2⟩ : ∃ z, w1.alloc (.cells #[.string s] 9) = z := ⟨_, rfl⟩
      have hb2 : Below w1.heap.size w1 w2 := by rw [← hw2]; exact (Below.refl _ _).alloc (Nat.le_refl _) _
      have HN2 := Lib.hid (show w2.heap[w1.heap.size]? = some (.cells [Value.string s].toArray 9 (0, 0)) from by rw [← hw2]; exact heap_alloc_new w1 _)
      have HG2 := Lib.hid (show w2.heap.size = w1.heap.size + 1 by rw [← hw2]; simp)
      have HB2 := Lib.hid (below_next HB1.out hb2); clear hb2
      go_wp2_with fail
      try rw [hw2]
      clear hw2
      have hown := HO.out.below HB2.out
      refine (SlInsertT_any (fun _ => False) base (.slice A l.length c) l p s [.string s] w1.heap.size w2 hown hpl (by omega) (fun e => by have := (HO.out.lt _ e).2; have := HB1.out.size; omega) HN2.out ⟨rfl, HS.out⟩ (Nat.le_trans HB.out HB2.out.size)).mono ?_
      rintro e w3 ⟨v', rfl, ho3, hg3, hn3⟩
      have HO3 := Lib.hid ho3; have HG3 := Lib.hid hg3; have HN3 := Lib.hid hn3
      clear ho3 hg3 hn3 hown
      go_wp2
      go_ret
      rw [HE.out]
      exact ⟨v', rfl, HO3.out, grown_seq (grown_wide (grown_none HB2.out)) HG3.out, fun k hk => (HN3.out k hk).imp id fun h => Nat.le_trans HB2.out.size h⟩
theorem drop1_any (x s : ByteArray) (q : Nat) (w : World) (hc : w.cell? ⟨q, 0, none⟩ = some (.string s)) : Calls Tryz.prog 149 #[.string x, .pointer (some ⟨q, 0, none⟩)] w fun e w' => e = .returned (.bool (decide (x = s))) ∧ Below w.heap.size w w' := by
  go_enter Tryz.func149, Tryz.ntmps149
  go_wp2
  go_ret
  exact ⟨by rw [← ba_beq]; rfl, Below.refl _ _⟩
set_option maxRecDepth 100000 in
theorem drop_any (base : Nat) (v : Value) (l : List ByteArray) (s : ByteArray) (w : World) (ho : OwnsS (fun _ => False) w base 9 v l) (hl : l.length ≤ 1000) (hb : base ≤ w.heap.size) :
    Calls Tryz.prog 121 #[v, .string s] w (RowPost 9 base v (withoutT l s) w) := by
  have HO := Lib.hid ho; have HB := Lib.hid hb; have HL := Lib.hid hl
  clear ho hb hl
  go_enter Tryz.func121, Tryz.ntmps121
  obtain ⟨w2, hw2⟩ : ∃ z, w.alloc (.cells #[.string s] 9) = z := ⟨_, rfl⟩
  have hb2 : Below w.heap.size w w2 := by rw [← hw2]; exact (Below.refl _ _).alloc (Nat.le_refl _) _
  have HX2 := Lib.hid (show BoxL w2 w.heap.size [.string s] from box_mk hw2)
  have HB2 := Lib.hid hb2; clear hb2
  go_wp2_with fail
  try rw [hw2]
  clear hw2
  have hown := HO.out.below HB2.out
  have hlt : ∀ k, v.ownBlock = some k → k < w.heap.size := fun k hk => (HO.out.lt k hk).2
  have hen := enters_of Tryz.func149 (by kernel_rfl) rfl
  have hq : ∀ (x : ByteArray) (W : World), x.size ≤ maxLen → w2.grownBy W v.ownBlock → Calls Tryz.prog 149 (#[.string x] ++ #[.pointer (some ⟨w.heap.size, 0, none⟩)]) W fun e W' => e = .returned (.bool (decide (x = s))) ∧ Below W.heap.size W W' := fun x W _ hg =>
    drop1_any x s w.heap.size W ((HX2.out.kept hg (fun e => by have := hlt _ e.symm; omega)).1 0 _ rfl)
  refine (SlDeleteT_any base v l 149 #[.pointer (some ⟨w.heap.size, 0, none⟩)] (fun x => decide (x = s)) w2 hown ⟨hen, fun x W hx hW => hq x W hx (grown_wide (grown_none hW))⟩ hq HL.out).mono ?_
  rintro e w3 ⟨v', rfl, ho3, hg3, hn3⟩
  have HO3 := Lib.hid ho3; have HG3 := Lib.hid hg3; have HN3 := Lib.hid hn3
  clear ho3 hg3 hn3 hown hq hen hlt
  go_wp2
  go_ret
  exact ⟨v', rfl, by have h := HO3.out; rw [show (l.filter fun x => !decide (x = s)) = withoutT l s from by unfold withoutT; congr 1; funext x; rw [decide_not]] at h; exact h, grown_seq (grown_wide (grown_none HB2.out)) HG3.out, fun k hk => .inl (HN3.out k hk)⟩
end Go.Proofs.YtjpoljlgkgmdkaaGreatDoor
