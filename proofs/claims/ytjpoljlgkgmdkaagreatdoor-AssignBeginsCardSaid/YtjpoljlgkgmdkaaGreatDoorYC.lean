/-
  The walks of layers 3 and 4: the reference's Node and index.
-/
import Derived.Test.YtjpoljlgkgmdkaaGreatDoorYA
import Derived.Test.YtjpoljlgkgmdkaaGreatDoorYB
import Derived.Deep.DeepCutAuto
import Derived.Lib.QuietBelow
import Derived.BigQuiet
import Derived.Shelf.Abstract
import Derived.Maps.Views
import Derived.Maps.OwnSet
import Derived.Maps.Keyed
import Derived.Test.YtjpoljlgkgmdkaaGreatDoorYShf
set_option linter.unusedSimpArgs false
set_option linter.unusedVariables false
namespace Go.Cold
open Go Go.RowKit
def nodeV (d : Dev) : ByteArray := (nodeD d).getD ⟨#[]⟩
theorem nodeD_yes {d : Dev} (h : d.kind = 2 ∨ d.kind = 3) : nodeD d = some (nodeS d.orig) := by unfold nodeD; rw [if_pos h]
theorem nodeD_no {d : Dev} (h : ¬ (d.kind = 2 ∨ d.kind = 3)) : nodeD d = none := by unfold nodeD; rw [if_neg h]
end Go.Cold
namespace Go.Proofs.YtjpoljlgkgmdkaaGreatDoor
open Go.RowKit Go.Cold

theorem Replace_any (s : ByteArray) (w : World) (hs : s.size < 4294967281) (hok : Ok w) : Calls Tryz.prog 94 #[.string s, .string ⟨#[33]⟩, .string ⟨#[47]⟩] w fun e w' => e = .returned (.string (nodeS s)) ∧ Below w.heap.size w w' := by
 obtain ⟨m, hm⟩ := hok
 have hc := Lib.countB_le ⟨#[33]⟩ (by show 1 ≤ 1; omega) _ s (Nat.le_refl _)
 have h1 : (⟨#[47]⟩ : ByteArray).size = 1 := rfl
 refine (Tryz.strings_ReplaceAll s ⟨#[33]⟩ ⟨#[47]⟩ m w hs hm (by show 1 ≤ 1; omega) (by rw [h1]; omega)).mono ?_
 rintro e w' ⟨rfl, hb⟩
 exact ⟨by rw [← nodeS_eq s], hb⟩

set_option maxRecDepth 10000 in
theorem RNode_any (d : Dev) (A : Option Addr) (c : Nat) (w : World) (hd : d.orig.size < 4294967281) (hok : Ok w) : Calls Tryz.prog 51 #[.agg #[.int .i64 d.idx, .int .i64 d.par, .string d.nm, .string d.orig, .string d.sub, .string d.drv, .string d.ali, .int .i64 d.kind, .int .i64 d.num, .slice A d.attrs.length c]] w fun e w' => e = .returned (.tuple #[.string (nodeV d), .bool (nodeD d).isSome]) ∧ Below w.heap.size w w' := by
 obtain ⟨w0, hw0⟩ : ∃ w0, w.alloc (.cells #[.int .i64 d.idx, .int .i64 d.par, .string d.nm, .string d.orig, .string d.sub, .string d.drv, .string d.ali, .int .i64 d.kind, .int .i64 d.num, .slice A d.attrs.length c] 84) = w0 := ⟨_, rfl⟩
 obtain ⟨hb0, hg0, hbox⟩ := box10 hw0
 obtain ⟨d0, d1, d2, d3, d4, d5, d6, d7, d8, d9⟩ := hbox.zero
 have hcall := Replace_any d.orig w0 hd (hok.next hb0)
 have HCALL := Lib.hid hcall; have HB0 := Lib.hid hb0
 clear hcall hok hbox
 go_enter Tryz.func51, Tryz.ntmps51
 by_cases h2 : d.kind = 2
 ·
  have HN := Lib.hid (nodeD_yes (.inl h2))
  have e2 : (d.kind != 2) = false := by simp [h2]
  have HK := Lib.hid h2; clear h2
  go_wp2_with fail
  refine HCALL.out.mono ?_
  rintro e w2 ⟨rfl, hb2⟩
  have HB2 := Lib.hid hb2; clear hb2
  go_wp2
  go_ret2
  exact ⟨by unfold nodeV; rw [HN.out]; rfl, HB0.out.trans (HB2.out.mono HB0.out.size)⟩
 have e2 : (d.kind != 2) = true := by simp [h2]
 by_cases h3 : d.kind = 3
 ·
  have HN := Lib.hid (nodeD_yes (.inr h3))
  have e3 : (d.kind != 3) = false := by simp [h3]
  have HK := Lib.hid h3; clear h3 h2
  go_wp2_with fail
  refine HCALL.out.mono ?_
  rintro e w2 ⟨rfl, hb2⟩
  have HB2 := Lib.hid hb2; clear hb2
  go_wp2
  go_ret2
  exact ⟨by unfold nodeV; rw [HN.out]; rfl, HB0.out.trans (HB2.out.mono HB0.out.size)⟩
 have e3 : (d.kind != 3) = true := by simp [h3]
 have HN := Lib.hid (nodeD_no (d := d) (fun h => h.elim h2 h3))
 clear h2 h3
 go_wp2
 go_ret2
 exact ⟨by unfold nodeV; rw [HN.out]; rfl, HB0.out⟩

theorem index_any (A : Option Addr) (c : Nat) (L : List Dev) (n : Int) (w : World) (B : Nat) (hx : Sl w B A c L) : Calls Tryz.prog 91 #[.slice A L.length c, .int .i64 n] w fun e w' => e = .returned (.int .i64 (idxInt (fun d : Dev => decide (d.idx = n)) L)) ∧ w' = w := by
 have hx1 := hx.1; have hx2 := hx.2.1
 unfold maxLen at hx2
 have HX := Lib.hid hx; clear hx
 go_enter Tryz.func91, Tryz.ntmps91
 go_wp2_with fail
 go_loop [5] (fun i => ∃ k : Nat, k ≤ L.length ∧ i = .int .i64 k ∧ Hid ((L.take k).all (fun d => !decide (d.idx = n)) = true)) (fun i => L.length - (intOf i).toNat)
 case atStart => exact ⟨0, Nat.zero_le _, rfl, rfl⟩
 case round =>
  obtain ⟨k, hk, rfl, HA⟩ := hrel
  by_cases hlt : k < L.length
  ·
   obtain ⟨b, o, rfl, hb, A2, c2, h1, h2, hdc⟩ := HX.out.dev hlt
   have hd0 := hdc.1
   have HLT := Lib.hid hlt
   obtain ⟨x, hxx⟩ : ∃ x, L[k]'hlt = x := ⟨_, rfl⟩
   rw [hxx] at hd0
   have HXX := Lib.hid hxx; clear hxx h1 h2 hdc
   by_cases hn : x.idx = n
   ·
    have e1 : (x.idx == n) = true := beq_iff_eq.2 hn
    have hr := idxInt_some (p := fun d : Dev => decide (d.idx = n)) HLT.out HA.out (by rw [HXX.out]; exact decide_eq_true hn)
    have HR := Lib.hid hr; clear hr hn
    go_wp2
    go_ret
    exact ⟨by rw [HR.out]; try rfl, rfl⟩
   ·
    have e1 : (x.idx == n) = false := beq_eq_false_iff_ne.2 hn
    have HN := Lib.hid hn; clear hn
    go_wp2
    go_round
    case rel => exact ⟨k + 1, by omega, by go_num, all_step HA.out (List.getElem?_eq_getElem HLT.out) (by rw [HXX.out]; simp [HN.out])⟩
    case measure => simp [intOf]; omega
  ·
   have hk2 : k = L.length := by omega
   have hr := idxInt_none (p := fun d : Dev => decide (d.idx = n)) (l := L) (by have := HA.out; rw [hk2, List.take_length] at this; exact this)
   have HR := Lib.hid hr; clear hr
   go_wp2
   go_ret
   exact ⟨by rw [HR.out]; try rfl, rfl⟩
end Go.Proofs.YtjpoljlgkgmdkaaGreatDoor
namespace Go.Cold
open Go Go.RowKit
def zero10 : List Value := [.int .i64 0, .int .i64 0, .string ByteArray.empty, .string ByteArray.empty, .string ByteArray.empty, .string ByteArray.empty, .string ByteArray.empty, .int .i64 0, .int .i64 0, .slice none 0 0]
theorem zero_ok : devOk zeroD := ⟨⟨by decide, by decide⟩, ⟨by decide, by decide⟩, Nat.zero_le _, Nat.zero_le _, Nat.zero_le _, Nat.zero_le _, Nat.zero_le _, ⟨by decide, by decide⟩, ⟨by decide, by decide⟩⟩
theorem find_idx (n : Int) : ∀ L : List Dev, (idxInt (fun d : Dev => decide (d.idx = n)) L = -1 ∧ findD L n = none) ∨ ∃ (k : Nat) (h : k < L.length), idxInt (fun d : Dev => decide (d.idx = n)) L = (k : Int) ∧ findD L n = some (L[k]'h)
 | [] => .inl ⟨rfl, rfl⟩
 | d :: r => by
  by_cases hd : d.idx = n
  ·
   right
   refine ⟨0, by simp, ?_, ?_⟩
   · unfold idxInt; rw [List.findIdx?_cons, if_pos (decide_eq_true hd)]; try rfl
   · unfold findD; rw [List.find?_cons_of_pos (by exact decide_eq_true hd)]; try rfl
  ·
   have hf : findD (d :: r) n = findD r n := by unfold findD; rw [List.find?_cons_of_neg (by simpa using hd)]
   have hi : ∀ i, r.findIdx? (fun d : Dev => decide (d.idx = n)) = i → idxInt (fun d : Dev => decide (d.idx = n)) (d :: r) = match i with | some j => ((j + 1 : Nat) : Int) | none => -1 := by
    intro i hri
    unfold idxInt
    rw [List.findIdx?_cons, if_neg (by simpa using hd), hri]
    cases i <;> rfl
   rcases find_idx n r with ⟨h1, h2⟩ | ⟨k, hk, h1, h2⟩
   ·
    left
    refine ⟨?_, by rw [hf, h2]⟩
    cases hri : r.findIdx? (fun d : Dev => decide (d.idx = n)) with
    | none => rw [hi _ hri]
    | some j => unfold idxInt at h1; rw [hri] at h1; simp only at h1; omega
   ·
    right
    refine ⟨k + 1, by simp; omega, ?_, by rw [hf, h2]; rfl⟩
    cases hri : r.findIdx? (fun d : Dev => decide (d.idx = n)) with
    | none => unfold idxInt at h1; rw [hri] at h1; simp only at h1; omega
    | some j =>
     rw [hi _ hri]
     unfold idxInt at h1; rw [hri] at h1
     simp only at h1 ⊢
     omega
theorem below10 {B gr : Nat} {a w : World} (h : Below B a w) (hg : B ≤ gr) (v0 v1 v2 v3 v4 v5 v6 v7 v8 v9 : Value) : Below B a ((((((((((w.setCell ⟨gr, 0, none⟩ (v0)).setCell ⟨gr, 1, none⟩ (v1)).setCell ⟨gr, 2, none⟩ (v2)).setCell ⟨gr, 3, none⟩ (v3)).setCell ⟨gr, 4, none⟩ (v4)).setCell ⟨gr, 5, none⟩ (v5)).setCell ⟨gr, 6, none⟩ (v6)).setCell ⟨gr, 7, none⟩ (v7)).setCell ⟨gr, 8, none⟩ (v8)).setCell ⟨gr, 9, none⟩ (v9)) :=
 (((((((((h.setCell (by exact hg) _).setCell (by exact hg) _).setCell (by exact hg) _).setCell (by exact hg) _).setCell (by exact hg) _).setCell (by exact hg) _).setCell (by exact hg) _).setCell (by exact hg) _).setCell (by exact hg) _).setCell (by exact hg) _
end Go.Cold
namespace Go.Proofs.YtjpoljlgkgmdkaaGreatDoor
open Go.RowKit Go.Cold
theorem info_dev : (Tryz.prog.info? 84).map (fun i => (i.zero, i.size, i.bytes)) = some (some (.agg #[.int .i64 0, .int .i64 0, .string ByteArray.empty, .string ByteArray.empty, .string ByteArray.empty, .string ByteArray.empty, .string ByteArray.empty, .int .i64 0, .int .i64 0, .slice none 0 0]), 10, 136) := by kernel_rfl
theorem info_dev2 : (Tryz.prog.info? 84).map (fun i => (i.zero, i.size)) = some (some (.agg #[.int .i64 0, .int .i64 0, .string ByteArray.empty, .string ByteArray.empty, .string ByteArray.empty, .string ByteArray.empty, .string ByteArray.empty, .int .i64 0, .int .i64 0, .slice none 0 0]), 10) := by kernel_rfl
def FindPost (L : List Dev) (n : Int) (B : Nat) (w : World) (e : Ending) (w' : World) : Prop := Below w.heap.size w w' ∧ ∃ (d : Dev) (A2 : Option Addr) (c2 : Nat), d = (findD L n).getD zeroD ∧ e = .returned (.tuple #[.agg #[.int .i64 d.idx, .int .i64 d.par, .string d.nm, .string d.orig, .string d.sub, .string d.drv, .string d.ali, .int .i64 d.kind, .int .i64 d.num, .slice A2 d.attrs.length c2], .bool (findD L n).isSome]) ∧ devOk d ∧ Sl w' B A2 c2 d.attrs
set_option maxHeartbeats 4000000 in
set_option maxRecDepth 100000 in
theorem RFind_any (A : Option Addr) (c : Nat) (L : List Dev) (n : Int) (w : World) (B : Nat) (hB : B ≤ w.heap.size) (hx : Sl w B A c L) : Calls Tryz.prog 48 #[.agg #[.slice A L.length c], .int .i64 n] w (FindPost L n B w) := by
 have hzv := (zero_of_info (P := Tryz.prog) (t := 84) info_dev2).1
 have hx1 := hx.1; have hx2 := hx.2.1
 unfold maxLen at hx2
 have HX := Lib.hid hx; have HB := Lib.hid hB; clear hx hB
 go_enter Tryz.func48, Tryz.ntmps48
 go_upto_region 1 with fail
 obtain ⟨w1, hw1⟩ : ∃ w1, w.alloc (.cells #[.slice A L.length c] 47) = w1 := ⟨_, rfl⟩
 obtain ⟨w2, hw2⟩ : ∃ w2, w1.alloc (.cells #[.int .i64 0, .int .i64 0, .string ByteArray.empty, .string ByteArray.empty, .string ByteArray.empty, .string ByteArray.empty, .string ByteArray.empty, .int .i64 0, .int .i64 0, .slice none 0 0] 84) = w2 := ⟨_, rfl⟩
 have hb1 : Below w.heap.size w w1 := by rw [← hw1]; exact (Below.refl _ _).alloc (Nat.le_refl _) _
 have hb2 : Below w1.heap.size w1 w2 := by rw [← hw2]; exact (Below.refl _ _).alloc (Nat.le_refl _) _
 have ht1 : BoxL w1 w.heap.size [.slice A L.length c] := box_mk hw1
 have hr2 : BoxL w2 w1.heap.size zero10 := box_mk hw2
 have hg1 : w1.heap.size = w.heap.size + 1 := by rw [← hw1]; simp
 have hg2 : w2.heap.size = w1.heap.size + 1 := by rw [← hw2]; simp
 have ht2 := ht1.kept (grown_none hb2) (fun e => by cases e)
 have hb02 : Below w.heap.size w w2 := hb1.trans (hb2.mono hb1.size)
 try rw [hw1]
 try rw [hw2]
 have HR := Lib.hid hr2; have HT := Lib.hid ht2; have HB2 := Lib.hid hb02; have HG := Lib.hid (And.intro hg1 hg2)
 have hx3 := HX.out.keep (hb02.mono HB.out)
 have HX2 := Lib.hid hx3
 clear hw1 hw2 hb1 hb2 ht1 hr2 ht2 hb02 hx3 hg1 hg2
 have t0 := HT.out.1 0 _ rfl
 try rw [show w.heap.size + 1 = w1.heap.size from HG.out.1.symm]
 go_wp2_with fail
 refine (index_any A c L n w2 B HX2.out).mono ?_
 rintro e w3 ⟨rfl, rfl⟩
 rcases find_idx n L with ⟨h1, h2⟩ | ⟨k, hk, h1, h2⟩
 ·
  rw [h1]
  have HF := Lib.hid h2
  clear h1 h2
  have y0 := HR.out.1 0 _ rfl; have y1 := HR.out.1 1 _ rfl; have y2 := HR.out.1 2 _ rfl; have y3 := HR.out.1 3 _ rfl; have y4 := HR.out.1 4 _ rfl; have y5 := HR.out.1 5 _ rfl; have y6 := HR.out.1 6 _ rfl; have y7 := HR.out.1 7 _ rfl; have y8 := HR.out.1 8 _ rfl; have y9 := HR.out.1 9 _ rfl; have yf := HR.out.2.1
  go_wp2
  refine bodyPost_ret (v := .tuple #[.agg #[.int .i64 0, .int .i64 0, .string ByteArray.empty, .string ByteArray.empty, .string ByteArray.empty, .string ByteArray.empty, .string ByteArray.empty, .int .i64 0, .int .i64 0, .slice none 0 0], .bool false]) (by simp [results, Tryz.results48, go_sem, y0, y1, y2, y3, y4, y5, y6, y7, y8, y9]) rfl ⟨below10 HB2.out (by have := HG.out; omega) _ _ _ _ _ _ _ _ _ _, zeroD, none, 0, by rw [HF.out]; rfl, by rw [HF.out]; rfl, zero_ok, Sl.nil_⟩
 ·
  rw [h1]
  have HF := Lib.hid h2
  clear h1 h2
  obtain ⟨b, o, rfl, hb, A2, c2, hok, hat, hdc⟩ := HX2.out.dev hk
  obtain ⟨d, hd⟩ : ∃ d, L[k]'hk = d := ⟨_, rfl⟩
  have HFD := Lib.hid (show findD L n = some d by rw [HF.out, hd])
  rw [hd] at hok hat hdc
  have HOK := Lib.hid hok; have HAT := Lib.hid hat; have HDC := Lib.hid hdc; have HBB := Lib.hid hb
  clear hok hat hdc hb hd HF
  obtain ⟨d0, d1, d2, d3, d4, d5, d6, d7, d8, d9⟩ := HDC.out
  have i1 : ¬ (k : Int) < 0 := by omega
  have i2 : (0 : Int) ≤ (k : Int) := by omega
  have y0 := HR.out.1 0 _ rfl; have y1 := HR.out.1 1 _ rfl; have y2 := HR.out.1 2 _ rfl; have y3 := HR.out.1 3 _ rfl; have y4 := HR.out.1 4 _ rfl; have y5 := HR.out.1 5 _ rfl; have y6 := HR.out.1 6 _ rfl; have y7 := HR.out.1 7 _ rfl; have y8 := HR.out.1 8 _ rfl; have y9 := HR.out.1 9 _ rfl; have yf := HR.out.2.1
  go_wp2
  refine bodyPost_ret (v := .tuple #[.agg #[.int .i64 d.idx, .int .i64 d.par, .string d.nm, .string d.orig, .string d.sub, .string d.drv, .string d.ali, .int .i64 d.kind, .int .i64 d.num, .slice A2 d.attrs.length c2], .bool true]) (by simp [results, Tryz.results48, go_sem, y0, y1, y2, y3, y4, y5, y6, y7, y8, y9]) rfl ⟨below10 HB2.out (by have := HG.out; omega) _ _ _ _ _ _ _ _ _ _, d, A2, c2, by rw [HFD.out]; rfl, by rw [HFD.out]; rfl, HOK.out, ?_⟩
  exact HAT.out.keep (below10 (Below.refl B w3) (by have := HG.out; have := HB.out; omega) _ _ _ _ _ _ _ _ _ _)
end Go.Proofs.YtjpoljlgkgmdkaaGreatDoor
namespace Go.Cold
open Go Go.RowKit
theorem cell10_new (w : World) (t : TypeId) (d : Dev) (A2 : Option Addr) (c2 : Nat) : ∀ j u, (devCells d A2 c2)[j]? = some u →
  (w.alloc (.cells #[.int .i64 d.idx, .int .i64 d.par, .string d.nm, .string d.orig, .string d.sub, .string d.drv, .string d.ali, .int .i64 d.kind, .int .i64 d.num, .slice A2 d.attrs.length c2] t)).cell? ((⟨w.heap.size, 0, none⟩ : Addr).add j) = some u := by
 intro j u hj
 rw [add_mk, Nat.zero_add, World.cell?_alloc_at _ _ _ _ rfl]
 simpa [devCells] using hj
theorem drdS_old {w : World} {B : Nat} {d : Dev} {A2 : Option Addr} {c2 : Nat} {v : Value} {base : Nat} (h1 : devOk d) (h2 : Sl w B A2 c2 d.attrs) (hB : B ≤ base) (hw : base ≤ w.heap.size) (hv : ∀ k, v.ownBlock = some k → base ≤ k) :
  RepS.rdS w (fun b => b < B ∧ b < w.heap.size ∧ v.ownBlock ≠ some b) d (devCells d A2 c2) := by
 refine ⟨A2, c2, rfl, h1, SlS.mono (fun b (hb : b < B) => ⟨hb, by omega, fun e => by have := hv b e; omega⟩) (fun _ _ _ _ hu => hu) (SlS_iff.1 h2)⟩
theorem dev_one (d : Dev) (A2 : Option Addr) (c2 : Nat) : ∀ u ∈ devCells d A2 c2, u.oneCell' = true := by
 intro u hu
 simp only [devCells, List.mem_cons, List.not_mem_nil, or_false] at hu
 rcases hu with rfl | rfl | rfl | rfl | rfl | rfl | rfl | rfl | rfl | rfl <;> rfl
def lenV : Value → Nat
 | .slice _ k _ => k
 | _ => 0
def ChRel (w0 w1 : World) (B : Nat) (T : TypeId) (L : List Dev) (n : Int) (v : Value) (m : Int) (wr : World) : Prop :=
 ∃ acc : List Dev, OwnsS (fun x => x < B) wr w0.heap.size T v acc ∧ Below w1.heap.size w1 wr ∧ acc ++ chainL L (L.length - acc.length) m = chainO L n ∧ acc.length ≤ L.length ∧ okI m ∧ ∀ k, v.ownBlock = some k → w1.heap.size ≤ k
end Go.Cold
namespace Go.Proofs.YtjpoljlgkgmdkaaGreatDoor
open Go.RowKit Go.Cold
set_option maxHeartbeats 8000000 in
set_option maxRecDepth 100000 in
theorem RChain_any (A : Option Addr) (c : Nat) (L : List Dev) (n : Int) (w : World) (B : Nat) (hB : B ≤ w.heap.size) (hx : Sl w B A c L) (hL : L.length ≤ 1000) (hn : okI n) : Calls Tryz.prog 136 #[.agg #[.slice A L.length c], .int .i64 n] w fun e w' => Below w.heap.size w w' ∧ ∃ v, e = .returned v ∧ OwnsS (fun x => x < B) w' w.heap.size 84 v (chainO L n) := by
 obtain ⟨i0, hi0, hz0, hz1, hz2⟩ := info_parts info_dev
 have HI0 := Lib.hid hi0; clear hi0
 have HZ0 := Lib.hid hz0; clear hz0
 have HZ1 := Lib.hid hz1; clear hz1
 have HZ2 := Lib.hid hz2; clear hz2
 have hx1 := hx.1; have hx2 := hx.2.1
 unfold maxLen at hx2
 have HX := Lib.hid hx; have HB := Lib.hid hB; have HL := Lib.hid hL; have HOKN := Lib.hid hn; clear hx hB hL hn
 go_enter Tryz.func136, Tryz.ntmps136
 go_upto_region 1 with fail
 obtain ⟨w1, hw1⟩ : ∃ w1, w.alloc (.cells #[.slice A L.length c] 47) = w1 := ⟨_, rfl⟩
 have hb1 : Below w.heap.size w w1 := by rw [← hw1]; exact (Below.refl _ _).alloc (Nat.le_refl _) _
 have ht1 : BoxL w1 w.heap.size [.slice A L.length c] := box_mk hw1
 have hg1 : w1.heap.size = w.heap.size + 1 := by rw [← hw1]; simp
 rw [hw1]
 have hrel0 : ChRel w w1 B 84 L n (.slice none 0 0) n w1 := ⟨[], OwnsS.nil_ _ _ _ _, Below.refl _ _, rfl, Nat.zero_le _, HOKN.out, fun k hk => by cases hk⟩
 have HREL0 := Lib.hid hrel0; have HT := Lib.hid ht1; have HB1 := Lib.hid hb1; have HG1 := Lib.hid hg1
 clear hw1 hb1 ht1 hg1 hrel0
 go_wp2_with fail
 go_loopw [5, 1] (fun v u wr => ∃ m : Int, u = .int .i64 m ∧ Hid (ChRel w w1 B 84 L n v m wr)) (fun v _ _ => L.length - lenV v)
 case atStart => exact ⟨n, rfl, HREL0⟩
 case round =>
  obtain ⟨m, rfl, hq⟩ := hrel
  obtain ⟨acc, hown, hbr, hsp, hal, hom, hvb⟩ := hq.out
  have HVB := Lib.hid hvb; clear hvb
  clear hq HREL0
  obtain ⟨A5, c5, hv, hsl5⟩ := hown.cs
  have HV := Lib.hid hv
  rw [hv]
  clear hv
  have hac1 := hsl5.1; have hac2 := hsl5.2.1
  unfold maxLen at hac2
  have t0 := (HT.out.kept (grown_none hbr) (fun e => by cases e)).1 0 _ rfl
  have hb0r : Below w.heap.size w wr := HB1.out.trans (hbr.mono HB1.out.size)
  have HOWN := Lib.hid hown; have HBR := Lib.hid hbr; have HSP := Lib.hid hsp; have HAL := Lib.hid hal; have HB0R := Lib.hid hb0r; have HOM := Lib.hid hom
  clear hown hbr hsp hb0r hom hsl5
  by_cases hlt : acc.length < L.length
  ·
   have i1 : (acc.length : Int) < (L.length : Int) := by omega
   have hcall := RFind_any A c L m wr B (Nat.le_trans HB.out HB0R.out.size) (HX.out.keep (HB0R.out.mono HB.out))
   have HCALL := Lib.hid hcall; clear hcall
   have HLT := Lib.hid hlt; clear hlt hal
   go_wp2_with fail
   refine HCALL.out.mono ?_
   rintro e w3 ⟨hb3, d, A2, c2, hd, rfl, hok, hat⟩
   have hst : acc ++ (match findD L m with | none => [] | some d => d :: chainL L (L.length - acc.length - 1) d.par) = chainO L n := by
    have h := HSP.out
    rw [show L.length - acc.length = (L.length - acc.length - 1) + 1 by have := HLT.out; omega, chainL] at h
    exact h
   have HST := Lib.hid hst; have HB3 := Lib.hid hb3; have HOKD := Lib.hid hok; have HAT := Lib.hid hat
   clear hst hok hat t0 i1
   have HOWN3 := Lib.hid (HOWN.out.below hb3)
   clear hb3
   cases hf : findD L m with
   | none =>
    have hst := HST.out
    rw [hf] at hst
    simp only [List.append_nil] at hst
    have HFIN := Lib.hid hst; clear hst hf hd
    go_upto_region 4 with fail
    obtain ⟨w4, hw4⟩ : ∃ w4, w3.alloc (.cells #[.int .i64 d.idx, .int .i64 d.par, .string d.nm, .string d.orig, .string d.sub, .string d.drv, .string d.ali, .int .i64 d.kind, .int .i64 d.num, .slice A2 d.attrs.length c2] 84) = w4 := ⟨_, rfl⟩
    obtain ⟨hb4, hg4, -⟩ := box10 hw4
    simp only [hw4]
    have HOWN4 := Lib.hid (HOWN3.out.below hb4); have HBF := Lib.hid (HB0R.out.trans ((HB3.out.trans (hb4.mono HB3.out.size)).mono HB0R.out.size))
    clear hw4 hb4 hg4
    go_wp2
    go_ret
    exact ⟨HBF.out, _, rfl, by rw [← HFIN.out, ← HV.out]; exact HOWN4.out⟩
   | some d' =>
    rw [hf] at hd
    have hdd : d = d' := hd
    subst hdd
    have hst := HST.out
    rw [hf] at hst
    simp only at hst
    have HST2 := Lib.hid hst; clear hst hf hd
    go_upto_region 4 with fail
    obtain ⟨w4, hw4⟩ : ∃ w4, w3.alloc (.cells #[.int .i64 d.idx, .int .i64 d.par, .string d.nm, .string d.orig, .string d.sub, .string d.drv, .string d.ali, .int .i64 d.kind, .int .i64 d.num, .slice A2 d.attrs.length c2] 84) = w4 := ⟨_, rfl⟩
    obtain ⟨hb4, hg4, hbox4⟩ := box10 hw4
    have hbl4 : BoxL w4 w3.heap.size (devCells d A2 c2) := box_mk hw4
    simp only [hw4]
    obtain ⟨x0, x1, x2, x3, x4, x5, x6, x7, x8, x9⟩ := hbox4.zero
    obtain ⟨w5, hw5⟩ : ∃ w5, w4.alloc (.cells #[.int .i64 d.idx, .int .i64 d.par, .string d.nm, .string d.orig, .string d.sub, .string d.drv, .string d.ali, .int .i64 d.kind, .int .i64 d.num, .slice A2 d.attrs.length c2] 84) = w5 := ⟨_, rfl⟩
    obtain ⟨hb5, hg5, -⟩ := box10 hw5
    have hnews := cell10_new w4 84 d A2 c2
    rw [hw5] at hnews
    have hown4 := HOWN3.out.below hb4
    have hvlt := HOWN3.out.lt
    obtain ⟨css, o1, o2, o3⟩ := hown4.below hb5
    have hat5 := (HAT.out.keep (hb4.mono (by have := HB0R.out.size; have := HB3.out.size; have := HB.out; omega))).keep (hb5.mono (by have := HB0R.out.size; have := HB3.out.size; have := HB.out; omega))
    have hrd5 := drdS_old (v := u5) HOKD.out hat5 HB.out (by have := HB0R.out.size; have := HB3.out.size; omega) (fun k hk => (hvlt k hk).1)
    have hbl5 := hbl4.kept (grown_none hb5) (fun e => by cases e)
    have HO2 := Lib.hid o2; have HO3 := Lib.hid o3; have HNEWS := Lib.hid hnews; have HRD5 := Lib.hid hrd5; have HBL5 := Lib.hid hbl5; have HO1 := Lib.hid o1; have HVLT := Lib.hid hvlt
    have HVW := Lib.hid (show ∀ k, u5.ownBlock = some k → w1.heap.size ≤ k from fun k hk => HVB.out k hk); have HSZ := Lib.hid (And.intro hg4 hg5); have HB34 := Lib.hid (hb4.trans (hb5.mono hb4.size))
    clear hw4 hb4 hg4 hbox4 hbl4 hb5 hg5 hnews hown4 o2 o3 hat5 hrd5 hbl5 hvlt
    go_upto_region 5 with fail
    rw [← HV.out]
    go_wp2_with (at_builtin; go_must (refine wpList_append_own_at _ rfl _ _ 45 rfl w.heap.size 84 i0 _ 10 136 Tryz.underlying45 HI0.out HZ0.out HZ1.out HZ2.out rfl (by decide) _ _ _ rfl o1 ⟨w4.heap.size, 0, none⟩ 1 1 _ rfl rfl HNEWS.out (dev_one d A2 c2) (by have := HLT.out; have := HL.out; unfold maxLen; omega) (by have := HLT.out; have := HL.out; omega) (by have := HSZ.out; have := HB0R.out.size; have := HB3.out.size; omega) ?_); intro v' w6 hown' hgrow _ hat'; have hown6 := OwnsS.app (w := w5) HO1.out HO2.out HO3.out HRD5.out hown' hgrow (fun q hq => Or.elim hat' (fun h => .inl (h.symm.trans hq)) (fun h => .inr (by rw [hq] at h; have := Option.some.inj h; omega))); have hbl6 := HBL5.out.kept hgrow (fun e => by have := (HVLT.out _ e.symm).2; omega); have y1 := hbl6.1 1 _ rfl; have HVN := Lib.hid (show ∀ k, v'.ownBlock = some k → w1.heap.size ≤ k from fun q hq => Or.elim hat' (fun h => HVW.out q (h.symm.trans hq)) (fun h => by rw [hq] at h; have := Option.some.inj h; have := HSZ.out; have := HBR.out.size; have := HB3.out.size; omega)); have HOWN6 := Lib.hid hown6; have HGROW := Lib.hid hgrow; clear hown6 hown' hgrow hat' hbl6 x0 x1 x2 x3 x4 x5 x6 x7 x8 x9 o1 hw5)
    have hbr6 : Below w1.heap.size w1 w6 := by
     have h1 : Below wr.heap.size wr w5 := HB3.out.trans (HB34.out.mono HB3.out.size)
     have h2 : Below w1.heap.size w1 w5 := HBR.out.trans (h1.mono HBR.out.size)
     exact h2.grown HGROW.out h2.size (fun k hk => HVW.out k hk)
    have hrel6 : ChRel w w1 B 84 L n v' d.par w6 := by
     refine ⟨acc ++ [d], HOWN6.out, hbr6, ?_, by rw [List.length_append, List.length_singleton]; have := HLT.out; omega, HOKD.out.2.1, HVN.out⟩
     rw [List.length_append, List.length_singleton, List.append_assoc, List.singleton_append, show L.length - (acc.length + 1) = L.length - acc.length - 1 by omega]
     exact HST2.out
    have hmeas : L.length - lenV v' < L.length - lenV (.slice A5 acc.length c5) := by
     obtain ⟨A6, c6, hv6, -⟩ := HOWN6.out.cs
     rw [hv6]
     show L.length - (acc ++ [d]).length < L.length - acc.length
     rw [List.length_append, List.length_singleton]
     have := HLT.out; omega
    have HREL6 := Lib.hid hrel6; have HMEAS := Lib.hid hmeas
    clear hbr6 hrel6 hmeas
    try go_wp2
    go_roundw
    case rel => exact ⟨d.par, rfl, HREL6⟩
    case measure => first | exact HMEAS.out | (rw [HV.out]; exact HMEAS.out)
  ·
   have i1 : ¬ (acc.length : Int) < (L.length : Int) := by omega
   have hfin : acc = chainO L n := by
    have h := HSP.out
    rw [show L.length - acc.length = 0 by omega, chainL, List.append_nil] at h
    exact h
   have HFIN := Lib.hid hfin; clear hfin hlt
   go_wp2
   go_ret
   exact ⟨HB0R.out, _, rfl, by rw [← HFIN.out, ← HV.out]; exact HOWN.out⟩
end Go.Proofs.YtjpoljlgkgmdkaaGreatDoor
namespace Go.Cold
open Go Go.RowKit
def OrRel (w0 : World) (T : TypeId) (names : List ByteArray) (v : Value) (j : Int) (w2 wr : World) : Prop :=
 ∃ k : Nat, j = (names.length : Int) - 1 - k ∧ k ≤ names.length ∧ OwnsS (fun _ => False) wr w0.heap.size T v (names.take k) ∧ Below w2.heap.size w2 wr ∧ ∀ q, v.ownBlock = some q → w2.heap.size ≤ q
end Go.Cold
namespace Go.Proofs.YtjpoljlgkgmdkaaGreatDoor
open Go.RowKit Go.Cold
theorem info_txt : (Tryz.prog.info? 9).map (fun i => (i.zero, i.size, i.bytes)) = some (some (.string ByteArray.empty), 1, 16) := by kernel_rfl
set_option maxHeartbeats 8000000 in
set_option maxRecDepth 100000 in
theorem ROrigin_any (A : Option Addr) (c : Nat) (L : List Dev) (n : Int) (w : World) (B : Nat) (hB : B ≤ w.heap.size) (hx : Sl w B A c L) (hL : L.length ≤ 1000) (hn : okI n) : Calls Tryz.prog 92 #[.agg #[.slice A L.length c], .int .i64 n] w fun e w' => Below w.heap.size w w' ∧ ∃ v, e = .returned v ∧ OwnsS (fun _ => False) w' w.heap.size 9 v ((chainO L n).reverse.map (·.orig)) := by
 obtain ⟨i0, hi0, hz0, hz1, hz2⟩ := info_parts info_txt
 have HI0 := Lib.hid hi0; clear hi0
 have HZ0 := Lib.hid hz0; clear hz0
 have HZ1 := Lib.hid hz1; clear hz1
 have HZ2 := Lib.hid hz2; clear hz2
 have hlen : (chainO L n).length ≤ L.length := chain_len L L.length n
 obtain ⟨ch, hchd⟩ : ∃ ch, chainO L n = ch := ⟨_, rfl⟩
 rw [hchd] at hlen ⊢
 obtain ⟨names, hnm⟩ : ∃ ns, ch.reverse.map (·.orig) = ns := ⟨_, rfl⟩
 rw [hnm]
 have hnl : names.length = ch.length := by rw [← hnm]; simp
 have HNM := Lib.hid hnm; have HNL := Lib.hid hnl; have HCHD := Lib.hid hchd
 clear hnm hnl hchd
 have HX := Lib.hid hx; have HB := Lib.hid hB; have HL := Lib.hid hL; have HOKN := Lib.hid hn; clear hx hB hL hn
 go_enter Tryz.func92, Tryz.ntmps92
 go_upto_region 2 with fail
 obtain ⟨w1, hw1⟩ : ∃ w1, w.alloc (.cells #[.slice A L.length c] 47) = w1 := ⟨_, rfl⟩
 have hb1 : Below w.heap.size w w1 := by rw [← hw1]; exact (Below.refl _ _).alloc (Nat.le_refl _) _
 have ht1 : BoxL w1 w.heap.size [.slice A L.length c] := box_mk hw1
 rw [hw1]
 have t0 := ht1.1 0 _ rfl
 have hcall := RChain_any A c L n w1 B (Nat.le_trans HB.out hb1.size) (HX.out.keep (hb1.mono HB.out)) HL.out HOKN.out
 have HB1 := Lib.hid hb1; have HCALL := Lib.hid hcall
 clear hw1 hb1 ht1 hcall
 go_wp2_with fail
 refine HCALL.out.mono ?_
 rintro e w2 ⟨hb2, v, rfl, hown⟩
 have hch : ch.length ≤ 1000 := Nat.le_trans hlen HL.out
 rw [HCHD.out] at hown
 obtain ⟨A5, c5, rfl, hsl⟩ := hown.sl
 have hs1 := hsl.1; have hs2 := hsl.2.1
 unfold maxLen at hs2
 have HSL := Lib.hid hsl; have HB2 := Lib.hid (HB1.out.trans (hb2.mono HB1.out.size)); have HCH := Lib.hid hch
 clear hown hsl hb2 hlen t0 hch
 have hrel0 : OrRel w 9 names (.slice none 0 0) ((ch.length : Int) - 1) w2 w2 := ⟨0, by rw [HNL.out]; omega, Nat.zero_le _, by rw [List.take_zero]; exact OwnsS.nil_ _ _ _ _, Below.refl _ _, fun k hk => by cases hk⟩
 have HREL0 := Lib.hid hrel0
 have hwr0 : wrap64 ((ch.length : Int) - 1) = (ch.length : Int) - 1 := by have := HCH.out; unfold wrap64; omega
 have hwr0' : IntKind.i64.wrap ((ch.length : Int) - 1) = (ch.length : Int) - 1 := by have := HCH.out; rw [IntKind.wrap_i64]; omega
 clear hrel0
 go_wp2_with fail
 try rw [hwr0]
 clear hwr0 hwr0'
 go_loopw [5, 7] (fun v i wr => ∃ j : Int, i = .int .i64 j ∧ Hid (OrRel w 9 names v j w2 wr)) (fun _ i _ => (intOf i + 1).toNat)
 case atStart => exact ⟨_, rfl, HREL0⟩
 case round =>
  obtain ⟨j, rfl, hq⟩ := hrel
  obtain ⟨k, hj, hk, hown, hbr, hvb⟩ := hq.out
  clear hq HREL0
  have HOWN := Lib.hid hown; have HBR := Lib.hid hbr; have HVB := Lib.hid hvb; have HJ := Lib.hid (And.intro hj hk)
  clear hown hbr hvb hj hk
  by_cases h0 : 0 ≤ j
  ·
   obtain ⟨t, rfl⟩ := Int.eq_ofNat_of_zero_le h0
   have ht : t < ch.length := by have := HJ.out; have := HNL.out; omega
   obtain ⟨b, o, rfl, hb, A2, c2, hok, hat, hdc⟩ := (HSL.out.next (Nat.le_refl _) HBR.out).dev ht
   have x3 := hdc.2.2.2.1
   obtain ⟨d, hd⟩ : ∃ d, ch[t]'ht = d := ⟨_, rfl⟩
   rw [hd] at x3 hok
   have hname : names[k]? = some d.orig := by
    rw [← HNM.out, List.getElem?_map, List.getElem?_reverse (by have := HJ.out; have := HNL.out; omega), show ch.length - 1 - k = t by have := HJ.out; have := HNL.out; omega, List.getElem?_eq_getElem ht, hd]; rfl
   have HNAME := Lib.hid hname; have HT := Lib.hid ht; have HOKD := Lib.hid hok
   clear hname ht hok hat hdc hd hb
   obtain ⟨w3, hw3⟩ : ∃ w3, wr.alloc (.cells #[.string d.orig] 9) = w3 := ⟨_, rfl⟩
   have hb3 : Below wr.heap.size wr w3 := by rw [← hw3]; exact (Below.refl _ _).alloc (Nat.le_refl _) _
   have hg3 : w3.heap.size = wr.heap.size + 1 := by rw [← hw3]; simp
   have hnews := cell_one_new wr (.string d.orig) 9
   rw [hw3] at hnews
   have hvlt := HOWN.out.lt
   obtain ⟨css, o1, o2, o3⟩ := HOWN.out.below hb3
   have hlk : (names.take k).length = k := by rw [List.length_take]; have := HJ.out; omega
   have HO1 := Lib.hid o1; have HO2 := Lib.hid o2; have HO3 := Lib.hid o3; have HNEWS := Lib.hid hnews; have HB3 := Lib.hid hb3; have HG3 := Lib.hid hg3; have HLK := Lib.hid hlk
   have hwr : wrap64 ((t : Int) - 1) = (t : Int) - 1 := by have := HCH.out; have := HT.out; unfold wrap64; omega
   have hwr' : IntKind.i64.wrap ((t : Int) - 1) = (t : Int) - 1 := by have := HCH.out; have := HT.out; rw [IntKind.wrap_i64]; omega
   clear o2 o3 hnews hb3 hg3 hvlt hlk
   go_wp2_with (at_builtin; go_must (refine wpList_append_own_at _ rfl _ _ 27 rfl w.heap.size 9 i0 _ 1 16 Tryz.underlying27 HI0.out HZ0.out HZ1.out HZ2.out rfl (by decide) _ _ _ rfl o1 ⟨wr.heap.size, 0, none⟩ 1 1 _ rfl rfl HNEWS.out (fun u hu => by simp at hu; subst hu; rfl) (by rw [HLK.out]; have := HJ.out; have := HNL.out; have := HCH.out; unfold maxLen; omega) (by rw [HLK.out]; have := HJ.out; have := HNL.out; have := HCH.out; omega) (by have := HG3.out; have := HBR.out.size; have := HB2.out.size; omega) ?_); intro v' w4 hown' hgrow _ hat'; have hown4 := OwnsS.app (w := w3) HO1.out HO2.out HO3.out (x := d.orig) (cs := [.string d.orig]) ⟨rfl, HOKD.out.2.2.2.1⟩ hown' hgrow (fun q hq => Or.elim hat' (fun h => .inl (h.symm.trans hq)) (fun h => .inr (by rw [hq] at h; have := Option.some.inj h; omega))); have HVN := Lib.hid (show ∀ q, v'.ownBlock = some q → w2.heap.size ≤ q from fun q hq => Or.elim hat' (fun h => HVB.out q (h.symm.trans hq)) (fun h => by rw [hq] at h; have := Option.some.inj h; have := HG3.out; have := HBR.out.size; omega)); have HOWN4 := Lib.hid hown4; have HGROW := Lib.hid hgrow; clear hown4 hown' hgrow hat' o1 hw3 x3)
   have hbr4 : Below w2.heap.size w2 w4 := by
    have h1 : Below w2.heap.size w2 w3 := HBR.out.trans (HB3.out.mono HBR.out.size)
    exact h1.grown HGROW.out h1.size (fun q hq => HVB.out q hq)
   have hrel4 : OrRel w 9 names v' ((t : Int) - 1) w2 w4 := by
    refine ⟨k + 1, by have := HJ.out; omega, by have := HJ.out; have := HNL.out; omega, ?_, hbr4, HVN.out⟩
    rw [List.take_add_one, HNAME.out]
    exact HOWN4.out
   have HREL4 := Lib.hid hrel4
   clear hrel4 hbr4
   try go_wp2
   go_roundw
   case rel => exact ⟨_, by first | rfl | (simp only [hwr, hwr']), HREL4⟩
   case measure => first | (simp [intOf]; done) | (simp [intOf]; omega) | (simp [intOf, hwr, hwr']; omega)
  ·
   have hfin : names.take k = names := List.take_of_length_le (by have := HJ.out; omega)
   have HFIN := Lib.hid hfin; clear hfin
   go_wp2
   go_ret
   exact ⟨HB2.out.trans (HBR.out.mono HB2.out.size), _, rfl, by have h := HOWN.out; rw [HFIN.out] at h; exact h⟩
end Go.Proofs.YtjpoljlgkgmdkaaGreatDoor
namespace Go.Cold
open Go Go.RowKit
theorem node_size {d : Dev} {s : ByteArray} (h : nodeD d = some s) : s.size = d.orig.size := by
 unfold nodeD at h
 split at h
 · rw [← Option.some.inj h, nodeS_size]
 · cases h
end Go.Cold
namespace Go.Proofs.YtjpoljlgkgmdkaaGreatDoor
open Go.RowKit Go.Cold
set_option maxHeartbeats 8000000 in
set_option maxRecDepth 100000 in
theorem RClash_any (a b : Dev) (A1 A2 : Option Addr) (c1 c2 : Nat) (w : World) (ha : a.orig.size ≤ 4294967280) (hb : b.orig.size ≤ 4294967280) (hok : Ok w) : Calls Tryz.prog 98 #[.agg #[.int .i64 a.idx, .int .i64 a.par, .string a.nm, .string a.orig, .string a.sub, .string a.drv, .string a.ali, .int .i64 a.kind, .int .i64 a.num, .slice A1 a.attrs.length c1], .agg #[.int .i64 b.idx, .int .i64 b.par, .string b.nm, .string b.orig, .string b.sub, .string b.drv, .string b.ali, .int .i64 b.kind, .int .i64 b.num, .slice A2 b.attrs.length c2]] w fun e w' => e = .returned (.bool (clashB a b)) ∧ Below w.heap.size w w' := by
 have HA := Lib.hid ha; have HB := Lib.hid hb; have HOK := Lib.hid hok; clear ha hb hok
 go_enter Tryz.func98, Tryz.ntmps98
 go_upto_region 1 with fail
 obtain ⟨w1, hw1⟩ : ∃ w1, w.alloc (.cells #[.int .i64 a.idx, .int .i64 a.par, .string a.nm, .string a.orig, .string a.sub, .string a.drv, .string a.ali, .int .i64 a.kind, .int .i64 a.num, .slice A1 a.attrs.length c1] 84) = w1 := ⟨_, rfl⟩
 obtain ⟨w2, hw2⟩ : ∃ w2, w1.alloc (.cells #[.int .i64 b.idx, .int .i64 b.par, .string b.nm, .string b.orig, .string b.sub, .string b.drv, .string b.ali, .int .i64 b.kind, .int .i64 b.num, .slice A2 b.attrs.length c2] 84) = w2 := ⟨_, rfl⟩
 obtain ⟨hb1, hg1, hx1⟩ := box10 hw1
 obtain ⟨hb2, hg2, hx2⟩ := box10 hw2
 try rw [hw1]
 try rw [hw2]
 have e1 : w.heap.size + 1 = w1.heap.size := hg1.symm
 try rw [e1]
 have hp := hx1.keep hb2 (by omega)
 have HP := Lib.hid hp; have HQ := Lib.hid hx2; have HB2 := Lib.hid (hb1.trans (hb2.mono hb1.size)); have HG := Lib.hid (And.intro hg1 hg2)
 clear hw1 hw2 hb1 hb2 hg1 hg2 hx1 hx2 hp e1
 obtain ⟨p0, p1, p2, p3, p4, p5, p6, p7, p8, p9⟩ := HP.out.zero
 obtain ⟨q0, q1, q2, q3, q4, q5, q6, q7, q8, q9⟩ := HQ.out.zero
 by_cases ha4 : a.kind = 4
 ·
  have ea : (a.kind == 4) = true := beq_iff_eq.2 ha4
  by_cases hb4 : b.kind = 4
  ·
   have eb : (b.kind == 4) = true := beq_iff_eq.2 hb4
   by_cases hnm : a.nm = b.nm
   ·
    have en : (a.nm.toList == b.nm.toList) = true := by rw [ba_beq]; exact decide_eq_true hnm
    have HCB := Lib.hid (show clashB a b = true by unfold clashB; simp [ha4, hb4, hnm])
    clear ha4 hb4 hnm
    go_wp2
    go_ret
    exact ⟨ret_bool (by rw [HCB.out]; try rfl), HB2.out⟩
   have en0 : (a.nm.toList == b.nm.toList) = false := by rw [ba_beq]; exact decide_eq_false hnm
   have HF4 := Lib.hid (show (decide (a.kind = 4) && (decide (b.kind = 4) && decide (a.nm = b.nm))) = false by simp [hnm]); clear ha4 hb4 hnm
   go_wp2_with fail
   refine (RNode_any a A1 c1 w2 (by have := HA.out; omega) (HOK.out.next HB2.out)).mono ?_
   rintro e w3 ⟨rfl, hb3⟩
   clear p0 p1 p2 p3 p4 p5 p6 p7 p8 p9 q0 q1 q2 q3 q4 q5 q6 q7 q8 q9
   obtain ⟨p0, p1, p2, p3, p4, p5, p6, p7, p8, p9⟩ := (HP.out.keep hb3 (by have := HG.out; omega)).zero
   obtain ⟨q0, q1, q2, q3, q4, q5, q6, q7, q8, q9⟩ := (HQ.out.keep hb3 (by have := HG.out; omega)).zero
   have HB3 := Lib.hid hb3; have HB03 := Lib.hid (HB2.out.trans (hb3.mono HB2.out.size)); clear hb3
   go_wp2_with fail
   refine (RNode_any b A2 c2 w3 (by have := HB.out; omega) (HOK.out.next HB03.out)).mono ?_
   rintro e w4 ⟨rfl, hb4⟩
   clear p0 p1 p2 p3 p4 p5 p6 p7 p8 p9 q0 q1 q2 q3 q4 q5 q6 q7 q8 q9
   have hb24 := HB3.out.trans (hb4.mono HB3.out.size)
   obtain ⟨p0, p1, p2, p3, p4, p5, p6, p7, p8, p9⟩ := (HP.out.keep hb24 (by have := HG.out; omega)).zero
   obtain ⟨q0, q1, q2, q3, q4, q5, q6, q7, q8, q9⟩ := (HQ.out.keep hb24 (by have := HG.out; omega)).zero
   have HB4 := Lib.hid (HB03.out.trans (hb4.mono HB03.out.size)); clear hb4 hb24
   unfold nodeV
   cases hna : nodeD a with
   | none =>
    simp only [Option.isSome_none, Option.getD_none]
    have HCB := Lib.hid (show clashB a b = false by unfold clashB; rw [hna]; simp only [HF4.out]; rfl)
    clear hna
    go_wp2
    go_ret
    exact ⟨ret_bool (by rw [HCB.out]; try rfl), HB4.out⟩
   | some s =>
    cases hnb : nodeD b with
    | none =>
     simp only [Option.isSome_none, Option.isSome_some, Option.getD_none, Option.getD_some]
     have HCB := Lib.hid (show clashB a b = false by unfold clashB; rw [hna, hnb]; simp only [HF4.out]; rfl)
     clear hna hnb
     go_wp2
     go_ret
     exact ⟨ret_bool (by rw [HCB.out]; try rfl), HB4.out⟩
    | some u =>
     simp only [Option.isSome_some, Option.getD_some]
     have HSS := Lib.hid (And.intro (node_size hna) (node_size hnb))
     have HNA := Lib.hid hna; have HNB := Lib.hid hnb; clear hna hnb
     have hfst := HF4.out
     have HFST := Lib.hid hfst; clear hfst
     by_cases hkk : a.kind = b.kind
     ·
      have ek : (a.kind == b.kind) = true := beq_iff_eq.2 hkk
      by_cases hnn : a.num = b.num
      ·
       have en : (a.num == b.num) = true := beq_iff_eq.2 hnn
       have HCB := Lib.hid (show clashB a b = true by unfold clashB; rw [HNA.out, HNB.out]; simp [hkk, hnn])
       clear hkk hnn
       go_wp2
       go_ret
       exact ⟨ret_bool (by rw [HCB.out]; try rfl), HB4.out⟩
      have en : (a.num == b.num) = false := beq_eq_false_iff_ne.2 hnn
      have HKN := Lib.hid (show (decide (a.kind = b.kind) && decide (a.num = b.num)) = false by simp [hnn]); clear hkk hnn
      by_cases hsu : s = u
      ·
       have es : (s.toList == u.toList) = true := by rw [ba_beq]; exact decide_eq_true hsu
       have HCB := Lib.hid (show clashB a b = true by unfold clashB; rw [HNA.out, HNB.out]; simp [hsu])
       clear hsu
       go_wp2
       go_ret
       exact ⟨ret_bool (by rw [HCB.out]; try rfl), HB4.out⟩
      have es : (s.toList == u.toList) = false := by rw [ba_beq]; exact decide_eq_false hsu
      have HSU := Lib.hid hsu; clear hsu
      go_wp2_with fail
      refine (RBeneath_any s u w4 (by rw [HSS.out.1]; exact HA.out)).mono ?_
      rintro e w5 ⟨rfl, hw5⟩
      subst hw5
      cases hsb : belowB s u with
      | true =>
       have HCB := Lib.hid (show clashB a b = true by unfold clashB; rw [HNA.out, HNB.out]; simp [hsb])
       clear hsb
       go_wp2
       go_ret
       exact ⟨ret_bool (by rw [HCB.out]; try rfl), HB4.out⟩
      | false =>
       have HSB := Lib.hid hsb; clear hsb
       go_wp2_with fail
       refine (RBeneath_any u s w4 (by rw [HSS.out.2]; exact HB.out)).mono ?_
       rintro e w5 ⟨rfl, hw5⟩
       subst hw5
       have HCB := Lib.hid (show clashB a b = belowB u s by unfold clashB; rw [HNA.out, HNB.out]; have hfst := HFST.out; have hkn := HKN.out; simp [HSU.out, HSB.out, hfst, hkn])
       obtain ⟨z, hz⟩ : ∃ z, belowB u s = z := ⟨_, rfl⟩
       rw [hz]
       have HZ := Lib.hid hz; clear hz
       go_wp2
       go_ret
       exact ⟨ret_bool (by rw [HCB.out, HZ.out]; try rfl), HB4.out⟩
     have ek : (a.kind == b.kind) = false := beq_eq_false_iff_ne.2 hkk
     have HKN := Lib.hid (show (decide (a.kind = b.kind) && decide (a.num = b.num)) = false by simp [hkk]); clear hkk
     by_cases hsu : s = u
     ·
      have es : (s.toList == u.toList) = true := by rw [ba_beq]; exact decide_eq_true hsu
      have HCB := Lib.hid (show clashB a b = true by unfold clashB; rw [HNA.out, HNB.out]; simp [hsu])
      clear hsu
      go_wp2
      go_ret
      exact ⟨ret_bool (by rw [HCB.out]; try rfl), HB4.out⟩
     have es : (s.toList == u.toList) = false := by rw [ba_beq]; exact decide_eq_false hsu
     have HSU := Lib.hid hsu; clear hsu
     go_wp2_with fail
     refine (RBeneath_any s u w4 (by rw [HSS.out.1]; exact HA.out)).mono ?_
     rintro e w5 ⟨rfl, hw5⟩
     subst hw5
     cases hsb : belowB s u with
     | true =>
      have HCB := Lib.hid (show clashB a b = true by unfold clashB; rw [HNA.out, HNB.out]; simp [hsb])
      clear hsb
      go_wp2
      go_ret
      exact ⟨ret_bool (by rw [HCB.out]; try rfl), HB4.out⟩
     | false =>
      have HSB := Lib.hid hsb; clear hsb
      go_wp2_with fail
      refine (RBeneath_any u s w4 (by rw [HSS.out.2]; exact HB.out)).mono ?_
      rintro e w5 ⟨rfl, hw5⟩
      subst hw5
      have HCB := Lib.hid (show clashB a b = belowB u s by unfold clashB; rw [HNA.out, HNB.out]; have hfst := HFST.out; have hkn := HKN.out; simp [HSU.out, HSB.out, hfst, hkn])
      obtain ⟨z, hz⟩ : ∃ z, belowB u s = z := ⟨_, rfl⟩
      rw [hz]
      have HZ := Lib.hid hz; clear hz
      go_wp2
      go_ret
      exact ⟨ret_bool (by rw [HCB.out, HZ.out]; try rfl), HB4.out⟩
  have eb : (b.kind == 4) = false := beq_eq_false_iff_ne.2 hb4
  have HF4 := Lib.hid (show (decide (a.kind = 4) && (decide (b.kind = 4) && decide (a.nm = b.nm))) = false by simp [hb4]); clear ha4 hb4
  go_wp2_with fail
  refine (RNode_any a A1 c1 w2 (by have := HA.out; omega) (HOK.out.next HB2.out)).mono ?_
  rintro e w3 ⟨rfl, hb3⟩
  clear p0 p1 p2 p3 p4 p5 p6 p7 p8 p9 q0 q1 q2 q3 q4 q5 q6 q7 q8 q9
  obtain ⟨p0, p1, p2, p3, p4, p5, p6, p7, p8, p9⟩ := (HP.out.keep hb3 (by have := HG.out; omega)).zero
  obtain ⟨q0, q1, q2, q3, q4, q5, q6, q7, q8, q9⟩ := (HQ.out.keep hb3 (by have := HG.out; omega)).zero
  have HB3 := Lib.hid hb3; have HB03 := Lib.hid (HB2.out.trans (hb3.mono HB2.out.size)); clear hb3
  go_wp2_with fail
  refine (RNode_any b A2 c2 w3 (by have := HB.out; omega) (HOK.out.next HB03.out)).mono ?_
  rintro e w4 ⟨rfl, hb4⟩
  clear p0 p1 p2 p3 p4 p5 p6 p7 p8 p9 q0 q1 q2 q3 q4 q5 q6 q7 q8 q9
  have hb24 := HB3.out.trans (hb4.mono HB3.out.size)
  obtain ⟨p0, p1, p2, p3, p4, p5, p6, p7, p8, p9⟩ := (HP.out.keep hb24 (by have := HG.out; omega)).zero
  obtain ⟨q0, q1, q2, q3, q4, q5, q6, q7, q8, q9⟩ := (HQ.out.keep hb24 (by have := HG.out; omega)).zero
  have HB4 := Lib.hid (HB03.out.trans (hb4.mono HB03.out.size)); clear hb4 hb24
  unfold nodeV
  cases hna : nodeD a with
  | none =>
   simp only [Option.isSome_none, Option.getD_none]
   have HCB := Lib.hid (show clashB a b = false by unfold clashB; rw [hna]; simp only [HF4.out]; rfl)
   clear hna
   go_wp2
   go_ret
   exact ⟨ret_bool (by rw [HCB.out]; try rfl), HB4.out⟩
  | some s =>
   cases hnb : nodeD b with
   | none =>
    simp only [Option.isSome_none, Option.isSome_some, Option.getD_none, Option.getD_some]
    have HCB := Lib.hid (show clashB a b = false by unfold clashB; rw [hna, hnb]; simp only [HF4.out]; rfl)
    clear hna hnb
    go_wp2
    go_ret
    exact ⟨ret_bool (by rw [HCB.out]; try rfl), HB4.out⟩
   | some u =>
    simp only [Option.isSome_some, Option.getD_some]
    have HSS := Lib.hid (And.intro (node_size hna) (node_size hnb))
    have HNA := Lib.hid hna; have HNB := Lib.hid hnb; clear hna hnb
    have hfst := HF4.out
    have HFST := Lib.hid hfst; clear hfst
    by_cases hkk : a.kind = b.kind
    ·
     have ek : (a.kind == b.kind) = true := beq_iff_eq.2 hkk
     by_cases hnn : a.num = b.num
     ·
      have en : (a.num == b.num) = true := beq_iff_eq.2 hnn
      have HCB := Lib.hid (show clashB a b = true by unfold clashB; rw [HNA.out, HNB.out]; simp [hkk, hnn])
      clear hkk hnn
      go_wp2
      go_ret
      exact ⟨ret_bool (by rw [HCB.out]; try rfl), HB4.out⟩
     have en : (a.num == b.num) = false := beq_eq_false_iff_ne.2 hnn
     have HKN := Lib.hid (show (decide (a.kind = b.kind) && decide (a.num = b.num)) = false by simp [hnn]); clear hkk hnn
     by_cases hsu : s = u
     ·
      have es : (s.toList == u.toList) = true := by rw [ba_beq]; exact decide_eq_true hsu
      have HCB := Lib.hid (show clashB a b = true by unfold clashB; rw [HNA.out, HNB.out]; simp [hsu])
      clear hsu
      go_wp2
      go_ret
      exact ⟨ret_bool (by rw [HCB.out]; try rfl), HB4.out⟩
     have es : (s.toList == u.toList) = false := by rw [ba_beq]; exact decide_eq_false hsu
     have HSU := Lib.hid hsu; clear hsu
     go_wp2_with fail
     refine (RBeneath_any s u w4 (by rw [HSS.out.1]; exact HA.out)).mono ?_
     rintro e w5 ⟨rfl, hw5⟩
     subst hw5
     cases hsb : belowB s u with
     | true =>
      have HCB := Lib.hid (show clashB a b = true by unfold clashB; rw [HNA.out, HNB.out]; simp [hsb])
      clear hsb
      go_wp2
      go_ret
      exact ⟨ret_bool (by rw [HCB.out]; try rfl), HB4.out⟩
     | false =>
      have HSB := Lib.hid hsb; clear hsb
      go_wp2_with fail
      refine (RBeneath_any u s w4 (by rw [HSS.out.2]; exact HB.out)).mono ?_
      rintro e w5 ⟨rfl, hw5⟩
      subst hw5
      have HCB := Lib.hid (show clashB a b = belowB u s by unfold clashB; rw [HNA.out, HNB.out]; have hfst := HFST.out; have hkn := HKN.out; simp [HSU.out, HSB.out, hfst, hkn])
      obtain ⟨z, hz⟩ : ∃ z, belowB u s = z := ⟨_, rfl⟩
      rw [hz]
      have HZ := Lib.hid hz; clear hz
      go_wp2
      go_ret
      exact ⟨ret_bool (by rw [HCB.out, HZ.out]; try rfl), HB4.out⟩
    have ek : (a.kind == b.kind) = false := beq_eq_false_iff_ne.2 hkk
    have HKN := Lib.hid (show (decide (a.kind = b.kind) && decide (a.num = b.num)) = false by simp [hkk]); clear hkk
    by_cases hsu : s = u
    ·
     have es : (s.toList == u.toList) = true := by rw [ba_beq]; exact decide_eq_true hsu
     have HCB := Lib.hid (show clashB a b = true by unfold clashB; rw [HNA.out, HNB.out]; simp [hsu])
     clear hsu
     go_wp2
     go_ret
     exact ⟨ret_bool (by rw [HCB.out]; try rfl), HB4.out⟩
    have es : (s.toList == u.toList) = false := by rw [ba_beq]; exact decide_eq_false hsu
    have HSU := Lib.hid hsu; clear hsu
    go_wp2_with fail
    refine (RBeneath_any s u w4 (by rw [HSS.out.1]; exact HA.out)).mono ?_
    rintro e w5 ⟨rfl, hw5⟩
    subst hw5
    cases hsb : belowB s u with
    | true =>
     have HCB := Lib.hid (show clashB a b = true by unfold clashB; rw [HNA.out, HNB.out]; simp [hsb])
     clear hsb
     go_wp2
     go_ret
     exact ⟨ret_bool (by rw [HCB.out]; try rfl), HB4.out⟩
    | false =>
     have HSB := Lib.hid hsb; clear hsb
     go_wp2_with fail
     refine (RBeneath_any u s w4 (by rw [HSS.out.2]; exact HB.out)).mono ?_
     rintro e w5 ⟨rfl, hw5⟩
     subst hw5
     have HCB := Lib.hid (show clashB a b = belowB u s by unfold clashB; rw [HNA.out, HNB.out]; have hfst := HFST.out; have hkn := HKN.out; simp [HSU.out, HSB.out, hfst, hkn])
     obtain ⟨z, hz⟩ : ∃ z, belowB u s = z := ⟨_, rfl⟩
     rw [hz]
     have HZ := Lib.hid hz; clear hz
     go_wp2
     go_ret
     exact ⟨ret_bool (by rw [HCB.out, HZ.out]; try rfl), HB4.out⟩
 have ea : (a.kind == 4) = false := beq_eq_false_iff_ne.2 ha4
 have HF4 := Lib.hid (show (decide (a.kind = 4) && (decide (b.kind = 4) && decide (a.nm = b.nm))) = false by simp [ha4]); clear ha4
 go_wp2_with fail
 refine (RNode_any a A1 c1 w2 (by have := HA.out; omega) (HOK.out.next HB2.out)).mono ?_
 rintro e w3 ⟨rfl, hb3⟩
 clear p0 p1 p2 p3 p4 p5 p6 p7 p8 p9 q0 q1 q2 q3 q4 q5 q6 q7 q8 q9
 obtain ⟨p0, p1, p2, p3, p4, p5, p6, p7, p8, p9⟩ := (HP.out.keep hb3 (by have := HG.out; omega)).zero
 obtain ⟨q0, q1, q2, q3, q4, q5, q6, q7, q8, q9⟩ := (HQ.out.keep hb3 (by have := HG.out; omega)).zero
 have HB3 := Lib.hid hb3; have HB03 := Lib.hid (HB2.out.trans (hb3.mono HB2.out.size)); clear hb3
 go_wp2_with fail
 refine (RNode_any b A2 c2 w3 (by have := HB.out; omega) (HOK.out.next HB03.out)).mono ?_
 rintro e w4 ⟨rfl, hb4⟩
 clear p0 p1 p2 p3 p4 p5 p6 p7 p8 p9 q0 q1 q2 q3 q4 q5 q6 q7 q8 q9
 have hb24 := HB3.out.trans (hb4.mono HB3.out.size)
 obtain ⟨p0, p1, p2, p3, p4, p5, p6, p7, p8, p9⟩ := (HP.out.keep hb24 (by have := HG.out; omega)).zero
 obtain ⟨q0, q1, q2, q3, q4, q5, q6, q7, q8, q9⟩ := (HQ.out.keep hb24 (by have := HG.out; omega)).zero
 have HB4 := Lib.hid (HB03.out.trans (hb4.mono HB03.out.size)); clear hb4 hb24
 unfold nodeV
 cases hna : nodeD a with
 | none =>
  simp only [Option.isSome_none, Option.getD_none]
  have HCB := Lib.hid (show clashB a b = false by unfold clashB; rw [hna]; simp only [HF4.out]; rfl)
  clear hna
  go_wp2
  go_ret
  exact ⟨ret_bool (by rw [HCB.out]; try rfl), HB4.out⟩
 | some s =>
  cases hnb : nodeD b with
  | none =>
   simp only [Option.isSome_none, Option.isSome_some, Option.getD_none, Option.getD_some]
   have HCB := Lib.hid (show clashB a b = false by unfold clashB; rw [hna, hnb]; simp only [HF4.out]; rfl)
   clear hna hnb
   go_wp2
   go_ret
   exact ⟨ret_bool (by rw [HCB.out]; try rfl), HB4.out⟩
  | some u =>
   simp only [Option.isSome_some, Option.getD_some]
   have HSS := Lib.hid (And.intro (node_size hna) (node_size hnb))
   have HNA := Lib.hid hna; have HNB := Lib.hid hnb; clear hna hnb
   have hfst := HF4.out
   have HFST := Lib.hid hfst; clear hfst
   by_cases hkk : a.kind = b.kind
   ·
    have ek : (a.kind == b.kind) = true := beq_iff_eq.2 hkk
    by_cases hnn : a.num = b.num
    ·
     have en : (a.num == b.num) = true := beq_iff_eq.2 hnn
     have HCB := Lib.hid (show clashB a b = true by unfold clashB; rw [HNA.out, HNB.out]; simp [hkk, hnn])
     clear hkk hnn
     go_wp2
     go_ret
     exact ⟨ret_bool (by rw [HCB.out]; try rfl), HB4.out⟩
    have en : (a.num == b.num) = false := beq_eq_false_iff_ne.2 hnn
    have HKN := Lib.hid (show (decide (a.kind = b.kind) && decide (a.num = b.num)) = false by simp [hnn]); clear hkk hnn
    by_cases hsu : s = u
    ·
     have es : (s.toList == u.toList) = true := by rw [ba_beq]; exact decide_eq_true hsu
     have HCB := Lib.hid (show clashB a b = true by unfold clashB; rw [HNA.out, HNB.out]; simp [hsu])
     clear hsu
     go_wp2
     go_ret
     exact ⟨ret_bool (by rw [HCB.out]; try rfl), HB4.out⟩
    have es : (s.toList == u.toList) = false := by rw [ba_beq]; exact decide_eq_false hsu
    have HSU := Lib.hid hsu; clear hsu
    go_wp2_with fail
    refine (RBeneath_any s u w4 (by rw [HSS.out.1]; exact HA.out)).mono ?_
    rintro e w5 ⟨rfl, hw5⟩
    subst hw5
    cases hsb : belowB s u with
    | true =>
     have HCB := Lib.hid (show clashB a b = true by unfold clashB; rw [HNA.out, HNB.out]; simp [hsb])
     clear hsb
     go_wp2
     go_ret
     exact ⟨ret_bool (by rw [HCB.out]; try rfl), HB4.out⟩
    | false =>
     have HSB := Lib.hid hsb; clear hsb
     go_wp2_with fail
     refine (RBeneath_any u s w4 (by rw [HSS.out.2]; exact HB.out)).mono ?_
     rintro e w5 ⟨rfl, hw5⟩
     subst hw5
     have HCB := Lib.hid (show clashB a b = belowB u s by unfold clashB; rw [HNA.out, HNB.out]; have hfst := HFST.out; have hkn := HKN.out; simp [HSU.out, HSB.out, hfst, hkn])
     obtain ⟨z, hz⟩ : ∃ z, belowB u s = z := ⟨_, rfl⟩
     rw [hz]
     have HZ := Lib.hid hz; clear hz
     go_wp2
     go_ret
     exact ⟨ret_bool (by rw [HCB.out, HZ.out]; try rfl), HB4.out⟩
   have ek : (a.kind == b.kind) = false := beq_eq_false_iff_ne.2 hkk
   have HKN := Lib.hid (show (decide (a.kind = b.kind) && decide (a.num = b.num)) = false by simp [hkk]); clear hkk
   by_cases hsu : s = u
   ·
    have es : (s.toList == u.toList) = true := by rw [ba_beq]; exact decide_eq_true hsu
    have HCB := Lib.hid (show clashB a b = true by unfold clashB; rw [HNA.out, HNB.out]; simp [hsu])
    clear hsu
    go_wp2
    go_ret
    exact ⟨ret_bool (by rw [HCB.out]; try rfl), HB4.out⟩
   have es : (s.toList == u.toList) = false := by rw [ba_beq]; exact decide_eq_false hsu
   have HSU := Lib.hid hsu; clear hsu
   go_wp2_with fail
   refine (RBeneath_any s u w4 (by rw [HSS.out.1]; exact HA.out)).mono ?_
   rintro e w5 ⟨rfl, hw5⟩
   subst hw5
   cases hsb : belowB s u with
   | true =>
    have HCB := Lib.hid (show clashB a b = true by unfold clashB; rw [HNA.out, HNB.out]; simp [hsb])
    clear hsb
    go_wp2
    go_ret
    exact ⟨ret_bool (by rw [HCB.out]; try rfl), HB4.out⟩
   | false =>
    have HSB := Lib.hid hsb; clear hsb
    go_wp2_with fail
    refine (RBeneath_any u s w4 (by rw [HSS.out.2]; exact HB.out)).mono ?_
    rintro e w5 ⟨rfl, hw5⟩
    subst hw5
    have HCB := Lib.hid (show clashB a b = belowB u s by unfold clashB; rw [HNA.out, HNB.out]; have hfst := HFST.out; have hkn := HKN.out; simp [HSU.out, HSB.out, hfst, hkn])
    obtain ⟨z, hz⟩ : ∃ z, belowB u s = z := ⟨_, rfl⟩
    rw [hz]
    have HZ := Lib.hid hz; clear hz
    go_wp2
    go_ret
    exact ⟨ret_bool (by rw [HCB.out, HZ.out]; try rfl), HB4.out⟩
end Go.Proofs.YtjpoljlgkgmdkaaGreatDoor
namespace Go.Proofs.YtjpoljlgkgmdkaaGreatDoor
open Go.RowKit Go.Cold
set_option maxRecDepth 100000 in
theorem SameAttrs_same (A B : Option Addr) (c d : Nat) (xs : List Attr) (w : World) (b1 b2 : Nat) (hx : Sl w b1 A c xs) (hy : Sl w b2 B d xs) :
  Calls Tryz.prog 37 #[.slice A xs.length c, .slice B xs.length d] w fun e w' => e = .returned (.bool true) ∧ ∃ n, w' = w.drewN n := by
 have hc := hx.1; have hc2 := hx.2.1; have hd := hy.1; have hd2 := hy.2.1
 unfold maxLen at hc2 hd2
 have HX := Lib.hid hx; have HY := Lib.hid hy; clear hx hy
 go_enter Tryz.func37, Tryz.ntmps37
 go_wp2
 go_loopw [5] (fun i wr => ∃ k n : Nat, k ≤ xs.length ∧ i = .int .i64 k ∧ wr = w.drewN n) (fun i _ => xs.length - (intOf i).toNat)
 case atStart => exact ⟨0, 0, Nat.zero_le _, rfl, rfl⟩
 case round =>
  obtain ⟨k, n, hk, rfl, rfl⟩ := hrel
  by_cases hlt : k < xs.length
  ·
   obtain ⟨b3, o3, rfl, _, _, cx, cx2⟩ := HX.out.attr hlt
   obtain ⟨b4, o4, rfl, _, _, cy, cy2⟩ := HY.out.attr hlt
   have i1 : (k : Int) < (xs.length : Int) := by omega
   obtain ⟨x, hxx⟩ : ∃ x, xs[k]'hlt = x := ⟨_, rfl⟩
   rw [hxx] at cx cx2 cy cy2
   clear hxx
   go_wp2
   go_quiet (fail)
   go_wp2
   go_roundw
   case rel => exact ⟨k + 1, _, by omega, by go_num, rfl⟩
   case measure => simp [intOf]; omega
  ·
   have i1 : ¬ (k : Int) < (xs.length : Int) := by omega
   go_wp2
   go_ret
   exact ⟨rfl, _, rfl⟩
end Go.Proofs.YtjpoljlgkgmdkaaGreatDoor
namespace Go.Proofs.YtjpoljlgkgmdkaaGreatDoor
open Go.RowKit Go.Cold
end Go.Proofs.YtjpoljlgkgmdkaaGreatDoor
namespace Go.Proofs.YtjpoljlgkgmdkaaGreatDoor
open Go.RowKit Go.Cold Go.Sort
end Go.Proofs.YtjpoljlgkgmdkaaGreatDoor
namespace Go.Cold
open Go Go.RowKit
theorem sorted_snoc : ∀ (l : List Attr) (a b : Attr), sortedA (l ++ [a, b]) = (sortedA (l ++ [a]) && strLt a.name b.name)
 | [], a, b => by simp [sortedA]
 | [x], a, b => by simp [sortedA]
 | x :: y :: l, a, b => by
  have h := sorted_snoc (y :: l) a b
  simp only [List.cons_append] at h ⊢
  rw [sortedA, sortedA, h, Bool.and_assoc]
theorem sorted_left : ∀ (l r : List Attr), sortedA (l ++ r) = true → sortedA l = true
 | [], r, h => rfl
 | [x], r, h => rfl
 | x :: y :: l, r, h => by
  simp only [List.cons_append] at h
  rw [sortedA, Bool.and_eq_true] at h
  rw [sortedA, Bool.and_eq_true]
  exact ⟨h.1, sorted_left (y :: l) r h.2⟩
theorem sorted_step {xs : List Attr} {j : Nat} {a b : Attr} (h : j + 1 < xs.length) (ha : xs[j]? = some a) (hb : xs[j + 1]? = some b) : sortedA (xs.take (j + 1 + 1)) = (sortedA (xs.take (j + 1)) && strLt a.name b.name) := by
 have h1 : xs.take (j + 1) = xs.take j ++ [a] := by rw [List.take_add_one, ha]; rfl
 have h2 : xs.take (j + 1 + 1) = xs.take j ++ [a, b] := by rw [List.take_add_one, hb, h1]; simp
 rw [h2, h1, sorted_snoc]
theorem sorted_false {xs : List Attr} {k : Nat} (h : sortedA (xs.take k) = false) : sortedA xs = false := by
 cases hs : sortedA xs with
 | false => rfl
 | true =>
  rw [← List.take_append_drop k xs] at hs
  rw [sorted_left _ _ hs] at h
  cases h
end Go.Cold
namespace Go.Proofs.YtjpoljlgkgmdkaaGreatDoor
open Go.RowKit Go.Cold
set_option maxRecDepth 100000 in
theorem RSorted_any (A : Option Addr) (c : Nat) (xs : List Attr) (w : World) (B : Nat) (hx : Sl w B A c xs) :
  Calls Tryz.prog 61 #[.slice A xs.length c] w fun e w' => e = .returned (.bool (sortedA xs)) ∧ Below w.heap.size w w' := by
 have hc := hx.1; have hc2 := hx.2.1
 unfold maxLen at hc2
 have HX := Lib.hid hx; clear hx
 go_enter Tryz.func61, Tryz.ntmps61
 go_wp2
 go_loopw [3] (fun i wr => ∃ j n : Nat, (j + 1 ≤ xs.length ∨ j = 0) ∧ i = .int .i64 ((j : Int) + 1) ∧ wr = w.drewN n ∧ Hid (sortedA (xs.take (j + 1)) = true)) (fun i _ => xs.length - (intOf i).toNat)
 case atStart =>
  refine ⟨0, 0, .inr rfl, by first | rfl | simp, rfl, ?_⟩
  show sortedA (xs.take 1) = true
  rcases xs with _ | ⟨a, r⟩ <;> rfl
 case round =>
  obtain ⟨j, n, hk, rfl, rfl, HA⟩ := hrel
  by_cases hlt : j + 1 < xs.length
  ·
   have hlt0 : j < xs.length := by omega
   obtain ⟨b3, o3, rfl, _, _, cx, _⟩ := HX.out.attr hlt0
   obtain ⟨b4, o4, hbb, _, _, cy, _⟩ := HX.out.attr hlt
   obtain ⟨rfl, rfl⟩ : b3 = b4 ∧ o3 = o4 := by injection hbb with hbb; injection hbb with h1 h2; exact ⟨h1, h2⟩
   clear hbb
   have i1 : (j : Int) + 1 < (xs.length : Int) := by omega
   have hst := sorted_step hlt (List.getElem?_eq_getElem hlt0) (List.getElem?_eq_getElem hlt)
   obtain ⟨x, hxx⟩ : ∃ x, xs[j]'hlt0 = x := ⟨_, rfl⟩
   obtain ⟨y, hyy⟩ : ∃ y, xs[j + 1]'hlt = y := ⟨_, rfl⟩
   rw [hxx, hyy] at hst
   rw [hxx] at cx
   rw [hyy] at cy
   have HST := Lib.hid hst
   clear hxx hyy hst
   have hwr : IntKind.i64.wrap ((j : Int) + 1 - 1) = (j : Int) := by rw [Int.add_sub_cancel]; exact IntWalk.i64_in _ (by omega)
   have hwr2 : IntKind.i64.wrap (j : Int) = (j : Int) := IntWalk.i64_in _ (by omega)
   have hwr3 : ((j : Int) + 1).toNat = j + 1 := by omega
   have i0 : 0 ≤ (j : Int) + 1 := by omega
   cases hs : Op.bytesLess x.name.toList y.name.toList with
   | true =>
    go_wp2
    go_quiet (fail)
    clear hwr hwr2 hwr3
    go_wp2
    go_roundw
    case rel => exact ⟨j + 1, _, .inl (by omega), by first | rfl | go_num, rfl, by rw [HST.out, HA.out]; exact hs⟩
    case measure => simp [intOf]; omega
   | false =>
    have HF := Lib.hid (sorted_false (show sortedA (xs.take (j + 1 + 1)) = false by rw [HST.out]; unfold strLt; rw [hs, Bool.and_false]))
    go_wp2
    go_quiet (fail)
    clear hwr hwr2 hwr3
    go_wp2
    go_ret
    exact ⟨ret_bool (by rw [HF.out]; try rfl), below_drewN (below_drewN_self _ _ _) _⟩
  ·
   have i1 : ¬ (j : Int) + 1 < (xs.length : Int) := by omega
   have hf : sortedA xs = true := by
    have h := HA.out
    rcases hk with hk | hk
    · rwa [List.take_of_length_le (by omega)] at h
    ·
     subst hk
     rwa [List.take_of_length_le (by omega)] at h
   have HF := Lib.hid hf
   clear hf
   go_wp2
   go_ret
   exact ⟨ret_bool (by rw [HF.out]; try rfl), below_drewN_self _ _ _⟩
end Go.Proofs.YtjpoljlgkgmdkaaGreatDoor
namespace Go.Proofs.YtjpoljlgkgmdkaaGreatDoor
open Go.RowKit Go.Cold

structure PredA (g : FuncId) (caps : Array Value) (w : World) (B : Nat) (Q : Attr → Prop) (p : Attr → Bool) : Prop where
 enters : ∀ args w, (callFunc g args).run Tryz.prog w = .ok (.enter g args) w
 gives : ∀ (d : Attr) (W : World), d.name.size ≤ maxLen → d.value.size ≤ maxLen → Q d → Below w.heap.size w W → Calls Tryz.prog g (#[.agg #[.string d.name, .string d.value]] ++ caps) W fun e W' => e = .returned (.bool (p d)) ∧ Below W.heap.size W W'
theorem PredA.next {g : FuncId} {caps : Array Value} {w w' : World} {B : Nat} {Q : Attr → Prop} {p : Attr → Bool} (h : PredA g caps w B Q p) (hb : Below w.heap.size w w') : PredA g caps w' B Q p :=
 ⟨h.enters, fun d W h1 h2 h3 hW => h.gives d W h1 h2 h3 (hb.trans (hW.mono hb.size))⟩
structure PredD (g : FuncId) (caps : Array Value) (w : World) (B : Nat) (Q : Dev → Prop) (p : Dev → Bool) : Prop where
 enters : ∀ args w, (callFunc g args).run Tryz.prog w = .ok (.enter g args) w
 gives : ∀ (d : Dev) (A : Option Addr) (c : Nat) (W : World), devOk d → Sl W B A c d.attrs → Q d → Below w.heap.size w W → Calls Tryz.prog g (#[.agg #[.int .i64 d.idx, .int .i64 d.par, .string d.nm, .string d.orig, .string d.sub, .string d.drv, .string d.ali, .int .i64 d.kind, .int .i64 d.num, .slice A d.attrs.length c]] ++ caps) W fun e W' => e = .returned (.bool (p d)) ∧ Below W.heap.size W W'
theorem PredD.next {g : FuncId} {caps : Array Value} {w w' : World} {B : Nat} {Q : Dev → Prop} {p : Dev → Bool} (h : PredD g caps w B Q p) (hb : Below w.heap.size w w') : PredD g caps w' B Q p :=
 ⟨h.enters, fun d A c W h1 h2 h3 hW => h.gives d A c W h1 h2 h3 (hb.trans (hW.mono hb.size))⟩
end Go.Proofs.YtjpoljlgkgmdkaaGreatDoor
namespace Go.Cold
open Go Go.RowKit
def withinB (n lo hi : Int) : Bool := decide (lo ≤ n) && decide (n ≤ hi)
def rangeB (d : Dev) : Bool := withinB d.idx 1 1073741824 && (withinB d.par 0 1073741824 && !decide (d.par = d.idx))
def namedB (d : Dev) : Bool := validB d.nm && (validB d.orig && (validB d.sub && ((d.drv.toList.isEmpty || validB d.drv) && textB d.ali)))
def kindB (d : Dev) : Bool := if d.kind = 4 then ifaceB d.nm && ifaceB d.orig else (decide (d.kind = 1 ∨ d.kind = 2 ∨ d.kind = 3) && decide (d.nm = d.orig))
def kindN (k : Int) : Bool := decide (k = 2 ∨ k = 3)
def numberB (d : Dev) : Bool := if kindN d.kind then withinB d.num 1 1073741824 else decide (d.num = 0)
def attrsB (l : List Attr) : Bool := sortedA l && l.all attrB
def linkD (d : Dev) : Bool := match nodeD d with | some s => linkB s | none => true
theorem checkD_eq (d : Dev) : checkD d = if rangeB d then (if namedB d then (if kindB d then (if numberB d then (if d.attrs.length ≤ 24 then (if attrsB d.attrs then (if linkD d then 0 else 30) else 33) else 34) else 32) else 31) else 30) else 32 := by
 have h1 : rangeB d = true ↔ ¬ (d.idx < 1 ∨ 1073741824 < d.idx ∨ d.par < 0 ∨ 1073741824 < d.par ∨ d.par = d.idx) := by
  unfold rangeB withinB; simp only [Bool.and_eq_true, decide_eq_true_eq, Bool.not_eq_true', decide_eq_false_iff_not]; omega
 have h2 : namedB d = (validB d.nm && validB d.orig && validB d.sub && (d.drv.toList.isEmpty || validB d.drv) && textB d.ali) := by unfold namedB; simp only [Bool.and_assoc]
 have h3 : kindB d = true ↔ ¬ (d.kind < 1 ∨ 4 < d.kind) ∧ ¬ ((d.kind = 4 ∧ (ifaceB d.nm && ifaceB d.orig) = false) ∨ (d.kind ≠ 4 ∧ d.nm ≠ d.orig)) := by
  unfold kindB
  by_cases h4 : d.kind = 4
  · rw [if_pos h4]; simp only [h4]; cases (ifaceB d.nm && ifaceB d.orig) <;> simp
  ·
   rw [if_neg h4]
   simp only [Bool.and_eq_true, decide_eq_true_eq, h4, false_and, false_or, not_and, ne_eq, not_false_eq_true, Decidable.not_not, forall_const]
   constructor
   · rintro ⟨h5, h6⟩; exact ⟨by omega, h6⟩
   · rintro ⟨h5, h6⟩; exact ⟨by omega, h6⟩
 have hn : (nodeD d).isSome = kindN d.kind := by unfold nodeD kindN; by_cases h : d.kind = 2 ∨ d.kind = 3 <;> simp [h]
 have h5 : numberB d = true ↔ ¬ (((nodeD d).isSome = true ∧ (d.num < 1 ∨ 1073741824 < d.num)) ∨ ((nodeD d).isSome = false ∧ d.num ≠ 0)) := by
  rw [hn]; unfold numberB withinB
  cases kindN d.kind
  · simp
  · simp only [if_true, Bool.and_eq_true, decide_eq_true_eq, true_and, Bool.true_eq_false, false_and, or_false]; omega
 have h6 : attrsB d.attrs = (d.attrs.all attrB && sortedA d.attrs) := by unfold attrsB; rw [Bool.and_comm]
 unfold checkD
 rw [← h2, ← h6]
 by_cases g1 : rangeB d = true
 ·
  rw [if_neg (h1.1 g1), if_pos g1]
  cases g2 : namedB d
  · simp
  ·
   simp only [if_true]
   by_cases g3 : kindB d = true
   ·
    obtain ⟨g4, g5⟩ := h3.1 g3
    rw [if_neg g4, if_neg g5, if_pos g3]
    by_cases g6 : numberB d = true
    ·
     rw [if_neg (h5.1 g6), if_pos g6]
     by_cases g7 : d.attrs.length ≤ 24
     ·
      rw [if_neg (by omega), if_pos g7]
      cases attrsB d.attrs
      · simp
      ·
       simp only [if_true]
       unfold linkD
       cases nodeD d <;> simp
     · rw [if_pos (by omega), if_neg g7]
    · rw [if_neg g6, if_pos (Decidable.not_not.1 fun h => g6 (h5.2 h))]
   ·
    rw [if_neg g3]
    by_cases g4 : d.kind < 1 ∨ 4 < d.kind
    · rw [if_pos g4]
    · rw [if_neg g4, if_pos (Decidable.not_not.1 fun h => g3 (h3.2 ⟨g4, h⟩))]
 · rw [if_pos (Decidable.not_not.1 fun h => g1 (h1.2 h)), if_neg g1]
end Go.Cold
namespace Go.Proofs.YtjpoljlgkgmdkaaGreatDoor
open Go.RowKit Go.Cold
end Go.Proofs.YtjpoljlgkgmdkaaGreatDoor
namespace Go.Cold
open Go Go.RowKit
class El (α : Type) where
 val : α → Value
 lit : α → Lit
 desc : TypeDesc
 ok : α → Prop
 zero : α
 zero_ok : ok zero
 rd : ∀ {P : Program} {e : TypeId} {a : α}, P.underlying e = some desc → ok a → plainElem (H := Unit) P e (val a) = some (.lit (lit a), [])
 inv : ∀ {P : Program} {e : TypeId} {v : Value} {z : DataW Unit × List MemPlace}, P.underlying e = some desc → plainElem (H := Unit) P e v = some z → ∃ a, v = val a ∧ ok a ∧ z.1 = .lit (lit a)
 inj : ∀ {a b : α}, lit a = lit b → a = b
instance : El ByteArray where
 val s := .string s
 lit s := .string s.data.toList
 desc := .string
 ok s := s.size ≤ maxLen
 zero := ByteArray.empty
 zero_ok := Nat.zero_le _
 rd he h := plainElem_string he h
 inv {P e v z} he h := by
  unfold plainElem at h
  rw [he] at h
  cases v <;> simp at h
  obtain ⟨hs, rfl⟩ := h
  exact ⟨_, rfl, hs, rfl⟩
 inj {a b} h := by
  injection h with h
  have h2 := Array.toList_inj.1 h
  cases a; cases b; simp at h2; rw [h2]
theorem wf_i64 {a : Int} : (Lit.int .i64 a).wf = true ↔ okI a := by
 unfold okI
 simp [Lit.wf, IntKind.min, IntKind.max, IntKind.signed, IntKind.bits]
instance : El Int where
 val n := .int .i64 n
 lit n := .int .i64 n
 desc := .int .i64
 ok n := okI n
 zero := 0
 zero_ok := ⟨by decide, by decide⟩
 rd he h := plainElem_int he (wf_i64.2 h)
 inv {P e v z} he h := by
  obtain ⟨a, rfl, rfl, hw⟩ := plainElem_int_inv he h
  exact ⟨a, rfl, wf_i64.1 hw, rfl⟩
 inj h := by injection h
instance : El Bool where
 val x := .bool x
 lit x := .bool x
 desc := .bool
 ok _ := True
 zero := false
 zero_ok := trivial
 rd he _ := plainElem_bool he _
 inv {P e v z} he h := by
  unfold plainElem at h
  rw [he] at h
  cases v <;> simp at h
  subst h
  exact ⟨_, rfl, trivial, rfl⟩
 inj h := by injection h
def MapV {α : Type} [El α] (P : Program) (k e : TypeId) (w : World) (b n : Nat) (f : Int → Option α) : Prop :=
 ∃ D : DataW Unit, w.ownsMap P k (plainElem P e) b n D ∧ ∀ i, okI i → Maps.has D (.int .i64 i) = (f i).isSome ∧ (∀ z a, f i = some a → D.atKey (.int .i64 i) z = .lit (El.lit a)) ∧ ∀ z, f i = none → D.atKey (.int .i64 i) z = z
def updF {α : Type} (f : Int → Option α) (i : Int) (a : α) : Int → Option α := fun j => if j = i then some a else f j
section
variable {α : Type} [El α] {P : Program} {k e t : TypeId} {w w' : World} {b n : Nat} {f : Int → Option α}
theorem MapV.kept {row : Option Nat} (h : MapV P k e w b n f) (hg : w.grownBy w' row) (hne : some b ≠ row) : MapV P k e w' b n f := by
 obtain ⟨D, h1, h2⟩ := h
 exact ⟨D, h1.kept hg hne, h2⟩
theorem MapV.lt (h : MapV P k e w b n f) : b < w.heap.size := by obtain ⟨D, h1, _⟩ := h; exact h1.lt
theorem MapV.below {B : Nat} (h : MapV P k e w b n f) (hb : Below B w w') (hlt : b < B) : MapV P k e w' b n f := by
 obtain ⟨D, ⟨es, clock, h1, h2⟩, h3⟩ := h
 exact ⟨D, ⟨es, clock, (hb.block b hlt).trans h1, h2⟩, h3⟩
theorem MapV.next (h : MapV P k e w b n f) (hb : Below w.heap.size w w') : MapV P k e w' b n f := h.below hb h.lt
theorem MapV.mono {m : Nat} (h : MapV P k e w b n f) (hm : n ≤ m) : MapV P k e w b m f := by obtain ⟨D, h1, h2⟩ := h; exact ⟨D, h1.mono hm, h2⟩
end
end Go.Cold
namespace Go.Cold
open Go Go.RowKit
structure ElemT (P : Program) (n : Nat) (T TS : TypeId) (bytes : Nat) : Prop where
 sl : P.underlying TS = some (.slice T)
 info : ∃ i z, P.info? T = some i ∧ i.zero = some z ∧ i.size = n ∧ i.bytes = bytes ∧ z.cells.size = n
section
variable {P : Program} {α : Type} [RepS α] {F : Nat → Prop} {w : World} {base bytes : Nat} {T TS : TypeId} {ops : Array Oper} {rest : List Oper} {o : Oper} {a : Act} {Q : Exit → Act → World → Prop}
theorem wpList_app1 (E : ElemT P (Rep.size α) T TS bytes) (hgd : o.guard = none) (s x : Operand) (ho : o.op = .call { callee := .builtin .append, args := #[s, x], argTypes := #[TS, TS] })
  (v : Value) (acc : List α) (hs : a.eval s = v) (h : OwnsS F w base T v acc) (g : Nat) (hx : a.eval x = .slice (some ⟨g, 0, none⟩) 1 1) (y : α) (cs : List Value)
  (hc : ∀ (j : Nat) u, cs[j]? = some u → w.cell? ⟨g, j, none⟩ = some u) (hr : RepS.rdS w (fun b => F b ∧ b < w.heap.size ∧ v.ownBlock ≠ some b) y cs)
  (h1 : acc.length + 1 ≤ maxLen) (h2 : (acc.length + 1) * bytes ≤ 140737488355328) (hb : base ≤ w.heap.size)
  (hK : ∀ v' w', OwnsS F w' base T v' (acc ++ [y]) → w.grownBy w' v.ownBlock → (∀ k, v'.ownBlock = some k → v.ownBlock = some k ∨ w.heap.size ≤ k) → wpList P ops Q rest (a.put o.dst v') w') : wpList P ops Q (o :: rest) a w := by
 obtain ⟨i, z, hi, hz, hs1, hs2, hs3⟩ := E.info
 obtain ⟨css, o1, o2, o3⟩ := h
 refine wpList_append_own_at w hgd s x TS ho base T i z (Rep.size α) bytes E.sl hi hz hs1 hs2 hs3 RepS.pos v acc.length css.flatten hs o1 ⟨g, 0, none⟩ 1 1 cs hx (by rw [RepS.lenS hr, Nat.one_mul]) (fun j u hu => by rw [add_mk, Nat.zero_add]; exact hc j u hu) (RepS.one hr) h1 h2 hb ?_
 intro v' w' hown hg _ hat
 have hnew : ∀ k, v'.ownBlock = some k → v.ownBlock = some k ∨ w.heap.size ≤ k := fun k hk => hat.elim (fun h => .inl (h.symm.trans hk)) (fun h => .inr (by rw [hk] at h; have := Option.some.inj h; omega))
 exact hK v' w' (OwnsS.app o1 o2 o3 hr hown hg hnew) hg hnew
theorem flat_len {α : Type} [RepS α] {w : World} {S : Nat → Prop} : ∀ {ys : List α} {dss : List (List Value)}, dss.length = ys.length → (∀ (i : Nat) (y : α) (cs : List Value), ys[i]? = some y → dss[i]? = some cs → RepS.rdS w S y cs) → dss.flatten.length = ys.length * Rep.size α ∧ ∀ u ∈ dss.flatten, u.oneCell' = true
 | [], [], _, _ => ⟨by simp, by simp⟩
 | [], _ :: _, h, _ => by simp at h
 | _ :: _, [], h, _ => by simp at h
 | y :: ys, d :: dss, h, hr => by
  have h0 := hr 0 y d rfl rfl
  obtain ⟨h1, h2⟩ := flat_len (ys := ys) (dss := dss) (by simpa using h) (fun i y cs hy hcs => hr (i + 1) y cs (by simpa using hy) (by simpa using hcs))
  refine ⟨by rw [List.flatten_cons, List.length_append, h1, RepS.lenS h0, List.length_cons, Nat.succ_mul, Nat.add_comm], fun u hu => ?_⟩
  rw [List.flatten_cons, List.mem_append] at hu
  exact hu.elim (RepS.one h0 u) (h2 u)
theorem SlS.rows {S : Nat → Prop} {A : Option Addr} {c : Nat} {ys : List α} (h : SlS w S A c ys) (h0 : 0 < ys.length) : ∃ b o, A = some ⟨b, o, none⟩ ∧ S b ∧ ∃ dss : List (List Value), dss.length = ys.length ∧ (∀ (i : Nat) (y : α) (cs : List Value), ys[i]? = some y → dss[i]? = some cs → RepS.rdS w S y cs) ∧
  ∀ j u, dss.flatten[j]? = some u → w.cell? ⟨b, o + j, none⟩ = some u := by
 obtain ⟨b, o, e, hb, hc⟩ := h.2.2 h0
 refine ⟨b, o, e, hb, ?_⟩
 clear h h0
 induction ys generalizing o A with
 | nil => exact ⟨[], rfl, by simp, by simp⟩
 | cons y ys ih =>
  obtain ⟨cs, hr, hcs⟩ := hc 0 y rfl
  obtain ⟨dss, h1, h2, h3⟩ := ih (A := some ⟨b, o + Rep.size α, none⟩) (o + Rep.size α) rfl (fun i x hx => by
   obtain ⟨cs, h4, h5⟩ := hc (i + 1) x (by simpa using hx)
   exact ⟨cs, h4, fun j u hu => by have := h5 j u hu; rw [Nat.succ_mul] at this; rw [← this]; congr 2; omega⟩)
  refine ⟨cs :: dss, by simp [h1], fun i x ds hx hds => ?_, fun j u hu => ?_⟩
  ·
   cases i with
   | zero => simp at hx hds; subst hx; subst hds; exact hr
   | succ i => exact h2 i x ds (by simpa using hx) (by simpa using hds)
  ·
   rw [List.flatten_cons] at hu
   by_cases hj : j < cs.length
   ·
    rw [List.getElem?_append_left hj] at hu
    have := hcs j u hu
    rw [Nat.zero_mul, Nat.zero_add] at this; exact this
   ·
    rw [List.getElem?_append_right (by omega)] at hu
    have := h3 _ u hu
    rw [RepS.lenS hr] at this hj
    rw [← this]; congr 2; omega
theorem run_appL (E : ElemT P (Rep.size α) T TS bytes) (ty : TypeId) (v : Value) (acc : List α) (h : OwnsS F w base T v acc) (A : Option Addr) (c : Nat) (ys : List α)
  (hy : SlS w (fun b => F b ∧ b < w.heap.size ∧ v.ownBlock ≠ some b) A c ys ∨ ys = []) (h1 : acc.length + ys.length ≤ maxLen) (h2 : (acc.length + ys.length) * bytes ≤ 140737488355328) (hb : base ≤ w.heap.size) :
  ∃ v' w', (Builtin.append_ #[TS, TS] ty #[v, .slice A ys.length c]).run P w = .ok v' w' ∧ OwnsS F w' base T v' (acc ++ ys) ∧ w.grownBy w' v.ownBlock ∧ (∀ k, v'.ownBlock = some k → v.ownBlock = some k ∨ w.heap.size ≤ k) := by
 obtain ⟨i, z, hi, hz, hs1, hs2, hs3⟩ := E.info
 obtain ⟨css, o1, o2, o3⟩ := h
 rcases A with _ | A
 ·
  have h0 : ys = [] := by
   rcases hy with hy | hy
   ·
    rcases ys with _ | ⟨y, r⟩
    · rfl
    ·
     obtain ⟨b, o, e, _⟩ := hy.2.2 (by simp)
     cases e
   · exact hy
  subst h0
  refine ⟨v, w, ?_, by rw [List.append_nil]; exact ⟨css, o1, o2, o3⟩, ⟨rfl, rfl, rfl, Nat.le_refl _, fun _ _ _ => rfl⟩, fun k hk => .inl hk⟩
  rcases o1.2 with ⟨rfl, hn⟩ | ⟨g, cap, cur, rfl, _, _, hnc, _⟩
  · simp [Builtin.append_, run_underlying E.sl, sizeOf, typeInfo, hi, Builtin.lenOf, Builtin.firstCells]
  · simp [Builtin.append_, run_underlying E.sl, sizeOf, typeInfo, hi, Builtin.lenOf, Builtin.firstCells, hnc, storeCells]
 ·
  obtain ⟨dss, d1, d2, d3⟩ : ∃ dss : List (List Value), dss.length = ys.length ∧ (∀ (i : Nat) (y : α) (cs : List Value), ys[i]? = some y → dss[i]? = some cs → RepS.rdS w (fun b => F b ∧ b < w.heap.size ∧ v.ownBlock ≠ some b) y cs) ∧ ∀ j u, dss.flatten[j]? = some u → w.cell? (A.add j) = some u := by
   rcases hy with hy | rfl
   ·
    rcases ys with _ | ⟨y, r⟩
    · exact ⟨[], rfl, by simp, by simp⟩
    ·
     obtain ⟨b, o, e, _, dss, d1, d2, d3⟩ := hy.rows (by simp)
     obtain rfl := Option.some.inj e
     exact ⟨dss, d1, d2, fun j u hu => by rw [add_mk]; exact d3 j u hu⟩
   · exact ⟨[], rfl, by simp, by simp⟩
  obtain ⟨f1, f2⟩ := flat_len d1 d2
  obtain ⟨v', w', hr, hown, hg, _, hat⟩ := run_append_own_at (P := P) w base TS ty T i z (Rep.size α) bytes E.sl hi hz hs1 hs2 hs3 RepS.pos v acc.length css.flatten o1 A ys.length c dss.flatten f1 d3 f2 h1 h2 hb
  have hnew : ∀ k, v'.ownBlock = some k → v.ownBlock = some k ∨ w.heap.size ≤ k := fun k hk => hat.elim (fun h => .inl (h.symm.trans hk)) (fun h => .inr (by rw [hk] at h; have := Option.some.inj h; omega))
  exact ⟨v', w', hr, OwnsS.appL o1 o2 o3 d1 d2 hown hg hnew, hg, hnew⟩
theorem run_app1 (E : ElemT P (Rep.size α) T TS bytes) (ty : TypeId) (v : Value) (acc : List α) (h : OwnsS F w base T v acc) (g : Nat) (y : α) (cs : List Value)
  (hc : ∀ (j : Nat) u, cs[j]? = some u → w.cell? ⟨g, j, none⟩ = some u) (hr : RepS.rdS w (fun b => F b ∧ b < w.heap.size ∧ v.ownBlock ≠ some b) y cs)
  (h1 : acc.length + 1 ≤ maxLen) (h2 : (acc.length + 1) * bytes ≤ 140737488355328) (hb : base ≤ w.heap.size) :
  ∃ v' w', (Builtin.append_ #[TS, TS] ty #[v, .slice (some ⟨g, 0, none⟩) 1 1]).run P w = .ok v' w' ∧ OwnsS F w' base T v' (acc ++ [y]) ∧ w.grownBy w' v.ownBlock ∧ (∀ k, v'.ownBlock = some k → v.ownBlock = some k ∨ w.heap.size ≤ k) := by
 obtain ⟨i, z, hi, hz, hs1, hs2, hs3⟩ := E.info
 obtain ⟨css, o1, o2, o3⟩ := h
 obtain ⟨v', w', hr', hown, hg, _, hat⟩ := run_append_own_at (P := P) w base TS ty T i z (Rep.size α) bytes E.sl hi hz hs1 hs2 hs3 RepS.pos v acc.length css.flatten o1 ⟨g, 0, none⟩ 1 1 cs (by rw [RepS.lenS hr, Nat.one_mul]) (fun j u hu => by rw [add_mk, Nat.zero_add]; exact hc j u hu) (RepS.one hr) h1 h2 hb
 have hnew : ∀ k, v'.ownBlock = some k → v.ownBlock = some k ∨ w.heap.size ≤ k := fun k hk => hat.elim (fun h => .inl (h.symm.trans hk)) (fun h => .inr (by rw [hk] at h; have := Option.some.inj h; omega))
 exact ⟨v', w', hr', OwnsS.app o1 o2 o3 hr hown hg hnew, hg, hnew⟩
theorem step_app {K : Act → World → Prop} {Z : Prop} (hgd : o.guard = none) (s x : Operand) (ho : o.op = .call { callee := .builtin .append, args := #[s, x], argTypes := #[TS, TS] }) (v u : Value) (hs : a.eval s = v) (hx : a.eval x = u)
  {R : Value → World → Prop} (hrun : ∃ v' w', (Builtin.append_ #[TS, TS] o.type #[v, u]).run P w = .ok v' w' ∧ R v' w') (hK : ∀ v' w', R v' w' → K (a.put o.dst v') w') :
  if Region.wanted o (yielded ops a.tmps) = true then Oper.wp P o a w K Q else Z := by
 have hw : Region.wanted o (yielded ops a.tmps) = true := by simp [Region.wanted, hgd]
 rw [if_pos hw]
 obtain ⟨v', w', hr, hR⟩ := hrun
 unfold Oper.wp execOp
 simp only [ho, resolve, invoke, builtin, Sem.run_bind, Sem.run_pure, Result.andThen_ok, List.map_toArray, List.map_cons, List.map_nil, hs, hx, hr]
 exact hK _ _ hR
theorem wpList_app {R : Value → World → Prop} (hgd : o.guard = none) (s x : Operand) (ho : o.op = .call { callee := .builtin .append, args := #[s, x], argTypes := #[TS, TS] }) (v u : Value) (hs : a.eval s = v) (hx : a.eval x = u)
  (hrun : ∃ v' w', (Builtin.append_ #[TS, TS] o.type #[v, u]).run P w = .ok v' w' ∧ R v' w') (hK : ∀ v' w', R v' w' → wpList P ops Q rest (a.put o.dst v') w') : wpList P ops Q (o :: rest) a w := by
 refine wpList_plain hgd fun K hK' => ?_
 obtain ⟨v', w', hr, hR⟩ := hrun
 unfold Oper.wp execOp
 simp only [ho, resolve, invoke, builtin, Sem.run_bind, Sem.run_pure, Result.andThen_ok, List.map_toArray, List.map_cons, List.map_nil, hs, hx, hr]
 exact hK' _ _ (hK _ _ hR)
end
theorem lit_cells {w w' : World} {T : TypeId} {cs : Array Value} {l : List Value} (h : w.alloc (.cells cs T) = w') (hl : l = cs.toList) : ∀ (j : Nat) u, l[j]? = some u → w'.cell? ⟨w.heap.size, j, none⟩ = some u := by
 subst hl
 exact (box_mk h).1
theorem ownsRow_low {w : World} {base base' n size : Nat} {T : TypeId} {v : Value} {xs : List Value} (h : w.ownsRow base T size v n xs) (hb : base' ≤ base) : w.ownsRow base' T size v n xs := by
 obtain ⟨h1, h2⟩ := h
 refine ⟨h1, ?_⟩
 rcases h2 with h2 | ⟨g, cap, cur, e, hg, h3⟩
 · exact .inl h2
 · exact .inr ⟨g, cap, cur, e, Nat.le_trans hb hg, h3⟩
theorem OwnsS.low {α : Type} [RepS α] {F : Nat → Prop} {w : World} {base base' : Nat} {T : TypeId} {v : Value} {xs : List α} (h : OwnsS F w base T v xs) (hb : base' ≤ base) : OwnsS F w base' T v xs := by
 obtain ⟨css, h1, h2⟩ := h
 exact ⟨css, ownsRow_low h1 hb, h2⟩
theorem below_own {B : Nat} {a w w' : World} {v : Value} (h : Below B a w) (hg : w.grownBy w' v.ownBlock) (hB : B ≤ w.heap.size) (hv : ∀ k, v.ownBlock = some k → B ≤ k) : Below B a w' := h.grown hg hB hv
end Go.Cold
namespace Go.Cold
open Go Go.RowKit
def foldI (v n : Int) : Int := if n ≤ 1 then 0 else if v.tmod n < 0 then v.tmod n + n else v.tmod n
theorem foldI_range {v n : Int} (h : 1 < n) : 0 ≤ foldI v n ∧ foldI v n < n := by
 unfold foldI
 rw [if_neg (by omega)]
 have h1 := Int.tmod_lt_of_pos v (show 0 < n by omega)
 have h2 : -n < v.tmod n := by
  have := Int.lt_tmod_of_pos v (show 0 < n by omega)
  exact this
 split <;> omega
def TapeAt (w : World) (B b : Nat) (xs : List Int) (k : Nat) : Prop := ∃ A c, w.cell? ⟨b, 0, none⟩ = some (.slice A xs.length c) ∧ w.cell? ⟨b, 1, none⟩ = some (.int .i64 k) ∧
 (∀ j, w.frozen? ⟨b, j, none⟩ = false) ∧ Sl w B A c xs ∧ B ≤ b ∧ b < w.heap.size
def tapeI (xs : List Int) (k : Nat) : Int := match xs[k]? with
 | some v => v
 | none => ((k : Int) * 7).tmod 11
end Go.Cold
namespace Go.Proofs.YtjpoljlgkgmdkaaGreatDoor
open Go.RowKit Go.Cold

theorem Fold_any (v n : Int) (w : World) (hv : okI v) (hn : okI n) : Calls Tryz.prog 33 #[.int .i64 v, .int .i64 n] w fun e w' => e = .returned (.int .i64 (foldI v n)) ∧ w = w' := by
 unfold okI at hv hn
 by_cases h1 : n ≤ 1
 ·
  go_enter Tryz.func33, Tryz.ntmps33
  go_wp2
  go_ret
  exact ⟨ret_int (by rw [foldI, if_pos h1]), rfl⟩
 ·
  have h2 : ¬ n = 0 := by omega
  have hlt := Int.tmod_lt_of_pos v (show 0 < n by omega)
  have hgt := Int.lt_tmod_of_pos v (show 0 < n by omega)
  have hnn : ¬ n = -1 := by omega
  have hf : foldI v n = if v.tmod n < 0 then v.tmod n + n else v.tmod n := by rw [foldI, if_neg h1]
  have HF := Lib.hid hf; clear hf
  by_cases h3 : v.tmod n < 0
  ·
   go_enter Tryz.func33, Tryz.ntmps33
   go_wp2
   go_ret
   exact ⟨ret_int (by rw [HF.out, if_pos h3]), rfl⟩
  ·
   go_enter Tryz.func33, Tryz.ntmps33
   go_wp2
   go_ret
   exact ⟨ret_int (by rw [HF.out, if_neg (by omega)]), rfl⟩

theorem set_at (w : World) (a : Addr) (v : Value) (h : (w.cell? a).isSome) : (w.setCell a v).cell? a = some v := World.cell?_setCell_same' w a v h
theorem tape_next {w : World} {B b c k : Nat} {A : Option Addr} {xs : List Int} (nq : Nat) (h0 : w.cell? ⟨b, 0, none⟩ = some (.slice A xs.length c)) (h1 : w.cell? ⟨b, 1, none⟩ = some (.int .i64 k))
  (hfr : ∀ j, w.frozen? ⟨b, j, none⟩ = false) (hsl : Sl w B A c xs) (hB : B ≤ b) (hlt : b < w.heap.size) : TapeAt ((w.setCell ⟨b, 1, none⟩ (.int .i64 ((k : Int) + 1))).drewN nq) B b xs (k + 1) := by
 have hb : Below B w ((w.setCell ⟨b, 1, none⟩ (.int .i64 ((k : Int) + 1))).drewN nq) := below_drewN ((Below.refl _ _).setCell hB _) nq
 refine ⟨A, c, ?_, ?_, fun j => ?_, hsl.keep hb, hB, by simpa using hlt⟩
 · exact (World.cell?_setCell_other w ⟨b, 1, none⟩ ⟨b, 0, none⟩ _ (fun e => by injection e with _ e; cases e)).trans h0
 · exact (set_at w _ _ (by rw [h1]; rfl)).trans (by simp)
 · exact (World.frozen?_setCell w _ _ _).trans (hfr j)
theorem grown_next {w : World} {b : Nat} {v : Value} (nq : Nat) (_hlt : b < w.heap.size) : w.grownBy ((w.setCell ⟨b, 1, none⟩ v).drewN nq) (some b) := by
 refine ⟨rfl, rfl, rfl, by simp, fun k hk hne => ?_⟩
 have hne' : ¬ k = b := fun e => hne (by rw [e])
 exact Below.heap_setCell _ _ _ _ (by show ¬ _ ; simp; omega)
theorem tape_step {w : World} {B b c k : Nat} {A : Option Addr} {xs : List Int} (nq : Nat) (h0 : w.cell? ⟨b, 0, none⟩ = some (.slice A xs.length c)) (h1 : w.cell? ⟨b, 1, none⟩ = some (.int .i64 k))
  (hfr : ∀ j, w.frozen? ⟨b, j, none⟩ = false) (hsl : Sl w B A c xs) (hB : B ≤ b) (hlt : b < w.heap.size) : TapeAt ((w.setCell ⟨b, 1, none⟩ (.int .i64 ((k : Int) + 1))).drewN nq) B b xs (k + 1) ∧ w.grownBy ((w.setCell ⟨b, 1, none⟩ (.int .i64 ((k : Int) + 1))).drewN nq) (some b) :=
 ⟨tape_next nq h0 h1 hfr hsl hB hlt, grown_next nq hlt⟩
def NextPost (xs : List Int) (k : Nat) (B b : Nat) (n : Int) (w : World) (e : Ending) (w' : World) : Prop := e = .returned (.int .i64 (foldI (tapeI xs k) n)) ∧ TapeAt w' B b xs (k + 1) ∧ w.grownBy w' (some b)
set_option maxRecDepth 10000 in
theorem Next_any (xs : List Int) (k B b : Nat) (n : Int) (w : World) (hn : okI n) (hk : k ≤ 2 ^ 40) (ht : TapeAt w B b xs k) : Calls Tryz.prog 12 #[.pointer (some ⟨b, 0, none⟩), .int .i64 n] w (NextPost xs k B b n w) := by
 obtain ⟨A, c, h0, h1, hfr, hsl, hB, hlt⟩ := ht
 have hx1 := hsl.1; have hx2 := hsl.2.1
 unfold maxLen at hx2
 have HSL := Lib.hid hsl; clear hsl
 by_cases hin : k < xs.length
 ·
  obtain ⟨b3, o3, rfl, hb3, cx, hr⟩ := HSL.out.int hin
  have hv : tapeI xs k = xs[k] := by unfold tapeI; rw [List.getElem?_eq_getElem hin]
  obtain ⟨v, hvv⟩ : ∃ v, xs[k] = v := ⟨_, rfl⟩
  rw [hvv] at cx hr hv
  have HV := Lib.hid hv; clear hv hvv
  have i1 : (k : Int) < (xs.length : Int) := by omega
  have hok : okI v := by unfold okI; omega
  go_enter Tryz.func12, Tryz.ntmps12
  go_wp2_with fail
  go_quiet (fail)
  go_wp2_with fail
  go_quiet (fail)
  go_wp2_with fail
  refine (Fold_any v n _ hok hn).mono ?_; rintro e w' ⟨rfl, rfl⟩
  obtain ⟨z, hz⟩ : ∃ z, foldI v n = z := ⟨_, rfl⟩
  rw [hz]
  have HZ := Lib.hid hz; clear hz
  go_wp2
  go_ret
  exact ⟨ret_int (by rw [HV.out, HZ.out]), tape_step _ h0 h1 hfr HSL.out hB hlt⟩
 ·
  have hv : tapeI xs k = ((k : Int) * 7) % 11 := by
   unfold tapeI
   rw [List.getElem?_eq_none (by omega)]
   show ((k : Int) * 7).tmod 11 = _
   rw [Int.tmod_eq_emod_of_nonneg (by omega)]
  have HV := Lib.hid hv; clear hv
  have i1 : ¬ (k : Int) < (xs.length : Int) := by omega
  have hok : okI (((k : Int) * 7) % 11) := by unfold okI; omega
  go_enter Tryz.func12, Tryz.ntmps12
  go_wp2_with fail
  go_quiet (fail)
  go_wp2_with fail
  refine (Fold_any _ n _ hok hn).mono ?_; rintro e w' ⟨rfl, rfl⟩
  obtain ⟨z, hz⟩ : ∃ z, foldI (((k : Int) * 7) % 11) n = z := ⟨_, rfl⟩
  rw [hz]
  have HZ := Lib.hid hz; clear hz
  go_wp2
  go_ret
  exact ⟨ret_int (by rw [HV.out, HZ.out]), tape_step _ h0 h1 hfr HSL.out hB hlt⟩

def OnePost (xs : List Int) (k B b : Nat) (ys : List ByteArray) (w : World) (e : Ending) (w' : World) : Prop := e = .returned (.string (ys.getD (foldI (tapeI xs k) ys.length).toNat ⟨#[]⟩)) ∧ TapeAt w' B b xs (k + 1) ∧ w.grownBy w' (some b)
set_option maxRecDepth 10000 in
theorem One_any (xs : List Int) (k B b : Nat) (ys : List ByteArray) (b2 o2 c2 : Nat) (w : World) (hk : k ≤ 2 ^ 40) (ht : TapeAt w B b xs k) (h0 : 1 < ys.length) (hy : ys.length ≤ 100) (hc : ys.length ≤ c2) (hc2 : c2 ≤ maxLen) (hne : ¬ b2 = b)
  (hcell : ∀ (i : Nat) y, ys[i]? = some y → w.cell? ⟨b2, o2 + i, none⟩ = some (.string y)) :
  Calls Tryz.prog 13 #[.pointer (some ⟨b, 0, none⟩), .slice (some ⟨b2, o2, none⟩) ys.length c2] w (OnePost xs k B b ys w) := by
 have hf := @foldI_range (tapeI xs k) ys.length (by omega)
 have hz : ((ys.length : Int) == 0) = false := by simp; rintro rfl; simp at h0
 have hcall := Next_any xs k B b ys.length w (by unfold okI; omega) hk ht
 have HCALL := Lib.hid hcall; clear hcall ht
 have HCELL := Lib.hid hcell; clear hcell
 unfold maxLen at hc2
 go_enter Tryz.func13, Tryz.ntmps13
 go_wp2_with fail
 refine HCALL.out.mono ?_
 rintro e w1 ⟨rfl, htape, hg⟩
 obtain ⟨m, hm⟩ := Int.eq_ofNat_of_zero_le hf.1
 have hml : m < ys.length := by omega
 have hget : ys[m]? = some ys[m] := List.getElem?_eq_getElem hml
 have hD : ys.getD (foldI (tapeI xs k) ys.length).toNat ⟨#[]⟩ = ys[m] := by rw [hm, List.getD_eq_getElem?_getD, Int.toNat_natCast, hget]; rfl
 have hc1 := hg.cell (HCELL.out m ys[m] hget) (fun e => hne (Option.some.inj e))
 rw [hm] at hf ⊢
 obtain ⟨y, hyy⟩ : ∃ y, ys[m] = y := ⟨_, rfl⟩
 rw [hyy] at hc1 hD
 have HD := Lib.hid hD; clear hD hget hyy hm
 have HT := Lib.hid htape; have HG := Lib.hid hg; clear htape hg
 have i1 : (m : Int) < (ys.length : Int) := by omega
 go_wp2
 go_ret
 exact ⟨ret_str (by rw [HD.out]), HT.out, HG.out⟩
end Go.Proofs.YtjpoljlgkgmdkaaGreatDoor
namespace Go.Cold
open Go Go.RowKit
theorem TapeAt.kept {w w' : World} {B b k : Nat} {xs : List Int} {row : Option Nat} (h : TapeAt w B b xs k) (hg : w.grownBy w' row) (hne : some b ≠ row) (hB : ∀ g, row = some g → B ≤ g) : TapeAt w' B b xs k := by
 obtain ⟨A, c, h0, h1, hf, hsl, hBb, hlt⟩ := h
 have hh := hg.block b hlt hne
 have hbl : Below B w w' := (Below.refl B w).grown hg (by omega) hB
 exact ⟨A, c, (cell_heap hh 0).trans h0, (cell_heap hh 1).trans h1, fun j => (frozen_heap hh j).trans (hf j), hsl.keep hbl, hBb, Nat.lt_of_lt_of_le hlt hg.size⟩
theorem TapeAt.set_ {w : World} {B b k g j : Nat} {xs : List Int} (h : TapeAt w B b xs k) (hne : g ≠ b) (hB : B ≤ g) (v : Value) : TapeAt (w.setCell ⟨g, j, none⟩ v) B b xs k := by
 obtain ⟨A, c, h0, h1, hf, hsl, hBb, hlt⟩ := h
 exact ⟨A, c, (cell_set_far w ⟨g, j, none⟩ v b 0 hne).trans h0, (cell_set_far w ⟨g, j, none⟩ v b 1 hne).trans h1, fun i => (World.frozen?_setCell w _ _ _).trans (hf i), hsl.keep ((Below.refl _ _).setCell (by exact hB) _), hBb, by simpa using hlt⟩
theorem foldI_pos {v n : Int} (h : 1 ≤ n) : 0 ≤ foldI v n ∧ foldI v n < n := by
 by_cases h1 : 1 < n
 · exact foldI_range h1
 · unfold foldI; rw [if_pos (by omega)]; omega
end Go.Cold
