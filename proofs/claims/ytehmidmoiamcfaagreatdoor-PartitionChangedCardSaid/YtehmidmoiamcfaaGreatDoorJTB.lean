/-
  The walk of partition.Wants.
-/
import Derived.Test.YtehmidmoiamcfaaGreatDoorJSO
import Derived.Test.YtehmidmoiamcfaaGreatDoorJRG
import Derived.Test.YtehmidmoiamcfaaGreatDoorJRF
import Derived.Deep.RegionHeld3
import Derived.OrdersIn
import Derived.OwnWalkIn
import Derived.OrdersHeld
import Derived.Deep.RegionHeld
import Derived.Test.YtehmidmoiamcfaaGreatDoorJH
import Derived.Maps.OwnIn
set_option linter.unusedSimpArgs false
set_option linter.unusedVariables false
namespace Go.Cold
open Go Go.RowKit
/-- What a device wants. -/
noncomputable def wantsD (d : Dev) (origin : ByteArray) (round : Int) : List Virt := if d.kind = 2 then wantsV d.orig origin round (innerG ((getA d.attrs ⟨#[99, 111, 110, 116, 101, 110, 116]⟩).getD ByteArray.empty) 5) else []
/-- What the closure adds. -/
def wantOne (o origin : ByteArray) (round : Int) (k : Int) (s : ByteArray) : List Virt := if ptOk o k then [⟨origin, ptName o k, s, round⟩] else []
theorem attr_sizes {w : World} {B c : Nat} {A : Option Addr} {xs : List Attr} (h : Sl w B A c xs) : ∀ a ∈ xs, a.value.size ≤ maxLen := fun a ha => by
  obtain ⟨i, hi, rfl⟩ := List.getElem_of_mem ha
  obtain ⟨b, o, e, hlt, h1, _⟩ := h.attr hi
  exact h1.2
/-- Where Wants stands: the device's box gd, the boxes of origin go and round gr, the list's gl; acc is gathered. -/
def WaSt (w0 : World) (gd go gr gl base : Nat) (T : TypeId) (dc : List Value) (origin : ByteArray) (round : Int) (A : Option Addr) (c : Nat) (inner : List ByteArray) (acc : List Virt) (w : World) : Prop :=
  Below w0.heap.size w0 w ∧ BoxL w gd dc ∧ BoxL w go [.string origin] ∧ BoxL w gr [.int .i64 round] ∧ SlS w (fun x => x < base ∧ x ≠ gl) A c inner ∧ (∃ v, BoxL w gl [v] ∧ OwnsS (fun _ => False) w base T v acc) ∧
    (w0.heap.size ≤ gl ∧ gl < base ∧ base ≤ w.heap.size) ∧ (gd ≠ gl ∧ go ≠ gl ∧ gr ≠ gl) ∧ gd < base ∧ go < base ∧ gr < base
section
variable {w0 w w' : World} {gd go gr gl base : Nat} {T : TypeId} {dc : List Value} {origin : ByteArray} {round : Int} {A : Option Addr} {c : Nat} {inner : List ByteArray} {acc : List Virt}
theorem WaSt.below (h : WaSt w0 gd go gr gl base T dc origin round A c inner acc w) (hb : Below w.heap.size w w') : WaSt w0 gd go gr gl base T dc origin round A c inner acc w' := by
  obtain ⟨h1, h2, h3, h4, h5, ⟨v, h6, h7⟩, ⟨h8, h9, h10⟩, h11, h12⟩ := h
  have hg := grown_none hb
  exact ⟨h1.trans (hb.mono h1.size), h2.kept hg (fun e => by cases e), h3.kept hg (fun e => by cases e), h4.kept hg (fun e => by cases e), h5.below hb (fun x hx => by omega), ⟨v, h6.kept hg (fun e => by cases e), h7.below hb⟩, ⟨h8, h9, by have := hb.size; omega⟩, h11, h12⟩
/-- One more is gathered: the row grew, its value is stored. -/
theorem WaSt.put {v v' : Value} {y : Virt} (h1 : Below w0.heap.size w0 w) (h2 : BoxL w gd dc) (h3 : BoxL w go [.string origin]) (h4 : BoxL w gr [.int .i64 round]) (h5 : SlS w (fun x => x < base ∧ x ≠ gl) A c inner) (h6 : BoxL w gl [v]) (h7 : OwnsS (fun _ => False) w base T v acc)
    (h8 : w0.heap.size ≤ gl ∧ gl < base ∧ base ≤ w.heap.size) (h11 : gd ≠ gl ∧ go ≠ gl ∧ gr ≠ gl) (h12 : gd < base ∧ go < base ∧ gr < base) (hown : OwnsS (fun _ => False) w' base T v' (acc ++ [y])) (hg : w.grownBy w' v.ownBlock) :
    WaSt w0 gd go gr gl base T dc origin round A c inner (acc ++ [y]) (w'.setCell ⟨gl, 0, none⟩ v') := by
  have hlt := h7.lt
  have hne : ∀ g, g < base → some g ≠ v.ownBlock := fun g hg e => by have := (hlt g e.symm).1; omega
  have hsl : SlS w' (fun x => x < base ∧ x ≠ gl) A c inner := h5.mono (fun _ h => h) (fun b o u hb hu => hg.cell hu (hne b hb.1))
  have hown' : OwnsS (fun _ => False) (w'.setCell ⟨gl, 0, none⟩ v') base T v' (acc ++ [y]) := hown.grownb (grown_one _ _ _ _) (fun _ h => h.elim) h8.2.1
  refine ⟨(h1.grown hg (by omega) (fun q hq => by have := (hlt q hq).1; omega)).setCell (by exact h8.1) _, (h2.kept hg (hne _ h12.1)).far (fun e => h11.1 e.symm) _, (h3.kept hg (hne _ h12.2.1)).far (fun e => h11.2.1 e.symm) _, (h4.kept hg (hne _ h12.2.2)).far (fun e => h11.2.2 e.symm) _, hsl.set_ (fun x hx => hx.2) _, ⟨v', ?_, hown'⟩, ⟨h8.1, h8.2.1, by have := hg.size; simp; omega⟩, h11, h12⟩
  exact (h6.kept hg (hne _ h8.2.1)).set_ (j := 0) (by simp) v'
end
end Go.Cold
namespace Go.Proofs.YtehmidmoiamcfaaGreatDoor
open Go.RowKit Go.Cold
theorem info_virt : (Tryz.prog.info? 46).map (fun i => (i.zero, i.size, i.bytes)) = some (some (.agg #[.string ByteArray.empty, .string ByteArray.empty, .string ByteArray.empty, .int .i64 0]), 4, 56) := by kernel_rfl
theorem E_virt : ElemT Tryz.prog (Rep.size Virt) 46 39 56 := ⟨Tryz.underlying39, by obtain ⟨i, hi, hz, h1, h2⟩ := info_parts info_virt; exact ⟨i, _, hi, hz, h1, h2, rfl⟩⟩
def devC (d : Dev) (A : Option Addr) (c : Nat) : List Value := [.int .i64 d.idx, .int .i64 d.par, .string d.nm, .string d.orig, .string d.sub, .string d.drv, .string d.ali, .int .i64 d.kind, .int .i64 d.num, .slice A d.attrs.length c]
abbrev WaT (w0 : World) (gd go gr gl base : Nat) (d : Dev) (A3 : Option Addr) (c3 : Nat) (origin : ByteArray) (round : Int) (A : Option Addr) (c : Nat) (inner : List ByteArray) (acc : List Virt) (w : World) : Prop :=
  WaSt w0 gd go gr gl base 46 (devC d A3 c3) origin round A c inner acc w
set_option maxRecDepth 100000 in
set_option maxHeartbeats 4000000 in
/-- The closure of partition.Wants. -/
theorem Wants1_any (w0 : World) (gd go gr gl base : Nat) (d : Dev) (A3 : Option Addr) (c3 : Nat) (origin : ByteArray) (round : Int) (A : Option Addr) (c : Nat) (inner : List ByteArray) (acc : List Virt) (k : Int) (s : ByteArray) (w : World)
    (h : WaT w0 gd go gr gl base d A3 c3 origin round A c inner acc w) (hok : Ok7 w) (hk : okI k) (hd : d.orig.size ≤ maxLen - 30) (ho : origin.size ≤ maxLen) (hr : okI round) (hs : s.size ≤ maxLen) (ha : acc.length ≤ 16) :
    Calls Tryz.prog 43 #[.int .i64 k, .string s, .pointer (some ⟨gd, 0, none⟩), .pointer (some ⟨gl, 0, none⟩), .pointer (some ⟨go, 0, none⟩), .pointer (some ⟨gr, 0, none⟩)] w
      fun e w' => e = .returned (.tuple #[]) ∧ WaT w0 gd go gr gl base d A3 c3 origin round A c inner (acc ++ wantOne d.orig origin round k s) w' := by
  have hnm := ptName_size (o := d.orig) hk
  have HOK := Lib.hid hok; have HH := Lib.hid h; have HV := Lib.hid (show virtOk ⟨origin, ptName d.orig k, s, round⟩ from ⟨ho, by show (ptName d.orig k).size ≤ maxLen; unfold maxLen at *; omega, hs, hr⟩); have HA := Lib.hid ha
  have HK := Lib.hid hk; have HD := Lib.hid hd
  obtain ⟨v0, hv0, -⟩ := h.2.2.2.2.2.1
  have x3 := h.2.1.1 3 _ rfl
  clear h hok hnm hd ho hr hs ha hv0
  go_enter Tryz.func43, Tryz.ntmps43
  go_wp2_with fail
  refine (PName_any d.orig k _ HOK.out HK.out HD.out).mono ?_
  rintro e w1 ⟨rfl, hb1⟩
  have HH1 := Lib.hid (HH.out.below hb1)
  clear hb1 x3
  obtain ⟨q, hq⟩ : ∃ q, ptOk d.orig k = q := ⟨_, rfl⟩
  have HQ := Lib.hid hq
  cases q
  · obtain ⟨n1, n2⟩ := ptNo (o := d.orig) (k := k) hq
    rw [n1, n2]
    clear n1 n2 hq
    go_wp2
    go_end0
    exact ⟨rfl, by unfold wantOne; rw [if_neg (by rw [HQ.out]; exact Bool.false_ne_true), List.append_nil]; exact HH1.out⟩
  · obtain ⟨n1, n2⟩ := ptYes (o := d.orig) (k := k) hq
    rw [n1, n2]
    clear n1 n2 hq
    obtain ⟨nm, hnm⟩ : ∃ nm, ptName d.orig k = nm := ⟨_, rfl⟩
    rw [hnm] at HV ⊢
    have HNM := Lib.hid hnm
    clear hnm
    obtain ⟨v, hvb, hvo⟩ := HH1.out.2.2.2.2.2.1
    obtain ⟨w2, hw2⟩ : ∃ w2, w1.alloc (.cells #[.string origin, .string nm, .string s, .int .i64 round] 46) = w2 := ⟨_, rfl⟩
    have hb2 : Below w1.heap.size w1 w2 := by rw [← hw2]; exact (Below.refl _ _).alloc (Nat.le_refl _) _
    have HCT := Lib.hid (lit_cells hw2 (l := [.string origin, .string nm, .string s, .int .i64 round]) rfl)
    have HH2 := Lib.hid (HH1.out.below hb2)
    have HVB2 := Lib.hid (hvb.kept (grown_none hb2) (fun e => by cases e)); have HVO2 := Lib.hid (hvo.below hb2)
    have HBS := Lib.hid (show base ≤ w2.heap.size from HH2.out.2.2.2.2.2.2.1.2.2)
    have y0 := hvb.1 0 _ rfl
    have yo := HH1.out.2.2.1.1 0 _ rfl
    have yr := HH1.out.2.2.2.1.1 0 _ rfl
    obtain ⟨Av, cv, rfl, -⟩ := hvo.cs
    have z0 := HVB2.out.1 0 _ rfl
    have zf := HVB2.out.2.1
    clear hb2 hvb hvo
    go_wp2_with (at_builtin; go_must (refine wpList_app1 E_virt rfl _ _ rfl _ _ rfl HVO2.out w1.heap.size rfl ⟨origin, nm, s, round⟩ [.string origin, .string nm, .string s, .int .i64 round] HCT.out ⟨rfl, HV.out⟩ (by have := HA.out; unfold maxLen; omega) (by have := HA.out; omega) HBS.out ?_); intro v' w3 hown_ hgrow_ hnew_; obtain ⟨A9, c9, rfl, -⟩ := hown_.cs; have HOWN := Lib.hid hown_; have HGROW := Lib.hid hgrow_; have f0 := (HVB2.out.kept hgrow_ (fun e => by have := (HVO2.out.lt _ e.symm).1; have := HH2.out.2.2.2.2.2.2.1; omega)).1 0 _ rfl; have f1 := (HVB2.out.kept hgrow_ (fun e => by have := (HVO2.out.lt _ e.symm).1; have := HH2.out.2.2.2.2.2.2.1; omega)).2.1; clear hown_ hgrow_ hnew_ z0 zf)
    try go_wp2
    go_end0
    have hh := HH2.out
    have how := HOWN.out
    rw [List.length_append, List.length_singleton] at how
    unfold wantOne
    rw [if_pos HQ.out, HNM.out]
    exact ⟨rfl, WaSt.put hh.1 hh.2.1 hh.2.2.1 hh.2.2.2.1 hh.2.2.2.2.1 HVB2.out HVO2.out hh.2.2.2.2.2.2.1 hh.2.2.2.2.2.2.2.1 hh.2.2.2.2.2.2.2.2 how HGROW.out⟩
def WantsPost (d : Dev) (origin : ByteArray) (round : Int) (w : World) (e : Ending) (w' : World) : Prop := Below w.heap.size w w' ∧ ∃ v, e = .returned v ∧ OwnsS (fun _ => False) w' w.heap.size 46 v (wantsD d origin round)
set_option maxRecDepth 100000 in
set_option maxHeartbeats 4000000 in
/-- partition.Wants. -/
theorem Wants_any (A : Option Addr) (c : Nat) (d : Dev) (origin : ByteArray) (round : Int) (w : World) (B : Nat) (hB : B ≤ w.heap.size) (hx : Sl w B A c d.attrs) (hok : Ok7 w) (hd : d.orig.size ≤ maxLen - 30) (ho : origin.size ≤ maxLen) (hr : okI round) :
    Calls Tryz.prog 18 #[.agg #[.int .i64 d.idx, .int .i64 d.par, .string d.nm, .string d.orig, .string d.sub, .string d.drv, .string d.ali, .int .i64 d.kind, .int .i64 d.num, .slice A d.attrs.length c], .string origin, .int .i64 round] w (WantsPost d origin round w) := by
  have hsz := getA_size (n := ⟨#[99, 111, 110, 116, 101, 110, 116]⟩) (attr_sizes hx)
  have hen := enters_of Tryz.func43 (by kernel_rfl) rfl
  have HX := Lib.hid hx; have HB := Lib.hid hB; have HOK := Lib.hid hok; have HD := Lib.hid hd; have HO := Lib.hid ho; have HR := Lib.hid hr; have HSZ := Lib.hid hsz
  clear hx hB hok hd ho hr hsz
  go_enter Tryz.func18, Tryz.ntmps18
  go_upto_region 1 with fail
  obtain ⟨w1, hw1⟩ : ∃ w1, w.alloc (.cells #[.int .i64 d.idx, .int .i64 d.par, .string d.nm, .string d.orig, .string d.sub, .string d.drv, .string d.ali, .int .i64 d.kind, .int .i64 d.num, .slice A d.attrs.length c] 43) = w1 := ⟨_, rfl⟩
  have hb1 : Below w.heap.size w w1 := by rw [← hw1]; exact (Below.refl _ _).alloc (Nat.le_refl _) _
  have hd1 : BoxL w1 w.heap.size (devC d A c) := box_mk hw1
  have HG1 := Lib.hid (show w1.heap.size = w.heap.size + 1 by rw [← hw1]; simp)
  try simp only [hw1]
  try rw [show w.heap.size + 1 = w1.heap.size from HG1.out.symm]
  obtain ⟨w2, hw2⟩ : ∃ w2, w1.alloc (.cells #[.string origin] 9) = w2 := ⟨_, rfl⟩
  have hb2 : Below w1.heap.size w1 w2 := by rw [← hw2]; exact (Below.refl _ _).alloc (Nat.le_refl _) _
  have ho2 : BoxL w2 w1.heap.size [.string origin] := box_mk hw2
  have HG2 := Lib.hid (show w2.heap.size = w1.heap.size + 1 by rw [← hw2]; simp)
  try simp only [hw2]
  try rw [show w1.heap.size + 1 = w2.heap.size from HG2.out.symm]
  obtain ⟨w3, hw3⟩ : ∃ w3, w2.alloc (.cells #[.int .i64 round] 3) = w3 := ⟨_, rfl⟩
  have hb3 : Below w2.heap.size w2 w3 := by rw [← hw3]; exact (Below.refl _ _).alloc (Nat.le_refl _) _
  have hr3 : BoxL w3 w2.heap.size [.int .i64 round] := box_mk hw3
  have HG3 := Lib.hid (show w3.heap.size = w2.heap.size + 1 by rw [← hw3]; simp)
  try simp only [hw3]
  have hb13 : Below w1.heap.size w1 w3 := hb2.trans (hb3.mono hb2.size)
  have HB3 := Lib.hid (hb1.trans (hb13.mono hb1.size))
  have HD3 := Lib.hid (hd1.kept (grown_none hb13) (fun e => by cases e)); have HO3 := Lib.hid (ho2.kept (grown_none hb3) (fun e => by cases e)); have HR3 := Lib.hid hr3
  clear hw1 hw2 hw3 hb1 hb2 hb3 hb13 hd1 ho2 hr3
  have x9 := HD3.out.1 9 _ rfl
  go_wp2_with fail
  refine (Get_any A c d.attrs ⟨#[99, 111, 110, 116, 101, 110, 116]⟩ _ B (Nat.le_trans HB.out HB3.out.size) (HX.out.keep (HB3.out.mono HB.out))).mono ?_
  rintro e w4 ⟨rfl, hb4⟩
  obtain ⟨txt, htxt⟩ : ∃ z, (getA d.attrs ⟨#[99, 111, 110, 116, 101, 110, 116]⟩).getD ByteArray.empty = z := ⟨_, rfl⟩
  obtain ⟨q0, hq0⟩ : ∃ z, (getA d.attrs ⟨#[99, 111, 110, 116, 101, 110, 116]⟩).isSome = z := ⟨_, rfl⟩
  have HWD := Lib.hid (show wantsD d origin round = if d.kind = 2 then wantsV d.orig origin round (innerG txt 5) else [] by unfold wantsD; rw [htxt])
  have HTS := Lib.hid (show txt.size ≤ maxLen by rw [← htxt]; exact HSZ.out)
  rw [htxt, hq0]
  have HB4 := Lib.hid (HB3.out.trans (hb4.mono HB3.out.size)); have hg4 := grown_none hb4
  have HD4 := Lib.hid (HD3.out.kept hg4 (fun e => by cases e)); have HO4 := Lib.hid (HO3.out.kept hg4 (fun e => by cases e)); have HR4 := Lib.hid (HR3.out.kept hg4 (fun e => by cases e))
  have HS4 := Lib.hid hb4.size
  clear htxt hq0 hb4 hg4 x9
  go_wp2_with fail
  refine (Read_any txt 5 _ HTS.out (HOK.out.below HB4.out)).mono ?_
  rintro e w5 ⟨hb5, k, i, l, s2, t, le, A5, n5, c5, A6, c6, rfl, hsl, hlen⟩
  have HB5 := Lib.hid (HB4.out.trans (hb5.mono HB4.out.size)); have hg5 := grown_none hb5
  have HD5 := Lib.hid (HD4.out.kept hg5 (fun e => by cases e)); have HO5 := Lib.hid (HO4.out.kept hg5 (fun e => by cases e)); have HR5 := Lib.hid (HR4.out.kept hg5 (fun e => by cases e))
  have HS5 := Lib.hid hb5.size
  obtain ⟨inner, hin⟩ : ∃ z, innerG txt 5 = z := ⟨_, rfl⟩
  obtain ⟨ok, hok⟩ : ∃ z, (readG txt 5).isSome = z := ⟨_, rfl⟩
  have HOKF := Lib.hid (show ok = false → inner = [] by
    rintro rfl
    rw [← hin]; unfold innerG
    cases h : readG txt 5 with
    | none => rfl
    | some _ => rw [h] at hok; cases hok)
  rw [hin] at hsl hlen HWD ⊢
  rw [hok]
  have HSL := Lib.hid hsl; have HLEN := Lib.hid hlen
  clear hb5 hg5 hin hok hsl hlen
  go_upto_region 3 with fail
  obtain ⟨w6, hw6⟩ : ∃ w6, w5.alloc (.cells #[.int .i64 k, .string i, .string l, .int .i64 s2, .int .i64 t, .int .i64 le, .slice A5 n5 c5] 36) = w6 := ⟨_, rfl⟩
  have hb6 : Below w5.heap.size w5 w6 := by rw [← hw6]; exact (Below.refl _ _).alloc (Nat.le_refl _) _
  have HG6 := Lib.hid (show w6.heap.size = w5.heap.size + 1 by rw [← hw6]; simp)
  try rw [hw6]
  have HB6 := Lib.hid (HB5.out.trans (hb6.mono HB5.out.size)); have hg6 := grown_none hb6
  have HD6 := Lib.hid (HD5.out.kept hg6 (fun e => by cases e)); have HO6 := Lib.hid (HO5.out.kept hg6 (fun e => by cases e)); have HR6 := Lib.hid (HR5.out.kept hg6 (fun e => by cases e))
  have HSL6 := Lib.hid (HSL.out.below hb6 (fun x hx => hx.2))
  clear hw6 hb6 hg6
  have x7 := HD6.out.1 7 _ rfl
  cases ok
  case false =>
    have HE := Lib.hid (show wantsD d origin round = [] by rw [HWD.out, HOKF.out rfl]; split <;> rfl)
    go_wp2
    go_ret
    exact ⟨HB6.out, _, rfl, by rw [HE.out]; exact OwnsS.nil_ _ _ _ _⟩
  by_cases hk2 : d.kind = 2
  case neg =>
    have p1 : (d.kind != 2) = true := by simpa using hk2
    have p2 : (d.kind == 2) = false := by simpa using hk2
    have HE := Lib.hid (show wantsD d origin round = [] by rw [HWD.out, if_neg hk2])
    clear hk2
    go_wp2
    go_ret
    exact ⟨HB6.out, _, rfl, by rw [HE.out]; exact OwnsS.nil_ _ _ _ _⟩
  have p1 : (d.kind != 2) = false := by simpa using hk2
  have p2 : (d.kind == 2) = true := by simpa using hk2
  have HWE := Lib.hid (show wantsD d origin round = wantsV d.orig origin round inner by rw [HWD.out, if_pos hk2])
  clear hk2
  go_upto_region 6 with fail
  obtain ⟨w7, hw7⟩ : ∃ w7, w6.alloc (.cells #[.slice none 0 0] 39) = w7 := ⟨_, rfl⟩
  have hb7 : Below w6.heap.size w6 w7 := by rw [← hw7]; exact (Below.refl _ _).alloc (Nat.le_refl _) _
  have hl7 : BoxL w7 w6.heap.size [.slice none 0 0] := box_mk hw7
  have HG7 := Lib.hid (show w7.heap.size = w6.heap.size + 1 by rw [← hw7]; simp)
  try rw [hw7]
  have hg7 := grown_none hb7
  have HST := Lib.hid (show WaT w w.heap.size w1.heap.size w2.heap.size w6.heap.size w7.heap.size d A c origin round A6 c6 inner [] w7 from
    ⟨HB6.out.trans (hb7.mono HB6.out.size), HD6.out.kept hg7 (fun e => by cases e), HO6.out.kept hg7 (fun e => by cases e), HR6.out.kept hg7 (fun e => by cases e), (HSL6.out.below hb7 (fun x hx => by have := HG6.out; omega)).mono (fun x hx => ⟨by have := HG6.out; have := HG7.out; omega, by have := HG6.out; omega⟩) (fun _ _ _ _ hu => hu),
     ⟨_, hl7, OwnsS.nil_ _ _ _ _⟩, ⟨by have := HB6.out.size; omega, by have := HG7.out; omega, Nat.le_refl _⟩, by have := HG1.out; have := HG2.out; have := HG3.out; have := HS4.out; have := HS5.out; have := HG6.out; omega, by have := HG1.out; have := HG2.out; have := HG3.out; have := HS4.out; have := HS5.out; have := HG6.out; have := HG7.out; omega⟩)
  clear hw7 hb7 hl7 hg7 x7 p1 p2
  go_wp2_with fail
  go_loopw [38] (fun i wr => ∃ j : Nat, j ≤ inner.length ∧ i = .int .i64 j ∧ Hid (WaT w w.heap.size w1.heap.size w2.heap.size w6.heap.size w7.heap.size d A c origin round A6 c6 inner (wantsV d.orig origin round (inner.take j)) wr)) (fun i _ => inner.length - (intOf i).toNat)
  case atStart => exact ⟨0, Nat.zero_le _, rfl, HST⟩
  case round =>
    clear HST
    obtain ⟨j, hj, rfl, HWR⟩ := hrel
    by_cases hlt : j < inner.length
    · have i1 : (j : Int) < (inner.length : Int) := by omega
      have hsl := HWR.out.2.2.2.2.1.sl (B := w7.heap.size) (fun x hx => hx.1)
      obtain ⟨b, o, rfl, hb, hcell, hsz⟩ := hsl.str hlt
      have hat : inner[j]? = some inner[j] := List.getElem?_eq_getElem hlt
      obtain ⟨s, hs⟩ : ∃ s, inner[j]'hlt = s := ⟨_, rfl⟩
      rw [hs] at hcell hsz hat
      have HAT := Lib.hid hat
      have HCALL := Lib.hid (Wants1_any w w.heap.size w1.heap.size w2.heap.size w6.heap.size w7.heap.size d A c origin round _ c6 inner (wantsV d.orig origin round (inner.take j)) ((j + 1 : Nat) : Int) s wr HWR.out (HOK.out.below HWR.out.1) (by have := HLEN.out; unfold okI; omega) HD.out HO.out HR.out (by omega) (by have h1 := wants_len d.orig origin round 1 (inner.take j); rw [List.length_take] at h1; have := HLEN.out; unfold wantsV; omega))
      have hwr1 : wrap64 ((j : Int) + 1) = ((j + 1 : Nat) : Int) := by have := HLEN.out; unfold wrap64; omega
      have hwr2 : IntKind.i64.wrap ((j : Int) + 1) = ((j + 1 : Nat) : Int) := by have := HLEN.out; rw [IntKind.wrap_i64]; omega
      clear hsl hat hs hsz hb
      go_wp2_with fail
      refine HCALL.out.mono ?_
      rintro e w8 ⟨rfl, hst⟩
      have HS8 := Lib.hid (show WaT w w.heap.size w1.heap.size w2.heap.size w6.heap.size w7.heap.size d A c origin round (some ⟨b, o, none⟩) c6 inner (wantsV d.orig origin round (inner.take (j + 1))) w8 by rw [wants_take HAT.out]; exact hst)
      clear hst hcell
      go_wp2
      go_roundw
      case rel => exact ⟨j + 1, by omega, by go_num, HS8⟩
      case measure => simp [intOf]; omega
    · have i1 : ¬ (j : Int) < (inner.length : Int) := by omega
      have htk : inner.take j = inner := List.take_of_length_le (by omega)
      have hwr := HWR.out
      rw [htk, ← HWE.out] at hwr
      obtain ⟨v, hvb, hvo⟩ := hwr.2.2.2.2.2.1
      have y0 := hvb.1 0 _ rfl
      have HFIN := Lib.hid (show OwnsS (fun _ => False) wr w.heap.size 46 v (wantsD d origin round) from hvo.low (by have := hwr.2.2.2.2.2.2.1; omega))
      have HBF := Lib.hid hwr.1
      clear hvb hvo hwr htk
      go_wp2
      go_ret
      exact ⟨HBF.out, _, rfl, HFIN.out⟩
end Go.Proofs.YtehmidmoiamcfaaGreatDoor
namespace Go.Proofs.YtehmidmoiamcfaaGreatDoor
open Go.RowKit Go.Cold
end Go.Proofs.YtehmidmoiamcfaaGreatDoor
namespace Go.Cold
open Go Go.RowKit
/-- The law's disk. -/
def diskD (o t : ByteArray) : Dev := ⟨1, 0, o, o, ⟨#[98, 108, 111, 99, 107]⟩, ByteArray.empty, ByteArray.empty, 2, 1, [⟨⟨#[99, 111, 110, 116, 101, 110, 116]⟩, t⟩]⟩
end Go.Cold
namespace Go.Proofs.YtehmidmoiamcfaaGreatDoor
open Go.RowKit Go.Cold
set_option maxRecDepth 100000 in
set_option maxHeartbeats 2000000 in
/-- coldpluglaw31.disk. -/
theorem disk_any (o t : ByteArray) (w : World) (ho : o.size ≤ maxLen) (ht : t.size ≤ maxLen) : Calls Tryz.prog 19 #[.string o, .string t] w fun e w' => Below w.heap.size w w' ∧ ∃ A c, e = .returned (.agg #[.int .i64 1, .int .i64 0, .string o, .string o, .string ⟨#[98, 108, 111, 99, 107]⟩, .string ByteArray.empty, .string ByteArray.empty, .int .i64 2, .int .i64 1, .slice A 1 c]) ∧ SlS w' (fun x => w.heap.size ≤ x ∧ x < w'.heap.size) A c (diskD o t).attrs := by
 have hzv := (zero_of_info (P := Tryz.prog) (t := 43) info_dev2).1
 go_enter Tryz.func19, Tryz.ntmps19
 go_upto_region 1 with fail
 obtain ⟨w1, hw1⟩ : ∃ w1, w.alloc (.cells #[.int .i64 0, .int .i64 0, .string ByteArray.empty, .string ByteArray.empty, .string ByteArray.empty, .string ByteArray.empty, .string ByteArray.empty, .int .i64 0, .int .i64 0, .slice none 0 0] 43) = w1 := ⟨_, rfl⟩
 have hb1 : Below w.heap.size w w1 := by rw [← hw1]; exact (Below.refl _ _).alloc (Nat.le_refl _) _
 have hx1 : BoxL w1 w.heap.size [.int .i64 0, .int .i64 0, .string ByteArray.empty, .string ByteArray.empty, .string ByteArray.empty, .string ByteArray.empty, .string ByteArray.empty, .int .i64 0, .int .i64 0, .slice none 0 0] := box_mk hw1
 have HG1 := Lib.hid (show w1.heap.size = w.heap.size + 1 by rw [← hw1]; simp)
 try simp only [hw1]
 clear hw1
 obtain ⟨w2, hw2⟩ : ∃ w2, w1.alloc (.cells #[.string ⟨#[99, 111, 110, 116, 101, 110, 116]⟩, .string t] 63) = w2 := ⟨_, rfl⟩
 have hb2 : Below w1.heap.size w1 w2 := by rw [← hw2]; exact (Below.refl _ _).alloc (Nat.le_refl _) _
 have hx2 : BoxL w2 w1.heap.size [.string ⟨#[99, 111, 110, 116, 101, 110, 116]⟩, .string t] := box_mk hw2
 have HG2 := Lib.hid (show w2.heap.size = w1.heap.size + 1 by rw [← hw2]; simp)
 have HB2 := Lib.hid (hb1.trans (hb2.mono hb1.size))
 have HX2 := Lib.hid hx2; have HR2 := Lib.hid (hx1.kept (grown_none hb2) (fun e => by cases e)); have HT := Lib.hid ht
 clear hb1 hb2 hx1 hx2 ho ht
 have cr0 := HR2.out.1 0 _ rfl; have cr1 := HR2.out.1 1 _ rfl; have cr2 := HR2.out.1 2 _ rfl; have cr3 := HR2.out.1 3 _ rfl; have cr4 := HR2.out.1 4 _ rfl; have cr5 := HR2.out.1 5 _ rfl; have cr6 := HR2.out.1 6 _ rfl; have cr7 := HR2.out.1 7 _ rfl; have cr8 := HR2.out.1 8 _ rfl; have cr9 := HR2.out.1 9 _ rfl; have cfr := HR2.out.2.1
 go_wp2
 refine bodyPost_ret (v := .agg #[.int .i64 1, .int .i64 0, .string o, .string o, .string ⟨#[98, 108, 111, 99, 107]⟩, .string ByteArray.empty, .string ByteArray.empty, .int .i64 2, .int .i64 1, .slice (some ⟨w1.heap.size, 0, none⟩) 1 1]) (by simp [results, Tryz.results19, go_sem, cr0, cr1, cr2, cr3, cr4, cr5, cr6, cr7, cr8, cr9, cfr]) rfl ⟨below10 HB2.out (Nat.le_refl _) _ _ _ _ _ _ _ _ _ _, _, _, rfl, ?_⟩
 have h := sls_one HX2.out (by show (7 : Nat) ≤ maxLen; unfold maxLen; omega) HT.out
 exact (h.set10 (fun x hx => by have := HG1.out; have h2 : x = _ := hx; omega) _ _ _ _ _ _ _ _ _ _).mono (fun x hx => ⟨by have := HG1.out; have h2 : x = _ := hx; omega, by have := HG2.out; have h2 : x = _ := hx; simp; omega⟩) (fun _ _ _ _ hu => hu)
end Go.Proofs.YtehmidmoiamcfaaGreatDoor
namespace Go.Cold
open Go Go.RowKit
def T31 : ByteArray := ⟨#[116, 97, 98, 108, 101, 58, 116, 40, 102, 115, 58, 102, 58, 44, 41]⟩
def C31 : Cont := .mk 5 ⟨#[116]⟩ ⟨#[]⟩ 0 0 0 [.mk 1 ⟨#[102]⟩ ⟨#[]⟩ 0 0 0 [], .mk 0 ⟨#[]⟩ ⟨#[]⟩ 0 0 0 []]
theorem cont_T31 : contP T31 16 0 = some (C31, 15) := by kernel_rfl
theorem ok_C31 : AllOk C31 := by
 unfold C31
 refine AllOk_mk.2 ⟨by decide +kernel, fun x hx => ?_⟩
 simp at hx
 rcases hx with rfl | rfl
 · exact AllOk_mk.2 ⟨by decide +kernel, fun x hx => by cases hx⟩
 · exact AllOk_mk.2 ⟨by decide +kernel, fun x hx => by cases hx⟩
theorem depth_C31 : depthC C31 = 2 := by kernel_rfl
theorem parse_T31 : parseC T31 = some C31 := by
 have h1 : T31.size = 15 := by decide +kernel
 unfold parseC
 rw [if_neg (by omega), h1, cont_T31]
 simp [bad_of ok_C31 (by rw [depth_C31]; decide)]
def slSda : ByteArray := ⟨#[47, 115, 100, 97]⟩
def l31 : List Virt := [⟨⟨#[47, 115, 100, 97]⟩, ⟨#[115, 100, 97, 112, 49]⟩, ⟨#[102, 115, 58, 102, 58]⟩, 1⟩, ⟨⟨#[47, 115, 100, 97]⟩, ⟨#[115, 100, 97, 112, 50]⟩, ⟨#[]⟩, 1⟩]
theorem wants_31 : wantsD (diskD sdaB T31) slSda 1 = l31 := by
 unfold wantsD
 rw [if_pos (show (diskD sdaB T31).kind = 2 from rfl), show (getA (diskD sdaB T31).attrs ⟨#[99, 111, 110, 116, 101, 110, 116]⟩).getD ByteArray.empty = T31 from rfl, (innerG_some (k := 5) parse_T31 rfl).1]
 kernel_rfl
end Go.Cold
namespace Go.Proofs.YtehmidmoiamcfaaGreatDoor
open Go.RowKit Go.Cold
set_option maxRecDepth 100000 in
set_option maxHeartbeats 2000000 in
theorem known31_any (w : World) (hok : Ok7 w) : Calls Tryz.prog 11 #[] w fun e w' => e = .returned (.bool true) ∧ Below w.heap.size w w' := by
 have h3 : ptStr sdaB 3 = ⟨#[115, 100, 97, 112, 51]⟩ := by kernel_rfl
 have h3e : ptErr sdaB 3 = 0 := by kernel_rfl
 have h17 : ptStr sdaB 17 = ByteArray.empty := by kernel_rfl
 have h17e : ptErr sdaB 17 = 310 := by kernel_rfl
 have n16 : numR sdaB ⟨#[115, 100, 97, 112, 49, 54]⟩ = 16 := by decide +kernel
 have n01 : numR sdaB ⟨#[115, 100, 97, 112, 48, 49]⟩ = 0 := by decide +kernel
 have H3 := Lib.hid h3; have H3E := Lib.hid h3e; have H17 := Lib.hid h17; have H17E := Lib.hid h17e; have N16 := Lib.hid n16; have N01 := Lib.hid n01; have HOK := Lib.hid hok
 clear h3 h3e h17 h17e n16 n01 hok
 have hsz : sdaB.size ≤ maxLen - 30 := by show (3 : Nat) ≤ _; unfold maxLen; omega
 have HSZ := Lib.hid hsz; clear hsz
 go_enter Tryz.func11, Tryz.ntmps11
 go_wp2_with fail
 refine (PName_any sdaB 3 _ HOK.out (by unfold okI; omega) HSZ.out).mono ?_
 rintro e w1 ⟨rfl, hb1⟩
 rw [H3.out, H3E.out]
 have HB1 := Lib.hid hb1; clear hb1
 go_wp2_with fail
 refine (PName_any sdaB 17 _ (HOK.out.below HB1.out) (by unfold okI; omega) HSZ.out).mono ?_
 rintro e w2 ⟨rfl, hb2⟩
 rw [H17.out, H17E.out]
 have HB2 := Lib.hid (HB1.out.trans (hb2.mono HB1.out.size)); clear hb2
 go_wp2_with fail
 refine (PNumber_any sdaB ⟨#[115, 100, 97, 112, 49, 54]⟩ _ HSZ.out).mono ?_
 rintro e w3 ⟨rfl, rfl⟩
 rw [N16.out]
 go_wp2_with fail
 refine (PNumber_any sdaB ⟨#[115, 100, 97, 112, 48, 49]⟩ _ HSZ.out).mono ?_
 rintro e w4 ⟨rfl, rfl⟩
 rw [N01.out]
 go_wp2_with fail
 refine (disk_any sdaB T31 _ (by show (3 : Nat) ≤ _; unfold maxLen; omega) (by show (15 : Nat) ≤ _; unfold maxLen; omega)).mono ?_
 rintro e w5 ⟨hb5, A, c, rfl, hsl⟩
 have HB5 := Lib.hid (HB2.out.trans (hb5.mono HB2.out.size)); have HSL := Lib.hid (hsl.sl (B := w5.heap.size) (fun x hx => hx.2)); clear hb5 hsl
 go_wp2_with fail
 refine (Wants_any A c (diskD sdaB T31) slSda 1 _ w5.heap.size (Nat.le_refl _) HSL.out (HOK.out.below HB5.out) HSZ.out (by show (4 : Nat) ≤ _; unfold maxLen; omega) (by unfold okI; omega)).mono ?_
 rintro e w6 ⟨hb6, v, rfl, hown⟩
 have HB6 := Lib.hid (HB5.out.trans (hb6.mono HB5.out.size))
 rw [wants_31] at hown
 obtain ⟨A6, c6, rfl, hs6⟩ := hown.sl
 obtain ⟨b, o, rfl, -, -, a0, a1, a2, a3⟩ := hs6.virt (i := 0) (by decide)
 obtain ⟨b2, o2, e2, -, -, g0, g1, g2, g3⟩ := hs6.virt (i := 1) (by decide)
 injection e2 with e2; injection e2 with e2 e3
 subst e2; subst e3
 have hc6 := hs6.1
 clear hs6 hown hb6
 have q0 : w6.cell? ⟨b, o, none⟩ = some (.string ⟨#[47, 115, 100, 97]⟩) := by rw [Nat.zero_mul, Nat.add_zero] at a0; exact a0
 have q1 : w6.cell? ⟨b, o + 1, none⟩ = some (.string ⟨#[115, 100, 97, 112, 49]⟩) := by rw [Nat.zero_mul, Nat.add_zero] at a1; exact a1
 have q2 : w6.cell? ⟨b, o + 2, none⟩ = some (.string ⟨#[102, 115, 58, 102, 58]⟩) := by rw [Nat.zero_mul, Nat.add_zero] at a2; exact a2
 have q3 : w6.cell? ⟨b, o + 3, none⟩ = some (.int .i64 1) := by rw [Nat.zero_mul, Nat.add_zero] at a3; exact a3
 have q6 : w6.cell? ⟨b, o + 4 + 2, none⟩ = some (.string ⟨#[]⟩) := by rw [Nat.one_mul] at g2; exact g2
 have q6' : w6.cell? ⟨b, o + 6, none⟩ = some (.string ⟨#[]⟩) := q6
 have hl31 : l31.length = 2 := rfl
 rw [hl31] at hc6 ⊢
 clear a0 a1 a2 a3 g0 g1 g2 g3 hl31
 go_wp2
 go_ret
 exact ⟨rfl, HB6.out⟩
end Go.Proofs.YtehmidmoiamcfaaGreatDoor
namespace Go.Cold
open Go Go.RowKit
theorem below_more {a w w' : World} (h : Below a.heap.size a w) (hb : Below w.heap.size w w') : Below a.heap.size a w' := h.trans (hb.mono h.size)
end Go.Cold
namespace Go.Proofs.YtehmidmoiamcfaaGreatDoor
open Go.RowKit Go.Cold
end Go.Proofs.YtehmidmoiamcfaaGreatDoor
namespace Go.Cold
open Go Go.RowKit
theorem filter_step {p : Dev → Bool} {L : List Dev} {k : Nat} {y : Dev} (h : L[k]? = some y) : (L.take (k + 1)).filter p = if p y then (L.take k).filter p ++ [y] else (L.take k).filter p := by
 rw [List.take_add_one, h, List.filter_append]
 cases hp : p y <;> simp [hp]
theorem filter_end (p : Dev → Bool) (L : List Dev) : (L.take L.length).filter p = L.filter p := by rw [List.take_length]
theorem filter_len (p : Dev → Bool) (L : List Dev) (k : Nat) : ((L.take k).filter p).length ≤ k := Nat.le_trans (List.length_filter_le _ _) (by rw [List.length_take]; exact Nat.min_le_left _ _)
/-- Where a loop stands that gathers devices. -/
def FilSt (F : Nat → Prop) (T : TypeId) (w0 w1 : World) (p : Dev → Bool) (L : List Dev) (k : Nat) (v : Value) (w : World) : Prop :=
 Below w0.heap.size w0 w ∧ w1.heap.size ≤ w.heap.size ∧ OwnsS F w w1.heap.size T v ((L.take k).filter p)
theorem OwnsS.wide {α : Type} [RepS α] {F F' : Nat → Prop} {w : World} {base : Nat} {e : TypeId} {v : Value} {xs : List α} (h : OwnsS F w base e v xs) (hF : ∀ x, F x → F' x) : OwnsS F' w base e v xs := by
 obtain ⟨css, h1, h2, h3⟩ := h
 exact ⟨css, h1, h2, fun i x cs hx hcs => RepS.mono (fun b ⟨a1, a2, a3⟩ => ⟨hF b a1, a2, a3⟩) (fun _ _ _ _ hu => hu) (h3 i x cs hx hcs)⟩
def anyD (_ : Dev) : Bool := true
theorem filter_any (L : List Dev) : L.filter anyD = L := List.filter_eq_self.2 (fun _ _ => rfl)
end Go.Cold
namespace Go.Proofs.YtehmidmoiamcfaaGreatDoor
open Go.RowKit Go.Cold
/-- What gathers devices answers. -/
def GotP (F : Nat → Prop) (l : List Dev) (w : World) (e : Ending) (w' : World) : Prop := Below w.heap.size w w' ∧ ∃ v, e = .returned v ∧ OwnsS F w' w.heap.size 43 v l
set_option maxRecDepth 100000 in
set_option maxHeartbeats 1000000 in
/-- tree.copies. -/
theorem copies_any (A : Option Addr) (c : Nat) (L : List Dev)  (w : World) (B : Nat) (hB : B ≤ w.heap.size) (hx : Sl w B A c L)  (hl : L.length ≤ 1000000) (ha : ∀ d ∈ L, d.attrs.length ≤ 1000000) :
  Calls Tryz.prog 57 #[.slice A L.length c] w (GotP (fun b => w.heap.size ≤ b) (L.filter (anyD)) w) := by
 have hx1 := hx.1; have hx2 := hx.2.1
 unfold maxLen at hx2
 have HX := Lib.hid hx; have HB := Lib.hid hB; have HL := Lib.hid hl; have HAS := Lib.hid ha; clear hl ha; clear hx hB
 go_enter Tryz.func57, Tryz.ntmps57
 go_upto_region 1 with fail
 have HST := Lib.hid (show FilSt (fun b => w.heap.size ≤ b) 43 w w (anyD) L 0 (.slice none 0 0) w from ⟨(Below.refl _ _), Nat.le_refl _, OwnsS.nil_ _ _ _ _⟩)
 go_wp2_with fail
 go_loopw [3, 8] (fun v i wr => ∃ k : Nat, k ≤ L.length ∧ i = .int .i64 k ∧ Hid (FilSt (fun b => w.heap.size ≤ b) 43 w w (anyD) L k v wr)) (fun _ i _ => L.length - (intOf i).toNat)
 case atStart => exact ⟨0, Nat.zero_le _, rfl, HST⟩
 case round =>
  clear HST
  obtain ⟨k, hk, rfl, HST⟩ := hrel
  have HBR := Lib.hid HST.out.1; have HOWN := Lib.hid HST.out.2.2; have HWR := Lib.hid HST.out.2.1
  by_cases hlt : k < L.length
  ·
   have i1 : (k : Int) < (L.length : Int) := by omega
   obtain ⟨b3, o3, rfl, hb3, A3, c3, hok3, hat3, hcs3⟩ := (HX.out.keep (HBR.out.mono HB.out)).dev hlt
   have hxk : L[k]? = some L[k] := List.getElem?_eq_getElem hlt
   obtain ⟨y, hy⟩ : ∃ y, L[k]'hlt = y := ⟨_, rfl⟩
   rw [hy] at hok3 hcs3 hxk hat3
   have HXK := Lib.hid hxk; have HOK3 := Lib.hid hok3; have HMEM := Lib.hid (List.mem_of_getElem? hxk)
   have HDC := Lib.hid hcs3
   have HAT := Lib.hid hat3; have HB3 := Lib.hid hb3
   clear hxk hok3 hat3 hy hcs3 hb3
   have hacl := filter_len (anyD) L k
   obtain ⟨acc, hacc⟩ : ∃ z, (L.take k).filter (anyD) = z := ⟨_, rfl⟩
   rw [hacc] at hacl HOWN
   have HACC := Lib.hid hacc; have HACL := Lib.hid (Nat.lt_of_le_of_lt hacl hlt); clear hacc hacl
   have HAM := Lib.hid (show acc.length + 1 ≤ maxLen ∧ (acc.length + 1) * 136 ≤ 140737488355328 by have := HACL.out; have := HL.out; constructor <;> first | (unfold maxLen; omega) | omega)
   have HBQwr := Lib.hid (Below.refl wr.heap.size wr)
   have HP := Lib.hid (show anyD y = true from rfl)
   obtain ⟨y0, y1, y2, y3, y4, y5, y6, y7, y8, y9⟩ := HDC.out
   go_upto_region 5 with fail
   clear y0 y1 y2 y3 y4 y5 y6 y7 y8 y9
   obtain ⟨w3, hw3⟩ : ∃ w3, wr.alloc (.cells #[.int .i64 y.idx, .int .i64 y.par, .string y.nm, .string y.orig, .string y.sub, .string y.drv, .string y.ali, .int .i64 y.kind, .int .i64 y.num, .slice A3 y.attrs.length c3] 43) = w3 := ⟨_, rfl⟩
   have hbw3 : Below wr.heap.size wr w3 := by rw [← hw3]; exact (Below.refl _ _).alloc (Nat.le_refl _) _
   have HGw3 := Lib.hid (show w3.heap.size = wr.heap.size + 1 by rw [← hw3]; simp)
   have HXyw3 := Lib.hid (show BoxL w3 wr.heap.size [.int .i64 y.idx, .int .i64 y.par, .string y.nm, .string y.orig, .string y.sub, .string y.drv, .string y.ali, .int .i64 y.kind, .int .i64 y.num, .slice A3 y.attrs.length c3] from box_mk hw3)
   try simp only [hw3]
   have HSTEPw3 := Lib.hid hbw3
   have HSw3 := Lib.hid (show wr.heap.size ≤ w3.heap.size from hbw3.size)
   have HBw3 := Lib.hid (HBR.out.trans (hbw3.mono HBR.out.size))
   have HOw3 := Lib.hid (HOWN.out.below hbw3)
   have HBQw3 := Lib.hid (show Below wr.heap.size wr w3 from HBQwr.out.trans (hbw3.mono HBQwr.out.size))
   clear hw3 hbw3
   try rw [show wr.heap.size + 1 = w3.heap.size from HGw3.out.symm]
   have cy0 := HXyw3.out.1 0 _ rfl
   have cy1 := HXyw3.out.1 1 _ rfl
   have cy2 := HXyw3.out.1 2 _ rfl
   have cy3 := HXyw3.out.1 3 _ rfl
   have cy4 := HXyw3.out.1 4 _ rfl
   have cy5 := HXyw3.out.1 5 _ rfl
   have cy6 := HXyw3.out.1 6 _ rfl
   have cy7 := HXyw3.out.1 7 _ rfl
   have cy8 := HXyw3.out.1 8 _ rfl
   have cy9 := HXyw3.out.1 9 _ rfl
   go_wp2_with fail
   refine (copied_any y A3 c3 _ B (Nat.le_trans HB.out HBw3.out.size) (HAT.out.keep (HBQw3.out.mono (Nat.le_trans HB.out HBR.out.size))) (HAS.out y HMEM.out)).mono ?_
   rintro e w4 ⟨hbw4, A4, c4, rfl, hsl⟩
   clear cy0 cy1 cy2 cy3 cy4 cy5 cy6 cy7 cy8 cy9
   have HSw4 := Lib.hid (show w3.heap.size ≤ w4.heap.size from hbw4.size)
   have HBw4 := Lib.hid (HBw3.out.trans (hbw4.mono HBw3.out.size))
   have yw4 := Lib.hid (HXyw3.out.kept (grown_none hbw4) (fun e => by cases e))
   have HOw4 := Lib.hid (HOw3.out.below hbw4)
   have HBQw4 := Lib.hid (show Below wr.heap.size wr w4 from HBQw3.out.trans (hbw4.mono HBQw3.out.size))
   clear hbw4
   have HSL := Lib.hid (show SlS w4 (fun b => w3.heap.size ≤ b ∧ b < w4.heap.size) A4 c4 y.attrs from hsl); clear hsl
   obtain ⟨wa, hwa⟩ : ∃ z, w4.alloc (.cells #[.int .i64 y.idx, .int .i64 y.par, .string y.nm, .string y.orig, .string y.sub, .string y.drv, .string y.ali, .int .i64 y.kind, .int .i64 y.num, .slice A4 y.attrs.length c4] 43) = z := ⟨_, rfl⟩
   have hba : Below w4.heap.size w4 wa := by rw [← hwa]; exact (Below.refl _ _).alloc (Nat.le_refl _) _
   have HGA := Lib.hid (show wa.heap.size = w4.heap.size + 1 by rw [← hwa]; simp)
   have hnew := lit_cells hwa (l := devCells y A4 c4) rfl
   have HNEW := Lib.hid hnew; clear hnew
   have HSwa := Lib.hid (show w4.heap.size ≤ wa.heap.size from hba.size)
   have HBwa := Lib.hid (HBw4.out.trans (hba.mono HBw4.out.size))
   have ywa := Lib.hid (yw4.out.kept (grown_none hba) (fun e => by cases e))
   have HOwa := Lib.hid (HOw4.out.below hba)
   have HBQwa := Lib.hid (show Below wr.heap.size wr wa from HBQw4.out.trans (hba.mono HBQw4.out.size))
   have HRD := Lib.hid (show RepS.rdS wa (fun b => w.heap.size ≤ b ∧ b < wa.heap.size ∧ u3.ownBlock ≠ some b) y (devCells y A4 c4) from ⟨A4, c4, rfl, HOK3.out, (HSL.out.below hba (fun x hx => hx.2)).mono (fun b hb => ⟨by have := hb.1; have := HBQw3.out.size; have := HBR.out.size; omega, by have := hb.2; have := HGA.out; omega, fun e => by have h5 := (HOWN.out.lt b e).2; have := hb.1; have := HBQw3.out.size; omega⟩) (fun _ _ _ _ hu => hu)⟩)
   clear hba
   go_wp2_with (at_builtin; go_must (refine wpList_app1 E_dev rfl _ _ rfl u3 _ rfl HOwa.out w4.heap.size rfl y (devCells y A4 c4) HNEW.out HRD.out HAM.out.1 HAM.out.2 (by have := HWR.out; have := HBQwa.out.size; omega) ?_); intro v2 w9 hown_ hgrow_ hnew_; have HOWN9 := Lib.hid hown_; have HGROW9 := Lib.hid hgrow_; have HNEW9 := Lib.hid hnew_; clear hown_ hgrow_ hnew_)
   have HB9 := Lib.hid (show Below w.heap.size w w9 from below_own HBwa.out HGROW9.out HBwa.out.size (fun k hk => by have := (HOwa.out.lt k hk).1; omega))
   have HSTn := Lib.hid (show FilSt (fun b => w.heap.size ≤ b) 43 w w (anyD) L (k + 1) v2 w9 from ⟨HB9.out, by have := HWR.out; have := HGROW9.out.size; have := HBQwa.out.size; omega, by rw [filter_step HXK.out, if_pos HP.out, HACC.out]; exact HOWN9.out⟩)
   try go_wp2
   go_roundw
   case rel => exact ⟨k + 1, by omega, by go_num, HSTn⟩
   case measure => simp [intOf]; omega
  ·
   have i1 : ¬ (k : Int) < (L.length : Int) := by omega
   obtain rfl : k = L.length := by omega
   have HF := Lib.hid (filter_end (anyD) L)
   go_wp2
   go_ret
   exact ⟨HBR.out, _, by first | rfl | exact rfl, by have h := HOWN.out; rw [HF.out] at h; exact h.low (by omega)⟩
end Go.Proofs.YtehmidmoiamcfaaGreatDoor
namespace Go
section
variable {F : Fence} {n : Nat} {P : Program} {ops : Array Oper} {Q : Exit → Act → World → Prop} {md : Region.Mode} {S : World → Prop} {late : Nat → Bool}
end
end Go
namespace Go.Cold
open Go Go.RowKit
section
variable {α : Type} [El α] {P : Program} {k e : TypeId} {w : World} {b n : Nat} {f : Int → Option α} {F : Fence} {nF : Nat}
end
section
variable {P : Program} {tI tB : TypeId} {gt gi bm c N B : Nat} {A : Option Addr} {L : List Dev} {idx : Int} {ins : List Int} {W W' : World}
end
end Go.Cold
namespace Go.Proofs.YtehmidmoiamcfaaGreatDoor
open Go.RowKit Go.Cold Go.Shelf
attribute [local go_sem] Oper.semAt_some
end Go.Proofs.YtehmidmoiamcfaaGreatDoor
namespace Go.Cold
open Go Go.RowKit
section
variable {P : Program} {F : Fence} {n : Nat} {bytes : Nat} {TS : TypeId} {ops : Array Oper} {o : Oper} {a : Act} {Q : Exit → Act → World → Prop} {w : World}
end
theorem attrs_le {d : Dev} (h : checkD d = 0) : d.attrs.length ≤ 1000000 := by
 rw [checkD_eq] at h
 by_cases h1 : rangeB d <;> by_cases h2 : namedB d <;> by_cases h3 : kindB d <;> by_cases h4 : numberB d <;> by_cases h5 : d.attrs.length ≤ 24 <;> simp_all
 all_goals omega
end Go.Cold
namespace Go.Proofs.YtehmidmoiamcfaaGreatDoor
open Go.RowKit Go.Cold Go.Shelf
attribute [local go_sem] Oper.semAt_some
end Go.Proofs.YtehmidmoiamcfaaGreatDoor
namespace Go.Cold
open Go Go.RowKit
theorem part_of {L : List Dev} {n : Int} {d p : Dev} (h1 : findD L n = some d) (h2 : findD L d.par = some p) : partO L n = partD p d := by unfold partO partD; rw [h1]; simp only [h2]
theorem part_no1 {L : List Dev} {n : Int} (h1 : findD L n = none) : partO L n = 0 := by unfold partO; rw [h1]
theorem part_no2 {L : List Dev} {n : Int} {d : Dev} (h1 : findD L n = some d) (h2 : findD L d.par = none) : partO L n = 0 := by unfold partO; rw [h1]; simp only [h2]
theorem findD_small {L : List Dev} (hv : VT L) (n : Int) : ((findD L n).getD zeroD).orig.size ≤ 32 := by
 cases h : findD L n with
 | none => show (0 : Nat) ≤ 32; omega
 | some d => exact (hv.small d (find_some h).1).1
end Go.Cold
namespace Go.Proofs.YtehmidmoiamcfaaGreatDoor
open Go.RowKit Go.Cold
theorem trim_len (s p : List UInt8) : (Lib.trimPrefix s p).length ≤ s.length := by
 unfold Lib.trimPrefix
 split
 · rw [List.length_drop]; omega
 · exact Nat.le_refl _
set_option maxRecDepth 100000 in
set_option maxHeartbeats 1000000 in
/-- relate.partition. -/
theorem partition_any (p d : Dev) (A1 A2 : Option Addr) (c1 c2 : Nat) (w : World) (hp : p.orig.size ≤ 32) (hd : d.orig.size ≤ 32) (hok : OkA w) :
  Calls Tryz.prog 90 #[.agg #[.int .i64 p.idx, .int .i64 p.par, .string p.nm, .string p.orig, .string p.sub, .string p.drv, .string p.ali, .int .i64 p.kind, .int .i64 p.num, .slice A1 p.attrs.length c1], .agg #[.int .i64 d.idx, .int .i64 d.par, .string d.nm, .string d.orig, .string d.sub, .string d.drv, .string d.ali, .int .i64 d.kind, .int .i64 d.num, .slice A2 d.attrs.length c2]] w fun e w' => e = .returned (.tuple #[.int .i64 (partD p d : Int), .bool (decide (partD p d ≠ 0))]) ∧ Below w.heap.size w w' := by
 have HP := Lib.hid hp; have HD := Lib.hid hd; have HOK := Lib.hid hok; clear hp hd hok
 go_enter Tryz.func90, Tryz.ntmps90
 go_upto_region 1 with fail
 obtain ⟨w1, hw1⟩ : ∃ w1, w.alloc (.cells #[.int .i64 p.idx, .int .i64 p.par, .string p.nm, .string p.orig, .string p.sub, .string p.drv, .string p.ali, .int .i64 p.kind, .int .i64 p.num, .slice A1 p.attrs.length c1] 43) = w1 := ⟨_, rfl⟩
 have hbw1 : Below w.heap.size w w1 := by rw [← hw1]; exact (Below.refl _ _).alloc (Nat.le_refl _) _
 have HGw1 := Lib.hid (show w1.heap.size = w.heap.size + 1 by rw [← hw1]; simp)
 have HXpw1 := Lib.hid (show BoxL w1 w.heap.size [.int .i64 p.idx, .int .i64 p.par, .string p.nm, .string p.orig, .string p.sub, .string p.drv, .string p.ali, .int .i64 p.kind, .int .i64 p.num, .slice A1 p.attrs.length c1] from box_mk hw1)
 try simp only [hw1]
 have HBw1 := Lib.hid hbw1
 clear hw1 hbw1
 try rw [show w.heap.size + 1 = w1.heap.size from HGw1.out.symm]
 obtain ⟨w2, hw2⟩ : ∃ w2, w1.alloc (.cells #[.int .i64 d.idx, .int .i64 d.par, .string d.nm, .string d.orig, .string d.sub, .string d.drv, .string d.ali, .int .i64 d.kind, .int .i64 d.num, .slice A2 d.attrs.length c2] 43) = w2 := ⟨_, rfl⟩
 have hbw2 : Below w1.heap.size w1 w2 := by rw [← hw2]; exact (Below.refl _ _).alloc (Nat.le_refl _) _
 have HGw2 := Lib.hid (show w2.heap.size = w1.heap.size + 1 by rw [← hw2]; simp)
 have HXdw2 := Lib.hid (show BoxL w2 w1.heap.size [.int .i64 d.idx, .int .i64 d.par, .string d.nm, .string d.orig, .string d.sub, .string d.drv, .string d.ali, .int .i64 d.kind, .int .i64 d.num, .slice A2 d.attrs.length c2] from box_mk hw2)
 try simp only [hw2]
 have HBw2 := Lib.hid (HBw1.out.trans (hbw2.mono HBw1.out.size))
 have pw2 := Lib.hid (HXpw1.out.kept (grown_none hbw2) (fun e => by cases e))
 clear hw2 hbw2
 try rw [show w1.heap.size + 1 = w2.heap.size from HGw2.out.symm]
 have cp3 := pw2.out.1 3 _ rfl
 have cp7 := pw2.out.1 7 _ rfl
 have cd3 := HXdw2.out.1 3 _ rfl
 have cd7 := HXdw2.out.1 7 _ rfl
 have hadd : ¬ 9223372036854775807 < p.orig.size + 1 := by have := HP.out; omega
 go_wp2_with fail
 refine (Tryz.strings_CutPrefix _ _ _).mono ?_
 rintro e w' ⟨rfl, hw_⟩
 rw [hw_]; clear hw_ w'
 obtain ⟨q, hq⟩ : ∃ q, Lib.hasPrefix d.orig.data.toList (p.orig ++ ⟨#[112]⟩).data.toList = q := ⟨_, rfl⟩
 obtain ⟨s, hs⟩ : ∃ s : ByteArray, ⟨(Lib.trimPrefix d.orig.data.toList (p.orig ++ ⟨#[112]⟩).data.toList).toArray⟩ = s := ⟨_, rfl⟩
 have HS := Lib.hid (show Lib.trimPrefix d.orig.data.toList (p.orig ++ ⟨#[112]⟩).data.toList = s.data.toList by rw [← hs])
 have HSZ := Lib.hid (show s.size ≤ 281474976710656 by rw [← hs]; have h1 := HD.out; have h2 := trim_len d.orig.data.toList (p.orig ++ ⟨#[112]⟩).data.toList; rw [ba_size] at h2; show (List.toArray _).size ≤ _; rw [List.size_toArray]; omega)
 rw [hq, hs]
 have HQ := Lib.hid hq; clear hq hs hadd
 go_wp2_with fail
 refine (AtoiW_any s _ (HOK.out.next HBw2.out) HSZ.out).mono ?_
 rintro e w3 ⟨hbw3, n, ev, rfl, hokn, hor⟩
 clear cp3 cp7 cd3 cd7
 have HBw3 := Lib.hid (HBw2.out.trans (hbw3.mono HBw2.out.size))
 have pw3 := Lib.hid (pw2.out.kept (grown_none hbw3) (fun e => by cases e))
 have dw3 := Lib.hid (HXdw2.out.kept (grown_none hbw3) (fun e => by cases e))
 clear hbw3
 have cp3 := pw3.out.1 3 _ rfl
 have cp7 := pw3.out.1 7 _ rfl
 have cd3 := dw3.out.1 3 _ rfl
 have cd7 := dw3.out.1 7 _ rfl
 have HOKN := Lib.hid hokn; clear hokn
 cases q
 ·
  have HR := Lib.hid (show partD p d = 0 by unfold partD; split; exact numR_no HQ.out; rfl)
  rcases hor with ⟨hv, rfl⟩ | ⟨hv, te, pe, rfl⟩
  ·
   clear hv
   go_wp2
   go_ret2
   exact ⟨by rw [HR.out]; rfl, HBw3.out⟩
  ·
   clear hv
   go_wp2
   go_ret2
   exact ⟨by rw [HR.out]; rfl, HBw3.out⟩
 ·
  rcases hor with ⟨hv, rfl⟩ | ⟨hv, te, pe, rfl⟩
  ·
   have HV := Lib.hid (show Lib.atoiAll (Lib.trimPrefix d.orig.data.toList (p.orig ++ ⟨#[112]⟩).data.toList) = .ok n by rw [HS.out]; exact hv); clear hv
   by_cases h1 : n < 1
   ·
    have HR := Lib.hid (show partD p d = 0 by unfold partD; split; exact numR_range HV.out (.inl h1); rfl)
    go_wp2
    go_ret2
    exact ⟨by rw [HR.out]; rfl, HBw3.out⟩
   ·
    by_cases h2 : n > 16
    ·
     have HR := Lib.hid (show partD p d = 0 by unfold partD; split; exact numR_range HV.out (.inr h2); rfl)
     go_wp2
     go_ret2
     exact ⟨by rw [HR.out]; rfl, HBw3.out⟩
    ·
     obtain ⟨k, rfl⟩ : ∃ k : Nat, n = (k : Int) := ⟨n.toNat, by omega⟩
     have hk : k ≤ 16 := by omega
     have HK := Lib.hid (show 1 ≤ k ∧ k ≤ 16 by omega)
     have h1' : ¬ (k : Int) < 1 := h1
     have h2' : ¬ (16 : Int) < (k : Int) := by omega
     go_wp2_with fail
     refine (ItoaS_any k _ hk).mono ?_
     rintro e w' ⟨rfl, hw_⟩
     rw [hw_]; clear hw_ w'
     have hit : Lib.itoa (k : Int) = (itB k).data.toList := by unfold itB; simp
     obtain ⟨z, hz⟩ : ∃ z, itB k = z := ⟨_, rfl⟩
     rw [hz] at hit ⊢
     have HIT := Lib.hid hit; clear hit hz
     by_cases hq : z = s
     ·
      have p1 : (z.toList == s.toList) = true := by rw [ba_beq]; exact decide_eq_true hq
      have p2 : (!z.toList == s.toList) = false := by rw [p1]; rfl
      have p3 : (z.toList != s.toList) = false := p2
      have HNUM := Lib.hid (show numR p.orig d.orig = k from numR_yes HQ.out (by rw [HIT.out, HS.out, hq]) HK.out.1 HK.out.2); clear hq
      by_cases k1 : d.kind = 2
      ·
       have e1 : (d.kind != 2) = false := by simp [k1]
       by_cases k2 : p.kind = 2
       ·
        have e2 : (p.kind != 2) = false := by simp [k2]
        have HR := Lib.hid (show partD p d = k by unfold partD; rw [if_pos ⟨k1, k2⟩]; exact HNUM.out); clear k1 k2
        go_wp2
        go_ret2
        exact ⟨by rw [HR.out, decide_eq_true (show k ≠ 0 by have := HK.out; omega)]; rfl, HBw3.out⟩
       ·
        have e2 : (p.kind != 2) = true := by simp [k2]
        have HR := Lib.hid (show partD p d = 0 by unfold partD; rw [if_neg (fun h => k2 h.2)]); clear k1 k2
        go_wp2
        go_ret2
        exact ⟨by rw [HR.out]; rfl, HBw3.out⟩
      ·
       have e1 : (d.kind != 2) = true := by simp [k1]
       have HR := Lib.hid (show partD p d = 0 by unfold partD; rw [if_neg (fun h => k1 h.1)]); clear k1
       go_wp2
       go_ret2
       exact ⟨by rw [HR.out]; rfl, HBw3.out⟩
     ·
      have p1 : (z.toList == s.toList) = false := by rw [ba_beq]; exact decide_eq_false hq
      have p2 : (!z.toList == s.toList) = true := by rw [p1]; rfl
      have p3 : (z.toList != s.toList) = true := p2
      have HR := Lib.hid (show partD p d = 0 by unfold partD; split; exact numR_digs HV.out (by rw [HIT.out, HS.out]; intro h; exact hq (ba_ext h)); rfl); clear hq
      go_wp2
      go_ret2
      exact ⟨by rw [HR.out]; rfl, HBw3.out⟩
  ·
   have HR := Lib.hid (show partD p d = 0 by unfold partD; split; exact numR_atoi (fun m => by rw [HS.out]; exact hv m); rfl); clear hv
   go_wp2
   go_ret2
   exact ⟨by rw [HR.out]; rfl, HBw3.out⟩
set_option maxRecDepth 100000 in
set_option maxHeartbeats 1000000 in
/-- relate.Partition. -/
theorem Partition_any (A : Option Addr) (c : Nat) (L : List Dev) (n : Int) (w : World) (B : Nat) (hB : B ≤ w.heap.size) (hx : Sl w B A c L) (hv : VT L) (hok : OkA w) :
  Calls Tryz.prog 51 #[.agg #[.slice A L.length c], .int .i64 n] w fun e w' => e = .returned (.tuple #[.int .i64 (partO L n : Int), .bool (decide (partO L n ≠ 0))]) ∧ Below w.heap.size w w' := by
 have hx1 := hx.1; have hx2 := hx.2.1
 unfold maxLen at hx2
 have HX := Lib.hid hx; have HB := Lib.hid hB; have HV := Lib.hid hv; have HOK := Lib.hid hok; clear hx hB hv hok
 have HLA := Lib.hid (show ∀ d ∈ L, d.attrs.length ≤ 1000000 from fun d hd => attrs_le (HV.out.chk d hd))
 go_enter Tryz.func51, Tryz.ntmps51
 go_upto_region 1 with fail
 obtain ⟨w1, hw1⟩ : ∃ w1, w.alloc (.cells #[.slice A L.length c] 57) = w1 := ⟨_, rfl⟩
 have hbw1 : Below w.heap.size w w1 := by rw [← hw1]; exact (Below.refl _ _).alloc (Nat.le_refl _) _
 have HGw1 := Lib.hid (show w1.heap.size = w.heap.size + 1 by rw [← hw1]; simp)
 have HXtw1 := Lib.hid (show BoxL w1 w.heap.size [.slice A L.length c] from box_mk hw1)
 try simp only [hw1]
 have HBw1 := Lib.hid hbw1
 clear hw1 hbw1
 try rw [show w.heap.size + 1 = w1.heap.size from HGw1.out.symm]
 have ct0 := HXtw1.out.1 0 _ rfl
 go_wp2_with fail
 refine (TFind_any A c L (n) _ B (Nat.le_trans HB.out HBw1.out.size) (HX.out.keep (HBw1.out.mono HB.out)) HLA.out).mono ?_
 rintro e w2 ⟨hbw2, d, A3, c3, hd, rfl, hod, -⟩
 clear ct0
 have HBw2 := Lib.hid (HBw1.out.trans (hbw2.mono HBw1.out.size))
 have tw2 := Lib.hid (HXtw1.out.kept (grown_none hbw2) (fun e => by cases e))
 clear hbw2
 have ct0 := tw2.out.1 0 _ rfl
 have Hd := Lib.hid (show d = (findD L (n)).getD zeroD from hd); have HOd := Lib.hid hod; clear hd hod
 obtain ⟨q, hq⟩ : ∃ q, (L.find? (byIdx (n))).isSome = q := ⟨_, rfl⟩
 rw [hq]
 have Hq := Lib.hid (show (findD L (n)).isSome = q from hq); clear hq
 go_upto_region 2 with fail
 obtain ⟨w3, hw3⟩ : ∃ w3, w2.alloc (.cells #[.int .i64 d.idx, .int .i64 d.par, .string d.nm, .string d.orig, .string d.sub, .string d.drv, .string d.ali, .int .i64 d.kind, .int .i64 d.num, .slice A3 d.attrs.length c3] 43) = w3 := ⟨_, rfl⟩
 have hbw3 : Below w2.heap.size w2 w3 := by rw [← hw3]; exact (Below.refl _ _).alloc (Nat.le_refl _) _
 have HGw3 := Lib.hid (show w3.heap.size = w2.heap.size + 1 by rw [← hw3]; simp)
 have HXaw3 := Lib.hid (show BoxL w3 w2.heap.size [.int .i64 d.idx, .int .i64 d.par, .string d.nm, .string d.orig, .string d.sub, .string d.drv, .string d.ali, .int .i64 d.kind, .int .i64 d.num, .slice A3 d.attrs.length c3] from box_mk hw3)
 try simp only [hw3]
 have HBw3 := Lib.hid (HBw2.out.trans (hbw3.mono HBw2.out.size))
 have tw3 := Lib.hid (tw2.out.kept (grown_none hbw3) (fun e => by cases e))
 clear hw3 hbw3
 try rw [show w2.heap.size + 1 = w3.heap.size from HGw3.out.symm]
 clear ct0
 have ct0 := tw3.out.1 0 _ rfl
 have ca0 := HXaw3.out.1 0 _ rfl
 have ca1 := HXaw3.out.1 1 _ rfl
 have ca2 := HXaw3.out.1 2 _ rfl
 have ca3 := HXaw3.out.1 3 _ rfl
 have ca4 := HXaw3.out.1 4 _ rfl
 have ca5 := HXaw3.out.1 5 _ rfl
 have ca6 := HXaw3.out.1 6 _ rfl
 have ca7 := HXaw3.out.1 7 _ rfl
 have ca8 := HXaw3.out.1 8 _ rfl
 have ca9 := HXaw3.out.1 9 _ rfl
 go_wp2_with fail
 refine (TFind_any A c L (d.par) _ B (Nat.le_trans HB.out HBw3.out.size) (HX.out.keep (HBw3.out.mono HB.out)) HLA.out).mono ?_
 rintro e w4 ⟨hbw4, p, A4, c4, hp, rfl, hop, -⟩
 clear ct0 ca0 ca1 ca2 ca3 ca4 ca5 ca6 ca7 ca8 ca9
 have HBw4 := Lib.hid (HBw3.out.trans (hbw4.mono HBw3.out.size))
 have tw4 := Lib.hid (tw3.out.kept (grown_none hbw4) (fun e => by cases e))
 have aw4 := Lib.hid (HXaw3.out.kept (grown_none hbw4) (fun e => by cases e))
 clear hbw4
 have ct0 := tw4.out.1 0 _ rfl
 have ca0 := aw4.out.1 0 _ rfl
 have ca1 := aw4.out.1 1 _ rfl
 have ca2 := aw4.out.1 2 _ rfl
 have ca3 := aw4.out.1 3 _ rfl
 have ca4 := aw4.out.1 4 _ rfl
 have ca5 := aw4.out.1 5 _ rfl
 have ca6 := aw4.out.1 6 _ rfl
 have ca7 := aw4.out.1 7 _ rfl
 have ca8 := aw4.out.1 8 _ rfl
 have ca9 := aw4.out.1 9 _ rfl
 have Hp := Lib.hid (show p = (findD L (d.par)).getD zeroD from hp); have HOp := Lib.hid hop; clear hp hop
 obtain ⟨r, hr⟩ : ∃ q, (L.find? (byIdx (d.par))).isSome = q := ⟨_, rfl⟩
 rw [hr]
 have Hr := Lib.hid (show (findD L (d.par)).isSome = r from hr); clear hr
 go_upto_region 3 with fail
 obtain ⟨w5, hw5⟩ : ∃ w5, w4.alloc (.cells #[.int .i64 p.idx, .int .i64 p.par, .string p.nm, .string p.orig, .string p.sub, .string p.drv, .string p.ali, .int .i64 p.kind, .int .i64 p.num, .slice A4 p.attrs.length c4] 43) = w5 := ⟨_, rfl⟩
 have hbw5 : Below w4.heap.size w4 w5 := by rw [← hw5]; exact (Below.refl _ _).alloc (Nat.le_refl _) _
 have HGw5 := Lib.hid (show w5.heap.size = w4.heap.size + 1 by rw [← hw5]; simp)
 have HXbw5 := Lib.hid (show BoxL w5 w4.heap.size [.int .i64 p.idx, .int .i64 p.par, .string p.nm, .string p.orig, .string p.sub, .string p.drv, .string p.ali, .int .i64 p.kind, .int .i64 p.num, .slice A4 p.attrs.length c4] from box_mk hw5)
 try simp only [hw5]
 have HBw5 := Lib.hid (HBw4.out.trans (hbw5.mono HBw4.out.size))
 have tw5 := Lib.hid (tw4.out.kept (grown_none hbw5) (fun e => by cases e))
 have aw5 := Lib.hid (aw4.out.kept (grown_none hbw5) (fun e => by cases e))
 clear hw5 hbw5
 try rw [show w4.heap.size + 1 = w5.heap.size from HGw5.out.symm]
 clear ct0 ca0 ca1 ca2 ca3 ca4 ca5 ca6 ca7 ca8 ca9
 have ct0 := tw5.out.1 0 _ rfl
 have ca0 := aw5.out.1 0 _ rfl
 have ca1 := aw5.out.1 1 _ rfl
 have ca2 := aw5.out.1 2 _ rfl
 have ca3 := aw5.out.1 3 _ rfl
 have ca4 := aw5.out.1 4 _ rfl
 have ca5 := aw5.out.1 5 _ rfl
 have ca6 := aw5.out.1 6 _ rfl
 have ca7 := aw5.out.1 7 _ rfl
 have ca8 := aw5.out.1 8 _ rfl
 have ca9 := aw5.out.1 9 _ rfl
 have cb0 := HXbw5.out.1 0 _ rfl
 have cb1 := HXbw5.out.1 1 _ rfl
 have cb2 := HXbw5.out.1 2 _ rfl
 have cb3 := HXbw5.out.1 3 _ rfl
 have cb4 := HXbw5.out.1 4 _ rfl
 have cb5 := HXbw5.out.1 5 _ rfl
 have cb6 := HXbw5.out.1 6 _ rfl
 have cb7 := HXbw5.out.1 7 _ rfl
 have cb8 := HXbw5.out.1 8 _ rfl
 have cb9 := HXbw5.out.1 9 _ rfl
 cases q
 ·
  have HR := Lib.hid (show partO L n = 0 by refine part_no1 ?_; have h1 := Hq.out; cases h : findD L n with | none => rfl | some _ => rw [h] at h1; cases h1)
  go_wp2
  go_ret2
  exact ⟨by rw [HR.out]; rfl, HBw5.out⟩
 ·
  have HF := Lib.hid (show findD L n = some d by have h1 := Hq.out; have h2 := Hd.out; cases h : findD L n with | none => rw [h] at h1; cases h1 | some x => rw [h] at h2; rw [h2]; rfl)
  cases r
  ·
   have HR := Lib.hid (show partO L n = 0 by refine part_no2 HF.out ?_; have h1 := Hr.out; cases h : findD L d.par with | none => rfl | some _ => rw [h] at h1; cases h1)
   go_wp2
   go_ret2
   exact ⟨by rw [HR.out]; rfl, HBw5.out⟩
  ·
   have HF2 := Lib.hid (show findD L d.par = some p by have h1 := Hr.out; have h2 := Hp.out; cases h : findD L d.par with | none => rw [h] at h1; cases h1 | some x => rw [h] at h2; rw [h2]; rfl)
   have HSD := Lib.hid (show d.orig.size ≤ 32 by have := findD_small HV.out n; rw [← Hd.out] at this; exact this); have HSP := Lib.hid (show p.orig.size ≤ 32 by have := findD_small HV.out d.par; rw [← Hp.out] at this; exact this)
   go_wp2_with fail
   refine (partition_any p d A4 A3 c4 c3 _ HSP.out HSD.out (HOK.out.next HBw5.out)).mono ?_
   rintro e w6 ⟨rfl, hbw6⟩
   clear ct0 ca0 ca1 ca2 ca3 ca4 ca5 ca6 ca7 ca8 ca9 cb0 cb1 cb2 cb3 cb4 cb5 cb6 cb7 cb8 cb9
   have HBw6 := Lib.hid (HBw5.out.trans (hbw6.mono HBw5.out.size))
   have tw6 := Lib.hid (tw5.out.kept (grown_none hbw6) (fun e => by cases e))
   have aw6 := Lib.hid (aw5.out.kept (grown_none hbw6) (fun e => by cases e))
   have bw6 := Lib.hid (HXbw5.out.kept (grown_none hbw6) (fun e => by cases e))
   clear hbw6
   rw [← part_of HF.out HF2.out]
   obtain ⟨z, hz⟩ : ∃ z, (partO L n : Int) = z := ⟨_, rfl⟩
   obtain ⟨z2, hz2⟩ : ∃ z, decide (partO L n ≠ 0) = z := ⟨_, rfl⟩
   rw [hz, hz2]
   have HZ := Lib.hid hz; have HZ2 := Lib.hid hz2; clear hz hz2
   go_wp2
   go_ret2
   exact ⟨by rw [HZ.out, HZ2.out]; rfl, HBw6.out⟩
end Go.Proofs.YtehmidmoiamcfaaGreatDoor
