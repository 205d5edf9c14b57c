/-
  The walk of partition.Wants.
-/
import Derived.Test.YtehmidmoiamcfaaGreatDoorESO
import Derived.Test.YtehmidmoiamcfaaGreatDoorEN
import Derived.Deep.RegionHeld3
import Derived.OrdersIn
import Derived.OwnWalkIn
import Derived.OrdersHeld
import Derived.Deep.RegionHeld
import Derived.Test.YtehmidmoiamcfaaGreatDoorEK
import Derived.Maps.OwnIn
set_option linter.unusedSimpArgs false
set_option linter.unusedVariables false
namespace Go.Cold
open Go Go.RowKit
/-- What a device wants. -/
noncomputable def wantsD (d : Dev) (origin : ByteArray) (round : Int) : List Virt := if d.kind = 2 then wantsV d.orig origin round (innerG ((getA d.attrs ⟨#[99, 111, 110, 116, 101, 110, 116]⟩).getD ByteArray.empty) 5) else []
/-- What the closure adds. -/
def wantOne (o origin : ByteArray) (round : Int) (k : Int) (s : ByteArray) : List Virt := if ptOk o k then [⟨origin, ptName o k, s, round⟩] else []
theorem attr_sizes {w : World} {B c : Nat} {A : Option Addr} {xs : List Attr} (h : Sl w B A c xs) : ∀ a ∈ xs, a.value.size ≤ maxLen := fun a ha => by
  obtain ⟨i, hi, rfl⟩ := List.getElem_of_mem ha
  obtain ⟨b, o, e, hlt, h1, _⟩ := h.attr hi
  exact h1.2
/-- Where Wants stands: the device's box gd, the boxes of origin go and round gr, the list's gl; acc is gathered. -/
def WaSt (w0 : World) (gd go gr gl base : Nat) (T : TypeId) (dc : List Value) (origin : ByteArray) (round : Int) (A : Option Addr) (c : Nat) (inner : List ByteArray) (acc : List Virt) (w : World) : Prop :=
  Below w0.heap.size w0 w ∧ BoxL w gd dc ∧ BoxL w go [.string origin] ∧ BoxL w gr [.int .i64 round] ∧ SlS w (fun x => x < base ∧ x ≠ gl) A c inner ∧ (∃ v, BoxL w gl [v] ∧ OwnsS (fun _ => False) w base T v acc) ∧
    (w0.heap.size ≤ gl ∧ gl < base ∧ base ≤ w.heap.size) ∧ (gd ≠ gl ∧ go ≠ gl ∧ gr ≠ gl) ∧ gd < base ∧ go < base ∧ gr < base
section
variable {w0 w w' : World} {gd go gr gl base : Nat} {T : TypeId} {dc : List Value} {origin : ByteArray} {round : Int} {A : Option Addr} {c : Nat} {inner : List ByteArray} {acc : List Virt}
theorem WaSt.below (h : WaSt w0 gd go gr gl base T dc origin round A c inner acc w) (hb : Below w.heap.size w w') : WaSt w0 gd go gr gl base T dc origin round A c inner acc w' := by
  obtain ⟨h1, h2, h3, h4, h5, ⟨v, h6, h7⟩, ⟨h8, h9, h10⟩, h11, h12⟩ := h
  have hg := grown_none hb
  exact ⟨h1.trans (hb.mono h1.size), h2.kept hg (fun e => by cases e), h3.kept hg (fun e => by cases e), h4.kept hg (fun e => by cases e), h5.below hb (fun x hx => by omega), ⟨v, h6.kept hg (fun e => by cases e), h7.below hb⟩, ⟨h8, h9, by have := hb.size; omega⟩, h11, h12⟩
/-- One more is gathered: the row grew, its value is stored. -/
theorem WaSt.put {v v' : Value} {y : Virt} (h1 : Below w0.heap.size w0 w) (h2 : BoxL w gd dc) (h3 : BoxL w go [.string origin]) (h4 : BoxL w gr [.int .i64 round]) (h5 : SlS w (fun x => x < base ∧ x ≠ gl) A c inner) (h6 : BoxL w gl [v]) (h7 : OwnsS (fun _ => False) w base T v acc)
    (h8 : w0.heap.size ≤ gl ∧ gl < base ∧ base ≤ w.heap.size) (h11 : gd ≠ gl ∧ go ≠ gl ∧ gr ≠ gl) (h12 : gd < base ∧ go < base ∧ gr < base) (hown : OwnsS (fun _ => False) w' base T v' (acc ++ [y])) (hg : w.grownBy w' v.ownBlock) :
    WaSt w0 gd go gr gl base T dc origin round A c inner (acc ++ [y]) (w'.setCell ⟨gl, 0, none⟩ v') := by
  have hlt := h7.lt
  have hne : ∀ g, g < base → some g ≠ v.ownBlock := fun g hg e => by have := (hlt g e.symm).1; omega
  have hsl : SlS w' (fun x => x < base ∧ x ≠ gl) A c inner := h5.mono (fun _ h => h) (fun b o u hb hu => hg.cell hu (hne b hb.1))
  have hown' : OwnsS (fun _ => False) (w'.setCell ⟨gl, 0, none⟩ v') base T v' (acc ++ [y]) := hown.grownb (grown_one _ _ _ _) (fun _ h => h.elim) h8.2.1
  refine ⟨(h1.grown hg (by omega) (fun q hq => by have := (hlt q hq).1; omega)).setCell (by exact h8.1) _, (h2.kept hg (hne _ h12.1)).far (fun e => h11.1 e.symm) _, (h3.kept hg (hne _ h12.2.1)).far (fun e => h11.2.1 e.symm) _, (h4.kept hg (hne _ h12.2.2)).far (fun e => h11.2.2 e.symm) _, hsl.set_ (fun x hx => hx.2) _, ⟨v', ?_, hown'⟩, ⟨h8.1, h8.2.1, by have := hg.size; simp; omega⟩, h11, h12⟩
  exact (h6.kept hg (hne _ h8.2.1)).set_ (j := 0) (by simp) v'
end
end Go.Cold
namespace Go.Proofs.YtehmidmoiamcfaaGreatDoor
open Go.RowKit Go.Cold
theorem info_virt : (Tryz.prog.info? 46).map (fun i => (i.zero, i.size, i.bytes)) = some (some (.agg #[.string ByteArray.empty, .string ByteArray.empty, .string ByteArray.empty, .int .i64 0]), 4, 56) := by kernel_rfl
theorem E_virt : ElemT Tryz.prog (Rep.size Virt) 46 39 56 := ⟨Tryz.underlying39, by obtain ⟨i, hi, hz, h1, h2⟩ := info_parts info_virt; exact ⟨i, _, hi, hz, h1, h2, rfl⟩⟩
def devC (d : Dev) (A : Option Addr) (c : Nat) : List Value := [.int .i64 d.idx, .int .i64 d.par, .string d.nm, .string d.orig, .string d.sub, .string d.drv, .string d.ali, .int .i64 d.kind, .int .i64 d.num, .slice A d.attrs.length c]
abbrev WaT (w0 : World) (gd go gr gl base : Nat) (d : Dev) (A3 : Option Addr) (c3 : Nat) (origin : ByteArray) (round : Int) (A : Option Addr) (c : Nat) (inner : List ByteArray) (acc : List Virt) (w : World) : Prop :=
  WaSt w0 gd go gr gl base 46 (devC d A3 c3) origin round A c inner acc w
set_option maxRecDepth 100000 in
set_option maxHeartbeats 4000000 in
/-- The closure of partition.Wants. -/
theorem Wants1_any (w0 : World) (gd go gr gl base : Nat) (d : Dev) (A3 : Option Addr) (c3 : Nat) (origin : ByteArray) (round : Int) (A : Option Addr) (c : Nat) (inner : List ByteArray) (acc : List Virt) (k : Int) (s : ByteArray) (w : World)
    (h : WaT w0 gd go gr gl base d A3 c3 origin round A c inner acc w) (hok : Ok7 w) (hk : okI k) (hd : d.orig.size ≤ maxLen - 30) (ho : origin.size ≤ maxLen) (hr : okI round) (hs : s.size ≤ maxLen) (ha : acc.length ≤ 16) :
    Calls Tryz.prog 43 #[.int .i64 k, .string s, .pointer (some ⟨gd, 0, none⟩), .pointer (some ⟨gl, 0, none⟩), .pointer (some ⟨go, 0, none⟩), .pointer (some ⟨gr, 0, none⟩)] w
      fun e w' => e = .returned (.tuple #[]) ∧ WaT w0 gd go gr gl base d A3 c3 origin round A c inner (acc ++ wantOne d.orig origin round k s) w' := by
  have hnm := ptName_size (o := d.orig) hk
  have HOK := Lib.hid hok; have HH := Lib.hid h; have HV := Lib.hid (show virtOk ⟨origin, ptName d.orig k, s, round⟩ from ⟨ho, by show (ptName d.orig k).size ≤ maxLen; unfold maxLen at *; omega, hs, hr⟩); have HA := Lib.hid ha
  have HK := Lib.hid hk; have HD := Lib.hid hd
  obtain ⟨v0, hv0, -⟩ := h.2.2.2.2.2.1
  have x3 := h.2.1.1 3 _ rfl
  clear h hok hnm hd ho hr hs ha hv0
  go_enter Tryz.func43, Tryz.ntmps43
  go_wp2_with fail
  refine (PName_any d.orig k _ HOK.out HK.out HD.out).mono ?_
  rintro e w1 ⟨rfl, hb1⟩
  have HH1 := Lib.hid (HH.out.below hb1)
  clear hb1 x3
  obtain ⟨q, hq⟩ : ∃ q, ptOk d.orig k = q := ⟨_, rfl⟩
  have HQ := Lib.hid hq
  cases q
  · obtain ⟨n1, n2⟩ := ptNo (o := d.orig) (k := k) hq
    rw [n1, n2]
    clear n1 n2 hq
    go_wp2
    go_end0
    exact ⟨rfl, by unfold wantOne; rw [if_neg (by rw [HQ.out]; exact Bool.false_ne_true), List.append_nil]; exact HH1.out⟩
  · obtain ⟨n1, n2⟩ := ptYes (o := d.orig) (k := k) hq
    rw [n1, n2]
    clear n1 n2 hq
    obtain ⟨nm, hnm⟩ : ∃ nm, ptName d.orig k = nm := ⟨_, rfl⟩
    rw [hnm] at HV ⊢
    have HNM := Lib.hid hnm
    clear hnm
    obtain ⟨v, hvb, hvo⟩ := HH1.out.2.2.2.2.2.1
    obtain ⟨w2, hw2⟩ : ∃ w2, w1.alloc (.cells #[.string origin, .string nm, .string s, .int .i64 round] 46) = w2 := ⟨_, rfl⟩
    have hb2 : Below w1.heap.size w1 w2 := by rw [← hw2]; exact (Below.refl _ _).alloc (Nat.le_refl _) _
    have HCT := Lib.hid (lit_cells hw2 (l := [.string origin, .string nm, .string s, .int .i64 round]) rfl)
    have HH2 := Lib.hid (HH1.out.below hb2)
    have HVB2 := Lib.hid (hvb.kept (grown_none hb2) (fun e => by cases e)); have HVO2 := Lib.hid (hvo.below hb2)
    have HBS := Lib.hid (show base ≤ w2.heap.size from HH2.out.2.2.2.2.2.2.1.2.2)
    have y0 := hvb.1 0 _ rfl
    have yo := HH1.out.2.2.1.1 0 _ rfl
    have yr := HH1.out.2.2.2.1.1 0 _ rfl
    obtain ⟨Av, cv, rfl, -⟩ := hvo.cs
    have z0 := HVB2.out.1 0 _ rfl
    have zf := HVB2.out.2.1
    clear hb2 hvb hvo
    go_wp2_with (at_builtin; go_must (refine wpList_app1 E_virt rfl _ _ rfl _ _ rfl HVO2.out w1.heap.size rfl ⟨origin, nm, s, round⟩ [.string origin, .string nm, .string s, .int .i64 round] HCT.out ⟨rfl, HV.out⟩ (by have := HA.out; unfold maxLen; omega) (by have := HA.out; omega) HBS.out ?_); intro v' w3 hown_ hgrow_ hnew_; obtain ⟨A9, c9, rfl, -⟩ := hown_.cs; have HOWN := Lib.hid hown_; have HGROW := Lib.hid hgrow_; have f0 := (HVB2.out.kept hgrow_ (fun e => by have := (HVO2.out.lt _ e.symm).1; have := HH2.out.2.2.2.2.2.2.1; omega)).1 0 _ rfl; have f1 := (HVB2.out.kept hgrow_ (fun e => by have := (HVO2.out.lt _ e.symm).1; have := HH2.out.2.2.2.2.2.2.1; omega)).2.1; clear hown_ hgrow_ hnew_ z0 zf)
    try go_wp2
    go_end0
    have hh := HH2.out
    have how := HOWN.out
    rw [List.length_append, List.length_singleton] at how
    unfold wantOne
    rw [if_pos HQ.out, HNM.out]
    exact ⟨rfl, WaSt.put hh.1 hh.2.1 hh.2.2.1 hh.2.2.2.1 hh.2.2.2.2.1 HVB2.out HVO2.out hh.2.2.2.2.2.2.1 hh.2.2.2.2.2.2.2.1 hh.2.2.2.2.2.2.2.2 how HGROW.out⟩
def WantsPost (d : Dev) (origin : ByteArray) (round : Int) (w : World) (e : Ending) (w' : World) : Prop := Below w.heap.size w w' ∧ ∃ v, e = .returned v ∧ OwnsS (fun _ => False) w' w.heap.size 46 v (wantsD d origin round)
set_option maxRecDepth 100000 in
set_option maxHeartbeats 4000000 in
/-- partition.Wants. -/
theorem Wants_any (A : Option Addr) (c : Nat) (d : Dev) (origin : ByteArray) (round : Int) (w : World) (B : Nat) (hB : B ≤ w.heap.size) (hx : Sl w B A c d.attrs) (hok : Ok7 w) (hd : d.orig.size ≤ maxLen - 30) (ho : origin.size ≤ maxLen) (hr : okI round) :
    Calls Tryz.prog 18 #[.agg #[.int .i64 d.idx, .int .i64 d.par, .string d.nm, .string d.orig, .string d.sub, .string d.drv, .string d.ali, .int .i64 d.kind, .int .i64 d.num, .slice A d.attrs.length c], .string origin, .int .i64 round] w (WantsPost d origin round w) := by
  have hsz := getA_size (n := ⟨#[99, 111, 110, 116, 101, 110, 116]⟩) (attr_sizes hx)
  have hen := enters_of Tryz.func43 (by kernel_rfl) rfl
  have HX := Lib.hid hx; have HB := Lib.hid hB; have HOK := Lib.hid hok; have HD := Lib.hid hd; have HO := Lib.hid ho; have HR := Lib.hid hr; have HSZ := Lib.hid hsz
  clear hx hB hok hd ho hr hsz
  go_enter Tryz.func18, Tryz.ntmps18
  go_upto_region 1 with fail
  obtain ⟨w1, hw1⟩ : ∃ w1, w.alloc (.cells #[.int .i64 d.idx, .int .i64 d.par, .string d.nm, .string d.orig, .string d.sub, .string d.drv, .string d.ali, .int .i64 d.kind, .int .i64 d.num, .slice A d.attrs.length c] 43) = w1 := ⟨_, rfl⟩
  have hb1 : Below w.heap.size w w1 := by rw [← hw1]; exact (Below.refl _ _).alloc (Nat.le_refl _) _
  have hd1 : BoxL w1 w.heap.size (devC d A c) := box_mk hw1
  have HG1 := Lib.hid (show w1.heap.size = w.heap.size + 1 by rw [← hw1]; simp)
  try simp only [hw1]
  try rw [show w.heap.size + 1 = w1.heap.size from HG1.out.symm]
  obtain ⟨w2, hw2⟩ : ∃ w2, w1.alloc (.cells #[.string origin] 9) = w2 := ⟨_, rfl⟩
  have hb2 : Below w1.heap.size w1 w2 := by rw [← hw2]; exact (Below.refl _ _).alloc (Nat.le_refl _) _
  have ho2 : BoxL w2 w1.heap.size [.string origin] := box_mk hw2
  have HG2 := Lib.hid (show w2.heap.size = w1.heap.size + 1 by rw [← hw2]; simp)
  try simp only [hw2]
  try rw [show w1.heap.size + 1 = w2.heap.size from HG2.out.symm]
  obtain ⟨w3, hw3⟩ : ∃ w3, w2.alloc (.cells #[.int .i64 round] 3) = w3 := ⟨_, rfl⟩
  have hb3 : Below w2.heap.size w2 w3 := by rw [← hw3]; exact (Below.refl _ _).alloc (Nat.le_refl _) _
  have hr3 : BoxL w3 w2.heap.size [.int .i64 round] := box_mk hw3
  have HG3 := Lib.hid (show w3.heap.size = w2.heap.size + 1 by rw [← hw3]; simp)
  try simp only [hw3]
  have hb13 : Below w1.heap.size w1 w3 := hb2.trans (hb3.mono hb2.size)
  have HB3 := Lib.hid (hb1.trans (hb13.mono hb1.size))
  have HD3 := Lib.hid (hd1.kept (grown_none hb13) (fun e => by cases e)); have HO3 := Lib.hid (ho2.kept (grown_none hb3) (fun e => by cases e)); have HR3 := Lib.hid hr3
  clear hw1 hw2 hw3 hb1 hb2 hb3 hb13 hd1 ho2 hr3
  have x9 := HD3.out.1 9 _ rfl
  go_wp2_with fail
  refine (Get_any A c d.attrs ⟨#[99, 111, 110, 116, 101, 110, 116]⟩ _ B (Nat.le_trans HB.out HB3.out.size) (HX.out.keep (HB3.out.mono HB.out))).mono ?_
  rintro e w4 ⟨rfl, hb4⟩
  obtain ⟨txt, htxt⟩ : ∃ z, (getA d.attrs ⟨#[99, 111, 110, 116, 101, 110, 116]⟩).getD ByteArray.empty = z := ⟨_, rfl⟩
  obtain ⟨q0, hq0⟩ : ∃ z, (getA d.attrs ⟨#[99, 111, 110, 116, 101, 110, 116]⟩).isSome = z := ⟨_, rfl⟩
  have HWD := Lib.hid (show wantsD d origin round = if d.kind = 2 then wantsV d.orig origin round (innerG txt 5) else [] by unfold wantsD; rw [htxt])
  have HTS := Lib.hid (show txt.size ≤ maxLen by rw [← htxt]; exact HSZ.out)
  rw [htxt, hq0]
  have HB4 := Lib.hid (HB3.out.trans (hb4.mono HB3.out.size)); have hg4 := grown_none hb4
  have HD4 := Lib.hid (HD3.out.kept hg4 (fun e => by cases e)); have HO4 := Lib.hid (HO3.out.kept hg4 (fun e => by cases e)); have HR4 := Lib.hid (HR3.out.kept hg4 (fun e => by cases e))
  have HS4 := Lib.hid hb4.size
  clear htxt hq0 hb4 hg4 x9
  go_wp2_with fail
  refine (Read_any txt 5 _ HTS.out (HOK.out.below HB4.out)).mono ?_
  rintro e w5 ⟨hb5, k, i, l, s2, t, le, A5, n5, c5, A6, c6, rfl, hsl, hlen⟩
  have HB5 := Lib.hid (HB4.out.trans (hb5.mono HB4.out.size)); have hg5 := grown_none hb5
  have HD5 := Lib.hid (HD4.out.kept hg5 (fun e => by cases e)); have HO5 := Lib.hid (HO4.out.kept hg5 (fun e => by cases e)); have HR5 := Lib.hid (HR4.out.kept hg5 (fun e => by cases e))
  have HS5 := Lib.hid hb5.size
  obtain ⟨inner, hin⟩ : ∃ z, innerG txt 5 = z := ⟨_, rfl⟩
  obtain ⟨ok, hok⟩ : ∃ z, (readG txt 5).isSome = z := ⟨_, rfl⟩
  have HOKF := Lib.hid (show ok = false → inner = [] by
    rintro rfl
    rw [← hin]; unfold innerG
    cases h : readG txt 5 with
    | none => rfl
    | some _ => rw [h] at hok; cases hok)
  rw [hin] at hsl hlen HWD ⊢
  rw [hok]
  have HSL := Lib.hid hsl; have HLEN := Lib.hid hlen
  clear hb5 hg5 hin hok hsl hlen
  go_upto_region 3 with fail
  obtain ⟨w6, hw6⟩ : ∃ w6, w5.alloc (.cells #[.int .i64 k, .string i, .string l, .int .i64 s2, .int .i64 t, .int .i64 le, .slice A5 n5 c5] 36) = w6 := ⟨_, rfl⟩
  have hb6 : Below w5.heap.size w5 w6 := by rw [← hw6]; exact (Below.refl _ _).alloc (Nat.le_refl _) _
  have HG6 := Lib.hid (show w6.heap.size = w5.heap.size + 1 by rw [← hw6]; simp)
  try rw [hw6]
  have HB6 := Lib.hid (HB5.out.trans (hb6.mono HB5.out.size)); have hg6 := grown_none hb6
  have HD6 := Lib.hid (HD5.out.kept hg6 (fun e => by cases e)); have HO6 := Lib.hid (HO5.out.kept hg6 (fun e => by cases e)); have HR6 := Lib.hid (HR5.out.kept hg6 (fun e => by cases e))
  have HSL6 := Lib.hid (HSL.out.below hb6 (fun x hx => hx.2))
  clear hw6 hb6 hg6
  have x7 := HD6.out.1 7 _ rfl
  cases ok
  case false =>
    have HE := Lib.hid (show wantsD d origin round = [] by rw [HWD.out, HOKF.out rfl]; split <;> rfl)
    go_wp2
    go_ret
    exact ⟨HB6.out, _, rfl, by rw [HE.out]; exact OwnsS.nil_ _ _ _ _⟩
  by_cases hk2 : d.kind = 2
  case neg =>
    have p1 : (d.kind != 2) = true := by simpa using hk2
    have p2 : (d.kind == 2) = false := by simpa using hk2
    have HE := Lib.hid (show wantsD d origin round = [] by rw [HWD.out, if_neg hk2])
    clear hk2
    go_wp2
    go_ret
    exact ⟨HB6.out, _, rfl, by rw [HE.out]; exact OwnsS.nil_ _ _ _ _⟩
  have p1 : (d.kind != 2) = false := by simpa using hk2
  have p2 : (d.kind == 2) = true := by simpa using hk2
  have HWE := Lib.hid (show wantsD d origin round = wantsV d.orig origin round inner by rw [HWD.out, if_pos hk2])
  clear hk2
  go_upto_region 6 with fail
  obtain ⟨w7, hw7⟩ : ∃ w7, w6.alloc (.cells #[.slice none 0 0] 39) = w7 := ⟨_, rfl⟩
  have hb7 : Below w6.heap.size w6 w7 := by rw [← hw7]; exact (Below.refl _ _).alloc (Nat.le_refl _) _
  have hl7 : BoxL w7 w6.heap.size [.slice none 0 0] := box_mk hw7
  have HG7 := Lib.hid (show w7.heap.size = w6.heap.size + 1 by rw [← hw7]; simp)
  try rw [hw7]
  have hg7 := grown_none hb7
  have HST := Lib.hid (show WaT w w.heap.size w1.heap.size w2.heap.size w6.heap.size w7.heap.size d A c origin round A6 c6 inner [] w7 from
    ⟨HB6.out.trans (hb7.mono HB6.out.size), HD6.out.kept hg7 (fun e => by cases e), HO6.out.kept hg7 (fun e => by cases e), HR6.out.kept hg7 (fun e => by cases e), (HSL6.out.below hb7 (fun x hx => by have := HG6.out; omega)).mono (fun x hx => ⟨by have := HG6.out; have := HG7.out; omega, by have := HG6.out; omega⟩) (fun _ _ _ _ hu => hu),
     ⟨_, hl7, OwnsS.nil_ _ _ _ _⟩, ⟨by have := HB6.out.size; omega, by have := HG7.out; omega, Nat.le_refl _⟩, by have := HG1.out; have := HG2.out; have := HG3.out; have := HS4.out; have := HS5.out; have := HG6.out; omega, by have := HG1.out; have := HG2.out; have := HG3.out; have := HS4.out; have := HS5.out; have := HG6.out; have := HG7.out; omega⟩)
  clear hw7 hb7 hl7 hg7 x7 p1 p2
  go_wp2_with fail
  go_loopw [38] (fun i wr => ∃ j : Nat, j ≤ inner.length ∧ i = .int .i64 j ∧ Hid (WaT w w.heap.size w1.heap.size w2.heap.size w6.heap.size w7.heap.size d A c origin round A6 c6 inner (wantsV d.orig origin round (inner.take j)) wr)) (fun i _ => inner.length - (intOf i).toNat)
  case atStart => exact ⟨0, Nat.zero_le _, rfl, HST⟩
  case round =>
    clear HST
    obtain ⟨j, hj, rfl, HWR⟩ := hrel
    by_cases hlt : j < inner.length
    · have i1 : (j : Int) < (inner.length : Int) := by omega
      have hsl := HWR.out.2.2.2.2.1.sl (B := w7.heap.size) (fun x hx => hx.1)
      obtain ⟨b, o, rfl, hb, hcell, hsz⟩ := hsl.str hlt
      have hat : inner[j]? = some inner[j] := List.getElem?_eq_getElem hlt
      obtain ⟨s, hs⟩ : ∃ s, inner[j]'hlt = s := ⟨_, rfl⟩
      rw [hs] at hcell hsz hat
      have HAT := Lib.hid hat
      have HCALL := Lib.hid (Wants1_any w w.heap.size w1.heap.size w2.heap.size w6.heap.size w7.heap.size d A c origin round _ c6 inner (wantsV d.orig origin round (inner.take j)) ((j + 1 : Nat) : Int) s wr HWR.out (HOK.out.below HWR.out.1) (by have := HLEN.out; unfold okI; omega) HD.out HO.out HR.out (by omega) (by have h1 := wants_len d.orig origin round 1 (inner.take j); rw [List.length_take] at h1; have := HLEN.out; unfold wantsV; omega))
      have hwr1 : wrap64 ((j : Int) + 1) = ((j + 1 : Nat) : Int) := by have := HLEN.out; unfold wrap64; omega
      have hwr2 : IntKind.i64.wrap ((j : Int) + 1) = ((j + 1 : Nat) : Int) := by have := HLEN.out; rw [IntKind.wrap_i64]; omega
      clear hsl hat hs hsz hb
      go_wp2_with fail
      refine HCALL.out.mono ?_
      rintro e w8 ⟨rfl, hst⟩
      have HS8 := Lib.hid (show WaT w w.heap.size w1.heap.size w2.heap.size w6.heap.size w7.heap.size d A c origin round (some ⟨b, o, none⟩) c6 inner (wantsV d.orig origin round (inner.take (j + 1))) w8 by rw [wants_take HAT.out]; exact hst)
      clear hst hcell
      go_wp2
      go_roundw
      case rel => exact ⟨j + 1, by omega, by go_num, HS8⟩
      case measure => simp [intOf]; omega
    · have i1 : ¬ (j : Int) < (inner.length : Int) := by omega
      have htk : inner.take j = inner := List.take_of_length_le (by omega)
      have hwr := HWR.out
      rw [htk, ← HWE.out] at hwr
      obtain ⟨v, hvb, hvo⟩ := hwr.2.2.2.2.2.1
      have y0 := hvb.1 0 _ rfl
      have HFIN := Lib.hid (show OwnsS (fun _ => False) wr w.heap.size 46 v (wantsD d origin round) from hvo.low (by have := hwr.2.2.2.2.2.2.1; omega))
      have HBF := Lib.hid hwr.1
      clear hvb hvo hwr htk
      go_wp2
      go_ret
      exact ⟨HBF.out, _, rfl, HFIN.out⟩
end Go.Proofs.YtehmidmoiamcfaaGreatDoor
namespace Go.Proofs.YtehmidmoiamcfaaGreatDoor
open Go.RowKit Go.Cold
end Go.Proofs.YtehmidmoiamcfaaGreatDoor
namespace Go.Cold
open Go Go.RowKit
/-- The law's disk. -/
def diskD (o t : ByteArray) : Dev := ⟨1, 0, o, o, ⟨#[98, 108, 111, 99, 107]⟩, ByteArray.empty, ByteArray.empty, 2, 1, [⟨⟨#[99, 111, 110, 116, 101, 110, 116]⟩, t⟩]⟩
def Text31 (raw : ByteArray) (xs : List Int) (k B b : Nat) (w : World) (e : Ending) (w' : World) : Prop := ∃ (s : ByteArray) (k' : Nat), e = .returned (.string s) ∧ s.size ≤ raw.size + 2020 ∧ k' ≤ k + 3 ∧ TapeAt w' B b xs k' ∧ w.grownBy w' (some b)
theorem contM_at {m : Nat} (h : m < contM.length) {w : World} {g : Nat} (hb : BoxL w g (contM.map Value.string)) : w.cell? ⟨g, m, none⟩ = some (.string contM[m]) ∧ contM[m].size ≤ 1000 :=
 ⟨hb.1 m _ (by rw [List.getElem?_map, List.getElem?_eq_getElem h]; rfl), (show ∀ y ∈ contM, y.size ≤ 1000 by decide) _ (List.getElem_mem h)⟩
end Go.Cold
namespace Go.Proofs.YtehmidmoiamcfaaGreatDoor
open Go.RowKit Go.Cold
set_option maxRecDepth 100000 in
set_option maxHeartbeats 2000000 in
/-- coldpluglaw31.disk. -/
theorem disk_any (o t : ByteArray) (w : World) (ho : o.size ≤ maxLen) (ht : t.size ≤ maxLen) : Calls Tryz.prog 19 #[.string o, .string t] w fun e w' => Below w.heap.size w w' ∧ ∃ A c, e = .returned (.agg #[.int .i64 1, .int .i64 0, .string o, .string o, .string ⟨#[98, 108, 111, 99, 107]⟩, .string ByteArray.empty, .string ByteArray.empty, .int .i64 2, .int .i64 1, .slice A 1 c]) ∧ SlS w' (fun x => w.heap.size ≤ x ∧ x < w'.heap.size) A c (diskD o t).attrs := by
 have hzv := (zero_of_info (P := Tryz.prog) (t := 43) info_dev2).1
 go_enter Tryz.func19, Tryz.ntmps19
 go_upto_region 1 with fail
 obtain ⟨w1, hw1⟩ : ∃ w1, w.alloc (.cells #[.int .i64 0, .int .i64 0, .string ByteArray.empty, .string ByteArray.empty, .string ByteArray.empty, .string ByteArray.empty, .string ByteArray.empty, .int .i64 0, .int .i64 0, .slice none 0 0] 43) = w1 := ⟨_, rfl⟩
 have hb1 : Below w.heap.size w w1 := by rw [← hw1]; exact (Below.refl _ _).alloc (Nat.le_refl _) _
 have hx1 : BoxL w1 w.heap.size [.int .i64 0, .int .i64 0, .string ByteArray.empty, .string ByteArray.empty, .string ByteArray.empty, .string ByteArray.empty, .string ByteArray.empty, .int .i64 0, .int .i64 0, .slice none 0 0] := box_mk hw1
 have HG1 := Lib.hid (show w1.heap.size = w.heap.size + 1 by rw [← hw1]; simp)
 try simp only [hw1]
 clear hw1
 obtain ⟨w2, hw2⟩ : ∃ w2, w1.alloc (.cells #[.string ⟨#[99, 111, 110, 116, 101, 110, 116]⟩, .string t] 63) = w2 := ⟨_, rfl⟩
 have hb2 : Below w1.heap.size w1 w2 := by rw [← hw2]; exact (Below.refl _ _).alloc (Nat.le_refl _) _
 have hx2 : BoxL w2 w1.heap.size [.string ⟨#[99, 111, 110, 116, 101, 110, 116]⟩, .string t] := box_mk hw2
 have HG2 := Lib.hid (show w2.heap.size = w1.heap.size + 1 by rw [← hw2]; simp)
 have HB2 := Lib.hid (hb1.trans (hb2.mono hb1.size))
 have HX2 := Lib.hid hx2; have HR2 := Lib.hid (hx1.kept (grown_none hb2) (fun e => by cases e)); have HT := Lib.hid ht
 clear hb1 hb2 hx1 hx2 ho ht
 have cr0 := HR2.out.1 0 _ rfl; have cr1 := HR2.out.1 1 _ rfl; have cr2 := HR2.out.1 2 _ rfl; have cr3 := HR2.out.1 3 _ rfl; have cr4 := HR2.out.1 4 _ rfl; have cr5 := HR2.out.1 5 _ rfl; have cr6 := HR2.out.1 6 _ rfl; have cr7 := HR2.out.1 7 _ rfl; have cr8 := HR2.out.1 8 _ rfl; have cr9 := HR2.out.1 9 _ rfl; have cfr := HR2.out.2.1
 go_wp2
 refine bodyPost_ret (v := .agg #[.int .i64 1, .int .i64 0, .string o, .string o, .string ⟨#[98, 108, 111, 99, 107]⟩, .string ByteArray.empty, .string ByteArray.empty, .int .i64 2, .int .i64 1, .slice (some ⟨w1.heap.size, 0, none⟩) 1 1]) (by simp [results, Tryz.results19, go_sem, cr0, cr1, cr2, cr3, cr4, cr5, cr6, cr7, cr8, cr9, cfr]) rfl ⟨below10 HB2.out (Nat.le_refl _) _ _ _ _ _ _ _ _ _ _, _, _, rfl, ?_⟩
 have h := sls_one HX2.out (by show (7 : Nat) ≤ maxLen; unfold maxLen; omega) HT.out
 exact (h.set10 (fun x hx => by have := HG1.out; have h2 : x = _ := hx; omega) _ _ _ _ _ _ _ _ _ _).mono (fun x hx => ⟨by have := HG1.out; have h2 : x = _ := hx; omega, by have := HG2.out; have h2 : x = _ := hx; simp; omega⟩) (fun _ _ _ _ hu => hu)
set_option maxRecDepth 100000 in
set_option maxHeartbeats 4000000 in
/-- coldpluglaw31.text. -/
theorem text31_any (raw : ByteArray) (xs : List Int) (k B b : Nat) (w : World) (hk : k ≤ 2 ^ 30) (ht : TapeAt w B b xs k) (hs : raw.size ≤ maxLen) : Calls Tryz.prog 16 #[.pointer (some ⟨b, 0, none⟩), .string raw] w (Text31 raw xs k B b w) := by
 have HT := Lib.hid ht; have HK := Lib.hid hk; have HS := Lib.hid hs; clear ht hk hs
 have HBW := Lib.hid (show b < w.heap.size ∧ B ≤ b by obtain ⟨_, _, _, _, _, _, h1, h2⟩ := HT.out; exact ⟨h2, h1⟩)
 go_enter Tryz.func16, Tryz.ntmps16
 go_wp2_with fail
 refine (ContentsM_any _).mono ?_
 rintro e w1 ⟨rfl, hb1, hx1⟩
 have HX1 := Lib.hid hx1; have HT1 := Lib.hid (HT.out.kept (grown_none hb1) (fun e => by cases e) (fun g e => by cases e)); have HG1 := Lib.hid (grown_any (row := some b) hb1)
 clear hx1 hb1
 go_wp2_with fail
 refine (Next_lit 5 xs (k) B b _ (by have := HK.out; omega) HT1.out (by omega) (by omega)).mono ?_
 rintro e w2 ⟨n, hm0, hm1, rfl, ht_, hg_⟩
 have HTw2 := Lib.hid ht_; have HGw2 := Lib.hid (grown_trans HG1.out hg_); have HXw2 := Lib.hid (HX1.out.kept hg_ (fun e => by have := Option.some.inj e; have := HBW.out; omega)); clear ht_ hg_
 rcases (show n = 0 ∨ n = 1 ∨ n = 2 ∨ n = 3 ∨ n = 4 by omega) with rfl | rfl | rfl | rfl | rfl
 ·
  clear hm0 hm1
  go_wp2
  go_ret
  exact ⟨raw, k + 1, rfl, by omega, by omega, HTw2.out, HGw2.out⟩
 ·
  clear hm0 hm1
  go_upto_region 6 with fail
  refine wp_region_held_drew (S := fun w' => BoxL w' w.heap.size (contM.map Value.string)) (by kernel_rfl) HXw2.out.drew (fun hS0 => ?_)
  obtain ⟨wd, hwd⟩ : ∃ z, World.drew w2 = z := ⟨_, rfl⟩
  rw [hwd] at hS0 ⊢
  have hb_ : Below w2.heap.size w2 wd := by rw [← hwd]; exact below_drewN_self _ _ 1
  clear hwd
  have HXwd := Lib.hid hS0; have HTwd := Lib.hid (HTw2.out.kept (grown_none hb_) (fun e => by cases e) (fun g e => by cases e)); have HGwd := Lib.hid (grown_below HGw2.out hb_)
  clear hS0 hb_
  refine wpAnyH_take (i := 0) (oi := ⟨some 16, _, _, _, _, _⟩) (v := .slice (some ⟨w.heap.size, 0, none⟩) 16 16) rfl (by kernel_rfl) (by kernel_rfl) (by kernel_rfl) (fun _ _ _ h => h) (Or.inl ⟨by rfl, fun w' hS => by go_simp⟩) HXwd.out ?_
  try simp only [Act.put, List.setIfInBounds_toArray, List.set_cons_zero, List.set_cons_succ]
  refine wpAnyH_take (i := 1) (oi := ⟨some 17, _, _, _, _, _⟩) (v := .pointer (some ⟨b, 0, none⟩)) rfl (by kernel_rfl) (by kernel_rfl) (by kernel_rfl) (fun _ _ _ h => h) (Or.inl ⟨by rfl, fun w' hS => by go_simp⟩) HXwd.out ?_
  try simp only [Act.put, List.setIfInBounds_toArray, List.set_cons_zero, List.set_cons_succ]
  refine wpAnyH_take (i := 2) (oi := ⟨some 18, _, _, _, _, _⟩) (v := .slice (some ⟨w.heap.size, 0, none⟩) 16 16) rfl (by kernel_rfl) (by kernel_rfl) (by kernel_rfl) (fun _ _ _ h => h) (Or.inl ⟨by rfl, fun w' hS => by go_simp⟩) HXwd.out ?_
  try simp only [Act.put, List.setIfInBounds_toArray, List.set_cons_zero, List.set_cons_succ]
  refine wpAnyH_take (i := 3) (oi := ⟨some 19, _, _, _, _, _⟩) (v := .int .i64 16) rfl (by kernel_rfl) (by kernel_rfl) (by kernel_rfl) (fun _ _ _ h => h) (Or.inl ⟨by rfl, fun w' hS => by go_simp⟩) HXwd.out ?_
  try simp only [Act.put, List.setIfInBounds_toArray, List.set_cons_zero, List.set_cons_succ]
  refine wpAnyH_take (i := 9) (oi := ⟨some 25, _, _, _, _, _⟩) (v := .slice (some ⟨w.heap.size, 0, none⟩) 16 16) rfl (by kernel_rfl) (by kernel_rfl) (by kernel_rfl) (fun _ _ _ h => h) (Or.inl ⟨by rfl, fun w' hS => by go_simp⟩) HXwd.out ?_
  try simp only [Act.put, List.setIfInBounds_toArray, List.set_cons_zero, List.set_cons_succ]
  refine wpAnyH_take (i := 10) (oi := ⟨some 26, _, _, _, _, _⟩) (v := .pointer (some ⟨b, 0, none⟩)) rfl (by kernel_rfl) (by kernel_rfl) (by kernel_rfl) (fun _ _ _ h => h) (Or.inl ⟨by rfl, fun w' hS => by go_simp⟩) HXwd.out ?_
  try simp only [Act.put, List.setIfInBounds_toArray, List.set_cons_zero, List.set_cons_succ]
  refine wpAnyH_take (i := 11) (oi := ⟨some 27, _, _, _, _, _⟩) (v := .slice (some ⟨w.heap.size, 0, none⟩) 16 16) rfl (by kernel_rfl) (by kernel_rfl) (by kernel_rfl) (fun _ _ _ h => h) (Or.inl ⟨by rfl, fun w' hS => by go_simp⟩) HXwd.out ?_
  try simp only [Act.put, List.setIfInBounds_toArray, List.set_cons_zero, List.set_cons_succ]
  refine wpAnyH_take (i := 12) (oi := ⟨some 28, _, _, _, _, _⟩) (v := .int .i64 16) rfl (by kernel_rfl) (by kernel_rfl) (by kernel_rfl) (fun _ _ _ h => h) (Or.inl ⟨by rfl, fun w' hS => by go_simp⟩) HXwd.out ?_
  try simp only [Act.put, List.setIfInBounds_toArray, List.set_cons_zero, List.set_cons_succ]
  refine wpAnyH_ready (rs := [4]) (by kernel_rfl) (by simp) ?_
  refine AllReadyH.cons (o := ⟨some 20, .call ⟨_, _, _⟩, _, _, _, _⟩) rfl (fun K hK => ?_) AllReadyH.nil
  go_simp
  go_at_call 23
  refine (Next_lit 16 xs (k + 1) B b _ (by have := HK.out; omega) HTwd.out (by omega) (by omega)).mono ?_
  rintro e' wa ⟨m, hm0, hm1, rfl, ht_, hg_⟩
  have HTwa := Lib.hid ht_; have HGwa := Lib.hid (grown_trans HGwd.out hg_); have HXwa := Lib.hid (HXwd.out.kept hg_ (fun e => by have := Option.some.inj e; have := HBW.out; omega)); clear ht_ hg_
  refine hK.out _ _ HXwa.out (fun _ => ?_)
  clear hK K
  try simp only [Act.put, List.setIfInBounds_toArray, List.set_cons_zero, List.set_cons_succ]
  obtain ⟨m, rfl⟩ := Int.eq_ofNat_of_zero_le hm0
  have hml : m < contM.length := by show m < 16; omega
  obtain ⟨hc_, hs_⟩ := contM_at hml HXwa.out
  obtain ⟨cm, hcm⟩ : ∃ z, contM[m]'hml = z := ⟨_, rfl⟩
  rw [hcm] at hc_ hs_
  have HEcm := Lib.hid (show (contM.map Value.string)[m]? = some (.string cm) by rw [List.getElem?_map, List.getElem?_eq_getElem hml, hcm]; rfl)
  have HScm := Lib.hid hs_; have HCcm := Lib.hid hc_
  have im : (m : Int) < 16 := by omega
  clear hcm hml hm0 hm1 hs_ hc_
  refine wpAnyH_take (i := 5) (oi := ⟨some 21, _, _, _, _, _⟩) (v := .pointer (some ⟨w.heap.size, m, none⟩)) rfl (by kernel_rfl) (by kernel_rfl) (by kernel_rfl) (fun _ _ _ h => h) (Or.inl ⟨by rfl, fun w' hS => by go_simp⟩) HXwa.out ?_
  try simp only [Act.put, List.setIfInBounds_toArray, List.set_cons_zero, List.set_cons_succ]
  refine wpAnyH_take (i := 6) (oi := ⟨some 22, _, _, _, _, _⟩) (v := .string cm) rfl (by kernel_rfl) (by kernel_rfl) (by kernel_rfl) (fun _ _ _ h => h) (Or.inl ⟨by rfl, fun w' hS => by (have u0_ := hS.1 m (.string cm) HEcm.out; go_simp)⟩) HXwa.out ?_
  try simp only [Act.put, List.setIfInBounds_toArray, List.set_cons_zero, List.set_cons_succ]
  have hadd1 : ¬ 9223372036854775807 < (⟨#[116, 97, 98, 108, 101, 58, 116, 40]⟩ : ByteArray).size + cm.size := by have := HScm.out; rw [show (⟨#[116, 97, 98, 108, 101, 58, 116, 40]⟩ : ByteArray).size = 8 from rfl]; omega
  have hadd1' : ¬ 9223372036854775807 < 8 + cm.size := by have := HScm.out; omega
  refine wpAnyH_take (i := 7) (oi := ⟨some 23, _, _, _, _, _⟩) (v := .string ((⟨#[116, 97, 98, 108, 101, 58, 116, 40]⟩ : ByteArray) ++ cm)) rfl (by kernel_rfl) (by kernel_rfl) (by kernel_rfl) (fun _ _ _ h => h) (Or.inl ⟨by rfl, fun w' hS => by go_simp⟩) HXwa.out ?_
  try simp only [Act.put, List.setIfInBounds_toArray, List.set_cons_zero, List.set_cons_succ]
  obtain ⟨s1, hs1⟩ : ∃ z, (⟨#[116, 97, 98, 108, 101, 58, 116, 40]⟩ : ByteArray) ++ cm = z := ⟨_, rfl⟩
  rw [hs1]
  have HS1 := Lib.hid (show s1.size ≤ 1008 by rw [← hs1, ByteArray.size_append, show (⟨#[116, 97, 98, 108, 101, 58, 116, 40]⟩ : ByteArray).size = 8 from rfl]; have := HScm.out; omega)
  clear hs1 hadd1 hadd1'
  have hadd2 : ¬ 9223372036854775807 < s1.size + 1 := by have := HS1.out; omega
  refine wpAnyH_take (i := 8) (oi := ⟨some 24, _, _, _, _, _⟩) (v := .string (s1 ++ ⟨#[44]⟩)) rfl (by kernel_rfl) (by kernel_rfl) (by kernel_rfl) (fun _ _ _ h => h) (Or.inl ⟨by rfl, fun w' hS => by go_simp⟩) HXwa.out ?_
  try simp only [Act.put, List.setIfInBounds_toArray, List.set_cons_zero, List.set_cons_succ]
  obtain ⟨s2, hs2⟩ : ∃ z, s1 ++ (⟨#[44]⟩ : ByteArray) = z := ⟨_, rfl⟩
  rw [hs2]
  have HS2 := Lib.hid (show s2.size ≤ 1009 by rw [← hs2, ByteArray.size_append, show (⟨#[44]⟩ : ByteArray).size = 1 from rfl]; have := HS1.out; omega)
  clear hs2 hadd2
  refine wpAnyH_ready (rs := [13]) (by kernel_rfl) (by simp) ?_
  refine AllReadyH.cons (o := ⟨some 29, .call ⟨_, _, _⟩, _, _, _, _⟩) rfl (fun K hK => ?_) AllReadyH.nil
  go_simp
  go_at_call 23
  refine (Next_lit 16 xs (k + 1 + 1) B b _ (by have := HK.out; omega) HTwa.out (by omega) (by omega)).mono ?_
  rintro e' wb ⟨m2, hm0, hm1, rfl, ht_, hg_⟩
  have HTwb := Lib.hid ht_; have HGwb := Lib.hid (grown_trans HGwa.out hg_); have HXwb := Lib.hid (HXwa.out.kept hg_ (fun e => by have := Option.some.inj e; have := HBW.out; omega)); clear ht_ hg_
  refine hK.out _ _ HXwb.out (fun _ => ?_)
  clear hK K
  try simp only [Act.put, List.setIfInBounds_toArray, List.set_cons_zero, List.set_cons_succ]
  obtain ⟨m2, rfl⟩ := Int.eq_ofNat_of_zero_le hm0
  have hml : m2 < contM.length := by show m2 < 16; omega
  obtain ⟨hc_, hs_⟩ := contM_at hml HXwb.out
  obtain ⟨cn, hcm⟩ : ∃ z, contM[m2]'hml = z := ⟨_, rfl⟩
  rw [hcm] at hc_ hs_
  have HEcn := Lib.hid (show (contM.map Value.string)[m2]? = some (.string cn) by rw [List.getElem?_map, List.getElem?_eq_getElem hml, hcm]; rfl)
  have HScn := Lib.hid hs_; have HCcn := Lib.hid hc_
  have im2 : (m2 : Int) < 16 := by omega
  clear hcm hml hm0 hm1 hs_ hc_
  refine wpAnyH_take (i := 14) (oi := ⟨some 30, _, _, _, _, _⟩) (v := .pointer (some ⟨w.heap.size, m2, none⟩)) rfl (by kernel_rfl) (by kernel_rfl) (by kernel_rfl) (fun _ _ _ h => h) (Or.inl ⟨by rfl, fun w' hS => by go_simp⟩) HXwb.out ?_
  try simp only [Act.put, List.setIfInBounds_toArray, List.set_cons_zero, List.set_cons_succ]
  refine wpAnyH_take (i := 15) (oi := ⟨some 31, _, _, _, _, _⟩) (v := .string cn) rfl (by kernel_rfl) (by kernel_rfl) (by kernel_rfl) (fun _ _ _ h => h) (Or.inl ⟨by rfl, fun w' hS => by (have u0_ := hS.1 m2 (.string cn) HEcn.out; go_simp)⟩) HXwb.out ?_
  try simp only [Act.put, List.setIfInBounds_toArray, List.set_cons_zero, List.set_cons_succ]
  have hadd3 : ¬ 9223372036854775807 < s2.size + cn.size := by have := HS2.out; have := HScn.out; omega
  refine wpAnyH_take (i := 16) (oi := ⟨some 32, _, _, _, _, _⟩) (v := .string (s2 ++ cn)) rfl (by kernel_rfl) (by kernel_rfl) (by kernel_rfl) (fun _ _ _ h => h) (Or.inl ⟨by rfl, fun w' hS => by go_simp⟩) HXwb.out ?_
  try simp only [Act.put, List.setIfInBounds_toArray, List.set_cons_zero, List.set_cons_succ]
  obtain ⟨s3, hs3⟩ : ∃ z, s2 ++ cn = z := ⟨_, rfl⟩
  rw [hs3]
  have HS3 := Lib.hid (show s3.size ≤ 2009 by rw [← hs3, ByteArray.size_append]; have := HS2.out; have := HScn.out; omega)
  clear hs3 hadd3
  have hadd4 : ¬ 9223372036854775807 < s3.size + 1 := by have := HS3.out; omega
  refine wpAnyH_take (i := 17) (oi := ⟨some 33, _, _, _, _, _⟩) (v := .string (s3 ++ ⟨#[41]⟩)) rfl (by kernel_rfl) (by kernel_rfl) (by kernel_rfl) (fun _ _ _ h => h) (Or.inl ⟨by rfl, fun w' hS => by go_simp⟩) HXwb.out ?_
  try simp only [Act.put, List.setIfInBounds_toArray, List.set_cons_zero, List.set_cons_succ]
  obtain ⟨s4, hs4⟩ : ∃ z, s3 ++ (⟨#[41]⟩ : ByteArray) = z := ⟨_, rfl⟩
  rw [hs4]
  have HS4 := Lib.hid (show s4.size ≤ 2010 by rw [← hs4, ByteArray.size_append, show (⟨#[41]⟩ : ByteArray).size = 1 from rfl]; have := HS3.out; omega)
  clear hs4 hadd4
  refine wpAnyH_take (i := 18) (oi := ⟨some 4, _, _, _, _, _⟩) (v := .string s4) rfl (by kernel_rfl) (by kernel_rfl) (by kernel_rfl) (fun _ _ _ h => h) (Or.inl ⟨by rfl, fun w' hS => by go_simp⟩) HXwb.out ?_
  try simp only [Act.put, List.setIfInBounds_toArray, List.set_cons_zero, List.set_cons_succ]
  refine wpAnyH_done (by kernel_rfl) ?_ _
  go_wp2
  go_ret
  exact ⟨s4, _, rfl, by have := HS4.out; omega, by omega, HTwb.out, HGwb.out⟩
 ·
  clear hm0 hm1
  go_wp2_with fail
  refine (Next_lit 18 xs (k + 1) B b _ (by have := HK.out; omega) HTw2.out (by omega) (by omega)).mono ?_
  rintro e w3 ⟨m, hm0, hm1, rfl, ht_, hg_⟩
  obtain ⟨m, rfl⟩ := Int.eq_ofNat_of_zero_le hm0
  have HM := Lib.hid (show m ≤ 17 by omega)
  clear hm0 hm1
  have HTw3 := Lib.hid ht_; have HGw3 := Lib.hid (grown_trans HGw2.out hg_); clear ht_ hg_
  go_wp2_with fail
  go_loop [6, 7] (fun v i => ∃ (s : ByteArray) (n : Nat), v = .string s ∧ i = .int .i64 (n : Int) ∧ n ≤ 17 ∧ Hid (s.size + n ≤ 27)) (fun _ i => (intOf i).toNat)
  case atStart => exact ⟨_, m, rfl, rfl, HM.out, by have := HM.out; show 10 + m ≤ 27; omega⟩
  case round =>
   obtain ⟨s, n, rfl, rfl, hn, HSN⟩ := hrel
   have hadd1 : ¬ 9223372036854775807 < s.size + 1 := by have := HSN.out; omega
   clear HM
   by_cases h0 : 0 < n
   ·
    have i1 : (0 : Int) < (n : Int) := by omega
    have i2 : (n : Int) > 0 := by omega
    obtain ⟨q, rfl⟩ : ∃ q, n = q + 1 := ⟨n - 1, by omega⟩
    have HS2 := Lib.hid (show (s ++ (⟨#[44]⟩ : ByteArray)).size + q ≤ 27 by rw [ByteArray.size_append, show (⟨#[44]⟩ : ByteArray).size = 1 from rfl]; have := HSN.out; omega)
    go_wp2
    go_round
    case rel => exact ⟨_, q, rfl, by first | go_num | (congr 1; unfold wrap64; omega), by omega, HS2⟩
    case measure => first | (simp [intOf]; done) | (simp [intOf]; omega) | (simp [intOf]; unfold wrap64; omega)
   ·
    have i1 : ¬ (0 : Int) < (n : Int) := by omega
    have i2 : ¬ (n : Int) > 0 := by omega
    have HS2 := Lib.hid (show (s ++ (⟨#[41]⟩ : ByteArray)).size ≤ 28 by rw [ByteArray.size_append, show (⟨#[41]⟩ : ByteArray).size = 1 from rfl]; have := HSN.out; omega)
    go_wp2
    go_ret
    exact ⟨_, _, rfl, by have := HS2.out; omega, by omega, HTw3.out, HGw3.out⟩
 ·
  clear hm0 hm1
  go_wp2_with fail
  refine (Next_lit 16 xs (k + 1) B b _ (by have := HK.out; omega) HTw2.out (by omega) (by omega)).mono ?_
  rintro e w3 ⟨m, hm0, hm1, rfl, ht_, hg_⟩
  have HTw3 := Lib.hid ht_; have HGw3 := Lib.hid (grown_trans HGw2.out hg_); have HXw3 := Lib.hid (HXw2.out.kept hg_ (fun e => by have := Option.some.inj e; have := HBW.out; omega)); clear ht_ hg_
  obtain ⟨m, rfl⟩ := Int.eq_ofNat_of_zero_le hm0
  have hml : m < contM.length := by show m < 16; omega
  obtain ⟨hc_, hs_⟩ := contM_at hml HXw3.out
  obtain ⟨cm, hcm⟩ : ∃ z, contM[m]'hml = z := ⟨_, rfl⟩
  rw [hcm] at hc_ hs_
  have HEcm := Lib.hid (show (contM.map Value.string)[m]? = some (.string cm) by rw [List.getElem?_map, List.getElem?_eq_getElem hml, hcm]; rfl)
  have HScm := Lib.hid hs_; have HCcm := Lib.hid hc_
  have im : (m : Int) < 16 := by omega
  clear hcm hml hm0 hm1 hs_ hc_
  have hc_ := HCcm.out
  go_wp2
  go_ret
  exact ⟨cm, _, rfl, by have := HScm.out; omega, by omega, HTw3.out, HGw3.out⟩
 ·
  clear hm0 hm1
  go_wp2_with fail
  refine (Next_lit 16 xs (k + 1) B b _ (by have := HK.out; omega) HTw2.out (by omega) (by omega)).mono ?_
  rintro e w3 ⟨m, hm0, hm1, rfl, ht_, hg_⟩
  have HTw3 := Lib.hid ht_; have HGw3 := Lib.hid (grown_trans HGw2.out hg_); have HXw3 := Lib.hid (HXw2.out.kept hg_ (fun e => by have := Option.some.inj e; have := HBW.out; omega)); clear ht_ hg_
  obtain ⟨m, rfl⟩ := Int.eq_ofNat_of_zero_le hm0
  have hml : m < contM.length := by show m < 16; omega
  obtain ⟨hc_, hs_⟩ := contM_at hml HXw3.out
  obtain ⟨cm, hcm⟩ : ∃ z, contM[m]'hml = z := ⟨_, rfl⟩
  rw [hcm] at hc_ hs_
  have HEcm := Lib.hid (show (contM.map Value.string)[m]? = some (.string cm) by rw [List.getElem?_map, List.getElem?_eq_getElem hml, hcm]; rfl)
  have HScm := Lib.hid hs_; have HCcm := Lib.hid hc_
  have im : (m : Int) < 16 := by omega
  clear hcm hml hm0 hm1 hs_ hc_
  have hc_ := HCcm.out
  go_wp2
  go_ret
  exact ⟨cm, _, rfl, by have := HScm.out; omega, by omega, HTw3.out, HGw3.out⟩
end Go.Proofs.YtehmidmoiamcfaaGreatDoor
namespace Go.Cold
open Go Go.RowKit
def T31 : ByteArray := ⟨#[116, 97, 98, 108, 101, 58, 116, 40, 102, 115, 58, 102, 58, 44, 41]⟩
def C31 : Cont := .mk 5 ⟨#[116]⟩ ⟨#[]⟩ 0 0 0 [.mk 1 ⟨#[102]⟩ ⟨#[]⟩ 0 0 0 [], .mk 0 ⟨#[]⟩ ⟨#[]⟩ 0 0 0 []]
theorem cont_T31 : contP T31 16 0 = some (C31, 15) := by kernel_rfl
theorem ok_C31 : AllOk C31 := by
 unfold C31
 refine AllOk_mk.2 ⟨by decide +kernel, fun x hx => ?_⟩
 simp at hx
 rcases hx with rfl | rfl
 · exact AllOk_mk.2 ⟨by decide +kernel, fun x hx => by cases hx⟩
 · exact AllOk_mk.2 ⟨by decide +kernel, fun x hx => by cases hx⟩
theorem depth_C31 : depthC C31 = 2 := by kernel_rfl
theorem parse_T31 : parseC T31 = some C31 := by
 have h1 : T31.size = 15 := by decide +kernel
 unfold parseC
 rw [if_neg (by omega), h1, cont_T31]
 simp [bad_of ok_C31 (by rw [depth_C31]; decide)]
def slSda : ByteArray := ⟨#[47, 115, 100, 97]⟩
def l31 : List Virt := [⟨⟨#[47, 115, 100, 97]⟩, ⟨#[115, 100, 97, 112, 49]⟩, ⟨#[102, 115, 58, 102, 58]⟩, 1⟩, ⟨⟨#[47, 115, 100, 97]⟩, ⟨#[115, 100, 97, 112, 50]⟩, ⟨#[]⟩, 1⟩]
theorem wants_31 : wantsD (diskD sdaB T31) slSda 1 = l31 := by
 unfold wantsD
 rw [if_pos (show (diskD sdaB T31).kind = 2 from rfl), show (getA (diskD sdaB T31).attrs ⟨#[99, 111, 110, 116, 101, 110, 116]⟩).getD ByteArray.empty = T31 from rfl, (innerG_some (k := 5) parse_T31 rfl).1]
 kernel_rfl
end Go.Cold
namespace Go.Proofs.YtehmidmoiamcfaaGreatDoor
open Go.RowKit Go.Cold
set_option maxRecDepth 100000 in
set_option maxHeartbeats 2000000 in
theorem known31_any (w : World) (hok : Ok7 w) : Calls Tryz.prog 11 #[] w fun e w' => e = .returned (.bool true) ∧ Below w.heap.size w w' := by
 have h3 : ptStr sdaB 3 = ⟨#[115, 100, 97, 112, 51]⟩ := by kernel_rfl
 have h3e : ptErr sdaB 3 = 0 := by kernel_rfl
 have h17 : ptStr sdaB 17 = ByteArray.empty := by kernel_rfl
 have h17e : ptErr sdaB 17 = 310 := by kernel_rfl
 have n16 : numR sdaB ⟨#[115, 100, 97, 112, 49, 54]⟩ = 16 := by decide +kernel
 have n01 : numR sdaB ⟨#[115, 100, 97, 112, 48, 49]⟩ = 0 := by decide +kernel
 have H3 := Lib.hid h3; have H3E := Lib.hid h3e; have H17 := Lib.hid h17; have H17E := Lib.hid h17e; have N16 := Lib.hid n16; have N01 := Lib.hid n01; have HOK := Lib.hid hok
 clear h3 h3e h17 h17e n16 n01 hok
 have hsz : sdaB.size ≤ maxLen - 30 := by show (3 : Nat) ≤ _; unfold maxLen; omega
 have HSZ := Lib.hid hsz; clear hsz
 go_enter Tryz.func11, Tryz.ntmps11
 go_wp2_with fail
 refine (PName_any sdaB 3 _ HOK.out (by unfold okI; omega) HSZ.out).mono ?_
 rintro e w1 ⟨rfl, hb1⟩
 rw [H3.out, H3E.out]
 have HB1 := Lib.hid hb1; clear hb1
 go_wp2_with fail
 refine (PName_any sdaB 17 _ (HOK.out.below HB1.out) (by unfold okI; omega) HSZ.out).mono ?_
 rintro e w2 ⟨rfl, hb2⟩
 rw [H17.out, H17E.out]
 have HB2 := Lib.hid (HB1.out.trans (hb2.mono HB1.out.size)); clear hb2
 go_wp2_with fail
 refine (PNumber_any sdaB ⟨#[115, 100, 97, 112, 49, 54]⟩ _ HSZ.out).mono ?_
 rintro e w3 ⟨rfl, rfl⟩
 rw [N16.out]
 go_wp2_with fail
 refine (PNumber_any sdaB ⟨#[115, 100, 97, 112, 48, 49]⟩ _ HSZ.out).mono ?_
 rintro e w4 ⟨rfl, rfl⟩
 rw [N01.out]
 go_wp2_with fail
 refine (disk_any sdaB T31 _ (by show (3 : Nat) ≤ _; unfold maxLen; omega) (by show (15 : Nat) ≤ _; unfold maxLen; omega)).mono ?_
 rintro e w5 ⟨hb5, A, c, rfl, hsl⟩
 have HB5 := Lib.hid (HB2.out.trans (hb5.mono HB2.out.size)); have HSL := Lib.hid (hsl.sl (B := w5.heap.size) (fun x hx => hx.2)); clear hb5 hsl
 go_wp2_with fail
 refine (Wants_any A c (diskD sdaB T31) slSda 1 _ w5.heap.size (Nat.le_refl _) HSL.out (HOK.out.below HB5.out) HSZ.out (by show (4 : Nat) ≤ _; unfold maxLen; omega) (by unfold okI; omega)).mono ?_
 rintro e w6 ⟨hb6, v, rfl, hown⟩
 have HB6 := Lib.hid (HB5.out.trans (hb6.mono HB5.out.size))
 rw [wants_31] at hown
 obtain ⟨A6, c6, rfl, hs6⟩ := hown.sl
 obtain ⟨b, o, rfl, -, -, a0, a1, a2, a3⟩ := hs6.virt (i := 0) (by decide)
 obtain ⟨b2, o2, e2, -, -, g0, g1, g2, g3⟩ := hs6.virt (i := 1) (by decide)
 injection e2 with e2; injection e2 with e2 e3
 subst e2; subst e3
 have hc6 := hs6.1
 clear hs6 hown hb6
 have q0 : w6.cell? ⟨b, o, none⟩ = some (.string ⟨#[47, 115, 100, 97]⟩) := by rw [Nat.zero_mul, Nat.add_zero] at a0; exact a0
 have q1 : w6.cell? ⟨b, o + 1, none⟩ = some (.string ⟨#[115, 100, 97, 112, 49]⟩) := by rw [Nat.zero_mul, Nat.add_zero] at a1; exact a1
 have q2 : w6.cell? ⟨b, o + 2, none⟩ = some (.string ⟨#[102, 115, 58, 102, 58]⟩) := by rw [Nat.zero_mul, Nat.add_zero] at a2; exact a2
 have q3 : w6.cell? ⟨b, o + 3, none⟩ = some (.int .i64 1) := by rw [Nat.zero_mul, Nat.add_zero] at a3; exact a3
 have q6 : w6.cell? ⟨b, o + 4 + 2, none⟩ = some (.string ⟨#[]⟩) := by rw [Nat.one_mul] at g2; exact g2
 have q6' : w6.cell? ⟨b, o + 6, none⟩ = some (.string ⟨#[]⟩) := q6
 have hl31 : l31.length = 2 := rfl
 rw [hl31] at hc6 ⊢
 clear a0 a1 a2 a3 g0 g1 g2 g3 hl31
 go_wp2
 go_ret
 exact ⟨rfl, HB6.out⟩
end Go.Proofs.YtehmidmoiamcfaaGreatDoor
namespace Go.Cold
open Go Go.RowKit
theorem cell_next {w w' : World} {b o : Nat} {v : Value} (h : w.cell? ⟨b, o, none⟩ = some v) (hb : Below w.heap.size w w') : w'.cell? ⟨b, o, none⟩ = some v := (hb.cell (p := ⟨b, o, none⟩) (by exact block_lt_of_cell h)).trans h
theorem below_more {a w w' : World} (h : Below a.heap.size a w) (hb : Below w.heap.size w w') : Below a.heap.size a w' := h.trans (hb.mono h.size)
/-- The content of a law's disk. -/
theorem want_eq (s origin : ByteArray) (round : Int) : wantsD (diskD sdaB s) origin round = wantsV sdaB origin round (innerG s 5) := by
 unfold wantsD
 rw [if_pos (show (diskD sdaB s).kind = 2 from rfl)]
 rfl
theorem want_none {s origin : ByteArray} {round : Int} (h : parseC s = none) : wantsD (diskD sdaB s) origin round = [] := by
 rw [want_eq, (innerG_none (k := 5) h).1]; rfl
theorem want_kind {s origin : ByteArray} {round : Int} {C : Cont} (h : parseC s = some C) (hk : C.kind ≠ 5) : wantsD (diskD sdaB s) origin round = [] := by
 rw [want_eq, (innerG_kind (k := 5) h hk).1]; rfl
theorem want_full {s origin : ByteArray} {round : Int} {C : Cont} (h : parseC s = some C) (hk : C.kind = 5) :
  (wantsD (diskD sdaB s) origin round).length = C.inner.length ∧ ∀ (i : Nat) (x : Cont), C.inner[i]? = some x → (wantsD (diskD sdaB s) origin round)[i]? = some ⟨origin, ptName sdaB ((i + 1 : Nat) : Int), textC x, round⟩ := by
 rw [want_eq, (innerG_some (k := 5) h hk).1]
 have hl := inner_len h
 obtain ⟨h1, h2⟩ := wants_full (o := sdaB) (origin := origin) (round := round) (k := 1) (l := textL C.inner) (fun j a b => sda_ok j a (by rw [textL_len] at b; omega))
 rw [textL_len] at h1
 refine ⟨h1, fun i x hx => ?_⟩
 have := h2 i (textC x) (by rw [textL_map, List.getElem?_map, hx]; rfl)
 unfold wantsV
 rw [this, Nat.add_comm 1 i]
/-- An element of the list. -/
theorem wantD_at {s origin : ByteArray} {round : Int} {C : Cont} (h : parseC s = some C) {i : Nat} (hi : i < (wantsD (diskD sdaB s) origin round).length) :
  ∃ x, C.kind = 5 ∧ C.inner[i]? = some x ∧ (wantsD (diskD sdaB s) origin round)[i]'hi = ⟨origin, ptName sdaB ((i + 1 : Nat) : Int), textC x, round⟩ ∧ parseC (textC x) = some x ∧ depthC x < depthC C ∧ (textC x).size < s.size ∧ numR sdaB (ptName sdaB ((i + 1 : Nat) : Int)) = i + 1 ∧ i < 16 ∧ ptOk sdaB ((i + 1 : Nat) : Int) = true := by
 by_cases hk : C.kind = 5
 ·
  obtain ⟨h1, h2⟩ := want_full (origin := origin) (round := round) h hk
  have hl := inner_len h
  have hi2 : i < C.inner.length := by omega
  obtain ⟨x, hx⟩ : ∃ x, C.inner[i]? = some x := ⟨_, List.getElem?_eq_getElem hi2⟩
  have h3 := h2 i x hx
  rw [List.getElem?_eq_getElem hi] at h3
  obtain ⟨h4, h5, h6⟩ := inner_parse h (List.mem_of_getElem? hx)
  have h7 := sda_ok (i + 1) (by omega) (by omega)
  have h8 := num_name h7
  exact ⟨x, hk, hx, Option.some.inj h3, h4, h5, h6, by omega, by omega, h7⟩
 ·
  rw [want_kind h hk] at hi
  exact absurd hi (by simp)
end Go.Cold
namespace Go.Proofs.YtehmidmoiamcfaaGreatDoor
open Go.RowKit Go.Cold
end Go.Proofs.YtehmidmoiamcfaaGreatDoor
namespace Go.Cold
open Go Go.RowKit
theorem filter_step {p : Dev → Bool} {L : List Dev} {k : Nat} {y : Dev} (h : L[k]? = some y) : (L.take (k + 1)).filter p = if p y then (L.take k).filter p ++ [y] else (L.take k).filter p := by
 rw [List.take_add_one, h, List.filter_append]
 cases hp : p y <;> simp [hp]
theorem filter_end (p : Dev → Bool) (L : List Dev) : (L.take L.length).filter p = L.filter p := by rw [List.take_length]
theorem filter_len (p : Dev → Bool) (L : List Dev) (k : Nat) : ((L.take k).filter p).length ≤ k := Nat.le_trans (List.length_filter_le _ _) (by rw [List.length_take]; exact Nat.min_le_left _ _)
/-- Where a loop stands that gathers devices. -/
def FilSt (F : Nat → Prop) (T : TypeId) (w0 w1 : World) (p : Dev → Bool) (L : List Dev) (k : Nat) (v : Value) (w : World) : Prop :=
 Below w0.heap.size w0 w ∧ w1.heap.size ≤ w.heap.size ∧ OwnsS F w w1.heap.size T v ((L.take k).filter p)
theorem OwnsS.wide {α : Type} [RepS α] {F F' : Nat → Prop} {w : World} {base : Nat} {e : TypeId} {v : Value} {xs : List α} (h : OwnsS F w base e v xs) (hF : ∀ x, F x → F' x) : OwnsS F' w base e v xs := by
 obtain ⟨css, h1, h2, h3⟩ := h
 exact ⟨css, h1, h2, fun i x cs hx hcs => RepS.mono (fun b ⟨a1, a2, a3⟩ => ⟨hF b a1, a2, a3⟩) (fun _ _ _ _ hu => hu) (h3 i x cs hx hcs)⟩
def anyD (_ : Dev) : Bool := true
theorem filter_any (L : List Dev) : L.filter anyD = L := List.filter_eq_self.2 (fun _ _ => rfl)
end Go.Cold
namespace Go.Proofs.YtehmidmoiamcfaaGreatDoor
open Go.RowKit Go.Cold
/-- What gathers devices answers. -/
def GotP (F : Nat → Prop) (l : List Dev) (w : World) (e : Ending) (w' : World) : Prop := Below w.heap.size w w' ∧ ∃ v, e = .returned v ∧ OwnsS F w' w.heap.size 43 v l
set_option maxRecDepth 100000 in
set_option maxHeartbeats 1000000 in
/-- tree.copies. -/
theorem copies_any (A : Option Addr) (c : Nat) (L : List Dev)  (w : World) (B : Nat) (hB : B ≤ w.heap.size) (hx : Sl w B A c L)  (hl : L.length ≤ 1000000) (ha : ∀ d ∈ L, d.attrs.length ≤ 1000000) :
  Calls Tryz.prog 57 #[.slice A L.length c] w (GotP (fun b => w.heap.size ≤ b) (L.filter (anyD)) w) := by
 have hx1 := hx.1; have hx2 := hx.2.1
 unfold maxLen at hx2
 have HX := Lib.hid hx; have HB := Lib.hid hB; have HL := Lib.hid hl; have HAS := Lib.hid ha; clear hl ha; clear hx hB
 go_enter Tryz.func57, Tryz.ntmps57
 go_upto_region 1 with fail
 have HST := Lib.hid (show FilSt (fun b => w.heap.size ≤ b) 43 w w (anyD) L 0 (.slice none 0 0) w from ⟨(Below.refl _ _), Nat.le_refl _, OwnsS.nil_ _ _ _ _⟩)
 go_wp2_with fail
 go_loopw [3, 8] (fun v i wr => ∃ k : Nat, k ≤ L.length ∧ i = .int .i64 k ∧ Hid (FilSt (fun b => w.heap.size ≤ b) 43 w w (anyD) L k v wr)) (fun _ i _ => L.length - (intOf i).toNat)
 case atStart => exact ⟨0, Nat.zero_le _, rfl, HST⟩
 case round =>
  clear HST
  obtain ⟨k, hk, rfl, HST⟩ := hrel
  have HBR := Lib.hid HST.out.1; have HOWN := Lib.hid HST.out.2.2; have HWR := Lib.hid HST.out.2.1
  by_cases hlt : k < L.length
  ·
   have i1 : (k : Int) < (L.length : Int) := by omega
   obtain ⟨b3, o3, rfl, hb3, A3, c3, hok3, hat3, hcs3⟩ := (HX.out.keep (HBR.out.mono HB.out)).dev hlt
   have hxk : L[k]? = some L[k] := List.getElem?_eq_getElem hlt
   obtain ⟨y, hy⟩ : ∃ y, L[k]'hlt = y := ⟨_, rfl⟩
   rw [hy] at hok3 hcs3 hxk hat3
   have HXK := Lib.hid hxk; have HOK3 := Lib.hid hok3; have HMEM := Lib.hid (List.mem_of_getElem? hxk)
   have HDC := Lib.hid hcs3
   have HAT := Lib.hid hat3; have HB3 := Lib.hid hb3
   clear hxk hok3 hat3 hy hcs3 hb3
   have hacl := filter_len (anyD) L k
   obtain ⟨acc, hacc⟩ : ∃ z, (L.take k).filter (anyD) = z := ⟨_, rfl⟩
   rw [hacc] at hacl HOWN
   have HACC := Lib.hid hacc; have HACL := Lib.hid (Nat.lt_of_le_of_lt hacl hlt); clear hacc hacl
   have HAM := Lib.hid (show acc.length + 1 ≤ maxLen ∧ (acc.length + 1) * 136 ≤ 140737488355328 by have := HACL.out; have := HL.out; constructor <;> first | (unfold maxLen; omega) | omega)
   have HBQwr := Lib.hid (Below.refl wr.heap.size wr)
   have HP := Lib.hid (show anyD y = true from rfl)
   obtain ⟨y0, y1, y2, y3, y4, y5, y6, y7, y8, y9⟩ := HDC.out
   go_upto_region 5 with fail
   clear y0 y1 y2 y3 y4 y5 y6 y7 y8 y9
   obtain ⟨w3, hw3⟩ : ∃ w3, wr.alloc (.cells #[.int .i64 y.idx, .int .i64 y.par, .string y.nm, .string y.orig, .string y.sub, .string y.drv, .string y.ali, .int .i64 y.kind, .int .i64 y.num, .slice A3 y.attrs.length c3] 43) = w3 := ⟨_, rfl⟩
   have hbw3 : Below wr.heap.size wr w3 := by rw [← hw3]; exact (Below.refl _ _).alloc (Nat.le_refl _) _
   have HGw3 := Lib.hid (show w3.heap.size = wr.heap.size + 1 by rw [← hw3]; simp)
   have HXyw3 := Lib.hid (show BoxL w3 wr.heap.size [.int .i64 y.idx, .int .i64 y.par, .string y.nm, .string y.orig, .string y.sub, .string y.drv, .string y.ali, .int .i64 y.kind, .int .i64 y.num, .slice A3 y.attrs.length c3] from box_mk hw3)
   try simp only [hw3]
   have HSTEPw3 := Lib.hid hbw3
   have HSw3 := Lib.hid (show wr.heap.size ≤ w3.heap.size from hbw3.size)
   have HBw3 := Lib.hid (HBR.out.trans (hbw3.mono HBR.out.size))
   have HOw3 := Lib.hid (HOWN.out.below hbw3)
   have HBQw3 := Lib.hid (show Below wr.heap.size wr w3 from HBQwr.out.trans (hbw3.mono HBQwr.out.size))
   clear hw3 hbw3
   try rw [show wr.heap.size + 1 = w3.heap.size from HGw3.out.symm]
   have cy0 := HXyw3.out.1 0 _ rfl
   have cy1 := HXyw3.out.1 1 _ rfl
   have cy2 := HXyw3.out.1 2 _ rfl
   have cy3 := HXyw3.out.1 3 _ rfl
   have cy4 := HXyw3.out.1 4 _ rfl
   have cy5 := HXyw3.out.1 5 _ rfl
   have cy6 := HXyw3.out.1 6 _ rfl
   have cy7 := HXyw3.out.1 7 _ rfl
   have cy8 := HXyw3.out.1 8 _ rfl
   have cy9 := HXyw3.out.1 9 _ rfl
   go_wp2_with fail
   refine (copied_any y A3 c3 _ B (Nat.le_trans HB.out HBw3.out.size) (HAT.out.keep (HBQw3.out.mono (Nat.le_trans HB.out HBR.out.size))) (HAS.out y HMEM.out)).mono ?_
   rintro e w4 ⟨hbw4, A4, c4, rfl, hsl⟩
   clear cy0 cy1 cy2 cy3 cy4 cy5 cy6 cy7 cy8 cy9
   have HSw4 := Lib.hid (show w3.heap.size ≤ w4.heap.size from hbw4.size)
   have HBw4 := Lib.hid (HBw3.out.trans (hbw4.mono HBw3.out.size))
   have yw4 := Lib.hid (HXyw3.out.kept (grown_none hbw4) (fun e => by cases e))
   have HOw4 := Lib.hid (HOw3.out.below hbw4)
   have HBQw4 := Lib.hid (show Below wr.heap.size wr w4 from HBQw3.out.trans (hbw4.mono HBQw3.out.size))
   clear hbw4
   have HSL := Lib.hid (show SlS w4 (fun b => w3.heap.size ≤ b ∧ b < w4.heap.size) A4 c4 y.attrs from hsl); clear hsl
   obtain ⟨wa, hwa⟩ : ∃ z, w4.alloc (.cells #[.int .i64 y.idx, .int .i64 y.par, .string y.nm, .string y.orig, .string y.sub, .string y.drv, .string y.ali, .int .i64 y.kind, .int .i64 y.num, .slice A4 y.attrs.length c4] 43) = z := ⟨_, rfl⟩
   have hba : Below w4.heap.size w4 wa := by rw [← hwa]; exact (Below.refl _ _).alloc (Nat.le_refl _) _
   have HGA := Lib.hid (show wa.heap.size = w4.heap.size + 1 by rw [← hwa]; simp)
   have hnew := lit_cells hwa (l := devCells y A4 c4) rfl
   have HNEW := Lib.hid hnew; clear hnew
   have HSwa := Lib.hid (show w4.heap.size ≤ wa.heap.size from hba.size)
   have HBwa := Lib.hid (HBw4.out.trans (hba.mono HBw4.out.size))
   have ywa := Lib.hid (yw4.out.kept (grown_none hba) (fun e => by cases e))
   have HOwa := Lib.hid (HOw4.out.below hba)
   have HBQwa := Lib.hid (show Below wr.heap.size wr wa from HBQw4.out.trans (hba.mono HBQw4.out.size))
   have HRD := Lib.hid (show RepS.rdS wa (fun b => w.heap.size ≤ b ∧ b < wa.heap.size ∧ u3.ownBlock ≠ some b) y (devCells y A4 c4) from ⟨A4, c4, rfl, HOK3.out, (HSL.out.below hba (fun x hx => hx.2)).mono (fun b hb => ⟨by have := hb.1; have := HBQw3.out.size; have := HBR.out.size; omega, by have := hb.2; have := HGA.out; omega, fun e => by have h5 := (HOWN.out.lt b e).2; have := hb.1; have := HBQw3.out.size; omega⟩) (fun _ _ _ _ hu => hu)⟩)
   clear hba
   go_wp2_with (at_builtin; go_must (refine wpList_app1 E_dev rfl _ _ rfl u3 _ rfl HOwa.out w4.heap.size rfl y (devCells y A4 c4) HNEW.out HRD.out HAM.out.1 HAM.out.2 (by have := HWR.out; have := HBQwa.out.size; omega) ?_); intro v2 w9 hown_ hgrow_ hnew_; have HOWN9 := Lib.hid hown_; have HGROW9 := Lib.hid hgrow_; have HNEW9 := Lib.hid hnew_; clear hown_ hgrow_ hnew_)
   have HB9 := Lib.hid (show Below w.heap.size w w9 from below_own HBwa.out HGROW9.out HBwa.out.size (fun k hk => by have := (HOwa.out.lt k hk).1; omega))
   have HSTn := Lib.hid (show FilSt (fun b => w.heap.size ≤ b) 43 w w (anyD) L (k + 1) v2 w9 from ⟨HB9.out, by have := HWR.out; have := HGROW9.out.size; have := HBQwa.out.size; omega, by rw [filter_step HXK.out, if_pos HP.out, HACC.out]; exact HOWN9.out⟩)
   try go_wp2
   go_roundw
   case rel => exact ⟨k + 1, by omega, by go_num, HSTn⟩
   case measure => simp [intOf]; omega
  ·
   have i1 : ¬ (k : Int) < (L.length : Int) := by omega
   obtain rfl : k = L.length := by omega
   have HF := Lib.hid (filter_end (anyD) L)
   go_wp2
   go_ret
   exact ⟨HBR.out, _, by first | rfl | exact rfl, by have h := HOWN.out; rw [HF.out] at h; exact h.low (by omega)⟩
end Go.Proofs.YtehmidmoiamcfaaGreatDoor
namespace Go
section
variable {F : Fence} {n : Nat} {P : Program} {ops : Array Oper} {Q : Exit → Act → World → Prop} {md : Region.Mode} {S : World → Prop} {late : Nat → Bool}
end
end Go
namespace Go.Cold
open Go Go.RowKit
section
variable {α : Type} [El α] {P : Program} {k e : TypeId} {w : World} {b n : Nat} {f : Int → Option α} {F : Fence} {nF : Nat}
end
section
variable {P : Program} {tI tB : TypeId} {gt gi bm c N B : Nat} {A : Option Addr} {L : List Dev} {idx : Int} {ins : List Int} {W W' : World}
end
end Go.Cold
namespace Go.Proofs.YtehmidmoiamcfaaGreatDoor
open Go.RowKit Go.Cold Go.Shelf
attribute [local go_sem] Oper.semAt_some
end Go.Proofs.YtehmidmoiamcfaaGreatDoor
namespace Go.Cold
open Go Go.RowKit
section
variable {P : Program} {F : Fence} {n : Nat} {bytes : Nat} {TS : TypeId} {ops : Array Oper} {o : Oper} {a : Act} {Q : Exit → Act → World → Prop} {w : World}
end
theorem attrs_le {d : Dev} (h : checkD d = 0) : d.attrs.length ≤ 1000000 := by
 rw [checkD_eq] at h
 by_cases h1 : rangeB d <;> by_cases h2 : namedB d <;> by_cases h3 : kindB d <;> by_cases h4 : numberB d <;> by_cases h5 : d.attrs.length ≤ 24 <;> simp_all
 all_goals omega
end Go.Cold
namespace Go.Proofs.YtehmidmoiamcfaaGreatDoor
open Go.RowKit Go.Cold Go.Shelf
attribute [local go_sem] Oper.semAt_some
end Go.Proofs.YtehmidmoiamcfaaGreatDoor
