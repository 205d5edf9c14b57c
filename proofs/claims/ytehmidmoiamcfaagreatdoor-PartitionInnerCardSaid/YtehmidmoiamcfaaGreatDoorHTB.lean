/-
  The walk of partition.Wants.
-/
import Derived.Test.YtehmidmoiamcfaaGreatDoorHTA
import Derived.Test.YtehmidmoiamcfaaGreatDoorHSP
import Derived.Test.YtehmidmoiamcfaaGreatDoorHRF
set_option linter.unusedSimpArgs false
set_option linter.unusedVariables false
namespace Go.Cold
open Go Go.RowKit
/-- What a device wants. -/
noncomputable def wantsD (d : Dev) (origin : ByteArray) (round : Int) : List Virt := if d.kind = 2 then wantsV d.orig origin round (innerG ((getA d.attrs ⟨#[99, 111, 110, 116, 101, 110, 116]⟩).getD ByteArray.empty) 5) else []
/-- What the closure adds. -/
def wantOne (o origin : ByteArray) (round : Int) (k : Int) (s : ByteArray) : List Virt := if ptOk o k then [⟨origin, ptName o k, s, round⟩] else []
theorem attr_sizes {w : World} {B c : Nat} {A : Option Addr} {xs : List Attr} (h : Sl w B A c xs) : ∀ a ∈ xs, a.value.size ≤ maxLen := fun a ha => by
  obtain ⟨i, hi, rfl⟩ := List.getElem_of_mem ha
  obtain ⟨b, o, e, hlt, h1, _⟩ := h.attr hi
  exact h1.2
/-- Where Wants stands: the device's box gd, the boxes of origin go and round gr, the list's gl; acc is gathered. -/
def WaSt (w0 : World) (gd go gr gl base : Nat) (T : TypeId) (dc : List Value) (origin : ByteArray) (round : Int) (A : Option Addr) (c : Nat) (inner : List ByteArray) (acc : List Virt) (w : World) : Prop :=
  Below w0.heap.size w0 w ∧ BoxL w gd dc ∧ BoxL w go [.string origin] ∧ BoxL w gr [.int .i64 round] ∧ SlS w (fun x => x < base ∧ x ≠ gl) A c inner ∧ (∃ v, BoxL w gl [v] ∧ OwnsS (fun _ => False) w base T v acc) ∧
    (w0.heap.size ≤ gl ∧ gl < base ∧ base ≤ w.heap.size) ∧ (gd ≠ gl ∧ go ≠ gl ∧ gr ≠ gl) ∧ gd < base ∧ go < base ∧ gr < base
section
variable {w0 w w' : World} {gd go gr gl base : Nat} {T : TypeId} {dc : List Value} {origin : ByteArray} {round : Int} {A : Option Addr} {c : Nat} {inner : List ByteArray} {acc : List Virt}
theorem WaSt.below (h : WaSt w0 gd go gr gl base T dc origin round A c inner acc w) (hb : Below w.heap.size w w') : WaSt w0 gd go gr gl base T dc origin round A c inner acc w' := by
  obtain ⟨h1, h2, h3, h4, h5, ⟨v, h6, h7⟩, ⟨h8, h9, h10⟩, h11, h12⟩ := h
  have hg := grown_none hb
  exact ⟨h1.trans (hb.mono h1.size), h2.kept hg (fun e => by cases e), h3.kept hg (fun e => by cases e), h4.kept hg (fun e => by cases e), h5.below hb (fun x hx => by omega), ⟨v, h6.kept hg (fun e => by cases e), h7.below hb⟩, ⟨h8, h9, by have := hb.size; omega⟩, h11, h12⟩
/-- One more is gathered: the row grew, its value is stored. -/
theorem WaSt.put {v v' : Value} {y : Virt} (h1 : Below w0.heap.size w0 w) (h2 : BoxL w gd dc) (h3 : BoxL w go [.string origin]) (h4 : BoxL w gr [.int .i64 round]) (h5 : SlS w (fun x => x < base ∧ x ≠ gl) A c inner) (h6 : BoxL w gl [v]) (h7 : OwnsS (fun _ => False) w base T v acc)
    (h8 : w0.heap.size ≤ gl ∧ gl < base ∧ base ≤ w.heap.size) (h11 : gd ≠ gl ∧ go ≠ gl ∧ gr ≠ gl) (h12 : gd < base ∧ go < base ∧ gr < base) (hown : OwnsS (fun _ => False) w' base T v' (acc ++ [y])) (hg : w.grownBy w' v.ownBlock) :
    WaSt w0 gd go gr gl base T dc origin round A c inner (acc ++ [y]) (w'.setCell ⟨gl, 0, none⟩ v') := by
  have hlt := h7.lt
  have hne : ∀ g, g < base → some g ≠ v.ownBlock := fun g hg e => by have := (hlt g e.symm).1; omega
  have hsl : SlS w' (fun x => x < base ∧ x ≠ gl) A c inner := h5.mono (fun _ h => h) (fun b o u hb hu => hg.cell hu (hne b hb.1))
  have hown' : OwnsS (fun _ => False) (w'.setCell ⟨gl, 0, none⟩ v') base T v' (acc ++ [y]) := hown.grownb (grown_one _ _ _ _) (fun _ h => h.elim) h8.2.1
  refine ⟨(h1.grown hg (by omega) (fun q hq => by have := (hlt q hq).1; omega)).setCell (by exact h8.1) _, (h2.kept hg (hne _ h12.1)).far (fun e => h11.1 e.symm) _, (h3.kept hg (hne _ h12.2.1)).far (fun e => h11.2.1 e.symm) _, (h4.kept hg (hne _ h12.2.2)).far (fun e => h11.2.2 e.symm) _, hsl.set_ (fun x hx => hx.2) _, ⟨v', ?_, hown'⟩, ⟨h8.1, h8.2.1, by have := hg.size; simp; omega⟩, h11, h12⟩
  exact (h6.kept hg (hne _ h8.2.1)).set_ (j := 0) (by simp) v'
end
end Go.Cold
namespace Go.Proofs.YtehmidmoiamcfaaGreatDoor
open Go.RowKit Go.Cold
theorem info_virt : (Tryz.prog.info? 46).map (fun i => (i.zero, i.size, i.bytes)) = some (some (.agg #[.string ByteArray.empty, .string ByteArray.empty, .string ByteArray.empty, .int .i64 0]), 4, 56) := by kernel_rfl
theorem E_virt : ElemT Tryz.prog (Rep.size Virt) 46 39 56 := ⟨Tryz.underlying39, by obtain ⟨i, hi, hz, h1, h2⟩ := info_parts info_virt; exact ⟨i, _, hi, hz, h1, h2, rfl⟩⟩
def devC (d : Dev) (A : Option Addr) (c : Nat) : List Value := [.int .i64 d.idx, .int .i64 d.par, .string d.nm, .string d.orig, .string d.sub, .string d.drv, .string d.ali, .int .i64 d.kind, .int .i64 d.num, .slice A d.attrs.length c]
abbrev WaT (w0 : World) (gd go gr gl base : Nat) (d : Dev) (A3 : Option Addr) (c3 : Nat) (origin : ByteArray) (round : Int) (A : Option Addr) (c : Nat) (inner : List ByteArray) (acc : List Virt) (w : World) : Prop :=
  WaSt w0 gd go gr gl base 46 (devC d A3 c3) origin round A c inner acc w
set_option maxRecDepth 100000 in
set_option maxHeartbeats 4000000 in
/-- The closure of partition.Wants. -/
theorem Wants1_any (w0 : World) (gd go gr gl base : Nat) (d : Dev) (A3 : Option Addr) (c3 : Nat) (origin : ByteArray) (round : Int) (A : Option Addr) (c : Nat) (inner : List ByteArray) (acc : List Virt) (k : Int) (s : ByteArray) (w : World)
    (h : WaT w0 gd go gr gl base d A3 c3 origin round A c inner acc w) (hok : Ok7 w) (hk : okI k) (hd : d.orig.size ≤ maxLen - 30) (ho : origin.size ≤ maxLen) (hr : okI round) (hs : s.size ≤ maxLen) (ha : acc.length ≤ 16) :
    Calls Tryz.prog 43 #[.int .i64 k, .string s, .pointer (some ⟨gd, 0, none⟩), .pointer (some ⟨gl, 0, none⟩), .pointer (some ⟨go, 0, none⟩), .pointer (some ⟨gr, 0, none⟩)] w
      fun e w' => e = .returned (.tuple #[]) ∧ WaT w0 gd go gr gl base d A3 c3 origin round A c inner (acc ++ wantOne d.orig origin round k s) w' := by
  have hnm := ptName_size (o := d.orig) hk
  have HOK := Lib.hid hok; have HH := Lib.hid h; have HV := Lib.hid (show virtOk ⟨origin, ptName d.orig k, s, round⟩ from ⟨ho, by show (ptName d.orig k).size ≤ maxLen; unfold maxLen at *; omega, hs, hr⟩); have HA := Lib.hid ha
  have HK := Lib.hid hk; have HD := Lib.hid hd
  obtain ⟨v0, hv0, -⟩ := h.2.2.2.2.2.1
  have x3 := h.2.1.1 3 _ rfl
  clear h hok hnm hd ho hr hs ha hv0
  go_enter Tryz.func43, Tryz.ntmps43
  go_wp2_with fail
  refine (PName_any d.orig k _ HOK.out HK.out HD.out).mono ?_
  rintro e w1 ⟨rfl, hb1⟩
  have HH1 := Lib.hid (HH.out.below hb1)
  clear hb1 x3
  obtain ⟨q, hq⟩ : ∃ q, ptOk d.orig k = q := ⟨_, rfl⟩
  have HQ := Lib.hid hq
  cases q
  · obtain ⟨n1, n2⟩ := ptNo (o := d.orig) (k := k) hq
    rw [n1, n2]
    clear n1 n2 hq
    go_wp2
    go_end0
    exact ⟨rfl, by unfold wantOne; rw [if_neg (by rw [HQ.out]; exact Bool.false_ne_true), List.append_nil]; exact HH1.out⟩
  · obtain ⟨n1, n2⟩ := ptYes (o := d.orig) (k := k) hq
    rw [n1, n2]
    clear n1 n2 hq
    obtain ⟨nm, hnm⟩ : ∃ nm, ptName d.orig k = nm := ⟨_, rfl⟩
    rw [hnm] at HV ⊢
    have HNM := Lib.hid hnm
    clear hnm
    obtain ⟨v, hvb, hvo⟩ := HH1.out.2.2.2.2.2.1
    obtain ⟨w2, hw2⟩ : ∃ w2, w1.alloc (.cells #[.string origin, .string nm, .string s, .int .i64 round] 46) = w2 := ⟨_, rfl⟩
    have hb2 : Below w1.heap.size w1 w2 := by rw [← hw2]; exact (Below.refl _ _).alloc (Nat.le_refl _) _
    have HCT := Lib.hid (lit_cells hw2 (l := [.string origin, .string nm, .string s, .int .i64 round]) rfl)
    have HH2 := Lib.hid (HH1.out.below hb2)
    have HVB2 := Lib.hid (hvb.kept (grown_none hb2) (fun e => by cases e)); have HVO2 := Lib.hid (hvo.below hb2)
    have HBS := Lib.hid (show base ≤ w2.heap.size from HH2.out.2.2.2.2.2.2.1.2.2)
    have y0 := hvb.1 0 _ rfl
    have yo := HH1.out.2.2.1.1 0 _ rfl
    have yr := HH1.out.2.2.2.1.1 0 _ rfl
    obtain ⟨Av, cv, rfl, -⟩ := hvo.cs
    have z0 := HVB2.out.1 0 _ rfl
    have zf := HVB2.out.2.1
    clear hb2 hvb hvo
    go_wp2_with (at_builtin; go_must (refine wpList_app1 E_virt rfl _ _ rfl _ _ rfl HVO2.out w1.heap.size rfl ⟨origin, nm, s, round⟩ [.string origin, .string nm, .string s, .int .i64 round] HCT.out ⟨rfl, HV.out⟩ (by have := HA.out; unfold maxLen; omega) (by have := HA.out; omega) HBS.out ?_); intro v' w3 hown_ hgrow_ hnew_; obtain ⟨A9, c9, rfl, -⟩ := hown_.cs; have HOWN := Lib.hid hown_; have HGROW := Lib.hid hgrow_; have f0 := (HVB2.out.kept hgrow_ (fun e => by have := (HVO2.out.lt _ e.symm).1; have := HH2.out.2.2.2.2.2.2.1; omega)).1 0 _ rfl; have f1 := (HVB2.out.kept hgrow_ (fun e => by have := (HVO2.out.lt _ e.symm).1; have := HH2.out.2.2.2.2.2.2.1; omega)).2.1; clear hown_ hgrow_ hnew_ z0 zf)
    try go_wp2
    go_end0
    have hh := HH2.out
    have how := HOWN.out
    rw [List.length_append, List.length_singleton] at how
    unfold wantOne
    rw [if_pos HQ.out, HNM.out]
    exact ⟨rfl, WaSt.put hh.1 hh.2.1 hh.2.2.1 hh.2.2.2.1 hh.2.2.2.2.1 HVB2.out HVO2.out hh.2.2.2.2.2.2.1 hh.2.2.2.2.2.2.2.1 hh.2.2.2.2.2.2.2.2 how HGROW.out⟩
def WantsPost (d : Dev) (origin : ByteArray) (round : Int) (w : World) (e : Ending) (w' : World) : Prop := Below w.heap.size w w' ∧ ∃ v, e = .returned v ∧ OwnsS (fun _ => False) w' w.heap.size 46 v (wantsD d origin round)
set_option maxRecDepth 100000 in
set_option maxHeartbeats 4000000 in
/-- partition.Wants. -/
theorem Wants_any (A : Option Addr) (c : Nat) (d : Dev) (origin : ByteArray) (round : Int) (w : World) (B : Nat) (hB : B ≤ w.heap.size) (hx : Sl w B A c d.attrs) (hok : Ok7 w) (hd : d.orig.size ≤ maxLen - 30) (ho : origin.size ≤ maxLen) (hr : okI round) :
    Calls Tryz.prog 18 #[.agg #[.int .i64 d.idx, .int .i64 d.par, .string d.nm, .string d.orig, .string d.sub, .string d.drv, .string d.ali, .int .i64 d.kind, .int .i64 d.num, .slice A d.attrs.length c], .string origin, .int .i64 round] w (WantsPost d origin round w) := by
  have hsz := getA_size (n := ⟨#[99, 111, 110, 116, 101, 110, 116]⟩) (attr_sizes hx)
  have hen := enters_of Tryz.func43 (by kernel_rfl) rfl
  have HX := Lib.hid hx; have HB := Lib.hid hB; have HOK := Lib.hid hok; have HD := Lib.hid hd; have HO := Lib.hid ho; have HR := Lib.hid hr; have HSZ := Lib.hid hsz
  clear hx hB hok hd ho hr hsz
  go_enter Tryz.func18, Tryz.ntmps18
  go_upto_region 1 with fail
  obtain ⟨w1, hw1⟩ : ∃ w1, w.alloc (.cells #[.int .i64 d.idx, .int .i64 d.par, .string d.nm, .string d.orig, .string d.sub, .string d.drv, .string d.ali, .int .i64 d.kind, .int .i64 d.num, .slice A d.attrs.length c] 43) = w1 := ⟨_, rfl⟩
  have hb1 : Below w.heap.size w w1 := by rw [← hw1]; exact (Below.refl _ _).alloc (Nat.le_refl _) _
  have hd1 : BoxL w1 w.heap.size (devC d A c) := box_mk hw1
  have HG1 := Lib.hid (show w1.heap.size = w.heap.size + 1 by rw [← hw1]; simp)
  try simp only [hw1]
  try rw [show w.heap.size + 1 = w1.heap.size from HG1.out.symm]
  obtain ⟨w2, hw2⟩ : ∃ w2, w1.alloc (.cells #[.string origin] 9) = w2 := ⟨_, rfl⟩
  have hb2 : Below w1.heap.size w1 w2 := by rw [← hw2]; exact (Below.refl _ _).alloc (Nat.le_refl _) _
  have ho2 : BoxL w2 w1.heap.size [.string origin] := box_mk hw2
  have HG2 := Lib.hid (show w2.heap.size = w1.heap.size + 1 by rw [← hw2]; simp)
  try simp only [hw2]
  try rw [show w1.heap.size + 1 = w2.heap.size from HG2.out.symm]
  obtain ⟨w3, hw3⟩ : ∃ w3, w2.alloc (.cells #[.int .i64 round] 3) = w3 := ⟨_, rfl⟩
  have hb3 : Below w2.heap.size w2 w3 := by rw [← hw3]; exact (Below.refl _ _).alloc (Nat.le_refl _) _
  have hr3 : BoxL w3 w2.heap.size [.int .i64 round] := box_mk hw3
  have HG3 := Lib.hid (show w3.heap.size = w2.heap.size + 1 by rw [← hw3]; simp)
  try simp only [hw3]
  have hb13 : Below w1.heap.size w1 w3 := hb2.trans (hb3.mono hb2.size)
  have HB3 := Lib.hid (hb1.trans (hb13.mono hb1.size))
  have HD3 := Lib.hid (hd1.kept (grown_none hb13) (fun e => by cases e)); have HO3 := Lib.hid (ho2.kept (grown_none hb3) (fun e => by cases e)); have HR3 := Lib.hid hr3
  clear hw1 hw2 hw3 hb1 hb2 hb3 hb13 hd1 ho2 hr3
  have x9 := HD3.out.1 9 _ rfl
  go_wp2_with fail
  refine (Get_any A c d.attrs ⟨#[99, 111, 110, 116, 101, 110, 116]⟩ _ B (Nat.le_trans HB.out HB3.out.size) (HX.out.keep (HB3.out.mono HB.out))).mono ?_
  rintro e w4 ⟨rfl, hb4⟩
  obtain ⟨txt, htxt⟩ : ∃ z, (getA d.attrs ⟨#[99, 111, 110, 116, 101, 110, 116]⟩).getD ByteArray.empty = z := ⟨_, rfl⟩
  obtain ⟨q0, hq0⟩ : ∃ z, (getA d.attrs ⟨#[99, 111, 110, 116, 101, 110, 116]⟩).isSome = z := ⟨_, rfl⟩
  have HWD := Lib.hid (show wantsD d origin round = if d.kind = 2 then wantsV d.orig origin round (innerG txt 5) else [] by unfold wantsD; rw [htxt])
  have HTS := Lib.hid (show txt.size ≤ maxLen by rw [← htxt]; exact HSZ.out)
  rw [htxt, hq0]
  have HB4 := Lib.hid (HB3.out.trans (hb4.mono HB3.out.size)); have hg4 := grown_none hb4
  have HD4 := Lib.hid (HD3.out.kept hg4 (fun e => by cases e)); have HO4 := Lib.hid (HO3.out.kept hg4 (fun e => by cases e)); have HR4 := Lib.hid (HR3.out.kept hg4 (fun e => by cases e))
  have HS4 := Lib.hid hb4.size
  clear htxt hq0 hb4 hg4 x9
  go_wp2_with fail
  refine (Read_any txt 5 _ HTS.out (HOK.out.below HB4.out)).mono ?_
  rintro e w5 ⟨hb5, k, i, l, s2, t, le, A5, n5, c5, A6, c6, rfl, hsl, hlen⟩
  have HB5 := Lib.hid (HB4.out.trans (hb5.mono HB4.out.size)); have hg5 := grown_none hb5
  have HD5 := Lib.hid (HD4.out.kept hg5 (fun e => by cases e)); have HO5 := Lib.hid (HO4.out.kept hg5 (fun e => by cases e)); have HR5 := Lib.hid (HR4.out.kept hg5 (fun e => by cases e))
  have HS5 := Lib.hid hb5.size
  obtain ⟨inner, hin⟩ : ∃ z, innerG txt 5 = z := ⟨_, rfl⟩
  obtain ⟨ok, hok⟩ : ∃ z, (readG txt 5).isSome = z := ⟨_, rfl⟩
  have HOKF := Lib.hid (show ok = false → inner = [] by
    rintro rfl
    rw [← hin]; unfold innerG
    cases h : readG txt 5 with
    | none => rfl
    | some _ => rw [h] at hok; cases hok)
  rw [hin] at hsl hlen HWD ⊢
  rw [hok]
  have HSL := Lib.hid hsl; have HLEN := Lib.hid hlen
  clear hb5 hg5 hin hok hsl hlen
  go_upto_region 3 with fail
  obtain ⟨w6, hw6⟩ : ∃ w6, w5.alloc (.cells #[.int .i64 k, .string i, .string l, .int .i64 s2, .int .i64 t, .int .i64 le, .slice A5 n5 c5] 36) = w6 := ⟨_, rfl⟩
  have hb6 : Below w5.heap.size w5 w6 := by rw [← hw6]; exact (Below.refl _ _).alloc (Nat.le_refl _) _
  have HG6 := Lib.hid (show w6.heap.size = w5.heap.size + 1 by rw [← hw6]; simp)
  try rw [hw6]
  have HB6 := Lib.hid (HB5.out.trans (hb6.mono HB5.out.size)); have hg6 := grown_none hb6
  have HD6 := Lib.hid (HD5.out.kept hg6 (fun e => by cases e)); have HO6 := Lib.hid (HO5.out.kept hg6 (fun e => by cases e)); have HR6 := Lib.hid (HR5.out.kept hg6 (fun e => by cases e))
  have HSL6 := Lib.hid (HSL.out.below hb6 (fun x hx => hx.2))
  clear hw6 hb6 hg6
  have x7 := HD6.out.1 7 _ rfl
  cases ok
  case false =>
    have HE := Lib.hid (show wantsD d origin round = [] by rw [HWD.out, HOKF.out rfl]; split <;> rfl)
    go_wp2
    go_ret
    exact ⟨HB6.out, _, rfl, by rw [HE.out]; exact OwnsS.nil_ _ _ _ _⟩
  by_cases hk2 : d.kind = 2
  case neg =>
    have p1 : (d.kind != 2) = true := by simpa using hk2
    have p2 : (d.kind == 2) = false := by simpa using hk2
    have HE := Lib.hid (show wantsD d origin round = [] by rw [HWD.out, if_neg hk2])
    clear hk2
    go_wp2
    go_ret
    exact ⟨HB6.out, _, rfl, by rw [HE.out]; exact OwnsS.nil_ _ _ _ _⟩
  have p1 : (d.kind != 2) = false := by simpa using hk2
  have p2 : (d.kind == 2) = true := by simpa using hk2
  have HWE := Lib.hid (show wantsD d origin round = wantsV d.orig origin round inner by rw [HWD.out, if_pos hk2])
  clear hk2
  go_upto_region 6 with fail
  obtain ⟨w7, hw7⟩ : ∃ w7, w6.alloc (.cells #[.slice none 0 0] 39) = w7 := ⟨_, rfl⟩
  have hb7 : Below w6.heap.size w6 w7 := by rw [← hw7]; exact (Below.refl _ _).alloc (Nat.le_refl _) _
  have hl7 : BoxL w7 w6.heap.size [.slice none 0 0] := box_mk hw7
  have HG7 := Lib.hid (show w7.heap.size = w6.heap.size + 1 by rw [← hw7]; simp)
  try rw [hw7]
  have hg7 := grown_none hb7
  have HST := Lib.hid (show WaT w w.heap.size w1.heap.size w2.heap.size w6.heap.size w7.heap.size d A c origin round A6 c6 inner [] w7 from
    ⟨HB6.out.trans (hb7.mono HB6.out.size), HD6.out.kept hg7 (fun e => by cases e), HO6.out.kept hg7 (fun e => by cases e), HR6.out.kept hg7 (fun e => by cases e), (HSL6.out.below hb7 (fun x hx => by have := HG6.out; omega)).mono (fun x hx => ⟨by have := HG6.out; have := HG7.out; omega, by have := HG6.out; omega⟩) (fun _ _ _ _ hu => hu),
     ⟨_, hl7, OwnsS.nil_ _ _ _ _⟩, ⟨by have := HB6.out.size; omega, by have := HG7.out; omega, Nat.le_refl _⟩, by have := HG1.out; have := HG2.out; have := HG3.out; have := HS4.out; have := HS5.out; have := HG6.out; omega, by have := HG1.out; have := HG2.out; have := HG3.out; have := HS4.out; have := HS5.out; have := HG6.out; have := HG7.out; omega⟩)
  clear hw7 hb7 hl7 hg7 x7 p1 p2
  go_wp2_with fail
  go_loopw [38] (fun i wr => ∃ j : Nat, j ≤ inner.length ∧ i = .int .i64 j ∧ Hid (WaT w w.heap.size w1.heap.size w2.heap.size w6.heap.size w7.heap.size d A c origin round A6 c6 inner (wantsV d.orig origin round (inner.take j)) wr)) (fun i _ => inner.length - (intOf i).toNat)
  case atStart => exact ⟨0, Nat.zero_le _, rfl, HST⟩
  case round =>
    clear HST
    obtain ⟨j, hj, rfl, HWR⟩ := hrel
    by_cases hlt : j < inner.length
    · have i1 : (j : Int) < (inner.length : Int) := by omega
      have hsl := HWR.out.2.2.2.2.1.sl (B := w7.heap.size) (fun x hx => hx.1)
      obtain ⟨b, o, rfl, hb, hcell, hsz⟩ := hsl.str hlt
      have hat : inner[j]? = some inner[j] := List.getElem?_eq_getElem hlt
      obtain ⟨s, hs⟩ : ∃ s, inner[j]'hlt = s := ⟨_, rfl⟩
      rw [hs] at hcell hsz hat
      have HAT := Lib.hid hat
      have HCALL := Lib.hid (Wants1_any w w.heap.size w1.heap.size w2.heap.size w6.heap.size w7.heap.size d A c origin round _ c6 inner (wantsV d.orig origin round (inner.take j)) ((j + 1 : Nat) : Int) s wr HWR.out (HOK.out.below HWR.out.1) (by have := HLEN.out; unfold okI; omega) HD.out HO.out HR.out (by omega) (by have h1 := wants_len d.orig origin round 1 (inner.take j); rw [List.length_take] at h1; have := HLEN.out; unfold wantsV; omega))
      have hwr1 : wrap64 ((j : Int) + 1) = ((j + 1 : Nat) : Int) := by have := HLEN.out; unfold wrap64; omega
      have hwr2 : IntKind.i64.wrap ((j : Int) + 1) = ((j + 1 : Nat) : Int) := by have := HLEN.out; rw [IntKind.wrap_i64]; omega
      clear hsl hat hs hsz hb
      go_wp2_with fail
      refine HCALL.out.mono ?_
      rintro e w8 ⟨rfl, hst⟩
      have HS8 := Lib.hid (show WaT w w.heap.size w1.heap.size w2.heap.size w6.heap.size w7.heap.size d A c origin round (some ⟨b, o, none⟩) c6 inner (wantsV d.orig origin round (inner.take (j + 1))) w8 by rw [wants_take HAT.out]; exact hst)
      clear hst hcell
      go_wp2
      go_roundw
      case rel => exact ⟨j + 1, by omega, by go_num, HS8⟩
      case measure => simp [intOf]; omega
    · have i1 : ¬ (j : Int) < (inner.length : Int) := by omega
      have htk : inner.take j = inner := List.take_of_length_le (by omega)
      have hwr := HWR.out
      rw [htk, ← HWE.out] at hwr
      obtain ⟨v, hvb, hvo⟩ := hwr.2.2.2.2.2.1
      have y0 := hvb.1 0 _ rfl
      have HFIN := Lib.hid (show OwnsS (fun _ => False) wr w.heap.size 46 v (wantsD d origin round) from hvo.low (by have := hwr.2.2.2.2.2.2.1; omega))
      have HBF := Lib.hid hwr.1
      clear hvb hvo hwr htk
      go_wp2
      go_ret
      exact ⟨HBF.out, _, rfl, HFIN.out⟩
end Go.Proofs.YtehmidmoiamcfaaGreatDoor
namespace Go.Proofs.YtehmidmoiamcfaaGreatDoor
open Go.RowKit Go.Cold
set_option maxRecDepth 100000 in
set_option maxHeartbeats 4000000 in
/-- The reference's Wants. -/
theorem RWants_any (A : Option Addr) (c : Nat) (d : Dev) (origin : ByteArray) (round : Int) (w : World) (B : Nat) (hB : B ≤ w.heap.size) (hx : Sl w B A c d.attrs) (hok : Ok7 w) (hok8 : Ok8 w) (hd : d.orig.size ≤ maxLen - 30) (ho : origin.size ≤ maxLen) (hr : okI round) :
  Calls Tryz.prog 25 #[.agg #[.int .i64 d.idx, .int .i64 d.par, .string d.nm, .string d.orig, .string d.sub, .string d.drv, .string d.ali, .int .i64 d.kind, .int .i64 d.num, .slice A d.attrs.length c], .string origin, .int .i64 round] w (WantsPost d origin round w) := by
 have hsz := getA_size (n := nmContent) (attr_sizes hx)
 have HX := Lib.hid hx; have HB := Lib.hid hB; have HOK := Lib.hid hok; have HOK8 := Lib.hid hok8; have HD := Lib.hid hd; have HO := Lib.hid ho; have HR := Lib.hid hr; have HSZ := Lib.hid hsz
 clear hx hB hok hok8 hd ho hr hsz
 go_enter Tryz.func25, Tryz.ntmps25
 go_upto_region 1 with fail
 obtain ⟨w1, hw1⟩ : ∃ w1, w.alloc (.cells #[.int .i64 d.idx, .int .i64 d.par, .string d.nm, .string d.orig, .string d.sub, .string d.drv, .string d.ali, .int .i64 d.kind, .int .i64 d.num, .slice A d.attrs.length c] 43) = w1 := ⟨_, rfl⟩
 have hb1 : Below w.heap.size w w1 := by rw [← hw1]; exact (Below.refl _ _).alloc (Nat.le_refl _) _
 have hd1 : BoxL w1 w.heap.size [.int .i64 d.idx, .int .i64 d.par, .string d.nm, .string d.orig, .string d.sub, .string d.drv, .string d.ali, .int .i64 d.kind, .int .i64 d.num, .slice A d.attrs.length c] := box_mk hw1
 have HG1 := Lib.hid (show w1.heap.size = w.heap.size + 1 by rw [← hw1]; simp)
 try rw [hw1]
 have HB1 := Lib.hid hb1; have HD1 := Lib.hid hd1
 clear hw1 hb1 hd1
 have x0 := HD1.out.1 0 _ rfl; have x1 := HD1.out.1 1 _ rfl; have x2 := HD1.out.1 2 _ rfl; have x3 := HD1.out.1 3 _ rfl; have x4 := HD1.out.1 4 _ rfl; have x5 := HD1.out.1 5 _ rfl; have x6 := HD1.out.1 6 _ rfl; have x7 := HD1.out.1 7 _ rfl; have x8 := HD1.out.1 8 _ rfl; have x9 := HD1.out.1 9 _ rfl
 go_wp2_with fail
 refine (RContent_any A c d _ B (Nat.le_trans HB.out HB1.out.size) (HX.out.keep (HB1.out.mono HB.out))).mono ?_
 rintro e w2 ⟨rfl, hb2⟩
 obtain ⟨txt, htxt⟩ : ∃ z, contD d = z := ⟨_, rfl⟩
 have HWD := Lib.hid (show wantsD d origin round = if d.kind = 2 then wantsV d.orig origin round (innerG txt 5) else [] by unfold wantsD; rw [← htxt]; rfl)
 have HTS := Lib.hid (show txt.size ≤ maxLen by rw [← htxt]; exact HSZ.out)
 rw [htxt]
 have HB2 := Lib.hid (HB1.out.trans (hb2.mono HB1.out.size)); have HD2 := Lib.hid (HD1.out.kept (grown_none hb2) (fun e => by cases e))
 clear htxt hb2 x0 x1 x2 x3 x4 x5 x6 x7 x8 x9
 go_wp2_with fail
 refine (RParse_any txt _ HTS.out (HOK8.out.below HB2.out)).mono ?_
 rintro e w3 ⟨hb3, hor⟩
 have HB3 := Lib.hid (HB2.out.trans (hb3.mono HB2.out.size)); have HD3 := Lib.hid (HD2.out.kept (grown_none hb3) (fun e => by cases e))
 clear hb3
 rcases hor with ⟨C, cs, hC, rfl, hnew, hnod⟩ | ⟨hC, rfl⟩
 case inr =>
  have hne : ∃ y : Int, (if 256 < txt.size then (71 : Int) else 70) = y ∧ (y != 0) = true ∧ ¬ y = 0 := by
   split
   · exact ⟨71, rfl, rfl, by omega⟩
   · exact ⟨70, rfl, rfl, by omega⟩
  obtain ⟨y, hy1, hy2, hy3⟩ := hne
  rw [hy1]
  unfold zeroA
  have HE := Lib.hid (show wantsD d origin round = [] by rw [HWD.out, (innerG_none (k := 5) hC).1]; split <;> rfl)
  clear hC hy1
  go_upto_region 2 with fail
  obtain ⟨w4, hw4⟩ : ∃ w4, w3.alloc (.cells #[.int .i64 0, .string ByteArray.empty, .string ByteArray.empty, .int .i64 0, .int .i64 0, .int .i64 0, .slice none 0 0] 36) = w4 := ⟨_, rfl⟩
  have hb4 : Below w3.heap.size w3 w4 := by rw [← hw4]; exact (Below.refl _ _).alloc (Nat.le_refl _) _
  try rw [hw4]
  have HB4 := Lib.hid (HB3.out.trans (hb4.mono HB3.out.size))
  have x7 := (HD3.out.kept (grown_none hb4) (fun e => by cases e)).1 7 _ rfl
  clear hw4 hb4
  by_cases hk2 : d.kind = 2
  ·
   have p1 : (d.kind != 2) = false := by simpa using hk2
   have p2 : (d.kind == 2) = true := by simpa using hk2
   clear hk2
   go_wp2
   go_ret
   exact ⟨HB4.out, _, rfl, by rw [HE.out]; exact OwnsS.nil_ _ _ _ _⟩
  ·
   have p1 : (d.kind != 2) = true := by simpa using hk2
   have p2 : (d.kind == 2) = false := by simpa using hk2
   clear hk2
   go_wp2
   go_ret
   exact ⟨HB4.out, _, rfl, by rw [HE.out]; exact OwnsS.nil_ _ _ _ _⟩
 obtain ⟨k, i, l, s2, t, le, xs⟩ := C
 obtain ⟨A5, c5, rfl⟩ := CRdS_cells hnew
 have hrd := hnew.crd
 obtain ⟨A6, c6, he6, hok6, hsl⟩ := CRd_iff.1 hrd
 simp only [contCells] at he6 ⊢
 obtain ⟨rfl, rfl⟩ : A5 = A6 ∧ c5 = c6 := by injection he6 with _ h; injection h with _ h; injection h with _ h; injection h with _ h; injection h with _ h; injection h with _ h; injection h with h _; injection h with h1 _ h2; exact ⟨h1, h2⟩
 clear he6 hok6 hrd hnew
 have hlen : xs.length ≤ 16 := inner_len hC
 have hnx : ∀ x ∈ xs, nodesC x ≤ 2 ^ 40 := fun x hx => by
  have h1 := nodesL_mem hx
  rw [nodesC] at hnod
  exact Nat.le_trans (by omega) (show 257 ≤ 2 ^ 40 by decide)
 have hkt : ∀ x ∈ xs, AllOk x ∧ (textC x).size ≤ 256 := fun x hx => by
  obtain ⟨h1, h2, h3⟩ := inner_parse hC (show x ∈ (Cont.mk k i l s2 t le xs).inner from hx)
  obtain ⟨q1, q2, q3, q4⟩ := AllOk_parse h1
  exact ⟨q1, by have := text_parse h1; omega⟩
 have HSL := Lib.hid hsl; have HLEN := Lib.hid hlen; have HNX := Lib.hid hnx; have HKT := Lib.hid hkt; have HC := Lib.hid hC
 clear hsl hlen hnx hkt hC hnod
 go_upto_region 2 with fail
 obtain ⟨w4, hw4⟩ : ∃ w4, w3.alloc (.cells #[.int .i64 k, .string i, .string l, .int .i64 s2, .int .i64 t, .int .i64 le, .slice A5 xs.length c5] 36) = w4 := ⟨_, rfl⟩
 have hb4 : Below w3.heap.size w3 w4 := by rw [← hw4]; exact (Below.refl _ _).alloc (Nat.le_refl _) _
 have hx4 : BoxL w4 w3.heap.size [.int .i64 k, .string i, .string l, .int .i64 s2, .int .i64 t, .int .i64 le, .slice A5 xs.length c5] := box_mk hw4
 have HG4 := Lib.hid (show w4.heap.size = w3.heap.size + 1 by rw [← hw4]; simp)
 try rw [hw4]
 have HB4 := Lib.hid (HB3.out.trans (hb4.mono HB3.out.size)); have HX4 := Lib.hid hx4
 have HSL4 := Lib.hid (HSL.out.keep hb4); have HD4 := Lib.hid (HD3.out.kept (grown_none hb4) (fun e => by cases e))
 clear hw4 hb4 hx4
 have x7 := HD4.out.1 7 _ rfl
 have d0 := HX4.out.1 0 _ rfl; have d6 := HX4.out.1 6 _ rfl
 by_cases hk2 : d.kind = 2
 case neg =>
  have p1 : (d.kind != 2) = true := by simpa using hk2
  have p2 : (d.kind == 2) = false := by simpa using hk2
  have HE := Lib.hid (show wantsD d origin round = [] by rw [HWD.out, if_neg hk2])
  clear hk2
  go_wp2
  go_ret
  exact ⟨HB4.out, _, rfl, by rw [HE.out]; exact OwnsS.nil_ _ _ _ _⟩
 have p1 : (d.kind != 2) = false := by simpa using hk2
 have p2 : (d.kind == 2) = true := by simpa using hk2
 have HK2 := Lib.hid hk2
 clear hk2
 by_cases hk : k = 5
 case neg =>
  have p3 : (k != 5) = true := by simpa using hk
  have p4 : (k == 5) = false := by simpa using hk
  have HE := Lib.hid (show wantsD d origin round = [] by rw [HWD.out, (innerG_kind (k := 5) HC.out hk).1]; split <;> rfl)
  clear hk
  go_wp2
  go_ret
  exact ⟨HB4.out, _, rfl, by rw [HE.out]; exact OwnsS.nil_ _ _ _ _⟩
 have p3 : (k != 5) = false := by simpa using hk
 have p4 : (k == 5) = true := by simpa using hk
 have HWE := Lib.hid (show wantsD d origin round = wantsV d.orig origin round (textL xs) by rw [HWD.out, if_pos HK2.out, (innerG_some (k := 5) HC.out hk).1]; rfl)
 have HTL := Lib.hid (textL_len xs)
 clear hk
 go_wp2_with fail
 clear p1 p2 p3 p4 d0 d6 x7
 go_loopw [9, 10] (fun v i wr => ∃ j : Nat, j ≤ xs.length ∧ i = .int .i64 ((j + 1 : Nat) : Int) ∧ Hid (OwnsS (fun _ => False) wr w4.heap.size 46 v (wantsV d.orig origin round ((textL xs).take j))) ∧ Hid (Below w4.heap.size w4 wr)) (fun _ i _ => xs.length + 1 - (intOf i).toNat)
 case atStart => exact ⟨0, Nat.zero_le _, rfl, OwnsS.nil_ _ _ _ _, Below.refl _ _⟩
 case round =>
  obtain ⟨j, hj, rfl, HOWN, HBR⟩ := hrel
  have hl16 : xs.length ≤ 16 := HLEN.out
  have d6 := (HX4.out.kept (grown_none HBR.out) (fun e => by cases e)).1 6 _ rfl
  have x3 := (HD4.out.kept (grown_none HBR.out) (fun e => by cases e)).1 3 _ rfl
  by_cases hlt : j < xs.length
  ·
   have i1 : ((j + 1 : Nat) : Int) ≤ (xs.length : Int) := by omega
   have htk := textL_take xs j hlt
   have hxm := List.getElem_mem hlt
   obtain ⟨x, hx⟩ : ∃ x, xs[j]'hlt = x := ⟨_, rfl⟩
   rw [hx] at hxm htk
   have HXE := Lib.hid hx; have HLT := Lib.hid hlt
   have HAT := Lib.hid (show (textL xs)[j]? = some (textC x) by rw [textL_map, List.getElem?_map, List.getElem?_eq_getElem hlt, hx]; rfl)
   have HKX := Lib.hid (HKT.out x hxm); have HNX1 := Lib.hid (HNX.out x hxm)
   have HLW := Lib.hid (show (wantsV d.orig origin round ((textL xs).take j)).length ≤ 16 by have h1 := wants_len d.orig origin round 1 ((textL xs).take j); rw [List.length_take] at h1; unfold wantsV; omega)
   clear htk hxm hx
   go_wp2_with fail
   refine (RName31_any d.orig ((j + 1 : Nat) : Int) _ (HOK.out.below (HB4.out.trans (HBR.out.mono HB4.out.size))) (by unfold okI; omega) HD.out).mono ?_
   rintro e w5 ⟨rfl, hb5⟩
   have HB5 := Lib.hid hb5
   have HW5 := Lib.hid (show w4.heap.size ≤ w5.heap.size from Nat.le_trans HBR.out.size hb5.size)
   have HB45 := Lib.hid (HBR.out.trans (hb5.mono HBR.out.size)); have HOWN5 := Lib.hid (HOWN.out.below hb5)
   clear hb5 d6 x3
   obtain ⟨q, hq⟩ : ∃ q, ptOk d.orig ((j + 1 : Nat) : Int) = q := ⟨_, rfl⟩
   have HQ := Lib.hid hq
   cases q
   ·
    obtain ⟨n1, n2⟩ := ptNo (o := d.orig) (k := ((j + 1 : Nat) : Int)) hq
    rw [n1, n2]
    have HOW := Lib.hid (show OwnsS (fun _ => False) w5 w4.heap.size 46 u9 (wantsV d.orig origin round ((textL xs).take (j + 1))) by rw [wants_take HAT.out, if_neg (by rw [HQ.out]; exact Bool.false_ne_true), List.append_nil]; exact HOWN5.out)
    clear n1 n2 hq
    go_wp2
    go_roundw
    case rel => exact ⟨j + 1, by omega, by go_num, HOW, HB45⟩
    case measure => simp [intOf]; omega
   ·
    obtain ⟨n1, n2⟩ := ptYes (o := d.orig) (k := ((j + 1 : Nat) : Int)) hq
    rw [n1, n2]
    clear n1 n2 hq
    have hnsz := ptName_size (o := d.orig) (k := ((j + 1 : Nat) : Int)) (by unfold okI; omega)
    obtain ⟨nm, hnm⟩ : ∃ nm, ptName d.orig ((j + 1 : Nat) : Int) = nm := ⟨_, rfl⟩
    rw [hnm] at hnsz ⊢
    have HNM := Lib.hid hnm; have HNS := Lib.hid (show nm.size ≤ maxLen by have := HD.out; unfold maxLen at *; omega)
    clear hnm hnsz
    have d6 := (HX4.out.kept (grown_none HB45.out) (fun e => by cases e)).1 6 _ rfl
    obtain ⟨b3, o3, rfl, hb3, cs, hcs, hcells⟩ := (HSL4.out.keep (HB45.out.mono (by have := HG4.out; omega))).cont HLT.out
    rw [HXE.out] at hcs
    have HCRD := Lib.hid hcs
    obtain ⟨kk2, i2, l2, s22, t2, e2, xs2⟩ := x
    obtain ⟨A2, c2, rfl, -, -⟩ := CRd_iff.1 hcs
    obtain ⟨f0, f1, f2, f3, f4, f5, f6⟩ := cells7 hcells
    have hwr1 : wrap64 (((j + 1 : Nat) : Int) - 1) = (j : Int) := by unfold wrap64; omega
    have hwr2 : IntKind.i64.wrap (((j + 1 : Nat) : Int) - 1) = (j : Int) := by rw [IntKind.wrap_i64]; omega
    have hwr3 : wrap64 (((j : Int) + 1) - 1) = (j : Int) := by unfold wrap64; omega
    have hwr4 : IntKind.i64.wrap (((j : Int) + 1) - 1) = (j : Int) := by rw [IntKind.wrap_i64]; omega
    have hrd5 := CRd_more (show w3.heap.size ≤ w5.heap.size by have := HG4.out; have := HW5.out; omega) _ _ HCRD.out
    have HF := Lib.hid (rtext_any _ _ w5 hrd5 HKX.out.1 HNX1.out)
    obtain ⟨T, hT⟩ : ∃ T, textC (.mk kk2 i2 l2 s22 t2 e2 xs2) = T := ⟨_, rfl⟩
    have HT := Lib.hid hT
    clear hcs hcells hb3 hrd5 hT
    go_wp2_with fail
    refine HF.out.mono ?_
    rintro e w6 ⟨rfl, hb6⟩
    rw [HT.out]
    have HTS := Lib.hid (show T.size ≤ maxLen by have := HKX.out.2; rw [HT.out] at this; unfold maxLen; omega)
    obtain ⟨w7, hw7⟩ : ∃ w7, w6.alloc (.cells #[.string origin, .string nm, .string T, .int .i64 round] 46) = w7 := ⟨_, rfl⟩
    have hb7 : Below w6.heap.size w6 w7 := by rw [← hw7]; exact (Below.refl _ _).alloc (Nat.le_refl _) _
    have HCT := Lib.hid (lit_cells hw7 (l := [.string origin, .string nm, .string T, .int .i64 round]) rfl)
    have HB57 := Lib.hid (hb6.trans (hb7.mono hb6.size))
    have HO7 := Lib.hid (HOWN5.out.below HB57.out)
    have HW7 := Lib.hid (Nat.le_trans HW5.out HB57.out.size)
    clear hb6 hb7 d6 f0 f1 f2 f3 f4 f5 f6 hwr1 hwr2 hwr3 hwr4
    go_wp2_with (at_builtin; go_must (refine wpList_app1 E_virt rfl _ _ rfl (u9) _ rfl HO7.out w6.heap.size rfl ⟨origin, nm, T, round⟩ [.string origin, .string nm, .string T, .int .i64 round] HCT.out ⟨rfl, ⟨HO.out, HNS.out, HTS.out, HR.out⟩⟩ (by have := HLW.out; unfold maxLen; omega) (by have := HLW.out; omega) HW7.out ?_); intro v' w8 hown_ hgrow_ hnew_; have HOWN8 := Lib.hid hown_; have HGROW8 := Lib.hid hgrow_; clear hown_ hgrow_ hnew_)
    have HB8 := Lib.hid (below_own (HB45.out.trans (HB57.out.mono HB45.out.size)) HGROW8.out HW7.out (fun q hq => (HO7.out.lt q hq).1))
    have hrel8 : OwnsS (fun _ => False) w8 w4.heap.size 46 v' (wantsV d.orig origin round ((textL xs).take (j + 1))) := by
     rw [wants_take HAT.out, if_pos HQ.out, HNM.out, HT.out]; exact HOWN8.out
    have HREL8 := Lib.hid hrel8; clear hrel8
    try go_wp2
    go_roundw
    case rel => exact ⟨j + 1, by omega, by go_num, HREL8, HB8⟩
    case measure => simp [intOf]; omega
  ·
   have i1 : ¬ ((j + 1 : Nat) : Int) ≤ (xs.length : Int) := by omega
   have hown := HOWN.out
   rw [show (textL xs).take j = textL xs from List.take_of_length_le (by rw [HTL.out]; omega), ← HWE.out] at hown
   have HFIN := Lib.hid (hown.low (by have := HB4.out.size; omega : w.heap.size ≤ w4.heap.size)); have HBF := Lib.hid (HB4.out.trans (HBR.out.mono HB4.out.size))
   clear hown x3
   go_wp2
   go_ret
   exact ⟨HBF.out, _, rfl, HFIN.out⟩
/-- SameVirtuals, at lists that are the same. -/
theorem SameVirtuals_same (A1 A2 : Option Addr) (c1 c2 : Nat) (xs : List Virt) (w : World) (B1 B2 : Nat) (h1 : Sl w B1 A1 c1 xs) (h2 : Sl w B2 A2 c2 xs) :
  Calls Tryz.prog 24 #[.slice A1 xs.length c1, .slice A2 xs.length c2] w fun e w' => e = .returned (.bool true) ∧ ∃ n, w' = w.drewN n := by
 have hx2 := h1.2.1; have hx1 := h1.1
 unfold maxLen at hx2
 have H1 := Lib.hid h1; have H2 := Lib.hid h2; clear h1 h2
 go_enter Tryz.func24, Tryz.ntmps24
 go_wp2_with fail
 go_loopw [5] (fun i wr => ∃ k n : Nat, k ≤ xs.length ∧ i = .int .i64 k ∧ wr = w.drewN n) (fun i _ => xs.length - (intOf i).toNat)
 case atStart => exact ⟨0, 0, Nat.zero_le _, rfl, rfl⟩
 case round =>
  obtain ⟨k, n, hk, rfl, rfl⟩ := hrel
  by_cases hlt : k < xs.length
  ·
   have i1 : (k : Int) < (xs.length : Int) := by omega
   obtain ⟨b1, o1, rfl, -, -, a0, a1, a2, a3⟩ := H1.out.virt hlt
   obtain ⟨b2, o2, rfl, -, -, b0, b1', b2', b3⟩ := H2.out.virt hlt
   obtain ⟨y, hy⟩ : ∃ y, xs[k]'hlt = y := ⟨_, rfl⟩
   rw [hy] at a0 a1 a2 a3 b0 b1' b2' b3
   clear hy
   go_wp2
   go_quiet (fail)
   go_wp2
   go_roundw
   case rel => exact ⟨k + 1, _, by omega, by go_num, rfl⟩
   case measure => simp [intOf]; omega
  ·
   have i1 : ¬ (k : Int) < (xs.length : Int) := by omega
   go_wp2
   go_ret
   exact ⟨rfl, _, rfl⟩
end Go.Proofs.YtehmidmoiamcfaaGreatDoor
