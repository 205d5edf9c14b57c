/-
  TreeFinds: row and card.
  Conditions: those of the given row and card (the listed variables of the library hold what the text lays), nothing else.
-/
import Derived.Test.YtidhbckalcjdpaaGreatDoorGN
import Derived.Test.YtidhbckalcjdpaaGreatDoorGM
import Derived.ShutString
set_option linter.unusedSimpArgs false
set_option linter.unusedVariables false
namespace Go.Cold
open Go Go.RowKit
/-- A slice, the blocks that it reaches, and that they are there. -/
def AIn {α : Type} [RepS α] (w : World) (S : Nat → Prop) (A : Option Addr) (c : Nat) (l : List α) : Prop := SlS w S A c l ∧ ∀ x, S x → x < w.heap.size
section
variable {α : Type} [RepS α] {w w' : World} {S : Nat → Prop} {A : Option Addr} {c g : Nat} {l : List α}
theorem AIn.below (h : AIn w S A c l) (hb : Below w.heap.size w w') : AIn w' S A c l := ⟨h.1.below hb h.2, fun x hx => Nat.lt_of_lt_of_le (h.2 x hx) hb.size⟩
theorem AIn.tape {b : Nat} (h : AIn w S A c l) (hg : w.grownBy w' (some b)) (hS : ∀ x, S x → x ≠ b) : AIn w' S A c l := ⟨h.1.tape hg hS, fun x hx => by have := h.2 x hx; have := hg.size; omega⟩
theorem AIn.out (h : AIn w S A c l) : Sl w w.heap.size A c l := h.1.sl h.2
theorem AIn.set_ (h : AIn w S A c l) (hS : ∀ x, S x → x ≠ g) (j : Nat) (v : Value) : AIn (w.setCell ⟨g, j, none⟩ v) S A c l := ⟨h.1.set_ hS v, fun x hx => by simpa using h.2 x hx⟩
end
/-- Where the law stands behind its choice of a text. -/
def FiSt (w0 : World) (b g : Nat) (S : Nat → Prop) (A : Option Addr) (c : Nat) (L : List Dev) (xs : List Int) (k : Nat) (w : World) : Prop :=
  Below w0.heap.size w0 w ∧ BoxL w g [.slice A L.length c] ∧ AIn w S A c L ∧ TapeAt w w0.heap.size b xs k
theorem check_attrs {d : Dev} (h : checkD d = 0) : d.attrs.length ≤ 24 := by
  rw [checkD_eq] at h
  by_cases h1 : rangeB d <;> by_cases h2 : namedB d <;> by_cases h3 : kindB d <;> by_cases h4 : numberB d <;> by_cases h5 : d.attrs.length ≤ 24 <;> simp_all
end Go.Cold
namespace Go.Proofs.YtidhbckalcjdpaaGreatDoor
open Go.RowKit Go.Cold
set_option maxHeartbeats 8000000 in
set_option maxRecDepth 100000 in
theorem lawFinds_any (A : Option Addr) (c : Nat) (xs : List Int) (s : ByteArray) (w : World) (hok : Ok w) (hx : Sl w w.heap.size A c xs) (_hs : s.size ≤ maxLen) : Calls Tryz.prog 9 #[.slice A xs.length c, .string s] w fun e w' => e = .returned (.bool true) ∧ Below w.heap.size w w' := by
  have HOK := Lib.hid hok; have HX := Lib.hid hx; clear hok hx
  go_enter Tryz.func9, Tryz.ntmps9
  go_upto_region 2 with fail
  have htape := tape_new HX.out
  have HNG := Lib.hid (notG_of HOK.out)
  obtain ⟨w1, hw1⟩ : ∃ z, w.alloc (.cells #[.slice A xs.length c, .int .i64 0] 27) = z := ⟨_, rfl⟩
  rw [hw1] at htape
  have hb1 : Below w.heap.size w w1 := by rw [← hw1]; exact (Below.refl _ _).alloc (Nat.le_refl _) _
  have HGw1 := Lib.hid (show w1.heap.size = w.heap.size + 1 by rw [← hw1]; simp)
  try simp only [hw1]
  have HTAPE := Lib.hid htape
  clear hw1 htape
  have HSw1 := Lib.hid (show w.heap.size ≤ w1.heap.size from hb1.size)
  have HBw1 := Lib.hid hb1
  clear hb1
  go_wp2_with fail
  refine (Tree_any xs 0 w.heap.size w.heap.size 9 w1 (by decide) HTAPE.out ⟨by decide, by decide⟩ (HOK.out.next HBw1.out) HNG.out).mono ?_
  rintro e w2 ⟨AT, cT, L, k1, rfl, hvt, hln, hsl, hk1, htp, hg2⟩
  have hb2 : Below w.heap.size w w2 := below_of_grown HBw1.out hg2 HBw1.out.size (Nat.le_refl _)
  have HSB2 := Lib.hid (show w1.heap.size ≤ w2.heap.size from hg2.size)
  have hx1 := hsl.1; have hx2 := hsl.2.1
  unfold maxLen at hx2
  have hin : TreeIn w2 w.heap.size (fun x => w1.heap.size ≤ x ∧ x < w2.heap.size) AT cT L := ⟨hsl, fun x hx => by have := HGw1.out; omega, fun x hx => hx.2⟩
  have HVT := Lib.hid hvt; have HLN := Lib.hid (show L.length ≤ 9 by omega); have HIN := Lib.hid hin; have HK1 := Lib.hid hk1; have HTP := Lib.hid htp
  clear HTAPE hvt hln hsl hk1 htp hg2 hin
  have HBw2 := Lib.hid hb2
  clear hb2
  go_upto_region 3 with fail
  obtain ⟨w3, hw3⟩ : ∃ w3, w2.alloc (.cells #[.slice AT L.length cT] 29) = w3 := ⟨_, rfl⟩
  have hbw3 : Below w2.heap.size w2 w3 := by rw [← hw3]; exact (Below.refl _ _).alloc (Nat.le_refl _) _
  have HGw3 := Lib.hid (show w3.heap.size = w2.heap.size + 1 by rw [← hw3]; simp)
  have HXtw3 := Lib.hid (show BoxL w3 w2.heap.size [.slice AT L.length cT] from box_mk hw3)
  try simp only [hw3]
  have HSTEPw3 := Lib.hid hbw3
  have HSw3 := Lib.hid (show w2.heap.size ≤ w3.heap.size from hbw3.size)
  have HBw3 := Lib.hid (HBw2.out.trans (hbw3.mono HBw2.out.size))
  clear hw3 hbw3
  try rw [show w2.heap.size + 1 = w3.heap.size from HGw3.out.symm]
  have HIN3 := Lib.hid (show TreeIn w3 w.heap.size (fun x => w1.heap.size ≤ x ∧ x < w2.heap.size) AT cT L from ⟨HIN.out.sl.below (HSTEPw3.out) (fun x hx => hx.2), HIN.out.ne, fun x hx => by have := HGw3.out; have := hx.2; omega⟩)
  have HTP3 := Lib.hid (HTP.out.kept (grown_none HSTEPw3.out) (fun e => by cases e) (fun g e => by cases e))
  clear HIN HTP
  have ct0 := HXtw3.out.1 0 _ rfl
  go_wp2_with fail
  refine (Some_any xs k1 w.heap.size w.heap.size AT cT L _ w3 (by have := HK1.out; omega) HTP3.out HIN3.out (fun d hd => (HVT.out.small d hd).2) (by have := HLN.out; omega)).mono ?_
  rintro e w4 ⟨n, k2, rfl, hn, hk2, htp, hg4⟩
  clear ct0
  have hb4 : Below w.heap.size w w4 := HBw3.out.grown hg4 HBw3.out.size (fun q hq => by have := Option.some.inj hq; omega)
  have HSw4 := Lib.hid hg4.size
  have HIN4 := Lib.hid (HIN3.out.tape hg4)
  have HTP4 := Lib.hid htp
  have HBw4 := Lib.hid hb4
  have HXtw4 := Lib.hid (HXtw3.out.kept hg4 (fun e => by have := Option.some.inj e; have := HGw1.out; have := HSB2.out; omega))
  have HN := Lib.hid (show okI n by unfold okI; omega)
  have HNR := Lib.hid hn
  have HK2 := Lib.hid hk2
  clear hb4 htp hg4 hn hk2 HIN3 HTP3
  have HSL := Lib.hid HIN4.out.out
  have ct0 := HXtw4.out.1 0 _ rfl
  have HSML := Lib.hid (show ∀ d ∈ L, d.orig.size ≤ 32 from fun d hd => (HVT.out.small d hd).1)
  have HSMB := Lib.hid (show ∀ d ∈ L, d.orig.size ≤ 4294967280 from fun d hd => by have := (HVT.out.small d hd).1; omega)
  have HLA := Lib.hid (show ∀ d ∈ L, d.attrs.length ≤ 1000000 from fun d hd => by have := check_attrs (HVT.out.chk d hd); omega)
  have HBT := Lib.hid (show w2.heap.size ≠ w.heap.size by have := HGw1.out; have := HSB2.out; omega)
  have HNE := Lib.hid (show ∀ x, (w1.heap.size ≤ x ∧ x < w2.heap.size) → x ≠ w.heap.size from fun x hx => by have := HGw1.out; omega)
  have HAI := Lib.hid (show AIn w4 (fun x => w1.heap.size ≤ x ∧ x < w2.heap.size) AT cT L from ⟨HIN4.out.sl, HIN4.out.lt⟩)
  clear ct0
  have ct0 := HXtw4.out.1 0 _ rfl
  go_wp2_with fail
  refine (RPlace_any AT cT L n _ _ (Nat.le_refl _) HAI.out.out HVT.out HN.out).mono ?_
  rintro e w5 ⟨rfl, hbw5⟩
  clear ct0
  have HSw5 := Lib.hid (show w4.heap.size ≤ w5.heap.size from hbw5.size)
  have HBw5 := Lib.hid (HBw4.out.trans (hbw5.mono HBw4.out.size))
  have tw5 := Lib.hid (HXtw4.out.kept (grown_none hbw5) (fun e => by cases e))
  have HINw5 := Lib.hid (HAI.out.below hbw5)
  have HTPw5 := Lib.hid (HTP4.out.kept (grown_none hbw5) (fun e => by cases e) (fun g e => by cases e))
  clear hbw5
  obtain ⟨u, hu⟩ : ∃ u, strF L n = u := ⟨_, rfl⟩
  rw [hu]
  clear hu
  go_upto_region 5 with fail
  go_cut [31] (fun s31 wx => ∃ (q : Bool) (k' : Nat), s31 = .bool q ∧ Hid (k' ≤ k2 + 1) ∧ Hid (FiSt w w.heap.size w2.heap.size (fun x => w1.heap.size ≤ x ∧ x < w2.heap.size) AT cT L xs k' wx))
  case first =>
    cases he : u.toList.isEmpty with
    | true =>
      go_wp2_with fail
      go_meet
      exact ⟨_, k2, rfl, Lib.hid (Nat.le_succ _), Lib.hid ⟨HBw5.out, tw5.out, HINw5.out, HTPw5.out⟩⟩
    | false =>
      go_wp2_with fail
      refine (Next_lit 2 xs k2 w.heap.size w.heap.size _ (by have := HK1.out; have := HK2.out; omega) HTPw5.out (by omega) (by omega)).mono ?_
      rintro e w6 ⟨m, h0, h2, rfl, ht, hg⟩
      have HF6 := Lib.hid (show FiSt w w.heap.size w2.heap.size (fun x => w1.heap.size ≤ x ∧ x < w2.heap.size) AT cT L xs (k2 + 1) w6 from ⟨HBw5.out.grown hg HBw5.out.size (fun q hq => by have := Option.some.inj hq; omega), tw5.out.kept hg (fun e => HBT.out (Option.some.inj e)), HINw5.out.tape hg HNE.out, ht⟩)
      clear ht hg
      go_wp2_with fail
      go_meet
      exact ⟨_, k2 + 1, rfl, Lib.hid (Nat.le_refl _), HF6⟩
  case rest =>
  obtain ⟨q, k3, rfl, HK3, HFS⟩ := hcut
  obtain ⟨hb5, ht5, hi5, hp5⟩ := HFS.out
  have HBwc := Lib.hid hb5; have HTwc := Lib.hid ht5; have HIN := Lib.hid hi5; have HTP := Lib.hid hp5
  clear hb5 ht5 hi5 hp5 HFS
  obtain ⟨wk, hwk⟩ : ∃ z, z = wc := ⟨_, rfl⟩
  subst hwk
  go_upto_if 31 with fail
  go_cut [1] (fun s1 wx => ∃ z : ByteArray, s1 = .string z ∧ wk = wx)
  case first =>
    cases q with
    | true =>
      go_wp2_with fail
      go_meet
      exact ⟨_, rfl, rfl⟩
    | false =>
      go_wp2_with fail
      go_meet
      exact ⟨_, rfl, rfl⟩
  case rest =>
  obtain ⟨z, rfl, rfl⟩ := hcut
  have ct0 := HTwc.out.1 0 _ rfl
  go_wp2_with fail
  refine (One_lit [⟨#[101, 116, 104, 48]⟩, ⟨#[101, 116, 104, 49]⟩, ⟨#[108, 97, 110, 48]⟩, ⟨#[115, 100, 97]⟩, ⟨#[99, 47, 100, 48]⟩, ⟨#[116, 116, 121, 48]⟩, z] xs k3 w.heap.size w.heap.size _ _ wk 7 rfl rfl (by have := HK1.out; have := HK2.out; have := HK3.out; omega) HTP.out (by simp) (by simp)).mono ?_
  rintro e w7 ⟨nm, -, rfl, -, hg7⟩
  clear ct0
  have HBw7 := Lib.hid (HBwc.out.grown hg7 HBwc.out.size (fun q hq => by have := Option.some.inj hq; omega))
  have HSw7 := Lib.hid hg7.size
  have HTw7 := Lib.hid (HTwc.out.kept hg7 (fun e => HBT.out (Option.some.inj e)))
  have HIN7 := Lib.hid (HIN.out.tape hg7 HNE.out)
  clear hg7 HTP HIN
  have HLW := Lib.hid (show w2.heap.size < w7.heap.size from HTw7.out.2.2)
  have HB27 := Lib.hid (show w.heap.size ≤ w2.heap.size from HBw2.out.size)
  have ct0 := HTw7.out.1 0 _ rfl
  have HC7w7 := Lib.hid (Nat.le_refl w7.heap.size)
  go_wp2_with fail
  refine (TFind_any AT cT L n _ _ (Nat.le_refl _) HIN7.out.out HLA.out).mono ?_
  rintro e w8 ⟨hbw8, d1, A1, c1, hd, rfl, -, hsl⟩
  clear ct0
  have HSw8 := Lib.hid (show w7.heap.size ≤ w8.heap.size from hbw8.size)
  have HBw8 := Lib.hid (HBw7.out.trans (hbw8.mono HBw7.out.size))
  have tw8 := Lib.hid (HTw7.out.kept (grown_none hbw8) (fun e => by cases e))
  have HINw8 := Lib.hid (HIN7.out.below hbw8)
  have HC7w8 := Lib.hid (show w7.heap.size ≤ w8.heap.size from Nat.le_trans HC7w7.out HSw8.out)
  clear hbw8
  have HD1 := Lib.hid hd; have HA1 := Lib.hid (show AIn w8 (fun x => w7.heap.size ≤ x ∧ x < w8.heap.size) A1 c1 d1.attrs from ⟨hsl, fun x hx => hx.2⟩); clear hd hsl
  obtain ⟨q1, hq⟩ : ∃ q, (L.find? (byIdx n)).isSome = q := ⟨_, rfl⟩
  rw [hq]
  have HQ1 := Lib.hid hq; clear hq
  go_upto_region 9 with fail
  obtain ⟨w9, hw9⟩ : ∃ w9, w8.alloc (.cells #[.int .i64 d1.idx, .int .i64 d1.par, .string d1.nm, .string d1.orig, .string d1.sub, .string d1.drv, .string d1.ali, .int .i64 d1.kind, .int .i64 d1.num, .slice A1 d1.attrs.length c1] 34) = w9 := ⟨_, rfl⟩
  have hbw9 : Below w8.heap.size w8 w9 := by rw [← hw9]; exact (Below.refl _ _).alloc (Nat.le_refl _) _
  have HGw9 := Lib.hid (show w9.heap.size = w8.heap.size + 1 by rw [← hw9]; simp)
  have HXaw9 := Lib.hid (show BoxL w9 w8.heap.size [.int .i64 d1.idx, .int .i64 d1.par, .string d1.nm, .string d1.orig, .string d1.sub, .string d1.drv, .string d1.ali, .int .i64 d1.kind, .int .i64 d1.num, .slice A1 d1.attrs.length c1] from box_mk hw9)
  try simp only [hw9]
  have HSTEPw9 := Lib.hid hbw9
  have HSw9 := Lib.hid (show w8.heap.size ≤ w9.heap.size from hbw9.size)
  have HBw9 := Lib.hid (HBw8.out.trans (hbw9.mono HBw8.out.size))
  have tw9 := Lib.hid (tw8.out.kept (grown_none hbw9) (fun e => by cases e))
  have HINw9 := Lib.hid (HINw8.out.below hbw9)
  have HAw9 := Lib.hid (HA1.out.below hbw9)
  have HC7w9 := Lib.hid (show w7.heap.size ≤ w9.heap.size from Nat.le_trans HC7w8.out HSw9.out)
  clear hw9 hbw9
  try rw [show w8.heap.size + 1 = w9.heap.size from HGw9.out.symm]
  have ct0 := tw9.out.1 0 _ rfl
  have cfa := HXaw9.out.2.1
  have HLa := Lib.hid (show w2.heap.size < w8.heap.size by have := HLW.out; have := HC7w8.out; omega)
  go_wp2_with fail
  refine (RFind_any AT cT L n _ w2.heap.size (by have := HLW.out; have := HC7w9.out; omega) (HINw9.out.1.sl (fun x hx => hx.2) : Sl _ w2.heap.size AT cT L)).mono ?_
  rintro e w10 ⟨hbw10, x, B1, e1, hx_, rfl, -, hsl⟩
  clear ct0 cfa
  have HSw10 := Lib.hid (show w9.heap.size ≤ w10.heap.size from hbw10.size)
  have HBw10 := Lib.hid (HBw9.out.trans (hbw10.mono HBw9.out.size))
  have tw10 := Lib.hid (tw9.out.kept (grown_none hbw10) (fun e => by cases e))
  have aw10 := Lib.hid (HXaw9.out.kept (grown_none hbw10) (fun e => by cases e))
  have HINw10 := Lib.hid (HINw9.out.below hbw10)
  have HAw10 := Lib.hid (HAw9.out.below hbw10)
  have HC7w10 := Lib.hid (show w7.heap.size ≤ w10.heap.size from Nat.le_trans HC7w9.out HSw10.out)
  clear hbw10
  have hx2 : d1 = x := HD1.out.trans hx_.symm
  subst hx2
  clear hx_
  have HR1 := Lib.hid (show AIn w10 (fun x => x < w2.heap.size) B1 e1 d1.attrs from ⟨SlS_iff.1 hsl, fun x hx => by have hx : x < w2.heap.size := hx; have := HLW.out; have h7 : w7.heap.size ≤ w10.heap.size := HC7w10.out; omega⟩); clear hsl
  rw [show (findD L n).isSome = q1 from HQ1.out]
  go_upto_region 10 with fail
  obtain ⟨w11, hw11⟩ : ∃ w11, w10.alloc (.cells #[.int .i64 d1.idx, .int .i64 d1.par, .string d1.nm, .string d1.orig, .string d1.sub, .string d1.drv, .string d1.ali, .int .i64 d1.kind, .int .i64 d1.num, .slice B1 d1.attrs.length e1] 34) = w11 := ⟨_, rfl⟩
  have hbw11 : Below w10.heap.size w10 w11 := by rw [← hw11]; exact (Below.refl _ _).alloc (Nat.le_refl _) _
  have HGw11 := Lib.hid (show w11.heap.size = w10.heap.size + 1 by rw [← hw11]; simp)
  have HXbw11 := Lib.hid (show BoxL w11 w10.heap.size [.int .i64 d1.idx, .int .i64 d1.par, .string d1.nm, .string d1.orig, .string d1.sub, .string d1.drv, .string d1.ali, .int .i64 d1.kind, .int .i64 d1.num, .slice B1 d1.attrs.length e1] from box_mk hw11)
  try simp only [hw11]
  have HSTEPw11 := Lib.hid hbw11
  have HSw11 := Lib.hid (show w10.heap.size ≤ w11.heap.size from hbw11.size)
  have HBw11 := Lib.hid (HBw10.out.trans (hbw11.mono HBw10.out.size))
  have tw11 := Lib.hid (tw10.out.kept (grown_none hbw11) (fun e => by cases e))
  have aw11 := Lib.hid (aw10.out.kept (grown_none hbw11) (fun e => by cases e))
  have HINw11 := Lib.hid (HINw10.out.below hbw11)
  have HAw11 := Lib.hid (HAw10.out.below hbw11)
  have HRw11 := Lib.hid (HR1.out.below hbw11)
  have HC7w11 := Lib.hid (show w7.heap.size ≤ w11.heap.size from Nat.le_trans HC7w10.out HSw11.out)
  clear hw11 hbw11
  try rw [show w10.heap.size + 1 = w11.heap.size from HGw11.out.symm]
  have ca0 := aw11.out.1 0 _ rfl
  have ca1 := aw11.out.1 1 _ rfl
  have ca2 := aw11.out.1 2 _ rfl
  have ca3 := aw11.out.1 3 _ rfl
  have ca4 := aw11.out.1 4 _ rfl
  have ca5 := aw11.out.1 5 _ rfl
  have ca6 := aw11.out.1 6 _ rfl
  have ca7 := aw11.out.1 7 _ rfl
  have ca8 := aw11.out.1 8 _ rfl
  have ca9 := aw11.out.1 9 _ rfl
  have cfa := aw11.out.2.1
  have cb0 := HXbw11.out.1 0 _ rfl
  have cb1 := HXbw11.out.1 1 _ rfl
  have cb2 := HXbw11.out.1 2 _ rfl
  have cb3 := HXbw11.out.1 3 _ rfl
  have cb4 := HXbw11.out.1 4 _ rfl
  have cb5 := HXbw11.out.1 5 _ rfl
  have cb6 := HXbw11.out.1 6 _ rfl
  have cb7 := HXbw11.out.1 7 _ rfl
  have cb8 := HXbw11.out.1 8 _ rfl
  have cb9 := HXbw11.out.1 9 _ rfl
  have cfb := HXbw11.out.2.1
  have HLb := Lib.hid (show w2.heap.size < w10.heap.size by have := HLW.out; have := HC7w10.out; omega)
  have HLab := Lib.hid (show w8.heap.size < w10.heap.size by have := HGw9.out; have := HSw10.out; omega)
  go_wp2_with fail
  refine (SameDevice_same d1 A1 B1 c1 e1 _ _ _ (Nat.le_refl _) (Nat.le_refl _) HAw11.out.out HRw11.out.out).mono ?_
  rintro e w12 ⟨rfl, hbw12⟩
  clear ca0 ca1 ca2 ca3 ca4 ca5 ca6 ca7 ca8 ca9 cfa cb0 cb1 cb2 cb3 cb4 cb5 cb6 cb7 cb8 cb9 cfb
  have HSw12 := Lib.hid (show w11.heap.size ≤ w12.heap.size from hbw12.size)
  have HBw12 := Lib.hid (HBw11.out.trans (hbw12.mono HBw11.out.size))
  have tw12 := Lib.hid (tw11.out.kept (grown_none hbw12) (fun e => by cases e))
  have aw12 := Lib.hid (aw11.out.kept (grown_none hbw12) (fun e => by cases e))
  have bw12 := Lib.hid (HXbw11.out.kept (grown_none hbw12) (fun e => by cases e))
  have HINw12 := Lib.hid (HINw11.out.below hbw12)
  have HAw12 := Lib.hid (HAw11.out.below hbw12)
  have HRw12 := Lib.hid (HRw11.out.below hbw12)
  have HC7w12 := Lib.hid (show w7.heap.size ≤ w12.heap.size from Nat.le_trans HC7w11.out HSw12.out)
  clear hbw12
  have ct0 := tw12.out.1 0 _ rfl
  have cfa := aw12.out.2.1
  have cfb := bw12.out.2.1
  have HLT_aw12 := Lib.hid (show w8.heap.size < w12.heap.size from aw12.out.2.2); have HLT_bw12 := Lib.hid (show w10.heap.size < w12.heap.size from bw12.out.2.2)
  go_wp2_with fail
  refine (TAt_any AT cT L z _ _ (Nat.le_refl _) HINw12.out.out HLA.out HSML.out (by have := HLN.out; omega)).mono ?_
  rintro e w13 ⟨hbw13, d2, A2, c2, hd, rfl, -, hsl⟩
  clear ct0 cfa cfb
  have HSw13 := Lib.hid (show w12.heap.size ≤ w13.heap.size from hbw13.size)
  have HBw13 := Lib.hid (HBw12.out.trans (hbw13.mono HBw12.out.size))
  have tw13 := Lib.hid (tw12.out.kept (grown_none hbw13) (fun e => by cases e))
  have aw13 := Lib.hid (aw12.out.kept (grown_none hbw13) (fun e => by cases e))
  have bw13 := Lib.hid (bw12.out.kept (grown_none hbw13) (fun e => by cases e))
  have HINw13 := Lib.hid (HINw12.out.below hbw13)
  have HC7w13 := Lib.hid (show w7.heap.size ≤ w13.heap.size from Nat.le_trans HC7w12.out HSw13.out)
  clear hbw13
  have HD2 := Lib.hid hd; have HA2 := Lib.hid (show AIn w13 (fun x => w12.heap.size ≤ x ∧ x < w13.heap.size) A2 c2 d2.attrs from ⟨hsl, fun x hx => hx.2⟩); clear hd hsl
  obtain ⟨q2, hq⟩ : ∃ q, (L.find? (byOrg L z)).isSome = q := ⟨_, rfl⟩
  rw [hq]
  have HQ2 := Lib.hid hq; clear hq
  have ct0 := tw13.out.1 0 _ rfl
  have ca0 := aw13.out.1 0 _ rfl
  have ca1 := aw13.out.1 1 _ rfl
  have ca2 := aw13.out.1 2 _ rfl
  have ca3 := aw13.out.1 3 _ rfl
  have ca4 := aw13.out.1 4 _ rfl
  have ca5 := aw13.out.1 5 _ rfl
  have ca6 := aw13.out.1 6 _ rfl
  have ca7 := aw13.out.1 7 _ rfl
  have ca8 := aw13.out.1 8 _ rfl
  have ca9 := aw13.out.1 9 _ rfl
  have cfa := aw13.out.2.1
  have cfb := bw13.out.2.1
  go_upto_region 13 with fail
  clear ct0 ca0 ca1 ca2 ca3 ca4 ca5 ca6 ca7 ca8 ca9 cfa cfb
  obtain ⟨w14, hw14⟩ : ∃ z, ((((((((((w13.setCell ⟨w8.heap.size, 0, none⟩ (.int .i64 d2.idx)).setCell ⟨w8.heap.size, 1, none⟩ (.int .i64 d2.par)).setCell ⟨w8.heap.size, 2, none⟩ (.string d2.nm)).setCell ⟨w8.heap.size, 3, none⟩ (.string d2.orig)).setCell ⟨w8.heap.size, 4, none⟩ (.string d2.sub)).setCell ⟨w8.heap.size, 5, none⟩ (.string d2.drv)).setCell ⟨w8.heap.size, 6, none⟩ (.string d2.ali)).setCell ⟨w8.heap.size, 7, none⟩ (.int .i64 d2.kind)).setCell ⟨w8.heap.size, 8, none⟩ (.int .i64 d2.num)).setCell ⟨w8.heap.size, 9, none⟩ (.slice A2 d2.attrs.length c2)) = z := ⟨_, rfl⟩
  have HTw14 := Lib.hid (show BoxL w14 w2.heap.size [.slice AT L.length cT] by rw [← hw14]; exact set10_ind (fun w' => BoxL w' w2.heap.size [.slice AT L.length cT]) (fun w' j v h => h.far (fun e => by have := HLa.out; omega) v) tw13.out _ _ _ _ _ _ _ _ _ _)
  have HXaw14 := Lib.hid (show BoxL w14 w8.heap.size [.int .i64 d2.idx, .int .i64 d2.par, .string d2.nm, .string d2.orig, .string d2.sub, .string d2.drv, .string d2.ali, .int .i64 d2.kind, .int .i64 d2.num, .slice A2 d2.attrs.length c2] by rw [← hw14]; exact aw13.out.set10 _ _ _ _ _ _ _ _ _ _)
  have HXbw14 := Lib.hid (show BoxL w14 w10.heap.size [.int .i64 d1.idx, .int .i64 d1.par, .string d1.nm, .string d1.orig, .string d1.sub, .string d1.drv, .string d1.ali, .int .i64 d1.kind, .int .i64 d1.num, .slice B1 d1.attrs.length e1] by rw [← hw14]; exact set10_ind (fun w' => BoxL w' w10.heap.size [.int .i64 d1.idx, .int .i64 d1.par, .string d1.nm, .string d1.orig, .string d1.sub, .string d1.drv, .string d1.ali, .int .i64 d1.kind, .int .i64 d1.num, .slice B1 d1.attrs.length e1]) (fun w' j v h => h.far (fun e => by have := HLab.out; omega) v) bw13.out _ _ _ _ _ _ _ _ _ _)
  have HBw14 := Lib.hid (show Below w.heap.size w w14 by rw [← hw14]; exact below10 HBw13.out (by have := HLa.out; have := HB27.out; omega) _ _ _ _ _ _ _ _ _ _)
  have HIw14 := Lib.hid (show AIn w14 (fun x => w1.heap.size ≤ x ∧ x < w2.heap.size) AT cT L by rw [← hw14]; exact set10_ind (fun w' => AIn w' (fun x => w1.heap.size ≤ x ∧ x < w2.heap.size) AT cT L) (fun w' j v h => h.set_ (fun x hx => by have := hx.2; have := HLa.out; omega) j v) HINw13.out _ _ _ _ _ _ _ _ _ _)
  have HC7w14 := Lib.hid (show w7.heap.size ≤ (w14).heap.size by rw [← hw14]; exact set10_ind (fun w' => w7.heap.size ≤ (w').heap.size) (fun w' j v h => by simpa using h) HC7w13.out _ _ _ _ _ _ _ _ _ _)
  have HAQ := Lib.hid (show ∀ x, (fun x => w12.heap.size ≤ x ∧ x < w13.heap.size) x → x ≠ w8.heap.size ∧ x ≠ w10.heap.size from fun x hx => by have h1 : w12.heap.size ≤ x := hx.1; have h2 := HLT_aw12.out; have h3 := HLT_bw12.out; omega)
  have HA2w14 := Lib.hid (show AIn w14 (fun x => w12.heap.size ≤ x ∧ x < w13.heap.size) A2 c2 d2.attrs by rw [← hw14]; exact set10_ind (fun w' => AIn w' (fun x => w12.heap.size ≤ x ∧ x < w13.heap.size) A2 c2 d2.attrs) (fun w' j v h => h.set_ (fun x hx => (HAQ.out x hx).1) j v) HA2.out _ _ _ _ _ _ _ _ _ _)
  simp only [hw14]
  clear hw14
  have ct0 := HTw14.out.1 0 _ rfl
  have cfa := HXaw14.out.2.1
  have cfb := HXbw14.out.2.1
  go_wp2_with fail
  refine (RAt_any AT cT L z _ w2.heap.size (by have := HLW.out; have := HC7w14.out; omega) (HIw14.out.1.sl (fun x hx => hx.2) : Sl _ w2.heap.size AT cT L) HVT.out).mono ?_
  rintro e w15 ⟨hbw15, x, B2, e2, hx_, rfl, -, hsl⟩
  clear ct0 cfa cfb
  have HSw15 := Lib.hid (show w14.heap.size ≤ w15.heap.size from hbw15.size)
  have HBw15 := Lib.hid (HBw14.out.trans (hbw15.mono HBw14.out.size))
  have tw15 := Lib.hid (HTw14.out.kept (grown_none hbw15) (fun e => by cases e))
  have aw15 := Lib.hid (HXaw14.out.kept (grown_none hbw15) (fun e => by cases e))
  have bw15 := Lib.hid (HXbw14.out.kept (grown_none hbw15) (fun e => by cases e))
  have HINw15 := Lib.hid (HIw14.out.below hbw15)
  have HAw15 := Lib.hid (HA2w14.out.below hbw15)
  have HC7w15 := Lib.hid (show w7.heap.size ≤ w15.heap.size from Nat.le_trans HC7w14.out HSw15.out)
  clear hbw15
  have hx2 : d2 = x := HD2.out.trans hx_.symm
  subst hx2
  clear hx_
  have HR2 := Lib.hid (show AIn w15 (fun x => x < w2.heap.size) B2 e2 d2.attrs from ⟨SlS_iff.1 hsl, fun x hx => by have hx : x < w2.heap.size := hx; have := HLW.out; have h7 : w7.heap.size ≤ w15.heap.size := HC7w15.out; omega⟩); clear hsl
  rw [show (L.find? (byOrg L z)).isSome = q2 from HQ2.out]
  have ct0 := tw15.out.1 0 _ rfl
  have cfa := aw15.out.2.1
  have cb0 := bw15.out.1 0 _ rfl
  have cb1 := bw15.out.1 1 _ rfl
  have cb2 := bw15.out.1 2 _ rfl
  have cb3 := bw15.out.1 3 _ rfl
  have cb4 := bw15.out.1 4 _ rfl
  have cb5 := bw15.out.1 5 _ rfl
  have cb6 := bw15.out.1 6 _ rfl
  have cb7 := bw15.out.1 7 _ rfl
  have cb8 := bw15.out.1 8 _ rfl
  have cb9 := bw15.out.1 9 _ rfl
  have cfb := bw15.out.2.1
  go_upto_region 14 with fail
  clear ct0 cfa cb0 cb1 cb2 cb3 cb4 cb5 cb6 cb7 cb8 cb9 cfb
  obtain ⟨w16, hw16⟩ : ∃ z, ((((((((((w15.setCell ⟨w10.heap.size, 0, none⟩ (.int .i64 d2.idx)).setCell ⟨w10.heap.size, 1, none⟩ (.int .i64 d2.par)).setCell ⟨w10.heap.size, 2, none⟩ (.string d2.nm)).setCell ⟨w10.heap.size, 3, none⟩ (.string d2.orig)).setCell ⟨w10.heap.size, 4, none⟩ (.string d2.sub)).setCell ⟨w10.heap.size, 5, none⟩ (.string d2.drv)).setCell ⟨w10.heap.size, 6, none⟩ (.string d2.ali)).setCell ⟨w10.heap.size, 7, none⟩ (.int .i64 d2.kind)).setCell ⟨w10.heap.size, 8, none⟩ (.int .i64 d2.num)).setCell ⟨w10.heap.size, 9, none⟩ (.slice B2 d2.attrs.length e2)) = z := ⟨_, rfl⟩
  have HTw16 := Lib.hid (show BoxL w16 w2.heap.size [.slice AT L.length cT] by rw [← hw16]; exact set10_ind (fun w' => BoxL w' w2.heap.size [.slice AT L.length cT]) (fun w' j v h => h.far (fun e => by have := HLb.out; omega) v) tw15.out _ _ _ _ _ _ _ _ _ _)
  have HXbw16 := Lib.hid (show BoxL w16 w10.heap.size [.int .i64 d2.idx, .int .i64 d2.par, .string d2.nm, .string d2.orig, .string d2.sub, .string d2.drv, .string d2.ali, .int .i64 d2.kind, .int .i64 d2.num, .slice B2 d2.attrs.length e2] by rw [← hw16]; exact bw15.out.set10 _ _ _ _ _ _ _ _ _ _)
  have HXaw16 := Lib.hid (show BoxL w16 w8.heap.size [.int .i64 d2.idx, .int .i64 d2.par, .string d2.nm, .string d2.orig, .string d2.sub, .string d2.drv, .string d2.ali, .int .i64 d2.kind, .int .i64 d2.num, .slice A2 d2.attrs.length c2] by rw [← hw16]; exact set10_ind (fun w' => BoxL w' w8.heap.size [.int .i64 d2.idx, .int .i64 d2.par, .string d2.nm, .string d2.orig, .string d2.sub, .string d2.drv, .string d2.ali, .int .i64 d2.kind, .int .i64 d2.num, .slice A2 d2.attrs.length c2]) (fun w' j v h => h.far (fun e => by have := HLab.out; omega) v) aw15.out _ _ _ _ _ _ _ _ _ _)
  have HBw16 := Lib.hid (show Below w.heap.size w w16 by rw [← hw16]; exact below10 HBw15.out (by have := HLb.out; have := HB27.out; omega) _ _ _ _ _ _ _ _ _ _)
  have HIw16 := Lib.hid (show AIn w16 (fun x => w1.heap.size ≤ x ∧ x < w2.heap.size) AT cT L by rw [← hw16]; exact set10_ind (fun w' => AIn w' (fun x => w1.heap.size ≤ x ∧ x < w2.heap.size) AT cT L) (fun w' j v h => h.set_ (fun x hx => by have := hx.2; have := HLb.out; omega) j v) HINw15.out _ _ _ _ _ _ _ _ _ _)
  have HC7w16 := Lib.hid (show w7.heap.size ≤ (w16).heap.size by rw [← hw16]; exact set10_ind (fun w' => w7.heap.size ≤ (w').heap.size) (fun w' j v h => by simpa using h) HC7w15.out _ _ _ _ _ _ _ _ _ _)
  have HR2w16 := Lib.hid (show AIn w16 (fun x => x < w2.heap.size) B2 e2 d2.attrs by rw [← hw16]; exact set10_ind (fun w' => AIn w' (fun x => x < w2.heap.size) B2 e2 d2.attrs) (fun w' j v h => h.set_ (fun x hx => by have hx : x < w2.heap.size := hx; have := HLb.out; omega) j v) HR2.out _ _ _ _ _ _ _ _ _ _)
  have HA2w16 := Lib.hid (show AIn w16 (fun x => w12.heap.size ≤ x ∧ x < w13.heap.size) A2 c2 d2.attrs by rw [← hw16]; exact set10_ind (fun w' => AIn w' (fun x => w12.heap.size ≤ x ∧ x < w13.heap.size) A2 c2 d2.attrs) (fun w' j v h => h.set_ (fun x hx => (HAQ.out x hx).2) j v) HAw15.out _ _ _ _ _ _ _ _ _ _)
  simp only [hw16]
  clear hw16
  have ct0 := HTw16.out.1 0 _ rfl
  have ca0 := HXaw16.out.1 0 _ rfl
  have ca1 := HXaw16.out.1 1 _ rfl
  have ca2 := HXaw16.out.1 2 _ rfl
  have ca3 := HXaw16.out.1 3 _ rfl
  have ca4 := HXaw16.out.1 4 _ rfl
  have ca5 := HXaw16.out.1 5 _ rfl
  have ca6 := HXaw16.out.1 6 _ rfl
  have ca7 := HXaw16.out.1 7 _ rfl
  have ca8 := HXaw16.out.1 8 _ rfl
  have ca9 := HXaw16.out.1 9 _ rfl
  have cfa := HXaw16.out.2.1
  have cb0 := HXbw16.out.1 0 _ rfl
  have cb1 := HXbw16.out.1 1 _ rfl
  have cb2 := HXbw16.out.1 2 _ rfl
  have cb3 := HXbw16.out.1 3 _ rfl
  have cb4 := HXbw16.out.1 4 _ rfl
  have cb5 := HXbw16.out.1 5 _ rfl
  have cb6 := HXbw16.out.1 6 _ rfl
  have cb7 := HXbw16.out.1 7 _ rfl
  have cb8 := HXbw16.out.1 8 _ rfl
  have cb9 := HXbw16.out.1 9 _ rfl
  have cfb := HXbw16.out.2.1
  go_wp2_with fail
  refine (SameDevice_same d2 A2 B2 c2 e2 _ _ _ (Nat.le_refl _) (Nat.le_refl _) HA2w16.out.out HR2w16.out.out).mono ?_
  rintro e w17 ⟨rfl, hbw17⟩
  clear ct0 ca0 ca1 ca2 ca3 ca4 ca5 ca6 ca7 ca8 ca9 cfa cb0 cb1 cb2 cb3 cb4 cb5 cb6 cb7 cb8 cb9 cfb
  have HSw17 := Lib.hid (show w16.heap.size ≤ w17.heap.size from hbw17.size)
  have HBw17 := Lib.hid (HBw16.out.trans (hbw17.mono HBw16.out.size))
  have tw17 := Lib.hid (HTw16.out.kept (grown_none hbw17) (fun e => by cases e))
  have aw17 := Lib.hid (HXaw16.out.kept (grown_none hbw17) (fun e => by cases e))
  have bw17 := Lib.hid (HXbw16.out.kept (grown_none hbw17) (fun e => by cases e))
  have HINw17 := Lib.hid (HIw16.out.below hbw17)
  have HAw17 := Lib.hid (HA2w16.out.below hbw17)
  have HRw17 := Lib.hid (HR2w16.out.below hbw17)
  have HC7w17 := Lib.hid (show w7.heap.size ≤ w17.heap.size from Nat.le_trans HC7w16.out HSw17.out)
  clear hbw17
  have ct0 := tw17.out.1 0 _ rfl
  have cfa := aw17.out.2.1
  have cfb := bw17.out.2.1
  have HLT_aw17 := Lib.hid (show w8.heap.size < w17.heap.size from aw17.out.2.2); have HLT_bw17 := Lib.hid (show w10.heap.size < w17.heap.size from bw17.out.2.2)
  go_wp2_with fail
  refine (TInterface_any AT cT L nm _ _ (Nat.le_refl _) HINw17.out.out HLA.out).mono ?_
  rintro e w18 ⟨hbw18, d3, A3, c3, hd, rfl, -, hsl⟩
  clear ct0 cfa cfb
  have HSw18 := Lib.hid (show w17.heap.size ≤ w18.heap.size from hbw18.size)
  have HBw18 := Lib.hid (HBw17.out.trans (hbw18.mono HBw17.out.size))
  have tw18 := Lib.hid (tw17.out.kept (grown_none hbw18) (fun e => by cases e))
  have aw18 := Lib.hid (aw17.out.kept (grown_none hbw18) (fun e => by cases e))
  have bw18 := Lib.hid (bw17.out.kept (grown_none hbw18) (fun e => by cases e))
  have HINw18 := Lib.hid (HINw17.out.below hbw18)
  have HC7w18 := Lib.hid (show w7.heap.size ≤ w18.heap.size from Nat.le_trans HC7w17.out HSw18.out)
  clear hbw18
  have HD3 := Lib.hid hd; have HA3 := Lib.hid (show AIn w18 (fun x => w17.heap.size ≤ x ∧ x < w18.heap.size) A3 c3 d3.attrs from ⟨hsl, fun x hx => hx.2⟩); clear hd hsl
  obtain ⟨q3, hq⟩ : ∃ q, (L.find? (byNet nm)).isSome = q := ⟨_, rfl⟩
  rw [hq]
  have HQ3 := Lib.hid hq; clear hq
  have ct0 := tw18.out.1 0 _ rfl
  have ca0 := aw18.out.1 0 _ rfl
  have ca1 := aw18.out.1 1 _ rfl
  have ca2 := aw18.out.1 2 _ rfl
  have ca3 := aw18.out.1 3 _ rfl
  have ca4 := aw18.out.1 4 _ rfl
  have ca5 := aw18.out.1 5 _ rfl
  have ca6 := aw18.out.1 6 _ rfl
  have ca7 := aw18.out.1 7 _ rfl
  have ca8 := aw18.out.1 8 _ rfl
  have ca9 := aw18.out.1 9 _ rfl
  have cfa := aw18.out.2.1
  have cfb := bw18.out.2.1
  go_upto_region 17 with fail
  clear ct0 ca0 ca1 ca2 ca3 ca4 ca5 ca6 ca7 ca8 ca9 cfa cfb
  obtain ⟨w19, hw19⟩ : ∃ z, ((((((((((w18.setCell ⟨w8.heap.size, 0, none⟩ (.int .i64 d3.idx)).setCell ⟨w8.heap.size, 1, none⟩ (.int .i64 d3.par)).setCell ⟨w8.heap.size, 2, none⟩ (.string d3.nm)).setCell ⟨w8.heap.size, 3, none⟩ (.string d3.orig)).setCell ⟨w8.heap.size, 4, none⟩ (.string d3.sub)).setCell ⟨w8.heap.size, 5, none⟩ (.string d3.drv)).setCell ⟨w8.heap.size, 6, none⟩ (.string d3.ali)).setCell ⟨w8.heap.size, 7, none⟩ (.int .i64 d3.kind)).setCell ⟨w8.heap.size, 8, none⟩ (.int .i64 d3.num)).setCell ⟨w8.heap.size, 9, none⟩ (.slice A3 d3.attrs.length c3)) = z := ⟨_, rfl⟩
  have HTw19 := Lib.hid (show BoxL w19 w2.heap.size [.slice AT L.length cT] by rw [← hw19]; exact set10_ind (fun w' => BoxL w' w2.heap.size [.slice AT L.length cT]) (fun w' j v h => h.far (fun e => by have := HLa.out; omega) v) tw18.out _ _ _ _ _ _ _ _ _ _)
  have HXaw19 := Lib.hid (show BoxL w19 w8.heap.size [.int .i64 d3.idx, .int .i64 d3.par, .string d3.nm, .string d3.orig, .string d3.sub, .string d3.drv, .string d3.ali, .int .i64 d3.kind, .int .i64 d3.num, .slice A3 d3.attrs.length c3] by rw [← hw19]; exact aw18.out.set10 _ _ _ _ _ _ _ _ _ _)
  have HXbw19 := Lib.hid (show BoxL w19 w10.heap.size [.int .i64 d2.idx, .int .i64 d2.par, .string d2.nm, .string d2.orig, .string d2.sub, .string d2.drv, .string d2.ali, .int .i64 d2.kind, .int .i64 d2.num, .slice B2 d2.attrs.length e2] by rw [← hw19]; exact set10_ind (fun w' => BoxL w' w10.heap.size [.int .i64 d2.idx, .int .i64 d2.par, .string d2.nm, .string d2.orig, .string d2.sub, .string d2.drv, .string d2.ali, .int .i64 d2.kind, .int .i64 d2.num, .slice B2 d2.attrs.length e2]) (fun w' j v h => h.far (fun e => by have := HLab.out; omega) v) bw18.out _ _ _ _ _ _ _ _ _ _)
  have HBw19 := Lib.hid (show Below w.heap.size w w19 by rw [← hw19]; exact below10 HBw18.out (by have := HLa.out; have := HB27.out; omega) _ _ _ _ _ _ _ _ _ _)
  have HIw19 := Lib.hid (show AIn w19 (fun x => w1.heap.size ≤ x ∧ x < w2.heap.size) AT cT L by rw [← hw19]; exact set10_ind (fun w' => AIn w' (fun x => w1.heap.size ≤ x ∧ x < w2.heap.size) AT cT L) (fun w' j v h => h.set_ (fun x hx => by have := hx.2; have := HLa.out; omega) j v) HINw18.out _ _ _ _ _ _ _ _ _ _)
  have HC7w19 := Lib.hid (show w7.heap.size ≤ (w19).heap.size by rw [← hw19]; exact set10_ind (fun w' => w7.heap.size ≤ (w').heap.size) (fun w' j v h => by simpa using h) HC7w18.out _ _ _ _ _ _ _ _ _ _)
  have HAQ := Lib.hid (show ∀ x, (fun x => w17.heap.size ≤ x ∧ x < w18.heap.size) x → x ≠ w8.heap.size ∧ x ≠ w10.heap.size from fun x hx => by have h1 : w17.heap.size ≤ x := hx.1; have h2 := HLT_aw17.out; have h3 := HLT_bw17.out; omega)
  have HA3w19 := Lib.hid (show AIn w19 (fun x => w17.heap.size ≤ x ∧ x < w18.heap.size) A3 c3 d3.attrs by rw [← hw19]; exact set10_ind (fun w' => AIn w' (fun x => w17.heap.size ≤ x ∧ x < w18.heap.size) A3 c3 d3.attrs) (fun w' j v h => h.set_ (fun x hx => (HAQ.out x hx).1) j v) HA3.out _ _ _ _ _ _ _ _ _ _)
  simp only [hw19]
  clear hw19
  have ct0 := HTw19.out.1 0 _ rfl
  have cfa := HXaw19.out.2.1
  have cfb := HXbw19.out.2.1
  go_wp2_with fail
  refine (RInterfaceF_any AT cT L nm _ w2.heap.size (by have := HLW.out; have := HC7w19.out; omega) (HIw19.out.1.sl (fun x hx => hx.2) : Sl _ w2.heap.size AT cT L)).mono ?_
  rintro e w20 ⟨hbw20, x, B3, e3, hx_, rfl, -, hsl⟩
  clear ct0 cfa cfb
  have HSw20 := Lib.hid (show w19.heap.size ≤ w20.heap.size from hbw20.size)
  have HBw20 := Lib.hid (HBw19.out.trans (hbw20.mono HBw19.out.size))
  have tw20 := Lib.hid (HTw19.out.kept (grown_none hbw20) (fun e => by cases e))
  have aw20 := Lib.hid (HXaw19.out.kept (grown_none hbw20) (fun e => by cases e))
  have bw20 := Lib.hid (HXbw19.out.kept (grown_none hbw20) (fun e => by cases e))
  have HINw20 := Lib.hid (HIw19.out.below hbw20)
  have HAw20 := Lib.hid (HA3w19.out.below hbw20)
  have HC7w20 := Lib.hid (show w7.heap.size ≤ w20.heap.size from Nat.le_trans HC7w19.out HSw20.out)
  clear hbw20
  have hx2 : d3 = x := HD3.out.trans hx_.symm
  subst hx2
  clear hx_
  have HR3 := Lib.hid (show AIn w20 (fun x => x < w2.heap.size) B3 e3 d3.attrs from ⟨SlS_iff.1 hsl, fun x hx => by have hx : x < w2.heap.size := hx; have := HLW.out; have h7 : w7.heap.size ≤ w20.heap.size := HC7w20.out; omega⟩); clear hsl
  rw [show (L.find? (byNet nm)).isSome = q3 from HQ3.out]
  have ct0 := tw20.out.1 0 _ rfl
  have cfa := aw20.out.2.1
  have cb0 := bw20.out.1 0 _ rfl
  have cb1 := bw20.out.1 1 _ rfl
  have cb2 := bw20.out.1 2 _ rfl
  have cb3 := bw20.out.1 3 _ rfl
  have cb4 := bw20.out.1 4 _ rfl
  have cb5 := bw20.out.1 5 _ rfl
  have cb6 := bw20.out.1 6 _ rfl
  have cb7 := bw20.out.1 7 _ rfl
  have cb8 := bw20.out.1 8 _ rfl
  have cb9 := bw20.out.1 9 _ rfl
  have cfb := bw20.out.2.1
  go_upto_region 18 with fail
  clear ct0 cfa cb0 cb1 cb2 cb3 cb4 cb5 cb6 cb7 cb8 cb9 cfb
  obtain ⟨w21, hw21⟩ : ∃ z, ((((((((((w20.setCell ⟨w10.heap.size, 0, none⟩ (.int .i64 d3.idx)).setCell ⟨w10.heap.size, 1, none⟩ (.int .i64 d3.par)).setCell ⟨w10.heap.size, 2, none⟩ (.string d3.nm)).setCell ⟨w10.heap.size, 3, none⟩ (.string d3.orig)).setCell ⟨w10.heap.size, 4, none⟩ (.string d3.sub)).setCell ⟨w10.heap.size, 5, none⟩ (.string d3.drv)).setCell ⟨w10.heap.size, 6, none⟩ (.string d3.ali)).setCell ⟨w10.heap.size, 7, none⟩ (.int .i64 d3.kind)).setCell ⟨w10.heap.size, 8, none⟩ (.int .i64 d3.num)).setCell ⟨w10.heap.size, 9, none⟩ (.slice B3 d3.attrs.length e3)) = z := ⟨_, rfl⟩
  have HTw21 := Lib.hid (show BoxL w21 w2.heap.size [.slice AT L.length cT] by rw [← hw21]; exact set10_ind (fun w' => BoxL w' w2.heap.size [.slice AT L.length cT]) (fun w' j v h => h.far (fun e => by have := HLb.out; omega) v) tw20.out _ _ _ _ _ _ _ _ _ _)
  have HXbw21 := Lib.hid (show BoxL w21 w10.heap.size [.int .i64 d3.idx, .int .i64 d3.par, .string d3.nm, .string d3.orig, .string d3.sub, .string d3.drv, .string d3.ali, .int .i64 d3.kind, .int .i64 d3.num, .slice B3 d3.attrs.length e3] by rw [← hw21]; exact bw20.out.set10 _ _ _ _ _ _ _ _ _ _)
  have HXaw21 := Lib.hid (show BoxL w21 w8.heap.size [.int .i64 d3.idx, .int .i64 d3.par, .string d3.nm, .string d3.orig, .string d3.sub, .string d3.drv, .string d3.ali, .int .i64 d3.kind, .int .i64 d3.num, .slice A3 d3.attrs.length c3] by rw [← hw21]; exact set10_ind (fun w' => BoxL w' w8.heap.size [.int .i64 d3.idx, .int .i64 d3.par, .string d3.nm, .string d3.orig, .string d3.sub, .string d3.drv, .string d3.ali, .int .i64 d3.kind, .int .i64 d3.num, .slice A3 d3.attrs.length c3]) (fun w' j v h => h.far (fun e => by have := HLab.out; omega) v) aw20.out _ _ _ _ _ _ _ _ _ _)
  have HBw21 := Lib.hid (show Below w.heap.size w w21 by rw [← hw21]; exact below10 HBw20.out (by have := HLb.out; have := HB27.out; omega) _ _ _ _ _ _ _ _ _ _)
  have HIw21 := Lib.hid (show AIn w21 (fun x => w1.heap.size ≤ x ∧ x < w2.heap.size) AT cT L by rw [← hw21]; exact set10_ind (fun w' => AIn w' (fun x => w1.heap.size ≤ x ∧ x < w2.heap.size) AT cT L) (fun w' j v h => h.set_ (fun x hx => by have := hx.2; have := HLb.out; omega) j v) HINw20.out _ _ _ _ _ _ _ _ _ _)
  have HC7w21 := Lib.hid (show w7.heap.size ≤ (w21).heap.size by rw [← hw21]; exact set10_ind (fun w' => w7.heap.size ≤ (w').heap.size) (fun w' j v h => by simpa using h) HC7w20.out _ _ _ _ _ _ _ _ _ _)
  have HR3w21 := Lib.hid (show AIn w21 (fun x => x < w2.heap.size) B3 e3 d3.attrs by rw [← hw21]; exact set10_ind (fun w' => AIn w' (fun x => x < w2.heap.size) B3 e3 d3.attrs) (fun w' j v h => h.set_ (fun x hx => by have hx : x < w2.heap.size := hx; have := HLb.out; omega) j v) HR3.out _ _ _ _ _ _ _ _ _ _)
  have HA3w21 := Lib.hid (show AIn w21 (fun x => w17.heap.size ≤ x ∧ x < w18.heap.size) A3 c3 d3.attrs by rw [← hw21]; exact set10_ind (fun w' => AIn w' (fun x => w17.heap.size ≤ x ∧ x < w18.heap.size) A3 c3 d3.attrs) (fun w' j v h => h.set_ (fun x hx => (HAQ.out x hx).2) j v) HAw20.out _ _ _ _ _ _ _ _ _ _)
  simp only [hw21]
  clear hw21
  have ct0 := HTw21.out.1 0 _ rfl
  have ca0 := HXaw21.out.1 0 _ rfl
  have ca1 := HXaw21.out.1 1 _ rfl
  have ca2 := HXaw21.out.1 2 _ rfl
  have ca3 := HXaw21.out.1 3 _ rfl
  have ca4 := HXaw21.out.1 4 _ rfl
  have ca5 := HXaw21.out.1 5 _ rfl
  have ca6 := HXaw21.out.1 6 _ rfl
  have ca7 := HXaw21.out.1 7 _ rfl
  have ca8 := HXaw21.out.1 8 _ rfl
  have ca9 := HXaw21.out.1 9 _ rfl
  have cfa := HXaw21.out.2.1
  have cb0 := HXbw21.out.1 0 _ rfl
  have cb1 := HXbw21.out.1 1 _ rfl
  have cb2 := HXbw21.out.1 2 _ rfl
  have cb3 := HXbw21.out.1 3 _ rfl
  have cb4 := HXbw21.out.1 4 _ rfl
  have cb5 := HXbw21.out.1 5 _ rfl
  have cb6 := HXbw21.out.1 6 _ rfl
  have cb7 := HXbw21.out.1 7 _ rfl
  have cb8 := HXbw21.out.1 8 _ rfl
  have cb9 := HXbw21.out.1 9 _ rfl
  have cfb := HXbw21.out.2.1
  go_wp2_with fail
  refine (SameDevice_same d3 A3 B3 c3 e3 _ _ _ (Nat.le_refl _) (Nat.le_refl _) HA3w21.out.out HR3w21.out.out).mono ?_
  rintro e w22 ⟨rfl, hbw22⟩
  clear ct0 ca0 ca1 ca2 ca3 ca4 ca5 ca6 ca7 ca8 ca9 cfa cb0 cb1 cb2 cb3 cb4 cb5 cb6 cb7 cb8 cb9 cfb
  have HSw22 := Lib.hid (show w21.heap.size ≤ w22.heap.size from hbw22.size)
  have HBw22 := Lib.hid (HBw21.out.trans (hbw22.mono HBw21.out.size))
  have tw22 := Lib.hid (HTw21.out.kept (grown_none hbw22) (fun e => by cases e))
  have aw22 := Lib.hid (HXaw21.out.kept (grown_none hbw22) (fun e => by cases e))
  have bw22 := Lib.hid (HXbw21.out.kept (grown_none hbw22) (fun e => by cases e))
  have HINw22 := Lib.hid (HIw21.out.below hbw22)
  have HAw22 := Lib.hid (HA3w21.out.below hbw22)
  have HRw22 := Lib.hid (HR3w21.out.below hbw22)
  have HC7w22 := Lib.hid (show w7.heap.size ≤ w22.heap.size from Nat.le_trans HC7w21.out HSw22.out)
  clear hbw22
  have ct0 := tw22.out.1 0 _ rfl
  have cfa := aw22.out.2.1
  have cfb := bw22.out.2.1
  have HLT_aw22 := Lib.hid (show w8.heap.size < w22.heap.size from aw22.out.2.2); have HLT_bw22 := Lib.hid (show w10.heap.size < w22.heap.size from bw22.out.2.2)
  go_wp2_with fail
  refine (TNode_any AT cT L nm _ _ (Nat.le_refl _) HINw22.out.out HLA.out HSMB.out (HOK.out.next HBw22.out)).mono ?_
  rintro e w23 ⟨hbw23, d4, A4, c4, hd, rfl, -, hsl⟩
  clear ct0 cfa cfb
  have HSw23 := Lib.hid (show w22.heap.size ≤ w23.heap.size from hbw23.size)
  have HBw23 := Lib.hid (HBw22.out.trans (hbw23.mono HBw22.out.size))
  have tw23 := Lib.hid (tw22.out.kept (grown_none hbw23) (fun e => by cases e))
  have aw23 := Lib.hid (aw22.out.kept (grown_none hbw23) (fun e => by cases e))
  have bw23 := Lib.hid (bw22.out.kept (grown_none hbw23) (fun e => by cases e))
  have HINw23 := Lib.hid (HINw22.out.below hbw23)
  have HC7w23 := Lib.hid (show w7.heap.size ≤ w23.heap.size from Nat.le_trans HC7w22.out HSw23.out)
  clear hbw23
  have HD4 := Lib.hid hd; have HA4 := Lib.hid (show AIn w23 (fun x => w22.heap.size ≤ x ∧ x < w23.heap.size) A4 c4 d4.attrs from ⟨hsl, fun x hx => hx.2⟩); clear hd hsl
  obtain ⟨q4, hq⟩ : ∃ q, (L.find? (byNode nm)).isSome = q := ⟨_, rfl⟩
  rw [hq]
  have HQ4 := Lib.hid hq; clear hq
  have ct0 := tw23.out.1 0 _ rfl
  have ca0 := aw23.out.1 0 _ rfl
  have ca1 := aw23.out.1 1 _ rfl
  have ca2 := aw23.out.1 2 _ rfl
  have ca3 := aw23.out.1 3 _ rfl
  have ca4 := aw23.out.1 4 _ rfl
  have ca5 := aw23.out.1 5 _ rfl
  have ca6 := aw23.out.1 6 _ rfl
  have ca7 := aw23.out.1 7 _ rfl
  have ca8 := aw23.out.1 8 _ rfl
  have ca9 := aw23.out.1 9 _ rfl
  have cfa := aw23.out.2.1
  have cfb := bw23.out.2.1
  go_upto_region 21 with fail
  clear ct0 ca0 ca1 ca2 ca3 ca4 ca5 ca6 ca7 ca8 ca9 cfa cfb
  obtain ⟨w24, hw24⟩ : ∃ z, ((((((((((w23.setCell ⟨w8.heap.size, 0, none⟩ (.int .i64 d4.idx)).setCell ⟨w8.heap.size, 1, none⟩ (.int .i64 d4.par)).setCell ⟨w8.heap.size, 2, none⟩ (.string d4.nm)).setCell ⟨w8.heap.size, 3, none⟩ (.string d4.orig)).setCell ⟨w8.heap.size, 4, none⟩ (.string d4.sub)).setCell ⟨w8.heap.size, 5, none⟩ (.string d4.drv)).setCell ⟨w8.heap.size, 6, none⟩ (.string d4.ali)).setCell ⟨w8.heap.size, 7, none⟩ (.int .i64 d4.kind)).setCell ⟨w8.heap.size, 8, none⟩ (.int .i64 d4.num)).setCell ⟨w8.heap.size, 9, none⟩ (.slice A4 d4.attrs.length c4)) = z := ⟨_, rfl⟩
  have HTw24 := Lib.hid (show BoxL w24 w2.heap.size [.slice AT L.length cT] by rw [← hw24]; exact set10_ind (fun w' => BoxL w' w2.heap.size [.slice AT L.length cT]) (fun w' j v h => h.far (fun e => by have := HLa.out; omega) v) tw23.out _ _ _ _ _ _ _ _ _ _)
  have HXaw24 := Lib.hid (show BoxL w24 w8.heap.size [.int .i64 d4.idx, .int .i64 d4.par, .string d4.nm, .string d4.orig, .string d4.sub, .string d4.drv, .string d4.ali, .int .i64 d4.kind, .int .i64 d4.num, .slice A4 d4.attrs.length c4] by rw [← hw24]; exact aw23.out.set10 _ _ _ _ _ _ _ _ _ _)
  have HXbw24 := Lib.hid (show BoxL w24 w10.heap.size [.int .i64 d3.idx, .int .i64 d3.par, .string d3.nm, .string d3.orig, .string d3.sub, .string d3.drv, .string d3.ali, .int .i64 d3.kind, .int .i64 d3.num, .slice B3 d3.attrs.length e3] by rw [← hw24]; exact set10_ind (fun w' => BoxL w' w10.heap.size [.int .i64 d3.idx, .int .i64 d3.par, .string d3.nm, .string d3.orig, .string d3.sub, .string d3.drv, .string d3.ali, .int .i64 d3.kind, .int .i64 d3.num, .slice B3 d3.attrs.length e3]) (fun w' j v h => h.far (fun e => by have := HLab.out; omega) v) bw23.out _ _ _ _ _ _ _ _ _ _)
  have HBw24 := Lib.hid (show Below w.heap.size w w24 by rw [← hw24]; exact below10 HBw23.out (by have := HLa.out; have := HB27.out; omega) _ _ _ _ _ _ _ _ _ _)
  have HIw24 := Lib.hid (show AIn w24 (fun x => w1.heap.size ≤ x ∧ x < w2.heap.size) AT cT L by rw [← hw24]; exact set10_ind (fun w' => AIn w' (fun x => w1.heap.size ≤ x ∧ x < w2.heap.size) AT cT L) (fun w' j v h => h.set_ (fun x hx => by have := hx.2; have := HLa.out; omega) j v) HINw23.out _ _ _ _ _ _ _ _ _ _)
  have HC7w24 := Lib.hid (show w7.heap.size ≤ (w24).heap.size by rw [← hw24]; exact set10_ind (fun w' => w7.heap.size ≤ (w').heap.size) (fun w' j v h => by simpa using h) HC7w23.out _ _ _ _ _ _ _ _ _ _)
  have HAQ := Lib.hid (show ∀ x, (fun x => w22.heap.size ≤ x ∧ x < w23.heap.size) x → x ≠ w8.heap.size ∧ x ≠ w10.heap.size from fun x hx => by have h1 : w22.heap.size ≤ x := hx.1; have h2 := HLT_aw22.out; have h3 := HLT_bw22.out; omega)
  have HA4w24 := Lib.hid (show AIn w24 (fun x => w22.heap.size ≤ x ∧ x < w23.heap.size) A4 c4 d4.attrs by rw [← hw24]; exact set10_ind (fun w' => AIn w' (fun x => w22.heap.size ≤ x ∧ x < w23.heap.size) A4 c4 d4.attrs) (fun w' j v h => h.set_ (fun x hx => (HAQ.out x hx).1) j v) HA4.out _ _ _ _ _ _ _ _ _ _)
  simp only [hw24]
  clear hw24
  have ct0 := HTw24.out.1 0 _ rfl
  have cfa := HXaw24.out.2.1
  have cfb := HXbw24.out.2.1
  go_wp2_with fail
  refine (RNodeF_any AT cT L nm _ w2.heap.size (by have := HLW.out; have := HC7w24.out; omega) (HIw24.out.1.sl (fun x hx => hx.2) : Sl _ w2.heap.size AT cT L) HSMB.out (HOK.out.next HBw24.out)).mono ?_
  rintro e w25 ⟨hbw25, x, B4, e4, hx_, rfl, -, hsl⟩
  clear ct0 cfa cfb
  have HSw25 := Lib.hid (show w24.heap.size ≤ w25.heap.size from hbw25.size)
  have HBw25 := Lib.hid (HBw24.out.trans (hbw25.mono HBw24.out.size))
  have tw25 := Lib.hid (HTw24.out.kept (grown_none hbw25) (fun e => by cases e))
  have aw25 := Lib.hid (HXaw24.out.kept (grown_none hbw25) (fun e => by cases e))
  have bw25 := Lib.hid (HXbw24.out.kept (grown_none hbw25) (fun e => by cases e))
  have HINw25 := Lib.hid (HIw24.out.below hbw25)
  have HAw25 := Lib.hid (HA4w24.out.below hbw25)
  have HC7w25 := Lib.hid (show w7.heap.size ≤ w25.heap.size from Nat.le_trans HC7w24.out HSw25.out)
  clear hbw25
  have hx2 : d4 = x := HD4.out.trans hx_.symm
  subst hx2
  clear hx_
  have HR4 := Lib.hid (show AIn w25 (fun x => x < w2.heap.size) B4 e4 d4.attrs from ⟨SlS_iff.1 hsl, fun x hx => by have hx : x < w2.heap.size := hx; have := HLW.out; have h7 : w7.heap.size ≤ w25.heap.size := HC7w25.out; omega⟩); clear hsl
  rw [show (L.find? (byNode nm)).isSome = q4 from HQ4.out]
  have ct0 := tw25.out.1 0 _ rfl
  have cfa := aw25.out.2.1
  have cb0 := bw25.out.1 0 _ rfl
  have cb1 := bw25.out.1 1 _ rfl
  have cb2 := bw25.out.1 2 _ rfl
  have cb3 := bw25.out.1 3 _ rfl
  have cb4 := bw25.out.1 4 _ rfl
  have cb5 := bw25.out.1 5 _ rfl
  have cb6 := bw25.out.1 6 _ rfl
  have cb7 := bw25.out.1 7 _ rfl
  have cb8 := bw25.out.1 8 _ rfl
  have cb9 := bw25.out.1 9 _ rfl
  have cfb := bw25.out.2.1
  go_upto_region 22 with fail
  clear ct0 cfa cb0 cb1 cb2 cb3 cb4 cb5 cb6 cb7 cb8 cb9 cfb
  obtain ⟨w26, hw26⟩ : ∃ z, ((((((((((w25.setCell ⟨w10.heap.size, 0, none⟩ (.int .i64 d4.idx)).setCell ⟨w10.heap.size, 1, none⟩ (.int .i64 d4.par)).setCell ⟨w10.heap.size, 2, none⟩ (.string d4.nm)).setCell ⟨w10.heap.size, 3, none⟩ (.string d4.orig)).setCell ⟨w10.heap.size, 4, none⟩ (.string d4.sub)).setCell ⟨w10.heap.size, 5, none⟩ (.string d4.drv)).setCell ⟨w10.heap.size, 6, none⟩ (.string d4.ali)).setCell ⟨w10.heap.size, 7, none⟩ (.int .i64 d4.kind)).setCell ⟨w10.heap.size, 8, none⟩ (.int .i64 d4.num)).setCell ⟨w10.heap.size, 9, none⟩ (.slice B4 d4.attrs.length e4)) = z := ⟨_, rfl⟩
  have HTw26 := Lib.hid (show BoxL w26 w2.heap.size [.slice AT L.length cT] by rw [← hw26]; exact set10_ind (fun w' => BoxL w' w2.heap.size [.slice AT L.length cT]) (fun w' j v h => h.far (fun e => by have := HLb.out; omega) v) tw25.out _ _ _ _ _ _ _ _ _ _)
  have HXbw26 := Lib.hid (show BoxL w26 w10.heap.size [.int .i64 d4.idx, .int .i64 d4.par, .string d4.nm, .string d4.orig, .string d4.sub, .string d4.drv, .string d4.ali, .int .i64 d4.kind, .int .i64 d4.num, .slice B4 d4.attrs.length e4] by rw [← hw26]; exact bw25.out.set10 _ _ _ _ _ _ _ _ _ _)
  have HXaw26 := Lib.hid (show BoxL w26 w8.heap.size [.int .i64 d4.idx, .int .i64 d4.par, .string d4.nm, .string d4.orig, .string d4.sub, .string d4.drv, .string d4.ali, .int .i64 d4.kind, .int .i64 d4.num, .slice A4 d4.attrs.length c4] by rw [← hw26]; exact set10_ind (fun w' => BoxL w' w8.heap.size [.int .i64 d4.idx, .int .i64 d4.par, .string d4.nm, .string d4.orig, .string d4.sub, .string d4.drv, .string d4.ali, .int .i64 d4.kind, .int .i64 d4.num, .slice A4 d4.attrs.length c4]) (fun w' j v h => h.far (fun e => by have := HLab.out; omega) v) aw25.out _ _ _ _ _ _ _ _ _ _)
  have HBw26 := Lib.hid (show Below w.heap.size w w26 by rw [← hw26]; exact below10 HBw25.out (by have := HLb.out; have := HB27.out; omega) _ _ _ _ _ _ _ _ _ _)
  have HIw26 := Lib.hid (show AIn w26 (fun x => w1.heap.size ≤ x ∧ x < w2.heap.size) AT cT L by rw [← hw26]; exact set10_ind (fun w' => AIn w' (fun x => w1.heap.size ≤ x ∧ x < w2.heap.size) AT cT L) (fun w' j v h => h.set_ (fun x hx => by have := hx.2; have := HLb.out; omega) j v) HINw25.out _ _ _ _ _ _ _ _ _ _)
  have HC7w26 := Lib.hid (show w7.heap.size ≤ (w26).heap.size by rw [← hw26]; exact set10_ind (fun w' => w7.heap.size ≤ (w').heap.size) (fun w' j v h => by simpa using h) HC7w25.out _ _ _ _ _ _ _ _ _ _)
  have HR4w26 := Lib.hid (show AIn w26 (fun x => x < w2.heap.size) B4 e4 d4.attrs by rw [← hw26]; exact set10_ind (fun w' => AIn w' (fun x => x < w2.heap.size) B4 e4 d4.attrs) (fun w' j v h => h.set_ (fun x hx => by have hx : x < w2.heap.size := hx; have := HLb.out; omega) j v) HR4.out _ _ _ _ _ _ _ _ _ _)
  have HA4w26 := Lib.hid (show AIn w26 (fun x => w22.heap.size ≤ x ∧ x < w23.heap.size) A4 c4 d4.attrs by rw [← hw26]; exact set10_ind (fun w' => AIn w' (fun x => w22.heap.size ≤ x ∧ x < w23.heap.size) A4 c4 d4.attrs) (fun w' j v h => h.set_ (fun x hx => (HAQ.out x hx).2) j v) HAw25.out _ _ _ _ _ _ _ _ _ _)
  simp only [hw26]
  clear hw26
  have ct0 := HTw26.out.1 0 _ rfl
  have ca0 := HXaw26.out.1 0 _ rfl
  have ca1 := HXaw26.out.1 1 _ rfl
  have ca2 := HXaw26.out.1 2 _ rfl
  have ca3 := HXaw26.out.1 3 _ rfl
  have ca4 := HXaw26.out.1 4 _ rfl
  have ca5 := HXaw26.out.1 5 _ rfl
  have ca6 := HXaw26.out.1 6 _ rfl
  have ca7 := HXaw26.out.1 7 _ rfl
  have ca8 := HXaw26.out.1 8 _ rfl
  have ca9 := HXaw26.out.1 9 _ rfl
  have cfa := HXaw26.out.2.1
  have cb0 := HXbw26.out.1 0 _ rfl
  have cb1 := HXbw26.out.1 1 _ rfl
  have cb2 := HXbw26.out.1 2 _ rfl
  have cb3 := HXbw26.out.1 3 _ rfl
  have cb4 := HXbw26.out.1 4 _ rfl
  have cb5 := HXbw26.out.1 5 _ rfl
  have cb6 := HXbw26.out.1 6 _ rfl
  have cb7 := HXbw26.out.1 7 _ rfl
  have cb8 := HXbw26.out.1 8 _ rfl
  have cb9 := HXbw26.out.1 9 _ rfl
  have cfb := HXbw26.out.2.1
  go_wp2_with fail
  refine (SameDevice_same d4 A4 B4 c4 e4 _ _ _ (Nat.le_refl _) (Nat.le_refl _) HA4w26.out.out HR4w26.out.out).mono ?_
  rintro e w27 ⟨rfl, hbw27⟩
  clear ct0 ca0 ca1 ca2 ca3 ca4 ca5 ca6 ca7 ca8 ca9 cfa cb0 cb1 cb2 cb3 cb4 cb5 cb6 cb7 cb8 cb9 cfb
  have HSw27 := Lib.hid (show w26.heap.size ≤ w27.heap.size from hbw27.size)
  have HBw27 := Lib.hid (HBw26.out.trans (hbw27.mono HBw26.out.size))
  have tw27 := Lib.hid (HTw26.out.kept (grown_none hbw27) (fun e => by cases e))
  have aw27 := Lib.hid (HXaw26.out.kept (grown_none hbw27) (fun e => by cases e))
  have bw27 := Lib.hid (HXbw26.out.kept (grown_none hbw27) (fun e => by cases e))
  have HINw27 := Lib.hid (HIw26.out.below hbw27)
  have HAw27 := Lib.hid (HA4w26.out.below hbw27)
  have HRw27 := Lib.hid (HR4w26.out.below hbw27)
  have HC7w27 := Lib.hid (show w7.heap.size ≤ w27.heap.size from Nat.le_trans HC7w26.out HSw27.out)
  clear hbw27
  have ct0 := tw27.out.1 0 _ rfl
  have cfa := aw27.out.2.1
  have cfb := bw27.out.2.1
  go_wp2_with fail
  refine (known_any _ (HOK.out.next HBw27.out)).mono ?_
  rintro e w28 ⟨rfl, hbw28⟩
  clear ct0 cfa cfb
  have HSw28 := Lib.hid (show w27.heap.size ≤ w28.heap.size from hbw28.size)
  have HBw28 := Lib.hid (HBw27.out.trans (hbw28.mono HBw27.out.size))
  have tw28 := Lib.hid (tw27.out.kept (grown_none hbw28) (fun e => by cases e))
  have aw28 := Lib.hid (aw27.out.kept (grown_none hbw28) (fun e => by cases e))
  have bw28 := Lib.hid (bw27.out.kept (grown_none hbw28) (fun e => by cases e))
  have HINw28 := Lib.hid (HINw27.out.below hbw28)
  have HC7w28 := Lib.hid (show w7.heap.size ≤ w28.heap.size from Nat.le_trans HC7w27.out HSw28.out)
  clear hbw28
  go_wp2
  go_ret
  exact ⟨by try rfl, HBw28.out⟩
end Go.Proofs.YtidhbckalcjdpaaGreatDoor
namespace Go.Proofs.YtidhbckalcjdpaaGreatDoor
open Go.RowKit Go.Cold
namespace cTreeFinds
open Go.ChangeShapes Go.WideShapes Go.ChangeAt
open Go.ChangeMaps (open_string)
set_option maxRecDepth 100000
theorem reads (os : Os) {H : Type} (enc : TypeId × Value → H) : ∃ places, DataW.whole enc Tryz.prog ((World.laidAll Tryz.prog os Rows.treeFindsRow.laid).forCall (fun _ _ => 0) ⟨#[], #[.slice none 0 0, .string ⟨#[]⟩], []⟩).memory Tryz.f9.params.toList Rows.treeFindsSpec.vars false (#[.slice none 0 0, .string ⟨#[]⟩] : Array Value).toList 8 = some ([.nil, .lit (.string [])], [], places) :=
  ⟨[], by kernel_rfl⟩
theorem lifted (os : Os) (started : os.Started) (H : Type) (enc : TypeId × Value → H) (F : Stop.Interp) :
    ReturnsInHanded {} Tryz.checked os 9 .any ((OpenSpec.ofChange Rows.treeFindsSpec).preRow enc Tryz.prog Tryz.f9 Rows.treeFindsRow.domain false Rows.treeFindsRow.laid) (((OpenSpec.ofChange Rows.treeFindsSpec).at F).post enc Tryz.prog Tryz.f9 false true false false) := by
  obtain ⟨places, hx⟩ := reads os enc
  refine law_lifted os started H enc F (by kernel_rfl) Tryz.func9 #[.slice none 0 0, .string ⟨#[]⟩] (World.shaped_of_ZipB (by kernel_rfl) (by kernel_rfl)) (by kernel_rfl)
    (OpenSpec.preRow_of_cond 8 hx (by kernel_rfl) (fun k hk => by cases hk) (by kernel_rfl) (laidMet_laidAll _ (by kernel_rfl) (by kernel_rfl))) rfl rfl
    (fun ds hl => by
      rw [Tryz.params9] at hl
      match ds, hl with
      | [d0, d1], _ => rfl) (by kernel_rfl) ?_
  intro W base args ds ps hval hA hlt hz hsh
  rw [Tryz.params9] at hA hval
  obtain ⟨v0, vs0, d0, ds0, p0, q0, hargs, rfl, rfl, h0, r0⟩ := trodAll_cons hA
  obtain ⟨v1, vs1, d1, ds1, p1, q1, rfl, rfl, rfl, h1, r1⟩ := trodAll_cons r0
  obtain ⟨rfl, rfl, rfl⟩ := trodAll_nil r1
  obtain rfl : args = #[v0, v1] := by cases args; simp_all
  obtain ⟨A0, c0, xs0, rfl, s0⟩ := open_nums Tryz.underlying23 Tryz.underlying3 (by kernel_rfl) (hval 0 23 v0 rfl rfl) h0 (fun x hx => hlt x (List.mem_append_left _ hx))
  obtain ⟨a1, rfl, rfl, rfl, w1⟩ := open_string Tryz.underlying9 (hval 1 9 v1 rfl rfl) h1
  exact lawFinds_any A0 c0 xs0 a1 W (ok_of_shape W hsh) s0 w1
theorem said : Rows.TreeFindsSaid :=
  OpenClaim.holds_of_cond 9 Tryz.f9 rfl rfl rfl rfl rfl rfl rfl ⟨rfl, rfl, rfl, rfl, rfl⟩ rfl rfl rfl rfl rfl (by kernel_rfl) Tryz.func9 (by kernel_rfl)
    (of_decide_eq_true (by kernel_rfl)) (by unfold Func.isWrapper; first | (rw [if_pos (by decide +kernel)]; kernel_rfl) | (rw [if_neg (by decide +kernel)]; exact ⟨rfl, rfl⟩))
    (fun os started H enc _ F => by rw [OpenClaim.pre_eq_preRow]; exact lifted os started H enc F)
theorem plain (f : FuncId) (fn : Func) (hf : Tryz.pinned.checked.prog.funcNamed Rows.treeFindsRow.func = some f) (hfn : Tryz.pinned.checked.prog.funcs[f]? = some fn) :
    false = Tryz.pinned.checked.prog.looks [] ∧ ∀ (j : Nat) t, fn.params[j]? = some t → Tryz.pinned.checked.prog.wantsStandIn t = false := by
  obtain rfl : f = 9 := Option.some.inj ((show Tryz.prog.funcNamed Rows.treeFindsRow.func = some 9 by kernel_rfl).symm.trans hf) |>.symm
  obtain rfl : fn = Tryz.f9 := (Option.some.inj (Tryz.func9.symm.trans hfn)).symm
  refine ⟨by kernel_rfl, fun j t ht => ?_⟩
  rw [Tryz.params9] at ht
  have hm : t ∈ [23, 9] := by simpa using Array.mem_of_getElem? ht
  have hall : ([23, 9].all fun u => !Tryz.prog.wantsStandIn u) = true := by kernel_rfl
  exact (show Tryz.prog.wantsStandIn t = false by simpa using List.all_eq_true.1 hall t hm)
/-- The card. -/
theorem card : Rows.TreeFindsCardSaid :=
  Claim7.holds_tied_plain_at .later [] _ _ _ _ said (fun _ h => by cases h) (by kernel_rfl) (fun _ h => by cases h) treeFinds_row_tie rfl ⟨rfl, rfl⟩ (by kernel_rfl) rfl plain (by kernel_rfl)
end cTreeFinds
end Go.Proofs.YtidhbckalcjdpaaGreatDoor
