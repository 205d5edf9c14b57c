/-
  The walks of coldplugmade: Contents and Device.
-/
import Derived.Test.YtehmidmoiamcfaaGreatDoorIF
import Derived.Test.YtehmidmoiamcfaaGreatDoorIH
import Derived.Deep.DeepCutAuto
import Derived.StillTailTactics
set_option linter.unusedSimpArgs false
set_option linter.unusedVariables false
namespace Go.Cold
open Go Go.RowKit
theorem StD.farset {w0 w : World} {B b k g3 g4 g5 c q j : Nat} {xs : List Int} {t3 : Value} {cs : List Value} {S : Nat → Prop} {A : Option Addr} {l : List Attr} (h : StD w0 B b xs k g3 g4 g5 t3 cs S A c l w) (h0 : w0.heap.size ≤ q) (h1 : q ≠ b) (h2 : B ≤ q) (h3 : q ≠ g3) (h4 : q ≠ g4) (h5 : q ≠ g5) (h6 : ∀ x, S x → x ≠ q) (v : Value) : StD w0 B b xs k g3 g4 g5 t3 cs S A c l (w.setCell ⟨q, j, none⟩ v) := by
 obtain ⟨a1, a2, a3, a4, a5, a6, a7⟩ := h
 exact ⟨a1.set_ (by omega) (by omega) v, grown_set a2 (by omega) v, a3.far (by omega) v, a4.far (by omega) v, a5.far (by omega) v, a6.set_ h6 v, fun x hx => by simpa using a7 x hx⟩
def contM : List ByteArray := [⟨#[]⟩, ⟨#[102, 115, 58, 102, 58]⟩, ⟨#[102, 115, 58, 103, 58, 76]⟩, ⟨#[114, 97, 105, 100, 58, 114, 58, 49, 47, 50, 47, 49, 40, 102, 115, 58, 102, 58, 41]⟩, ⟨#[114, 97, 105, 100, 58, 114, 58, 50, 47, 50, 47, 49, 40, 102, 115, 58, 102, 58, 41]⟩, ⟨#[99, 114, 121, 112, 116, 58, 99, 40, 102, 115, 58, 103, 58, 41]⟩, ⟨#[112, 118, 58, 118, 58, 49, 47, 49, 40, 102, 115, 58, 102, 58, 44, 99, 114, 121, 112, 116, 58, 99, 40, 102, 115, 58, 104, 58, 41, 41]⟩, ⟨#[116, 97, 98, 108, 101, 58, 116, 40, 102, 115, 58, 102, 58, 44, 99, 114, 121, 112, 116, 58, 99, 40, 114, 97, 105, 100, 58, 114, 58, 49, 47, 50, 47, 49, 40, 102, 115, 58, 120, 58, 41, 41, 41]⟩, ⟨#[116, 97, 98, 108, 101, 58, 116, 40, 114, 97, 105, 100, 58, 114, 58, 49, 47, 50, 47, 49, 40, 116, 97, 98, 108, 101, 58, 117, 40, 102, 115, 58, 102, 58, 41, 41, 44, 114, 97, 105, 100, 58, 114, 58, 50, 47, 50, 47, 49, 40, 116, 97, 98, 108, 101, 58, 117, 40, 102, 115, 58, 102, 58, 41, 41, 41]⟩, ⟨#[114, 97, 105, 100, 58, 114, 58, 49, 47, 49, 47, 49, 40, 114, 97, 105, 100, 58, 114, 58, 49, 47, 49, 47, 49, 40, 102, 115, 58, 102, 58, 41, 41]⟩, ⟨#[112, 118, 58, 118, 58, 49, 47, 50, 40, 102, 115, 58, 102, 58, 41]⟩, ⟨#[112, 118, 58, 118, 58, 50, 47, 50, 40, 102, 115, 58, 102, 58, 41]⟩, ⟨#[99, 114, 121, 112, 116, 58, 100, 40, 112, 118, 58, 118, 58, 49, 47, 49, 40, 114, 97, 105, 100, 58, 115, 58, 49, 47, 51, 47, 50, 40, 102, 115, 58, 121, 58, 41, 41, 41]⟩, ⟨#[114, 97, 105, 100, 58, 115, 58, 50, 47, 51, 47, 50, 40, 102, 115, 58, 121, 58, 41]⟩, ⟨#[114, 97, 105, 100, 58, 115, 58, 51, 47, 51, 47, 50, 40, 102, 115, 58, 121, 58, 41]⟩, ⟨#[110, 111, 110, 115, 101, 110, 115, 101]⟩]
def nmCont : ByteArray := ⟨#[99, 111, 110, 116, 101, 110, 116]⟩
/-- The attributes of a made device. -/
def attM (l : List Attr) : Prop := l = [] ∨ ∃ c ∈ contM, l = [⟨nmCont, c⟩]
theorem attM.few {l : List Attr} (h : attM l) : fewA 24 l := by
 rcases h with rfl | ⟨c, hc, rfl⟩
 · exact ⟨by simp, fun a ha => by cases ha⟩
 ·
  have hs : ∀ y ∈ contM, y.size ≤ 1000 := by decide
  exact ⟨by simp, fun a ha => by rw [List.mem_singleton.1 ha]; exact ⟨show nmCont.size ≤ 1000 by decide, hs c hc⟩⟩
/-- The name of a made device: it ends with a digit. -/
def nmM (s : ByteArray) : Prop := ∃ b m, 1 ≤ m ∧ m ≤ 4 ∧ s = b ++ itB m
theorem sls_one {w : World} {g : Nat} {n v : ByteArray} (h : BoxL w g [.string n, .string v]) (hn : n.size ≤ maxLen) (hv : v.size ≤ maxLen) : SlS w (fun x => x = g) (some ⟨g, 0, none⟩) 1 [(⟨n, v⟩ : Attr)] :=
 ⟨Nat.le_refl _, by unfold maxLen; omega, fun _ => ⟨g, 0, rfl, rfl, fun i x hx => by
  rcases i with _ | i
  ·
   simp at hx
   subst hx
   exact ⟨_, ⟨rfl, hn, hv⟩, fun j u hu => by rw [show 0 + (0 * Rep.size Attr + j) = j by omega]; exact h.1 j u hu⟩
  · simp at hx⟩⟩
end Go.Cold
namespace Go.Proofs.YtehmidmoiamcfaaGreatDoor
open Go.RowKit Go.Cold
theorem contM_cells : contM.map Value.string = [.string ⟨#[]⟩, .string ⟨#[102, 115, 58, 102, 58]⟩, .string ⟨#[102, 115, 58, 103, 58, 76]⟩, .string ⟨#[114, 97, 105, 100, 58, 114, 58, 49, 47, 50, 47, 49, 40, 102, 115, 58, 102, 58, 41]⟩, .string ⟨#[114, 97, 105, 100, 58, 114, 58, 50, 47, 50, 47, 49, 40, 102, 115, 58, 102, 58, 41]⟩, .string ⟨#[99, 114, 121, 112, 116, 58, 99, 40, 102, 115, 58, 103, 58, 41]⟩, .string ⟨#[112, 118, 58, 118, 58, 49, 47, 49, 40, 102, 115, 58, 102, 58, 44, 99, 114, 121, 112, 116, 58, 99, 40, 102, 115, 58, 104, 58, 41, 41]⟩, .string ⟨#[116, 97, 98, 108, 101, 58, 116, 40, 102, 115, 58, 102, 58, 44, 99, 114, 121, 112, 116, 58, 99, 40, 114, 97, 105, 100, 58, 114, 58, 49, 47, 50, 47, 49, 40, 102, 115, 58, 120, 58, 41, 41, 41]⟩, .string ⟨#[116, 97, 98, 108, 101, 58, 116, 40, 114, 97, 105, 100, 58, 114, 58, 49, 47, 50, 47, 49, 40, 116, 97, 98, 108, 101, 58, 117, 40, 102, 115, 58, 102, 58, 41, 41, 44, 114, 97, 105, 100, 58, 114, 58, 50, 47, 50, 47, 49, 40, 116, 97, 98, 108, 101, 58, 117, 40, 102, 115, 58, 102, 58, 41, 41, 41]⟩, .string ⟨#[114, 97, 105, 100, 58, 114, 58, 49, 47, 49, 47, 49, 40, 114, 97, 105, 100, 58, 114, 58, 49, 47, 49, 47, 49, 40, 102, 115, 58, 102, 58, 41, 41]⟩, .string ⟨#[112, 118, 58, 118, 58, 49, 47, 50, 40, 102, 115, 58, 102, 58, 41]⟩, .string ⟨#[112, 118, 58, 118, 58, 50, 47, 50, 40, 102, 115, 58, 102, 58, 41]⟩, .string ⟨#[99, 114, 121, 112, 116, 58, 100, 40, 112, 118, 58, 118, 58, 49, 47, 49, 40, 114, 97, 105, 100, 58, 115, 58, 49, 47, 51, 47, 50, 40, 102, 115, 58, 121, 58, 41, 41, 41]⟩, .string ⟨#[114, 97, 105, 100, 58, 115, 58, 50, 47, 51, 47, 50, 40, 102, 115, 58, 121, 58, 41]⟩, .string ⟨#[114, 97, 105, 100, 58, 115, 58, 51, 47, 51, 47, 50, 40, 102, 115, 58, 121, 58, 41]⟩, .string ⟨#[110, 111, 110, 115, 101, 110, 115, 101]⟩] := by kernel_rfl
theorem ContentsM_any (w : World) : Calls Tryz.prog 38 #[] w fun e w' => e = .returned (.slice (some ⟨w.heap.size, 0, none⟩) 16 16) ∧ Below w.heap.size w w' ∧ BoxL w' w.heap.size (contM.map Value.string) := by
 go_enter Tryz.func38, Tryz.ntmps38
 go_wp2
 go_ret
 refine ⟨rfl, (Below.refl _ _).alloc (Nat.le_refl _) _, ?_⟩
 rw [contM_cells]
 exact box_mk rfl
def DevMPost (ix : Int) (xs : List Int) (k B b : Nat) (w : World) (e : Ending) (w' : World) : Prop := ∃ (d : Dev) (A : Option Addr) (c k' : Nat), e = .returned (.agg #[.int .i64 d.idx, .int .i64 d.par, .string d.nm, .string d.orig, .string d.sub, .string d.drv, .string d.ali, .int .i64 d.kind, .int .i64 d.num, .slice A d.attrs.length c]) ∧ devFew d ∧ (d.idx = ix ∧ nmM d.orig ∧ attM d.attrs) ∧ SlS w' (fun x => w.heap.size ≤ x ∧ x < w'.heap.size) A c d.attrs ∧ k' ≤ k + 30 ∧ TapeAt w' B b xs k' ∧ w.grownBy w' (some b)
set_option maxRecDepth 100000 in
set_option maxHeartbeats 8000000 in
/-- coldplugmade.Device. -/
theorem DeviceM_any (xs : List Int) (k B b : Nat) (A : Option Addr) (c : Nat) (L : List Dev) (ix : Int) (S : Nat → Prop) (w : World) (hk : k ≤ 2 ^ 38) (ht : TapeAt w B b xs k) (htr : TreeIn w b S A c L) (hL : ∀ d ∈ L, (0 ≤ d.idx ∧ d.idx ≤ 1073741824) ∧ d.orig.size ≤ 32) (hll : L.length ≤ 1000) (hix : 1 ≤ ix ∧ ix ≤ 1000) : Calls Tryz.prog 49 #[.pointer (some ⟨b, 0, none⟩), .agg #[.slice A L.length c], .int .i64 ix] w (DevMPost ix xs k B b w) := by
 obtain ⟨i0, hi0, hz0, hz1, hz2⟩ := info_parts info_dev
 have hzv := (zero_of_info (P := Tryz.prog) (t := 43) info_dev2).1
 have hx1 := htr.sl.1; have hx2 := htr.sl.2.1
 unfold maxLen at hx2
 have HT := Lib.hid ht; have HK := Lib.hid hk; have HTR := Lib.hid htr; have HL := Lib.hid hL; have HLL := Lib.hid hll; have HIX := Lib.hid hix
 clear ht hk htr hL hll hix hi0 hz0 hz1 hz2
 have HBW := Lib.hid (show b < w.heap.size ∧ B ≤ b by obtain ⟨_, _, _, _, _, _, h1, h2⟩ := HT.out; exact ⟨h2, h1⟩)
 go_enter Tryz.func49, Tryz.ntmps49
 go_upto_region 1 with fail
 obtain ⟨w1, hw1⟩ : ∃ w1, w.alloc (.cells #[.slice A L.length c] 57) = w1 := ⟨_, rfl⟩
 have hbw1 : Below w.heap.size w w1 := by rw [← hw1]; exact (Below.refl _ _).alloc (Nat.le_refl _) _
 have HGw1 := Lib.hid (show w1.heap.size = w.heap.size + 1 by rw [← hw1]; simp)
 have HXtw1 := Lib.hid (show BoxL w1 w.heap.size [.slice A L.length c] from box_mk hw1)
 try simp only [hw1]
 have HBw1 := Lib.hid hbw1
 clear hw1 hbw1
 try rw [show w.heap.size + 1 = w1.heap.size from HGw1.out.symm]
 obtain ⟨w2, hw2⟩ : ∃ w2, w1.alloc (.cells #[.int .i64 0, .int .i64 0, .string ByteArray.empty, .string ByteArray.empty, .string ByteArray.empty, .string ByteArray.empty, .string ByteArray.empty, .int .i64 0, .int .i64 0, .slice none 0 0] 43) = w2 := ⟨_, rfl⟩
 have hbw2 : Below w1.heap.size w1 w2 := by rw [← hw2]; exact (Below.refl _ _).alloc (Nat.le_refl _) _
 have HGw2 := Lib.hid (show w2.heap.size = w1.heap.size + 1 by rw [← hw2]; simp)
 have HXrw2 := Lib.hid (show BoxL w2 w1.heap.size [.int .i64 0, .int .i64 0, .string ByteArray.empty, .string ByteArray.empty, .string ByteArray.empty, .string ByteArray.empty, .string ByteArray.empty, .int .i64 0, .int .i64 0, .slice none 0 0] from box_mk hw2)
 try simp only [hw2]
 have HBw2 := Lib.hid (HBw1.out.trans (hbw2.mono HBw1.out.size))
 have tw2 := Lib.hid (HXtw1.out.kept (grown_none hbw2) (fun e => by cases e))
 clear hw2 hbw2
 try rw [show w1.heap.size + 1 = w2.heap.size from HGw2.out.symm]
 have HT2 := Lib.hid (HT.out.kept (grown_none HBw2.out) (fun e => by cases e) (fun g e => by cases e)); have HG2 := Lib.hid (grown_any (row := some b) HBw2.out)
 go_wp2_with fail
 refine (One_lit [⟨#[117, 115, 98]⟩, ⟨#[112, 99, 105]⟩, ⟨#[115, 99, 115, 105]⟩] xs k B b _ _ _ _ rfl rfl (by have := HK.out; omega) HT2.out (by decide) (by decide)).mono ?_
 rintro e a4 ⟨su, hm_, rfl, ht_, hg_⟩
 have HTa := Lib.hid ht_; have HGa := Lib.hid (grown_trans HG2.out hg_)
 have HXta := Lib.hid (tw2.out.kept hg_ (fun e => by have := Option.some.inj e; have := HBW.out.1; omega)); have HXra := Lib.hid (HXrw2.out.kept hg_ (fun e => by have := Option.some.inj e; have := HBW.out.1; have := HGw1.out; omega)); clear ht_ hg_
 have HMsu := Lib.hid ((show ∀ y ∈ ([⟨#[117, 115, 98]⟩, ⟨#[112, 99, 105]⟩, ⟨#[115, 99, 115, 105]⟩] : List ByteArray), y.size ≤ 1000 by decide) su hm_); clear hm_
 go_upto_region 2 with fail
 obtain ⟨a6, ha6⟩ : ∃ a6, a4.alloc (.cells #[.int .i64 ix, .int .i64 0, .string ByteArray.empty, .string ByteArray.empty, .string su, .string ByteArray.empty, .string ByteArray.empty, .int .i64 1, .int .i64 0, .slice none 0 0] 43) = a6 := ⟨_, rfl⟩
 have hb5 : Below a4.heap.size a4 a6 := by rw [← ha6]; exact (Below.refl _ _).alloc (Nat.le_refl _) _
 have hx6 : BoxL a6 a4.heap.size [.int .i64 ix, .int .i64 0, .string ByteArray.empty, .string ByteArray.empty, .string su, .string ByteArray.empty, .string ByteArray.empty, .int .i64 1, .int .i64 0, .slice none 0 0] := box_mk ha6
 try simp only [ha6]
 have HST := Lib.hid (show StD w B b xs (k + 1) w.heap.size w1.heap.size a4.heap.size (.slice A L.length c) [.int .i64 ix, .int .i64 0, .string ByteArray.empty, .string ByteArray.empty, .string su, .string ByteArray.empty, .string ByteArray.empty, .int .i64 1, .int .i64 0, .slice none 0 0] (fun _ => False) none 0 ([] : List Attr) a6 from ⟨HTa.out.kept (grown_none hb5) (fun e => by cases e) (fun g e => by cases e), grown_below HGa.out hb5, HXta.out.kept (grown_none hb5) (fun e => by cases e), HXra.out.kept (grown_none hb5) (fun e => by cases e), hx6, SlS.nil_, fun x hx => hx.elim⟩); clear ha6 hx6 hb5
 have HDK := Lib.hid (show DvK w B b w.heap.size w1.heap.size a4.heap.size (fun _ => False) from ⟨HBW.out.1, HBW.out.2, Nat.le_refl _, by have := HGw1.out; omega, by have h := HXra.out.2.2; omega, fun x hx => hx.elim⟩)
 go_wp2_with fail
 refine (One_lit [⟨#[97]⟩, ⟨#[98]⟩, ⟨#[104, 117, 98]⟩, ⟨#[120, 33, 121]⟩] xs (k + 1) B b _ _ _ _ rfl rfl (by have := HK.out; omega) HST.out.1 (by decide) (by decide)).mono ?_
 rintro e a7 ⟨b1, hm_, rfl, ht_, hg_⟩
 have HST7 := Lib.hid (HST.out.tape HDK.out ht_ hg_); have HMb1 := Lib.hid (show b1.size ≤ 33 from Nat.le_trans ((show ∀ y ∈ ([⟨#[97]⟩, ⟨#[98]⟩, ⟨#[104, 117, 98]⟩, ⟨#[120, 33, 121]⟩] : List ByteArray), y.size ≤ 20 by decide) b1 hm_) (by omega)); clear ht_ hg_ hm_ HST
 have HST := HST7; clear HST7
 go_upto_region 3 with fail
 have t0 := HST.out.2.2.1.1 0 _ rfl
 go_cut [27] (fun s27 wx => ∃ (fl : Bool) (kx : Nat), s27 = .bool fl ∧ Hid (FlOk fl L.length) ∧ kx ≤ k + 3 ∧ Hid (StD w B b xs (kx) w.heap.size w1.heap.size a4.heap.size (.slice A L.length c) [.int .i64 ix, .int .i64 0, .string ByteArray.empty, .string ByteArray.empty, .string su, .string ByteArray.empty, .string ByteArray.empty, .int .i64 1, .int .i64 0, .slice none 0 0] (fun _ => False) none 0 ([] : List Attr) wx))
 case first =>
  by_cases hn : 0 < L.length
  ·
   have i2 : (0 : Int) < (L.length : Int) := by omega
   have HK5 := Lib.hid (show k + 1 + 1 ≤ 2 ^ 40 by have := HK.out; omega)
   go_wp2_with fail
   refine (Next_lit 4 xs (k + 1 + 1) B b _ HK5.out HST.out.1 (by omega) (by omega)).mono ?_
   rintro e b1 ⟨fz, hf0, hf1, rfl, ht_, hg_⟩
   have HST1 := Lib.hid (HST.out.tape HDK.out ht_ hg_); clear ht_ hg_
   have HN := Lib.hid (show FlOk (decide (0 < fz)) L.length from fun _ => hn)
   go_wp2_with fail
   go_meet
   exact ⟨decide (0 < fz), k + 1 + 1 + 1, rfl, HN, Nat.le_refl _, HST1⟩
  ·
   have i2 : ¬ (0 : Int) < (L.length : Int) := by omega
   have HN := Lib.hid (show FlOk false L.length from fun h => by cases h)
   go_wp2_with fail
   go_meet
   exact ⟨false, k + 1 + 1, rfl, HN, by omega, HST⟩
 case rest =>
 obtain ⟨fl, kx, rfl, HFL, hkx, HSTz⟩ := hcut
 have HKX := Lib.hid hkx; clear hkx HST t0
 go_upto_if 27 with fail
 go_cut [8] (fun s8 wx => ∃ (bs : ByteArray) (pr kd : Int) (kx : Nat), s8 = .string bs ∧ Hid (bs.size ≤ 33) ∧ (0 ≤ pr ∧ pr ≤ 1073741824) ∧ (kd = 1 ∨ kd = 2) ∧ kx ≤ k + 5 ∧ Hid (StD w B b xs (kx) w.heap.size w1.heap.size a4.heap.size (.slice A L.length c) [.int .i64 ix, .int .i64 pr, .string ByteArray.empty, .string ByteArray.empty, .string su, .string ByteArray.empty, .string ByteArray.empty, .int .i64 kd, .int .i64 0, .slice none 0 0] (fun _ => False) none 0 ([] : List Attr) wx))
 case first =>
  cases fl with
  | false =>
   go_wp2_with fail
   go_meet
   exact ⟨b1, 0, 1, kx, rfl, HMb1, ⟨by omega, by omega⟩, .inl rfl, by have := HKX.out; omega, HSTz⟩
  | true =>
   have hn := HFL.out rfl
   have HKX2 := Lib.hid (show kx ≤ 2 ^ 40 by have := HK.out; have := HKX.out; omega)
   go_wp2_with fail
   have HSTd := Lib.hid HSTz.out.drew; have HL1 := Lib.hid (show (L.length : Int) ≤ 1000000 by have := HLL.out; omega); have HL2 := Lib.hid (show (1 : Int) ≤ (L.length : Int) by omega)
   refine wp_region_held_drew (S := fun w' => BoxL w' w.heap.size [.slice A L.length c]) (by kernel_rfl) HSTd.out.2.2.1 (fun hS0 => ?_)
   obtain ⟨wd, hwd⟩ : ∃ z, World.drew wc = z := ⟨_, rfl⟩
   rw [hwd] at hS0 HSTd ⊢
   clear hwd hS0
   have HS0 := Lib.hid HSTd.out.2.2.1
   refine wpAnyH_take (i := 0) (oi := ⟨some 28, _, _, _, _, _⟩) (v := .pointer (some ⟨w.heap.size, 0, none⟩)) rfl (by kernel_rfl) (by kernel_rfl) (by kernel_rfl) (fun _ _ _ h => h) (Or.inl ⟨by rfl, fun w' hS => by go_simp⟩) HS0.out ?_
   try simp only [Act.put, List.setIfInBounds_toArray, List.set_cons_zero, List.set_cons_succ]
   refine wpAnyH_take (i := 1) (oi := ⟨some 29, _, _, _, _, _⟩) (v := .slice A L.length c) rfl (by kernel_rfl) (by kernel_rfl) (by kernel_rfl) (fun _ _ _ h => h) (Or.inl ⟨by rfl, fun w' hS => by (have u := hS.1 0 _ rfl; go_simp)⟩) HS0.out ?_
   try simp only [Act.put, List.setIfInBounds_toArray, List.set_cons_zero, List.set_cons_succ]
   refine wpAnyH_take (i := 2) (oi := ⟨some 30, _, _, _, _, _⟩) (v := .pointer (some ⟨b, 0, none⟩)) rfl (by kernel_rfl) (by kernel_rfl) (by kernel_rfl) (fun _ _ _ h => h) (Or.inl ⟨by rfl, fun w' hS => by go_simp⟩) HS0.out ?_
   try simp only [Act.put, List.setIfInBounds_toArray, List.set_cons_zero, List.set_cons_succ]
   refine wpAnyH_take (i := 3) (oi := ⟨some 31, _, _, _, _, _⟩) (v := .pointer (some ⟨w.heap.size, 0, none⟩)) rfl (by kernel_rfl) (by kernel_rfl) (by kernel_rfl) (fun _ _ _ h => h) (Or.inl ⟨by rfl, fun w' hS => by go_simp⟩) HS0.out ?_
   try simp only [Act.put, List.setIfInBounds_toArray, List.set_cons_zero, List.set_cons_succ]
   refine wpAnyH_take (i := 4) (oi := ⟨some 32, _, _, _, _, _⟩) (v := .slice A L.length c) rfl (by kernel_rfl) (by kernel_rfl) (by kernel_rfl) (fun _ _ _ h => h) (Or.inl ⟨by rfl, fun w' hS => by (have u := hS.1 0 _ rfl; go_simp)⟩) HS0.out ?_
   try simp only [Act.put, List.setIfInBounds_toArray, List.set_cons_zero, List.set_cons_succ]
   refine wpAnyH_take (i := 5) (oi := ⟨some 33, _, _, _, _, _⟩) (v := .int .i64 L.length) rfl (by kernel_rfl) (by kernel_rfl) (by kernel_rfl) (fun _ _ _ h => h) (Or.inl ⟨by rfl, fun w' hS => by go_simp⟩) HS0.out ?_
   try simp only [Act.put, List.setIfInBounds_toArray, List.set_cons_zero, List.set_cons_succ]
   refine wpAnyH_ready (rs := [6, 9]) (by kernel_rfl) (by simp) ?_
   refine AllReadyH.cons (o := ⟨some 34, .call ⟨_, _, _⟩, _, _, _, _⟩) rfl (fun K hK => ?_) (AllReadyH.cons (o := ⟨some 9, .alloc _, _, _, _, _⟩) rfl (fun K hK => ?_) (AllReadyH.nil))
   ·
    go_simp
    go_at_call 23
    refine (Next_lit (L.length : Int) xs kx B b _ HKX2.out HSTd.out.1 HL2.out HL1.out).mono ?_
    rintro e' m1 ⟨m, hm0, hm1, rfl, ht_, hg_⟩
    have HSTm1 := Lib.hid (HSTd.out.tape HDK.out ht_ hg_)
    clear ht_ hg_
    obtain ⟨m, rfl⟩ := Int.eq_ofNat_of_zero_le hm0
    have hml : m < L.length := by omega
    have i3 : (m : Int) < (L.length : Int) := by omega
    obtain ⟨b9, o9, rfl, hb9, A9, c9, -, -, hdc⟩ := (HTR.out.tape HSTm1.out.2.1).out.dev hml
    obtain ⟨y, hy⟩ : ∃ y, L[m]'hml = y := ⟨_, rfl⟩
    have hyb := HL.out _ (List.getElem_mem hml)
    rw [hy] at hyb hdc
    have HYB := Lib.hid hyb; have HYCm1 := Lib.hid hdc; have HB9m1 := Lib.hid hb9; clear hdc hy hyb hm1 hm0 hml hb9
    refine hK.out _ _ HSTm1.out.2.2.1 (fun _ => ?_)
    clear hK K
    try simp only [Act.put, List.setIfInBounds_toArray, List.set_cons_zero, List.set_cons_succ]
    refine wpAnyH_take (i := 7) (oi := ⟨some 35, _, _, _, _, _⟩) (v := .pointer (some ⟨b9, o9 + m * 10, none⟩)) rfl (by kernel_rfl) (by kernel_rfl) (by kernel_rfl) (fun _ _ _ h => h) (Or.inl ⟨by rfl, fun w' hS => by go_simp⟩) HSTm1.out.2.2.1 ?_
    try simp only [Act.put, List.setIfInBounds_toArray, List.set_cons_zero, List.set_cons_succ]
    refine wpAnyH_ready (rs := [8, 9]) (by kernel_rfl) (by simp) ?_
    refine AllReadyH.cons (o := ⟨some 36, .load _ _, _, _, _, _⟩) rfl (fun K hK => ?_) (AllReadyH.cons (o := ⟨some 9, .alloc _, _, _, _, _⟩) rfl (fun K hK => ?_) (AllReadyH.nil))
    ·
     obtain ⟨v0, v1, v2, v3, v4, v5, v6, v7, v8, v9⟩ := HYCm1.out
     go_simp
     refine hK.out _ _ HSTm1.out.2.2.1 (fun _ => ?_)
     clear hK K
     try simp only [Act.put, List.setIfInBounds_toArray, List.set_cons_zero, List.set_cons_succ]
     clear v0 v1 v2 v3 v4 v5 v6 v7 v8 v9
     refine wpAnyH_ready (rs := [9]) (by kernel_rfl) (by simp) ?_
     refine AllReadyH.cons (o := ⟨some 9, .alloc _, _, _, _, _⟩) rfl (fun K hK => ?_) (AllReadyH.nil)
     go_simp
     obtain ⟨m2, hm2⟩ : ∃ z, m1.alloc (.cells #[.int .i64 0, .int .i64 0, .string ByteArray.empty, .string ByteArray.empty, .string ByteArray.empty, .string ByteArray.empty, .string ByteArray.empty, .int .i64 0, .int .i64 0, .slice none 0 0] 43) = z := ⟨_, rfl⟩
     have hb_ : Below m1.heap.size m1 m2 := by rw [← hm2]; exact (Below.refl _ _).alloc (Nat.le_refl _) _
     have HPm2 := Lib.hid (show BoxL m2 m1.heap.size zero10 from box_mk hm2)
     try rw [hm2]
     clear hm2
     have HSTm2 := Lib.hid (HSTm1.out.below hb_)
     have HG9 := Lib.hid (show b < m1.heap.size ∧ a4.heap.size < m1.heap.size ∧ w1.heap.size < m1.heap.size ∧ B ≤ m1.heap.size ∧ w.heap.size < m1.heap.size from by have h1 := HSTm1.out.2.2.2.2.1.2.2; have h2 := HDK.out.i3; have h3 := HDK.out.i4; have h4 := HDK.out.i5; have h5 := HDK.out.lt; have h6 := HDK.out.le; omega)
     have HYCm2 := Lib.hid (HYCm1.out.keep hb_ HB9m1.out)
     have HB9m2 := Lib.hid (Nat.lt_of_lt_of_le HB9m1.out hb_.size)
     clear hb_
     refine hK.out _ _ HSTm2.out.2.2.1 (fun _ => ?_)
     clear hK K
     try simp only [Act.put, List.setIfInBounds_toArray, List.set_cons_zero, List.set_cons_succ]
     refine wpAnyH_ready (rs := [10]) (by kernel_rfl) (by simp) ?_
     refine AllReadyH.cons (o := ⟨none, .store _ _ _, _, _, _, _⟩) rfl (fun K hK => ?_) (AllReadyH.nil)
     have z_ := HPm2.out
     have z0 := z_.1 0 _ rfl
     have z1 := z_.1 1 _ rfl
     have z2 := z_.1 2 _ rfl
     have z3 := z_.1 3 _ rfl
     have z4 := z_.1 4 _ rfl
     have z5 := z_.1 5 _ rfl
     have z6 := z_.1 6 _ rfl
     have z7 := z_.1 7 _ rfl
     have z8 := z_.1 8 _ rfl
     have z9 := z_.1 9 _ rfl
     have zf := z_.2.1
     clear z_
     go_simp
     obtain ⟨wq, hwq⟩ : ∃ z, ((((((((((m2.setCell ⟨m1.heap.size, 0, none⟩ (.int .i64 y.idx)).setCell ⟨m1.heap.size, 1, none⟩ (.int .i64 y.par)).setCell ⟨m1.heap.size, 2, none⟩ (.string y.nm)).setCell ⟨m1.heap.size, 3, none⟩ (.string y.orig)).setCell ⟨m1.heap.size, 4, none⟩ (.string y.sub)).setCell ⟨m1.heap.size, 5, none⟩ (.string y.drv)).setCell ⟨m1.heap.size, 6, none⟩ (.string y.ali)).setCell ⟨m1.heap.size, 7, none⟩ (.int .i64 y.kind)).setCell ⟨m1.heap.size, 8, none⟩ (.int .i64 y.num)).setCell ⟨m1.heap.size, 9, none⟩ (.slice A9 y.attrs.length c9)) = z := ⟨_, rfl⟩
     have HSTq := Lib.hid (show StD w B b xs (kx + 1) w.heap.size w1.heap.size a4.heap.size (.slice (some ⟨b9, o9, none⟩) L.length c) [.int .i64 ix, .int .i64 0, .string ByteArray.empty, .string ByteArray.empty, .string su, .string ByteArray.empty, .string ByteArray.empty, .int .i64 1, .int .i64 0, .slice none 0 0] (fun _ => False) none 0 ([] : List Attr) wq from hwq ▸ set10_ind (fun w' => StD w B b xs (kx + 1) w.heap.size w1.heap.size a4.heap.size (.slice (some ⟨b9, o9, none⟩) L.length c) [.int .i64 ix, .int .i64 0, .string ByteArray.empty, .string ByteArray.empty, .string su, .string ByteArray.empty, .string ByteArray.empty, .int .i64 1, .int .i64 0, .slice none 0 0] (fun _ => False) none 0 ([] : List Attr) w') (fun w' j v h => StD.farset h (by have := HDK.out; have := HG9.out; omega) (by have := HG9.out; omega) (by have := HG9.out; omega) (by have := HG9.out; omega) (by have := HG9.out; omega) (by have := HG9.out; omega) (fun x hx => hx.elim) v) HSTm2.out (.int .i64 y.idx) (.int .i64 y.par) (.string y.nm) (.string y.orig) (.string y.sub) (.string y.drv) (.string y.ali) (.int .i64 y.kind) (.int .i64 y.num) (.slice A9 y.attrs.length c9))
     have HPq := Lib.hid (show BoxL wq m1.heap.size [.int .i64 y.idx, .int .i64 y.par, .string y.nm, .string y.orig, .string y.sub, .string y.drv, .string y.ali, .int .i64 y.kind, .int .i64 y.num, .slice A9 y.attrs.length c9] from hwq ▸ BoxL.set10 HPm2.out (.int .i64 y.idx) (.int .i64 y.par) (.string y.nm) (.string y.orig) (.string y.sub) (.string y.drv) (.string y.ali) (.int .i64 y.kind) (.int .i64 y.num) (.slice A9 y.attrs.length c9))
     rw [hwq]
     clear hwq z0 z1 z2 z3 z4 z5 z6 z7 z8 z9 zf
     refine hK.out _ _ HSTq.out.2.2.1 (fun _ => ?_)
     clear hK K
     try simp only [Act.put, List.setIfInBounds_toArray, List.set_cons_zero, List.set_cons_succ]
     refine wpAnyH_done (by kernel_rfl) ?_ _
     have x1 := HSTq.out.2.2.2.2.1.1 1 _ rfl
     have xf := HSTq.out.2.2.2.2.1.2.1
     have p0 := HPq.out.1 0 _ rfl
     go_upto_region 6 with fail
     obtain ⟨n1, hn1⟩ : ∃ z, wq.setCell ⟨a4.heap.size, 1, none⟩ (.int .i64 y.idx) = z := ⟨_, rfl⟩
     have HSTn1 := Lib.hid (show StD w B b xs (kx + 1) w.heap.size w1.heap.size a4.heap.size (.slice (some ⟨b9, o9, none⟩) L.length c) [.int .i64 ix, .int .i64 y.idx, .string ByteArray.empty, .string ByteArray.empty, .string su, .string ByteArray.empty, .string ByteArray.empty, .int .i64 1, .int .i64 0, .slice none 0 0] (fun _ => False) none 0 ([] : List Attr) n1 from hn1 ▸ HSTq.out.set_ HDK.out (j := 1) (by simp) (.int .i64 y.idx))
     have HPn1 := Lib.hid (show BoxL n1 m1.heap.size [.int .i64 y.idx, .int .i64 y.par, .string y.nm, .string y.orig, .string y.sub, .string y.drv, .string y.ali, .int .i64 y.kind, .int .i64 y.num, .slice A9 y.attrs.length c9] from hn1 ▸ HPq.out.far (by have := HG9.out; omega) _)
     try simp only [hn1]
     clear hn1 x1 xf p0
     have p7 := HPn1.out.1 7 _ rfl
     have p3 := HPn1.out.1 3 _ rfl
     have x7 := HSTn1.out.2.2.2.2.1.1 7 _ rfl
     have xf := HSTn1.out.2.2.2.2.1.2.1
     have HYO := Lib.hid (show ¬ 9223372036854775807 < y.orig.size + 1 by have := HYB.out.2; omega)
     by_cases hk2 : y.kind = 2
     ·
      have e2 : (y.kind == 2) = true := beq_iff_eq.2 hk2
      go_wp2_with fail
      refine (Next_lit 4 xs (kx + 1) B b _ (by have := HK.out; have := HKX.out; omega) HSTn1.out.1 (by omega) (by omega)).mono ?_
      rintro e n2 ⟨fz, hf0, hf1, rfl, ht_, hg_⟩
      have HSTn2 := Lib.hid (HSTn1.out.tape HDK.out ht_ hg_); have HPn2 := Lib.hid (HPn1.out.kept hg_ (fun e => by have := Option.some.inj e; have := HG9.out; omega)); clear ht_ hg_ p7 p3 x7 xf
      have p7 := HPn2.out.1 7 _ rfl
      have p3 := HPn2.out.1 3 _ rfl
      have x7 := HSTn2.out.2.2.2.2.1.1 7 _ rfl
      have xf := HSTn2.out.2.2.2.2.1.2.1
      by_cases hfz : 0 < fz
      ·
       have hadd := HYO.out
       go_upto_region 8 with fail
       have HSTf := Lib.hid (show StD w B b xs (kx + 1 + 1) w.heap.size w1.heap.size a4.heap.size (.slice (some ⟨b9, o9, none⟩) L.length c) [.int .i64 ix, .int .i64 y.idx, .string ByteArray.empty, .string ByteArray.empty, .string su, .string ByteArray.empty, .string ByteArray.empty, .int .i64 2, .int .i64 0, .slice none 0 0] (fun _ => False) none 0 ([] : List Attr) _ from HSTn2.out.set_ HDK.out (j := 7) (by simp) (.int .i64 2))
       have HBO := Lib.hid (show (y.orig ++ ⟨#[112]⟩).size ≤ 33 by have := HYB.out.2; rw [ByteArray.size_append]; show _ + 1 ≤ 33; omega)
       go_wp2_with fail
       go_meet
       exact ⟨_, y.idx, 2, kx + 1 + 1, rfl, HBO, HYB.out.1, .inr rfl, by have := HKX.out; omega, HSTf⟩
      ·
       go_wp2_with fail
       go_meet
       exact ⟨b1, y.idx, 1, kx + 1 + 1, rfl, HMb1, HYB.out.1, .inl rfl, by have := HKX.out; omega, HSTn2⟩
     ·
      have e2 : (y.kind == 2) = false := beq_eq_false_iff_ne.2 hk2
      go_wp2_with fail
      go_meet
      exact ⟨b1, y.idx, 1, kx + 1, rfl, HMb1, HYB.out.1, .inl rfl, by have := HKX.out; omega, HSTn1⟩
    ·
     go_simp
     obtain ⟨m2, hm2⟩ : ∃ z, m1.alloc (.cells #[.int .i64 0, .int .i64 0, .string ByteArray.empty, .string ByteArray.empty, .string ByteArray.empty, .string ByteArray.empty, .string ByteArray.empty, .int .i64 0, .int .i64 0, .slice none 0 0] 43) = z := ⟨_, rfl⟩
     have hb_ : Below m1.heap.size m1 m2 := by rw [← hm2]; exact (Below.refl _ _).alloc (Nat.le_refl _) _
     have HPm2 := Lib.hid (show BoxL m2 m1.heap.size zero10 from box_mk hm2)
     try rw [hm2]
     clear hm2
     have HSTm2 := Lib.hid (HSTm1.out.below hb_)
     have HG9 := Lib.hid (show b < m1.heap.size ∧ a4.heap.size < m1.heap.size ∧ w1.heap.size < m1.heap.size ∧ B ≤ m1.heap.size ∧ w.heap.size < m1.heap.size from by have h1 := HSTm1.out.2.2.2.2.1.2.2; have h2 := HDK.out.i3; have h3 := HDK.out.i4; have h4 := HDK.out.i5; have h5 := HDK.out.lt; have h6 := HDK.out.le; omega)
     have HYCm2 := Lib.hid (HYCm1.out.keep hb_ HB9m1.out)
     have HB9m2 := Lib.hid (Nat.lt_of_lt_of_le HB9m1.out hb_.size)
     clear hb_
     refine hK.out _ _ HSTm2.out.2.2.1 (fun _ => ?_)
     clear hK K
     try simp only [Act.put, List.setIfInBounds_toArray, List.set_cons_zero, List.set_cons_succ]
     refine wpAnyH_ready (rs := [8]) (by kernel_rfl) (by simp) ?_
     refine AllReadyH.cons (o := ⟨some 36, .load _ _, _, _, _, _⟩) rfl (fun K hK => ?_) (AllReadyH.nil)
     obtain ⟨v0, v1, v2, v3, v4, v5, v6, v7, v8, v9⟩ := HYCm2.out
     go_simp
     refine hK.out _ _ HSTm2.out.2.2.1 (fun _ => ?_)
     clear hK K
     try simp only [Act.put, List.setIfInBounds_toArray, List.set_cons_zero, List.set_cons_succ]
     clear v0 v1 v2 v3 v4 v5 v6 v7 v8 v9
     refine wpAnyH_ready (rs := [10]) (by kernel_rfl) (by simp) ?_
     refine AllReadyH.cons (o := ⟨none, .store _ _ _, _, _, _, _⟩) rfl (fun K hK => ?_) (AllReadyH.nil)
     have z_ := HPm2.out
     have z0 := z_.1 0 _ rfl
     have z1 := z_.1 1 _ rfl
     have z2 := z_.1 2 _ rfl
     have z3 := z_.1 3 _ rfl
     have z4 := z_.1 4 _ rfl
     have z5 := z_.1 5 _ rfl
     have z6 := z_.1 6 _ rfl
     have z7 := z_.1 7 _ rfl
     have z8 := z_.1 8 _ rfl
     have z9 := z_.1 9 _ rfl
     have zf := z_.2.1
     clear z_
     go_simp
     obtain ⟨wq, hwq⟩ : ∃ z, ((((((((((m2.setCell ⟨m1.heap.size, 0, none⟩ (.int .i64 y.idx)).setCell ⟨m1.heap.size, 1, none⟩ (.int .i64 y.par)).setCell ⟨m1.heap.size, 2, none⟩ (.string y.nm)).setCell ⟨m1.heap.size, 3, none⟩ (.string y.orig)).setCell ⟨m1.heap.size, 4, none⟩ (.string y.sub)).setCell ⟨m1.heap.size, 5, none⟩ (.string y.drv)).setCell ⟨m1.heap.size, 6, none⟩ (.string y.ali)).setCell ⟨m1.heap.size, 7, none⟩ (.int .i64 y.kind)).setCell ⟨m1.heap.size, 8, none⟩ (.int .i64 y.num)).setCell ⟨m1.heap.size, 9, none⟩ (.slice A9 y.attrs.length c9)) = z := ⟨_, rfl⟩
     have HSTq := Lib.hid (show StD w B b xs (kx + 1) w.heap.size w1.heap.size a4.heap.size (.slice (some ⟨b9, o9, none⟩) L.length c) [.int .i64 ix, .int .i64 0, .string ByteArray.empty, .string ByteArray.empty, .string su, .string ByteArray.empty, .string ByteArray.empty, .int .i64 1, .int .i64 0, .slice none 0 0] (fun _ => False) none 0 ([] : List Attr) wq from hwq ▸ set10_ind (fun w' => StD w B b xs (kx + 1) w.heap.size w1.heap.size a4.heap.size (.slice (some ⟨b9, o9, none⟩) L.length c) [.int .i64 ix, .int .i64 0, .string ByteArray.empty, .string ByteArray.empty, .string su, .string ByteArray.empty, .string ByteArray.empty, .int .i64 1, .int .i64 0, .slice none 0 0] (fun _ => False) none 0 ([] : List Attr) w') (fun w' j v h => StD.farset h (by have := HDK.out; have := HG9.out; omega) (by have := HG9.out; omega) (by have := HG9.out; omega) (by have := HG9.out; omega) (by have := HG9.out; omega) (by have := HG9.out; omega) (fun x hx => hx.elim) v) HSTm2.out (.int .i64 y.idx) (.int .i64 y.par) (.string y.nm) (.string y.orig) (.string y.sub) (.string y.drv) (.string y.ali) (.int .i64 y.kind) (.int .i64 y.num) (.slice A9 y.attrs.length c9))
     have HPq := Lib.hid (show BoxL wq m1.heap.size [.int .i64 y.idx, .int .i64 y.par, .string y.nm, .string y.orig, .string y.sub, .string y.drv, .string y.ali, .int .i64 y.kind, .int .i64 y.num, .slice A9 y.attrs.length c9] from hwq ▸ BoxL.set10 HPm2.out (.int .i64 y.idx) (.int .i64 y.par) (.string y.nm) (.string y.orig) (.string y.sub) (.string y.drv) (.string y.ali) (.int .i64 y.kind) (.int .i64 y.num) (.slice A9 y.attrs.length c9))
     rw [hwq]
     clear hwq z0 z1 z2 z3 z4 z5 z6 z7 z8 z9 zf
     refine hK.out _ _ HSTq.out.2.2.1 (fun _ => ?_)
     clear hK K
     try simp only [Act.put, List.setIfInBounds_toArray, List.set_cons_zero, List.set_cons_succ]
     refine wpAnyH_done (by kernel_rfl) ?_ _
     have x1 := HSTq.out.2.2.2.2.1.1 1 _ rfl
     have xf := HSTq.out.2.2.2.2.1.2.1
     have p0 := HPq.out.1 0 _ rfl
     go_upto_region 6 with fail
     obtain ⟨n1, hn1⟩ : ∃ z, wq.setCell ⟨a4.heap.size, 1, none⟩ (.int .i64 y.idx) = z := ⟨_, rfl⟩
     have HSTn1 := Lib.hid (show StD w B b xs (kx + 1) w.heap.size w1.heap.size a4.heap.size (.slice (some ⟨b9, o9, none⟩) L.length c) [.int .i64 ix, .int .i64 y.idx, .string ByteArray.empty, .string ByteArray.empty, .string su, .string ByteArray.empty, .string ByteArray.empty, .int .i64 1, .int .i64 0, .slice none 0 0] (fun _ => False) none 0 ([] : List Attr) n1 from hn1 ▸ HSTq.out.set_ HDK.out (j := 1) (by simp) (.int .i64 y.idx))
     have HPn1 := Lib.hid (show BoxL n1 m1.heap.size [.int .i64 y.idx, .int .i64 y.par, .string y.nm, .string y.orig, .string y.sub, .string y.drv, .string y.ali, .int .i64 y.kind, .int .i64 y.num, .slice A9 y.attrs.length c9] from hn1 ▸ HPq.out.far (by have := HG9.out; omega) _)
     try simp only [hn1]
     clear hn1 x1 xf p0
     have p7 := HPn1.out.1 7 _ rfl
     have p3 := HPn1.out.1 3 _ rfl
     have x7 := HSTn1.out.2.2.2.2.1.1 7 _ rfl
     have xf := HSTn1.out.2.2.2.2.1.2.1
     have HYO := Lib.hid (show ¬ 9223372036854775807 < y.orig.size + 1 by have := HYB.out.2; omega)
     by_cases hk2 : y.kind = 2
     ·
      have e2 : (y.kind == 2) = true := beq_iff_eq.2 hk2
      go_wp2_with fail
      refine (Next_lit 4 xs (kx + 1) B b _ (by have := HK.out; have := HKX.out; omega) HSTn1.out.1 (by omega) (by omega)).mono ?_
      rintro e n2 ⟨fz, hf0, hf1, rfl, ht_, hg_⟩
      have HSTn2 := Lib.hid (HSTn1.out.tape HDK.out ht_ hg_); have HPn2 := Lib.hid (HPn1.out.kept hg_ (fun e => by have := Option.some.inj e; have := HG9.out; omega)); clear ht_ hg_ p7 p3 x7 xf
      have p7 := HPn2.out.1 7 _ rfl
      have p3 := HPn2.out.1 3 _ rfl
      have x7 := HSTn2.out.2.2.2.2.1.1 7 _ rfl
      have xf := HSTn2.out.2.2.2.2.1.2.1
      by_cases hfz : 0 < fz
      ·
       have hadd := HYO.out
       go_upto_region 8 with fail
       have HSTf := Lib.hid (show StD w B b xs (kx + 1 + 1) w.heap.size w1.heap.size a4.heap.size (.slice (some ⟨b9, o9, none⟩) L.length c) [.int .i64 ix, .int .i64 y.idx, .string ByteArray.empty, .string ByteArray.empty, .string su, .string ByteArray.empty, .string ByteArray.empty, .int .i64 2, .int .i64 0, .slice none 0 0] (fun _ => False) none 0 ([] : List Attr) _ from HSTn2.out.set_ HDK.out (j := 7) (by simp) (.int .i64 2))
       have HBO := Lib.hid (show (y.orig ++ ⟨#[112]⟩).size ≤ 33 by have := HYB.out.2; rw [ByteArray.size_append]; show _ + 1 ≤ 33; omega)
       go_wp2_with fail
       go_meet
       exact ⟨_, y.idx, 2, kx + 1 + 1, rfl, HBO, HYB.out.1, .inr rfl, by have := HKX.out; omega, HSTf⟩
      ·
       go_wp2_with fail
       go_meet
       exact ⟨b1, y.idx, 1, kx + 1 + 1, rfl, HMb1, HYB.out.1, .inl rfl, by have := HKX.out; omega, HSTn2⟩
     ·
      have e2 : (y.kind == 2) = false := beq_eq_false_iff_ne.2 hk2
      go_wp2_with fail
      go_meet
      exact ⟨b1, y.idx, 1, kx + 1, rfl, HMb1, HYB.out.1, .inl rfl, by have := HKX.out; omega, HSTn1⟩
   ·
    go_simp
    obtain ⟨m1, hm1⟩ : ∃ z, wd.alloc (.cells #[.int .i64 0, .int .i64 0, .string ByteArray.empty, .string ByteArray.empty, .string ByteArray.empty, .string ByteArray.empty, .string ByteArray.empty, .int .i64 0, .int .i64 0, .slice none 0 0] 43) = z := ⟨_, rfl⟩
    have hb_ : Below wd.heap.size wd m1 := by rw [← hm1]; exact (Below.refl _ _).alloc (Nat.le_refl _) _
    have HPm1 := Lib.hid (show BoxL m1 wd.heap.size zero10 from box_mk hm1)
    try rw [hm1]
    clear hm1
    have HSTm1 := Lib.hid (HSTd.out.below hb_)
    have HG9 := Lib.hid (show b < wd.heap.size ∧ a4.heap.size < wd.heap.size ∧ w1.heap.size < wd.heap.size ∧ B ≤ wd.heap.size ∧ w.heap.size < wd.heap.size from by have h1 := HSTd.out.2.2.2.2.1.2.2; have h2 := HDK.out.i3; have h3 := HDK.out.i4; have h4 := HDK.out.i5; have h5 := HDK.out.lt; have h6 := HDK.out.le; omega)
    clear hb_
    refine hK.out _ _ HSTm1.out.2.2.1 (fun _ => ?_)
    clear hK K
    try simp only [Act.put, List.setIfInBounds_toArray, List.set_cons_zero, List.set_cons_succ]
    refine wpAnyH_ready (rs := [6]) (by kernel_rfl) (by simp) ?_
    refine AllReadyH.cons (o := ⟨some 34, .call ⟨_, _, _⟩, _, _, _, _⟩) rfl (fun K hK => ?_) (AllReadyH.nil)
    go_simp
    go_at_call 23
    refine (Next_lit (L.length : Int) xs kx B b _ HKX2.out HSTm1.out.1 HL2.out HL1.out).mono ?_
    rintro e' m2 ⟨m, hm0, hm1, rfl, ht_, hg_⟩
    have HSTm2 := Lib.hid (HSTm1.out.tape HDK.out ht_ hg_)
    have HPm2 := Lib.hid (HPm1.out.kept hg_ (fun e => by have := Option.some.inj e; have := HG9.out; omega))
    clear ht_ hg_
    obtain ⟨m, rfl⟩ := Int.eq_ofNat_of_zero_le hm0
    have hml : m < L.length := by omega
    have i3 : (m : Int) < (L.length : Int) := by omega
    obtain ⟨b9, o9, rfl, hb9, A9, c9, -, -, hdc⟩ := (HTR.out.tape HSTm2.out.2.1).out.dev hml
    obtain ⟨y, hy⟩ : ∃ y, L[m]'hml = y := ⟨_, rfl⟩
    have hyb := HL.out _ (List.getElem_mem hml)
    rw [hy] at hyb hdc
    have HYB := Lib.hid hyb; have HYCm2 := Lib.hid hdc; have HB9m2 := Lib.hid hb9; clear hdc hy hyb hm1 hm0 hml hb9
    refine hK.out _ _ HSTm2.out.2.2.1 (fun _ => ?_)
    clear hK K
    try simp only [Act.put, List.setIfInBounds_toArray, List.set_cons_zero, List.set_cons_succ]
    refine wpAnyH_take (i := 7) (oi := ⟨some 35, _, _, _, _, _⟩) (v := .pointer (some ⟨b9, o9 + m * 10, none⟩)) rfl (by kernel_rfl) (by kernel_rfl) (by kernel_rfl) (fun _ _ _ h => h) (Or.inl ⟨by rfl, fun w' hS => by go_simp⟩) HSTm2.out.2.2.1 ?_
    try simp only [Act.put, List.setIfInBounds_toArray, List.set_cons_zero, List.set_cons_succ]
    refine wpAnyH_ready (rs := [8]) (by kernel_rfl) (by simp) ?_
    refine AllReadyH.cons (o := ⟨some 36, .load _ _, _, _, _, _⟩) rfl (fun K hK => ?_) (AllReadyH.nil)
    obtain ⟨v0, v1, v2, v3, v4, v5, v6, v7, v8, v9⟩ := HYCm2.out
    go_simp
    refine hK.out _ _ HSTm2.out.2.2.1 (fun _ => ?_)
    clear hK K
    try simp only [Act.put, List.setIfInBounds_toArray, List.set_cons_zero, List.set_cons_succ]
    clear v0 v1 v2 v3 v4 v5 v6 v7 v8 v9
    refine wpAnyH_ready (rs := [10]) (by kernel_rfl) (by simp) ?_
    refine AllReadyH.cons (o := ⟨none, .store _ _ _, _, _, _, _⟩) rfl (fun K hK => ?_) (AllReadyH.nil)
    have z_ := HPm2.out
    have z0 := z_.1 0 _ rfl
    have z1 := z_.1 1 _ rfl
    have z2 := z_.1 2 _ rfl
    have z3 := z_.1 3 _ rfl
    have z4 := z_.1 4 _ rfl
    have z5 := z_.1 5 _ rfl
    have z6 := z_.1 6 _ rfl
    have z7 := z_.1 7 _ rfl
    have z8 := z_.1 8 _ rfl
    have z9 := z_.1 9 _ rfl
    have zf := z_.2.1
    clear z_
    go_simp
    obtain ⟨wq, hwq⟩ : ∃ z, ((((((((((m2.setCell ⟨wd.heap.size, 0, none⟩ (.int .i64 y.idx)).setCell ⟨wd.heap.size, 1, none⟩ (.int .i64 y.par)).setCell ⟨wd.heap.size, 2, none⟩ (.string y.nm)).setCell ⟨wd.heap.size, 3, none⟩ (.string y.orig)).setCell ⟨wd.heap.size, 4, none⟩ (.string y.sub)).setCell ⟨wd.heap.size, 5, none⟩ (.string y.drv)).setCell ⟨wd.heap.size, 6, none⟩ (.string y.ali)).setCell ⟨wd.heap.size, 7, none⟩ (.int .i64 y.kind)).setCell ⟨wd.heap.size, 8, none⟩ (.int .i64 y.num)).setCell ⟨wd.heap.size, 9, none⟩ (.slice A9 y.attrs.length c9)) = z := ⟨_, rfl⟩
    have HSTq := Lib.hid (show StD w B b xs (kx + 1) w.heap.size w1.heap.size a4.heap.size (.slice (some ⟨b9, o9, none⟩) L.length c) [.int .i64 ix, .int .i64 0, .string ByteArray.empty, .string ByteArray.empty, .string su, .string ByteArray.empty, .string ByteArray.empty, .int .i64 1, .int .i64 0, .slice none 0 0] (fun _ => False) none 0 ([] : List Attr) wq from hwq ▸ set10_ind (fun w' => StD w B b xs (kx + 1) w.heap.size w1.heap.size a4.heap.size (.slice (some ⟨b9, o9, none⟩) L.length c) [.int .i64 ix, .int .i64 0, .string ByteArray.empty, .string ByteArray.empty, .string su, .string ByteArray.empty, .string ByteArray.empty, .int .i64 1, .int .i64 0, .slice none 0 0] (fun _ => False) none 0 ([] : List Attr) w') (fun w' j v h => StD.farset h (by have := HDK.out; have := HG9.out; omega) (by have := HG9.out; omega) (by have := HG9.out; omega) (by have := HG9.out; omega) (by have := HG9.out; omega) (by have := HG9.out; omega) (fun x hx => hx.elim) v) HSTm2.out (.int .i64 y.idx) (.int .i64 y.par) (.string y.nm) (.string y.orig) (.string y.sub) (.string y.drv) (.string y.ali) (.int .i64 y.kind) (.int .i64 y.num) (.slice A9 y.attrs.length c9))
    have HPq := Lib.hid (show BoxL wq wd.heap.size [.int .i64 y.idx, .int .i64 y.par, .string y.nm, .string y.orig, .string y.sub, .string y.drv, .string y.ali, .int .i64 y.kind, .int .i64 y.num, .slice A9 y.attrs.length c9] from hwq ▸ BoxL.set10 HPm2.out (.int .i64 y.idx) (.int .i64 y.par) (.string y.nm) (.string y.orig) (.string y.sub) (.string y.drv) (.string y.ali) (.int .i64 y.kind) (.int .i64 y.num) (.slice A9 y.attrs.length c9))
    rw [hwq]
    clear hwq z0 z1 z2 z3 z4 z5 z6 z7 z8 z9 zf
    refine hK.out _ _ HSTq.out.2.2.1 (fun _ => ?_)
    clear hK K
    try simp only [Act.put, List.setIfInBounds_toArray, List.set_cons_zero, List.set_cons_succ]
    refine wpAnyH_done (by kernel_rfl) ?_ _
    have x1 := HSTq.out.2.2.2.2.1.1 1 _ rfl
    have xf := HSTq.out.2.2.2.2.1.2.1
    have p0 := HPq.out.1 0 _ rfl
    go_upto_region 6 with fail
    obtain ⟨n1, hn1⟩ : ∃ z, wq.setCell ⟨a4.heap.size, 1, none⟩ (.int .i64 y.idx) = z := ⟨_, rfl⟩
    have HSTn1 := Lib.hid (show StD w B b xs (kx + 1) w.heap.size w1.heap.size a4.heap.size (.slice (some ⟨b9, o9, none⟩) L.length c) [.int .i64 ix, .int .i64 y.idx, .string ByteArray.empty, .string ByteArray.empty, .string su, .string ByteArray.empty, .string ByteArray.empty, .int .i64 1, .int .i64 0, .slice none 0 0] (fun _ => False) none 0 ([] : List Attr) n1 from hn1 ▸ HSTq.out.set_ HDK.out (j := 1) (by simp) (.int .i64 y.idx))
    have HPn1 := Lib.hid (show BoxL n1 wd.heap.size [.int .i64 y.idx, .int .i64 y.par, .string y.nm, .string y.orig, .string y.sub, .string y.drv, .string y.ali, .int .i64 y.kind, .int .i64 y.num, .slice A9 y.attrs.length c9] from hn1 ▸ HPq.out.far (by have := HG9.out; omega) _)
    try simp only [hn1]
    clear hn1 x1 xf p0
    have p7 := HPn1.out.1 7 _ rfl
    have p3 := HPn1.out.1 3 _ rfl
    have x7 := HSTn1.out.2.2.2.2.1.1 7 _ rfl
    have xf := HSTn1.out.2.2.2.2.1.2.1
    have HYO := Lib.hid (show ¬ 9223372036854775807 < y.orig.size + 1 by have := HYB.out.2; omega)
    by_cases hk2 : y.kind = 2
    ·
     have e2 : (y.kind == 2) = true := beq_iff_eq.2 hk2
     go_wp2_with fail
     refine (Next_lit 4 xs (kx + 1) B b _ (by have := HK.out; have := HKX.out; omega) HSTn1.out.1 (by omega) (by omega)).mono ?_
     rintro e n2 ⟨fz, hf0, hf1, rfl, ht_, hg_⟩
     have HSTn2 := Lib.hid (HSTn1.out.tape HDK.out ht_ hg_); have HPn2 := Lib.hid (HPn1.out.kept hg_ (fun e => by have := Option.some.inj e; have := HG9.out; omega)); clear ht_ hg_ p7 p3 x7 xf
     have p7 := HPn2.out.1 7 _ rfl
     have p3 := HPn2.out.1 3 _ rfl
     have x7 := HSTn2.out.2.2.2.2.1.1 7 _ rfl
     have xf := HSTn2.out.2.2.2.2.1.2.1
     by_cases hfz : 0 < fz
     ·
      have hadd := HYO.out
      go_upto_region 8 with fail
      have HSTf := Lib.hid (show StD w B b xs (kx + 1 + 1) w.heap.size w1.heap.size a4.heap.size (.slice (some ⟨b9, o9, none⟩) L.length c) [.int .i64 ix, .int .i64 y.idx, .string ByteArray.empty, .string ByteArray.empty, .string su, .string ByteArray.empty, .string ByteArray.empty, .int .i64 2, .int .i64 0, .slice none 0 0] (fun _ => False) none 0 ([] : List Attr) _ from HSTn2.out.set_ HDK.out (j := 7) (by simp) (.int .i64 2))
      have HBO := Lib.hid (show (y.orig ++ ⟨#[112]⟩).size ≤ 33 by have := HYB.out.2; rw [ByteArray.size_append]; show _ + 1 ≤ 33; omega)
      go_wp2_with fail
      go_meet
      exact ⟨_, y.idx, 2, kx + 1 + 1, rfl, HBO, HYB.out.1, .inr rfl, by have := HKX.out; omega, HSTf⟩
     ·
      go_wp2_with fail
      go_meet
      exact ⟨b1, y.idx, 1, kx + 1 + 1, rfl, HMb1, HYB.out.1, .inl rfl, by have := HKX.out; omega, HSTn2⟩
    ·
     have e2 : (y.kind == 2) = false := beq_eq_false_iff_ne.2 hk2
     go_wp2_with fail
     go_meet
     exact ⟨b1, y.idx, 1, kx + 1, rfl, HMb1, HYB.out.1, .inl rfl, by have := HKX.out; omega, HSTn1⟩
 case rest =>
 obtain ⟨bs, pr, kd, kx, rfl, HBSZ, hpr, hkd, hkx, HSTq⟩ := hcut
 have HPR := Lib.hid hpr; have HKX := Lib.hid hkx; clear hpr hkx HSTz HFL
 have HKD := Lib.hid hkd; clear hkd
 go_step
 go_step
 go_cut [8] (fun s8 wx => ∃ (bs : ByteArray) (kd : Int) (kx : Nat), s8 = .string bs ∧ Hid (bs.size ≤ 33) ∧ (kd = 1 ∨ kd = 2 ∨ kd = 4) ∧ kx ≤ k + 7 ∧ Hid (StD w B b xs (kx) w.heap.size w1.heap.size a4.heap.size (.slice A L.length c) [.int .i64 ix, .int .i64 pr, .string ByteArray.empty, .string ByteArray.empty, .string su, .string ByteArray.empty, .string ByteArray.empty, .int .i64 kd, .int .i64 0, .slice none 0 0] (fun _ => False) none 0 ([] : List Attr) wx))
 case first =>
  go_wp2_with fail
  refine (Next_lit 5 xs kx B b _ (by have := HK.out; have := HKX.out; omega) HSTq.out.1 (by omega) (by omega)).mono ?_
  rintro e n1 ⟨f, hf0, hf1, rfl, ht_, hg_⟩
  have HSTn1 := Lib.hid (HSTq.out.tape HDK.out ht_ hg_); clear ht_ hg_
  have hkd := HKD.out
  have hfc : f = 0 ∨ f = 1 ∨ f = 2 ∨ f = 3 ∨ f = 4 := by omega
  clear hf0 hf1
  rcases hfc with rfl | rfl | rfl | rfl | rfl
  ·
   have x7 := HSTn1.out.2.2.2.2.1.1 7 _ rfl
   have xf := HSTn1.out.2.2.2.2.1.2.1
   have HSTf := Lib.hid (show StD w B b xs (kx + 1) w.heap.size w1.heap.size a4.heap.size (.slice A L.length c) [.int .i64 ix, .int .i64 pr, .string ByteArray.empty, .string ByteArray.empty, .string su, .string ByteArray.empty, .string ByteArray.empty, .int .i64 2, .int .i64 0, .slice none 0 0] (fun _ => False) none 0 ([] : List Attr) _ from HSTn1.out.set_ HDK.out (j := 7) (by simp) (.int .i64 2))
   go_wp2_with fail
   go_meet
   exact ⟨bs, 2, kx + 1, rfl, HBSZ, .inr (.inl rfl), by have := HKX.out; omega, HSTf⟩
  ·
   have x7 := HSTn1.out.2.2.2.2.1.1 7 _ rfl
   have xf := HSTn1.out.2.2.2.2.1.2.1
   have HSTf := Lib.hid (show StD w B b xs (kx + 1) w.heap.size w1.heap.size a4.heap.size (.slice A L.length c) [.int .i64 ix, .int .i64 pr, .string ByteArray.empty, .string ByteArray.empty, .string su, .string ByteArray.empty, .string ByteArray.empty, .int .i64 2, .int .i64 0, .slice none 0 0] (fun _ => False) none 0 ([] : List Attr) _ from HSTn1.out.set_ HDK.out (j := 7) (by simp) (.int .i64 2))
   go_wp2_with fail
   go_meet
   exact ⟨bs, 2, kx + 1, rfl, HBSZ, .inr (.inl rfl), by have := HKX.out; omega, HSTf⟩
  ·
   have x7 := HSTn1.out.2.2.2.2.1.1 7 _ rfl
   have xf := HSTn1.out.2.2.2.2.1.2.1
   have HSTf := Lib.hid (show StD w B b xs (kx + 1) w.heap.size w1.heap.size a4.heap.size (.slice A L.length c) [.int .i64 ix, .int .i64 pr, .string ByteArray.empty, .string ByteArray.empty, .string su, .string ByteArray.empty, .string ByteArray.empty, .int .i64 2, .int .i64 0, .slice none 0 0] (fun _ => False) none 0 ([] : List Attr) _ from HSTn1.out.set_ HDK.out (j := 7) (by simp) (.int .i64 2))
   go_wp2_with fail
   go_meet
   exact ⟨bs, 2, kx + 1, rfl, HBSZ, .inr (.inl rfl), by have := HKX.out; omega, HSTf⟩
  ·
   rcases hkd with rfl | rfl
   ·
    have x7 := HSTn1.out.2.2.2.2.1.1 7 _ rfl
    have xf := HSTn1.out.2.2.2.2.1.2.1
    go_upto_region 17 with fail
    obtain ⟨n2, hn2⟩ : ∃ z, n1.setCell ⟨a4.heap.size, 7, none⟩ (.int .i64 4) = z := ⟨_, rfl⟩
    have HSTn2 := Lib.hid (show StD w B b xs (kx + 1) w.heap.size w1.heap.size a4.heap.size (.slice A L.length c) [.int .i64 ix, .int .i64 pr, .string ByteArray.empty, .string ByteArray.empty, .string su, .string ByteArray.empty, .string ByteArray.empty, .int .i64 4, .int .i64 0, .slice none 0 0] (fun _ => False) none 0 ([] : List Attr) n2 from hn2 ▸ HSTn1.out.set_ HDK.out (j := 7) (by simp) (.int .i64 4))
    try simp only [hn2]
    clear hn2 x7 xf
    go_wp2_with fail
    refine (One_lit [⟨#[101, 116, 104]⟩, ⟨#[108, 97, 110]⟩] xs (kx + 1) B b _ _ _ _ rfl rfl (by have := HK.out; have := HKX.out; omega) HSTn2.out.1 (by decide) (by decide)).mono ?_
    rintro e n3 ⟨o1, hm_, rfl, ht_, hg_⟩
    have HSTn3 := Lib.hid (HSTn2.out.tape HDK.out ht_ hg_); have HMo := Lib.hid (show o1.size ≤ 33 from Nat.le_trans ((show ∀ y ∈ ([⟨#[101, 116, 104]⟩, ⟨#[108, 97, 110]⟩] : List ByteArray), y.size ≤ 20 by decide) o1 hm_) (by omega)); clear ht_ hg_ hm_
    go_wp2_with fail
    go_meet
    exact ⟨o1, 4, kx + 1 + 1, rfl, HMo, .inr (.inr rfl), by have := HKX.out; omega, HSTn3⟩
   ·
    have x7 := HSTn1.out.2.2.2.2.1.1 7 _ rfl
    have xf := HSTn1.out.2.2.2.2.1.2.1
    go_wp2_with fail
    go_meet
    exact ⟨bs, 2, kx + 1, rfl, HBSZ, .inr (.inl rfl), by have := HKX.out; omega, HSTn1⟩
  ·
   have hkd3 : kd = 1 ∨ kd = 2 ∨ kd = 4 := by omega
   have HKD3 := Lib.hid hkd3; clear hkd hkd3
   go_wp2_with fail
   go_meet
   exact ⟨bs, kd, kx + 1, rfl, HBSZ, HKD3.out, by have := HKX.out; omega, HSTn1⟩
 case rest =>
 obtain ⟨bz, kd2, ky, rfl, HBSZ2, hkd, hkx, HSTr⟩ := hcut
 have HKY := Lib.hid hkx; have HKD2 := Lib.hid hkd; clear hkx hkd HSTq HKX HKD HBSZ
 skip
 go_step
 go_step
 go_cut [8] (fun s8 wx => ∃ (b2 s2 : ByteArray) (nn : Int) (kx : Nat) (S5 : Nat → Prop) (A5 : Option Addr) (c5 : Nat) (l : List Attr), s8 = .string b2 ∧ Hid (b2.size ≤ 33) ∧ Hid (s2.size ≤ 1000) ∧ (0 ≤ nn ∧ nn ≤ 1000) ∧ kx ≤ k + 10 ∧ Hid (attM l) ∧ Hid (DvK w B b w.heap.size w1.heap.size a4.heap.size S5) ∧ Hid (StD w B b xs (kx) w.heap.size w1.heap.size a4.heap.size (.slice A L.length c) [.int .i64 ix, .int .i64 pr, .string ByteArray.empty, .string ByteArray.empty, .string s2, .string ByteArray.empty, .string ByteArray.empty, .int .i64 kd2, .int .i64 nn, .slice A5 l.length c5] S5 A5 c5 l wx))
 case first =>
  have hkd := HKD2.out
  rcases hkd with rfl | rfl | rfl
  ·
   have x7 := HSTr.out.2.2.2.2.1.1 7 _ rfl
   have xf := HSTr.out.2.2.2.2.1.2.1
   go_wp2_with fail
   go_meet
   exact ⟨bz, su, 0, ky, (fun _ => False), none, 0, ([] : List Attr), rfl, HBSZ2, HMsu, ⟨by omega, by omega⟩, by have := HKY.out; omega, Lib.hid (.inl rfl), HDK, HSTr⟩
  ·
   have x7 := HSTr.out.2.2.2.2.1.1 7 _ rfl
   have xf := HSTr.out.2.2.2.2.1.2.1
   go_upto_region 20 with fail
   clear x7 xf
   have x8 := HSTr.out.2.2.2.2.1.1 8 _ rfl
   have x4 := HSTr.out.2.2.2.2.1.1 4 _ rfl
   have xf := HSTr.out.2.2.2.2.1.2.1
   go_upto_region 21 with fail
   obtain ⟨n1, hn1⟩ : ∃ z, wc.setCell ⟨a4.heap.size, 8, none⟩ (.int .i64 ix) = z := ⟨_, rfl⟩
   have HSTn1 := Lib.hid (show StD w B b xs (ky) w.heap.size w1.heap.size a4.heap.size (.slice A L.length c) [.int .i64 ix, .int .i64 pr, .string ByteArray.empty, .string ByteArray.empty, .string su, .string ByteArray.empty, .string ByteArray.empty, .int .i64 2, .int .i64 ix, .slice none 0 0] (fun _ => False) none 0 ([] : List Attr) n1 from hn1 ▸ HSTr.out.set_ HDK.out (j := 8) (by simp) (.int .i64 ix))
   try simp only [hn1]
   clear hn1
   obtain ⟨n2, hn2⟩ : ∃ z, n1.setCell ⟨a4.heap.size, 4, none⟩ (.string ⟨#[98, 108, 111, 99, 107]⟩) = z := ⟨_, rfl⟩
   have HSTn2 := Lib.hid (show StD w B b xs (ky) w.heap.size w1.heap.size a4.heap.size (.slice A L.length c) [.int .i64 ix, .int .i64 pr, .string ByteArray.empty, .string ByteArray.empty, .string ⟨#[98, 108, 111, 99, 107]⟩, .string ByteArray.empty, .string ByteArray.empty, .int .i64 2, .int .i64 ix, .slice none 0 0] (fun _ => False) none 0 ([] : List Attr) n2 from hn2 ▸ HSTn1.out.set_ HDK.out (j := 4) (by simp) (.string ⟨#[98, 108, 111, 99, 107]⟩))
   try simp only [hn2]
   clear hn2 x8 x4 xf
   go_cut [88] (fun s88 wx => ∃ fl : Bool, s88 = .bool fl ∧ wx = n2)
   case first =>
    go_wp2_with fail
    all_goals (go_meet; exact ⟨_, rfl, rfl⟩)
   case rest =>
   obtain ⟨fl, rfl, rfl⟩ := hcut
   cases fl
   ·
    go_wp2_with fail
    refine (ContentsM_any _).mono ?_
    rintro e k1 ⟨rfl, hb_, hx_⟩
    have HX1 := Lib.hid hx_
    have HSTk1 := Lib.hid (HSTn2.out.below hb_)
    clear hb_ hx_
    go_wp2_with fail
    refine (ContentsM_any _).mono ?_
    rintro e k2 ⟨rfl, hb_, -⟩
    have HX2 := Lib.hid (HX1.out.kept (grown_none hb_) (fun e => by cases e))
    have HSTk2 := Lib.hid (HSTk1.out.below hb_)
    clear hb_
    go_wp2_with fail
    refine (Next_lit 16 xs (ky) B b _ (by have := HK.out; have := HKY.out; omega) HSTk2.out.1 (by omega) (by omega)).mono ?_
    rintro e k3 ⟨m, hm0, hm1, rfl, ht_, hg_⟩
    have HSTk3 := Lib.hid (HSTk2.out.tape HDK.out ht_ hg_); have HX3 := Lib.hid (HX2.out.kept hg_ (fun e => by have := Option.some.inj e; have := HSTn2.out.2.2.2.2.1.2.2; have := HDK.out.i3; have := HDK.out.i4; have := HDK.out.i5; have := HDK.out.lt; omega)); clear ht_ hg_
    obtain ⟨m, rfl⟩ := Int.eq_ofNat_of_zero_le hm0
    have hml : m < contM.length := by show m < 16; omega
    have HCM := Lib.hid (List.getElem_mem hml)
    obtain ⟨cm, hcm⟩ : ∃ z, contM[m]'hml = z := ⟨_, rfl⟩
    rw [hcm] at HCM
    have HCS := Lib.hid ((show ∀ y ∈ contM, y.size ≤ 1000 by decide) cm HCM.out)
    have hc := HX3.out.1 m (.string cm) (by rw [List.getElem?_map, List.getElem?_eq_getElem hml, hcm]; rfl)
    have i3 : (m : Int) < 16 := by omega
    clear hcm hml hm0 hm1
    go_upto_region 24 with fail
    clear hc i3
    cases hce : (cm.toList == ([] : List UInt8))
    ·
     have x9 := HSTk3.out.2.2.2.2.1.1 9 _ rfl
     have xf := HSTk3.out.2.2.2.2.1.2.1
     skip
     obtain ⟨k4, hk4⟩ : ∃ z, k3.alloc (.cells #[.string ⟨#[99, 111, 110, 116, 101, 110, 116]⟩, .string cm] 63) = z := ⟨_, rfl⟩
     have hb_ : Below k3.heap.size k3 k4 := by rw [← hk4]; exact (Below.refl _ _).alloc (Nat.le_refl _) _
     have HXA := Lib.hid (show BoxL k4 k3.heap.size [.string ⟨#[99, 111, 110, 116, 101, 110, 116]⟩, .string cm] from box_mk hk4)
     have HSTb := Lib.hid (HSTk3.out.below hb_)
     have HG4 := Lib.hid (show k4.heap.size = k3.heap.size + 1 by rw [← hk4]; simp)
     have HDK6 := Lib.hid (show DvK w B b w.heap.size w1.heap.size a4.heap.size (fun x => x = k3.heap.size) from ⟨HDK.out.lt, HDK.out.le, HDK.out.i3, HDK.out.i4, HDK.out.i5, fun x hx => by have := HSTk3.out.2.2.2.2.1.2.2; have := HDK.out.i5; have : x = _ := hx; omega⟩)
     have HSTc := Lib.hid (HSTb.out.other (S' := fun x => x = k3.heap.size) (sls_one HXA.out (by show (7 : Nat) ≤ _; unfold maxLen; omega) (by have := HCS.out; unfold maxLen; omega)) (fun x hx => by have : x = _ := hx; have := HG4.out; omega))
     clear hb_ x9 xf
     have x9 := HSTc.out.2.2.2.2.1.1 9 _ rfl
     have xf := HSTc.out.2.2.2.2.1.2.1
     have HSTe := Lib.hid (show StD w B b xs (ky + 1) w.heap.size w1.heap.size a4.heap.size (.slice A L.length c) [.int .i64 ix, .int .i64 pr, .string ByteArray.empty, .string ByteArray.empty, .string ⟨#[98, 108, 111, 99, 107]⟩, .string ByteArray.empty, .string ByteArray.empty, .int .i64 2, .int .i64 ix, .slice (some ⟨k3.heap.size, 0, none⟩) 1 1] (fun x => x = k3.heap.size) (some ⟨k3.heap.size, 0, none⟩) 1 [(⟨nmCont, cm⟩ : Attr)] _ from HSTc.out.set_ HDK6.out (j := 9) (by simp) (.slice (some ⟨k3.heap.size, 0, none⟩) 1 1))
     have HAT := Lib.hid (show attM [(⟨nmCont, cm⟩ : Attr)] from .inr ⟨cm, HCM.out, rfl⟩)
     go_wp2_with fail
     go_meet
     exact ⟨bz, ⟨#[98, 108, 111, 99, 107]⟩, ix, ky + 1, (fun x => x = k3.heap.size), (some ⟨k3.heap.size, 0, none⟩), 1, [(⟨nmCont, cm⟩ : Attr)], rfl, HBSZ2, Lib.hid (show (5 : Nat) ≤ 1000 by omega), ⟨by have := HIX.out; omega, HIX.out.2⟩, by have := HKY.out; omega, HAT, HDK6, HSTe⟩
    ·
     go_wp2_with fail
     go_meet
     exact ⟨bz, ⟨#[98, 108, 111, 99, 107]⟩, ix, ky + 1, (fun _ => False), none, 0, ([] : List Attr), rfl, HBSZ2, Lib.hid (show (5 : Nat) ≤ 1000 by omega), ⟨by have := HIX.out; omega, HIX.out.2⟩, by have := HKY.out; omega, Lib.hid (.inl rfl), HDK, HSTk3⟩
   ·
    go_wp2_with fail
    refine (One_lit [⟨#[115, 100]⟩, ⟨#[110, 118, 109, 101]⟩, ⟨#[109, 100, 45, 114]⟩, ⟨#[120, 33, 115, 100]⟩] xs (ky) B b _ _ _ _ rfl rfl (by have := HK.out; have := HKY.out; omega) HSTn2.out.1 (by decide) (by decide)).mono ?_
    rintro e n3 ⟨o1, hm_, rfl, ht_, hg_⟩
    have HSTn3 := Lib.hid (HSTn2.out.tape HDK.out ht_ hg_); have HMo := Lib.hid (show o1.size ≤ 33 from Nat.le_trans ((show ∀ y ∈ ([⟨#[115, 100]⟩, ⟨#[110, 118, 109, 101]⟩, ⟨#[109, 100, 45, 114]⟩, ⟨#[120, 33, 115, 100]⟩] : List ByteArray), y.size ≤ 20 by decide) o1 hm_) (by omega)); clear ht_ hg_ hm_
    go_wp2_with fail
    refine (ContentsM_any _).mono ?_
    rintro e k1 ⟨rfl, hb_, hx_⟩
    have HX1 := Lib.hid hx_
    have HSTk1 := Lib.hid (HSTn3.out.below hb_)
    clear hb_ hx_
    go_wp2_with fail
    refine (ContentsM_any _).mono ?_
    rintro e k2 ⟨rfl, hb_, -⟩
    have HX2 := Lib.hid (HX1.out.kept (grown_none hb_) (fun e => by cases e))
    have HSTk2 := Lib.hid (HSTk1.out.below hb_)
    clear hb_
    go_wp2_with fail
    refine (Next_lit 16 xs (ky + 1) B b _ (by have := HK.out; have := HKY.out; omega) HSTk2.out.1 (by omega) (by omega)).mono ?_
    rintro e k3 ⟨m, hm0, hm1, rfl, ht_, hg_⟩
    have HSTk3 := Lib.hid (HSTk2.out.tape HDK.out ht_ hg_); have HX3 := Lib.hid (HX2.out.kept hg_ (fun e => by have := Option.some.inj e; have := HSTn3.out.2.2.2.2.1.2.2; have := HDK.out.i3; have := HDK.out.i4; have := HDK.out.i5; have := HDK.out.lt; omega)); clear ht_ hg_
    obtain ⟨m, rfl⟩ := Int.eq_ofNat_of_zero_le hm0
    have hml : m < contM.length := by show m < 16; omega
    have HCM := Lib.hid (List.getElem_mem hml)
    obtain ⟨cm, hcm⟩ : ∃ z, contM[m]'hml = z := ⟨_, rfl⟩
    rw [hcm] at HCM
    have HCS := Lib.hid ((show ∀ y ∈ contM, y.size ≤ 1000 by decide) cm HCM.out)
    have hc := HX3.out.1 m (.string cm) (by rw [List.getElem?_map, List.getElem?_eq_getElem hml, hcm]; rfl)
    have i3 : (m : Int) < 16 := by omega
    clear hcm hml hm0 hm1
    go_upto_region 24 with fail
    clear hc i3
    cases hce : (cm.toList == ([] : List UInt8))
    ·
     have x9 := HSTk3.out.2.2.2.2.1.1 9 _ rfl
     have xf := HSTk3.out.2.2.2.2.1.2.1
     skip
     obtain ⟨k4, hk4⟩ : ∃ z, k3.alloc (.cells #[.string ⟨#[99, 111, 110, 116, 101, 110, 116]⟩, .string cm] 63) = z := ⟨_, rfl⟩
     have hb_ : Below k3.heap.size k3 k4 := by rw [← hk4]; exact (Below.refl _ _).alloc (Nat.le_refl _) _
     have HXA := Lib.hid (show BoxL k4 k3.heap.size [.string ⟨#[99, 111, 110, 116, 101, 110, 116]⟩, .string cm] from box_mk hk4)
     have HSTb := Lib.hid (HSTk3.out.below hb_)
     have HG4 := Lib.hid (show k4.heap.size = k3.heap.size + 1 by rw [← hk4]; simp)
     have HDK6 := Lib.hid (show DvK w B b w.heap.size w1.heap.size a4.heap.size (fun x => x = k3.heap.size) from ⟨HDK.out.lt, HDK.out.le, HDK.out.i3, HDK.out.i4, HDK.out.i5, fun x hx => by have := HSTk3.out.2.2.2.2.1.2.2; have := HDK.out.i5; have : x = _ := hx; omega⟩)
     have HSTc := Lib.hid (HSTb.out.other (S' := fun x => x = k3.heap.size) (sls_one HXA.out (by show (7 : Nat) ≤ _; unfold maxLen; omega) (by have := HCS.out; unfold maxLen; omega)) (fun x hx => by have : x = _ := hx; have := HG4.out; omega))
     clear hb_ x9 xf
     have x9 := HSTc.out.2.2.2.2.1.1 9 _ rfl
     have xf := HSTc.out.2.2.2.2.1.2.1
     have HSTe := Lib.hid (show StD w B b xs (ky + 1 + 1) w.heap.size w1.heap.size a4.heap.size (.slice A L.length c) [.int .i64 ix, .int .i64 pr, .string ByteArray.empty, .string ByteArray.empty, .string ⟨#[98, 108, 111, 99, 107]⟩, .string ByteArray.empty, .string ByteArray.empty, .int .i64 2, .int .i64 ix, .slice (some ⟨k3.heap.size, 0, none⟩) 1 1] (fun x => x = k3.heap.size) (some ⟨k3.heap.size, 0, none⟩) 1 [(⟨nmCont, cm⟩ : Attr)] _ from HSTc.out.set_ HDK6.out (j := 9) (by simp) (.slice (some ⟨k3.heap.size, 0, none⟩) 1 1))
     have HAT := Lib.hid (show attM [(⟨nmCont, cm⟩ : Attr)] from .inr ⟨cm, HCM.out, rfl⟩)
     go_wp2_with fail
     go_meet
     exact ⟨o1, ⟨#[98, 108, 111, 99, 107]⟩, ix, ky + 1 + 1, (fun x => x = k3.heap.size), (some ⟨k3.heap.size, 0, none⟩), 1, [(⟨nmCont, cm⟩ : Attr)], rfl, HMo, Lib.hid (show (5 : Nat) ≤ 1000 by omega), ⟨by have := HIX.out; omega, HIX.out.2⟩, by have := HKY.out; omega, HAT, HDK6, HSTe⟩
    ·
     go_wp2_with fail
     go_meet
     exact ⟨o1, ⟨#[98, 108, 111, 99, 107]⟩, ix, ky + 1 + 1, (fun _ => False), none, 0, ([] : List Attr), rfl, HMo, Lib.hid (show (5 : Nat) ≤ 1000 by omega), ⟨by have := HIX.out; omega, HIX.out.2⟩, by have := HKY.out; omega, Lib.hid (.inl rfl), HDK, HSTk3⟩
  ·
   have x7 := HSTr.out.2.2.2.2.1.1 7 _ rfl
   have xf := HSTr.out.2.2.2.2.1.2.1
   go_upto_region 27 with fail
   clear x7 xf
   have x4 := HSTr.out.2.2.2.2.1.1 4 _ rfl
   have xf := HSTr.out.2.2.2.2.1.2.1
   have HSTe := Lib.hid (show StD w B b xs (ky) w.heap.size w1.heap.size a4.heap.size (.slice A L.length c) [.int .i64 ix, .int .i64 pr, .string ByteArray.empty, .string ByteArray.empty, .string ⟨#[110, 101, 116]⟩, .string ByteArray.empty, .string ByteArray.empty, .int .i64 4, .int .i64 0, .slice none 0 0] (fun _ => False) none 0 ([] : List Attr) _ from HSTr.out.set_ HDK.out (j := 4) (by simp) (.string ⟨#[110, 101, 116]⟩))
   go_wp2_with fail
   go_meet
   exact ⟨bz, ⟨#[110, 101, 116]⟩, 0, ky, (fun _ => False), none, 0, ([] : List Attr), rfl, HBSZ2, Lib.hid (show (3 : Nat) ≤ 1000 by omega), ⟨by omega, by omega⟩, by have := HKY.out; omega, Lib.hid (.inl rfl), HDK, HSTe⟩
 case rest =>
 obtain ⟨b2, s2, nn, kz, S5, A5, c5, l, rfl, HB2, HS2, hnn, hkz, HAT, HDK5, HSTs⟩ := hcut
 have HNN := Lib.hid hnn; have HKZ := Lib.hid hkz; clear hnn hkz HSTr HKY HBSZ2
 go_wp2_with fail
 refine (Next_lit 4 xs kz B b _ (by have := HK.out; have := HKZ.out; omega) HSTs.out.1 (by omega) (by omega)).mono ?_
 rintro e t1 ⟨m, hm0, hm1, rfl, ht_, hg_⟩
 have HSTt1 := Lib.hid (HSTs.out.tape HDK5.out ht_ hg_); clear ht_ hg_
 obtain ⟨m, rfl⟩ := Int.eq_ofNat_of_zero_le hm0
 have HM := Lib.hid (show 1 ≤ 1 + m ∧ 1 + m ≤ 4 by omega); clear hm0 hm1
 have hwm : IntKind.i64.wrap (1 + (m : Int)) = ((1 + m : Nat) : Int) := by have := HM.out; rw [IntWalk.i64_in _ (by omega)]; push_cast; rfl
 go_wp2_with fail
 try rw [show (1 : Int) + (m : Int) = ((1 + m : Nat) : Int) by push_cast; rfl]
 refine (ItoaS_any (1 + m) _ (by have := HM.out; omega)).mono ?_
 rintro e w' ⟨rfl, hw_⟩
 rw [hw_]; clear hw_ w'
 have HIB := Lib.hid (itB_size (k := 1 + m) (by have := HM.out; omega))
 have hadd : ¬ 9223372036854775807 < b2.size + (itB (1 + m)).size := by have := HIB.out; have := HB2.out; omega
 obtain ⟨og, hog⟩ : ∃ z, b2 ++ itB (1 + m) = z := ⟨_, rfl⟩
 have HOG := Lib.hid (show nmM og from ⟨b2, 1 + m, HM.out.1, HM.out.2, hog.symm⟩); have HOS := Lib.hid (show og.size ≤ 35 by rw [← hog, ByteArray.size_append]; have := HIB.out; have := HB2.out; omega)
 have x3 := HSTt1.out.2.2.2.2.1.1 3 _ rfl
 have xf := HSTt1.out.2.2.2.2.1.2.1
 go_upto_region 29 with fail
 try rw [hog]
 clear hog hadd hwm
 obtain ⟨t2, ht2⟩ : ∃ z, t1.setCell ⟨a4.heap.size, 3, none⟩ (.string og) = z := ⟨_, rfl⟩
 have HSTt2 := Lib.hid (show StD w B b xs (kz + 1) w.heap.size w1.heap.size a4.heap.size (.slice A L.length c) [.int .i64 ix, .int .i64 pr, .string ByteArray.empty, .string og, .string s2, .string ByteArray.empty, .string ByteArray.empty, .int .i64 kd2, .int .i64 nn, .slice A5 l.length c5] S5 A5 c5 l t2 from ht2 ▸ HSTt1.out.set_ HDK5.out (j := 3) (by simp) (.string og))
 try simp only [ht2]
 clear ht2 x3 xf
 have x3 := HSTt2.out.2.2.2.2.1.1 3 _ rfl
 have x2 := HSTt2.out.2.2.2.2.1.1 2 _ rfl
 have xf := HSTt2.out.2.2.2.2.1.2.1
 go_upto_region 30 with fail
 obtain ⟨t3, ht3⟩ : ∃ z, t2.setCell ⟨a4.heap.size, 2, none⟩ (.string og) = z := ⟨_, rfl⟩
 have HSTt3 := Lib.hid (show StD w B b xs (kz + 1) w.heap.size w1.heap.size a4.heap.size (.slice A L.length c) [.int .i64 ix, .int .i64 pr, .string og, .string og, .string s2, .string ByteArray.empty, .string ByteArray.empty, .int .i64 kd2, .int .i64 nn, .slice A5 l.length c5] S5 A5 c5 l t3 from ht3 ▸ HSTt2.out.set_ HDK5.out (j := 2) (by simp) (.string og))
 try simp only [ht3]
 clear ht3 x3 x2 xf
 have x0 := HSTt3.out.2.2.2.2.1.1 0 _ rfl
 have x1 := HSTt3.out.2.2.2.2.1.1 1 _ rfl
 have x2 := HSTt3.out.2.2.2.2.1.1 2 _ rfl
 have x3 := HSTt3.out.2.2.2.2.1.1 3 _ rfl
 have x4 := HSTt3.out.2.2.2.2.1.1 4 _ rfl
 have x5 := HSTt3.out.2.2.2.2.1.1 5 _ rfl
 have x6 := HSTt3.out.2.2.2.2.1.1 6 _ rfl
 have x7 := HSTt3.out.2.2.2.2.1.1 7 _ rfl
 have x8 := HSTt3.out.2.2.2.2.1.1 8 _ rfl
 have x9 := HSTt3.out.2.2.2.2.1.1 9 _ rfl
 have xf := HSTt3.out.2.2.2.2.1.2.1
 have z_ := HSTt3.out.2.2.2.1
 have z0 := z_.1 0 _ rfl
 have z1 := z_.1 1 _ rfl
 have z2 := z_.1 2 _ rfl
 have z3 := z_.1 3 _ rfl
 have z4 := z_.1 4 _ rfl
 have z5 := z_.1 5 _ rfl
 have z6 := z_.1 6 _ rfl
 have z7 := z_.1 7 _ rfl
 have z8 := z_.1 8 _ rfl
 have z9 := z_.1 9 _ rfl
 have zf := z_.2.1
 clear z_
 go_wp2
 obtain ⟨f1, f2, f3⟩ := set10_ind (fun w' => TapeAt w' B b xs (kz + 1) ∧ w.grownBy w' (some b) ∧ SlS w' S5 A5 c5 l ∧ t3.heap.size ≤ w'.heap.size) (w := t3) (g := w1.heap.size)
  (fun w' j v ⟨h1, h2, h3, h4⟩ => ⟨h1.set_ (by have := HBW.out; have := HGw1.out; omega) (by have := HBW.out; have := HGw1.out; omega) v, grown_set h2 (by have := HGw1.out; omega) v, h3.set_ (fun x hx => by have := (HDK5.out.s x hx).1; omega) v, by simpa using h4⟩) ⟨HSTt3.out.1, HSTt3.out.2.1, HSTt3.out.2.2.2.2.2.1, Nat.le_refl _⟩ (.int .i64 ix) (.int .i64 pr) (.string og) (.string og) (.string s2) (.string ByteArray.empty) (.string ByteArray.empty) (.int .i64 kd2) (.int .i64 nn) (.slice A5 l.length c5)
 refine bodyPost_ret (v := .agg #[.int .i64 ix, .int .i64 pr, .string og, .string og, .string s2, .string ByteArray.empty, .string ByteArray.empty, .int .i64 kd2, .int .i64 nn, .slice A5 l.length c5]) (by simp [results, Tryz.results49, go_sem, z0, z1, z2, z3, z4, z5, z6, z7, z8, z9, zf]) rfl ⟨⟨ix, pr, og, og, s2, ByteArray.empty, ByteArray.empty, kd2, nn, l⟩, A5, c5, _, rfl, ?_, ⟨rfl, HOG.out, HAT.out⟩, f3.1.mono (fun x hx => ⟨by have := (HDK5.out.s x hx).1; have := HGw1.out; omega, by have := HSTt3.out.2.2.2.2.2.2 x hx; have := f3.2; omega⟩) (fun _ _ _ _ hu => hu), by have := HKZ.out; omega, f1, f2⟩
 have a1 := HIX.out; have a2 := HPR.out; have a3 := HS2.out; have a4 := HOS.out; have a5 := HNN.out; have a6 := HAT.out.few; have a7 := HKD2.out
 refine ⟨⟨?_, ?_⟩, ⟨?_, ?_⟩, ?_, ?_, ?_, ?_, ?_, ⟨?_, ?_⟩, ⟨?_, ?_⟩, a6⟩
 all_goals simp only
 all_goals first | omega | (show (0 : Nat) ≤ 1000; omega)
end Go.Proofs.YtehmidmoiamcfaaGreatDoor
