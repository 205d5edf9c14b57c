/-
  What chapter 31's rows list of the library's variables, as facts on cells.
-/
import Derived.Test.YtjpoljlgkgmdkaaGreatDoorYH
import Derived.Test.YtjpoljlgkgmdkaaGreatDoorYSE
import Derived.PinnedBridge
import Derived.Lib.SplitLaws
import Derived.Lib.IndexBytes
import Derived.Test.YtjpoljlgkgmdkaaGreatDoorYVC
import Derived.Test.YtjpoljlgkgmdkaaGreatDoorYVD
import Derived.Test.YtjpoljlgkgmdkaaGreatDoorYG
import Derived.Test.YtjpoljlgkgmdkaaGreatDoorYVB
import Derived.Test.YtjpoljlgkgmdkaaGreatDoorYF
import Derived.Test.YtjpoljlgkgmdkaaGreatDoorYN
import Derived.OrdersIn
import Derived.OwnWalkIn
import Derived.OrdersHeld
import Derived.Deep.RegionHeld
import Derived.Maps.OwnIn
import Derived.Lib.ItoaLen
import Derived.Deep.RegionHeld3
set_option linter.unusedSimpArgs false
set_option linter.unusedVariables false
namespace Go.Proofs.YtjpoljlgkgmdkaaGreatDoor
open Go.ChangeShapes Go.WideShapes Go.ChangeAt Go.RowKit Go.Cold
theorem gTabType : (Tryz.prog.globals[1]?).map (·.type) = some 204 := by kernel_rfl
theorem ok7_of_laid {W : World} (h : laidMetH Tryz.prog [("math/bits.deBruijn32tab", Rows.laid_math_bits_deBruijn32tab), ("math/bits.deBruijn64tab", Rows.laid_math_bits_deBruijn64tab), ("internal/strconv.uint64pow10", Rows.laid_internal_strconv_uint64pow10), ("unicode/utf8.acceptRanges", Rows.laid_unicode_utf8_acceptRanges), ("strconv.ErrRange", Rows.laid_strconv_ErrRange), ("strconv.ErrSyntax", Rows.laid_strconv_ErrSyntax), ("unicode.CaseRanges", Rows.laid_unicode_CaseRanges), ("unicode/utf8.first", Rows.laid_unicode_utf8_first)] W) : Ok7 W := by
 have h0 : laidMet Tryz.prog [("math/bits.deBruijn32tab", Rows.laid_math_bits_deBruijn32tab), ("math/bits.deBruijn64tab", Rows.laid_math_bits_deBruijn64tab), ("internal/strconv.uint64pow10", Rows.laid_internal_strconv_uint64pow10), ("unicode/utf8.acceptRanges", Rows.laid_unicode_utf8_acceptRanges), ("strconv.ErrRange", Rows.laid_strconv_ErrRange), ("strconv.ErrSyntax", Rows.laid_strconv_ErrSyntax), ("unicode.CaseRanges", Rows.laid_unicode_CaseRanges), ("unicode/utf8.first", Rows.laid_unicode_utf8_first)] W := h
 have ht := Lib.tabIs_of_head (k := .u64) (zs := Lib.pow10Tab) tab_named gTabType Tryz.underlying204 Tryz.underlying144 (by kernel_rfl) (by kernel_rfl) h0.tail.tail
 obtain ⟨⟨ev, h1, h2⟩, ⟨ev2, h3, h4⟩⟩ := oka_of_laid h
 exact ⟨⟨ev, h1, h2⟩, ⟨ev2, h3, h4⟩, ht⟩
end Go.Proofs.YtjpoljlgkgmdkaaGreatDoor
namespace Go.Proofs.YtjpoljlgkgmdkaaGreatDoor
open Go.ChangeShapes Go.WideShapes Go.ChangeAt Go.RowKit Go.Cold
theorem okf_of {W : World} {rest : List (String × DataW Unit)} (h0 : laidMet Tryz.prog (("math/bits.deBruijn32tab", Rows.laid_math_bits_deBruijn32tab) :: ("math/bits.deBruijn64tab", Rows.laid_math_bits_deBruijn64tab) :: ("internal/strconv.uint64pow10", Rows.laid_internal_strconv_uint64pow10) :: ("unicode/utf8.acceptRanges", Rows.laid_unicode_utf8_acceptRanges) :: ("strconv.ErrRange", Rows.laid_strconv_ErrRange) :: ("strconv.ErrSyntax", Rows.laid_strconv_ErrSyntax) :: rest) W) : Ok7 W := by
 have ht := Lib.tabIs_of_head (k := .u64) (zs := Lib.pow10Tab) tab_named gTabType Tryz.underlying204 Tryz.underlying144 (by kernel_rfl) (by kernel_rfl) h0.tail.tail
 have h2 := h0.tail.tail.tail.tail
 obtain ⟨a1, s1, hv1, -, -, -⟩ := laid_sentinel h2 gER gERType Tryz.underlying114 rowErr Tryz.underlying224 Tryz.underlying226 rfl rfl Tryz.underlying9 (by kernel_rfl) (by kernel_rfl)
 obtain ⟨a0, s0, hv0, -, -, -⟩ := laid_sentinel h2.tail gES gESType Tryz.underlying114 rowErr Tryz.underlying224 Tryz.underlying226 rfl rfl Tryz.underlying9 (by kernel_rfl) (by kernel_rfl)
 exact ⟨⟨_, by have h0 := World.var?_cell gES hv0 0; simpa using h0, .inr ⟨_, _, rfl⟩⟩, ⟨_, by have h0 := World.var?_cell gER hv1 0; simpa using h0, .inr ⟨_, _, rfl⟩⟩, ht⟩
theorem okf8 {W : World} (h : laidMetH Tryz.prog [("math/bits.deBruijn32tab", Rows.laid_math_bits_deBruijn32tab), ("math/bits.deBruijn64tab", Rows.laid_math_bits_deBruijn64tab), ("internal/strconv.uint64pow10", Rows.laid_internal_strconv_uint64pow10), ("unicode/utf8.acceptRanges", Rows.laid_unicode_utf8_acceptRanges), ("strconv.ErrRange", Rows.laid_strconv_ErrRange), ("strconv.ErrSyntax", Rows.laid_strconv_ErrSyntax), ("unicode.CaseRanges", Rows.laid_unicode_CaseRanges), ("unicode/utf8.first", Rows.laid_unicode_utf8_first)] W) : Ok7 W := by
 have h0 : laidMet Tryz.prog [("math/bits.deBruijn32tab", Rows.laid_math_bits_deBruijn32tab), ("math/bits.deBruijn64tab", Rows.laid_math_bits_deBruijn64tab), ("internal/strconv.uint64pow10", Rows.laid_internal_strconv_uint64pow10), ("unicode/utf8.acceptRanges", Rows.laid_unicode_utf8_acceptRanges), ("strconv.ErrRange", Rows.laid_strconv_ErrRange), ("strconv.ErrSyntax", Rows.laid_strconv_ErrSyntax), ("unicode.CaseRanges", Rows.laid_unicode_CaseRanges), ("unicode/utf8.first", Rows.laid_unicode_utf8_first)] W := h
 exact okf_of h0
end Go.Proofs.YtjpoljlgkgmdkaaGreatDoor
namespace Go.Cold
open Go Go.RowKit Go.Proofs.YtjpoljlgkgmdkaaGreatDoor
section
variable {p0 p1 p2 : ByteArray} {Q : List ByteArray}
end
end Go.Cold
namespace Go.Cold
open Go Go.RowKit Go.Proofs.YtjpoljlgkgmdkaaGreatDoor
end Go.Cold
namespace Go.Cold
open Go Go.RowKit
end Go.Cold
namespace Go.Proofs.YtjpoljlgkgmdkaaGreatDoor
open Go.RowKit Go.Cold

end Go.Proofs.YtjpoljlgkgmdkaaGreatDoor
namespace Go.Cold
open Go Go.RowKit Go.Proofs.YtjpoljlgkgmdkaaGreatDoor
end Go.Cold
namespace Go.Proofs.YtjpoljlgkgmdkaaGreatDoor
open Go.RowKit Go.Cold
end Go.Proofs.YtjpoljlgkgmdkaaGreatDoor
namespace Go.Cold
open Go Go.RowKit Go.Proofs.YtjpoljlgkgmdkaaGreatDoor
end Go.Cold
namespace Go.Proofs.YtjpoljlgkgmdkaaGreatDoor
open Go.RowKit Go.Cold
end Go.Proofs.YtjpoljlgkgmdkaaGreatDoor
namespace Go.Proofs.YtjpoljlgkgmdkaaGreatDoor
open Go.RowKit Go.Cold
theorem own_anyA {F F' : Nat → Prop} {w : World} {base : Nat} {T : TypeId} {v : Value} {l : List Attr} (h : OwnsS F w base T v l) : OwnsS F' w base T v l := by
 obtain ⟨css, h1, h2, h3⟩ := h
 exact ⟨css, h1, h2, fun i x cs hx hcs => h3 i x cs hx hcs⟩
set_option maxRecDepth 100000 in
set_option maxHeartbeats 4000000 in
theorem RBegin_any (A : Option Addr) (c : Nat) (base : List Attr) (N : Nat → Prop) (w : World) (hN : ∀ x, N x → x < w.heap.size) (hx : FreeS N w A c base) (hl : base.length ≤ 1000) :
  Calls Tryz.prog 21 #[.slice A base.length c] w (DPost N (beginD base) w) := by
 have hx1 := hx.1; have hx2 := hx.2.1
 unfold maxLen at hx2
 have HF := Lib.hid hx; have HL := Lib.hid hl; have HN := Lib.hid hN; clear hx hl hN
 have hzv := (zero_of_info (P := Tryz.prog) (t := 30) info_draft2).1
 go_enter Tryz.func21, Tryz.ntmps21
 go_upto_region 1 with fail
 obtain ⟨w1, hw1⟩ : ∃ w1, w.alloc (.cells #[.slice none 0 0, .slice none 0 0, .slice none 0 0, .slice none 0 0, .slice none 0 0, .string ByteArray.empty, .int .i64 0, .string ByteArray.empty, .string ByteArray.empty, .int .i64 0, .string ByteArray.empty, .int .i64 0, .int .i64 0, .slice none 0 0] 30) = w1 := ⟨_, rfl⟩
 have hbw1 : Below w.heap.size w w1 := by rw [← hw1]; exact (Below.refl _ _).alloc (Nat.le_refl _) _
 have HGw1 := Lib.hid (show w1.heap.size = w.heap.size + 1 by rw [← hw1]; simp)
 have HXrw1 := Lib.hid (show BoxL w1 w.heap.size [.slice none 0 0, .slice none 0 0, .slice none 0 0, .slice none 0 0, .slice none 0 0, .string ByteArray.empty, .int .i64 0, .string ByteArray.empty, .string ByteArray.empty, .int .i64 0, .string ByteArray.empty, .int .i64 0, .int .i64 0, .slice none 0 0] from box_mk hw1)
 try simp only [hw1]
 have HBw1 := Lib.hid hbw1
 clear hw1 hbw1
 try rw [show w.heap.size + 1 = w1.heap.size from HGw1.out.symm]
 clear hzv
 have HS := Lib.hid (show SlS w1 (fun b => (fun b => b < w.heap.size) b ∧ b < w1.heap.size ∧ (.slice none 0 0 : Value).ownBlock ≠ some b) A c base from (SlS_iff.1 (HF.out.out.keep HBw1.out)).mono (fun b hb => ⟨hb, Nat.lt_of_lt_of_le hb HBw1.out.size, fun e => by cases e⟩) (fun _ _ _ _ hu => hu))
 have cr0 := HXrw1.out.1 0 _ rfl
 have cr1 := HXrw1.out.1 1 _ rfl
 have cr2 := HXrw1.out.1 2 _ rfl
 have cr3 := HXrw1.out.1 3 _ rfl
 have cr4 := HXrw1.out.1 4 _ rfl
 have cr5 := HXrw1.out.1 5 _ rfl
 have cr6 := HXrw1.out.1 6 _ rfl
 have cr7 := HXrw1.out.1 7 _ rfl
 have cr8 := HXrw1.out.1 8 _ rfl
 have cr9 := HXrw1.out.1 9 _ rfl
 have cr10 := HXrw1.out.1 10 _ rfl
 have cr11 := HXrw1.out.1 11 _ rfl
 have cr12 := HXrw1.out.1 12 _ rfl
 have cr13 := HXrw1.out.1 13 _ rfl
 have cfr := HXrw1.out.2.1
 go_wp2_with (at_builtin; go_must (refine wpList_app rfl _ _ rfl (.slice none 0 0) _ rfl rfl (run_appL E_attr _ _ [] (OwnsS.nil_ (fun b => b < w.heap.size) w1 w1.heap.size _) A c base (.inl HS.out) (by have := HL.out; simp; unfold maxLen; omega) (by have := HL.out; simp; omega) (Nat.le_refl _)) ?_); rintro v2 w2 ⟨ho2, hg2, -⟩; have HO2 := Lib.hid ho2; have HG2 := Lib.hid hg2; clear ho2 hg2; obtain ⟨A2, c2, hv, hf⟩ := (own_anyA HO2.out : OwnsS (fun _ => False) _ _ _ _ _).free (N := fun x => N x ∨ x = w.heap.size) (fun x hx => ⟨by have := HGw1.out; rcases hx with h | h; have := HN.out x h; omega; omega, fun h => h⟩); subst hv; have HFR := Lib.hid hf; clear hf; have hb2 : Below w1.heap.size w1 w2 := below_own (Below.refl _ _) HG2.out (Nat.le_refl _) (fun k hk => by cases hk); have HB2 := Lib.hid (HBw1.out.trans (hb2.mono HBw1.out.size)); have HR2 := Lib.hid (HXrw1.out.kept (grown_none hb2) (fun e => by cases e)); clear hb2 cr0 cr1 cr2 cr3 cr4 cr5 cr6 cr7 cr8 cr9 cr10 cr11 cr12 cr13 cfr; have cr0 := HR2.out.1 0 _ rfl; have cr1 := HR2.out.1 1 _ rfl; have cr2 := HR2.out.1 2 _ rfl; have cr3 := HR2.out.1 3 _ rfl; have cr4 := HR2.out.1 4 _ rfl; have cr5 := HR2.out.1 5 _ rfl; have cr6 := HR2.out.1 6 _ rfl; have cr7 := HR2.out.1 7 _ rfl; have cr8 := HR2.out.1 8 _ rfl; have cr9 := HR2.out.1 9 _ rfl; have cr10 := HR2.out.1 10 _ rfl; have cr11 := HR2.out.1 11 _ rfl; have cr12 := HR2.out.1 12 _ rfl; have cr13 := HR2.out.1 13 _ rfl; have cfr := HR2.out.2.1)
 have HD := Lib.hid (show DFr (fun x => N x ∨ x = w.heap.size) w2 (beginD base) ⟨A2, c2, none, 0, none, 0, none, 0, none, 0, none, 0⟩ from ⟨HFR.out, FreeS.nil_, FreeS.nil_, FreeS.nil_, FreeS.nil_, FreeS.nil_, begin_ok base⟩)
 try go_wp2
 refine bodyPost_ret (v := .agg #[.slice A2 base.length c2, .slice none 0 0, .slice none 0 0, .slice none 0 0, .slice none 0 0, .string ⟨#[]⟩, .int .i64 0, .string ⟨#[114, 111, 111, 116]⟩, .string ⟨#[114, 111, 111, 116]⟩, .int .i64 384, .string ⟨#[]⟩, .int .i64 0, .int .i64 0, .slice none 0 0]) (by simp [results, Tryz.results21, go_sem, cr0, cr1, cr2, cr3, cr4, cr5, cr6, cr7, cr8, cr9, cr10, cr11, cr12, cr13, cfr]) rfl ?_
 exact DPost.fin (h := ⟨A2, c2, none, 0, none, 0, none, 0, none, 0, none, 0⟩) HB2.out (Nat.le_refl _) (fun _ => .inl) (.inr rfl) HD.out _ _ _ _ _ _ _ _ _ _ _ _ _ _
end Go.Proofs.YtjpoljlgkgmdkaaGreatDoor
namespace Go.Proofs.YtjpoljlgkgmdkaaGreatDoor
open Go.RowKit Go.Cold
end Go.Proofs.YtjpoljlgkgmdkaaGreatDoor
namespace Go.Cold
open Go Go.RowKit
end Go.Cold
namespace Go.Proofs.YtjpoljlgkgmdkaaGreatDoor
open Go.RowKit Go.Cold
end Go.Proofs.YtjpoljlgkgmdkaaGreatDoor
namespace Go
section
variable {F : Fence} {n : Nat} {P : Program} {ops : Array Oper} {Q : Exit → Act → World → Prop} {md : Region.Mode} {S : World → Prop} {late : Nat → Bool}
end
end Go
namespace Go.Cold
open Go Go.RowKit
section
variable {α : Type} [El α] {P : Program} {k e : TypeId} {w : World} {b n : Nat} {f : Int → Option α} {F : Fence} {nF : Nat}
end
def insF (ins : List Int) (n : Int) : Option Bool := if n ∈ ins then some true else none
def SuSt (P : Program) (tI tB : TypeId) (gt gi bm : Nat) (A : Option Addr) (c N B : Nat) (L : List Dev) (idx : Int) (ins : List Int) (W : World) : Prop :=
 BoxL W gt [.slice A L.length c] ∧ BoxL W gi [.int .i64 idx] ∧ MapV P tI tB W bm N (insF ins) ∧ Sl W B A c L ∧ B ≤ W.heap.size
section
variable {P : Program} {tI tB : TypeId} {gt gi bm c N B : Nat} {A : Option Addr} {L : List Dev} {idx : Int} {ins : List Int} {W W' : World}
theorem SuSt.below (h : SuSt P tI tB gt gi bm A c N B L idx ins W) (hb : Below W.heap.size W W') : SuSt P tI tB gt gi bm A c N B L idx ins W' := by
 obtain ⟨h1, h2, h3, h4, h5⟩ := h
 exact ⟨h1.kept (grown_none hb) (fun e => by cases e), h2.kept (grown_none hb) (fun e => by cases e), h3.next hb, h4.keep (hb.mono h5), Nat.le_trans h5 hb.size⟩
end
end Go.Cold
namespace Go.Proofs.YtjpoljlgkgmdkaaGreatDoor
open Go.RowKit Go.Cold Go.Shelf
attribute [local go_sem] Oper.semAt_some
end Go.Proofs.YtjpoljlgkgmdkaaGreatDoor
namespace Go.Cold
open Go Go.RowKit
def SubJ (T : TypeId) (w : World) (g5 bs : Nat) (p : Dev → Bool) (pre : List DevX) (N : Nat) (W : World) : Prop :=
 Below w.heap.size w W ∧ g5 < N ∧ ∃ v, BoxL W g5 [v] ∧ (∀ k, v.ownBlock = some k → bs ≤ k ∧ k < N) ∧ OwnsS (fun b => bs ≤ b) W bs T v ((pre.map (·.1)).filter p)
theorem SubJ.below {T : TypeId} {w : World} {g5 bs N : Nat} {p : Dev → Bool} {pre : List DevX} {X Y : World} (h : SubJ T w g5 bs p pre N X) (hb : Below X.heap.size X Y) : SubJ T w g5 bs p pre N Y := by
 obtain ⟨a1, a2, v, a3, a5, a4⟩ := h
 exact ⟨a1.trans (hb.mono a1.size), a2, v, a3.kept (grown_none hb) (fun e => by cases e), a5, a4.below hb⟩
section
variable {P : Program} {F : Fence} {n : Nat} {bytes : Nat} {TS : TypeId} {ops : Array Oper} {o : Oper} {a : Act} {Q : Exit → Act → World → Prop} {w : World}
end
theorem attrs_le {d : Dev} (h : checkD d = 0) : d.attrs.length ≤ 1000000 := by
 rw [checkD_eq] at h
 by_cases h1 : rangeB d <;> by_cases h2 : namedB d <;> by_cases h3 : kindB d <;> by_cases h4 : numberB d <;> by_cases h5 : d.attrs.length ≤ 24 <;> simp_all
 all_goals omega
end Go.Cold
namespace Go.Proofs.YtjpoljlgkgmdkaaGreatDoor
open Go.RowKit Go.Cold Go.Shelf
attribute [local go_sem] Oper.semAt_some
end Go.Proofs.YtjpoljlgkgmdkaaGreatDoor
namespace Go.Cold
open Go Go.RowKit
theorem findD_small {L : List Dev} (hv : VT L) (n : Int) : ((findD L n).getD zeroD).orig.size ≤ 32 := by
 cases h : findD L n with
 | none => show (0 : Nat) ≤ 32; omega
 | some d => exact (hv.small d (find_some h).1).1
end Go.Cold
namespace Go.Proofs.YtjpoljlgkgmdkaaGreatDoor
open Go.RowKit Go.Cold
end Go.Proofs.YtjpoljlgkgmdkaaGreatDoor
namespace Go.Cold
open Go Go.RowKit Go.Proofs.YtjpoljlgkgmdkaaGreatDoor
theorem base_none {L : List Dev} {n : Int} (h : (findD L n).isSome = false) : baseL L n = [] := by
 unfold baseL
 cases hf : findD L n with
 | none => rfl
 | some d => rw [hf] at h; cases h
theorem strF_small {L : List Dev} (h : VT L) (n : Int) : (strF L n).size ≤ maxLen := by
 have := str_size (fun d hd => (h.small d hd).1) h.size n
 unfold maxLen; omega
theorem itoaT_small {n : Int} (h : okI n) : (itoaT n).size ≤ maxLen := by
 have h1 := Go.Lib.itoa_length_le n h.1 h.2
 show (Lib.itoa n).toArray.size ≤ maxLen
 rw [List.size_toArray]
 unfold maxLen; omega
theorem set_len {l : List Attr} {k v : ByteArray} {m : Nat} (h : l.length ≤ m) : (setA l k v).length ≤ m + 1 := by
 have := setA_len l k v; omega
theorem base_some {L : List Dev} {n : Int} {d : Dev} (hq : (findD L n).isSome = true) (hd : d = (findD L n).getD zeroD) : baseL L n = putAll (baseP (strF L n) d) := by
 unfold baseL
 cases hf : findD L n with
 | none => rw [hf] at hq; cases hq
 | some e => rw [hf] at hd; rw [show d = e from hd]
end Go.Cold
namespace Go.Proofs.YtjpoljlgkgmdkaaGreatDoor
open Go.RowKit Go.Cold
set_option maxRecDepth 100000 in
set_option maxHeartbeats 4000000 in
theorem RBase_any (A : Option Addr) (c : Nat) (L : List Dev) (n : Int) (w : World) (B : Nat) (hB : B ≤ w.heap.size) (hx : Sl w B A c L) (hv : VT L) (hok : Ok7 w) (hko : Ok w) (hn : okI n) :
  Calls Tryz.prog 19 #[.agg #[.slice A L.length c], .int .i64 n] w (SlPost (baseL L n) w) := by
 have hx1 := hx.1; have hx2 := hx.2.1
 unfold maxLen at hx2
 have HX := Lib.hid hx; have HB := Lib.hid hB; have HV := Lib.hid hv; have HOK := Lib.hid hok; clear hx hB hv hok
 have HKO := Lib.hid hko; clear hko
 have HLA := Lib.hid (show ∀ d ∈ L, d.attrs.length ≤ 1000000 from fun d hd => attrs_le (HV.out.chk d hd))
 go_enter Tryz.func19, Tryz.ntmps19
 go_upto_region 1 with fail
 obtain ⟨w1, hw1⟩ : ∃ w1, w.alloc (.cells #[.slice A L.length c] 47) = w1 := ⟨_, rfl⟩
 have hbw1 : Below w.heap.size w w1 := by rw [← hw1]; exact (Below.refl _ _).alloc (Nat.le_refl _) _
 have HGw1 := Lib.hid (show w1.heap.size = w.heap.size + 1 by rw [← hw1]; simp)
 have HXtw1 := Lib.hid (show BoxL w1 w.heap.size [.slice A L.length c] from box_mk hw1)
 try simp only [hw1]
 have HBw1 := Lib.hid hbw1
 clear hw1 hbw1
 try rw [show w.heap.size + 1 = w1.heap.size from HGw1.out.symm]
 have ct0 := HXtw1.out.1 0 _ rfl
 obtain ⟨q, hq⟩ : ∃ z, (findD L n).isSome = z := ⟨_, rfl⟩
 have HQ := Lib.hid hq; clear hq
 go_wp2_with fail
 refine (RFind_any A c L n _ B (Nat.le_trans HB.out HBw1.out.size) (HX.out.keep (HBw1.out.mono HB.out))).mono ?_
 rintro e w2 ⟨hbw2, d, A3, c3, hd, rfl, hod, hsd⟩
 clear ct0
 have HBw2 := Lib.hid (HBw1.out.trans (hbw2.mono HBw1.out.size))
 have tw2 := Lib.hid (HXtw1.out.kept (grown_none hbw2) (fun e => by cases e))
 clear hbw2
 have ct0 := tw2.out.1 0 _ rfl
 rw [HQ.out]
 have Hd := Lib.hid (show d = (findD L n).getD zeroD from hd); have HOd := Lib.hid hod
 have HSd := Lib.hid ((show Sl w2 B A3 c3 d.attrs from hsd).more (Nat.le_trans HB.out HBw2.out.size))
 clear hd hod hsd
 go_upto_region 2 with fail
 obtain ⟨w3, hw3⟩ : ∃ w3, w2.alloc (.cells #[.int .i64 d.idx, .int .i64 d.par, .string d.nm, .string d.orig, .string d.sub, .string d.drv, .string d.ali, .int .i64 d.kind, .int .i64 d.num, .slice A3 d.attrs.length c3] 84) = w3 := ⟨_, rfl⟩
 have hbw3 : Below w2.heap.size w2 w3 := by rw [← hw3]; exact (Below.refl _ _).alloc (Nat.le_refl _) _
 have HGw3 := Lib.hid (show w3.heap.size = w2.heap.size + 1 by rw [← hw3]; simp)
 have HXaw3 := Lib.hid (show BoxL w3 w2.heap.size [.int .i64 d.idx, .int .i64 d.par, .string d.nm, .string d.orig, .string d.sub, .string d.drv, .string d.ali, .int .i64 d.kind, .int .i64 d.num, .slice A3 d.attrs.length c3] from box_mk hw3)
 try simp only [hw3]
 have HBw3 := Lib.hid (HBw2.out.trans (hbw3.mono HBw2.out.size))
 have tw3 := Lib.hid (tw2.out.kept (grown_none hbw3) (fun e => by cases e))
 have HSdw3 := Lib.hid ((HSd.out).next (Nat.le_refl _) hbw3)
 clear hw3 hbw3
 try rw [show w2.heap.size + 1 = w3.heap.size from HGw3.out.symm]
 clear ct0
 have ct0 := tw3.out.1 0 _ rfl
 have ca0 := HXaw3.out.1 0 _ rfl
 have ca1 := HXaw3.out.1 1 _ rfl
 have ca2 := HXaw3.out.1 2 _ rfl
 have ca3 := HXaw3.out.1 3 _ rfl
 have ca4 := HXaw3.out.1 4 _ rfl
 have ca5 := HXaw3.out.1 5 _ rfl
 have ca6 := HXaw3.out.1 6 _ rfl
 have ca7 := HXaw3.out.1 7 _ rfl
 have ca8 := HXaw3.out.1 8 _ rfl
 have ca9 := HXaw3.out.1 9 _ rfl
 cases q
 ·
  have HE := Lib.hid (base_none HQ.out)
  go_wp2
  go_ret
  exact ⟨HBw3.out, none, 0, by rw [HE.out]; rfl, by rw [HE.out]; exact Sl.nil_⟩
 ·
  have HSZ := Lib.hid (strF_small HV.out n)
  obtain ⟨l0, hl0⟩ : ∃ z : List Attr, [] = z := ⟨_, rfl⟩
  have HL0 := Lib.hid hl0.symm; clear hl0
  go_wp2_with fail
  refine (RPlace_any A c L n _ B (Nat.le_trans HB.out HBw3.out.size) (HX.out.keep (HBw3.out.mono HB.out)) HV.out hn).mono ?_
  rintro e w4 ⟨rfl, hbw4⟩
  clear ct0 ca0 ca1 ca2 ca3 ca4 ca5 ca6 ca7 ca8 ca9
  have HBw4 := Lib.hid (HBw3.out.trans (hbw4.mono HBw3.out.size))
  have tw4 := Lib.hid (tw3.out.kept (grown_none hbw4) (fun e => by cases e))
  have aw4 := Lib.hid (HXaw3.out.kept (grown_none hbw4) (fun e => by cases e))
  have HSdw4 := Lib.hid ((HSdw3.out).next (Nat.le_refl _) hbw4)
  clear hbw4
  have ct0 := tw4.out.1 0 _ rfl
  have ca0 := aw4.out.1 0 _ rfl
  have ca1 := aw4.out.1 1 _ rfl
  have ca2 := aw4.out.1 2 _ rfl
  have ca3 := aw4.out.1 3 _ rfl
  have ca4 := aw4.out.1 4 _ rfl
  have ca5 := aw4.out.1 5 _ rfl
  have ca6 := aw4.out.1 6 _ rfl
  have ca7 := aw4.out.1 7 _ rfl
  have ca8 := aw4.out.1 8 _ rfl
  have ca9 := aw4.out.1 9 _ rfl
  go_wp2_with fail
  refine (Set_any none 0 [] kDevpath (strF L n) _ w4.heap.size (Nat.le_refl _) Sl.nil_ (by decide) (by decide) HSZ.out).mono ?_
  rintro e w5 ⟨hbw5, v1_, rfl, hown⟩
  clear ct0 ca0 ca1 ca2 ca3 ca4 ca5 ca6 ca7 ca8 ca9
  have HBw5 := Lib.hid (HBw4.out.trans (hbw5.mono HBw4.out.size))
  have tw5 := Lib.hid (tw4.out.kept (grown_none hbw5) (fun e => by cases e))
  have aw5 := Lib.hid (aw4.out.kept (grown_none hbw5) (fun e => by cases e))
  have HSdw5 := Lib.hid ((HSdw4.out).next (Nat.le_refl _) hbw5)
  clear hbw5
  have ct0 := tw5.out.1 0 _ rfl
  have ca0 := aw5.out.1 0 _ rfl
  have ca1 := aw5.out.1 1 _ rfl
  have ca2 := aw5.out.1 2 _ rfl
  have ca3 := aw5.out.1 3 _ rfl
  have ca4 := aw5.out.1 4 _ rfl
  have ca5 := aw5.out.1 5 _ rfl
  have ca6 := aw5.out.1 6 _ rfl
  have ca7 := aw5.out.1 7 _ rfl
  have ca8 := aw5.out.1 8 _ rfl
  have ca9 := aw5.out.1 9 _ rfl
  obtain ⟨A1_, c1_, rfl, hs_⟩ := hown.sl
  obtain ⟨l1, hl_⟩ : ∃ z, setA [] kDevpath (strF L n) = z := ⟨_, rfl⟩
  rw [hl_] at hs_ ⊢
  have HS1 := Lib.hid hs_; have HL1 := Lib.hid hl_; clear hs_ hl_ hown
  have HN1 := Lib.hid (show l1.length ≤ 1 from by rw [← HL1.out]; exact set_len (by simp))
  go_wp2_with fail
  refine (Set_any A1_ c1_ l1 kSubsystem d.sub _ w5.heap.size (Nat.le_refl _) HS1.out (by have := HN1.out; omega) (by decide) HOd.out.2.2.2.2.1).mono ?_
  rintro e w6 ⟨hbw6, v2_, rfl, hown⟩
  clear ct0 ca0 ca1 ca2 ca3 ca4 ca5 ca6 ca7 ca8 ca9
  have HBw6 := Lib.hid (HBw5.out.trans (hbw6.mono HBw5.out.size))
  have tw6 := Lib.hid (tw5.out.kept (grown_none hbw6) (fun e => by cases e))
  have aw6 := Lib.hid (aw5.out.kept (grown_none hbw6) (fun e => by cases e))
  have HSdw6 := Lib.hid ((HSdw5.out).next (Nat.le_refl _) hbw6)
  have HS1w6 := Lib.hid ((HS1.out).next (Nat.le_refl _) hbw6)
  clear hbw6
  have ct0 := tw6.out.1 0 _ rfl
  have ca0 := aw6.out.1 0 _ rfl
  have ca1 := aw6.out.1 1 _ rfl
  have ca2 := aw6.out.1 2 _ rfl
  have ca3 := aw6.out.1 3 _ rfl
  have ca4 := aw6.out.1 4 _ rfl
  have ca5 := aw6.out.1 5 _ rfl
  have ca6 := aw6.out.1 6 _ rfl
  have ca7 := aw6.out.1 7 _ rfl
  have ca8 := aw6.out.1 8 _ rfl
  have ca9 := aw6.out.1 9 _ rfl
  obtain ⟨A2_, c2_, rfl, hs_⟩ := hown.sl
  obtain ⟨l2, hl_⟩ : ∃ z, setA l1 kSubsystem d.sub = z := ⟨_, rfl⟩
  rw [hl_] at hs_ ⊢
  have HS2 := Lib.hid hs_; have HL2 := Lib.hid hl_; clear hs_ hl_ hown
  have HN2 := Lib.hid (show l2.length ≤ 2 from by rw [← HL2.out]; exact set_len HN1.out)
  go_wp2_with fail
  refine (Set_any A2_ c2_ l2 kDriver d.drv _ w6.heap.size (Nat.le_refl _) HS2.out (by have := HN2.out; omega) (by decide) HOd.out.2.2.2.2.2.1).mono ?_
  rintro e w7 ⟨hbw7, v3_, rfl, hown⟩
  clear ct0 ca0 ca1 ca2 ca3 ca4 ca5 ca6 ca7 ca8 ca9
  have HBw7 := Lib.hid (HBw6.out.trans (hbw7.mono HBw6.out.size))
  have tw7 := Lib.hid (tw6.out.kept (grown_none hbw7) (fun e => by cases e))
  have aw7 := Lib.hid (aw6.out.kept (grown_none hbw7) (fun e => by cases e))
  have HSdw7 := Lib.hid ((HSdw6.out).next (Nat.le_refl _) hbw7)
  have HS1w7 := Lib.hid ((HS1w6.out).next (Nat.le_refl _) hbw7)
  have HS2w7 := Lib.hid ((HS2.out).next (Nat.le_refl _) hbw7)
  clear hbw7
  have ct0 := tw7.out.1 0 _ rfl
  have ca0 := aw7.out.1 0 _ rfl
  have ca1 := aw7.out.1 1 _ rfl
  have ca2 := aw7.out.1 2 _ rfl
  have ca3 := aw7.out.1 3 _ rfl
  have ca4 := aw7.out.1 4 _ rfl
  have ca5 := aw7.out.1 5 _ rfl
  have ca6 := aw7.out.1 6 _ rfl
  have ca7 := aw7.out.1 7 _ rfl
  have ca8 := aw7.out.1 8 _ rfl
  have ca9 := aw7.out.1 9 _ rfl
  obtain ⟨A3_, c3_, rfl, hs_⟩ := hown.sl
  obtain ⟨l3, hl_⟩ : ∃ z, setA l2 kDriver d.drv = z := ⟨_, rfl⟩
  rw [hl_] at hs_ ⊢
  have HS3 := Lib.hid hs_; have HL3 := Lib.hid hl_; clear hs_ hl_ hown
  have HN3 := Lib.hid (show l3.length ≤ 3 from by rw [← HL3.out]; exact set_len HN2.out)
  go_wp2_with fail
  refine (Set_any A3_ c3_ l3 kModalias d.ali _ w7.heap.size (Nat.le_refl _) HS3.out (by have := HN3.out; omega) (by decide) HOd.out.2.2.2.2.2.2.1).mono ?_
  rintro e w8 ⟨hbw8, v4_, rfl, hown⟩
  clear ct0 ca0 ca1 ca2 ca3 ca4 ca5 ca6 ca7 ca8 ca9
  have HBw8 := Lib.hid (HBw7.out.trans (hbw8.mono HBw7.out.size))
  have tw8 := Lib.hid (tw7.out.kept (grown_none hbw8) (fun e => by cases e))
  have aw8 := Lib.hid (aw7.out.kept (grown_none hbw8) (fun e => by cases e))
  have HSdw8 := Lib.hid ((HSdw7.out).next (Nat.le_refl _) hbw8)
  have HS1w8 := Lib.hid ((HS1w7.out).next (Nat.le_refl _) hbw8)
  have HS2w8 := Lib.hid ((HS2w7.out).next (Nat.le_refl _) hbw8)
  have HS3w8 := Lib.hid ((HS3.out).next (Nat.le_refl _) hbw8)
  clear hbw8
  have ct0 := tw8.out.1 0 _ rfl
  have ca0 := aw8.out.1 0 _ rfl
  have ca1 := aw8.out.1 1 _ rfl
  have ca2 := aw8.out.1 2 _ rfl
  have ca3 := aw8.out.1 3 _ rfl
  have ca4 := aw8.out.1 4 _ rfl
  have ca5 := aw8.out.1 5 _ rfl
  have ca6 := aw8.out.1 6 _ rfl
  have ca7 := aw8.out.1 7 _ rfl
  have ca8 := aw8.out.1 8 _ rfl
  have ca9 := aw8.out.1 9 _ rfl
  obtain ⟨A4_, c4_, rfl, hs_⟩ := hown.sl
  obtain ⟨l4, hl_⟩ : ∃ z, setA l3 kModalias d.ali = z := ⟨_, rfl⟩
  rw [hl_] at hs_ ⊢
  have HS4 := Lib.hid hs_; have HL4 := Lib.hid hl_; clear hs_ hl_ hown
  have HN4 := Lib.hid (show l4.length ≤ 4 from by rw [← HL4.out]; exact set_len HN3.out)
  have HSO := Lib.hid (show d.orig.size ≤ 32 by have := findD_small HV.out n; rw [← Hd.out] at this; exact this)
  obtain ⟨nd, hnd⟩ : ∃ z, (nodeD d).isSome = z := ⟨_, rfl⟩
  have HND := Lib.hid hnd; clear hnd
  go_wp2_with fail
  refine (RNode_any d A3 c3 _ (by have := HSO.out; omega) (HKO.out.next HBw8.out)).mono ?_
  rintro e w9 ⟨rfl, hbw9⟩
  clear ct0 ca0 ca1 ca2 ca3 ca4 ca5 ca6 ca7 ca8 ca9
  have HBw9 := Lib.hid (HBw8.out.trans (hbw9.mono HBw8.out.size))
  have tw9 := Lib.hid (tw8.out.kept (grown_none hbw9) (fun e => by cases e))
  have aw9 := Lib.hid (aw8.out.kept (grown_none hbw9) (fun e => by cases e))
  have HSdw9 := Lib.hid ((HSdw8.out).next (Nat.le_refl _) hbw9)
  have HS1w9 := Lib.hid ((HS1w8.out).next (Nat.le_refl _) hbw9)
  have HS2w9 := Lib.hid ((HS2w8.out).next (Nat.le_refl _) hbw9)
  have HS3w9 := Lib.hid ((HS3w8.out).next (Nat.le_refl _) hbw9)
  have HS4w9 := Lib.hid ((HS4.out).next (Nat.le_refl _) hbw9)
  clear hbw9
  have ct0 := tw9.out.1 0 _ rfl
  have ca0 := aw9.out.1 0 _ rfl
  have ca1 := aw9.out.1 1 _ rfl
  have ca2 := aw9.out.1 2 _ rfl
  have ca3 := aw9.out.1 3 _ rfl
  have ca4 := aw9.out.1 4 _ rfl
  have ca5 := aw9.out.1 5 _ rfl
  have ca6 := aw9.out.1 6 _ rfl
  have ca7 := aw9.out.1 7 _ rfl
  have ca8 := aw9.out.1 8 _ rfl
  have ca9 := aw9.out.1 9 _ rfl
  rw [HND.out]
  cases nd
  ·
   by_cases hk : d.kind = 4
   ·
    have HK := Lib.hid hk
    have hkb : (d.kind == 4) = true := by rw [hk]; rfl
    go_wp2_with fail
    refine (Set_any A4_ c4_ l4 kInterface d.orig _ w9.heap.size (Nat.le_refl _) HS4w9.out (by have := HN4.out; omega) (by decide) HOd.out.2.2.2.1).mono ?_
    rintro e w10 ⟨hbw10, v5_, rfl, hown⟩
    clear ct0 ca0 ca1 ca2 ca3 ca4 ca5 ca6 ca7 ca8 ca9
    have HBw10 := Lib.hid (HBw9.out.trans (hbw10.mono HBw9.out.size))
    have tw10 := Lib.hid (tw9.out.kept (grown_none hbw10) (fun e => by cases e))
    have aw10 := Lib.hid (aw9.out.kept (grown_none hbw10) (fun e => by cases e))
    have HSdw10 := Lib.hid ((HSdw9.out).next (Nat.le_refl _) hbw10)
    have HS1w10 := Lib.hid ((HS1w9.out).next (Nat.le_refl _) hbw10)
    have HS2w10 := Lib.hid ((HS2w9.out).next (Nat.le_refl _) hbw10)
    have HS3w10 := Lib.hid ((HS3w9.out).next (Nat.le_refl _) hbw10)
    have HS4w10 := Lib.hid ((HS4w9.out).next (Nat.le_refl _) hbw10)
    clear hbw10
    have ct0 := tw10.out.1 0 _ rfl
    have ca0 := aw10.out.1 0 _ rfl
    have ca1 := aw10.out.1 1 _ rfl
    have ca2 := aw10.out.1 2 _ rfl
    have ca3 := aw10.out.1 3 _ rfl
    have ca4 := aw10.out.1 4 _ rfl
    have ca5 := aw10.out.1 5 _ rfl
    have ca6 := aw10.out.1 6 _ rfl
    have ca7 := aw10.out.1 7 _ rfl
    have ca8 := aw10.out.1 8 _ rfl
    have ca9 := aw10.out.1 9 _ rfl
    obtain ⟨A5_, c5_, rfl, hs_⟩ := hown.sl
    obtain ⟨l5, hl_⟩ : ∃ z, setA l4 kInterface d.orig = z := ⟨_, rfl⟩
    rw [hl_] at hs_ ⊢
    have HS5 := Lib.hid hs_; have HL5 := Lib.hid hl_; clear hs_ hl_ hown
    have HN5 := Lib.hid (show l5.length ≤ 5 from by rw [← HL5.out]; exact set_len HN4.out)
    have HE := Lib.hid (show baseL L n = l5 from by rw [base_some HQ.out Hd.out]; unfold baseP; rw [if_neg (by rw [HND.out]; decide), if_pos HK.out]; simp only [List.append_nil, List.cons_append, List.nil_append, putAll, List.foldl_cons, List.foldl_nil]; rw [HL1.out, HL2.out, HL3.out, HL4.out, HL5.out])
    go_wp2
    go_ret
    exact ⟨HBw10.out, A5_, c5_, by rw [HE.out]; rfl, by rw [HE.out]; exact HS5.out⟩
   ·
    have HK := Lib.hid hk
    have hkb : (d.kind == 4) = false := by simpa using hk
    have HE := Lib.hid (show baseL L n = l4 from by rw [base_some HQ.out Hd.out]; unfold baseP; rw [if_neg (by rw [HND.out]; decide), if_neg HK.out]; simp only [List.append_nil, List.cons_append, List.nil_append, putAll, List.foldl_cons, List.foldl_nil]; rw [HL1.out, HL2.out, HL3.out, HL4.out])
    go_wp2
    go_ret
    exact ⟨HBw9.out, A4_, c4_, by rw [HE.out]; rfl, by rw [HE.out]; exact HS4w9.out⟩
  ·
   go_wp2_with fail
   refine (Set_any A4_ c4_ l4 kDevname (nodeV d) _ w9.heap.size (Nat.le_refl _) HS4w9.out (by have := HN4.out; omega) (by decide) (by have := node_small HSO.out; unfold maxLen; omega)).mono ?_
   rintro e w11 ⟨hbw11, v5_, rfl, hown⟩
   clear ct0 ca0 ca1 ca2 ca3 ca4 ca5 ca6 ca7 ca8 ca9
   have HBw11 := Lib.hid (HBw9.out.trans (hbw11.mono HBw9.out.size))
   have tw11 := Lib.hid (tw9.out.kept (grown_none hbw11) (fun e => by cases e))
   have aw11 := Lib.hid (aw9.out.kept (grown_none hbw11) (fun e => by cases e))
   have HSdw11 := Lib.hid ((HSdw9.out).next (Nat.le_refl _) hbw11)
   have HS1w11 := Lib.hid ((HS1w9.out).next (Nat.le_refl _) hbw11)
   have HS2w11 := Lib.hid ((HS2w9.out).next (Nat.le_refl _) hbw11)
   have HS3w11 := Lib.hid ((HS3w9.out).next (Nat.le_refl _) hbw11)
   have HS4w11 := Lib.hid ((HS4w9.out).next (Nat.le_refl _) hbw11)
   clear hbw11
   have ct0 := tw11.out.1 0 _ rfl
   have ca0 := aw11.out.1 0 _ rfl
   have ca1 := aw11.out.1 1 _ rfl
   have ca2 := aw11.out.1 2 _ rfl
   have ca3 := aw11.out.1 3 _ rfl
   have ca4 := aw11.out.1 4 _ rfl
   have ca5 := aw11.out.1 5 _ rfl
   have ca6 := aw11.out.1 6 _ rfl
   have ca7 := aw11.out.1 7 _ rfl
   have ca8 := aw11.out.1 8 _ rfl
   have ca9 := aw11.out.1 9 _ rfl
   obtain ⟨A5_, c5_, rfl, hs_⟩ := hown.sl
   obtain ⟨l5, hl_⟩ : ∃ z, setA l4 kDevname (nodeV d) = z := ⟨_, rfl⟩
   rw [hl_] at hs_ ⊢
   have HS5 := Lib.hid hs_; have HL5 := Lib.hid hl_; clear hs_ hl_ hown
   have HN5 := Lib.hid (show l5.length ≤ 5 from by rw [← HL5.out]; exact set_len HN4.out)
   go_wp2_with fail
   refine (Itoa_any d.num _ (HOK.out.below HBw11.out) HOd.out.2.2.2.2.2.2.2.2).mono ?_
   rintro e w12 ⟨rfl, hbw12⟩
   clear ct0 ca0 ca1 ca2 ca3 ca4 ca5 ca6 ca7 ca8 ca9
   have HBw12 := Lib.hid (HBw11.out.trans (hbw12.mono HBw11.out.size))
   have tw12 := Lib.hid (tw11.out.kept (grown_none hbw12) (fun e => by cases e))
   have aw12 := Lib.hid (aw11.out.kept (grown_none hbw12) (fun e => by cases e))
   have HSdw12 := Lib.hid ((HSdw11.out).next (Nat.le_refl _) hbw12)
   have HS1w12 := Lib.hid ((HS1w11.out).next (Nat.le_refl _) hbw12)
   have HS2w12 := Lib.hid ((HS2w11.out).next (Nat.le_refl _) hbw12)
   have HS3w12 := Lib.hid ((HS3w11.out).next (Nat.le_refl _) hbw12)
   have HS4w12 := Lib.hid ((HS4w11.out).next (Nat.le_refl _) hbw12)
   have HS5w12 := Lib.hid ((HS5.out).next (Nat.le_refl _) hbw12)
   clear hbw12
   have ct0 := tw12.out.1 0 _ rfl
   have ca0 := aw12.out.1 0 _ rfl
   have ca1 := aw12.out.1 1 _ rfl
   have ca2 := aw12.out.1 2 _ rfl
   have ca3 := aw12.out.1 3 _ rfl
   have ca4 := aw12.out.1 4 _ rfl
   have ca5 := aw12.out.1 5 _ rfl
   have ca6 := aw12.out.1 6 _ rfl
   have ca7 := aw12.out.1 7 _ rfl
   have ca8 := aw12.out.1 8 _ rfl
   have ca9 := aw12.out.1 9 _ rfl
   go_wp2_with fail
   refine (Set_any A5_ c5_ l5 kNumber (itoaT d.num) _ w12.heap.size (Nat.le_refl _) HS5w12.out (by have := HN5.out; omega) (by decide) (itoaT_small HOd.out.2.2.2.2.2.2.2.2)).mono ?_
   rintro e w13 ⟨hbw13, v6_, rfl, hown⟩
   clear ct0 ca0 ca1 ca2 ca3 ca4 ca5 ca6 ca7 ca8 ca9
   have HBw13 := Lib.hid (HBw12.out.trans (hbw13.mono HBw12.out.size))
   have tw13 := Lib.hid (tw12.out.kept (grown_none hbw13) (fun e => by cases e))
   have aw13 := Lib.hid (aw12.out.kept (grown_none hbw13) (fun e => by cases e))
   have HSdw13 := Lib.hid ((HSdw12.out).next (Nat.le_refl _) hbw13)
   have HS1w13 := Lib.hid ((HS1w12.out).next (Nat.le_refl _) hbw13)
   have HS2w13 := Lib.hid ((HS2w12.out).next (Nat.le_refl _) hbw13)
   have HS3w13 := Lib.hid ((HS3w12.out).next (Nat.le_refl _) hbw13)
   have HS4w13 := Lib.hid ((HS4w12.out).next (Nat.le_refl _) hbw13)
   have HS5w13 := Lib.hid ((HS5w12.out).next (Nat.le_refl _) hbw13)
   clear hbw13
   have ct0 := tw13.out.1 0 _ rfl
   have ca0 := aw13.out.1 0 _ rfl
   have ca1 := aw13.out.1 1 _ rfl
   have ca2 := aw13.out.1 2 _ rfl
   have ca3 := aw13.out.1 3 _ rfl
   have ca4 := aw13.out.1 4 _ rfl
   have ca5 := aw13.out.1 5 _ rfl
   have ca6 := aw13.out.1 6 _ rfl
   have ca7 := aw13.out.1 7 _ rfl
   have ca8 := aw13.out.1 8 _ rfl
   have ca9 := aw13.out.1 9 _ rfl
   obtain ⟨A6_, c6_, rfl, hs_⟩ := hown.sl
   obtain ⟨l6, hl_⟩ : ∃ z, setA l5 kNumber (itoaT d.num) = z := ⟨_, rfl⟩
   rw [hl_] at hs_ ⊢
   have HS6 := Lib.hid hs_; have HL6 := Lib.hid hl_; clear hs_ hl_ hown
   have HN6 := Lib.hid (show l6.length ≤ 6 from by rw [← HL6.out]; exact set_len HN5.out)
   by_cases hk : d.kind = 4
   ·
    have HK := Lib.hid hk
    have hkb : (d.kind == 4) = true := by rw [hk]; rfl
    go_wp2_with fail
    refine (Set_any A6_ c6_ l6 kInterface d.orig _ w13.heap.size (Nat.le_refl _) HS6.out (by have := HN6.out; omega) (by decide) HOd.out.2.2.2.1).mono ?_
    rintro e w14 ⟨hbw14, v7_, rfl, hown⟩
    clear ct0 ca0 ca1 ca2 ca3 ca4 ca5 ca6 ca7 ca8 ca9
    have HBw14 := Lib.hid (HBw13.out.trans (hbw14.mono HBw13.out.size))
    have tw14 := Lib.hid (tw13.out.kept (grown_none hbw14) (fun e => by cases e))
    have aw14 := Lib.hid (aw13.out.kept (grown_none hbw14) (fun e => by cases e))
    have HSdw14 := Lib.hid ((HSdw13.out).next (Nat.le_refl _) hbw14)
    have HS1w14 := Lib.hid ((HS1w13.out).next (Nat.le_refl _) hbw14)
    have HS2w14 := Lib.hid ((HS2w13.out).next (Nat.le_refl _) hbw14)
    have HS3w14 := Lib.hid ((HS3w13.out).next (Nat.le_refl _) hbw14)
    have HS4w14 := Lib.hid ((HS4w13.out).next (Nat.le_refl _) hbw14)
    have HS5w14 := Lib.hid ((HS5w13.out).next (Nat.le_refl _) hbw14)
    have HS6w14 := Lib.hid ((HS6.out).next (Nat.le_refl _) hbw14)
    clear hbw14
    have ct0 := tw14.out.1 0 _ rfl
    have ca0 := aw14.out.1 0 _ rfl
    have ca1 := aw14.out.1 1 _ rfl
    have ca2 := aw14.out.1 2 _ rfl
    have ca3 := aw14.out.1 3 _ rfl
    have ca4 := aw14.out.1 4 _ rfl
    have ca5 := aw14.out.1 5 _ rfl
    have ca6 := aw14.out.1 6 _ rfl
    have ca7 := aw14.out.1 7 _ rfl
    have ca8 := aw14.out.1 8 _ rfl
    have ca9 := aw14.out.1 9 _ rfl
    obtain ⟨A7_, c7_, rfl, hs_⟩ := hown.sl
    obtain ⟨l7, hl_⟩ : ∃ z, setA l6 kInterface d.orig = z := ⟨_, rfl⟩
    rw [hl_] at hs_ ⊢
    have HS7 := Lib.hid hs_; have HL7 := Lib.hid hl_; clear hs_ hl_ hown
    have HN7 := Lib.hid (show l7.length ≤ 7 from by rw [← HL7.out]; exact set_len HN6.out)
    have HE := Lib.hid (show baseL L n = l7 from by rw [base_some HQ.out Hd.out]; unfold baseP; rw [if_pos HND.out, if_pos HK.out]; simp only [List.append_nil, List.cons_append, List.nil_append, putAll, List.foldl_cons, List.foldl_nil]; rw [HL1.out, HL2.out, HL3.out, HL4.out, HL5.out, HL6.out, HL7.out])
    go_wp2
    go_ret
    exact ⟨HBw14.out, A7_, c7_, by rw [HE.out]; rfl, by rw [HE.out]; exact HS7.out⟩
   ·
    have HK := Lib.hid hk
    have hkb : (d.kind == 4) = false := by simpa using hk
    have HE := Lib.hid (show baseL L n = l6 from by rw [base_some HQ.out Hd.out]; unfold baseP; rw [if_pos HND.out, if_neg HK.out]; simp only [List.append_nil, List.cons_append, List.nil_append, putAll, List.foldl_cons, List.foldl_nil]; rw [HL1.out, HL2.out, HL3.out, HL4.out, HL5.out, HL6.out])
    go_wp2
    go_ret
    exact ⟨HBw13.out, A6_, c6_, by rw [HE.out]; rfl, by rw [HE.out]; exact HS6.out⟩
end Go.Proofs.YtjpoljlgkgmdkaaGreatDoor
