/-
  ContentParses answers true for every text and every tape: program and reference read the same content out of any text, or answer the same error.
  Conditions: those of the given row and card, nothing else.
-/
import Derived.Test.YtnlocdhhecockaaGreatDoorRdG
import Derived.Test.YtnlocdhhecockaaGreatDoorCsA
import Derived.Test.YtnlocdhhecockaaGreatDoorCpE
import Derived.Test.YtnlocdhhecockaaGreatDoorIxC
import Derived.Test.YtnlocdhhecockaaGreatDoorCnD
set_option linter.unusedSimpArgs false
set_option linter.unusedVariables false
namespace Go.Proofs.YtnlocdhhecockaaGreatDoor
open Go.RowKit Go.Cold Go.Sort

theorem tape_at {w : World} {B : Nat} {A : Option Addr} {c : Nat} {xs : List Int} (h : Sl w B A c xs) (hB : B ≤ w.heap.size) : TapeAt (w.alloc (.cells #[.slice A xs.length c, .int .i64 0] 27)) B w.heap.size xs 0 := by
  refine ⟨A, c, ?_, ?_, fun j => World.frozen?_alloc_at _ _ _ _ rfl, h.keep ((Below.refl _ _).alloc hB _), hB, by simp⟩ <;> (rw [World.cell?_alloc_at _ _ _ _ rfl]; rfl)
/-- What both parsers answer. -/
noncomputable def valP (s : ByteArray) : Cont := (parseC s).getD zeroC
noncomputable def errP (s : ByteArray) : Int := if (parseC s).isSome then 0 else if 256 < s.size then 71 else 70
theorem crd_zero (w : World) : CRd w w.heap.size zeroC zeroL := by
  unfold zeroC zeroL
  show CRdS w (fun x => x < w.heap.size) _ _
  rw [CRdS]
  exact ⟨none, 0, rfl, ⟨by unfold okInt; omega, by unfold maxLen; decide, by unfold maxLen; decide, by unfold okInt; omega, by unfold okInt; omega, by unfold okInt; omega⟩, Nat.le_refl _, by unfold maxLen; omega, fun h => by simp at h⟩
theorem parse_pair {s : ByteArray} {w w' : World} {e : Ending} (h : ParsePost s w e w') : Below w.heap.size w w' ∧ ∃ cs, e = .returned (.tuple #[.agg cs.toArray, .int .i64 (errP s)]) ∧ CRd w' w'.heap.size (valP s) cs := by
  obtain ⟨hb, hor⟩ := h
  refine ⟨hb, ?_⟩
  rcases hor with ⟨c, cs, hc, rfl, hnew, -⟩ | ⟨hc, rfl⟩
  · exact ⟨cs, by unfold errP; rw [hc]; rfl, by unfold valP; rw [hc]; exact hnew.crd⟩
  · exact ⟨zeroL, by unfold errP; rw [hc]; rfl, by unfold valP; rw [hc]; exact crd_zero w'⟩

set_option maxHeartbeats 8000000 in
set_option maxRecDepth 100000 in
theorem lawParses_any (s : ByteArray) (A : Option Addr) (c : Nat) (xs : List Int) (w : World) (hok : Ok7 w ∧ Ok8 w) (hs : s.size ≤ maxLen) (hx : Sl w w.heap.size A c xs) :
    Calls Tryz.prog 3 #[.string s, .slice A xs.length c] w fun e w' => e = .returned (.bool true) ∧ Below w.heap.size w w' := by
  have HOK := Lib.hid hok.1; have HOK8 := Lib.hid hok.2; have HX := Lib.hid hx; have HSZ := Lib.hid hs
  clear hok hx hs
  go_enter Tryz.func3, Tryz.ntmps3
  by_cases h6 : 600 < s.size
  · have i1 : (600 : Int) < (s.size : Int) := by omega
    have hkn := known_any w HOK.out
    have HKN := Lib.hid hkn; clear hkn
    go_wp2_with fail
    refine HKN.out.mono ?_
    rintro e w2 ⟨rfl, hb2⟩
    go_wp2
    go_ret
    exact ⟨rfl, hb2⟩
  have i1 : ¬ (600 : Int) < (s.size : Int) := by omega
  clear h6
  go_wp2_with fail
  have htape := tape_at HX.out (Nat.le_refl _)
  obtain ⟨w1, hw1⟩ : ∃ w1, w.alloc (.cells #[.slice A xs.length c, .int .i64 0] 27) = w1 := ⟨_, rfl⟩
  rw [hw1] at htape ⊢
  have hb1 : Below w.heap.size w w1 := by rw [← hw1]; exact (Below.refl _ _).alloc (Nat.le_refl _) _
  have HB1 := Lib.hid hb1; have HT1 := Lib.hid htape
  clear hw1 hb1 htape i1
  refine (ltext_any xs w.heap.size w.heap.size 0 w1 (by decide) HT1.out).mono ?_
  rintro e w8 ⟨u, rfl, hus, hg8⟩
  have hb8 : Below w.heap.size w w8 := below_of_grown HB1.out hg8 HB1.out.size (Nat.le_refl _)
  have HB8 := Lib.hid hb8; have HUS := Lib.hid hus
  clear hb8 hus hg8
  go_upto_region 4 with fail
  obtain ⟨w9, hw9⟩ : ∃ w9, w8.alloc (.cells #[.string s, .string u] 9) = w9 := ⟨_, rfl⟩
  have hb9 : Below w8.heap.size w8 w9 := by rw [← hw9]; exact (Below.refl _ _).alloc (Nat.le_refl _) _
  have hbl : BoxL w9 w8.heap.size [.string s, .string u] := box_mk hw9
  rw [hw9]
  have hb09 := HB8.out.trans (hb9.mono HB8.out.size)
  have HB9 := Lib.hid hb09; have HBL := Lib.hid hbl
  clear hb9 hbl hb09 hw9
  go_wp2_with fail
  go_loopw [6] (fun i wr => ∃ m : Nat, m ≤ 2 ∧ i = .int .i64 m ∧ Below w9.heap.size w9 wr) (fun i _ => 2 - (intOf i).toNat)
  case atStart => exact ⟨0, by decide, rfl, Below.refl _ _⟩
  case round =>
    obtain ⟨m, hm, rfl, hb⟩ := hrel
    have h0r : Below w.heap.size w wr := HB9.out.trans (hb.mono HB9.out.size)
    by_cases hlt : m < 2
    · have i1 : (m : Int) < 2 := by omega
      have hcell : ∃ q : ByteArray, q.size ≤ maxLen ∧ ∀ W, Below wr.heap.size wr W → W.cell? ⟨w8.heap.size, m, none⟩ = some (.string q) := by
        have h9 : ∀ W, Below wr.heap.size wr W → BoxL W w8.heap.size [.string s, .string u] := fun W hW => (HBL.out.kept (grown_none hb) (fun e => by cases e)).kept (grown_none hW) (fun e => by cases e)
        have hm2 : m = 0 ∨ m = 1 := by omega
        rcases hm2 with rfl | rfl
        · exact ⟨s, HSZ.out, fun W hW => (h9 W hW).1 0 _ rfl⟩
        · exact ⟨u, by have := HUS.out; unfold maxLen; omega, fun W hW => (h9 W hW).1 1 _ rfl⟩
      obtain ⟨q, hq, hqc⟩ := hcell
      have hqr := hqc wr (Below.refl _ _)
      obtain ⟨X, hX⟩ : ∃ X, valP q = X := ⟨_, rfl⟩
      obtain ⟨y, hy⟩ : ∃ y, errP q = y := ⟨_, rfl⟩
      have hpair : ∀ (w w' : World) (e : Ending), ParsePost q w e w' → Below w.heap.size w w' ∧ ∃ cs, e = .returned (.tuple #[.agg cs.toArray, .int .i64 y]) ∧ CRd w' w'.heap.size X cs := fun _ _ _ h => by
        have h2 := parse_pair h
        rw [hX, hy] at h2
        exact h2
      have HQ := Lib.hid hq; have HQC := Lib.hid hqc; have HBR := Lib.hid hb; have H0R := Lib.hid h0r; have HPAIR := Lib.hid hpair
      clear hq hqc hb h0r hpair hX hy
      go_wp2_with fail
      refine (Parse_any q (fun h => IxOk_any _ (by omega)) wr HQ.out (HOK.out.below H0R.out)).mono ?_
      intro e w10 hp
      obtain ⟨hb10, cs, rfl, hrd⟩ := HPAIR.out _ _ _ hp
      clear hp
      obtain ⟨k, i, l, sl, t, le, ys⟩ := X
      have hcs := CRd_iff.1 hrd
      obtain ⟨A2, c2, rfl, -, -⟩ := hcs
      simp only [contCells] at hrd ⊢
      have HB10 := Lib.hid hb10; have HRD := Lib.hid hrd
      clear hb10 hrd hqr
      go_upto_region 8 with fail
      obtain ⟨w11, hw11⟩ : ∃ w11, w10.alloc (.cells #[.int .i64 k, .string i, .string l, .int .i64 sl, .int .i64 t, .int .i64 le, .slice A2 ys.length c2] 31) = w11 := ⟨_, rfl⟩
      obtain ⟨hb11, hg11, hbox11⟩ := box7 hw11
      rw [hw11]
      have hbr11 : Below wr.heap.size wr w11 := HB10.out.trans (hb11.mono HB10.out.size)
      have hqr := HQC.out w11 hbr11
      have hrd11 := CRd_more (show w10.heap.size ≤ w11.heap.size by omega) _ _ (CRd_keep hb11 _ _ HRD.out)
      have HB11 := Lib.hid hbr11; have HBOX := Lib.hid hbox11; have HG11 := Lib.hid hg11; have HRD11 := Lib.hid hrd11
      have HW := Lib.hid (HB9.out.trans ((HBR.out.trans (hbr11.mono HBR.out.size)).mono HB9.out.size))
      clear hw11 hb11 hg11 hbox11 hbr11 hrd11
      go_wp2_with fail
      refine (RParse_any q w11 HQ.out (HOK8.out.below HW.out)).mono ?_
      intro e w12 hp
      obtain ⟨hb12, cs2, rfl, hrd2⟩ := HPAIR.out _ _ _ hp
      clear hp
      have hcs := CRd_iff.1 hrd2
      obtain ⟨A3, c3, rfl, -, -⟩ := hcs
      simp only [contCells] at hrd2 ⊢
      have HB12 := Lib.hid hb12; have HRD2 := Lib.hid hrd2
      clear hb12 hrd2 hqr
      go_upto_region 9 with fail
      obtain ⟨w13, hw13⟩ : ∃ w13, w12.alloc (.cells #[.int .i64 k, .string i, .string l, .int .i64 sl, .int .i64 t, .int .i64 le, .slice A3 ys.length c3] 31) = w13 := ⟨_, rfl⟩
      obtain ⟨hb13, hg13, hbox13⟩ := box7 hw13
      rw [hw13]
      have hb1113 : Below w11.heap.size w11 w13 := HB12.out.trans (hb13.mono HB12.out.size)
      obtain ⟨d0, d1, d2, d3, d4, d5, d6⟩ := (HBOX.out.keep hb1113 (by have := HG11.out; omega)).zero
      obtain ⟨f0, f1, f2, f3, f4, f5, f6⟩ := hbox13.zero
      have h1 := CRd_more hb1113.size _ _ (CRd_keep hb1113 _ _ HRD11.out)
      have h2 := CRd_more (show w12.heap.size ≤ w13.heap.size by omega) _ _ (CRd_keep hb13 _ _ HRD2.out)
      have hsame := RSame_any _ _ _ _ w13 h1 h2
      rw [sameC_self] at hsame
      have HSAME := Lib.hid hsame; have HB13 := Lib.hid hb1113
      clear hw13 hb13 hg13 hbox13 hb1113 h1 h2 hsame
      go_wp2_with fail
      refine HSAME.out.mono ?_
      rintro e w14 ⟨rfl, hb14⟩
      have hbn : Below wr.heap.size wr w14 := HB11.out.trans ((HB13.out.trans (hb14.mono HB13.out.size)).mono HB11.out.size)
      have HBN := Lib.hid (HBR.out.trans (hbn.mono HBR.out.size))
      clear hbn hb14 d0 d1 d2 d3 d4 d5 d6 f0 f1 f2 f3 f4 f5 f6
      go_wp2
      go_roundw
      case rel => exact ⟨m + 1, by omega, by go_num, HBN.out⟩
      case measure => simp [intOf]; omega
    · have hm2 : m = 2 := by omega
      have i1 : ¬ (m : Int) < 2 := by omega
      have hkn := known_any wr (HOK.out.below h0r)
      have HKN := Lib.hid hkn; have H0R := Lib.hid h0r
      clear hkn h0r hb
      go_wp2_with fail
      refine HKN.out.mono ?_
      rintro e w10 ⟨rfl, hb10⟩
      go_wp2
      go_ret
      exact ⟨rfl, H0R.out.trans (hb10.mono H0R.out.size)⟩
end Go.Proofs.YtnlocdhhecockaaGreatDoor
