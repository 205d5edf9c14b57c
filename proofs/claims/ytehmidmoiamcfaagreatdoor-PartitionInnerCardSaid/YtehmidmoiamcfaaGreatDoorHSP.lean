/-
  The walk of layer 7's reference: Parse.
-/
import Derived.Test.YtehmidmoiamcfaaGreatDoorHSO
import Derived.Test.YtehmidmoiamcfaaGreatDoorHSN
import Derived.Test.YtehmidmoiamcfaaGreatDoorHSJ
import Derived.Test.YtehmidmoiamcfaaGreatDoorHShf
import Derived.Shelf.Strings.IndexAnyAll
import Derived.Laws.RangeAny
import Derived.Laws.Runes
import Derived.Lib.MapLaws
import Derived.WalkMore
import Derived.Deep.DeepMust
import Derived.Lib.OthersKept
import Derived.Test.YtehmidmoiamcfaaGreatDoorHSH
set_option linter.unusedSimpArgs false
set_option linter.unusedVariables false
namespace Go.Proofs.YtehmidmoiamcfaaGreatDoor
open Go.RowKit Go.Cold

set_option maxHeartbeats 8000000 in
set_option maxRecDepth 100000 in
/-- The reference's Parse answers as the program's. -/
theorem RParse_any (s : ByteArray) (w : World) (hsz : s.size ≤ maxLen) (hok : Ok8 w) : Calls Tryz.prog 45 #[.string s] w (ParsePost s w) := by
 have hzv := (zero_of_info (P := Tryz.prog) (t := 36) info_cont2).1
 unfold maxLen at hsz
 by_cases hs : s.size ≤ 256
 case neg =>
  have i1 : ¬ (s.size : Int) ≤ 256 := by omega
  have i2 : (256 : Int) < (s.size : Int) := by omega
  have hn : parseC s = none := by unfold parseC; rw [if_pos (by omega)]
  have HN := Lib.hid hn; clear hn
  go_enter Tryz.func45, Tryz.ntmps45
  go_wp2
  refine bodyPost_ret (v := .tuple #[.agg #[.int .i64 0, .string ByteArray.empty, .string ByteArray.empty, .int .i64 0, .int .i64 0, .int .i64 0, .slice none 0 0], .int .i64 71]) (by simp [results, Tryz.results45, go_sem]) rfl ⟨?_, .inr ⟨HN.out, by rw [if_pos (by omega)]; rfl⟩⟩
  (repeat first | refine Below.setCell ?_ (by first | (simp; done) | (simp; omega)) _ | refine Below.alloc ?_ (by first | (simp; done) | (simp; omega)) _); exact Below.refl _ _
 have i1 : (s.size : Int) ≤ 256 := by omega
 have i2 : ¬ (256 : Int) < (s.size : Int) := by omega
 have HOK := Lib.hid hok
 clear hok hsz
 go_enter Tryz.func45, Tryz.ntmps45
 go_upto_region 3 with fail
 obtain ⟨w1, hw1⟩ : ∃ w1, w.alloc (.cells #[.int .i64 0, .string ByteArray.empty, .string ByteArray.empty, .int .i64 0, .int .i64 0, .int .i64 0, .slice none 0 0] 36) = w1 := ⟨_, rfl⟩
 obtain ⟨hb1, hg1, -⟩ := box7 hw1
 have hr1 : BoxL w1 w.heap.size zeroL := box_mk hw1
 rw [hw1]
 have HB1 := Lib.hid hb1; have HG1 := Lib.hid hg1; have HR1 := Lib.hid hr1
 clear hw1 hb1 hg1 hr1
 have hfail : parseC s = none → ∀ (w5 : World), Below w.heap.size w w5 → ParsePost s w (.returned (.tuple #[zeroA, .int .i64 70])) (((((((w5.setCell ⟨w.heap.size, 0, none⟩ (.int .i64 0)).setCell ⟨w.heap.size, 1, none⟩ (.string ByteArray.empty)).setCell ⟨w.heap.size, 2, none⟩ (.string ByteArray.empty)).setCell ⟨w.heap.size, 3, none⟩ (.int .i64 0)).setCell ⟨w.heap.size, 4, none⟩ (.int .i64 0)).setCell ⟨w.heap.size, 5, none⟩ (.int .i64 0)).setCell ⟨w.heap.size, 6, none⟩ (.slice none 0 0)) := by
  intro h w5 hb5
  exact ⟨below7 hb5 (Nat.le_refl _) _ _ _ _ _ _ _, .inr ⟨h, by rw [if_neg (by omega)]⟩⟩
 have HFAIL := Lib.hid hfail; clear hfail
 have hpc : parseC s = (match readR 6 s with
  | none => none
  | some (c, r) => if r.size = 0 ∧ badC c = false ∧ textC c = s then some c else none) := by
  rw [← ref_parse]; unfold refP; rw [if_neg (by omega)]; cases readR 6 s <;> rfl
 have HPC := Lib.hid hpc; clear hpc
 go_wp2_with fail
 clear i1 i2
 refine Calls.mono (read_any 6 (by decide) s w1 hs (HOK.out.below HB1.out) : Calls Tryz.prog 80 #[.string s, .int .i64 6] w1 _) ?_
 rintro e w2 ⟨hb2, hor⟩
 have HB2 := Lib.hid hb2
 have HR2 := Lib.hid (HR1.out.kept (grown_none hb2) (fun e => by cases e)); have HB02 := Lib.hid (HB1.out.trans (hb2.mono HB1.out.size))
 clear hb2
 rcases hor with ⟨c, cs, r, hR, rfl, hnew⟩ | ⟨hR, k, i, l, sl, t, le, A, n, cp, rfl⟩
 case inr =>
  have hn : parseC s = none := by rw [HPC.out, hR]
  have HN := Lib.hid hn; clear hn hR
  go_upto_region 4 with fail
  obtain ⟨w3, hw3⟩ : ∃ w3, w2.alloc (.cells #[.int .i64 k, .string i, .string l, .int .i64 sl, .int .i64 t, .int .i64 le, .slice A n cp] 36) = w3 := ⟨_, rfl⟩
  obtain ⟨hb3, hg3, -⟩ := box7 hw3
  rw [hw3]
  have HR3 := Lib.hid (HR2.out.kept (grown_none hb3) (fun e => by cases e)); have HB03 := Lib.hid (HB02.out.trans (hb3.mono HB02.out.size))
  clear hw3 hb3 hg3
  have y0 := HR3.out.1 0 _ rfl; have y1 := HR3.out.1 1 _ rfl; have y2 := HR3.out.1 2 _ rfl; have y3 := HR3.out.1 3 _ rfl; have y4 := HR3.out.1 4 _ rfl; have y5 := HR3.out.1 5 _ rfl; have y6 := HR3.out.1 6 _ rfl; have yf := HR3.out.2.1
  go_wp2
  exact bodyPost_ret (v := .tuple #[.agg #[.int .i64 0, .string ByteArray.empty, .string ByteArray.empty, .int .i64 0, .int .i64 0, .int .i64 0, .slice none 0 0], .int .i64 70]) (by simp [results, Tryz.results45, go_sem, y0, y1, y2, y3, y4, y5, y6]) rfl (HFAIL.out HN.out _ HB03.out)
 have hlen := read_len _ _ _ _ hR
 have hpc2 := HPC.out
 rw [hR] at hpc2
 simp only at hpc2
 have HPC2 := Lib.hid hpc2; have HLEN := Lib.hid hlen; clear hpc2 hlen hR
 obtain ⟨k, i, l, sl, t, le, xs⟩ := c
 obtain ⟨A, cp, rfl⟩ := CRdS_cells hnew
 simp only [contCells]
 have HNEW := Lib.hid hnew; clear hnew
 go_upto_region 4 with fail
 obtain ⟨w3, hw3⟩ : ∃ w3, w2.alloc (.cells #[.int .i64 k, .string i, .string l, .int .i64 sl, .int .i64 t, .int .i64 le, .slice A xs.length cp] 36) = w3 := ⟨_, rfl⟩
 obtain ⟨hb3, hg3, hbox3⟩ := box7 hw3
 rw [hw3]
 have HR3 := Lib.hid (HR2.out.kept (grown_none hb3) (fun e => by cases e)); have HB03 := Lib.hid (HB02.out.trans (hb3.mono HB02.out.size))
 have hnew3 : CRdS w3 (fun x => w1.heap.size ≤ x ∧ x < w2.heap.size) (.mk k i l sl t le xs) (contCells k i l sl t le A xs.length cp) := CRdS_mono (fun _ h => h) (fun y o u hy hu => (hb3.cell (p := ⟨y, o, none⟩) (by exact hy.2)).trans hu) _ _ HNEW.out
 have hx3 : CRd w3 w3.heap.size (.mk k i l sl t le xs) (contCells k i l sl t le A xs.length cp) := CRd_more (by omega) _ _ (CRd_keep hb3 _ _ HNEW.out.crd)
 have HNEW3 := Lib.hid hnew3; have HX3 := Lib.hid hx3; have HBOX3 := Lib.hid hbox3; have HG3 := Lib.hid hg3
 clear hw3 hb3 hg3 hbox3 hnew3 hx3 HNEW
 by_cases hr0 : r.size = 0
 case neg =>
  have hre : ¬ r.toList = [] := fun h => hr0 (by rw [(empty_iff r).1 h]; rfl)
  have hre2 : r.toList.isEmpty = false := by simpa using hre
  have hre3 : (!r.toList.isEmpty) = true := by rw [hre2]; rfl
  have hn : parseC s = none := by rw [HPC2.out, if_neg (fun h => hr0 h.1)]
  have HN := Lib.hid hn; clear hn hr0
  have y0 := HR3.out.1 0 _ rfl; have y1 := HR3.out.1 1 _ rfl; have y2 := HR3.out.1 2 _ rfl; have y3 := HR3.out.1 3 _ rfl; have y4 := HR3.out.1 4 _ rfl; have y5 := HR3.out.1 5 _ rfl; have y6 := HR3.out.1 6 _ rfl; have yf := HR3.out.2.1
  go_wp2
  exact bodyPost_ret (v := .tuple #[.agg #[.int .i64 0, .string ByteArray.empty, .string ByteArray.empty, .int .i64 0, .int .i64 0, .int .i64 0, .slice none 0 0], .int .i64 70]) (by simp [results, Tryz.results45, go_sem, y0, y1, y2, y3, y4, y5, y6]) rfl (HFAIL.out HN.out _ HB03.out)
 have hre : r.toList = [] := by rw [of_list (List.eq_nil_of_length_eq_zero (show r.data.toList.length = 0 by rw [ba_size]; exact hr0))]; decide +kernel
 have hre2 : r.toList.isEmpty = true := by rw [hre]; rfl
 have HR0 := Lib.hid hr0; clear hr0
 obtain ⟨d0, d1, d2, d3, d4, d5, d6⟩ := HBOX3.out.zero
 have hcall := c7RValid_any (.mk k i l sl t le xs) _ w3 HX3.out
 simp only [contCells] at hcall
 obtain ⟨C, hC⟩ : ∃ C, Cont.mk k i l sl t le xs = C := ⟨_, rfl⟩
 rw [hC] at hcall
 have HC := Lib.hid hC; clear hC
 cases hbad : badC C with
 | true =>
  rw [hbad] at hcall
  have HCALL := Lib.hid hcall; clear hcall
  have hn : parseC s = none := by rw [HPC2.out, HC.out, hbad]; simp
  have HN := Lib.hid hn; clear hn hbad
  go_wp2_with fail
  refine HCALL.out.mono ?_
  rintro e w4 ⟨rfl, hb4⟩
  have HR4 := Lib.hid (HR3.out.kept (grown_none hb4) (fun e => by cases e)); have HB04 := Lib.hid (HB03.out.trans (hb4.mono HB03.out.size))
  clear d0 d1 d2 d3 d4 d5 d6 hb4
  have y0 := HR4.out.1 0 _ rfl; have y1 := HR4.out.1 1 _ rfl; have y2 := HR4.out.1 2 _ rfl; have y3 := HR4.out.1 3 _ rfl; have y4 := HR4.out.1 4 _ rfl; have y5 := HR4.out.1 5 _ rfl; have y6 := HR4.out.1 6 _ rfl; have yf := HR4.out.2.1
  go_wp2
  exact bodyPost_ret (v := .tuple #[.agg #[.int .i64 0, .string ByteArray.empty, .string ByteArray.empty, .int .i64 0, .int .i64 0, .int .i64 0, .slice none 0 0], .int .i64 70]) (by simp [results, Tryz.results45, go_sem, y0, y1, y2, y3, y4, y5, y6]) rfl (HFAIL.out HN.out _ HB04.out)
 | false =>
  rw [hbad] at hcall
  have HCALL := Lib.hid hcall; clear hcall
  have HBAD := Lib.hid hbad; clear hbad
  go_wp2_with fail
  refine HCALL.out.mono ?_
  rintro e w4 ⟨rfl, hb4⟩
  have HR4 := Lib.hid (HR3.out.kept (grown_none hb4) (fun e => by cases e)); have HB04 := Lib.hid (HB03.out.trans (hb4.mono HB03.out.size))
  clear d0 d1 d2 d3 d4 d5 d6
  obtain ⟨d0, d1, d2, d3, d4, d5, d6⟩ := (HBOX3.out.keep hb4 (by have := HG3.out; omega)).zero
  have hx4 := CRd_more hb4.size _ _ (CRd_keep hb4 _ _ HX3.out)
  rw [HC.out] at hx4
  have hnd : nodesC C ≤ 257 := by have := HLEN.out; rw [HC.out] at this; omega
  have hcall := rtext_any C _ w4 hx4 (ok_of_bad HBAD.out).1 (by omega)
  simp only [contCells] at hcall
  obtain ⟨X, hX⟩ : ∃ X, textC C = X := ⟨_, rfl⟩
  rw [hX] at hcall
  have HCALL2 := Lib.hid hcall; have HX := Lib.hid hX; have HB4 := Lib.hid hb4; have HND := Lib.hid hnd
  clear hcall hX hb4 hx4 hnd
  go_wp2_with fail
  refine HCALL2.out.mono ?_
  rintro e w5 ⟨rfl, hb5⟩
  have HR5 := Lib.hid (HR4.out.kept (grown_none hb5) (fun e => by cases e)); have HB05 := Lib.hid (HB04.out.trans (hb5.mono HB04.out.size))
  have hb35 : Below w3.heap.size w3 w5 := HB4.out.trans (hb5.mono HB4.out.size)
  clear d0 d1 d2 d3 d4 d5 d6
  obtain ⟨d0, d1, d2, d3, d4, d5, d6⟩ := (HBOX3.out.keep hb35 (by have := HG3.out; omega)).zero
  have HB35 := Lib.hid hb35; clear hb5 hb35
  by_cases hts : X = s
  ·
   have hn : parseC s = some C := by rw [HPC2.out, HC.out, if_pos ⟨HR0.out, HBAD.out, HX.out.trans hts⟩]
   have HN := Lib.hid hn; clear hn
   have e1 : (X.toList == s.toList) = true := by rw [hts]; simp
   have e2 : (X.toList != s.toList) = false := by rw [bne, e1]; rfl
   have HTS := Lib.hid hts; clear hts
   have y0 := HR5.out.1 0 _ rfl; have y1 := HR5.out.1 1 _ rfl; have y2 := HR5.out.1 2 _ rfl; have y3 := HR5.out.1 3 _ rfl; have y4 := HR5.out.1 4 _ rfl; have y5 := HR5.out.1 5 _ rfl; have y6 := HR5.out.1 6 _ rfl; have yf := HR5.out.2.1
   go_wp2
   refine bodyPost_ret (v := .tuple #[.agg #[.int .i64 k, .string i, .string l, .int .i64 sl, .int .i64 t, .int .i64 le, .slice A xs.length cp], .int .i64 0]) (by simp [results, Tryz.results45, go_sem, y0, y1, y2, y3, y4, y5, y6]) rfl ⟨below7 HB05.out (Nat.le_refl _) _ _ _ _ _ _ _, .inl ⟨_, contCells k i l sl t le A xs.length cp, HN.out, rfl, ?_, HND.out⟩⟩
   rw [← HC.out]
   unfold NewC
   rw [fin_size]
   refine CRdS_mono (fun y hy => ⟨by have := hy.1; have := HG1.out; omega, by have := hy.2; have := HG3.out; have := HB35.out.size; omega⟩) (fun y o u hy hu => ?_) _ _ HNEW3.out
   exact fin_cells _ _ _ _ _ _ _ y o u (by have := hy.1; have := HG1.out; omega) ((HB35.out.cell (p := ⟨y, o, none⟩) (by show y < w3.heap.size; have := hy.2; have := HG3.out; omega)).trans hu)
  ·
   have hn : parseC s = none := by rw [HPC2.out, HC.out, if_neg (fun h => hts (HX.out.symm.trans h.2.2))]
   have HN := Lib.hid hn; clear hn
   have e1 : (X.toList == s.toList) = false := by rw [ba_beq]; exact decide_eq_false hts
   have e2 : (X.toList != s.toList) = true := by rw [bne, e1]; rfl
   clear hts
   have y0 := HR5.out.1 0 _ rfl; have y1 := HR5.out.1 1 _ rfl; have y2 := HR5.out.1 2 _ rfl; have y3 := HR5.out.1 3 _ rfl; have y4 := HR5.out.1 4 _ rfl; have y5 := HR5.out.1 5 _ rfl; have y6 := HR5.out.1 6 _ rfl; have yf := HR5.out.2.1
   go_wp2
   exact bodyPost_ret (v := .tuple #[.agg #[.int .i64 0, .string ByteArray.empty, .string ByteArray.empty, .int .i64 0, .int .i64 0, .int .i64 0, .slice none 0 0], .int .i64 70]) (by simp [results, Tryz.results45, go_sem, y0, y1, y2, y3, y4, y5, y6]) rfl (HFAIL.out HN.out _ HB05.out)
end Go.Proofs.YtehmidmoiamcfaaGreatDoor
namespace Go.Proofs.YtehmidmoiamcfaaGreatDoor
open Go.RowKit Go.Lib Go.Shelf

theorem quiet_sameX {P : Program} {f : FuncId} {args : Array Value} {w : World} {n : Nat} {v : Value}
  (h : Calls P f args (w.drewN n) fun e w' => e = .returned v ∧ w' = w.drewN n) : Calls P f args (w.drewN n) fun e w'' => e = .returned v ∧ ∃ m, w'' = w.drewN m :=
 h.mono fun _ _ ⟨he, hm⟩ => ⟨he, n, hm⟩
theorem byte_none (c : UInt8) : ∀ l : List UInt8, (∀ b ∈ l, b ≠ c) → Lib.indexByte l c = -1
 | [], _ => rfl
 | b :: l, h => by
  have h2 : (b == c) = false := by simpa using h b List.mem_cons_self
  rw [Lib.indexByte, h2, byte_none c l (fun x hx => h x (List.mem_cons_of_mem _ hx))]
  rfl
theorem ascii_mem {s : ByteArray} (h : ∀ (j : Nat) b, s.data.toList[j]? = some b → b.toNat < 128) : ∀ b ∈ s.data.toList, b.toNat < 128 := fun b hb => by
 obtain ⟨j, hj, e⟩ := List.getElem_of_mem hb
 exact h j b (by rw [List.getElem?_eq_getElem hj, e])

set_option maxHeartbeats 4000000 in
set_option maxRecDepth 1000000 in
theorem IndexRune_bad (s : ByteArray) (w : World) (hascii : ∀ (j : Nat) b, s.data.toList[j]? = some b → b.toNat < 128) :
  Calls Tryz.prog 155 #[.string s, .int .i32 65533] w fun e w' => e = .returned (.int .i64 (-1)) ∧ ∃ pos, w' = w.iter s pos := by
 have HA := Lib.hid hascii
 clear hascii
 go_enter Tryz.func155, Tryz.ntmps155
 go_wp2_with fail
 go_loopg [5, 6] s.size (fun g _ _ wx => ∃ i : Nat, i + g = s.size ∧ wx = w.iter s i)
 case atStart => exact ⟨0, by omega, rfl⟩
 case round =>
  obtain ⟨i, hig, rfl⟩ := hrel
  cases gk with
  | zero =>
   obtain rfl : i = s.size := by omega
   have hnx := fun ty => run_next_end (P := Tryz.prog) w s s.size ty (by omega)
   go_wp2
   go_ret
   exact ⟨rfl, _, rfl⟩
  | succ g =>
   have hi : i < s.size := by omega
   obtain ⟨x, hx⟩ : ∃ x : UInt8, s[i]'hi = x := ⟨_, rfl⟩
   have hxl : s.data.toList[i]? = some x := by rw [← hx]; exact Lib.data_getElem? s i hi
   have hx128 : x.toNat < 128 := HA.out i x hxl
   have hnx := fun ty => run_next_ascii (P := Tryz.prog) w s i ty hi (by rw [hx]; exact hx128)
   rw [hx] at hnx
   have hne : ((x.toNat : Int) == 65533) = false := beq_eq_false_iff_ne.2 (by omega)
   clear hxl hx hx128
   go_wp2_with fail
   go_roundg g
   case measure => omega
   case rel => exact ⟨i + 1, by omega, rfl⟩

set_option maxHeartbeats 4000000 in
set_option maxRecDepth 1000000 in
theorem IndexRune_wide (s : ByteArray) (r : Int) (w : World) (hs : s.size ≤ 1000) (hascii : ∀ (j : Nat) b, s.data.toList[j]? = some b → b.toNat < 128) (hr : 128 ≤ r) (hne : r ≠ 65533) (hv : Utf8.valid r = true) :
  Calls Tryz.prog 155 #[.string s, .int .i32 r] w fun e w' => e = .returned (.int .i64 (-1)) ∧ Below w.heap.size w w' := by
 obtain ⟨z1, z2, z3⟩ := encode_facts r hv hr
 obtain ⟨rs, hrs⟩ : ∃ rs, Utf8.encode r = rs := ⟨_, rfl⟩
 rw [hrs] at z1 z2 z3
 have hvr : Lib.validRune r = true := by
  have h := (Go.validRune_eq r).symm.trans hv
  unfold Go.validRune at h
  unfold Lib.validRune
  simpa using h
 have hne2 : (r == 65533) = false := beq_eq_false_iff_ne.2 hne
 have hr0 : (0 : Int) ≤ r := by omega
 have hr1 : ¬ r < (128 : Int) := by omega
 have u21 := Tryz.underlying21
 have u9 := Tryz.underlying9
 have HA := Lib.hid hascii
 clear hascii
 go_enter Tryz.func155, Tryz.ntmps155
 go_wp2_with fail
 refine (Tryz.utf8_ValidRune r _).mono ?_
 rintro e w1 ⟨rfl, hw1⟩
 subst hw1
 rw [hvr]
 go_wp2_with fail
 go_step3
 go_wp2_with fail
 obtain ⟨n, hn⟩ : ∃ n, rs.size = n + 1 := ⟨rs.size - 1, by omega⟩
 have hn2 : (rs.size : Int) - 1 = (n : Int) := by omega
 simp only [hn2]
 apply wp_loop_once
 by_cases hlt : s.size ≤ n
 ·
  have i1 : (s.size : Int) ≤ (n : Int) := by omega
  go_wp2_with fail
  rw [Exit.noGoto_ret]
  go_ret
  exact ⟨rfl, Below.refl _ _⟩
 ·
  have hi : n < s.size := by omega
  have hi2 : n < rs.size := by omega
  have i1 : (n : Int) < (s.size : Int) := by omega
  have i2 : (n : Int) < (rs.size : Int) := by omega
  obtain ⟨m, hm⟩ : ∃ m, n + 1 = m := ⟨_, rfl⟩
  have i3 : (m : Int) ≤ (s.size : Int) := by omega
  have hwr : IntKind.i64.wrap ((n : Int) + 1) = (m : Int) := by rw [wrap_small _ (by omega) (by omega)]; omega
  obtain ⟨x, hx⟩ : ∃ x : UInt8, s[n]'hi = x := ⟨_, rfl⟩
  obtain ⟨y, hy⟩ : ∃ y : UInt8, rs[n]'hi2 = y := ⟨_, rfl⟩
  have hxl : s.data.toList[n]? = some x := by rw [← hx]; exact Lib.data_getElem? s n hi
  have hx128 : x.toNat < 128 := HA.out n x hxl
  have hy128 : 128 ≤ y.toNat := by
   have h := z3 (by omega)
   have e : rs.size - 1 = n := by omega
   simp only [e, hy] at h
   exact h
  have hneq : ((x.toNat : Int) != (y.toNat : Int)) = true := by
   rw [bne_iff_ne]; omega
  have hnone : Lib.indexByte (s.extract m s.size).data.toList y = -1 := byte_none _ _ fun b hb e => by
   have h1 := ascii_mem HA.out b (by rw [Lib.extract_data] at hb; exact List.mem_of_mem_drop (List.mem_of_mem_take hb))
   rw [e] at h1; omega
  have hback : ((y.toNat : Int)).toNat.toUInt8 = y := by simp
  have hib : ∀ W : World, Calls Tryz.prog 108 #[.string (s.extract m s.size), .int .u8 (y.toNat : Int)] W fun e w' => e = .returned (.int .i64 (-1)) ∧ w' = W := fun W => (Tryz.strings_IndexByte (s.extract m s.size) (y.toNat : Int) W).mono fun e w' ⟨h1, h2⟩ => ⟨by rw [h1, hback, hnone], h2⟩
  clear hxl hx128 hnone hback z3 hn hn2 hv hrs
  go_wp2_with fail
  go_step3
  go_wp2_with fail
  go_quiet (fail)
  obtain ⟨w2, hw2⟩ : ∃ w2, w1.drewN nq = w2 := ⟨_, rfl⟩
  rw [hw2]
  go_wp2_with fail
  go_quiet ((go_at_call 108; go_must (exact quiet_sameX (hib _))))
  go_wp2_with fail
  rw [Exit.noGoto_ret]
  go_wp2_with fail
  all_goals rw [Exit.noGoto_ret]
  go_ret
  subst hw2
  exact ⟨rfl, rfl, rfl, rfl, Nat.le_refl _, fun _ _ => rfl⟩
end Go.Proofs.YtehmidmoiamcfaaGreatDoor
namespace Go.Cold
open Go Go.RowKit
theorem get_of_list {s : ByteArray} {j : Nat} {b : UInt8} (h : s.data.toList[j]? = some b) : s.get! j = b := by
 obtain ⟨d⟩ := s
 have hj : j < d.toList.length := (List.getElem?_eq_some_iff.1 h).1
 have h1 : d.toList[j]? = some b := h
 rw [List.getElem?_eq_getElem hj] at h1
 have h2 : d[j]'(by simpa using hj) = b := by simpa using h1
 show d[j]! = b
 rw [getElem!_pos d j (by simpa using hj), h2]
/-- What decoding at a place that is no ASCII gives. -/
theorem wide_step (s : ByteArray) (pos : Nat) (h : pos < s.size) (ha : 128 ≤ (s[pos]'h).toNat) :
  128 ≤ (Utf8.decode s pos).1 ∧ Utf8.valid ((Utf8.decode s pos).1 : Int) = true ∧ 1 ≤ (Utf8.decode s pos).2 ∧ pos + (Utf8.decode s pos).2 ≤ s.size ∧
  ∀ j, pos ≤ j → j < pos + (Utf8.decode s pos).2 → ∀ b, s.data.toList[j]? = some b → 128 ≤ b.toNat := by
 have hg : s.get! pos = s[pos]'h := by have := get_at s pos h; simpa using this
 have hb : ∀ k, (s.get! (pos + k)).toNat < 256 := fun k => (s.get! (pos + k)).toNat_lt
 have h0 := hb 0; have h1 := hb 1; have h2 := hb 2; have h3 := hb 3
 rw [Nat.add_zero] at h0
 rw [← hg] at ha
 have hval : ∀ n : Nat, (n < 55296 ∨ (57344 ≤ n ∧ n ≤ 1114111)) → Utf8.valid (n : Int) = true := fun n hn => by
  unfold Utf8.valid
  rcases hn with hn | hn
  ·
   have e1 : decide ((0 : Int) ≤ n) = true := decide_eq_true (by omega)
   have e2 : decide ((n : Int) < 55296) = true := decide_eq_true (by omega)
   rw [e1, e2]; rfl
  ·
   have e1 : decide ((57344 : Int) ≤ n) = true := decide_eq_true (by omega)
   have e2 : decide ((n : Int) ≤ 1114111) = true := decide_eq_true (by omega)
   rw [e1, e2]; simp
 rw [Lib.decode_at]
 have hj : ∀ j b, s.data.toList[j]? = some b → s.get! j = b := fun j b hb => get_of_list hb
 rcases Lib.decodeN_shape (s.size - pos) (s.get! pos).toNat (s.get! (pos + 1)).toNat (s.get! (pos + 2)).toNat (s.get! (pos + 3)).toNat with ⟨c1, e⟩ | ⟨c1, c2, c3, c4, e⟩ | ⟨c1, c2, c3, c4, c5, c6, e⟩ | ⟨c1, c2, c3, c4, c5, c6, c7, e⟩ | e
 · omega
 ·
  rw [e]
  refine ⟨c4, hval _ (by omega), by simp, by simp; omega, fun j hj1 hj2 b hb => ?_⟩
  have := hj j b hb
  simp only at hj2
  have hc : j = pos ∨ j = pos + 1 := by omega
  rcases hc with rfl | rfl <;> (rw [← this]; omega)
 ·
  rw [e]
  refine ⟨by simp only; omega, hval _ (by omega), by simp, by simp; omega, fun j hj1 hj2 b hb => ?_⟩
  have := hj j b hb
  simp only at hj2
  have hc : j = pos ∨ j = pos + 1 ∨ j = pos + 2 := by omega
  rcases hc with rfl | rfl | rfl <;> (rw [← this]; omega)
 ·
  rw [e]
  refine ⟨by simp only; omega, hval _ (by omega), by simp, by simp; omega, fun j hj1 hj2 b hb => ?_⟩
  have := hj j b hb
  simp only at hj2
  have hc : j = pos ∨ j = pos + 1 ∨ j = pos + 2 ∨ j = pos + 3 := by omega
  rcases hc with rfl | rfl | rfl | rfl <;> (rw [← this]; omega)
 ·
  rw [e]
  refine ⟨by simp, hval _ (by omega), by simp, by simp; omega, fun j hj1 hj2 b hb => ?_⟩
  have := hj j b hb
  simp only at hj2
  have hc : j = pos := by omega
  subst hc
  rw [← this]; omega
end Go.Cold
namespace Go.Proofs.YtehmidmoiamcfaaGreatDoor
open Go.RowKit Go.Lib Go.Cold

/-- What strings.IndexRune gives at the rune that stands at a place. -/
def runeAt (chars : ByteArray) (x : UInt8) : Int := if x.toNat < 128 then Lib.indexByte chars.data.toList x else -1
theorem IndexRune_dec (chars s : ByteArray) (pos : Nat) (hp : pos < s.size) (W : World) (hcs : chars.size ≤ 1000) (hac : ∀ (j : Nat) b, chars.data.toList[j]? = some b → b.toNat < 128) :
  Calls Tryz.prog 155 #[.string chars, .int .i32 ((Utf8.decode s pos).1 : Int)] W fun e w' => e = .returned (.int .i64 (runeAt chars (s[pos]'hp))) ∧ Below W.heap.size W w' := by
 unfold runeAt
 by_cases hx : (s[pos]'hp).toNat < 128
 ·
  rw [if_pos hx, decode_ascii s pos hp hx]
  refine (Tryz.strings_IndexRune_ascii chars _ W (by simp) (by simp; omega)).mono fun e w' ⟨h1, h2⟩ => ⟨?_, by rw [h2]; exact Below.refl _ _⟩
  rw [h1]; simp
 ·
  rw [if_neg hx]
  obtain ⟨h1, h2, -⟩ := wide_step s pos hp (by omega)
  by_cases hb : (Utf8.decode s pos).1 = 65533
  ·
   rw [hb]
   exact (IndexRune_bad chars W hac).mono fun e w' ⟨h1, p, h2⟩ => ⟨h1, by rw [h2]; exact (Below.refl _ _).alloc (Nat.le_refl _) _⟩
  · exact IndexRune_wide chars _ W hcs hac (by omega) (by omega) h2

theorem NoAny_wide {s : ByteArray} {chars : List UInt8} {i n : Nat} (h : Lib.NoAny s.data.toList chars i) (hc : ∀ b ∈ chars, b.toNat < 128)
  (hw : ∀ j, i ≤ j → j < i + n → ∀ b, s.data.toList[j]? = some b → 128 ≤ b.toNat) : Lib.NoAny s.data.toList chars (i + n) := fun j b hj hb => by
 by_cases hji : j < i
 · exact h j b hji hb
 ·
  have h1 := hw j (by omega) hj b hb
  cases hcc : chars.contains b with
  | false => rfl
  | true => have := hc b (List.contains_iff_mem.1 hcc); omega

theorem next_no {s chars : ByteArray} {i : Nat} (hi : i < s.size) (hm : ∀ b ∈ chars.data.toList, b.toNat < 128) (hno : Lib.NoAny s.data.toList chars.data.toList i) :
  1 ≤ (Utf8.decode s i).2 ∧ i + (Utf8.decode s i).2 ≤ s.size ∧ (¬ 0 ≤ runeAt chars (s[i]'hi) → Lib.NoAny s.data.toList chars.data.toList (i + (Utf8.decode s i).2)) := by
 by_cases hx : (s[i]'hi).toNat < 128
 ·
  rw [decode_ascii s i hi hx]
  refine ⟨Nat.le_refl _, hi, fun hr => ?_⟩
  unfold runeAt at hr
  rw [if_pos hx] at hr
  exact hno.succ (Lib.data_getElem? s i hi) (by rw [Lib.contains_iff_indexByte]; exact decide_eq_false hr)
 ·
  obtain ⟨-, -, h1, h2, h3⟩ := wide_step s i hi (by omega)
  exact ⟨h1, h2, fun _ => NoAny_wide hno hm h3⟩
theorem next_hit {s chars : ByteArray} {i : Nat} (hi : i < s.size) (hno : Lib.NoAny s.data.toList chars.data.toList i) (hr : 0 ≤ runeAt chars (s[i]'hi)) :
  Lib.indexAny s.data.toList chars.data.toList = i := by
 unfold runeAt at hr
 by_cases hx : (s[i]'hi).toNat < 128
 ·
  rw [if_pos hx] at hr
  exact Lib.indexAny_hit hno (Lib.data_getElem? s i hi) (by rw [Lib.contains_iff_indexByte]; exact decide_eq_true hr)
 · rw [if_neg hx] at hr; omega

set_option maxHeartbeats 8000000 in
set_option maxRecDepth 1000000 in
theorem IndexAny_short (s chars : ByteArray) (w : World) (h2 : 2 ≤ chars.size) (h8 : s.size ≤ 8) (hcs : chars.size ≤ 1000) (hac : ∀ (j : Nat) b, chars.data.toList[j]? = some b → b.toNat < 128) :
  Calls Tryz.prog 109 #[.string s, .string chars] w fun e w' => e = .returned (.int .i64 (Lib.indexAny s.data.toList chars.data.toList)) ∧ Below w.heap.size w w' := by
 have HA := Lib.hid hac
 have HM := Lib.hid (ascii_mem hac)
 have HD := Lib.hid fun pos hp W => IndexRune_dec chars s pos hp W hcs hac
 clear hac
 have hemp : chars.toList.isEmpty = false := by
  rw [Lib.toList_data]
  cases h : chars.data.toList with
  | nil => have := Lib.size_eq chars; rw [h, List.length_nil] at this; omega
  | cons _ _ => rfl
 have hn1 : ((chars.size : Int) == 1) = false := beq_eq_false_iff_ne.2 (by omega)
 have h8z : decide ((8 : Int) < (s.size : Int)) = false := decide_eq_false (by omega)
 have hk0 : (w.iter s 0).heap[w.heap.size]? = some (.stringIter s 0) := World.iter_heap w s 0
 have hb0 : Below w.heap.size w (w.iter s 0) := (Below.refl _ w).alloc (Nat.le_refl _) _
 have HK0 := Lib.hid hk0; have HB0 := Lib.hid hb0
 clear hk0 hb0
 have hsu := Tryz.strings_shouldUseASCIISet (s.size : Int) w
 go_enter Tryz.func109, Tryz.ntmps109
 go_wp2_with (go_at_call 156; refine hsu.mono ?_; rintro e w' ⟨rfl, hw⟩; rw [hw, h8z])
 clear hsu
 go_loopg [9, 10] s.size (fun g _ _ wx => ∃ i : Nat, i + g ≤ s.size ∧ s.size ≤ i + g ∧ wx.heap[w.heap.size]? = some (.stringIter s i) ∧ Below w.heap.size w wx ∧ Lib.NoAny s.data.toList chars.data.toList i)
 case atStart => exact ⟨0, by omega, by omega, HK0.out, HB0.out, Lib.NoAny.zero _ _⟩
 case round =>
  obtain ⟨i, hig, hig2, hk, hb, hno⟩ := hrel
  by_cases hi : i < s.size
  ·
   obtain ⟨n1, n2, n3⟩ := next_no hi HM.out hno
   have n4 := next_hit hi hno
   have hnx := fun ty => Lib.run_next_any_at (P := Tryz.prog) wr w.heap.size s i ty hk hi
   have hk1 := Lib.iterAt_heap wr w.heap.size s i (i + (Utf8.decode s i).2) hk
   have hb1 : Below w.heap.size w (wr.iterAt w.heap.size s (i + (Utf8.decode s i).2)) := Lib.below_iterAt hb (Nat.le_refl _) s _
   have hlt : w.heap.size < (wr.iterAt w.heap.size s (i + (Utf8.decode s i).2)).heap.size := (Array.getElem?_eq_some_iff.1 hk1).1
   have hc := HD.out i hi (wr.iterAt w.heap.size s (i + (Utf8.decode s i).2))
   obtain ⟨W1, hW1⟩ : ∃ W1, wr.iterAt w.heap.size s (i + (Utf8.decode s i).2) = W1 := ⟨_, rfl⟩
   obtain ⟨d, hd⟩ : ∃ d, (Utf8.decode s i).2 = d := ⟨_, rfl⟩
   obtain ⟨c, hcc⟩ : ∃ c : Int, ((Utf8.decode s i).1 : Int) = c := ⟨_, rfl⟩
   obtain ⟨z, hz⟩ : ∃ z, runeAt chars (s[i]'hi) = z := ⟨_, rfl⟩
   rw [hW1] at hk1 hb1 hlt hc hnx
   simp only [hcc] at hc hnx
   rw [hd] at n1 n2 n3 hk1
   rw [hz] at n3 n4 hc
   have HK1 := Lib.hid hk1; have HB1 := Lib.hid hb1; have HLT := Lib.hid hlt; have N3 := Lib.hid n3; have N4 := Lib.hid n4
   clear hk hb hno hk1 hb1 hlt n3 n4 hW1 hd hcc hz
   by_cases hz0 : 0 ≤ z
   ·
    go_wp2_with (go_at_call 155; refine hc.mono ?_; rintro e W2 ⟨rfl, hb2⟩)
    go_ret
    exact ⟨by rw [N4.out hz0]; rfl, HB1.out.trans (hb2.mono (Nat.le_of_lt HLT.out))⟩
   ·
    go_wp2_with (go_at_call 155; refine hc.mono ?_; rintro e W2 ⟨rfl, hb2⟩)
    go_roundg (gk - d)
    case measure => omega
    case rel => exact ⟨i + d, by omega, by omega, (hb2.block _ HLT.out).trans HK1.out, HB1.out.trans (hb2.mono (Nat.le_of_lt HLT.out)), N3.out hz0⟩
  ·
   have hnx := fun ty => Lib.run_next_end_at (P := Tryz.prog) wr w.heap.size s i ty hk hi
   have HNO := Lib.hid hno; have HB := Lib.hid hb
   clear hno hb hk
   have hie : i = s.size := by omega
   go_wp2
   go_ret
   exact ⟨by rw [Lib.indexAny_none (by rw [← Lib.size_eq, ← hie]; exact HNO.out)]; rfl, HB.out⟩

theorem IndexAny_any (s chars : ByteArray) (w : World) (h2 : 2 ≤ chars.size) (hs : s.size < 4294967281) (hcs : chars.size ≤ 1000) (hac : ∀ (j : Nat) b, chars.data.toList[j]? = some b → b.toNat < 128) :
  Calls Tryz.prog 109 #[.string s, .string chars] w fun e w' => e = .returned (.int .i64 (Lib.indexAny s.data.toList chars.data.toList)) ∧ Below w.heap.size w w' := by
 by_cases h8 : s.size ≤ 8
 · exact IndexAny_short s chars w h2 h8 hcs hac
 ·
  refine (Tryz.strings_IndexAny_long (zero_of_info (P := Tryz.prog) (t := 174) (v := .agg (Array.replicate 256 (.bool false))) (n := 256) (by kernel_rfl)).1 s chars w h2 (by omega) hs (by omega) hac).mono fun e w' ⟨h1, h2⟩ => ⟨h1, ?_⟩
  rw [h2]
  exact ((Below.refl _ _).alloc (Nat.le_refl _) _).alloc (by simp) _
end Go.Proofs.YtehmidmoiamcfaaGreatDoor
namespace Go.Proofs.YtehmidmoiamcfaaGreatDoor
open Go.RowKit Go.Cold
theorem IxOk_any (s : ByteArray) (hs : s.size ≤ 1000) : IxOk s := by
 intro ends he k hk W
 have hall : ∀ e ∈ [slashE, (⟨#[58, 44, 41]⟩ : ByteArray), ⟨#[58, 40, 44, 41]⟩, ⟨#[44, 41]⟩], (2 ≤ e.size ∧ e.size ≤ 1000) ∧ ∀ b ∈ e.data.toList, b.toNat < 128 := by decide +kernel
 obtain ⟨⟨h1, h2⟩, h3⟩ := hall ends he
 exact IndexAny_any (s.extract k s.size) ends W h1 (by rw [ByteArray.size_extract]; omega) h2 (fun j b hb => h3 b (List.mem_of_getElem? hb))
end Go.Proofs.YtehmidmoiamcfaaGreatDoor
