/-
  The walks of chapter 31's law: disk and text.
-/
import Derived.Test.YtehmidmoiamcfaaGreatDoorHTB
import Derived.Test.YtehmidmoiamcfaaGreatDoorHRF
import Derived.Test.YtehmidmoiamcfaaGreatDoorHSH
import Derived.Deep.RegionHeld3
set_option linter.unusedSimpArgs false
set_option linter.unusedVariables false
namespace Go.Cold
open Go Go.RowKit
/-- The law's disk. -/
def diskD (o t : ByteArray) : Dev := ⟨1, 0, o, o, ⟨#[98, 108, 111, 99, 107]⟩, ByteArray.empty, ByteArray.empty, 2, 1, [⟨⟨#[99, 111, 110, 116, 101, 110, 116]⟩, t⟩]⟩
def Text31 (raw : ByteArray) (xs : List Int) (k B b : Nat) (w : World) (e : Ending) (w' : World) : Prop := ∃ (s : ByteArray) (k' : Nat), e = .returned (.string s) ∧ s.size ≤ raw.size + 2020 ∧ k' ≤ k + 3 ∧ TapeAt w' B b xs k' ∧ w.grownBy w' (some b)
theorem contM_at {m : Nat} (h : m < contM.length) {w : World} {g : Nat} (hb : BoxL w g (contM.map Value.string)) : w.cell? ⟨g, m, none⟩ = some (.string contM[m]) ∧ contM[m].size ≤ 1000 :=
 ⟨hb.1 m _ (by rw [List.getElem?_map, List.getElem?_eq_getElem h]; rfl), (show ∀ y ∈ contM, y.size ≤ 1000 by decide) _ (List.getElem_mem h)⟩
end Go.Cold
namespace Go.Proofs.YtehmidmoiamcfaaGreatDoor
open Go.RowKit Go.Cold
set_option maxRecDepth 100000 in
set_option maxHeartbeats 2000000 in
/-- coldpluglaw31.disk. -/
theorem disk_any (o t : ByteArray) (w : World) (ho : o.size ≤ maxLen) (ht : t.size ≤ maxLen) : Calls Tryz.prog 19 #[.string o, .string t] w fun e w' => Below w.heap.size w w' ∧ ∃ A c, e = .returned (.agg #[.int .i64 1, .int .i64 0, .string o, .string o, .string ⟨#[98, 108, 111, 99, 107]⟩, .string ByteArray.empty, .string ByteArray.empty, .int .i64 2, .int .i64 1, .slice A 1 c]) ∧ SlS w' (fun x => w.heap.size ≤ x ∧ x < w'.heap.size) A c (diskD o t).attrs := by
 have hzv := (zero_of_info (P := Tryz.prog) (t := 43) info_dev2).1
 go_enter Tryz.func19, Tryz.ntmps19
 go_upto_region 1 with fail
 obtain ⟨w1, hw1⟩ : ∃ w1, w.alloc (.cells #[.int .i64 0, .int .i64 0, .string ByteArray.empty, .string ByteArray.empty, .string ByteArray.empty, .string ByteArray.empty, .string ByteArray.empty, .int .i64 0, .int .i64 0, .slice none 0 0] 43) = w1 := ⟨_, rfl⟩
 have hb1 : Below w.heap.size w w1 := by rw [← hw1]; exact (Below.refl _ _).alloc (Nat.le_refl _) _
 have hx1 : BoxL w1 w.heap.size [.int .i64 0, .int .i64 0, .string ByteArray.empty, .string ByteArray.empty, .string ByteArray.empty, .string ByteArray.empty, .string ByteArray.empty, .int .i64 0, .int .i64 0, .slice none 0 0] := box_mk hw1
 have HG1 := Lib.hid (show w1.heap.size = w.heap.size + 1 by rw [← hw1]; simp)
 try simp only [hw1]
 clear hw1
 obtain ⟨w2, hw2⟩ : ∃ w2, w1.alloc (.cells #[.string ⟨#[99, 111, 110, 116, 101, 110, 116]⟩, .string t] 63) = w2 := ⟨_, rfl⟩
 have hb2 : Below w1.heap.size w1 w2 := by rw [← hw2]; exact (Below.refl _ _).alloc (Nat.le_refl _) _
 have hx2 : BoxL w2 w1.heap.size [.string ⟨#[99, 111, 110, 116, 101, 110, 116]⟩, .string t] := box_mk hw2
 have HG2 := Lib.hid (show w2.heap.size = w1.heap.size + 1 by rw [← hw2]; simp)
 have HB2 := Lib.hid (hb1.trans (hb2.mono hb1.size))
 have HX2 := Lib.hid hx2; have HR2 := Lib.hid (hx1.kept (grown_none hb2) (fun e => by cases e)); have HT := Lib.hid ht
 clear hb1 hb2 hx1 hx2 ho ht
 have cr0 := HR2.out.1 0 _ rfl; have cr1 := HR2.out.1 1 _ rfl; have cr2 := HR2.out.1 2 _ rfl; have cr3 := HR2.out.1 3 _ rfl; have cr4 := HR2.out.1 4 _ rfl; have cr5 := HR2.out.1 5 _ rfl; have cr6 := HR2.out.1 6 _ rfl; have cr7 := HR2.out.1 7 _ rfl; have cr8 := HR2.out.1 8 _ rfl; have cr9 := HR2.out.1 9 _ rfl; have cfr := HR2.out.2.1
 go_wp2
 refine bodyPost_ret (v := .agg #[.int .i64 1, .int .i64 0, .string o, .string o, .string ⟨#[98, 108, 111, 99, 107]⟩, .string ByteArray.empty, .string ByteArray.empty, .int .i64 2, .int .i64 1, .slice (some ⟨w1.heap.size, 0, none⟩) 1 1]) (by simp [results, Tryz.results19, go_sem, cr0, cr1, cr2, cr3, cr4, cr5, cr6, cr7, cr8, cr9, cfr]) rfl ⟨below10 HB2.out (Nat.le_refl _) _ _ _ _ _ _ _ _ _ _, _, _, rfl, ?_⟩
 have h := sls_one HX2.out (by show (7 : Nat) ≤ maxLen; unfold maxLen; omega) HT.out
 exact (h.set10 (fun x hx => by have := HG1.out; have h2 : x = _ := hx; omega) _ _ _ _ _ _ _ _ _ _).mono (fun x hx => ⟨by have := HG1.out; have h2 : x = _ := hx; omega, by have := HG2.out; have h2 : x = _ := hx; simp; omega⟩) (fun _ _ _ _ hu => hu)
set_option maxRecDepth 100000 in
set_option maxHeartbeats 4000000 in
/-- coldpluglaw31.text. -/
theorem text31_any (raw : ByteArray) (xs : List Int) (k B b : Nat) (w : World) (hk : k ≤ 2 ^ 30) (ht : TapeAt w B b xs k) (hs : raw.size ≤ maxLen) : Calls Tryz.prog 16 #[.pointer (some ⟨b, 0, none⟩), .string raw] w (Text31 raw xs k B b w) := by
 have HT := Lib.hid ht; have HK := Lib.hid hk; have HS := Lib.hid hs; clear ht hk hs
 have HBW := Lib.hid (show b < w.heap.size ∧ B ≤ b by obtain ⟨_, _, _, _, _, _, h1, h2⟩ := HT.out; exact ⟨h2, h1⟩)
 go_enter Tryz.func16, Tryz.ntmps16
 go_wp2_with fail
 refine (ContentsM_any _).mono ?_
 rintro e w1 ⟨rfl, hb1, hx1⟩
 have HX1 := Lib.hid hx1; have HT1 := Lib.hid (HT.out.kept (grown_none hb1) (fun e => by cases e) (fun g e => by cases e)); have HG1 := Lib.hid (grown_any (row := some b) hb1)
 clear hx1 hb1
 go_wp2_with fail
 refine (Next_lit 5 xs (k) B b _ (by have := HK.out; omega) HT1.out (by omega) (by omega)).mono ?_
 rintro e w2 ⟨n, hm0, hm1, rfl, ht_, hg_⟩
 have HTw2 := Lib.hid ht_; have HGw2 := Lib.hid (grown_trans HG1.out hg_); have HXw2 := Lib.hid (HX1.out.kept hg_ (fun e => by have := Option.some.inj e; have := HBW.out; omega)); clear ht_ hg_
 rcases (show n = 0 ∨ n = 1 ∨ n = 2 ∨ n = 3 ∨ n = 4 by omega) with rfl | rfl | rfl | rfl | rfl
 ·
  clear hm0 hm1
  go_wp2
  go_ret
  exact ⟨raw, k + 1, rfl, by omega, by omega, HTw2.out, HGw2.out⟩
 ·
  clear hm0 hm1
  go_upto_region 6 with fail
  refine wp_region_held_drew (S := fun w' => BoxL w' w.heap.size (contM.map Value.string)) (by kernel_rfl) HXw2.out.drew (fun hS0 => ?_)
  obtain ⟨wd, hwd⟩ : ∃ z, World.drew w2 = z := ⟨_, rfl⟩
  rw [hwd] at hS0 ⊢
  have hb_ : Below w2.heap.size w2 wd := by rw [← hwd]; exact below_drewN_self _ _ 1
  clear hwd
  have HXwd := Lib.hid hS0; have HTwd := Lib.hid (HTw2.out.kept (grown_none hb_) (fun e => by cases e) (fun g e => by cases e)); have HGwd := Lib.hid (grown_below HGw2.out hb_)
  clear hS0 hb_
  refine wpAnyH_take (i := 0) (oi := ⟨some 16, _, _, _, _, _⟩) (v := .slice (some ⟨w.heap.size, 0, none⟩) 16 16) rfl (by kernel_rfl) (by kernel_rfl) (by kernel_rfl) (fun _ _ _ h => h) (Or.inl ⟨by rfl, fun w' hS => by go_simp⟩) HXwd.out ?_
  try simp only [Act.put, List.setIfInBounds_toArray, List.set_cons_zero, List.set_cons_succ]
  refine wpAnyH_take (i := 1) (oi := ⟨some 17, _, _, _, _, _⟩) (v := .pointer (some ⟨b, 0, none⟩)) rfl (by kernel_rfl) (by kernel_rfl) (by kernel_rfl) (fun _ _ _ h => h) (Or.inl ⟨by rfl, fun w' hS => by go_simp⟩) HXwd.out ?_
  try simp only [Act.put, List.setIfInBounds_toArray, List.set_cons_zero, List.set_cons_succ]
  refine wpAnyH_take (i := 2) (oi := ⟨some 18, _, _, _, _, _⟩) (v := .slice (some ⟨w.heap.size, 0, none⟩) 16 16) rfl (by kernel_rfl) (by kernel_rfl) (by kernel_rfl) (fun _ _ _ h => h) (Or.inl ⟨by rfl, fun w' hS => by go_simp⟩) HXwd.out ?_
  try simp only [Act.put, List.setIfInBounds_toArray, List.set_cons_zero, List.set_cons_succ]
  refine wpAnyH_take (i := 3) (oi := ⟨some 19, _, _, _, _, _⟩) (v := .int .i64 16) rfl (by kernel_rfl) (by kernel_rfl) (by kernel_rfl) (fun _ _ _ h => h) (Or.inl ⟨by rfl, fun w' hS => by go_simp⟩) HXwd.out ?_
  try simp only [Act.put, List.setIfInBounds_toArray, List.set_cons_zero, List.set_cons_succ]
  refine wpAnyH_take (i := 9) (oi := ⟨some 25, _, _, _, _, _⟩) (v := .slice (some ⟨w.heap.size, 0, none⟩) 16 16) rfl (by kernel_rfl) (by kernel_rfl) (by kernel_rfl) (fun _ _ _ h => h) (Or.inl ⟨by rfl, fun w' hS => by go_simp⟩) HXwd.out ?_
  try simp only [Act.put, List.setIfInBounds_toArray, List.set_cons_zero, List.set_cons_succ]
  refine wpAnyH_take (i := 10) (oi := ⟨some 26, _, _, _, _, _⟩) (v := .pointer (some ⟨b, 0, none⟩)) rfl (by kernel_rfl) (by kernel_rfl) (by kernel_rfl) (fun _ _ _ h => h) (Or.inl ⟨by rfl, fun w' hS => by go_simp⟩) HXwd.out ?_
  try simp only [Act.put, List.setIfInBounds_toArray, List.set_cons_zero, List.set_cons_succ]
  refine wpAnyH_take (i := 11) (oi := ⟨some 27, _, _, _, _, _⟩) (v := .slice (some ⟨w.heap.size, 0, none⟩) 16 16) rfl (by kernel_rfl) (by kernel_rfl) (by kernel_rfl) (fun _ _ _ h => h) (Or.inl ⟨by rfl, fun w' hS => by go_simp⟩) HXwd.out ?_
  try simp only [Act.put, List.setIfInBounds_toArray, List.set_cons_zero, List.set_cons_succ]
  refine wpAnyH_take (i := 12) (oi := ⟨some 28, _, _, _, _, _⟩) (v := .int .i64 16) rfl (by kernel_rfl) (by kernel_rfl) (by kernel_rfl) (fun _ _ _ h => h) (Or.inl ⟨by rfl, fun w' hS => by go_simp⟩) HXwd.out ?_
  try simp only [Act.put, List.setIfInBounds_toArray, List.set_cons_zero, List.set_cons_succ]
  refine wpAnyH_ready (rs := [4]) (by kernel_rfl) (by simp) ?_
  refine AllReadyH.cons (o := ⟨some 20, .call ⟨_, _, _⟩, _, _, _, _⟩) rfl (fun K hK => ?_) AllReadyH.nil
  go_simp
  go_at_call 23
  refine (Next_lit 16 xs (k + 1) B b _ (by have := HK.out; omega) HTwd.out (by omega) (by omega)).mono ?_
  rintro e' wa ⟨m, hm0, hm1, rfl, ht_, hg_⟩
  have HTwa := Lib.hid ht_; have HGwa := Lib.hid (grown_trans HGwd.out hg_); have HXwa := Lib.hid (HXwd.out.kept hg_ (fun e => by have := Option.some.inj e; have := HBW.out; omega)); clear ht_ hg_
  refine hK.out _ _ HXwa.out (fun _ => ?_)
  clear hK K
  try simp only [Act.put, List.setIfInBounds_toArray, List.set_cons_zero, List.set_cons_succ]
  obtain ⟨m, rfl⟩ := Int.eq_ofNat_of_zero_le hm0
  have hml : m < contM.length := by show m < 16; omega
  obtain ⟨hc_, hs_⟩ := contM_at hml HXwa.out
  obtain ⟨cm, hcm⟩ : ∃ z, contM[m]'hml = z := ⟨_, rfl⟩
  rw [hcm] at hc_ hs_
  have HEcm := Lib.hid (show (contM.map Value.string)[m]? = some (.string cm) by rw [List.getElem?_map, List.getElem?_eq_getElem hml, hcm]; rfl)
  have HScm := Lib.hid hs_; have HCcm := Lib.hid hc_
  have im : (m : Int) < 16 := by omega
  clear hcm hml hm0 hm1 hs_ hc_
  refine wpAnyH_take (i := 5) (oi := ⟨some 21, _, _, _, _, _⟩) (v := .pointer (some ⟨w.heap.size, m, none⟩)) rfl (by kernel_rfl) (by kernel_rfl) (by kernel_rfl) (fun _ _ _ h => h) (Or.inl ⟨by rfl, fun w' hS => by go_simp⟩) HXwa.out ?_
  try simp only [Act.put, List.setIfInBounds_toArray, List.set_cons_zero, List.set_cons_succ]
  refine wpAnyH_take (i := 6) (oi := ⟨some 22, _, _, _, _, _⟩) (v := .string cm) rfl (by kernel_rfl) (by kernel_rfl) (by kernel_rfl) (fun _ _ _ h => h) (Or.inl ⟨by rfl, fun w' hS => by (have u0_ := hS.1 m (.string cm) HEcm.out; go_simp)⟩) HXwa.out ?_
  try simp only [Act.put, List.setIfInBounds_toArray, List.set_cons_zero, List.set_cons_succ]
  have hadd1 : ¬ 9223372036854775807 < (⟨#[116, 97, 98, 108, 101, 58, 116, 40]⟩ : ByteArray).size + cm.size := by have := HScm.out; rw [show (⟨#[116, 97, 98, 108, 101, 58, 116, 40]⟩ : ByteArray).size = 8 from rfl]; omega
  have hadd1' : ¬ 9223372036854775807 < 8 + cm.size := by have := HScm.out; omega
  refine wpAnyH_take (i := 7) (oi := ⟨some 23, _, _, _, _, _⟩) (v := .string ((⟨#[116, 97, 98, 108, 101, 58, 116, 40]⟩ : ByteArray) ++ cm)) rfl (by kernel_rfl) (by kernel_rfl) (by kernel_rfl) (fun _ _ _ h => h) (Or.inl ⟨by rfl, fun w' hS => by go_simp⟩) HXwa.out ?_
  try simp only [Act.put, List.setIfInBounds_toArray, List.set_cons_zero, List.set_cons_succ]
  obtain ⟨s1, hs1⟩ : ∃ z, (⟨#[116, 97, 98, 108, 101, 58, 116, 40]⟩ : ByteArray) ++ cm = z := ⟨_, rfl⟩
  rw [hs1]
  have HS1 := Lib.hid (show s1.size ≤ 1008 by rw [← hs1, ByteArray.size_append, show (⟨#[116, 97, 98, 108, 101, 58, 116, 40]⟩ : ByteArray).size = 8 from rfl]; have := HScm.out; omega)
  clear hs1 hadd1 hadd1'
  have hadd2 : ¬ 9223372036854775807 < s1.size + 1 := by have := HS1.out; omega
  refine wpAnyH_take (i := 8) (oi := ⟨some 24, _, _, _, _, _⟩) (v := .string (s1 ++ ⟨#[44]⟩)) rfl (by kernel_rfl) (by kernel_rfl) (by kernel_rfl) (fun _ _ _ h => h) (Or.inl ⟨by rfl, fun w' hS => by go_simp⟩) HXwa.out ?_
  try simp only [Act.put, List.setIfInBounds_toArray, List.set_cons_zero, List.set_cons_succ]
  obtain ⟨s2, hs2⟩ : ∃ z, s1 ++ (⟨#[44]⟩ : ByteArray) = z := ⟨_, rfl⟩
  rw [hs2]
  have HS2 := Lib.hid (show s2.size ≤ 1009 by rw [← hs2, ByteArray.size_append, show (⟨#[44]⟩ : ByteArray).size = 1 from rfl]; have := HS1.out; omega)
  clear hs2 hadd2
  refine wpAnyH_ready (rs := [13]) (by kernel_rfl) (by simp) ?_
  refine AllReadyH.cons (o := ⟨some 29, .call ⟨_, _, _⟩, _, _, _, _⟩) rfl (fun K hK => ?_) AllReadyH.nil
  go_simp
  go_at_call 23
  refine (Next_lit 16 xs (k + 1 + 1) B b _ (by have := HK.out; omega) HTwa.out (by omega) (by omega)).mono ?_
  rintro e' wb ⟨m2, hm0, hm1, rfl, ht_, hg_⟩
  have HTwb := Lib.hid ht_; have HGwb := Lib.hid (grown_trans HGwa.out hg_); have HXwb := Lib.hid (HXwa.out.kept hg_ (fun e => by have := Option.some.inj e; have := HBW.out; omega)); clear ht_ hg_
  refine hK.out _ _ HXwb.out (fun _ => ?_)
  clear hK K
  try simp only [Act.put, List.setIfInBounds_toArray, List.set_cons_zero, List.set_cons_succ]
  obtain ⟨m2, rfl⟩ := Int.eq_ofNat_of_zero_le hm0
  have hml : m2 < contM.length := by show m2 < 16; omega
  obtain ⟨hc_, hs_⟩ := contM_at hml HXwb.out
  obtain ⟨cn, hcm⟩ : ∃ z, contM[m2]'hml = z := ⟨_, rfl⟩
  rw [hcm] at hc_ hs_
  have HEcn := Lib.hid (show (contM.map Value.string)[m2]? = some (.string cn) by rw [List.getElem?_map, List.getElem?_eq_getElem hml, hcm]; rfl)
  have HScn := Lib.hid hs_; have HCcn := Lib.hid hc_
  have im2 : (m2 : Int) < 16 := by omega
  clear hcm hml hm0 hm1 hs_ hc_
  refine wpAnyH_take (i := 14) (oi := ⟨some 30, _, _, _, _, _⟩) (v := .pointer (some ⟨w.heap.size, m2, none⟩)) rfl (by kernel_rfl) (by kernel_rfl) (by kernel_rfl) (fun _ _ _ h => h) (Or.inl ⟨by rfl, fun w' hS => by go_simp⟩) HXwb.out ?_
  try simp only [Act.put, List.setIfInBounds_toArray, List.set_cons_zero, List.set_cons_succ]
  refine wpAnyH_take (i := 15) (oi := ⟨some 31, _, _, _, _, _⟩) (v := .string cn) rfl (by kernel_rfl) (by kernel_rfl) (by kernel_rfl) (fun _ _ _ h => h) (Or.inl ⟨by rfl, fun w' hS => by (have u0_ := hS.1 m2 (.string cn) HEcn.out; go_simp)⟩) HXwb.out ?_
  try simp only [Act.put, List.setIfInBounds_toArray, List.set_cons_zero, List.set_cons_succ]
  have hadd3 : ¬ 9223372036854775807 < s2.size + cn.size := by have := HS2.out; have := HScn.out; omega
  refine wpAnyH_take (i := 16) (oi := ⟨some 32, _, _, _, _, _⟩) (v := .string (s2 ++ cn)) rfl (by kernel_rfl) (by kernel_rfl) (by kernel_rfl) (fun _ _ _ h => h) (Or.inl ⟨by rfl, fun w' hS => by go_simp⟩) HXwb.out ?_
  try simp only [Act.put, List.setIfInBounds_toArray, List.set_cons_zero, List.set_cons_succ]
  obtain ⟨s3, hs3⟩ : ∃ z, s2 ++ cn = z := ⟨_, rfl⟩
  rw [hs3]
  have HS3 := Lib.hid (show s3.size ≤ 2009 by rw [← hs3, ByteArray.size_append]; have := HS2.out; have := HScn.out; omega)
  clear hs3 hadd3
  have hadd4 : ¬ 9223372036854775807 < s3.size + 1 := by have := HS3.out; omega
  refine wpAnyH_take (i := 17) (oi := ⟨some 33, _, _, _, _, _⟩) (v := .string (s3 ++ ⟨#[41]⟩)) rfl (by kernel_rfl) (by kernel_rfl) (by kernel_rfl) (fun _ _ _ h => h) (Or.inl ⟨by rfl, fun w' hS => by go_simp⟩) HXwb.out ?_
  try simp only [Act.put, List.setIfInBounds_toArray, List.set_cons_zero, List.set_cons_succ]
  obtain ⟨s4, hs4⟩ : ∃ z, s3 ++ (⟨#[41]⟩ : ByteArray) = z := ⟨_, rfl⟩
  rw [hs4]
  have HS4 := Lib.hid (show s4.size ≤ 2010 by rw [← hs4, ByteArray.size_append, show (⟨#[41]⟩ : ByteArray).size = 1 from rfl]; have := HS3.out; omega)
  clear hs4 hadd4
  refine wpAnyH_take (i := 18) (oi := ⟨some 4, _, _, _, _, _⟩) (v := .string s4) rfl (by kernel_rfl) (by kernel_rfl) (by kernel_rfl) (fun _ _ _ h => h) (Or.inl ⟨by rfl, fun w' hS => by go_simp⟩) HXwb.out ?_
  try simp only [Act.put, List.setIfInBounds_toArray, List.set_cons_zero, List.set_cons_succ]
  refine wpAnyH_done (by kernel_rfl) ?_ _
  go_wp2
  go_ret
  exact ⟨s4, _, rfl, by have := HS4.out; omega, by omega, HTwb.out, HGwb.out⟩
 ·
  clear hm0 hm1
  go_wp2_with fail
  refine (Next_lit 18 xs (k + 1) B b _ (by have := HK.out; omega) HTw2.out (by omega) (by omega)).mono ?_
  rintro e w3 ⟨m, hm0, hm1, rfl, ht_, hg_⟩
  obtain ⟨m, rfl⟩ := Int.eq_ofNat_of_zero_le hm0
  have HM := Lib.hid (show m ≤ 17 by omega)
  clear hm0 hm1
  have HTw3 := Lib.hid ht_; have HGw3 := Lib.hid (grown_trans HGw2.out hg_); clear ht_ hg_
  go_wp2_with fail
  go_loop [6, 7] (fun v i => ∃ (s : ByteArray) (n : Nat), v = .string s ∧ i = .int .i64 (n : Int) ∧ n ≤ 17 ∧ Hid (s.size + n ≤ 27)) (fun _ i => (intOf i).toNat)
  case atStart => exact ⟨_, m, rfl, rfl, HM.out, by have := HM.out; show 10 + m ≤ 27; omega⟩
  case round =>
   obtain ⟨s, n, rfl, rfl, hn, HSN⟩ := hrel
   have hadd1 : ¬ 9223372036854775807 < s.size + 1 := by have := HSN.out; omega
   clear HM
   by_cases h0 : 0 < n
   ·
    have i1 : (0 : Int) < (n : Int) := by omega
    have i2 : (n : Int) > 0 := by omega
    obtain ⟨q, rfl⟩ : ∃ q, n = q + 1 := ⟨n - 1, by omega⟩
    have HS2 := Lib.hid (show (s ++ (⟨#[44]⟩ : ByteArray)).size + q ≤ 27 by rw [ByteArray.size_append, show (⟨#[44]⟩ : ByteArray).size = 1 from rfl]; have := HSN.out; omega)
    go_wp2
    go_round
    case rel => exact ⟨_, q, rfl, by first | go_num | (congr 1; unfold wrap64; omega), by omega, HS2⟩
    case measure => first | (simp [intOf]; done) | (simp [intOf]; omega) | (simp [intOf]; unfold wrap64; omega)
   ·
    have i1 : ¬ (0 : Int) < (n : Int) := by omega
    have i2 : ¬ (n : Int) > 0 := by omega
    have HS2 := Lib.hid (show (s ++ (⟨#[41]⟩ : ByteArray)).size ≤ 28 by rw [ByteArray.size_append, show (⟨#[41]⟩ : ByteArray).size = 1 from rfl]; have := HSN.out; omega)
    go_wp2
    go_ret
    exact ⟨_, _, rfl, by have := HS2.out; omega, by omega, HTw3.out, HGw3.out⟩
 ·
  clear hm0 hm1
  go_wp2_with fail
  refine (Next_lit 16 xs (k + 1) B b _ (by have := HK.out; omega) HTw2.out (by omega) (by omega)).mono ?_
  rintro e w3 ⟨m, hm0, hm1, rfl, ht_, hg_⟩
  have HTw3 := Lib.hid ht_; have HGw3 := Lib.hid (grown_trans HGw2.out hg_); have HXw3 := Lib.hid (HXw2.out.kept hg_ (fun e => by have := Option.some.inj e; have := HBW.out; omega)); clear ht_ hg_
  obtain ⟨m, rfl⟩ := Int.eq_ofNat_of_zero_le hm0
  have hml : m < contM.length := by show m < 16; omega
  obtain ⟨hc_, hs_⟩ := contM_at hml HXw3.out
  obtain ⟨cm, hcm⟩ : ∃ z, contM[m]'hml = z := ⟨_, rfl⟩
  rw [hcm] at hc_ hs_
  have HEcm := Lib.hid (show (contM.map Value.string)[m]? = some (.string cm) by rw [List.getElem?_map, List.getElem?_eq_getElem hml, hcm]; rfl)
  have HScm := Lib.hid hs_; have HCcm := Lib.hid hc_
  have im : (m : Int) < 16 := by omega
  clear hcm hml hm0 hm1 hs_ hc_
  have hc_ := HCcm.out
  go_wp2
  go_ret
  exact ⟨cm, _, rfl, by have := HScm.out; omega, by omega, HTw3.out, HGw3.out⟩
 ·
  clear hm0 hm1
  go_wp2_with fail
  refine (Next_lit 16 xs (k + 1) B b _ (by have := HK.out; omega) HTw2.out (by omega) (by omega)).mono ?_
  rintro e w3 ⟨m, hm0, hm1, rfl, ht_, hg_⟩
  have HTw3 := Lib.hid ht_; have HGw3 := Lib.hid (grown_trans HGw2.out hg_); have HXw3 := Lib.hid (HXw2.out.kept hg_ (fun e => by have := Option.some.inj e; have := HBW.out; omega)); clear ht_ hg_
  obtain ⟨m, rfl⟩ := Int.eq_ofNat_of_zero_le hm0
  have hml : m < contM.length := by show m < 16; omega
  obtain ⟨hc_, hs_⟩ := contM_at hml HXw3.out
  obtain ⟨cm, hcm⟩ : ∃ z, contM[m]'hml = z := ⟨_, rfl⟩
  rw [hcm] at hc_ hs_
  have HEcm := Lib.hid (show (contM.map Value.string)[m]? = some (.string cm) by rw [List.getElem?_map, List.getElem?_eq_getElem hml, hcm]; rfl)
  have HScm := Lib.hid hs_; have HCcm := Lib.hid hc_
  have im : (m : Int) < 16 := by omega
  clear hcm hml hm0 hm1 hs_ hc_
  have hc_ := HCcm.out
  go_wp2
  go_ret
  exact ⟨cm, _, rfl, by have := HScm.out; omega, by omega, HTw3.out, HGw3.out⟩
end Go.Proofs.YtehmidmoiamcfaaGreatDoor
namespace Go.Cold
open Go Go.RowKit
def T31 : ByteArray := ⟨#[116, 97, 98, 108, 101, 58, 116, 40, 102, 115, 58, 102, 58, 44, 41]⟩
def C31 : Cont := .mk 5 ⟨#[116]⟩ ⟨#[]⟩ 0 0 0 [.mk 1 ⟨#[102]⟩ ⟨#[]⟩ 0 0 0 [], .mk 0 ⟨#[]⟩ ⟨#[]⟩ 0 0 0 []]
theorem cont_T31 : contP T31 16 0 = some (C31, 15) := by kernel_rfl
theorem ok_C31 : AllOk C31 := by
 unfold C31
 refine AllOk_mk.2 ⟨by decide +kernel, fun x hx => ?_⟩
 simp at hx
 rcases hx with rfl | rfl
 · exact AllOk_mk.2 ⟨by decide +kernel, fun x hx => by cases hx⟩
 · exact AllOk_mk.2 ⟨by decide +kernel, fun x hx => by cases hx⟩
theorem depth_C31 : depthC C31 = 2 := by kernel_rfl
theorem parse_T31 : parseC T31 = some C31 := by
 have h1 : T31.size = 15 := by decide +kernel
 unfold parseC
 rw [if_neg (by omega), h1, cont_T31]
 simp [bad_of ok_C31 (by rw [depth_C31]; decide)]
def slSda : ByteArray := ⟨#[47, 115, 100, 97]⟩
def l31 : List Virt := [⟨⟨#[47, 115, 100, 97]⟩, ⟨#[115, 100, 97, 112, 49]⟩, ⟨#[102, 115, 58, 102, 58]⟩, 1⟩, ⟨⟨#[47, 115, 100, 97]⟩, ⟨#[115, 100, 97, 112, 50]⟩, ⟨#[]⟩, 1⟩]
theorem wants_31 : wantsD (diskD sdaB T31) slSda 1 = l31 := by
 unfold wantsD
 rw [if_pos (show (diskD sdaB T31).kind = 2 from rfl), show (getA (diskD sdaB T31).attrs ⟨#[99, 111, 110, 116, 101, 110, 116]⟩).getD ByteArray.empty = T31 from rfl, (innerG_some (k := 5) parse_T31 rfl).1]
 kernel_rfl
end Go.Cold
namespace Go.Proofs.YtehmidmoiamcfaaGreatDoor
open Go.RowKit Go.Cold
set_option maxRecDepth 100000 in
set_option maxHeartbeats 2000000 in
theorem known31_any (w : World) (hok : Ok7 w) : Calls Tryz.prog 11 #[] w fun e w' => e = .returned (.bool true) ∧ Below w.heap.size w w' := by
 have h3 : ptStr sdaB 3 = ⟨#[115, 100, 97, 112, 51]⟩ := by kernel_rfl
 have h3e : ptErr sdaB 3 = 0 := by kernel_rfl
 have h17 : ptStr sdaB 17 = ByteArray.empty := by kernel_rfl
 have h17e : ptErr sdaB 17 = 310 := by kernel_rfl
 have n16 : numR sdaB ⟨#[115, 100, 97, 112, 49, 54]⟩ = 16 := by decide +kernel
 have n01 : numR sdaB ⟨#[115, 100, 97, 112, 48, 49]⟩ = 0 := by decide +kernel
 have H3 := Lib.hid h3; have H3E := Lib.hid h3e; have H17 := Lib.hid h17; have H17E := Lib.hid h17e; have N16 := Lib.hid n16; have N01 := Lib.hid n01; have HOK := Lib.hid hok
 clear h3 h3e h17 h17e n16 n01 hok
 have hsz : sdaB.size ≤ maxLen - 30 := by show (3 : Nat) ≤ _; unfold maxLen; omega
 have HSZ := Lib.hid hsz; clear hsz
 go_enter Tryz.func11, Tryz.ntmps11
 go_wp2_with fail
 refine (PName_any sdaB 3 _ HOK.out (by unfold okI; omega) HSZ.out).mono ?_
 rintro e w1 ⟨rfl, hb1⟩
 rw [H3.out, H3E.out]
 have HB1 := Lib.hid hb1; clear hb1
 go_wp2_with fail
 refine (PName_any sdaB 17 _ (HOK.out.below HB1.out) (by unfold okI; omega) HSZ.out).mono ?_
 rintro e w2 ⟨rfl, hb2⟩
 rw [H17.out, H17E.out]
 have HB2 := Lib.hid (HB1.out.trans (hb2.mono HB1.out.size)); clear hb2
 go_wp2_with fail
 refine (PNumber_any sdaB ⟨#[115, 100, 97, 112, 49, 54]⟩ _ HSZ.out).mono ?_
 rintro e w3 ⟨rfl, rfl⟩
 rw [N16.out]
 go_wp2_with fail
 refine (PNumber_any sdaB ⟨#[115, 100, 97, 112, 48, 49]⟩ _ HSZ.out).mono ?_
 rintro e w4 ⟨rfl, rfl⟩
 rw [N01.out]
 go_wp2_with fail
 refine (disk_any sdaB T31 _ (by show (3 : Nat) ≤ _; unfold maxLen; omega) (by show (15 : Nat) ≤ _; unfold maxLen; omega)).mono ?_
 rintro e w5 ⟨hb5, A, c, rfl, hsl⟩
 have HB5 := Lib.hid (HB2.out.trans (hb5.mono HB2.out.size)); have HSL := Lib.hid (hsl.sl (B := w5.heap.size) (fun x hx => hx.2)); clear hb5 hsl
 go_wp2_with fail
 refine (Wants_any A c (diskD sdaB T31) slSda 1 _ w5.heap.size (Nat.le_refl _) HSL.out (HOK.out.below HB5.out) HSZ.out (by show (4 : Nat) ≤ _; unfold maxLen; omega) (by unfold okI; omega)).mono ?_
 rintro e w6 ⟨hb6, v, rfl, hown⟩
 have HB6 := Lib.hid (HB5.out.trans (hb6.mono HB5.out.size))
 rw [wants_31] at hown
 obtain ⟨A6, c6, rfl, hs6⟩ := hown.sl
 obtain ⟨b, o, rfl, -, -, a0, a1, a2, a3⟩ := hs6.virt (i := 0) (by decide)
 obtain ⟨b2, o2, e2, -, -, g0, g1, g2, g3⟩ := hs6.virt (i := 1) (by decide)
 injection e2 with e2; injection e2 with e2 e3
 subst e2; subst e3
 have hc6 := hs6.1
 clear hs6 hown hb6
 have q0 : w6.cell? ⟨b, o, none⟩ = some (.string ⟨#[47, 115, 100, 97]⟩) := by rw [Nat.zero_mul, Nat.add_zero] at a0; exact a0
 have q1 : w6.cell? ⟨b, o + 1, none⟩ = some (.string ⟨#[115, 100, 97, 112, 49]⟩) := by rw [Nat.zero_mul, Nat.add_zero] at a1; exact a1
 have q2 : w6.cell? ⟨b, o + 2, none⟩ = some (.string ⟨#[102, 115, 58, 102, 58]⟩) := by rw [Nat.zero_mul, Nat.add_zero] at a2; exact a2
 have q3 : w6.cell? ⟨b, o + 3, none⟩ = some (.int .i64 1) := by rw [Nat.zero_mul, Nat.add_zero] at a3; exact a3
 have q6 : w6.cell? ⟨b, o + 4 + 2, none⟩ = some (.string ⟨#[]⟩) := by rw [Nat.one_mul] at g2; exact g2
 have q6' : w6.cell? ⟨b, o + 6, none⟩ = some (.string ⟨#[]⟩) := q6
 have hl31 : l31.length = 2 := rfl
 rw [hl31] at hc6 ⊢
 clear a0 a1 a2 a3 g0 g1 g2 g3 hl31
 go_wp2
 go_ret
 exact ⟨rfl, HB6.out⟩
end Go.Proofs.YtehmidmoiamcfaaGreatDoor
namespace Go.Cold
open Go Go.RowKit
theorem crd_next {w w' : World} {a : Cont} {cs : List Value} (h : CRd w w.heap.size a cs) (hb : Below w.heap.size w w') : CRd w' w'.heap.size a cs := CRd_more hb.size _ _ (CRd_keep hb _ _ h)
theorem cell_next {w w' : World} {b o : Nat} {v : Value} (h : w.cell? ⟨b, o, none⟩ = some v) (hb : Below w.heap.size w w') : w'.cell? ⟨b, o, none⟩ = some v := (hb.cell (p := ⟨b, o, none⟩) (by exact block_lt_of_cell h)).trans h
theorem below_more {a w w' : World} (h : Below a.heap.size a w) (hb : Below w.heap.size w w') : Below a.heap.size a w' := h.trans (hb.mono h.size)
/-- The content of a law's disk. -/
theorem want_eq (s origin : ByteArray) (round : Int) : wantsD (diskD sdaB s) origin round = wantsV sdaB origin round (innerG s 5) := by
 unfold wantsD
 rw [if_pos (show (diskD sdaB s).kind = 2 from rfl)]
 rfl
theorem want_none {s origin : ByteArray} {round : Int} (h : parseC s = none) : wantsD (diskD sdaB s) origin round = [] := by
 rw [want_eq, (innerG_none (k := 5) h).1]; rfl
theorem want_kind {s origin : ByteArray} {round : Int} {C : Cont} (h : parseC s = some C) (hk : C.kind ≠ 5) : wantsD (diskD sdaB s) origin round = [] := by
 rw [want_eq, (innerG_kind (k := 5) h hk).1]; rfl
theorem want_full {s origin : ByteArray} {round : Int} {C : Cont} (h : parseC s = some C) (hk : C.kind = 5) :
  (wantsD (diskD sdaB s) origin round).length = C.inner.length ∧ ∀ (i : Nat) (x : Cont), C.inner[i]? = some x → (wantsD (diskD sdaB s) origin round)[i]? = some ⟨origin, ptName sdaB ((i + 1 : Nat) : Int), textC x, round⟩ := by
 rw [want_eq, (innerG_some (k := 5) h hk).1]
 have hl := inner_len h
 obtain ⟨h1, h2⟩ := wants_full (o := sdaB) (origin := origin) (round := round) (k := 1) (l := textL C.inner) (fun j a b => sda_ok j a (by rw [textL_len] at b; omega))
 rw [textL_len] at h1
 refine ⟨h1, fun i x hx => ?_⟩
 have := h2 i (textC x) (by rw [textL_map, List.getElem?_map, hx]; rfl)
 unfold wantsV
 rw [this, Nat.add_comm 1 i]
/-- An element of the list. -/
theorem wantD_at {s origin : ByteArray} {round : Int} {C : Cont} (h : parseC s = some C) {i : Nat} (hi : i < (wantsD (diskD sdaB s) origin round).length) :
  ∃ x, C.kind = 5 ∧ C.inner[i]? = some x ∧ (wantsD (diskD sdaB s) origin round)[i]'hi = ⟨origin, ptName sdaB ((i + 1 : Nat) : Int), textC x, round⟩ ∧ parseC (textC x) = some x ∧ depthC x < depthC C ∧ (textC x).size < s.size ∧ numR sdaB (ptName sdaB ((i + 1 : Nat) : Int)) = i + 1 ∧ i < 16 ∧ ptOk sdaB ((i + 1 : Nat) : Int) = true := by
 by_cases hk : C.kind = 5
 ·
  obtain ⟨h1, h2⟩ := want_full (origin := origin) (round := round) h hk
  have hl := inner_len h
  have hi2 : i < C.inner.length := by omega
  obtain ⟨x, hx⟩ : ∃ x, C.inner[i]? = some x := ⟨_, List.getElem?_eq_getElem hi2⟩
  have h3 := h2 i x hx
  rw [List.getElem?_eq_getElem hi] at h3
  obtain ⟨h4, h5, h6⟩ := inner_parse h (List.mem_of_getElem? hx)
  have h7 := sda_ok (i + 1) (by omega) (by omega)
  have h8 := num_name h7
  exact ⟨x, hk, hx, Option.some.inj h3, h4, h5, h6, by omega, by omega, h7⟩
 ·
  rw [want_kind h hk] at hi
  exact absurd hi (by simp)
end Go.Cold
namespace Go.Proofs.YtehmidmoiamcfaaGreatDoor
open Go.RowKit Go.Cold
theorem sum_wrap {a b : Nat} (ha : a ≤ 281474976710656) (hb : b ≤ 281474976710656) : wrap64 ((a : Int) + (b : Int)) = ((a + b : Nat) : Int) := by unfold wrap64; omega
theorem sum_wrap2 {a b : Nat} (ha : a ≤ 281474976710656) (hb : b ≤ 281474976710656) : IntKind.i64.wrap ((a : Int) + (b : Int)) = ((a + b : Nat) : Int) := by rw [IntKind.wrap_i64]; omega
set_option maxRecDepth 100000 in
set_option maxHeartbeats 2000000 in
theorem lawNames31_any (o x : ByteArray) (k : Int) (w : World) (hok : Ok w) (h7 : Ok7 w) (ho : o.size ≤ 281474976710656) (hx : x.size ≤ 281474976710656) (hk : okI k) :
  Calls Tryz.prog 3 #[.string o, .string x, .int .i64 k] w fun e w' => e = .returned (.bool true) ∧ Below w.heap.size w w' := by
 have hw1 := sum_wrap ho hx; have hw2 := sum_wrap2 ho hx
 have H7 := Lib.hid h7; have HK := Lib.hid hk
 clear hok h7 hk
 go_enter Tryz.func3, Tryz.ntmps3
 by_cases hc : 200 < o.size + x.size
 ·
  have i1 : (200 : Int) < ((o.size + x.size : Nat) : Int) := by omega
  have i2 : ((o.size + x.size : Nat) : Int) > 200 := by omega
  have i3 : (200 : Int) < (o.size : Int) + (x.size : Int) := by omega
  clear ho hx hc
  go_wp2_with fail
  refine (known31_any _ H7.out).mono ?_
  rintro e w1 ⟨rfl, hb1⟩
  go_wp2
  go_ret
  exact ⟨rfl, hb1⟩
 have i1 : ¬ (200 : Int) < ((o.size + x.size : Nat) : Int) := by omega
 have i2 : ¬ ((o.size + x.size : Nat) : Int) > 200 := by omega
 have i3 : ¬ (200 : Int) < (o.size : Int) + (x.size : Int) := by omega
 have HS := Lib.hid (show o.size ≤ maxLen - 30 by unfold maxLen; omega)
 clear ho hx hc
 go_wp2_with fail
 refine (PName_any o k _ H7.out HK.out HS.out).mono ?_
 rintro e w1 ⟨rfl, hb1⟩
 have HB1 := Lib.hid hb1
 obtain ⟨s, hs⟩ : ∃ z, ptStr o k = z := ⟨_, rfl⟩
 obtain ⟨n, hn⟩ : ∃ z, ptErr o k = z := ⟨_, rfl⟩
 have HSS := Lib.hid hs; have HNN := Lib.hid hn
 rw [hs, hn]
 clear hs hn hb1 hw1 hw2 i1 i2 i3
 go_wp2_with fail
 refine (RName31_any o k _ (H7.out.below HB1.out) HK.out HS.out).mono ?_
 rintro e w2 ⟨rfl, hb2⟩
 rw [HSS.out, HNN.out]
 have HB2 := Lib.hid (HB1.out.trans (hb2.mono HB1.out.size)); clear hb2
 go_wp2_with fail
 refine (PNumber_any o x _ HS.out).mono ?_
 rintro e w3 ⟨rfl, rfl⟩
 obtain ⟨m, hm⟩ : ∃ z, (numR o x : Int) = z := ⟨_, rfl⟩
 obtain ⟨q, hq⟩ : ∃ z, decide (numR o x ≠ 0) = z := ⟨_, rfl⟩
 have HM := Lib.hid hm; have HQ := Lib.hid hq
 rw [hm, hq]
 clear hm hq
 go_wp2_with fail
 refine (RNumber31_any o x _ HS.out).mono ?_
 rintro e w4 ⟨rfl, rfl⟩
 rw [HM.out, HQ.out]
 have p1 : (s.toList == s.toList) = true := by simp
 have p2 : (n == n) = true := by simp
 have p3 : (m == m) = true := by simp
 have p4 : (q == q) = true := by simp
 go_wp2_with fail
 refine (known31_any _ (H7.out.below HB2.out)).mono ?_
 rintro e w5 ⟨rfl, hb5⟩
 go_wp2
 go_ret
 exact ⟨rfl, HB2.out.trans (hb5.mono HB2.out.size)⟩
set_option maxRecDepth 100000 in
set_option maxHeartbeats 2000000 in
theorem lawBack31_any (o x : ByteArray) (k : Int) (w : World) (hok : Ok w) (h7 : Ok7 w) (ho : o.size ≤ 281474976710656) (hx : x.size ≤ 281474976710656) (hk : okI k) :
  Calls Tryz.prog 4 #[.string o, .string x, .int .i64 k] w fun e w' => e = .returned (.bool true) ∧ Below w.heap.size w w' := by
 have hw1 := sum_wrap ho hx; have hw2 := sum_wrap2 ho hx
 have H7 := Lib.hid h7; have HK := Lib.hid hk
 clear hok h7 hk
 go_enter Tryz.func4, Tryz.ntmps4
 by_cases hc : 200 < o.size + x.size
 ·
  have i1 : (200 : Int) < ((o.size + x.size : Nat) : Int) := by omega
  have i2 : ((o.size + x.size : Nat) : Int) > 200 := by omega
  have i3 : (200 : Int) < (o.size : Int) + (x.size : Int) := by omega
  clear ho hx hc
  go_wp2_with fail
  refine (known31_any _ H7.out).mono ?_
  rintro e w1 ⟨rfl, hb1⟩
  go_wp2
  go_ret
  exact ⟨rfl, hb1⟩
 have i1 : ¬ (200 : Int) < ((o.size + x.size : Nat) : Int) := by omega
 have i2 : ¬ ((o.size + x.size : Nat) : Int) > 200 := by omega
 have i3 : ¬ (200 : Int) < (o.size : Int) + (x.size : Int) := by omega
 have HS := Lib.hid (show o.size ≤ maxLen - 30 by unfold maxLen; omega)
 clear ho hx hc
 go_upto_if 29 with (go_at_call 12; go_must (refine (PName_any o k _ H7.out HK.out HS.out).mono ?_); rintro e w1 ⟨rfl, hb1⟩)
 have HB1 := Lib.hid hb1
 clear hb1 hw1 hw2 i1 i2 i3
 go_cut [7, 8] (fun _ _ wx => Below w.heap.size w wx)
 case first =>
  obtain ⟨q, hq⟩ : ∃ q, ptOk o k = q := ⟨_, rfl⟩
  cases q
  ·
   obtain ⟨n1, n2⟩ := ptNo (o := o) (k := k) hq
   rw [n1, n2]
   clear n1 n2 hq
   go_wp2_with fail
   go_meet
   exact HB1.out
  ·
   obtain ⟨n1, n2⟩ := ptYes (o := o) (k := k) hq
   have HNUM := Lib.hid (num_name hq)
   rw [n1, n2]
   clear n1 n2
   have HNZ := Lib.hid (show numR o (ptName o k) ≠ 0 by have h1 := HNUM.out; unfold ptOk at hq; simp only [Bool.and_eq_true, decide_eq_true_eq] at hq; omega)
   obtain ⟨s, hs⟩ : ∃ z, ptName o k = z := ⟨_, rfl⟩
   rw [hs] at HNUM HNZ ⊢
   clear hs hq
   go_wp2_with fail
   refine (PNumber_any o s _ HS.out).mono ?_
   rintro e w3 ⟨rfl, rfl⟩
   rw [HNUM.out, decide_eq_true HNZ.out]
   have p3 : (k == k) = true := by simp
   have p4 : (k != k) = false := by simp
   go_wp2_with fail
   go_meet
   exact HB1.out
 case rest =>
  have HBC := Lib.hid hcut
  clear hcut HB1
  go_wp2_with fail
  refine (PNumber_any o x _ HS.out).mono ?_
  rintro e w3 ⟨rfl, rfl⟩
  by_cases hz : numR o x = 0
  ·
   have hd : decide (numR o x ≠ 0) = false := by simp [hz]
   rw [hd, hz]
   clear hd hz
   go_wp2_with fail
   refine (known31_any _ (H7.out.below HBC.out)).mono ?_
   rintro e w5 ⟨rfl, hb5⟩
   go_wp2
   go_ret
   exact ⟨rfl, HBC.out.trans (hb5.mono HBC.out.size)⟩
  ·
   have hd : decide (numR o x ≠ 0) = true := decide_eq_true hz
   obtain ⟨h1, h2, h3⟩ := name_num hz
   rw [hd]
   have HNM := Lib.hid h1
   obtain ⟨m, hm⟩ : ∃ m, numR o x = m := ⟨_, rfl⟩
   rw [hm] at h2 h3 HNM ⊢
   clear hd hz h1 hm
   have j1 : ¬ (m : Int) < 1 := by omega
   have j2 : ¬ (16 : Int) < (m : Int) := by omega
   have j3 : ¬ (m : Int) > 16 := by omega
   go_wp2_with fail
   refine (PName_any o (m : Int) _ (H7.out.below HBC.out) (by unfold okI; omega) HS.out).mono ?_
   rintro e w4 ⟨rfl, hb4⟩
   have HB4 := Lib.hid (HBC.out.trans (hb4.mono HBC.out.size)); clear hb4
   obtain ⟨q, hq⟩ : ∃ q, ptOk o (m : Int) = q := ⟨_, rfl⟩
   cases q
   ·
    obtain ⟨n1, n2⟩ := ptNo (o := o) (k := (m : Int)) hq
    rw [n1, n2]
    clear n1 n2 hq
    go_wp2_with fail
    refine (known31_any _ (H7.out.below HB4.out)).mono ?_
    rintro e w5 ⟨rfl, hb5⟩
    go_wp2
    go_ret
    exact ⟨rfl, HB4.out.trans (hb5.mono HB4.out.size)⟩
   ·
    obtain ⟨n1, n2⟩ := ptYes (o := o) (k := (m : Int)) hq
    rw [n1, n2, HNM.out]
    clear n1 n2 hq
    have p5 : (x.toList == x.toList) = true := by simp
    have p6 : (x.toList != x.toList) = false := by simp
    go_wp2_with fail
    refine (known31_any _ (H7.out.below HB4.out)).mono ?_
    rintro e w5 ⟨rfl, hb5⟩
    go_wp2
    go_ret
    exact ⟨rfl, HB4.out.trans (hb5.mono HB4.out.size)⟩
end Go.Proofs.YtehmidmoiamcfaaGreatDoor
