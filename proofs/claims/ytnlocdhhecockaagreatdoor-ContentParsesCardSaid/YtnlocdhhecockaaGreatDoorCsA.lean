/-
  Layer 7: the law's maker of texts: it makes some text of a bounded size.
-/
import Derived.Test.YtnlocdhhecockaaGreatDoorCqA
import Derived.Test.YtnlocdhhecockaaGreatDoorCnY
import Derived.Deep.RegionHeld3
set_option linter.unusedSimpArgs false
set_option linter.unusedVariables false
namespace Go.Cold
open Go Go.RowKit
def eight : List ByteArray := [⟨#[40]⟩, ⟨#[41]⟩, ⟨#[44]⟩, ⟨#[58]⟩, ⟨#[47]⟩, ⟨#[48]⟩, ⟨#[49]⟩, ⟨#[97]⟩]
theorem eight_size (j : Nat) : (eight.getD j ⟨#[]⟩).size ≤ 1 := by
  rcases j with _ | _ | _ | _ | _ | _ | _ | _ | j <;> simp [eight] <;> decide
end Go.Cold
namespace Go.Proofs.YtnlocdhhecockaaGreatDoor
open Go.RowKit Go.Cold

def TextPost (B b : Nat) (w : World) (e : Ending) (w' : World) : Prop := ∃ t : ByteArray, e = .returned (.string t) ∧ t.size ≤ 6000 ∧ w.grownBy w' (some b)
set_option maxHeartbeats 4000000 in
set_option maxRecDepth 100000 in
theorem ltext_any (xs : List Int) (B b k : Nat) (w : World) (hk : k ≤ 2 ^ 30) (ht : TapeAt w B b xs k) :
    Calls Tryz.prog 5 #[.pointer (some ⟨b, 0, none⟩)] w (TextPost B b w) := by
  have HK := Lib.hid hk
  have hcall := valid_any xs B b 3 k w (by omega) ht
  have hlt : b < w.heap.size := ht.choose_spec.choose_spec.2.2.2.2.2
  have HV := Lib.hid hcall; have HLT := Lib.hid hlt
  clear hk ht hcall hlt
  go_enter Tryz.func5, Tryz.ntmps5
  go_wp2_with fail
  refine Calls.mono (HV.out : Calls Tryz.prog 12 #[.pointer (some ⟨b, 0, none⟩), .int .i64 3] w _) ?_
  rintro e w1 ⟨C, cs, k1, rfl, hnew, ht1, hg1, hall, -, hnod, hk1⟩
  have hnod' : nodesC C ≤ 64 := hnod
  have hk1' : k1 ≤ k + 6 * 64 := hk1
  have hsz := text_size C hall
  have HRT := Lib.hid (rtext_any C cs w1 hnew.crd hall (by omega))
  obtain ⟨T, hT⟩ : ∃ T, textC C = T := ⟨_, rfl⟩
  rw [hT] at HRT hsz
  have hts : T.size ≤ 2560 := by omega
  have HT1 := Lib.hid ht1; have HG1 := Lib.hid hg1; have HK1 := Lib.hid hk1'; have HTS := Lib.hid hts
  clear hnew ht1 hg1 hall hnod hk1 hnod' hk1' hsz hT hts
  go_wp2_with fail
  refine HRT.out.mono ?_
  rintro e w2 ⟨rfl, hb2⟩
  have ht2 := HT1.out.kept (grown_none hb2) (fun e => by cases e) (fun g hg => by cases hg)
  have hg2 := grown_below HG1.out hb2
  have HT2 := Lib.hid ht2; have HG2 := Lib.hid hg2
  clear ht2 hg2 hb2
  by_cases h0 : T.size = 0
  · have hz : ((T.size : Int) == 0) = true := beq_iff_eq.2 (by omega)
    clear h0
    go_wp2
    go_ret
    exact ⟨T, rfl, by have := HTS.out; omega, HG2.out⟩
  have hz : ((T.size : Int) == 0) = false := beq_eq_false_iff_ne.2 (by omega)
  go_wp2_with fail
  refine (Next_any xs k1 B b 2 w2 (by unfold okInt; omega) (by have := HK.out; have := HK1.out; omega) HT2.out).mono ?_
  rintro e w3 ⟨rfl, ht3, hg3⟩
  obtain ⟨z, hzz⟩ : ∃ z, foldI (tapeI xs k1) 2 = z := ⟨_, rfl⟩
  rw [hzz]
  have HT3 := Lib.hid ht3; have HG3 := Lib.hid (grown_trans HG2.out hg3)
  clear ht3 hg3 hzz
  by_cases hzz : z = 0
  · have hz2 : (z == 0) = true := by simp [hzz]
    clear hzz
    go_wp2
    go_ret
    exact ⟨T, rfl, by have := HTS.out; omega, HG3.out⟩
  have hz2 : (z == 0) = false := by simp [hzz]
  go_wp2_with fail
  refine (Next_any xs (k1 + 1) B b T.size w3 (by have := HTS.out; unfold okInt; omega) (by have := HK.out; have := HK1.out; omega) HT3.out).mono ?_
  rintro e w4 ⟨rfl, ht4, hg4⟩
  obtain ⟨y, hy⟩ : ∃ y, foldI (tapeI xs (k1 + 1)) T.size = y := ⟨_, rfl⟩
  have hyr : 0 ≤ y ∧ y < T.size := by
    rw [← hy]
    by_cases h1 : (1 : Int) < T.size
    · exact foldI_range h1
    · unfold foldI; rw [if_pos (by omega)]; omega
  rw [hy]
  clear hy
  obtain ⟨j, rfl⟩ := Int.eq_ofNat_of_zero_le hyr.1
  have hj : j < T.size := by omega
  have HT4 := Lib.hid ht4; have HG4 := Lib.hid (grown_trans HG3.out hg4); have HJ := Lib.hid hj
  clear ht4 hg4 hyr
  go_wp2_with fail
  refine (Next_any xs (k1 + 1 + 1) B b 3 w4 (by unfold okInt; omega) (by have := HK.out; have := HK1.out; omega) HT4.out).mono ?_
  rintro e w5 ⟨rfl, ht5, hg5⟩
  have hv := @foldI_range (tapeI xs (k1 + 1 + 1)) 3 (by omega)
  obtain ⟨v, hvv⟩ : ∃ v, foldI (tapeI xs (k1 + 1 + 1)) 3 = v := ⟨_, rfl⟩
  rw [hvv] at hv ⊢
  have HT5 := Lib.hid ht5; have HG5 := Lib.hid (grown_trans HG4.out hg5)
  clear ht5 hg5 hvv
  obtain ⟨m, hm⟩ : ∃ m, j + 1 = m := ⟨_, rfl⟩
  have i1 : (j : Int) ≤ (T.size : Int) := by omega
  have i2 : (m : Int) ≤ (T.size : Int) := by omega
  have hwr : IntKind.i64.wrap ((j : Int) + 1) = (m : Int) := by have := HTS.out; rw [wrap_small _ (by omega) (by omega)]; omega
  have hcase : v = 0 ∨ v = 1 ∨ v = 2 := by omega
  have e1 : (T.extract 0 j).size ≤ 2560 := by have := HTS.out; rw [ByteArray.size_extract]; omega
  have e2 : (T.extract m T.size).size ≤ 2560 := by have := HTS.out; rw [ByteArray.size_extract]; omega
  have e3 : (T.extract j T.size).size ≤ 2560 := by have := HTS.out; rw [ByteArray.size_extract]; omega
  clear hv hz hz2 hzz h0 hm hj
  rcases hcase with rfl | rfl | rfl
  · go_wp2_with fail
    go_quiet ((rw [if_neg (by simp only [ByteArray.size_append]; omega)]; exact ⟨rfl, rfl⟩))
    go_wp2_with fail
    go_ret
    refine ⟨_, rfl, by simp only [ByteArray.size_append]; omega, ?_⟩
    exact grown_below HG5.out (below_drewN_self _ _ _)
  · go_wp2_with fail
    refine wp_region_held_drew (S := fun _ => True) (by kernel_rfl) trivial (fun hS0 => ?_)
    refine wpAnyH_take (i := 0) (oi := ⟨some 35, _, _, _, _, _⟩) (v := .string T) rfl (by kernel_rfl) (by kernel_rfl) (by kernel_rfl) (fun _ _ _ h => h) (Or.inl ⟨by rfl, fun w' hS => by go_simp⟩) trivial ?_
    try simp only [Act.put, List.setIfInBounds_toArray, List.set_cons_zero, List.set_cons_succ]
    refine wpAnyH_take (i := 1) (oi := ⟨some 36, _, _, _, _, _⟩) (v := .int .i64 j) rfl (by kernel_rfl) (by kernel_rfl) (by kernel_rfl) (fun _ _ _ h => h) (Or.inl ⟨by rfl, fun w' hS => by go_simp⟩) trivial ?_
    try simp only [Act.put, List.setIfInBounds_toArray, List.set_cons_zero, List.set_cons_succ]
    refine wpAnyH_take (i := 2) (oi := ⟨some 37, _, _, _, _, _⟩) (v := .string (T.extract 0 j)) rfl (by kernel_rfl) (by kernel_rfl) (by kernel_rfl) (fun _ _ _ h => h) (Or.inl ⟨by rfl, fun w' hS => by go_simp⟩) trivial ?_
    try simp only [Act.put, List.setIfInBounds_toArray, List.set_cons_zero, List.set_cons_succ]
    refine wpAnyH_take (i := 3) (oi := ⟨some 38, _, _, _, _, _⟩) (v := .pointer (some ⟨b, 0, none⟩)) rfl (by kernel_rfl) (by kernel_rfl) (by kernel_rfl) (fun _ _ _ h => h) (Or.inl ⟨by rfl, fun w' hS => by go_simp⟩) trivial ?_
    try simp only [Act.put, List.setIfInBounds_toArray, List.set_cons_zero, List.set_cons_succ]
    refine wpAnyH_take (i := 7) (oi := ⟨some 42, _, _, _, _, _⟩) (v := .string T) rfl (by kernel_rfl) (by kernel_rfl) (by kernel_rfl) (fun _ _ _ h => h) (Or.inl ⟨by rfl, fun w' hS => by go_simp⟩) trivial ?_
    try simp only [Act.put, List.setIfInBounds_toArray, List.set_cons_zero, List.set_cons_succ]
    refine wpAnyH_take (i := 8) (oi := ⟨some 43, _, _, _, _, _⟩) (v := .int .i64 j) rfl (by kernel_rfl) (by kernel_rfl) (by kernel_rfl) (fun _ _ _ h => h) (Or.inl ⟨by rfl, fun w' hS => by go_simp⟩) trivial ?_
    try simp only [Act.put, List.setIfInBounds_toArray, List.set_cons_zero, List.set_cons_succ]
    refine wpAnyH_take (i := 9) (oi := ⟨some 44, _, _, _, _, _⟩) (v := .string (T.extract j T.size)) rfl (by kernel_rfl) (by kernel_rfl) (by kernel_rfl) (fun _ _ _ h => h) (Or.inl ⟨by rfl, fun w' hS => by go_simp⟩) trivial ?_
    try simp only [Act.put, List.setIfInBounds_toArray, List.set_cons_zero, List.set_cons_succ]
    refine wpAnyH_ready (rs := [4]) (by kernel_rfl) (by simp) ?_
    refine AllReadyH.cons (o := ⟨some 39, .buildSlice _ _ _, _, _, _, _⟩) rfl (fun K hK => ?_) AllReadyH.nil
    go_simp
    obtain ⟨w6, hw6⟩ : ∃ w6, (w5.alloc (.cells #[.string ⟨#[40]⟩, .string ⟨#[41]⟩, .string ⟨#[44]⟩, .string ⟨#[58]⟩, .string ⟨#[47]⟩, .string ⟨#[48]⟩, .string ⟨#[49]⟩, .string ⟨#[97]⟩] 9)).drew = w6 := ⟨_, rfl⟩
    have hb6 : Below w5.heap.size w5 w6 := by rw [← hw6]; exact below_drewN ((Below.refl _ _).alloc (Nat.le_refl _) _) 1
    have ht6 := HT5.out.kept (grown_none hb6) (fun e => by cases e) (fun g hg => by cases hg)
    have hg6 := grown_below HG5.out hb6
    have hcl : ∀ (i : Nat) y, eight[i]? = some y → w6.cell? ⟨w5.heap.size, 0 + i, none⟩ = some (.string y) := fun i y hy => by
      rw [← hw6]
      exact cells_new _ _ _ i _ (by simp only [eight] at hy; rcases i with _ | _ | _ | _ | _ | _ | _ | _ | i <;> simp at hy ⊢ <;> exact hy)
    have hone := One_any xs (k1 + 1 + 1 + 1) B b eight w5.heap.size 0 eight.length w6 (by have := HK.out; have := HK1.out; omega) ht6 (by decide) (by decide) (Nat.le_refl _) (by unfold maxLen; decide) (by have := HT5.out.choose_spec.choose_spec.2.2.2.2.2; omega) hcl
    have HONE := Lib.hid hone; have HG6 := Lib.hid hg6
    rw [hw6]
    refine hK.out _ _ trivial (fun _ => ?_)
    clear hK K hw6 hb6 ht6 hg6 hcl hone
    try simp only [Act.put, List.setIfInBounds_toArray, List.set_cons_zero, List.set_cons_succ]
    refine wpAnyH_ready (rs := [5]) (by kernel_rfl) (by simp) ?_
    refine AllReadyH.cons (o := ⟨some 40, .call ⟨_, _, _⟩, _, _, _, _⟩) rfl (fun K hK => ?_) AllReadyH.nil
    go_simp
    go_at_call 14
    refine Calls.mono (HONE.out : Calls Tryz.prog 14 #[.pointer (some ⟨b, 0, none⟩), .slice (some ⟨w5.heap.size, 0, none⟩) 8 8] w6 _) ?_
    rintro e w7 ⟨rfl, -, hg7⟩
    obtain ⟨q, hq⟩ : ∃ q, eight.getD (foldI (tapeI xs (k1 + 1 + 1 + 1)) eight.length).toNat ⟨#[]⟩ = q := ⟨_, rfl⟩
    have hqs : q.size ≤ 1 := by rw [← hq]; exact eight_size _
    rw [hq]
    refine hK.out _ _ trivial (fun _ => ?_)
    clear hK K hq
    have HG7 := Lib.hid (grown_trans HG6.out hg7)
    clear hg7
    try simp only [Act.put, List.setIfInBounds_toArray, List.set_cons_zero, List.set_cons_succ]
    refine wpAnyH_take (i := 6) (oi := ⟨some 41, _, _, _, _, _⟩) (v := .string (T.extract 0 j ++ q)) rfl (by kernel_rfl) (by kernel_rfl) (by kernel_rfl) (fun _ _ _ h => h) (Or.inl ⟨by rfl, fun w' hS => by (go_simp; have := HTS.out; omega)⟩) trivial ?_
    try simp only [Act.put, List.setIfInBounds_toArray, List.set_cons_zero, List.set_cons_succ]
    refine wpAnyH_take (i := 10) (oi := ⟨some 45, _, _, _, _, _⟩) (v := .string (T.extract 0 j ++ q ++ T.extract j T.size)) rfl (by kernel_rfl) (by kernel_rfl) (by kernel_rfl) (fun _ _ _ h => h) (Or.inl ⟨by rfl, fun w' hS => by (go_simp; have := HTS.out; omega)⟩) trivial ?_
    try simp only [Act.put, List.setIfInBounds_toArray, List.set_cons_zero, List.set_cons_succ]
    refine wpAnyH_take (i := 11) (oi := ⟨some 2, _, _, _, _, _⟩) (v := .string (T.extract 0 j ++ q ++ T.extract j T.size)) rfl (by kernel_rfl) (by kernel_rfl) (by kernel_rfl) (fun _ _ _ h => h) (Or.inl ⟨by rfl, fun w' hS => by go_simp⟩) trivial ?_
    try simp only [Act.put, List.setIfInBounds_toArray, List.set_cons_zero, List.set_cons_succ]
    refine wpAnyH_done (by kernel_rfl) ?_ _
    go_wp2_with fail
    go_ret
    exact ⟨_, rfl, by simp only [ByteArray.size_append]; omega, HG7.out⟩
  · go_wp2_with fail
    refine wp_region_held_drew (S := fun _ => True) (by kernel_rfl) trivial (fun hS0 => ?_)
    refine wpAnyH_take (i := 0) (oi := ⟨some 46, _, _, _, _, _⟩) (v := .string T) rfl (by kernel_rfl) (by kernel_rfl) (by kernel_rfl) (fun _ _ _ h => h) (Or.inl ⟨by rfl, fun w' hS => by go_simp⟩) trivial ?_
    try simp only [Act.put, List.setIfInBounds_toArray, List.set_cons_zero, List.set_cons_succ]
    refine wpAnyH_take (i := 1) (oi := ⟨some 47, _, _, _, _, _⟩) (v := .int .i64 j) rfl (by kernel_rfl) (by kernel_rfl) (by kernel_rfl) (fun _ _ _ h => h) (Or.inl ⟨by rfl, fun w' hS => by go_simp⟩) trivial ?_
    try simp only [Act.put, List.setIfInBounds_toArray, List.set_cons_zero, List.set_cons_succ]
    refine wpAnyH_take (i := 2) (oi := ⟨some 48, _, _, _, _, _⟩) (v := .string (T.extract 0 j)) rfl (by kernel_rfl) (by kernel_rfl) (by kernel_rfl) (fun _ _ _ h => h) (Or.inl ⟨by rfl, fun w' hS => by go_simp⟩) trivial ?_
    try simp only [Act.put, List.setIfInBounds_toArray, List.set_cons_zero, List.set_cons_succ]
    refine wpAnyH_take (i := 3) (oi := ⟨some 49, _, _, _, _, _⟩) (v := .pointer (some ⟨b, 0, none⟩)) rfl (by kernel_rfl) (by kernel_rfl) (by kernel_rfl) (fun _ _ _ h => h) (Or.inl ⟨by rfl, fun w' hS => by go_simp⟩) trivial ?_
    try simp only [Act.put, List.setIfInBounds_toArray, List.set_cons_zero, List.set_cons_succ]
    refine wpAnyH_take (i := 7) (oi := ⟨some 53, _, _, _, _, _⟩) (v := .string T) rfl (by kernel_rfl) (by kernel_rfl) (by kernel_rfl) (fun _ _ _ h => h) (Or.inl ⟨by rfl, fun w' hS => by go_simp⟩) trivial ?_
    try simp only [Act.put, List.setIfInBounds_toArray, List.set_cons_zero, List.set_cons_succ]
    refine wpAnyH_take (i := 8) (oi := ⟨some 54, _, _, _, _, _⟩) (v := .int .i64 j) rfl (by kernel_rfl) (by kernel_rfl) (by kernel_rfl) (fun _ _ _ h => h) (Or.inl ⟨by rfl, fun w' hS => by go_simp⟩) trivial ?_
    try simp only [Act.put, List.setIfInBounds_toArray, List.set_cons_zero, List.set_cons_succ]
    refine wpAnyH_take (i := 9) (oi := ⟨some 55, _, _, _, _, _⟩) (v := .int .i64 m) rfl (by kernel_rfl) (by kernel_rfl) (by kernel_rfl) (fun _ _ _ h => h) (Or.inl ⟨by rfl, fun w' hS => by go_simp⟩) trivial ?_
    try simp only [Act.put, List.setIfInBounds_toArray, List.set_cons_zero, List.set_cons_succ]
    refine wpAnyH_take (i := 10) (oi := ⟨some 56, _, _, _, _, _⟩) (v := .string (T.extract m T.size)) rfl (by kernel_rfl) (by kernel_rfl) (by kernel_rfl) (fun _ _ _ h => h) (Or.inl ⟨by rfl, fun w' hS => by go_simp⟩) trivial ?_
    try simp only [Act.put, List.setIfInBounds_toArray, List.set_cons_zero, List.set_cons_succ]
    refine wpAnyH_ready (rs := [4]) (by kernel_rfl) (by simp) ?_
    refine AllReadyH.cons (o := ⟨some 50, .buildSlice _ _ _, _, _, _, _⟩) rfl (fun K hK => ?_) AllReadyH.nil
    go_simp
    obtain ⟨w6, hw6⟩ : ∃ w6, (w5.alloc (.cells #[.string ⟨#[40]⟩, .string ⟨#[41]⟩, .string ⟨#[44]⟩, .string ⟨#[58]⟩, .string ⟨#[47]⟩, .string ⟨#[48]⟩, .string ⟨#[49]⟩, .string ⟨#[97]⟩] 9)).drew = w6 := ⟨_, rfl⟩
    have hb6 : Below w5.heap.size w5 w6 := by rw [← hw6]; exact below_drewN ((Below.refl _ _).alloc (Nat.le_refl _) _) 1
    have ht6 := HT5.out.kept (grown_none hb6) (fun e => by cases e) (fun g hg => by cases hg)
    have hg6 := grown_below HG5.out hb6
    have hcl : ∀ (i : Nat) y, eight[i]? = some y → w6.cell? ⟨w5.heap.size, 0 + i, none⟩ = some (.string y) := fun i y hy => by
      rw [← hw6]
      exact cells_new _ _ _ i _ (by simp only [eight] at hy; rcases i with _ | _ | _ | _ | _ | _ | _ | _ | i <;> simp at hy ⊢ <;> exact hy)
    have hone := One_any xs (k1 + 1 + 1 + 1) B b eight w5.heap.size 0 eight.length w6 (by have := HK.out; have := HK1.out; omega) ht6 (by decide) (by decide) (Nat.le_refl _) (by unfold maxLen; decide) (by have := HT5.out.choose_spec.choose_spec.2.2.2.2.2; omega) hcl
    have HONE := Lib.hid hone; have HG6 := Lib.hid hg6
    rw [hw6]
    refine hK.out _ _ trivial (fun _ => ?_)
    clear hK K hw6 hb6 ht6 hg6 hcl hone
    try simp only [Act.put, List.setIfInBounds_toArray, List.set_cons_zero, List.set_cons_succ]
    refine wpAnyH_ready (rs := [5]) (by kernel_rfl) (by simp) ?_
    refine AllReadyH.cons (o := ⟨some 51, .call ⟨_, _, _⟩, _, _, _, _⟩) rfl (fun K hK => ?_) AllReadyH.nil
    go_simp
    go_at_call 14
    refine Calls.mono (HONE.out : Calls Tryz.prog 14 #[.pointer (some ⟨b, 0, none⟩), .slice (some ⟨w5.heap.size, 0, none⟩) 8 8] w6 _) ?_
    rintro e w7 ⟨rfl, -, hg7⟩
    obtain ⟨q, hq⟩ : ∃ q, eight.getD (foldI (tapeI xs (k1 + 1 + 1 + 1)) eight.length).toNat ⟨#[]⟩ = q := ⟨_, rfl⟩
    have hqs : q.size ≤ 1 := by rw [← hq]; exact eight_size _
    rw [hq]
    refine hK.out _ _ trivial (fun _ => ?_)
    clear hK K hq
    have HG7 := Lib.hid (grown_trans HG6.out hg7)
    clear hg7
    try simp only [Act.put, List.setIfInBounds_toArray, List.set_cons_zero, List.set_cons_succ]
    refine wpAnyH_take (i := 6) (oi := ⟨some 52, _, _, _, _, _⟩) (v := .string (T.extract 0 j ++ q)) rfl (by kernel_rfl) (by kernel_rfl) (by kernel_rfl) (fun _ _ _ h => h) (Or.inl ⟨by rfl, fun w' hS => by (go_simp; have := HTS.out; omega)⟩) trivial ?_
    try simp only [Act.put, List.setIfInBounds_toArray, List.set_cons_zero, List.set_cons_succ]
    refine wpAnyH_take (i := 11) (oi := ⟨some 57, _, _, _, _, _⟩) (v := .string (T.extract 0 j ++ q ++ T.extract m T.size)) rfl (by kernel_rfl) (by kernel_rfl) (by kernel_rfl) (fun _ _ _ h => h) (Or.inl ⟨by rfl, fun w' hS => by (go_simp; have := HTS.out; omega)⟩) trivial ?_
    try simp only [Act.put, List.setIfInBounds_toArray, List.set_cons_zero, List.set_cons_succ]
    refine wpAnyH_take (i := 12) (oi := ⟨some 2, _, _, _, _, _⟩) (v := .string (T.extract 0 j ++ q ++ T.extract m T.size)) rfl (by kernel_rfl) (by kernel_rfl) (by kernel_rfl) (fun _ _ _ h => h) (Or.inl ⟨by rfl, fun w' hS => by go_simp⟩) trivial ?_
    try simp only [Act.put, List.setIfInBounds_toArray, List.set_cons_zero, List.set_cons_succ]
    refine wpAnyH_done (by kernel_rfl) ?_ _
    go_wp2_with fail
    go_ret
    exact ⟨_, rfl, by simp only [ByteArray.size_append]; omega, HG7.out⟩
end Go.Proofs.YtnlocdhhecockaaGreatDoor
