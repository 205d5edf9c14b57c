/-
  The walk of coldplugmade's Tree.
-/
import Derived.Test.YtehmidmoiamcfaaGreatDoorIH
import Derived.Test.YtehmidmoiamcfaaGreatDoorIRF
import Derived.Lib.BufferMore
set_option linter.unusedSimpArgs false
set_option linter.unusedVariables false
namespace Go.Cold
open Go Go.RowKit
/-- What is known of a made tree's devices. -/
def MadeL (n : Int) (L : List Dev) : Prop := ∀ d ∈ L, (1 ≤ d.idx ∧ d.idx ≤ n) ∧ nmM d.orig ∧ attM d.attrs
theorem MadeL.ins {n : Int} {L : List Dev} {d : Dev} (h : MadeL n L) (hd : (1 ≤ d.idx ∧ d.idx ≤ n) ∧ nmM d.orig ∧ attM d.attrs) : MadeL n (insR L d) := fun e he => by
 unfold insR at he
 split at he
 ·
  rcases mem_ins.1 he with rfl | he
  · exact hd
  · exact h e he
 · first | exact h e he | cases he
end Go.Cold
namespace Go.Proofs.YtehmidmoiamcfaaGreatDoor
open Go.RowKit Go.Cold
def TreeMPost (xs : List Int) (k B b : Nat) (n : Int) (w : World) (e : Ending) (w' : World) : Prop := ∃ (A : Option Addr) (c : Nat) (L : List Dev) (k' : Nat), e = .returned (.agg #[.slice A L.length c]) ∧ (VT L ∧ MadeL n L) ∧ (L.length : Int) ≤ n ∧ SlS w' (fun x => w.heap.size ≤ x ∧ x < w'.heap.size) A c L ∧ k' ≤ k + 1000 ∧ TapeAt w' B b xs k' ∧ w.grownBy w' (some b)
/-- The cut behind Device and Insert. -/
def TrCutM (w0 : World) (B b : Nat) (xs : List Int) (kx g4 g5 : Nat) (A : Option Addr) (c : Nat) (L : List Dev) (g7 : Nat) (d : Dev) (w : World) : Prop :=
 ∃ (k' : Nat) (A' : Option Addr) (c' : Nat), k' ≤ kx ∧ TrSt w0 B b xs k' g4 g5 A c L w ∧ SlS w (fun x => g5 < x ∧ x < w.heap.size) A' c' (insR L d) ∧ w.cell? ⟨g7, 0, none⟩ = some (.slice A' (insR L d).length c')
set_option maxRecDepth 100000 in
set_option maxHeartbeats 8000000 in
/-- coldplugmade.Tree. -/
theorem TreeM_any (xs : List Int) (k B b : Nat) (n : Int) (w : World) (hk : k ≤ 2 ^ 37) (ht : TapeAt w B b xs k) (hn : 0 ≤ n ∧ n ≤ 20) (hok : Ok w) (hng : NotG b) : Calls Tryz.prog 26 #[.pointer (some ⟨b, 0, none⟩), .int .i64 n] w (TreeMPost xs k B b n w) := by
 have hn1 : 0 ≤ n := hn.1; have hn2 : n ≤ 20 := hn.2
 have HT := Lib.hid ht; have HK := Lib.hid hk; have HOK := Lib.hid hok; have HNG := Lib.hid hng; have HN := Lib.hid hn; clear ht hk hok hng hn
 have HBW := Lib.hid (show b < w.heap.size ∧ B ≤ b by obtain ⟨_, _, _, _, _, _, h1, h2⟩ := HT.out; exact ⟨h2, h1⟩)
 have hzt := (zero_of_info (P := Tryz.prog) (t := 57) info_tree2).1
 go_enter Tryz.func26, Tryz.ntmps26
 go_upto_region 2 with fail
 obtain ⟨w1, hw1⟩ : ∃ w1, w.alloc (.cells #[.slice none 0 0] 57) = w1 := ⟨_, rfl⟩
 have hbw1 : Below w.heap.size w w1 := by rw [← hw1]; exact (Below.refl _ _).alloc (Nat.le_refl _) _
 have HGw1 := Lib.hid (show w1.heap.size = w.heap.size + 1 by rw [← hw1]; simp)
 have HXrw1 := Lib.hid (show BoxL w1 w.heap.size [.slice none 0 0] from box_mk hw1)
 try simp only [hw1]
 have HBw1 := Lib.hid hbw1
 clear hw1 hbw1
 try rw [show w.heap.size + 1 = w1.heap.size from HGw1.out.symm]
 obtain ⟨w2, hw2⟩ : ∃ w2, w1.alloc (.cells #[.slice none 0 0] 57) = w2 := ⟨_, rfl⟩
 have hbw2 : Below w1.heap.size w1 w2 := by rw [← hw2]; exact (Below.refl _ _).alloc (Nat.le_refl _) _
 have HGw2 := Lib.hid (show w2.heap.size = w1.heap.size + 1 by rw [← hw2]; simp)
 have HXtw2 := Lib.hid (show BoxL w2 w1.heap.size [.slice none 0 0] from box_mk hw2)
 try simp only [hw2]
 have HBw2 := Lib.hid (HBw1.out.trans (hbw2.mono HBw1.out.size))
 have rw2 := Lib.hid (HXrw1.out.kept (grown_none hbw2) (fun e => by cases e))
 clear hw2 hbw2
 try rw [show w1.heap.size + 1 = w2.heap.size from HGw2.out.symm]
 have HT2 := Lib.hid (HT.out.kept (grown_none HBw2.out) (fun e => by cases e) (fun g e => by cases e)); have HKK := Lib.hid (show TrK w B b w.heap.size w1.heap.size from ⟨HBW.out.1, HBW.out.2, Nat.le_refl _, by have := HGw1.out; omega⟩)
 have HST := Lib.hid (show TrSt w B b xs (k) w.heap.size w1.heap.size none 0 ([] : List Dev) w2 from ⟨HT2.out, grown_any HBw2.out, rw2.out, HXtw2.out, SlS.nil_⟩)
 go_wp2_with fail
 go_loopw [6] (fun i wr => ∃ (j : Int) (L : List Dev) (A : Option Addr) (c k' : Nat), i = .int .i64 j ∧ (1 ≤ j ∧ j ≤ n + 1 ∧ (L.length : Int) + 1 ≤ j) ∧ Hid (VT L ∧ MadeL n L) ∧ Hid ((k' : Int) ≤ k + 31 * (j - 1)) ∧ Hid (TrSt w B b xs (k') w.heap.size w1.heap.size A c L wr)) (fun i _ => (n + 1 - intOf i).toNat)
 case atStart => exact ⟨1, [], none, 0, k, rfl, ⟨by omega, by omega, by simp⟩, Lib.hid ⟨VT_nil, fun d hd => by cases hd⟩, by show ((k : Nat) : Int) ≤ _; omega, HST⟩
 case round =>
  obtain ⟨j, L, A, c, k', rfl, hj, HVM, HKB, HST⟩ := hrel
  have HVT := Lib.hid HVM.out.1
  obtain ⟨hj0, hj1, hj2⟩ := hj
  skip
  have hk' : k' ≤ k + 31 * 20 := by have := HKB.out; omega
  have HKX := Lib.hid hk'; clear hk'
  have hll : L.length ≤ 20 := by omega
  have HLL := Lib.hid hll; have HJJ := Lib.hid (show 1 ≤ j ∧ j ≤ 1000 by omega); clear hll
  by_cases hlt : j ≤ n
  ·
   go_upto_region 5 with fail
   go_cut [7, 8] (fun s7 s8 wx => ∃ (g7 : Nat) (d : Dev), Hid (d.idx = j ∧ nmM d.orig ∧ attM d.attrs) ∧ s7 = .pointer (some ⟨g7, 0, none⟩) ∧ s8 = .int .i64 (insE L d) ∧ Hid (TrCutM w B b xs (k' + 30) w.heap.size w1.heap.size A c L g7 d wx))
   case first =>
    refine wp_region_held_drew (S := fun w' => BoxL w' w1.heap.size [.slice A L.length c]) (by kernel_rfl) HST.out.2.2.2.1.drew (fun hS0 => ?_)
    obtain ⟨wd, hwd⟩ : ∃ z, wr.drew = z := ⟨_, rfl⟩
    have HSTd := Lib.hid HST.out.drew
    rw [hwd] at hS0 HSTd ⊢
    clear hwd hS0
    have HGDd := Lib.hid (show wd.grownBy wd (some b) from grown_any (Below.refl _ _))
    refine wpAnyH_take (i := 0) (oi := ⟨some 15, _, _, _, _, _⟩) (v := .agg #[.slice A L.length c]) rfl (by kernel_rfl) (by kernel_rfl) (by kernel_rfl) (fun _ _ _ h => h) (Or.inl ⟨by rfl, fun w' hS => by (have u := hS.1 0 _ rfl; go_simp)⟩) HSTd.out.2.2.2.1 ?_
    try simp only [Act.put, List.setIfInBounds_toArray, List.set_cons_zero, List.set_cons_succ]
    refine wpAnyH_take (i := 2) (oi := ⟨some 17, _, _, _, _, _⟩) (v := .agg #[.slice A L.length c]) rfl (by kernel_rfl) (by kernel_rfl) (by kernel_rfl) (fun _ _ _ h => h) (Or.inl ⟨by rfl, fun w' hS => by (have u := hS.1 0 _ rfl; go_simp)⟩) HSTd.out.2.2.2.1 ?_
    try simp only [Act.put, List.setIfInBounds_toArray, List.set_cons_zero, List.set_cons_succ]
    refine wpAnyH_take (i := 1) (oi := ⟨some 16, _, _, _, _, _⟩) (v := .pointer (some ⟨b, 0, none⟩)) rfl (by kernel_rfl) (by kernel_rfl) (by kernel_rfl) (fun _ _ _ h => h) (Or.inl ⟨by rfl, fun w' hS => by go_simp⟩) HSTd.out.2.2.2.1 ?_
    try simp only [Act.put, List.setIfInBounds_toArray, List.set_cons_zero, List.set_cons_succ]
    refine wpAnyH_take (i := 3) (oi := ⟨some 18, _, _, _, _, _⟩) (v := .int .i64 j) rfl (by kernel_rfl) (by kernel_rfl) (by kernel_rfl) (fun _ _ _ h => h) (Or.inl ⟨by rfl, fun w' hS => by go_simp⟩) HSTd.out.2.2.2.1 ?_
    try simp only [Act.put, List.setIfInBounds_toArray, List.set_cons_zero, List.set_cons_succ]
    refine wpAnyH_ready (rs := [4, 9]) (by kernel_rfl) (by simp) ?_
    refine AllReadyH.cons (o := ⟨some 19, .call ⟨_, _, _⟩, _, _, _, _⟩) rfl (fun K hK => ?_) (AllReadyH.cons (o := ⟨some 7, .alloc _, _, _, _, _⟩) rfl (fun K hK => ?_) (AllReadyH.nil))
    ·
     go_simp
     go_at_call 49
     refine (DeviceM_any xs k' B b A c L j _ _ (by have := HK.out; have := HKX.out; omega) HSTd.out.1 (HSTd.out.treeIn HKK.out) (fun d hd => ⟨(HVT.out.small d hd).2, (HVT.out.small d hd).1⟩) (by have := HLL.out; omega) HJJ.out).mono ?_
     rintro e' q3 ⟨d, A2, c2, k2, rfl, hfew_, hmd_, hsl_, hk2_, ht_, hg_⟩
     have HSTq3 := Lib.hid (HSTd.out.tape HKK.out ht_ hg_); have HFEW := Lib.hid hfew_; have HMD := Lib.hid hmd_; have HK2 := Lib.hid hk2_
     have HGDq3 := Lib.hid (grown_trans HGDd.out hg_)
     have HSDq3 := Lib.hid (show SlS q3 (fun x => w1.heap.size < x ∧ x < q3.heap.size) A2 c2 d.attrs from hsl_.mono (fun x hx => ⟨by have := HSTd.out.2.2.2.1.2.2; omega, hx.2⟩) (fun _ _ _ _ hu => hu))
     clear hfew_ hmd_ hsl_ hk2_ ht_ hg_
     refine hK.out _ _ HSTq3.out.2.2.2.1 (fun _ => ?_)
     clear hK K
     try simp only [Act.put, List.setIfInBounds_toArray, List.set_cons_zero, List.set_cons_succ]
     refine wpAnyH_ready (rs := [5, 9]) (by kernel_rfl) (by simp) ?_
     refine AllReadyH.cons (o := ⟨some 20, .call ⟨_, _, _⟩, _, _, _, _⟩) rfl (fun K hK => ?_) (AllReadyH.cons (o := ⟨some 7, .alloc _, _, _, _, _⟩) rfl (fun K hK => ?_) (AllReadyH.nil))
     ·
      have HSO := Lib.hid (show SlS q3 (fun x => w1.heap.size < x ∧ x < q3.heap.size) A c L from ((HSTd.out.2.2.2.2.tape HGDq3.out (fun x hx => by have := HKK.out; unfold TrK at this; omega))).mono (fun x hx => ⟨hx.1, by have := HGDq3.out.size; omega⟩) (fun _ _ _ _ hu => hu))
      go_simp
      go_at_call 48
      refine (RInsert_any A c L d A2 c2 (fun x => w1.heap.size < x ∧ x < q3.heap.size) _ HSO.out (fun x hx => hx.2) HFEW.out.ok HSDq3.out HVT.out (HOK.out.tape HSTq3.out.2.1 HNG.out)).mono ?_
      rintro e' q4 ⟨hb_, v, rfl, hown_⟩
      obtain ⟨A3, c3, hv_, hsl_⟩ := hown_.cs
      subst hv_
      have HSTq4 := Lib.hid (HSTq3.out.below hb_)
      have HGDq4 := Lib.hid (grown_below HGDq3.out hb_)
      have HSI := Lib.hid (show SlS q4 (fun x => w1.heap.size < x ∧ x < q4.heap.size) A3 c3 (insR L d) from hsl_.mono (fun x hx => ⟨by rcases hx.1 with h | h; exact h.1; have := HSTq3.out.2.2.2.1.2.2; omega, hx.2⟩) (fun _ _ _ _ hu => hu))
      clear hb_ hown_ hsl_ HSO
      refine hK.out _ _ HSTq4.out.2.2.2.1 (fun _ => ?_)
      clear hK K
      try simp only [Act.put, List.setIfInBounds_toArray, List.set_cons_zero, List.set_cons_succ]
      refine wpAnyH_take (i := 6) (oi := ⟨some 14, _, _, _, _, _⟩) (v := .tuple #[.agg #[.slice A3 (insR L d).length c3], .int .i64 (insE L d)]) rfl (by kernel_rfl) (by kernel_rfl) (by kernel_rfl) (fun _ _ _ h => h) (Or.inl ⟨by rfl, fun w' hS => by go_simp⟩) HSTq4.out.2.2.2.1 ?_
      try simp only [Act.put, List.setIfInBounds_toArray, List.set_cons_zero, List.set_cons_succ]
      refine wpAnyH_take (i := 7) (oi := ⟨some 21, _, _, _, _, _⟩) (v := .agg #[.slice A3 (insR L d).length c3]) rfl (by kernel_rfl) (by kernel_rfl) (by kernel_rfl) (fun _ _ _ h => h) (Or.inl ⟨by rfl, fun w' hS => by go_simp⟩) HSTq4.out.2.2.2.1 ?_
      try simp only [Act.put, List.setIfInBounds_toArray, List.set_cons_zero, List.set_cons_succ]
      refine wpAnyH_take (i := 8) (oi := ⟨some 22, _, _, _, _, _⟩) (v := .int .i64 (insE L d)) rfl (by kernel_rfl) (by kernel_rfl) (by kernel_rfl) (fun _ _ _ h => h) (Or.inl ⟨by rfl, fun w' hS => by go_simp⟩) HSTq4.out.2.2.2.1 ?_
      try simp only [Act.put, List.setIfInBounds_toArray, List.set_cons_zero, List.set_cons_succ]
      refine wpAnyH_ready (rs := [9]) (by kernel_rfl) (by simp) ?_
      refine AllReadyH.cons (o := ⟨some 7, .alloc _, _, _, _, _⟩) rfl (fun K hK => ?_) (AllReadyH.nil)
      go_simp
      obtain ⟨q5, hq5⟩ : ∃ z, q4.alloc (.cells #[.slice none 0 0] 57) = z := ⟨_, rfl⟩
      have hb_ : Below q4.heap.size q4 q5 := by rw [← hq5]; exact (Below.refl _ _).alloc (Nat.le_refl _) _
      have HB7q5 := Lib.hid (show BoxL q5 q4.heap.size [.slice none 0 0] from box_mk hq5)
      try rw [hq5]
      clear hq5
      have HG7 := Lib.hid (show b < q4.heap.size ∧ w1.heap.size < q4.heap.size ∧ wd.heap.size ≤ q4.heap.size from ⟨by have := HSTq4.out.2.2.2.1.2.2; have := HKK.out; unfold TrK at this; omega, HSTq4.out.2.2.2.1.2.2, HGDq4.out.size⟩)
      have HSTq5 := Lib.hid (HSTq4.out.below hb_)
      have HGDq5 := Lib.hid (grown_below HGDq4.out hb_)
      have HSIq5 := Lib.hid ((HSI.out.below hb_ (fun x hx => hx.2)).mono (S' := fun x => w1.heap.size < x ∧ x < q5.heap.size ∧ x ≠ q4.heap.size) (fun x hx => ⟨hx.1, by have := hb_.size; omega, by omega⟩) (fun _ _ _ _ hu => hu))
      clear hb_
      refine hK.out _ _ HSTq5.out.2.2.2.1 (fun _ => ?_)
      clear hK K
      try simp only [Act.put, List.setIfInBounds_toArray, List.set_cons_zero, List.set_cons_succ]
      have c7 := HB7q5.out.1 0 _ rfl; have c7f := HB7q5.out.2.1
      have HSF := Lib.hid (show ∀ (A' : Option Addr) (c' : Nat) (L' : List Dev), SlS q5 (fun x => w1.heap.size < x ∧ x < q5.heap.size ∧ x ≠ q4.heap.size) A' c' L' → SlS (q5.setCell ⟨q4.heap.size, 0, none⟩ (.slice A3 (insR L d).length c3)) (fun x => w1.heap.size < x ∧ x < (q5.setCell ⟨q4.heap.size, 0, none⟩ (.slice A3 (insR L d).length c3)).heap.size) A' c' L' from fun A' c' L' h => (h.set_ (fun x hx => hx.2.2) _).mono (fun x hx => ⟨hx.1, by simpa using hx.2.1⟩) (fun _ _ _ _ hu => hu))
      have HTF := Lib.hid (show TrSt w B b xs k2 w.heap.size w1.heap.size A c L (q5.setCell ⟨q4.heap.size, 0, none⟩ (.slice A3 (insR L d).length c3)) from ⟨HSTq5.out.1.set_ (by have := HG7.out; omega) (by have := HG7.out; have := HBW.out; omega) _, grown_set HSTq5.out.2.1 (by have := HG7.out; have := HKK.out; unfold TrK at this; omega) _, HSTq5.out.2.2.1.far (by have := HG7.out; have := HKK.out; unfold TrK at this; omega) _, HSTq5.out.2.2.2.1.far (by have := HG7.out; omega) _, HSF.out _ _ _ (((HSTd.out.2.2.2.2.tape HGDq5.out (fun x hx => by have := HKK.out; unfold TrK at this; omega))).mono (fun x hx => ⟨hx.1, by have := HGDq5.out.size; omega, by have := HG7.out; omega⟩) (fun _ _ _ _ hu => hu))⟩)
      have HCF := Lib.hid (show BoxL (q5.setCell ⟨q4.heap.size, 0, none⟩ (.slice A3 (insR L d).length c3)) q4.heap.size [.slice A3 (insR L d).length c3] from HB7q5.out.set_ (j := 0) (by simp) _)
      have HSN := Lib.hid (HSF.out _ _ _ HSIq5.out)
      refine wpAnyH_ready (rs := [10]) (by kernel_rfl) (by simp) ?_
      refine AllReadyH.cons (o := ⟨none, .store _ _ _, _, _, _, _⟩) rfl (fun K hK => ?_) AllReadyH.nil
      go_simp
      refine hK.out _ _ HTF.out.2.2.2.1 (fun _ => ?_)
      clear hK K
      try simp only [Act.put, List.setIfInBounds_toArray, List.set_cons_zero, List.set_cons_succ]
      refine wpAnyH_take (i := 11) (oi := ⟨some 8, _, _, _, _, _⟩) (v := .int .i64 (insE L d)) rfl (by kernel_rfl) (by kernel_rfl) (by kernel_rfl) (fun _ _ _ h => h) (Or.inl ⟨by rfl, fun w' hS => by go_simp⟩) HTF.out.2.2.2.1 ?_
      try simp only [Act.put, List.setIfInBounds_toArray, List.set_cons_zero, List.set_cons_succ]
      refine wpAnyH_done (by kernel_rfl) ?_ _
      go_wp2_with fail
      go_meet
      exact ⟨q4.heap.size, d, HMD, rfl, rfl, ⟨k2, A3, c3, HK2.out, HTF.out, HSN.out, HCF.out.1 0 _ rfl⟩⟩
     ·
      go_simp
      obtain ⟨q6, hq6⟩ : ∃ z, q3.alloc (.cells #[.slice none 0 0] 57) = z := ⟨_, rfl⟩
      have hb_ : Below q3.heap.size q3 q6 := by rw [← hq6]; exact (Below.refl _ _).alloc (Nat.le_refl _) _
      have HB7q6 := Lib.hid (show BoxL q6 q3.heap.size [.slice none 0 0] from box_mk hq6)
      try rw [hq6]
      clear hq6
      have HG7 := Lib.hid (show b < q3.heap.size ∧ w1.heap.size < q3.heap.size ∧ wd.heap.size ≤ q3.heap.size from ⟨by have := HSTq3.out.2.2.2.1.2.2; have := HKK.out; unfold TrK at this; omega, HSTq3.out.2.2.2.1.2.2, HGDq3.out.size⟩)
      have HSTq6 := Lib.hid (HSTq3.out.below hb_)
      have HGDq6 := Lib.hid (grown_below HGDq3.out hb_)
      have HSDq6 := Lib.hid ((HSDq3.out.below hb_ (fun x hx => hx.2)).mono (S' := fun x => w1.heap.size < x ∧ x < q6.heap.size ∧ x ≠ q3.heap.size) (fun x hx => ⟨hx.1, by have := hb_.size; omega, by omega⟩) (fun _ _ _ _ hu => hu))
      clear hb_
      refine hK.out _ _ HSTq6.out.2.2.2.1 (fun _ => ?_)
      clear hK K
      try simp only [Act.put, List.setIfInBounds_toArray, List.set_cons_zero, List.set_cons_succ]
      refine wpAnyH_ready (rs := [5]) (by kernel_rfl) (by simp) ?_
      refine AllReadyH.cons (o := ⟨some 20, .call ⟨_, _, _⟩, _, _, _, _⟩) rfl (fun K hK => ?_) (AllReadyH.nil)
      have HSO := Lib.hid (show SlS q6 (fun x => w1.heap.size < x ∧ x < q6.heap.size ∧ x ≠ q3.heap.size) A c L from ((HSTd.out.2.2.2.2.tape HGDq6.out (fun x hx => by have := HKK.out; unfold TrK at this; omega))).mono (fun x hx => ⟨hx.1, by have := HGDq6.out.size; omega, by have := HG7.out; omega⟩) (fun _ _ _ _ hu => hu))
      go_simp
      go_at_call 48
      refine (RInsert_any A c L d A2 c2 (fun x => w1.heap.size < x ∧ x < q6.heap.size ∧ x ≠ q3.heap.size) _ HSO.out (fun x hx => hx.2.1) HFEW.out.ok HSDq6.out HVT.out (HOK.out.tape HSTq6.out.2.1 HNG.out)).mono ?_
      rintro e' q7 ⟨hb_, v, rfl, hown_⟩
      obtain ⟨A3, c3, hv_, hsl_⟩ := hown_.cs
      subst hv_
      have HSTq7 := Lib.hid (HSTq6.out.below hb_)
      have HGDq7 := Lib.hid (grown_below HGDq6.out hb_)
      have HB7q7 := Lib.hid (HB7q6.out.kept (grown_none hb_) (fun e => by cases e))
      have HSI := Lib.hid (show SlS q7 (fun x => w1.heap.size < x ∧ x < q7.heap.size ∧ x ≠ q3.heap.size) A3 c3 (insR L d) from hsl_.mono (fun x hx => ⟨by rcases hx.1 with h | h; exact h.1; have := HSTq6.out.2.2.2.1.2.2; omega, hx.2, by rcases hx.1 with h | h; exact h.2.2; have := HB7q6.out.2.2; omega⟩) (fun _ _ _ _ hu => hu))
      clear hb_ hown_ hsl_ HSO
      refine hK.out _ _ HSTq7.out.2.2.2.1 (fun _ => ?_)
      clear hK K
      try simp only [Act.put, List.setIfInBounds_toArray, List.set_cons_zero, List.set_cons_succ]
      refine wpAnyH_take (i := 6) (oi := ⟨some 14, _, _, _, _, _⟩) (v := .tuple #[.agg #[.slice A3 (insR L d).length c3], .int .i64 (insE L d)]) rfl (by kernel_rfl) (by kernel_rfl) (by kernel_rfl) (fun _ _ _ h => h) (Or.inl ⟨by rfl, fun w' hS => by go_simp⟩) HSTq7.out.2.2.2.1 ?_
      try simp only [Act.put, List.setIfInBounds_toArray, List.set_cons_zero, List.set_cons_succ]
      refine wpAnyH_take (i := 7) (oi := ⟨some 21, _, _, _, _, _⟩) (v := .agg #[.slice A3 (insR L d).length c3]) rfl (by kernel_rfl) (by kernel_rfl) (by kernel_rfl) (fun _ _ _ h => h) (Or.inl ⟨by rfl, fun w' hS => by go_simp⟩) HSTq7.out.2.2.2.1 ?_
      try simp only [Act.put, List.setIfInBounds_toArray, List.set_cons_zero, List.set_cons_succ]
      refine wpAnyH_take (i := 8) (oi := ⟨some 22, _, _, _, _, _⟩) (v := .int .i64 (insE L d)) rfl (by kernel_rfl) (by kernel_rfl) (by kernel_rfl) (fun _ _ _ h => h) (Or.inl ⟨by rfl, fun w' hS => by go_simp⟩) HSTq7.out.2.2.2.1 ?_
      try simp only [Act.put, List.setIfInBounds_toArray, List.set_cons_zero, List.set_cons_succ]
      have c7 := HB7q7.out.1 0 _ rfl; have c7f := HB7q7.out.2.1
      have HSF := Lib.hid (show ∀ (A' : Option Addr) (c' : Nat) (L' : List Dev), SlS q7 (fun x => w1.heap.size < x ∧ x < q7.heap.size ∧ x ≠ q3.heap.size) A' c' L' → SlS (q7.setCell ⟨q3.heap.size, 0, none⟩ (.slice A3 (insR L d).length c3)) (fun x => w1.heap.size < x ∧ x < (q7.setCell ⟨q3.heap.size, 0, none⟩ (.slice A3 (insR L d).length c3)).heap.size) A' c' L' from fun A' c' L' h => (h.set_ (fun x hx => hx.2.2) _).mono (fun x hx => ⟨hx.1, by simpa using hx.2.1⟩) (fun _ _ _ _ hu => hu))
      have HTF := Lib.hid (show TrSt w B b xs k2 w.heap.size w1.heap.size A c L (q7.setCell ⟨q3.heap.size, 0, none⟩ (.slice A3 (insR L d).length c3)) from ⟨HSTq7.out.1.set_ (by have := HG7.out; omega) (by have := HG7.out; have := HBW.out; omega) _, grown_set HSTq7.out.2.1 (by have := HG7.out; have := HKK.out; unfold TrK at this; omega) _, HSTq7.out.2.2.1.far (by have := HG7.out; have := HKK.out; unfold TrK at this; omega) _, HSTq7.out.2.2.2.1.far (by have := HG7.out; omega) _, HSF.out _ _ _ (((HSTd.out.2.2.2.2.tape HGDq7.out (fun x hx => by have := HKK.out; unfold TrK at this; omega))).mono (fun x hx => ⟨hx.1, by have := HGDq7.out.size; omega, by have := HG7.out; omega⟩) (fun _ _ _ _ hu => hu))⟩)
      have HCF := Lib.hid (show BoxL (q7.setCell ⟨q3.heap.size, 0, none⟩ (.slice A3 (insR L d).length c3)) q3.heap.size [.slice A3 (insR L d).length c3] from HB7q7.out.set_ (j := 0) (by simp) _)
      have HSN := Lib.hid (HSF.out _ _ _ HSI.out)
      refine wpAnyH_ready (rs := [10]) (by kernel_rfl) (by simp) ?_
      refine AllReadyH.cons (o := ⟨none, .store _ _ _, _, _, _, _⟩) rfl (fun K hK => ?_) AllReadyH.nil
      go_simp
      refine hK.out _ _ HTF.out.2.2.2.1 (fun _ => ?_)
      clear hK K
      try simp only [Act.put, List.setIfInBounds_toArray, List.set_cons_zero, List.set_cons_succ]
      refine wpAnyH_take (i := 11) (oi := ⟨some 8, _, _, _, _, _⟩) (v := .int .i64 (insE L d)) rfl (by kernel_rfl) (by kernel_rfl) (by kernel_rfl) (fun _ _ _ h => h) (Or.inl ⟨by rfl, fun w' hS => by go_simp⟩) HTF.out.2.2.2.1 ?_
      try simp only [Act.put, List.setIfInBounds_toArray, List.set_cons_zero, List.set_cons_succ]
      refine wpAnyH_done (by kernel_rfl) ?_ _
      go_wp2_with fail
      go_meet
      exact ⟨q3.heap.size, d, HMD, rfl, rfl, ⟨k2, A3, c3, HK2.out, HTF.out, HSN.out, HCF.out.1 0 _ rfl⟩⟩
    ·
     go_simp
     obtain ⟨q8, hq8⟩ : ∃ z, wd.alloc (.cells #[.slice none 0 0] 57) = z := ⟨_, rfl⟩
     have hb_ : Below wd.heap.size wd q8 := by rw [← hq8]; exact (Below.refl _ _).alloc (Nat.le_refl _) _
     have HB7q8 := Lib.hid (show BoxL q8 wd.heap.size [.slice none 0 0] from box_mk hq8)
     try rw [hq8]
     clear hq8
     have HG7 := Lib.hid (show b < wd.heap.size ∧ w1.heap.size < wd.heap.size ∧ wd.heap.size ≤ wd.heap.size from ⟨by have := HSTd.out.2.2.2.1.2.2; have := HKK.out; unfold TrK at this; omega, HSTd.out.2.2.2.1.2.2, HGDd.out.size⟩)
     have HSTq8 := Lib.hid (HSTd.out.below hb_)
     have HGDq8 := Lib.hid (grown_below HGDd.out hb_)
     clear hb_
     refine hK.out _ _ HSTq8.out.2.2.2.1 (fun _ => ?_)
     clear hK K
     try simp only [Act.put, List.setIfInBounds_toArray, List.set_cons_zero, List.set_cons_succ]
     refine wpAnyH_ready (rs := [4]) (by kernel_rfl) (by simp) ?_
     refine AllReadyH.cons (o := ⟨some 19, .call ⟨_, _, _⟩, _, _, _, _⟩) rfl (fun K hK => ?_) (AllReadyH.nil)
     go_simp
     go_at_call 49
     refine (DeviceM_any xs k' B b A c L j _ _ (by have := HK.out; have := HKX.out; omega) HSTq8.out.1 (HSTq8.out.treeIn HKK.out) (fun d hd => ⟨(HVT.out.small d hd).2, (HVT.out.small d hd).1⟩) (by have := HLL.out; omega) HJJ.out).mono ?_
     rintro e' q9 ⟨d, A2, c2, k2, rfl, hfew_, hmd_, hsl_, hk2_, ht_, hg_⟩
     have HSTq9 := Lib.hid (HSTq8.out.tape HKK.out ht_ hg_); have HFEW := Lib.hid hfew_; have HMD := Lib.hid hmd_; have HK2 := Lib.hid hk2_
     have HGDq9 := Lib.hid (grown_trans HGDq8.out hg_)
     have HB7q9 := Lib.hid (HB7q8.out.kept hg_ (fun e => by have := Option.some.inj e; have := HG7.out; omega))
     have HSDq9 := Lib.hid (show SlS q9 (fun x => w1.heap.size < x ∧ x < q9.heap.size ∧ x ≠ wd.heap.size) A2 c2 d.attrs from hsl_.mono (fun x hx => ⟨by have := HSTq8.out.2.2.2.1.2.2; omega, hx.2, by have := HB7q8.out.2.2; omega⟩) (fun _ _ _ _ hu => hu))
     clear hfew_ hmd_ hsl_ hk2_ ht_ hg_
     refine hK.out _ _ HSTq9.out.2.2.2.1 (fun _ => ?_)
     clear hK K
     try simp only [Act.put, List.setIfInBounds_toArray, List.set_cons_zero, List.set_cons_succ]
     refine wpAnyH_ready (rs := [5]) (by kernel_rfl) (by simp) ?_
     refine AllReadyH.cons (o := ⟨some 20, .call ⟨_, _, _⟩, _, _, _, _⟩) rfl (fun K hK => ?_) (AllReadyH.nil)
     have HSO := Lib.hid (show SlS q9 (fun x => w1.heap.size < x ∧ x < q9.heap.size ∧ x ≠ wd.heap.size) A c L from ((HSTd.out.2.2.2.2.tape HGDq9.out (fun x hx => by have := HKK.out; unfold TrK at this; omega))).mono (fun x hx => ⟨hx.1, by have := HGDq9.out.size; omega, by have := HG7.out; omega⟩) (fun _ _ _ _ hu => hu))
     go_simp
     go_at_call 48
     refine (RInsert_any A c L d A2 c2 (fun x => w1.heap.size < x ∧ x < q9.heap.size ∧ x ≠ wd.heap.size) _ HSO.out (fun x hx => hx.2.1) HFEW.out.ok HSDq9.out HVT.out (HOK.out.tape HSTq9.out.2.1 HNG.out)).mono ?_
     rintro e' q10 ⟨hb_, v, rfl, hown_⟩
     obtain ⟨A3, c3, hv_, hsl_⟩ := hown_.cs
     subst hv_
     have HSTq10 := Lib.hid (HSTq9.out.below hb_)
     have HGDq10 := Lib.hid (grown_below HGDq9.out hb_)
     have HB7q10 := Lib.hid (HB7q9.out.kept (grown_none hb_) (fun e => by cases e))
     have HSI := Lib.hid (show SlS q10 (fun x => w1.heap.size < x ∧ x < q10.heap.size ∧ x ≠ wd.heap.size) A3 c3 (insR L d) from hsl_.mono (fun x hx => ⟨by rcases hx.1 with h | h; exact h.1; have := HSTq9.out.2.2.2.1.2.2; omega, hx.2, by rcases hx.1 with h | h; exact h.2.2; have := HB7q9.out.2.2; omega⟩) (fun _ _ _ _ hu => hu))
     clear hb_ hown_ hsl_ HSO
     refine hK.out _ _ HSTq10.out.2.2.2.1 (fun _ => ?_)
     clear hK K
     try simp only [Act.put, List.setIfInBounds_toArray, List.set_cons_zero, List.set_cons_succ]
     refine wpAnyH_take (i := 6) (oi := ⟨some 14, _, _, _, _, _⟩) (v := .tuple #[.agg #[.slice A3 (insR L d).length c3], .int .i64 (insE L d)]) rfl (by kernel_rfl) (by kernel_rfl) (by kernel_rfl) (fun _ _ _ h => h) (Or.inl ⟨by rfl, fun w' hS => by go_simp⟩) HSTq10.out.2.2.2.1 ?_
     try simp only [Act.put, List.setIfInBounds_toArray, List.set_cons_zero, List.set_cons_succ]
     refine wpAnyH_take (i := 7) (oi := ⟨some 21, _, _, _, _, _⟩) (v := .agg #[.slice A3 (insR L d).length c3]) rfl (by kernel_rfl) (by kernel_rfl) (by kernel_rfl) (fun _ _ _ h => h) (Or.inl ⟨by rfl, fun w' hS => by go_simp⟩) HSTq10.out.2.2.2.1 ?_
     try simp only [Act.put, List.setIfInBounds_toArray, List.set_cons_zero, List.set_cons_succ]
     refine wpAnyH_take (i := 8) (oi := ⟨some 22, _, _, _, _, _⟩) (v := .int .i64 (insE L d)) rfl (by kernel_rfl) (by kernel_rfl) (by kernel_rfl) (fun _ _ _ h => h) (Or.inl ⟨by rfl, fun w' hS => by go_simp⟩) HSTq10.out.2.2.2.1 ?_
     try simp only [Act.put, List.setIfInBounds_toArray, List.set_cons_zero, List.set_cons_succ]
     have c7 := HB7q10.out.1 0 _ rfl; have c7f := HB7q10.out.2.1
     have HSF := Lib.hid (show ∀ (A' : Option Addr) (c' : Nat) (L' : List Dev), SlS q10 (fun x => w1.heap.size < x ∧ x < q10.heap.size ∧ x ≠ wd.heap.size) A' c' L' → SlS (q10.setCell ⟨wd.heap.size, 0, none⟩ (.slice A3 (insR L d).length c3)) (fun x => w1.heap.size < x ∧ x < (q10.setCell ⟨wd.heap.size, 0, none⟩ (.slice A3 (insR L d).length c3)).heap.size) A' c' L' from fun A' c' L' h => (h.set_ (fun x hx => hx.2.2) _).mono (fun x hx => ⟨hx.1, by simpa using hx.2.1⟩) (fun _ _ _ _ hu => hu))
     have HTF := Lib.hid (show TrSt w B b xs k2 w.heap.size w1.heap.size A c L (q10.setCell ⟨wd.heap.size, 0, none⟩ (.slice A3 (insR L d).length c3)) from ⟨HSTq10.out.1.set_ (by have := HG7.out; omega) (by have := HG7.out; have := HBW.out; omega) _, grown_set HSTq10.out.2.1 (by have := HG7.out; have := HKK.out; unfold TrK at this; omega) _, HSTq10.out.2.2.1.far (by have := HG7.out; have := HKK.out; unfold TrK at this; omega) _, HSTq10.out.2.2.2.1.far (by have := HG7.out; omega) _, HSF.out _ _ _ (((HSTd.out.2.2.2.2.tape HGDq10.out (fun x hx => by have := HKK.out; unfold TrK at this; omega))).mono (fun x hx => ⟨hx.1, by have := HGDq10.out.size; omega, by have := HG7.out; omega⟩) (fun _ _ _ _ hu => hu))⟩)
     have HCF := Lib.hid (show BoxL (q10.setCell ⟨wd.heap.size, 0, none⟩ (.slice A3 (insR L d).length c3)) wd.heap.size [.slice A3 (insR L d).length c3] from HB7q10.out.set_ (j := 0) (by simp) _)
     have HSN := Lib.hid (HSF.out _ _ _ HSI.out)
     refine wpAnyH_ready (rs := [10]) (by kernel_rfl) (by simp) ?_
     refine AllReadyH.cons (o := ⟨none, .store _ _ _, _, _, _, _⟩) rfl (fun K hK => ?_) AllReadyH.nil
     go_simp
     refine hK.out _ _ HTF.out.2.2.2.1 (fun _ => ?_)
     clear hK K
     try simp only [Act.put, List.setIfInBounds_toArray, List.set_cons_zero, List.set_cons_succ]
     refine wpAnyH_take (i := 11) (oi := ⟨some 8, _, _, _, _, _⟩) (v := .int .i64 (insE L d)) rfl (by kernel_rfl) (by kernel_rfl) (by kernel_rfl) (fun _ _ _ h => h) (Or.inl ⟨by rfl, fun w' hS => by go_simp⟩) HTF.out.2.2.2.1 ?_
     try simp only [Act.put, List.setIfInBounds_toArray, List.set_cons_zero, List.set_cons_succ]
     refine wpAnyH_done (by kernel_rfl) ?_ _
     go_wp2_with fail
     go_meet
     exact ⟨wd.heap.size, d, HMD, rfl, rfl, ⟨k2, A3, c3, HK2.out, HTF.out, HSN.out, HCF.out.1 0 _ rfl⟩⟩
   case rest =>
   obtain ⟨g7, d, HMD, rfl, rfl, hq⟩ := hcut
   obtain ⟨k2, A3, c3, hk2, hst, hsl, hc7⟩ := hq.out
   clear hq HST
   have HK2 := Lib.hid hk2; have HST := Lib.hid hst; have HSL := Lib.hid hsl; have HC7 := Lib.hid hc7; clear hk2 hst hsl hc7
   obtain ⟨z, hz⟩ : ∃ z, insE L d = z := ⟨_, rfl⟩
   rw [hz]
   have HZ := Lib.hid hz; clear hz
   by_cases h0 : z = 0
   ·
    have e0 : (z == 0) = true := beq_iff_eq.2 h0
    have HVN := Lib.hid (VT_tree HVT.out (by rw [HZ.out, h0])); clear h0
    have c7 := HC7.out; have t0 := HST.out.2.2.2.1.1 0 _ rfl; have tf := HST.out.2.2.2.1.2.1
    have HSN := Lib.hid (HST.out.put HKK.out HSL.out)
    go_wp2
    go_roundw
    case rel => exact ⟨j + 1, insR L d, A3, c3, k2, by first | rfl | go_num, ⟨by omega, by omega, by rw [HVN.out.2]; push_cast; omega⟩, Lib.hid ⟨HVN.out.1, HVM.out.2.ins ⟨by rw [HMD.out.1]; omega, HMD.out.2⟩⟩, by have := HKB.out; have := HK2.out; show (k2 : Int) ≤ _; omega, HSN⟩
    case measure => simp [intOf]; omega
   ·
    have e0 : (z == 0) = false := beq_eq_false_iff_ne.2 h0
    clear h0
    go_wp2
    go_roundw
    case rel => exact ⟨j + 1, L, A, c, k2, by first | rfl | go_num, ⟨by omega, by omega, by omega⟩, HVM, by have := HKB.out; have := HK2.out; show (k2 : Int) ≤ _; omega, HST⟩
    case measure => simp [intOf]; omega
  ·
   have t0 := HST.out.2.2.2.1.1 0 _ rfl; have r0 := HST.out.2.2.1.1 0 _ rfl; have rf := HST.out.2.2.1.2.1
   go_wp2
   refine bodyPost_ret (v := .agg #[.slice A L.length c]) (by simp [results, Tryz.results26, go_sem, r0, rf]) rfl ⟨A, c, L, k', rfl, HVM.out, by omega, ?_, by have := HKX.out; omega, HST.out.1.set_ (by have := HBW.out; omega) (by have := HBW.out; omega) _, grown_set HST.out.2.1 (Nat.le_refl _) _⟩
   exact (HST.out.2.2.2.2.set_ (fun x hx => by have := HGw1.out; omega) _).mono (fun x hx => ⟨by have := HGw1.out; omega, by simpa using hx.2⟩) (fun _ _ _ _ hu => hu)
end Go.Proofs.YtehmidmoiamcfaaGreatDoor
namespace Go.Cold
open Go Go.RowKit
theorem OwnsS.attr {F F' : Nat → Prop} {w : World} {base : Nat} {e : TypeId} {v : Value} {xs : List Attr} (h : OwnsS F w base e v xs) : OwnsS F' w base e v xs := by
 obtain ⟨css, h1, h2, h3⟩ := h
 exact ⟨css, h1, h2, fun i x cs hx hcs => h3 i x cs hx hcs⟩
theorem owns_made (F : Nat → Prop) (w : World) {base : Nat} (T : TypeId) (α : Type) [RepS α] (hb : base ≤ w.heap.size) : OwnsS F (w.alloc (.cells #[] T)) base T (.slice (some ⟨w.heap.size, 0, none⟩) 0 0) ([] : List α) := by
 refine ⟨[], ⟨by simp, .inr ⟨w.heap.size, 0, #[], rfl, hb, ?_, Nat.le_refl _, by unfold maxLen; omega, by simp, by simp⟩⟩, rfl, fun i x cs h => by simp at h⟩
 show (w.heap.push _)[w.heap.size]? = _
 exact Array.getElem?_push_size
theorem SlS.set10 {α : Type} [RepS α] {w : World} {A : Option Addr} {c g : Nat} {xs : List α} {S : Nat → Prop} (h : SlS w S A c xs) (hS : ∀ x, S x → x ≠ g) (v0 v1 v2 v3 v4 v5 v6 v7 v8 v9 : Value) :
  SlS ((((((((((w.setCell ⟨g, 0, none⟩ v0).setCell ⟨g, 1, none⟩ v1).setCell ⟨g, 2, none⟩ v2).setCell ⟨g, 3, none⟩ v3).setCell ⟨g, 4, none⟩ v4).setCell ⟨g, 5, none⟩ v5).setCell ⟨g, 6, none⟩ v6).setCell ⟨g, 7, none⟩ v7).setCell ⟨g, 8, none⟩ v8).setCell ⟨g, 9, none⟩ v9) S A c xs :=
 (((((((((h.set_ hS v0).set_ hS v1).set_ hS v2).set_ hS v3).set_ hS v4).set_ hS v5).set_ hS v6).set_ hS v7).set_ hS v8).set_ hS v9
end Go.Cold
namespace Go.Proofs.YtehmidmoiamcfaaGreatDoor
open Go.RowKit Go.Cold
set_option maxRecDepth 100000 in
/-- slices.Clone of attributes. -/
theorem Clone_any (A : Option Addr) (c : Nat) (ys : List Attr) (w : World) (B : Nat) (hB : B ≤ w.heap.size) (hx : Sl w B A c ys) (hl : ys.length ≤ 1000000) : Calls Tryz.prog 101 #[.slice A ys.length c] w fun e w' => Below w.heap.size w w' ∧ ∃ v, e = .returned v ∧ OwnsS (fun _ => False) w' w.heap.size 63 v ys := by
 have hx1 := hx.1; have hx2 := hx.2.1
 unfold maxLen at hx2
 have HX := Lib.hid hx; have HB := Lib.hid hB; have HL := Lib.hid hl; clear hx hB hl
 rcases A with _ | A
 ·
  have h0 : ys = [] := by
    rcases ys with _ | ⟨y, r⟩
    · rfl
    ·
     obtain ⟨b, o, e, _⟩ := HX.out.2.2 (by simp)
     cases e
  subst h0
  go_enter Tryz.func101, Tryz.ntmps101
  have hn := fun W => Lib.run_eql_slice_nil_nil (P := Tryz.prog) W 0 c Tryz.underlying41
  go_wp2
  go_ret
  exact ⟨Below.refl _ _, .slice none 0 0, by try rfl, OwnsS.nil_ _ _ _ _⟩
 ·
  go_enter Tryz.func101, Tryz.ntmps101
  have hn := fun W => Lib.run_eql_slice_some_nil (P := Tryz.prog) W A ys.length c Tryz.underlying41
  go_upto_region 3 with fail
  have HOWN0 := Lib.hid (owns_made (fun x => x < B) w (base := w.heap.size) 63 Attr (Nat.le_refl _))
  have hb1 : Below w.heap.size w (w.alloc (.cells #[] 63)) := (Below.refl _ _).alloc (Nat.le_refl _) _
  have HB1 := Lib.hid hb1; clear hb1
  have HSRC := Lib.hid (show SlS (w.alloc (.cells #[] 63)) (fun b => b < B ∧ b < (w.alloc (.cells #[] 63)).heap.size ∧ (Value.slice (some ⟨w.heap.size, 0, none⟩) 0 0).ownBlock ≠ some b) (some A) c ys from (SlS_iff.1 (HX.out.keep (HB1.out.mono HB.out))).mono (fun b hb => ⟨hb, by have := HB.out; have := HB1.out.size; omega, fun e => by have h1 : w.heap.size = b := Option.some.inj e; have := HB.out; have h2 : b < B := hb; omega⟩) (fun _ _ _ _ hu => hu))
  clear hx1 hx2 hn
  go_wp2_with (at_builtin; go_must (refine wpList_app rfl _ _ rfl (.slice (some ⟨w.heap.size, 0, none⟩) 0 0) _ rfl rfl (run_appL E_attr _ _ [] HOWN0.out (some A) c ys (.inl HSRC.out) (by have := HL.out; simp; unfold maxLen; omega) (by have := HL.out; simp; omega) HB1.out.size) ?_); intro v1 w1 hR_; have HR1 := Lib.hid hR_; clear hR_)
  obtain ⟨ho, hg, -⟩ := HR1.out
  rw [List.nil_append] at ho
  go_ret
  exact ⟨HB1.out.grown hg HB1.out.size (fun q hq => by have h1 : w.heap.size = q := Option.some.inj hq; omega), v1, by try rfl, ho.attr⟩
set_option maxRecDepth 100000 in
set_option maxHeartbeats 4000000 in
/-- tree.copied. -/
theorem copied_any (d : Dev) (A2 : Option Addr) (c2 : Nat) (w : World) (B : Nat) (hB : B ≤ w.heap.size) (hx : Sl w B A2 c2 d.attrs) (hl : d.attrs.length ≤ 1000000) : Calls Tryz.prog 58 #[.agg #[.int .i64 d.idx, .int .i64 d.par, .string d.nm, .string d.orig, .string d.sub, .string d.drv, .string d.ali, .int .i64 d.kind, .int .i64 d.num, .slice A2 d.attrs.length c2]] w fun e w' => Below w.heap.size w w' ∧ ∃ (A3 : Option Addr) (c3 : Nat), e = .returned (.agg #[.int .i64 d.idx, .int .i64 d.par, .string d.nm, .string d.orig, .string d.sub, .string d.drv, .string d.ali, .int .i64 d.kind, .int .i64 d.num, .slice A3 d.attrs.length c3]) ∧ SlS w' (fun b => w.heap.size ≤ b ∧ b < w'.heap.size) A3 c3 d.attrs := by
 have hzv := (zero_of_info (P := Tryz.prog) (t := 43) info_dev2).1
 have HX := Lib.hid hx; have HB := Lib.hid hB; have HL := Lib.hid hl; clear hx hB hl
 go_enter Tryz.func58, Tryz.ntmps58
 go_upto_region 1 with fail
 obtain ⟨w1, hw1⟩ : ∃ w1, w.alloc (.cells #[.int .i64 d.idx, .int .i64 d.par, .string d.nm, .string d.orig, .string d.sub, .string d.drv, .string d.ali, .int .i64 d.kind, .int .i64 d.num, .slice A2 d.attrs.length c2] 43) = w1 := ⟨_, rfl⟩
 have hbw1 : Below w.heap.size w w1 := by rw [← hw1]; exact (Below.refl _ _).alloc (Nat.le_refl _) _
 have HGw1 := Lib.hid (show w1.heap.size = w.heap.size + 1 by rw [← hw1]; simp)
 have HXdw1 := Lib.hid (show BoxL w1 w.heap.size [.int .i64 d.idx, .int .i64 d.par, .string d.nm, .string d.orig, .string d.sub, .string d.drv, .string d.ali, .int .i64 d.kind, .int .i64 d.num, .slice A2 d.attrs.length c2] from box_mk hw1)
 try simp only [hw1]
 have HSw1 := Lib.hid (show w.heap.size ≤ w1.heap.size from hbw1.size)
 have HBw1 := Lib.hid hbw1
 clear hw1 hbw1
 try rw [show w.heap.size + 1 = w1.heap.size from HGw1.out.symm]
 obtain ⟨w2, hw2⟩ : ∃ w2, w1.alloc (.cells #[.int .i64 0, .int .i64 0, .string ByteArray.empty, .string ByteArray.empty, .string ByteArray.empty, .string ByteArray.empty, .string ByteArray.empty, .int .i64 0, .int .i64 0, .slice none 0 0] 43) = w2 := ⟨_, rfl⟩
 have hbw2 : Below w1.heap.size w1 w2 := by rw [← hw2]; exact (Below.refl _ _).alloc (Nat.le_refl _) _
 have HGw2 := Lib.hid (show w2.heap.size = w1.heap.size + 1 by rw [← hw2]; simp)
 have HXrw2 := Lib.hid (show BoxL w2 w1.heap.size [.int .i64 0, .int .i64 0, .string ByteArray.empty, .string ByteArray.empty, .string ByteArray.empty, .string ByteArray.empty, .string ByteArray.empty, .int .i64 0, .int .i64 0, .slice none 0 0] from box_mk hw2)
 try simp only [hw2]
 have HSw2 := Lib.hid (show w1.heap.size ≤ w2.heap.size from hbw2.size)
 have HBw2 := Lib.hid (HBw1.out.trans (hbw2.mono HBw1.out.size))
 have dw2 := Lib.hid (HXdw1.out.kept (grown_none hbw2) (fun e => by cases e))
 clear hw2 hbw2
 try rw [show w1.heap.size + 1 = w2.heap.size from HGw2.out.symm]
 have cd0 := dw2.out.1 0 _ rfl
 have cd1 := dw2.out.1 1 _ rfl
 have cd2 := dw2.out.1 2 _ rfl
 have cd3 := dw2.out.1 3 _ rfl
 have cd4 := dw2.out.1 4 _ rfl
 have cd5 := dw2.out.1 5 _ rfl
 have cd6 := dw2.out.1 6 _ rfl
 have cd7 := dw2.out.1 7 _ rfl
 have cd8 := dw2.out.1 8 _ rfl
 have cd9 := dw2.out.1 9 _ rfl
 have cfd := dw2.out.2.1
 have cr0 := HXrw2.out.1 0 _ rfl
 have cr1 := HXrw2.out.1 1 _ rfl
 have cr2 := HXrw2.out.1 2 _ rfl
 have cr3 := HXrw2.out.1 3 _ rfl
 have cr4 := HXrw2.out.1 4 _ rfl
 have cr5 := HXrw2.out.1 5 _ rfl
 have cr6 := HXrw2.out.1 6 _ rfl
 have cr7 := HXrw2.out.1 7 _ rfl
 have cr8 := HXrw2.out.1 8 _ rfl
 have cr9 := HXrw2.out.1 9 _ rfl
 have cfr := HXrw2.out.2.1
 go_wp2_with fail
 refine (Clone_any A2 c2 d.attrs _ B (Nat.le_trans HB.out HBw2.out.size) (HX.out.keep (HBw2.out.mono HB.out)) HL.out).mono ?_
 rintro e w3 ⟨hbw3, v, rfl, hown⟩
 clear cd0 cd1 cd2 cd3 cd4 cd5 cd6 cd7 cd8 cd9 cfd cr0 cr1 cr2 cr3 cr4 cr5 cr6 cr7 cr8 cr9 cfr
 have HSw3 := Lib.hid (show w2.heap.size ≤ w3.heap.size from hbw3.size)
 have HBw3 := Lib.hid (HBw2.out.trans (hbw3.mono HBw2.out.size))
 have dw3 := Lib.hid (dw2.out.kept (grown_none hbw3) (fun e => by cases e))
 have rw3 := Lib.hid (HXrw2.out.kept (grown_none hbw3) (fun e => by cases e))
 clear hbw3
 have cd0 := dw3.out.1 0 _ rfl
 have cd1 := dw3.out.1 1 _ rfl
 have cd2 := dw3.out.1 2 _ rfl
 have cd3 := dw3.out.1 3 _ rfl
 have cd4 := dw3.out.1 4 _ rfl
 have cd5 := dw3.out.1 5 _ rfl
 have cd6 := dw3.out.1 6 _ rfl
 have cd7 := dw3.out.1 7 _ rfl
 have cd8 := dw3.out.1 8 _ rfl
 have cd9 := dw3.out.1 9 _ rfl
 have cfd := dw3.out.2.1
 have cr0 := rw3.out.1 0 _ rfl
 have cr1 := rw3.out.1 1 _ rfl
 have cr2 := rw3.out.1 2 _ rfl
 have cr3 := rw3.out.1 3 _ rfl
 have cr4 := rw3.out.1 4 _ rfl
 have cr5 := rw3.out.1 5 _ rfl
 have cr6 := rw3.out.1 6 _ rfl
 have cr7 := rw3.out.1 7 _ rfl
 have cr8 := rw3.out.1 8 _ rfl
 have cr9 := rw3.out.1 9 _ rfl
 have cfr := rw3.out.2.1
 obtain ⟨A3, c3, rfl, hsl⟩ := hown.cs
 have HSL := Lib.hid (show SlS w3 (fun b => w2.heap.size ≤ b ∧ b < w3.heap.size) A3 c3 d.attrs from hsl.mono (fun b hb => ⟨hb.1.elim (fun h => h.elim) id, hb.2⟩) (fun _ _ _ _ hu => hu))
 clear hown hsl
 have HN1 := Lib.hid (show ∀ x, (w2.heap.size ≤ x ∧ x < w3.heap.size) → x ≠ w.heap.size from fun x hx => by have := HGw1.out; have := HGw2.out; omega)
 have HN2 := Lib.hid (show ∀ x, (w2.heap.size ≤ x ∧ x < w3.heap.size) → x ≠ w1.heap.size from fun x hx => by have := HGw2.out; omega)
 have hne : w.heap.size ≠ w1.heap.size := by have := HGw1.out; omega
 go_wp2
 refine bodyPost_ret (v := .agg #[.int .i64 d.idx, .int .i64 d.par, .string d.nm, .string d.orig, .string d.sub, .string d.drv, .string d.ali, .int .i64 d.kind, .int .i64 d.num, .slice A3 d.attrs.length c3]) (by simp [results, Tryz.results58, go_sem, cr0, cr1, cr2, cr3, cr4, cr5, cr6, cr7, cr8, cr9, cfr, hne]) rfl ⟨below10 (HBw3.out.setCell (Nat.le_refl _) _) (by have := HGw1.out; omega) _ _ _ _ _ _ _ _ _ _, A3, c3, rfl, ((HSL.out.set_ HN1.out _).set10 HN2.out _ _ _ _ _ _ _ _ _ _).mono (fun b hb => ⟨by have := HGw1.out; have := HGw2.out; omega, by simpa using hb.2⟩) (fun _ _ _ _ hu => hu)⟩
end Go.Proofs.YtehmidmoiamcfaaGreatDoor
namespace Go.Cold
open Go Go.RowKit
theorem find_idx2 {p : Dev → Bool} : ∀ L : List Dev, (idxInt p L = -1 ∧ L.find? p = none) ∨ ∃ (k : Nat) (y : Dev), idxInt p L = (k : Int) ∧ L[k]? = some y ∧ L.find? p = some y
 | [] => .inl ⟨rfl, rfl⟩
 | d :: r => by
  by_cases hd : p d = true
  · exact .inr ⟨0, d, by unfold idxInt; rw [List.findIdx?_cons, if_pos hd], rfl, by rw [List.find?_cons_of_pos hd]⟩
  ·
   have hd2 : p d = false := by simpa using hd
   have hi : ∀ i, r.findIdx? p = i → idxInt p (d :: r) = match i with | some j => ((j + 1 : Nat) : Int) | none => -1 := by
    intro i hri
    unfold idxInt
    rw [List.findIdx?_cons, if_neg (by simp [hd2]), hri]
    cases i <;> rfl
   rcases find_idx2 r with ⟨h1, h2⟩ | ⟨k, y, h1, h2, h3⟩
   ·
    left
    refine ⟨?_, by rw [List.find?_cons_of_neg (by simp [hd2]), h2]⟩
    cases hri : r.findIdx? p with
    | none => rw [hi _ hri]
    | some j => unfold idxInt at h1; rw [hri] at h1; simp only at h1; omega
   ·
    right
    refine ⟨k + 1, y, ?_, by simpa using h2, by rw [List.find?_cons_of_neg (by simp [hd2]), h3]⟩
    cases hri : r.findIdx? p with
    | none => unfold idxInt at h1; rw [hri] at h1; simp only at h1; omega
    | some j =>
     rw [hi _ hri]
     unfold idxInt at h1; rw [hri] at h1
     simp only at h1 ⊢
     omega
/-- What the finders of package tree answer: nothing that the tree shares. -/
def FirstP (p : Dev → Bool) (L : List Dev) (w : World) (e : Ending) (w' : World) : Prop := Below w.heap.size w w' ∧ ∃ (d : Dev) (A3 : Option Addr) (c3 : Nat), d = (L.find? p).getD zeroD ∧ e = .returned (.tuple #[.agg #[.int .i64 d.idx, .int .i64 d.par, .string d.nm, .string d.orig, .string d.sub, .string d.drv, .string d.ali, .int .i64 d.kind, .int .i64 d.num, .slice A3 d.attrs.length c3], .bool (L.find? p).isSome]) ∧ devOk d ∧ SlS w' (fun b => w.heap.size ≤ b ∧ b < w'.heap.size) A3 c3 d.attrs
def byIdx (n : Int) (d : Dev) : Bool := decide (d.idx = n)
end Go.Cold
namespace Go.Proofs.YtehmidmoiamcfaaGreatDoor
open Go.RowKit Go.Cold
set_option maxRecDepth 100000 in
set_option maxHeartbeats 4000000 in
/-- tree.first. -/
theorem first_any (A : Option Addr) (c : Nat) (L : List Dev) (f : FuncId) (caps : Array Value) (Q : Dev → Prop) (p : Dev → Bool) (w : World) (B : Nat) (hB : B ≤ w.heap.size) (hx : Sl w B A c L) (hp : PredD f caps w B Q p) (hq : ∀ d ∈ L, Q d) (hl : ∀ d ∈ L, d.attrs.length ≤ 1000000) :
  Calls Tryz.prog 88 #[.agg #[.slice A L.length c], .func (.func f) #[] caps] w (FirstP p L w) := by
 have hzv := (zero_of_info (P := Tryz.prog) (t := 43) info_dev2).1
 have hx1 := hx.1; have hx2 := hx.2.1
 unfold maxLen at hx2
 have HX := Lib.hid hx; have HB := Lib.hid hB; have HP := Lib.hid hp; have HQ := Lib.hid hq; have HL := Lib.hid hl; clear hx hB hp hq hl
 go_enter Tryz.func88, Tryz.ntmps88
 go_upto_region 1 with fail
 obtain ⟨w1, hw1⟩ : ∃ w1, w.alloc (.cells #[.slice A L.length c] 57) = w1 := ⟨_, rfl⟩
 have hbw1 : Below w.heap.size w w1 := by rw [← hw1]; exact (Below.refl _ _).alloc (Nat.le_refl _) _
 have HGw1 := Lib.hid (show w1.heap.size = w.heap.size + 1 by rw [← hw1]; simp)
 have HXtw1 := Lib.hid (show BoxL w1 w.heap.size [.slice A L.length c] from box_mk hw1)
 try simp only [hw1]
 have HSw1 := Lib.hid (show w.heap.size ≤ w1.heap.size from hbw1.size)
 have HBw1 := Lib.hid hbw1
 clear hw1 hbw1
 try rw [show w.heap.size + 1 = w1.heap.size from HGw1.out.symm]
 obtain ⟨w2, hw2⟩ : ∃ w2, w1.alloc (.cells #[.int .i64 0, .int .i64 0, .string ByteArray.empty, .string ByteArray.empty, .string ByteArray.empty, .string ByteArray.empty, .string ByteArray.empty, .int .i64 0, .int .i64 0, .slice none 0 0] 43) = w2 := ⟨_, rfl⟩
 have hbw2 : Below w1.heap.size w1 w2 := by rw [← hw2]; exact (Below.refl _ _).alloc (Nat.le_refl _) _
 have HGw2 := Lib.hid (show w2.heap.size = w1.heap.size + 1 by rw [← hw2]; simp)
 have HXrw2 := Lib.hid (show BoxL w2 w1.heap.size [.int .i64 0, .int .i64 0, .string ByteArray.empty, .string ByteArray.empty, .string ByteArray.empty, .string ByteArray.empty, .string ByteArray.empty, .int .i64 0, .int .i64 0, .slice none 0 0] from box_mk hw2)
 try simp only [hw2]
 have HSw2 := Lib.hid (show w1.heap.size ≤ w2.heap.size from hbw2.size)
 have HBw2 := Lib.hid (HBw1.out.trans (hbw2.mono HBw1.out.size))
 have tw2 := Lib.hid (HXtw1.out.kept (grown_none hbw2) (fun e => by cases e))
 clear hw2 hbw2
 try rw [show w1.heap.size + 1 = w2.heap.size from HGw2.out.symm]
 have ct0 := tw2.out.1 0 _ rfl
 have cr0 := HXrw2.out.1 0 _ rfl
 have cr1 := HXrw2.out.1 1 _ rfl
 have cr2 := HXrw2.out.1 2 _ rfl
 have cr3 := HXrw2.out.1 3 _ rfl
 have cr4 := HXrw2.out.1 4 _ rfl
 have cr5 := HXrw2.out.1 5 _ rfl
 have cr6 := HXrw2.out.1 6 _ rfl
 have cr7 := HXrw2.out.1 7 _ rfl
 have cr8 := HXrw2.out.1 8 _ rfl
 have cr9 := HXrw2.out.1 9 _ rfl
 have cfr := HXrw2.out.2.1
 go_wp2_with fail
 refine (IndexFuncD_any A c L f caps Q p _ B (Nat.le_trans HB.out HBw2.out.size) (HX.out.keep (HBw2.out.mono HB.out)) (HP.out.next HBw2.out) HQ.out).mono ?_
 rintro e w3 ⟨rfl, hbw3⟩
 clear ct0 cr0 cr1 cr2 cr3 cr4 cr5 cr6 cr7 cr8 cr9 cfr
 have HSw3 := Lib.hid (show w2.heap.size ≤ w3.heap.size from hbw3.size)
 have HBw3 := Lib.hid (HBw2.out.trans (hbw3.mono HBw2.out.size))
 have tw3 := Lib.hid (tw2.out.kept (grown_none hbw3) (fun e => by cases e))
 have rw3 := Lib.hid (HXrw2.out.kept (grown_none hbw3) (fun e => by cases e))
 clear hbw3
 have ct0 := tw3.out.1 0 _ rfl
 have cr0 := rw3.out.1 0 _ rfl
 have cr1 := rw3.out.1 1 _ rfl
 have cr2 := rw3.out.1 2 _ rfl
 have cr3 := rw3.out.1 3 _ rfl
 have cr4 := rw3.out.1 4 _ rfl
 have cr5 := rw3.out.1 5 _ rfl
 have cr6 := rw3.out.1 6 _ rfl
 have cr7 := rw3.out.1 7 _ rfl
 have cr8 := rw3.out.1 8 _ rfl
 have cr9 := rw3.out.1 9 _ rfl
 have cfr := rw3.out.2.1
 have hzv := (zero_of_info (P := Tryz.prog) (t := 43) info_dev2).1
 rcases find_idx2 (p := p) L with ⟨h1, h2⟩ | ⟨k, y, h1, h2, h3⟩
 ·
  rw [h1]
  have HF := Lib.hid h2
  clear h1 h2
  go_wp2
  refine bodyPost_ret (v := .tuple #[.agg #[.int .i64 0, .int .i64 0, .string ByteArray.empty, .string ByteArray.empty, .string ByteArray.empty, .string ByteArray.empty, .string ByteArray.empty, .int .i64 0, .int .i64 0, .slice none 0 0], .bool false]) (by simp [results, Tryz.results88, go_sem, cr0, cr1, cr2, cr3, cr4, cr5, cr6, cr7, cr8, cr9, cfr]) rfl ⟨below10 HBw3.out (by have := HGw1.out; omega) _ _ _ _ _ _ _ _ _ _, zeroD, none, 0, by rw [HF.out]; rfl, by rw [HF.out]; rfl, zero_ok, SlS.nil_⟩
 ·
  have hk : k < L.length := (List.getElem?_eq_some_iff.1 h2).1
  have hky : L[k]'hk = y := (List.getElem?_eq_some_iff.1 h2).2
  rw [h1]
  have HF := Lib.hid h3; have HM := Lib.hid (List.mem_of_getElem? h2)
  clear h1 h2 h3
  have i1 : (k : Int) < (L.length : Int) := by omega
  have i2 : (0 : Int) ≤ (k : Int) := by omega
  have i3 : ¬ (k : Int) < 0 := by omega
  obtain ⟨b3, o3, rfl, hb3, A2, c2, hok3, hat3, hdc⟩ := (HX.out.keep (HBw3.out.mono HB.out)).dev hk
  rw [hky] at hok3 hat3 hdc
  have HOK := Lib.hid hok3; have HAT := Lib.hid hat3
  obtain ⟨d0, d1, d2, d3, d4, d5, d6, d7, d8, d9⟩ := hdc
  clear hok3 hat3 hky hb3
  go_wp2_with fail
  refine (copied_any y A2 c2 _ B (Nat.le_trans HB.out HBw3.out.size) HAT.out (HL.out y HM.out)).mono ?_
  rintro e w4 ⟨hbw4, A3, c3, rfl, hsl⟩
  clear ct0 cr0 cr1 cr2 cr3 cr4 cr5 cr6 cr7 cr8 cr9 cfr
  have HSw4 := Lib.hid (show w3.heap.size ≤ w4.heap.size from hbw4.size)
  have HBw4 := Lib.hid (HBw3.out.trans (hbw4.mono HBw3.out.size))
  have tw4 := Lib.hid (tw3.out.kept (grown_none hbw4) (fun e => by cases e))
  have rw4 := Lib.hid (rw3.out.kept (grown_none hbw4) (fun e => by cases e))
  clear hbw4
  clear d0 d1 d2 d3 d4 d5 d6 d7 d8 d9
  have ct0 := tw4.out.1 0 _ rfl
  have cr0 := rw4.out.1 0 _ rfl
  have cr1 := rw4.out.1 1 _ rfl
  have cr2 := rw4.out.1 2 _ rfl
  have cr3 := rw4.out.1 3 _ rfl
  have cr4 := rw4.out.1 4 _ rfl
  have cr5 := rw4.out.1 5 _ rfl
  have cr6 := rw4.out.1 6 _ rfl
  have cr7 := rw4.out.1 7 _ rfl
  have cr8 := rw4.out.1 8 _ rfl
  have cr9 := rw4.out.1 9 _ rfl
  have cfr := rw4.out.2.1
  have HSL := Lib.hid hsl; clear hsl
  have HN2 := Lib.hid (show ∀ x, (w3.heap.size ≤ x ∧ x < w4.heap.size) → x ≠ w1.heap.size from fun x hx => by have := HGw2.out; have := HSw3.out; omega)
  go_wp2
  refine bodyPost_ret (v := .tuple #[.agg #[.int .i64 y.idx, .int .i64 y.par, .string y.nm, .string y.orig, .string y.sub, .string y.drv, .string y.ali, .int .i64 y.kind, .int .i64 y.num, .slice A3 y.attrs.length c3], .bool true]) (by simp [results, Tryz.results88, go_sem, cr0, cr1, cr2, cr3, cr4, cr5, cr6, cr7, cr8, cr9, cfr]) rfl ⟨below10 HBw4.out (by have := HGw1.out; omega) _ _ _ _ _ _ _ _ _ _, y, A3, c3, by rw [HF.out]; rfl, by rw [HF.out]; rfl, HOK.out, ((HSL.out.set10 HN2.out _ _ _ _ _ _ _ _ _ _).mono (fun b hb => ⟨by have := HGw1.out; have := HGw2.out; have := HSw3.out; omega, by simpa using hb.2⟩) (fun _ _ _ _ hu => hu))⟩
set_option maxRecDepth 100000 in
theorem find1_pred (g : Nat) (n : Int) (w : World) (B : Nat) (hv : BoxL w g [.int .i64 n]) :
  PredD 89 #[.pointer (some ⟨g, 0, none⟩)] w B (fun _ => True) (byIdx n) := by
 refine ⟨enters_of Tryz.func89 (by kernel_rfl) rfl, fun x A2 c2 W hxo hat hq hW => ?_⟩
 have HV := Lib.hid (hv.kept (grown_none hW) (fun e => by cases e)); clear hv hxo hat hq hW
 go_enter Tryz.func89, Tryz.ntmps89
 go_upto_region 1 with fail
 obtain ⟨w1, hw1⟩ : ∃ w1, W.alloc (.cells #[.int .i64 x.idx, .int .i64 x.par, .string x.nm, .string x.orig, .string x.sub, .string x.drv, .string x.ali, .int .i64 x.kind, .int .i64 x.num, .slice A2 x.attrs.length c2] 43) = w1 := ⟨_, rfl⟩
 have hbw1 : Below W.heap.size W w1 := by rw [← hw1]; exact (Below.refl _ _).alloc (Nat.le_refl _) _
 have HGw1 := Lib.hid (show w1.heap.size = W.heap.size + 1 by rw [← hw1]; simp)
 have HXxw1 := Lib.hid (show BoxL w1 W.heap.size [.int .i64 x.idx, .int .i64 x.par, .string x.nm, .string x.orig, .string x.sub, .string x.drv, .string x.ali, .int .i64 x.kind, .int .i64 x.num, .slice A2 x.attrs.length c2] from box_mk hw1)
 try simp only [hw1]
 have HSw1 := Lib.hid (show W.heap.size ≤ w1.heap.size from hbw1.size)
 have HBw1 := Lib.hid hbw1
 have vw1 := Lib.hid (HV.out.kept (grown_none hbw1) (fun e => by cases e))
 clear hw1 hbw1
 try rw [show W.heap.size + 1 = w1.heap.size from HGw1.out.symm]
 have cv0 := vw1.out.1 0 _ rfl
 have cx0 := HXxw1.out.1 0 _ rfl
 go_wp2
 go_ret
 exact ⟨by try rfl, HBw1.out⟩
set_option maxRecDepth 100000 in
set_option maxHeartbeats 4000000 in
/-- coldplug/tree.Find. -/
theorem TFind_any (A : Option Addr) (c : Nat) (L : List Dev) (n : Int) (w : World) (B : Nat) (hB : B ≤ w.heap.size) (hx : Sl w B A c L) (hl : ∀ d ∈ L, d.attrs.length ≤ 1000000) :
  Calls Tryz.prog 50 #[.agg #[.slice A L.length c], .int .i64 n] w (FirstP (byIdx n) L w) := by
 have hzv := (zero_of_info (P := Tryz.prog) (t := 43) info_dev2).1
 have HX := Lib.hid hx; have HB := Lib.hid hB; have HL := Lib.hid hl; clear hx hB hl
 go_enter Tryz.func50, Tryz.ntmps50
 go_upto_region 1 with fail
 obtain ⟨w1, hw1⟩ : ∃ w1, w.alloc (.cells #[.slice A L.length c] 57) = w1 := ⟨_, rfl⟩
 have hbw1 : Below w.heap.size w w1 := by rw [← hw1]; exact (Below.refl _ _).alloc (Nat.le_refl _) _
 have HGw1 := Lib.hid (show w1.heap.size = w.heap.size + 1 by rw [← hw1]; simp)
 have HXtw1 := Lib.hid (show BoxL w1 w.heap.size [.slice A L.length c] from box_mk hw1)
 try simp only [hw1]
 have HSw1 := Lib.hid (show w.heap.size ≤ w1.heap.size from hbw1.size)
 have HBw1 := Lib.hid hbw1
 clear hw1 hbw1
 try rw [show w.heap.size + 1 = w1.heap.size from HGw1.out.symm]
 obtain ⟨w2, hw2⟩ : ∃ w2, w1.alloc (.cells #[.int .i64 n] 3) = w2 := ⟨_, rfl⟩
 have hbw2 : Below w1.heap.size w1 w2 := by rw [← hw2]; exact (Below.refl _ _).alloc (Nat.le_refl _) _
 have HGw2 := Lib.hid (show w2.heap.size = w1.heap.size + 1 by rw [← hw2]; simp)
 have HXaw2 := Lib.hid (show BoxL w2 w1.heap.size [.int .i64 n] from box_mk hw2)
 try simp only [hw2]
 have HSw2 := Lib.hid (show w1.heap.size ≤ w2.heap.size from hbw2.size)
 have HBw2 := Lib.hid (HBw1.out.trans (hbw2.mono HBw1.out.size))
 have tw2 := Lib.hid (HXtw1.out.kept (grown_none hbw2) (fun e => by cases e))
 clear hw2 hbw2
 try rw [show w1.heap.size + 1 = w2.heap.size from HGw2.out.symm]
 obtain ⟨w3, hw3⟩ : ∃ w3, w2.alloc (.cells #[.int .i64 0, .int .i64 0, .string ByteArray.empty, .string ByteArray.empty, .string ByteArray.empty, .string ByteArray.empty, .string ByteArray.empty, .int .i64 0, .int .i64 0, .slice none 0 0] 43) = w3 := ⟨_, rfl⟩
 have hbw3 : Below w2.heap.size w2 w3 := by rw [← hw3]; exact (Below.refl _ _).alloc (Nat.le_refl _) _
 have HGw3 := Lib.hid (show w3.heap.size = w2.heap.size + 1 by rw [← hw3]; simp)
 have HXrw3 := Lib.hid (show BoxL w3 w2.heap.size [.int .i64 0, .int .i64 0, .string ByteArray.empty, .string ByteArray.empty, .string ByteArray.empty, .string ByteArray.empty, .string ByteArray.empty, .int .i64 0, .int .i64 0, .slice none 0 0] from box_mk hw3)
 try simp only [hw3]
 have HSw3 := Lib.hid (show w2.heap.size ≤ w3.heap.size from hbw3.size)
 have HBw3 := Lib.hid (HBw2.out.trans (hbw3.mono HBw2.out.size))
 have tw3 := Lib.hid (tw2.out.kept (grown_none hbw3) (fun e => by cases e))
 have aw3 := Lib.hid (HXaw2.out.kept (grown_none hbw3) (fun e => by cases e))
 clear hw3 hbw3
 try rw [show w2.heap.size + 1 = w3.heap.size from HGw3.out.symm]
 have ct0 := tw3.out.1 0 _ rfl
 have ca0 := aw3.out.1 0 _ rfl
 have cfr := HXrw3.out.2.1
 go_wp2_with fail
 refine (first_any A c L _ _ (fun _ => True) _ _ B (Nat.le_trans HB.out HBw3.out.size) (HX.out.keep (HBw3.out.mono HB.out)) (find1_pred _ n _ B aw3.out) (fun _ _ => trivial) HL.out).mono ?_
 rintro e w4 ⟨hbw4, d, A3, c3, hd, rfl, hok3, hsl⟩
 clear ct0 ca0 cfr
 have HSw4 := Lib.hid (show w3.heap.size ≤ w4.heap.size from hbw4.size)
 have HBw4 := Lib.hid (HBw3.out.trans (hbw4.mono HBw3.out.size))
 have tw4 := Lib.hid (tw3.out.kept (grown_none hbw4) (fun e => by cases e))
 have aw4 := Lib.hid (aw3.out.kept (grown_none hbw4) (fun e => by cases e))
 have rw4 := Lib.hid (HXrw3.out.kept (grown_none hbw4) (fun e => by cases e))
 clear hbw4
 have HD := Lib.hid hd; have HDO := Lib.hid hok3; have HSL := Lib.hid hsl; clear hd hok3 hsl
 have cr0 := rw4.out.1 0 _ rfl
 have cr1 := rw4.out.1 1 _ rfl
 have cr2 := rw4.out.1 2 _ rfl
 have cr3 := rw4.out.1 3 _ rfl
 have cr4 := rw4.out.1 4 _ rfl
 have cr5 := rw4.out.1 5 _ rfl
 have cr6 := rw4.out.1 6 _ rfl
 have cr7 := rw4.out.1 7 _ rfl
 have cr8 := rw4.out.1 8 _ rfl
 have cr9 := rw4.out.1 9 _ rfl
 have cfr := rw4.out.2.1
 have HN2 := Lib.hid (show ∀ x, (w3.heap.size ≤ x ∧ x < w4.heap.size) → x ≠ w2.heap.size from fun x hx => by have := HGw3.out; omega)
 obtain ⟨q, hq⟩ : ∃ q, (L.find? (byIdx n)).isSome = q := ⟨_, rfl⟩
 rw [hq]
 have HQ_ := Lib.hid hq; clear hq
 go_wp2
 refine bodyPost_ret (v := .tuple #[.agg #[.int .i64 d.idx, .int .i64 d.par, .string d.nm, .string d.orig, .string d.sub, .string d.drv, .string d.ali, .int .i64 d.kind, .int .i64 d.num, .slice A3 d.attrs.length c3], .bool q]) (by simp [results, Tryz.results50, go_sem, cr0, cr1, cr2, cr3, cr4, cr5, cr6, cr7, cr8, cr9, cfr]) rfl ⟨below10 HBw4.out (by have := HGw1.out; have := HGw2.out; omega) _ _ _ _ _ _ _ _ _ _, d, A3, c3, HD.out, by rw [HQ_.out], HDO.out, ((HSL.out.set10 HN2.out _ _ _ _ _ _ _ _ _ _).mono (fun b hb => ⟨by have := HGw1.out; have := HGw2.out; have := HGw3.out; omega, by simpa using hb.2⟩) (fun _ _ _ _ hu => hu))⟩
end Go.Proofs.YtehmidmoiamcfaaGreatDoor
namespace Go.Cold
open Go Go.RowKit
end Go.Cold
namespace Go.Proofs.YtehmidmoiamcfaaGreatDoor
open Go.RowKit Go.Cold
end Go.Proofs.YtehmidmoiamcfaaGreatDoor
