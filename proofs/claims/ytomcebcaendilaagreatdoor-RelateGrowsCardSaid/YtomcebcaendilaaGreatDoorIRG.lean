/-
  The walk of coldplugmade's Tree.
-/
import Derived.Test.YtomcebcaendilaaGreatDoorIH
import Derived.Test.YtomcebcaendilaaGreatDoorIRF
import Derived.Test.YtomcebcaendilaaGreatDoorIW
set_option linter.unusedSimpArgs false
set_option linter.unusedVariables false
namespace Go.Cold
open Go Go.RowKit
/-- What is known of a made tree's devices. -/
def MadeL (n : Int) (L : List Dev) : Prop := ∀ d ∈ L, (1 ≤ d.idx ∧ d.idx ≤ n) ∧ nmM d.orig ∧ attM d.attrs
theorem MadeL.ins {n : Int} {L : List Dev} {d : Dev} (h : MadeL n L) (hd : (1 ≤ d.idx ∧ d.idx ≤ n) ∧ nmM d.orig ∧ attM d.attrs) : MadeL n (insR L d) := fun e he => by
 unfold insR at he
 split at he
 ·
  rcases mem_ins.1 he with rfl | he
  · exact hd
  · exact h e he
 · first | exact h e he | cases he
end Go.Cold
namespace Go.Proofs.YtomcebcaendilaaGreatDoor
open Go.RowKit Go.Cold
def TreeMPost (xs : List Int) (k B b : Nat) (n : Int) (w : World) (e : Ending) (w' : World) : Prop := ∃ (A : Option Addr) (c : Nat) (L : List Dev) (k' : Nat), e = .returned (.agg #[.slice A L.length c]) ∧ (VT L ∧ MadeL n L) ∧ (L.length : Int) ≤ n ∧ SlS w' (fun x => w.heap.size ≤ x ∧ x < w'.heap.size) A c L ∧ k' ≤ k + 1000 ∧ TapeAt w' B b xs k' ∧ w.grownBy w' (some b)
/-- The cut behind Device and Insert. -/
def TrCutM (w0 : World) (B b : Nat) (xs : List Int) (kx g4 g5 : Nat) (A : Option Addr) (c : Nat) (L : List Dev) (g7 : Nat) (d : Dev) (w : World) : Prop :=
 ∃ (k' : Nat) (A' : Option Addr) (c' : Nat), k' ≤ kx ∧ TrSt w0 B b xs k' g4 g5 A c L w ∧ SlS w (fun x => g5 < x ∧ x < w.heap.size) A' c' (insR L d) ∧ w.cell? ⟨g7, 0, none⟩ = some (.slice A' (insR L d).length c')
set_option maxRecDepth 100000 in
set_option maxHeartbeats 8000000 in
/-- coldplugmade.Tree. -/
theorem TreeM_any (xs : List Int) (k B b : Nat) (n : Int) (w : World) (hk : k ≤ 2 ^ 37) (ht : TapeAt w B b xs k) (hn : 0 ≤ n ∧ n ≤ 20) (hok : Ok w) (hng : NotG b) : Calls Tryz.prog 15 #[.pointer (some ⟨b, 0, none⟩), .int .i64 n] w (TreeMPost xs k B b n w) := by
 have hn1 : 0 ≤ n := hn.1; have hn2 : n ≤ 20 := hn.2
 have HT := Lib.hid ht; have HK := Lib.hid hk; have HOK := Lib.hid hok; have HNG := Lib.hid hng; have HN := Lib.hid hn; clear ht hk hok hng hn
 have HBW := Lib.hid (show b < w.heap.size ∧ B ≤ b by obtain ⟨_, _, _, _, _, _, h1, h2⟩ := HT.out; exact ⟨h2, h1⟩)
 have hzt := (zero_of_info (P := Tryz.prog) (t := 27) info_tree2).1
 go_enter Tryz.func15, Tryz.ntmps15
 go_upto_region 2 with fail
 obtain ⟨w1, hw1⟩ : ∃ w1, w.alloc (.cells #[.slice none 0 0] 27) = w1 := ⟨_, rfl⟩
 have hbw1 : Below w.heap.size w w1 := by rw [← hw1]; exact (Below.refl _ _).alloc (Nat.le_refl _) _
 have HGw1 := Lib.hid (show w1.heap.size = w.heap.size + 1 by rw [← hw1]; simp)
 have HXrw1 := Lib.hid (show BoxL w1 w.heap.size [.slice none 0 0] from box_mk hw1)
 try simp only [hw1]
 have HBw1 := Lib.hid hbw1
 clear hw1 hbw1
 try rw [show w.heap.size + 1 = w1.heap.size from HGw1.out.symm]
 obtain ⟨w2, hw2⟩ : ∃ w2, w1.alloc (.cells #[.slice none 0 0] 27) = w2 := ⟨_, rfl⟩
 have hbw2 : Below w1.heap.size w1 w2 := by rw [← hw2]; exact (Below.refl _ _).alloc (Nat.le_refl _) _
 have HGw2 := Lib.hid (show w2.heap.size = w1.heap.size + 1 by rw [← hw2]; simp)
 have HXtw2 := Lib.hid (show BoxL w2 w1.heap.size [.slice none 0 0] from box_mk hw2)
 try simp only [hw2]
 have HBw2 := Lib.hid (HBw1.out.trans (hbw2.mono HBw1.out.size))
 have rw2 := Lib.hid (HXrw1.out.kept (grown_none hbw2) (fun e => by cases e))
 clear hw2 hbw2
 try rw [show w1.heap.size + 1 = w2.heap.size from HGw2.out.symm]
 have HT2 := Lib.hid (HT.out.kept (grown_none HBw2.out) (fun e => by cases e) (fun g e => by cases e)); have HKK := Lib.hid (show TrK w B b w.heap.size w1.heap.size from ⟨HBW.out.1, HBW.out.2, Nat.le_refl _, by have := HGw1.out; omega⟩)
 have HST := Lib.hid (show TrSt w B b xs (k) w.heap.size w1.heap.size none 0 ([] : List Dev) w2 from ⟨HT2.out, grown_any HBw2.out, rw2.out, HXtw2.out, SlS.nil_⟩)
 go_wp2_with fail
 go_loopw [6] (fun i wr => ∃ (j : Int) (L : List Dev) (A : Option Addr) (c k' : Nat), i = .int .i64 j ∧ (1 ≤ j ∧ j ≤ n + 1 ∧ (L.length : Int) + 1 ≤ j) ∧ Hid (VT L ∧ MadeL n L) ∧ Hid ((k' : Int) ≤ k + 31 * (j - 1)) ∧ Hid (TrSt w B b xs (k') w.heap.size w1.heap.size A c L wr)) (fun i _ => (n + 1 - intOf i).toNat)
 case atStart => exact ⟨1, [], none, 0, k, rfl, ⟨by omega, by omega, by simp⟩, Lib.hid ⟨VT_nil, fun d hd => by cases hd⟩, by show ((k : Nat) : Int) ≤ _; omega, HST⟩
 case round =>
  obtain ⟨j, L, A, c, k', rfl, hj, HVM, HKB, HST⟩ := hrel
  have HVT := Lib.hid HVM.out.1
  obtain ⟨hj0, hj1, hj2⟩ := hj
  skip
  have hk' : k' ≤ k + 31 * 20 := by have := HKB.out; omega
  have HKX := Lib.hid hk'; clear hk'
  have hll : L.length ≤ 20 := by omega
  have HLL := Lib.hid hll; have HJJ := Lib.hid (show 1 ≤ j ∧ j ≤ 1000 by omega); clear hll
  by_cases hlt : j ≤ n
  ·
   go_upto_region 5 with fail
   go_cut [7, 8] (fun s7 s8 wx => ∃ (g7 : Nat) (d : Dev), Hid (d.idx = j ∧ nmM d.orig ∧ attM d.attrs) ∧ s7 = .pointer (some ⟨g7, 0, none⟩) ∧ s8 = .int .i64 (insE L d) ∧ Hid (TrCutM w B b xs (k' + 30) w.heap.size w1.heap.size A c L g7 d wx))
   case first =>
    refine wp_region_held_drew (S := fun w' => BoxL w' w1.heap.size [.slice A L.length c]) (by kernel_rfl) HST.out.2.2.2.1.drew (fun hS0 => ?_)
    obtain ⟨wd, hwd⟩ : ∃ z, wr.drew = z := ⟨_, rfl⟩
    have HSTd := Lib.hid HST.out.drew
    rw [hwd] at hS0 HSTd ⊢
    clear hwd hS0
    have HGDd := Lib.hid (show wd.grownBy wd (some b) from grown_any (Below.refl _ _))
    refine wpAnyH_take (i := 0) (oi := ⟨some 15, _, _, _, _, _⟩) (v := .agg #[.slice A L.length c]) rfl (by kernel_rfl) (by kernel_rfl) (by kernel_rfl) (fun _ _ _ h => h) (Or.inl ⟨by rfl, fun w' hS => by (have u := hS.1 0 _ rfl; go_simp)⟩) HSTd.out.2.2.2.1 ?_
    try simp only [Act.put, List.setIfInBounds_toArray, List.set_cons_zero, List.set_cons_succ]
    refine wpAnyH_take (i := 2) (oi := ⟨some 17, _, _, _, _, _⟩) (v := .agg #[.slice A L.length c]) rfl (by kernel_rfl) (by kernel_rfl) (by kernel_rfl) (fun _ _ _ h => h) (Or.inl ⟨by rfl, fun w' hS => by (have u := hS.1 0 _ rfl; go_simp)⟩) HSTd.out.2.2.2.1 ?_
    try simp only [Act.put, List.setIfInBounds_toArray, List.set_cons_zero, List.set_cons_succ]
    refine wpAnyH_take (i := 1) (oi := ⟨some 16, _, _, _, _, _⟩) (v := .pointer (some ⟨b, 0, none⟩)) rfl (by kernel_rfl) (by kernel_rfl) (by kernel_rfl) (fun _ _ _ h => h) (Or.inl ⟨by rfl, fun w' hS => by go_simp⟩) HSTd.out.2.2.2.1 ?_
    try simp only [Act.put, List.setIfInBounds_toArray, List.set_cons_zero, List.set_cons_succ]
    refine wpAnyH_take (i := 3) (oi := ⟨some 18, _, _, _, _, _⟩) (v := .int .i64 j) rfl (by kernel_rfl) (by kernel_rfl) (by kernel_rfl) (fun _ _ _ h => h) (Or.inl ⟨by rfl, fun w' hS => by go_simp⟩) HSTd.out.2.2.2.1 ?_
    try simp only [Act.put, List.setIfInBounds_toArray, List.set_cons_zero, List.set_cons_succ]
    refine wpAnyH_ready (rs := [4, 9]) (by kernel_rfl) (by simp) ?_
    refine AllReadyH.cons (o := ⟨some 19, .call ⟨_, _, _⟩, _, _, _, _⟩) rfl (fun K hK => ?_) (AllReadyH.cons (o := ⟨some 7, .alloc _, _, _, _, _⟩) rfl (fun K hK => ?_) (AllReadyH.nil))
    ·
     go_simp
     go_at_call 42
     refine (DeviceM_any xs k' B b A c L j _ _ (by have := HK.out; have := HKX.out; omega) HSTd.out.1 (HSTd.out.treeIn HKK.out) (fun d hd => ⟨(HVT.out.small d hd).2, (HVT.out.small d hd).1⟩) (by have := HLL.out; omega) HJJ.out).mono ?_
     rintro e' q3 ⟨d, A2, c2, k2, rfl, hfew_, hmd_, hsl_, hk2_, ht_, hg_⟩
     have HSTq3 := Lib.hid (HSTd.out.tape HKK.out ht_ hg_); have HFEW := Lib.hid hfew_; have HMD := Lib.hid hmd_; have HK2 := Lib.hid hk2_
     have HGDq3 := Lib.hid (grown_trans HGDd.out hg_)
     have HSDq3 := Lib.hid (show SlS q3 (fun x => w1.heap.size < x ∧ x < q3.heap.size) A2 c2 d.attrs from hsl_.mono (fun x hx => ⟨by have := HSTd.out.2.2.2.1.2.2; omega, hx.2⟩) (fun _ _ _ _ hu => hu))
     clear hfew_ hmd_ hsl_ hk2_ ht_ hg_
     refine hK.out _ _ HSTq3.out.2.2.2.1 (fun _ => ?_)
     clear hK K
     try simp only [Act.put, List.setIfInBounds_toArray, List.set_cons_zero, List.set_cons_succ]
     refine wpAnyH_ready (rs := [5, 9]) (by kernel_rfl) (by simp) ?_
     refine AllReadyH.cons (o := ⟨some 20, .call ⟨_, _, _⟩, _, _, _, _⟩) rfl (fun K hK => ?_) (AllReadyH.cons (o := ⟨some 7, .alloc _, _, _, _, _⟩) rfl (fun K hK => ?_) (AllReadyH.nil))
     ·
      have HSO := Lib.hid (show SlS q3 (fun x => w1.heap.size < x ∧ x < q3.heap.size) A c L from ((HSTd.out.2.2.2.2.tape HGDq3.out (fun x hx => by have := HKK.out; unfold TrK at this; omega))).mono (fun x hx => ⟨hx.1, by have := HGDq3.out.size; omega⟩) (fun _ _ _ _ hu => hu))
      go_simp
      go_at_call 41
      refine (RInsert_any A c L d A2 c2 (fun x => w1.heap.size < x ∧ x < q3.heap.size) _ HSO.out (fun x hx => hx.2) HFEW.out.ok HSDq3.out HVT.out (HOK.out.tape HSTq3.out.2.1 HNG.out)).mono ?_
      rintro e' q4 ⟨hb_, v, rfl, hown_⟩
      obtain ⟨A3, c3, hv_, hsl_⟩ := hown_.cs
      subst hv_
      have HSTq4 := Lib.hid (HSTq3.out.below hb_)
      have HGDq4 := Lib.hid (grown_below HGDq3.out hb_)
      have HSI := Lib.hid (show SlS q4 (fun x => w1.heap.size < x ∧ x < q4.heap.size) A3 c3 (insR L d) from hsl_.mono (fun x hx => ⟨by rcases hx.1 with h | h; exact h.1; have := HSTq3.out.2.2.2.1.2.2; omega, hx.2⟩) (fun _ _ _ _ hu => hu))
      clear hb_ hown_ hsl_ HSO
      refine hK.out _ _ HSTq4.out.2.2.2.1 (fun _ => ?_)
      clear hK K
      try simp only [Act.put, List.setIfInBounds_toArray, List.set_cons_zero, List.set_cons_succ]
      refine wpAnyH_take (i := 6) (oi := ⟨some 14, _, _, _, _, _⟩) (v := .tuple #[.agg #[.slice A3 (insR L d).length c3], .int .i64 (insE L d)]) rfl (by kernel_rfl) (by kernel_rfl) (by kernel_rfl) (fun _ _ _ h => h) (Or.inl ⟨by rfl, fun w' hS => by go_simp⟩) HSTq4.out.2.2.2.1 ?_
      try simp only [Act.put, List.setIfInBounds_toArray, List.set_cons_zero, List.set_cons_succ]
      refine wpAnyH_take (i := 7) (oi := ⟨some 21, _, _, _, _, _⟩) (v := .agg #[.slice A3 (insR L d).length c3]) rfl (by kernel_rfl) (by kernel_rfl) (by kernel_rfl) (fun _ _ _ h => h) (Or.inl ⟨by rfl, fun w' hS => by go_simp⟩) HSTq4.out.2.2.2.1 ?_
      try simp only [Act.put, List.setIfInBounds_toArray, List.set_cons_zero, List.set_cons_succ]
      refine wpAnyH_take (i := 8) (oi := ⟨some 22, _, _, _, _, _⟩) (v := .int .i64 (insE L d)) rfl (by kernel_rfl) (by kernel_rfl) (by kernel_rfl) (fun _ _ _ h => h) (Or.inl ⟨by rfl, fun w' hS => by go_simp⟩) HSTq4.out.2.2.2.1 ?_
      try simp only [Act.put, List.setIfInBounds_toArray, List.set_cons_zero, List.set_cons_succ]
      refine wpAnyH_ready (rs := [9]) (by kernel_rfl) (by simp) ?_
      refine AllReadyH.cons (o := ⟨some 7, .alloc _, _, _, _, _⟩) rfl (fun K hK => ?_) (AllReadyH.nil)
      go_simp
      obtain ⟨q5, hq5⟩ : ∃ z, q4.alloc (.cells #[.slice none 0 0] 27) = z := ⟨_, rfl⟩
      have hb_ : Below q4.heap.size q4 q5 := by rw [← hq5]; exact (Below.refl _ _).alloc (Nat.le_refl _) _
      have HB7q5 := Lib.hid (show BoxL q5 q4.heap.size [.slice none 0 0] from box_mk hq5)
      try rw [hq5]
      clear hq5
      have HG7 := Lib.hid (show b < q4.heap.size ∧ w1.heap.size < q4.heap.size ∧ wd.heap.size ≤ q4.heap.size from ⟨by have := HSTq4.out.2.2.2.1.2.2; have := HKK.out; unfold TrK at this; omega, HSTq4.out.2.2.2.1.2.2, HGDq4.out.size⟩)
      have HSTq5 := Lib.hid (HSTq4.out.below hb_)
      have HGDq5 := Lib.hid (grown_below HGDq4.out hb_)
      have HSIq5 := Lib.hid ((HSI.out.below hb_ (fun x hx => hx.2)).mono (S' := fun x => w1.heap.size < x ∧ x < q5.heap.size ∧ x ≠ q4.heap.size) (fun x hx => ⟨hx.1, by have := hb_.size; omega, by omega⟩) (fun _ _ _ _ hu => hu))
      clear hb_
      refine hK.out _ _ HSTq5.out.2.2.2.1 (fun _ => ?_)
      clear hK K
      try simp only [Act.put, List.setIfInBounds_toArray, List.set_cons_zero, List.set_cons_succ]
      have c7 := HB7q5.out.1 0 _ rfl; have c7f := HB7q5.out.2.1
      have HSF := Lib.hid (show ∀ (A' : Option Addr) (c' : Nat) (L' : List Dev), SlS q5 (fun x => w1.heap.size < x ∧ x < q5.heap.size ∧ x ≠ q4.heap.size) A' c' L' → SlS (q5.setCell ⟨q4.heap.size, 0, none⟩ (.slice A3 (insR L d).length c3)) (fun x => w1.heap.size < x ∧ x < (q5.setCell ⟨q4.heap.size, 0, none⟩ (.slice A3 (insR L d).length c3)).heap.size) A' c' L' from fun A' c' L' h => (h.set_ (fun x hx => hx.2.2) _).mono (fun x hx => ⟨hx.1, by simpa using hx.2.1⟩) (fun _ _ _ _ hu => hu))
      have HTF := Lib.hid (show TrSt w B b xs k2 w.heap.size w1.heap.size A c L (q5.setCell ⟨q4.heap.size, 0, none⟩ (.slice A3 (insR L d).length c3)) from ⟨HSTq5.out.1.set_ (by have := HG7.out; omega) (by have := HG7.out; have := HBW.out; omega) _, grown_set HSTq5.out.2.1 (by have := HG7.out; have := HKK.out; unfold TrK at this; omega) _, HSTq5.out.2.2.1.far (by have := HG7.out; have := HKK.out; unfold TrK at this; omega) _, HSTq5.out.2.2.2.1.far (by have := HG7.out; omega) _, HSF.out _ _ _ (((HSTd.out.2.2.2.2.tape HGDq5.out (fun x hx => by have := HKK.out; unfold TrK at this; omega))).mono (fun x hx => ⟨hx.1, by have := HGDq5.out.size; omega, by have := HG7.out; omega⟩) (fun _ _ _ _ hu => hu))⟩)
      have HCF := Lib.hid (show BoxL (q5.setCell ⟨q4.heap.size, 0, none⟩ (.slice A3 (insR L d).length c3)) q4.heap.size [.slice A3 (insR L d).length c3] from HB7q5.out.set_ (j := 0) (by simp) _)
      have HSN := Lib.hid (HSF.out _ _ _ HSIq5.out)
      refine wpAnyH_ready (rs := [10]) (by kernel_rfl) (by simp) ?_
      refine AllReadyH.cons (o := ⟨none, .store _ _ _, _, _, _, _⟩) rfl (fun K hK => ?_) AllReadyH.nil
      go_simp
      refine hK.out _ _ HTF.out.2.2.2.1 (fun _ => ?_)
      clear hK K
      try simp only [Act.put, List.setIfInBounds_toArray, List.set_cons_zero, List.set_cons_succ]
      refine wpAnyH_take (i := 11) (oi := ⟨some 8, _, _, _, _, _⟩) (v := .int .i64 (insE L d)) rfl (by kernel_rfl) (by kernel_rfl) (by kernel_rfl) (fun _ _ _ h => h) (Or.inl ⟨by rfl, fun w' hS => by go_simp⟩) HTF.out.2.2.2.1 ?_
      try simp only [Act.put, List.setIfInBounds_toArray, List.set_cons_zero, List.set_cons_succ]
      refine wpAnyH_done (by kernel_rfl) ?_ _
      go_wp2_with fail
      go_meet
      exact ⟨q4.heap.size, d, HMD, rfl, rfl, ⟨k2, A3, c3, HK2.out, HTF.out, HSN.out, HCF.out.1 0 _ rfl⟩⟩
     ·
      go_simp
      obtain ⟨q6, hq6⟩ : ∃ z, q3.alloc (.cells #[.slice none 0 0] 27) = z := ⟨_, rfl⟩
      have hb_ : Below q3.heap.size q3 q6 := by rw [← hq6]; exact (Below.refl _ _).alloc (Nat.le_refl _) _
      have HB7q6 := Lib.hid (show BoxL q6 q3.heap.size [.slice none 0 0] from box_mk hq6)
      try rw [hq6]
      clear hq6
      have HG7 := Lib.hid (show b < q3.heap.size ∧ w1.heap.size < q3.heap.size ∧ wd.heap.size ≤ q3.heap.size from ⟨by have := HSTq3.out.2.2.2.1.2.2; have := HKK.out; unfold TrK at this; omega, HSTq3.out.2.2.2.1.2.2, HGDq3.out.size⟩)
      have HSTq6 := Lib.hid (HSTq3.out.below hb_)
      have HGDq6 := Lib.hid (grown_below HGDq3.out hb_)
      have HSDq6 := Lib.hid ((HSDq3.out.below hb_ (fun x hx => hx.2)).mono (S' := fun x => w1.heap.size < x ∧ x < q6.heap.size ∧ x ≠ q3.heap.size) (fun x hx => ⟨hx.1, by have := hb_.size; omega, by omega⟩) (fun _ _ _ _ hu => hu))
      clear hb_
      refine hK.out _ _ HSTq6.out.2.2.2.1 (fun _ => ?_)
      clear hK K
      try simp only [Act.put, List.setIfInBounds_toArray, List.set_cons_zero, List.set_cons_succ]
      refine wpAnyH_ready (rs := [5]) (by kernel_rfl) (by simp) ?_
      refine AllReadyH.cons (o := ⟨some 20, .call ⟨_, _, _⟩, _, _, _, _⟩) rfl (fun K hK => ?_) (AllReadyH.nil)
      have HSO := Lib.hid (show SlS q6 (fun x => w1.heap.size < x ∧ x < q6.heap.size ∧ x ≠ q3.heap.size) A c L from ((HSTd.out.2.2.2.2.tape HGDq6.out (fun x hx => by have := HKK.out; unfold TrK at this; omega))).mono (fun x hx => ⟨hx.1, by have := HGDq6.out.size; omega, by have := HG7.out; omega⟩) (fun _ _ _ _ hu => hu))
      go_simp
      go_at_call 41
      refine (RInsert_any A c L d A2 c2 (fun x => w1.heap.size < x ∧ x < q6.heap.size ∧ x ≠ q3.heap.size) _ HSO.out (fun x hx => hx.2.1) HFEW.out.ok HSDq6.out HVT.out (HOK.out.tape HSTq6.out.2.1 HNG.out)).mono ?_
      rintro e' q7 ⟨hb_, v, rfl, hown_⟩
      obtain ⟨A3, c3, hv_, hsl_⟩ := hown_.cs
      subst hv_
      have HSTq7 := Lib.hid (HSTq6.out.below hb_)
      have HGDq7 := Lib.hid (grown_below HGDq6.out hb_)
      have HB7q7 := Lib.hid (HB7q6.out.kept (grown_none hb_) (fun e => by cases e))
      have HSI := Lib.hid (show SlS q7 (fun x => w1.heap.size < x ∧ x < q7.heap.size ∧ x ≠ q3.heap.size) A3 c3 (insR L d) from hsl_.mono (fun x hx => ⟨by rcases hx.1 with h | h; exact h.1; have := HSTq6.out.2.2.2.1.2.2; omega, hx.2, by rcases hx.1 with h | h; exact h.2.2; have := HB7q6.out.2.2; omega⟩) (fun _ _ _ _ hu => hu))
      clear hb_ hown_ hsl_ HSO
      refine hK.out _ _ HSTq7.out.2.2.2.1 (fun _ => ?_)
      clear hK K
      try simp only [Act.put, List.setIfInBounds_toArray, List.set_cons_zero, List.set_cons_succ]
      refine wpAnyH_take (i := 6) (oi := ⟨some 14, _, _, _, _, _⟩) (v := .tuple #[.agg #[.slice A3 (insR L d).length c3], .int .i64 (insE L d)]) rfl (by kernel_rfl) (by kernel_rfl) (by kernel_rfl) (fun _ _ _ h => h) (Or.inl ⟨by rfl, fun w' hS => by go_simp⟩) HSTq7.out.2.2.2.1 ?_
      try simp only [Act.put, List.setIfInBounds_toArray, List.set_cons_zero, List.set_cons_succ]
      refine wpAnyH_take (i := 7) (oi := ⟨some 21, _, _, _, _, _⟩) (v := .agg #[.slice A3 (insR L d).length c3]) rfl (by kernel_rfl) (by kernel_rfl) (by kernel_rfl) (fun _ _ _ h => h) (Or.inl ⟨by rfl, fun w' hS => by go_simp⟩) HSTq7.out.2.2.2.1 ?_
      try simp only [Act.put, List.setIfInBounds_toArray, List.set_cons_zero, List.set_cons_succ]
      refine wpAnyH_take (i := 8) (oi := ⟨some 22, _, _, _, _, _⟩) (v := .int .i64 (insE L d)) rfl (by kernel_rfl) (by kernel_rfl) (by kernel_rfl) (fun _ _ _ h => h) (Or.inl ⟨by rfl, fun w' hS => by go_simp⟩) HSTq7.out.2.2.2.1 ?_
      try simp only [Act.put, List.setIfInBounds_toArray, List.set_cons_zero, List.set_cons_succ]
      have c7 := HB7q7.out.1 0 _ rfl; have c7f := HB7q7.out.2.1
      have HSF := Lib.hid (show ∀ (A' : Option Addr) (c' : Nat) (L' : List Dev), SlS q7 (fun x => w1.heap.size < x ∧ x < q7.heap.size ∧ x ≠ q3.heap.size) A' c' L' → SlS (q7.setCell ⟨q3.heap.size, 0, none⟩ (.slice A3 (insR L d).length c3)) (fun x => w1.heap.size < x ∧ x < (q7.setCell ⟨q3.heap.size, 0, none⟩ (.slice A3 (insR L d).length c3)).heap.size) A' c' L' from fun A' c' L' h => (h.set_ (fun x hx => hx.2.2) _).mono (fun x hx => ⟨hx.1, by simpa using hx.2.1⟩) (fun _ _ _ _ hu => hu))
      have HTF := Lib.hid (show TrSt w B b xs k2 w.heap.size w1.heap.size A c L (q7.setCell ⟨q3.heap.size, 0, none⟩ (.slice A3 (insR L d).length c3)) from ⟨HSTq7.out.1.set_ (by have := HG7.out; omega) (by have := HG7.out; have := HBW.out; omega) _, grown_set HSTq7.out.2.1 (by have := HG7.out; have := HKK.out; unfold TrK at this; omega) _, HSTq7.out.2.2.1.far (by have := HG7.out; have := HKK.out; unfold TrK at this; omega) _, HSTq7.out.2.2.2.1.far (by have := HG7.out; omega) _, HSF.out _ _ _ (((HSTd.out.2.2.2.2.tape HGDq7.out (fun x hx => by have := HKK.out; unfold TrK at this; omega))).mono (fun x hx => ⟨hx.1, by have := HGDq7.out.size; omega, by have := HG7.out; omega⟩) (fun _ _ _ _ hu => hu))⟩)
      have HCF := Lib.hid (show BoxL (q7.setCell ⟨q3.heap.size, 0, none⟩ (.slice A3 (insR L d).length c3)) q3.heap.size [.slice A3 (insR L d).length c3] from HB7q7.out.set_ (j := 0) (by simp) _)
      have HSN := Lib.hid (HSF.out _ _ _ HSI.out)
      refine wpAnyH_ready (rs := [10]) (by kernel_rfl) (by simp) ?_
      refine AllReadyH.cons (o := ⟨none, .store _ _ _, _, _, _, _⟩) rfl (fun K hK => ?_) AllReadyH.nil
      go_simp
      refine hK.out _ _ HTF.out.2.2.2.1 (fun _ => ?_)
      clear hK K
      try simp only [Act.put, List.setIfInBounds_toArray, List.set_cons_zero, List.set_cons_succ]
      refine wpAnyH_take (i := 11) (oi := ⟨some 8, _, _, _, _, _⟩) (v := .int .i64 (insE L d)) rfl (by kernel_rfl) (by kernel_rfl) (by kernel_rfl) (fun _ _ _ h => h) (Or.inl ⟨by rfl, fun w' hS => by go_simp⟩) HTF.out.2.2.2.1 ?_
      try simp only [Act.put, List.setIfInBounds_toArray, List.set_cons_zero, List.set_cons_succ]
      refine wpAnyH_done (by kernel_rfl) ?_ _
      go_wp2_with fail
      go_meet
      exact ⟨q3.heap.size, d, HMD, rfl, rfl, ⟨k2, A3, c3, HK2.out, HTF.out, HSN.out, HCF.out.1 0 _ rfl⟩⟩
    ·
     go_simp
     obtain ⟨q8, hq8⟩ : ∃ z, wd.alloc (.cells #[.slice none 0 0] 27) = z := ⟨_, rfl⟩
     have hb_ : Below wd.heap.size wd q8 := by rw [← hq8]; exact (Below.refl _ _).alloc (Nat.le_refl _) _
     have HB7q8 := Lib.hid (show BoxL q8 wd.heap.size [.slice none 0 0] from box_mk hq8)
     try rw [hq8]
     clear hq8
     have HG7 := Lib.hid (show b < wd.heap.size ∧ w1.heap.size < wd.heap.size ∧ wd.heap.size ≤ wd.heap.size from ⟨by have := HSTd.out.2.2.2.1.2.2; have := HKK.out; unfold TrK at this; omega, HSTd.out.2.2.2.1.2.2, HGDd.out.size⟩)
     have HSTq8 := Lib.hid (HSTd.out.below hb_)
     have HGDq8 := Lib.hid (grown_below HGDd.out hb_)
     clear hb_
     refine hK.out _ _ HSTq8.out.2.2.2.1 (fun _ => ?_)
     clear hK K
     try simp only [Act.put, List.setIfInBounds_toArray, List.set_cons_zero, List.set_cons_succ]
     refine wpAnyH_ready (rs := [4]) (by kernel_rfl) (by simp) ?_
     refine AllReadyH.cons (o := ⟨some 19, .call ⟨_, _, _⟩, _, _, _, _⟩) rfl (fun K hK => ?_) (AllReadyH.nil)
     go_simp
     go_at_call 42
     refine (DeviceM_any xs k' B b A c L j _ _ (by have := HK.out; have := HKX.out; omega) HSTq8.out.1 (HSTq8.out.treeIn HKK.out) (fun d hd => ⟨(HVT.out.small d hd).2, (HVT.out.small d hd).1⟩) (by have := HLL.out; omega) HJJ.out).mono ?_
     rintro e' q9 ⟨d, A2, c2, k2, rfl, hfew_, hmd_, hsl_, hk2_, ht_, hg_⟩
     have HSTq9 := Lib.hid (HSTq8.out.tape HKK.out ht_ hg_); have HFEW := Lib.hid hfew_; have HMD := Lib.hid hmd_; have HK2 := Lib.hid hk2_
     have HGDq9 := Lib.hid (grown_trans HGDq8.out hg_)
     have HB7q9 := Lib.hid (HB7q8.out.kept hg_ (fun e => by have := Option.some.inj e; have := HG7.out; omega))
     have HSDq9 := Lib.hid (show SlS q9 (fun x => w1.heap.size < x ∧ x < q9.heap.size ∧ x ≠ wd.heap.size) A2 c2 d.attrs from hsl_.mono (fun x hx => ⟨by have := HSTq8.out.2.2.2.1.2.2; omega, hx.2, by have := HB7q8.out.2.2; omega⟩) (fun _ _ _ _ hu => hu))
     clear hfew_ hmd_ hsl_ hk2_ ht_ hg_
     refine hK.out _ _ HSTq9.out.2.2.2.1 (fun _ => ?_)
     clear hK K
     try simp only [Act.put, List.setIfInBounds_toArray, List.set_cons_zero, List.set_cons_succ]
     refine wpAnyH_ready (rs := [5]) (by kernel_rfl) (by simp) ?_
     refine AllReadyH.cons (o := ⟨some 20, .call ⟨_, _, _⟩, _, _, _, _⟩) rfl (fun K hK => ?_) (AllReadyH.nil)
     have HSO := Lib.hid (show SlS q9 (fun x => w1.heap.size < x ∧ x < q9.heap.size ∧ x ≠ wd.heap.size) A c L from ((HSTd.out.2.2.2.2.tape HGDq9.out (fun x hx => by have := HKK.out; unfold TrK at this; omega))).mono (fun x hx => ⟨hx.1, by have := HGDq9.out.size; omega, by have := HG7.out; omega⟩) (fun _ _ _ _ hu => hu))
     go_simp
     go_at_call 41
     refine (RInsert_any A c L d A2 c2 (fun x => w1.heap.size < x ∧ x < q9.heap.size ∧ x ≠ wd.heap.size) _ HSO.out (fun x hx => hx.2.1) HFEW.out.ok HSDq9.out HVT.out (HOK.out.tape HSTq9.out.2.1 HNG.out)).mono ?_
     rintro e' q10 ⟨hb_, v, rfl, hown_⟩
     obtain ⟨A3, c3, hv_, hsl_⟩ := hown_.cs
     subst hv_
     have HSTq10 := Lib.hid (HSTq9.out.below hb_)
     have HGDq10 := Lib.hid (grown_below HGDq9.out hb_)
     have HB7q10 := Lib.hid (HB7q9.out.kept (grown_none hb_) (fun e => by cases e))
     have HSI := Lib.hid (show SlS q10 (fun x => w1.heap.size < x ∧ x < q10.heap.size ∧ x ≠ wd.heap.size) A3 c3 (insR L d) from hsl_.mono (fun x hx => ⟨by rcases hx.1 with h | h; exact h.1; have := HSTq9.out.2.2.2.1.2.2; omega, hx.2, by rcases hx.1 with h | h; exact h.2.2; have := HB7q9.out.2.2; omega⟩) (fun _ _ _ _ hu => hu))
     clear hb_ hown_ hsl_ HSO
     refine hK.out _ _ HSTq10.out.2.2.2.1 (fun _ => ?_)
     clear hK K
     try simp only [Act.put, List.setIfInBounds_toArray, List.set_cons_zero, List.set_cons_succ]
     refine wpAnyH_take (i := 6) (oi := ⟨some 14, _, _, _, _, _⟩) (v := .tuple #[.agg #[.slice A3 (insR L d).length c3], .int .i64 (insE L d)]) rfl (by kernel_rfl) (by kernel_rfl) (by kernel_rfl) (fun _ _ _ h => h) (Or.inl ⟨by rfl, fun w' hS => by go_simp⟩) HSTq10.out.2.2.2.1 ?_
     try simp only [Act.put, List.setIfInBounds_toArray, List.set_cons_zero, List.set_cons_succ]
     refine wpAnyH_take (i := 7) (oi := ⟨some 21, _, _, _, _, _⟩) (v := .agg #[.slice A3 (insR L d).length c3]) rfl (by kernel_rfl) (by kernel_rfl) (by kernel_rfl) (fun _ _ _ h => h) (Or.inl ⟨by rfl, fun w' hS => by go_simp⟩) HSTq10.out.2.2.2.1 ?_
     try simp only [Act.put, List.setIfInBounds_toArray, List.set_cons_zero, List.set_cons_succ]
     refine wpAnyH_take (i := 8) (oi := ⟨some 22, _, _, _, _, _⟩) (v := .int .i64 (insE L d)) rfl (by kernel_rfl) (by kernel_rfl) (by kernel_rfl) (fun _ _ _ h => h) (Or.inl ⟨by rfl, fun w' hS => by go_simp⟩) HSTq10.out.2.2.2.1 ?_
     try simp only [Act.put, List.setIfInBounds_toArray, List.set_cons_zero, List.set_cons_succ]
     have c7 := HB7q10.out.1 0 _ rfl; have c7f := HB7q10.out.2.1
     have HSF := Lib.hid (show ∀ (A' : Option Addr) (c' : Nat) (L' : List Dev), SlS q10 (fun x => w1.heap.size < x ∧ x < q10.heap.size ∧ x ≠ wd.heap.size) A' c' L' → SlS (q10.setCell ⟨wd.heap.size, 0, none⟩ (.slice A3 (insR L d).length c3)) (fun x => w1.heap.size < x ∧ x < (q10.setCell ⟨wd.heap.size, 0, none⟩ (.slice A3 (insR L d).length c3)).heap.size) A' c' L' from fun A' c' L' h => (h.set_ (fun x hx => hx.2.2) _).mono (fun x hx => ⟨hx.1, by simpa using hx.2.1⟩) (fun _ _ _ _ hu => hu))
     have HTF := Lib.hid (show TrSt w B b xs k2 w.heap.size w1.heap.size A c L (q10.setCell ⟨wd.heap.size, 0, none⟩ (.slice A3 (insR L d).length c3)) from ⟨HSTq10.out.1.set_ (by have := HG7.out; omega) (by have := HG7.out; have := HBW.out; omega) _, grown_set HSTq10.out.2.1 (by have := HG7.out; have := HKK.out; unfold TrK at this; omega) _, HSTq10.out.2.2.1.far (by have := HG7.out; have := HKK.out; unfold TrK at this; omega) _, HSTq10.out.2.2.2.1.far (by have := HG7.out; omega) _, HSF.out _ _ _ (((HSTd.out.2.2.2.2.tape HGDq10.out (fun x hx => by have := HKK.out; unfold TrK at this; omega))).mono (fun x hx => ⟨hx.1, by have := HGDq10.out.size; omega, by have := HG7.out; omega⟩) (fun _ _ _ _ hu => hu))⟩)
     have HCF := Lib.hid (show BoxL (q10.setCell ⟨wd.heap.size, 0, none⟩ (.slice A3 (insR L d).length c3)) wd.heap.size [.slice A3 (insR L d).length c3] from HB7q10.out.set_ (j := 0) (by simp) _)
     have HSN := Lib.hid (HSF.out _ _ _ HSI.out)
     refine wpAnyH_ready (rs := [10]) (by kernel_rfl) (by simp) ?_
     refine AllReadyH.cons (o := ⟨none, .store _ _ _, _, _, _, _⟩) rfl (fun K hK => ?_) AllReadyH.nil
     go_simp
     refine hK.out _ _ HTF.out.2.2.2.1 (fun _ => ?_)
     clear hK K
     try simp only [Act.put, List.setIfInBounds_toArray, List.set_cons_zero, List.set_cons_succ]
     refine wpAnyH_take (i := 11) (oi := ⟨some 8, _, _, _, _, _⟩) (v := .int .i64 (insE L d)) rfl (by kernel_rfl) (by kernel_rfl) (by kernel_rfl) (fun _ _ _ h => h) (Or.inl ⟨by rfl, fun w' hS => by go_simp⟩) HTF.out.2.2.2.1 ?_
     try simp only [Act.put, List.setIfInBounds_toArray, List.set_cons_zero, List.set_cons_succ]
     refine wpAnyH_done (by kernel_rfl) ?_ _
     go_wp2_with fail
     go_meet
     exact ⟨wd.heap.size, d, HMD, rfl, rfl, ⟨k2, A3, c3, HK2.out, HTF.out, HSN.out, HCF.out.1 0 _ rfl⟩⟩
   case rest =>
   obtain ⟨g7, d, HMD, rfl, rfl, hq⟩ := hcut
   obtain ⟨k2, A3, c3, hk2, hst, hsl, hc7⟩ := hq.out
   clear hq HST
   have HK2 := Lib.hid hk2; have HST := Lib.hid hst; have HSL := Lib.hid hsl; have HC7 := Lib.hid hc7; clear hk2 hst hsl hc7
   obtain ⟨z, hz⟩ : ∃ z, insE L d = z := ⟨_, rfl⟩
   rw [hz]
   have HZ := Lib.hid hz; clear hz
   by_cases h0 : z = 0
   ·
    have e0 : (z == 0) = true := beq_iff_eq.2 h0
    have HVN := Lib.hid (VT_tree HVT.out (by rw [HZ.out, h0])); clear h0
    have c7 := HC7.out; have t0 := HST.out.2.2.2.1.1 0 _ rfl; have tf := HST.out.2.2.2.1.2.1
    have HSN := Lib.hid (HST.out.put HKK.out HSL.out)
    go_wp2
    go_roundw
    case rel => exact ⟨j + 1, insR L d, A3, c3, k2, by first | rfl | go_num, ⟨by omega, by omega, by rw [HVN.out.2]; push_cast; omega⟩, Lib.hid ⟨HVN.out.1, HVM.out.2.ins ⟨by rw [HMD.out.1]; omega, HMD.out.2⟩⟩, by have := HKB.out; have := HK2.out; show (k2 : Int) ≤ _; omega, HSN⟩
    case measure => simp [intOf]; omega
   ·
    have e0 : (z == 0) = false := beq_eq_false_iff_ne.2 h0
    clear h0
    go_wp2
    go_roundw
    case rel => exact ⟨j + 1, L, A, c, k2, by first | rfl | go_num, ⟨by omega, by omega, by omega⟩, HVM, by have := HKB.out; have := HK2.out; show (k2 : Int) ≤ _; omega, HST⟩
    case measure => simp [intOf]; omega
  ·
   have t0 := HST.out.2.2.2.1.1 0 _ rfl; have r0 := HST.out.2.2.1.1 0 _ rfl; have rf := HST.out.2.2.1.2.1
   go_wp2
   refine bodyPost_ret (v := .agg #[.slice A L.length c]) (by simp [results, Tryz.results15, go_sem, r0, rf]) rfl ⟨A, c, L, k', rfl, HVM.out, by omega, ?_, by have := HKX.out; omega, HST.out.1.set_ (by have := HBW.out; omega) (by have := HBW.out; omega) _, grown_set HST.out.2.1 (Nat.le_refl _) _⟩
   exact (HST.out.2.2.2.2.set_ (fun x hx => by have := HGw1.out; omega) _).mono (fun x hx => ⟨by have := HGw1.out; omega, by simpa using hx.2⟩) (fun _ _ _ _ hu => hu)
end Go.Proofs.YtomcebcaendilaaGreatDoor
