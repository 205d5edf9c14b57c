/-
  The walks of coldplugworld: Tree and Some.
-/
import Derived.Test.YtjgllhlilbchpaaGreatDoorJG
set_option linter.unusedSimpArgs false
set_option linter.unusedVariables false
namespace Go.Cold
open Go Go.RowKit
def TrSt (w0 : World) (B b : Nat) (xs : List Int) (k g4 g5 : Nat) (A : Option Addr) (c : Nat) (L : List Dev) (w : World) : Prop :=
 TapeAt w B b xs k ∧ w0.grownBy w (some b) ∧ BoxL w g4 [.slice none 0 0] ∧ BoxL w g5 [.slice A L.length c] ∧ SlS w (fun x => g5 < x ∧ x < w.heap.size) A c L
def TrK (w0 : World) (B b g4 g5 : Nat) : Prop := b < w0.heap.size ∧ B ≤ b ∧ w0.heap.size ≤ g4 ∧ g4 < g5
section
variable {w0 w w' : World} {B b k k' g4 g5 c : Nat} {xs : List Int} {A : Option Addr} {L : List Dev}
theorem TrSt.tape (h : TrSt w0 B b xs k g4 g5 A c L w) (K : TrK w0 B b g4 g5) (ht : TapeAt w' B b xs k') (hg : w.grownBy w' (some b)) : TrSt w0 B b xs k' g4 g5 A c L w' := by
 obtain ⟨h1, h2, h3, h4, h5⟩ := h
 obtain ⟨a1, a2, a3, a4⟩ := K
 exact ⟨ht, grown_trans h2 hg, h3.kept hg (fun e => by have := Option.some.inj e; omega), h4.kept hg (fun e => by have := Option.some.inj e; omega),
  h5.mono (fun x hx => ⟨hx.1, by have := hg.size; omega⟩) (fun x o u hx hu => hg.cell hu (fun e => by have h : x = b := Option.some.inj e; omega))⟩
theorem TrSt.below (h : TrSt w0 B b xs k g4 g5 A c L w) (hb : Below w.heap.size w w') : TrSt w0 B b xs k g4 g5 A c L w' := by
 obtain ⟨h1, h2, h3, h4, h5⟩ := h
 exact ⟨h1.kept (grown_none hb) (fun e => by cases e) (fun g e => by cases e), grown_below h2 hb, h3.kept (grown_none hb) (fun e => by cases e), h4.kept (grown_none hb) (fun e => by cases e),
  h5.mono (fun x hx => ⟨hx.1, by have := hb.size; omega⟩) (fun x o u hx hu => (hb.cell (p := ⟨x, o, none⟩) (by exact hx.2)).trans hu)⟩
theorem TrSt.drew (h : TrSt w0 B b xs k g4 g5 A c L w) : TrSt w0 B b xs k g4 g5 A c L w.drew := h.below (below_drewN_self w _ 1)
theorem TrSt.put {A' : Option Addr} {c' : Nat} {L' : List Dev} (h : TrSt w0 B b xs k g4 g5 A c L w) (K : TrK w0 B b g4 g5) (hs : SlS w (fun x => g5 < x ∧ x < w.heap.size) A' c' L') : TrSt w0 B b xs k g4 g5 A' c' L' (w.setCell ⟨g5, 0, none⟩ (.slice A' L'.length c')) := by
 obtain ⟨h1, h2, h3, h4, h5⟩ := h
 obtain ⟨a1, a2, a3, a4⟩ := K
 exact ⟨h1.set_ (by omega) (by omega) _, grown_set h2 (by omega) _, h3.far (by omega) _, h4.set_ (j := 0) (by simp) _, (hs.set_ (fun x hx => by omega) _).mono (fun x hx => ⟨hx.1, by simpa using hx.2⟩) (fun _ _ _ _ hu => hu)⟩
theorem TrSt.treeIn (h : TrSt w0 B b xs k g4 g5 A c L w) (K : TrK w0 B b g4 g5) : TreeIn w b (fun x => g5 < x ∧ x < w.heap.size) A c L := by
 obtain ⟨a1, a2, a3, a4⟩ := K
 exact ⟨h.2.2.2.2, fun x hx => by omega, fun x hx => hx.2⟩
end
theorem VT_tree {L : List Dev} {d : Dev} (h : VT L) (he : insE L d = 0) : VT (insR L d) ∧ (insR L d).length = L.length + 1 := by
 unfold insR
 rw [if_pos he]
 exact ⟨(ins_VT h he).1, ins_length L d⟩
end Go.Cold
namespace Go.Proofs.YtjgllhlilbchpaaGreatDoor
open Go.RowKit Go.Cold
def NotG (b : Nat) : Prop := ¬ b = 0
theorem Ok.tape {w w' : World} {b : Nat} (h : Ok w) (hg : w.grownBy w' (some b)) (hb : NotG b) : Ok w' := by
 obtain ⟨m, hm⟩ := h
 exact ⟨m, hg.cell hm (fun e => hb (Option.some.inj e).symm)⟩
def TreePost (xs : List Int) (k B b : Nat) (n : Int) (w : World) (e : Ending) (w' : World) : Prop := ∃ (A : Option Addr) (c : Nat) (L : List Dev) (k' : Nat), e = .returned (.agg #[.slice A L.length c]) ∧ VT L ∧ (L.length : Int) ≤ n ∧ SlS w' (fun x => w.heap.size ≤ x ∧ x < w'.heap.size) A c L ∧ k' ≤ k + 1000 ∧ TapeAt w' B b xs k' ∧ w.grownBy w' (some b)
def TrCut (w0 : World) (B b : Nat) (xs : List Int) (kx g4 g5 : Nat) (A : Option Addr) (c : Nat) (L : List Dev) (g7 : Nat) (d : Dev) (w : World) : Prop :=
 ∃ (k' : Nat) (A' : Option Addr) (c' : Nat), k' ≤ kx ∧ TrSt w0 B b xs k' g4 g5 A c L w ∧ SlS w (fun x => g5 < x ∧ x < w.heap.size) A' c' (insR L d) ∧ w.cell? ⟨g7, 0, none⟩ = some (.slice A' (insR L d).length c')
theorem info_tree2 : (Tryz.prog.info? 28).map (fun i => (i.zero, i.size)) = some (some (.agg #[.slice none 0 0]), 1) := by kernel_rfl
set_option maxRecDepth 100000 in
set_option maxHeartbeats 8000000 in
theorem Tree_any (xs : List Int) (k B b : Nat) (n : Int) (w : World) (hk : k ≤ 2 ^ 37) (ht : TapeAt w B b xs k) (hn : 0 ≤ n ∧ n ≤ 20) (hok : Ok w) (hng : NotG b) : Calls Tryz.prog 10 #[.pointer (some ⟨b, 0, none⟩), .int .i64 n] w (TreePost xs k B b n w) := by
 have hn1 : 0 ≤ n := hn.1; have hn2 : n ≤ 20 := hn.2
 have HT := Lib.hid ht; have HK := Lib.hid hk; have HOK := Lib.hid hok; have HNG := Lib.hid hng; have HN := Lib.hid hn; clear ht hk hok hng hn
 have HBW := Lib.hid (show b < w.heap.size ∧ B ≤ b by obtain ⟨_, _, _, _, _, _, h1, h2⟩ := HT.out; exact ⟨h2, h1⟩)
 have hzt := (zero_of_info (P := Tryz.prog) (t := 28) info_tree2).1
 go_enter Tryz.func10, Tryz.ntmps10
 go_upto_region 2 with fail
 obtain ⟨w1, hw1⟩ : ∃ w1, w.alloc (.cells #[.slice none 0 0] 28) = w1 := ⟨_, rfl⟩
 have hbw1 : Below w.heap.size w w1 := by rw [← hw1]; exact (Below.refl _ _).alloc (Nat.le_refl _) _
 have HGw1 := Lib.hid (show w1.heap.size = w.heap.size + 1 by rw [← hw1]; simp)
 have HXrw1 := Lib.hid (show BoxL w1 w.heap.size [.slice none 0 0] from box_mk hw1)
 try simp only [hw1]
 have HBw1 := Lib.hid hbw1
 clear hw1 hbw1
 try rw [show w.heap.size + 1 = w1.heap.size from HGw1.out.symm]
 obtain ⟨w2, hw2⟩ : ∃ w2, w1.alloc (.cells #[.slice none 0 0] 28) = w2 := ⟨_, rfl⟩
 have hbw2 : Below w1.heap.size w1 w2 := by rw [← hw2]; exact (Below.refl _ _).alloc (Nat.le_refl _) _
 have HGw2 := Lib.hid (show w2.heap.size = w1.heap.size + 1 by rw [← hw2]; simp)
 have HXtw2 := Lib.hid (show BoxL w2 w1.heap.size [.slice none 0 0] from box_mk hw2)
 try simp only [hw2]
 have HBw2 := Lib.hid (HBw1.out.trans (hbw2.mono HBw1.out.size))
 have rw2 := Lib.hid (HXrw1.out.kept (grown_none hbw2) (fun e => by cases e))
 clear hw2 hbw2
 try rw [show w1.heap.size + 1 = w2.heap.size from HGw2.out.symm]
 have HT2 := Lib.hid (HT.out.kept (grown_none HBw2.out) (fun e => by cases e) (fun g e => by cases e)); have HKK := Lib.hid (show TrK w B b w.heap.size w1.heap.size from ⟨HBW.out.1, HBW.out.2, Nat.le_refl _, by have := HGw1.out; omega⟩)
 have HST := Lib.hid (show TrSt w B b xs (k) w.heap.size w1.heap.size none 0 ([] : List Dev) w2 from ⟨HT2.out, grown_any HBw2.out, rw2.out, HXtw2.out, SlS.nil_⟩)
 go_wp2_with fail
 refine (Next_lit (n + 1) xs k B b _ (by have := HK.out; omega) HT2.out (by omega) (by omega)).mono ?_
 rintro e w3 ⟨m, hm0, hm1, rfl, ht_, hg_⟩
 have HST3 := Lib.hid (HST.out.tape HKK.out ht_ hg_); clear ht_ hg_
 go_wp2_with fail
 go_loopw [6] (fun i wr => ∃ (j : Int) (L : List Dev) (A : Option Addr) (c k' : Nat), i = .int .i64 j ∧ (0 ≤ j ∧ j ≤ n ∧ (L.length : Int) + j ≤ n) ∧ Hid (VT L) ∧ Hid ((k' : Int) + 31 * j ≤ k + 1 + 31 * n) ∧ Hid (TrSt w B b xs (k') w.heap.size w1.heap.size A c L wr)) (fun i _ => (intOf i).toNat)
 case atStart => exact ⟨m, [], none, 0, k + 1, rfl, ⟨hm0, by omega, by simp; omega⟩, VT_nil, by show ((k + 1 : Nat) : Int) + 31 * m ≤ _; omega, HST3⟩
 case round =>
  obtain ⟨j, L, A, c, k', rfl, hj, HVT, HKB, HST⟩ := hrel
  obtain ⟨hj0, hj1, hj2⟩ := hj
  clear HST3 hm0 hm1
  have hk' : k' ≤ k + 1 + 31 * 20 := by have := HKB.out; omega
  have HKX := Lib.hid hk'; clear hk'
  have hll : L.length ≤ 20 := by omega
  have HLL := Lib.hid hll; clear hll
  by_cases hlt : 0 < j
  ·
   go_upto_region 5 with fail
   go_cut [7, 8] (fun s7 s8 wx => ∃ (g7 : Nat) (d : Dev), s7 = .pointer (some ⟨g7, 0, none⟩) ∧ s8 = .int .i64 (insE L d) ∧ Hid (TrCut w B b xs (k' + 30) w.heap.size w1.heap.size A c L g7 d wx))
   case first =>
    refine wp_region_held_drew (S := fun w' => BoxL w' w1.heap.size [.slice A L.length c]) (by kernel_rfl) HST.out.2.2.2.1.drew (fun hS0 => ?_)
    obtain ⟨wd, hwd⟩ : ∃ z, wr.drew = z := ⟨_, rfl⟩
    have HSTd := Lib.hid HST.out.drew
    rw [hwd] at hS0 HSTd ⊢
    clear hwd hS0
    have HGDd := Lib.hid (show wd.grownBy wd (some b) from grown_any (Below.refl _ _))
    refine wpAnyH_take (i := 0) (oi := ⟨some 18, _, _, _, _, _⟩) (v := .agg #[.slice A L.length c]) rfl (by kernel_rfl) (by kernel_rfl) (by kernel_rfl) (fun _ _ _ h => h) (Or.inl ⟨by rfl, fun w' hS => by (have u := hS.1 0 _ rfl; go_simp)⟩) HSTd.out.2.2.2.1 ?_
    try simp only [Act.put, List.setIfInBounds_toArray, List.set_cons_zero, List.set_cons_succ]
    refine wpAnyH_take (i := 2) (oi := ⟨some 20, _, _, _, _, _⟩) (v := .agg #[.slice A L.length c]) rfl (by kernel_rfl) (by kernel_rfl) (by kernel_rfl) (fun _ _ _ h => h) (Or.inl ⟨by rfl, fun w' hS => by (have u := hS.1 0 _ rfl; go_simp)⟩) HSTd.out.2.2.2.1 ?_
    try simp only [Act.put, List.setIfInBounds_toArray, List.set_cons_zero, List.set_cons_succ]
    refine wpAnyH_take (i := 1) (oi := ⟨some 19, _, _, _, _, _⟩) (v := .pointer (some ⟨b, 0, none⟩)) rfl (by kernel_rfl) (by kernel_rfl) (by kernel_rfl) (fun _ _ _ h => h) (Or.inl ⟨by rfl, fun w' hS => by go_simp⟩) HSTd.out.2.2.2.1 ?_
    try simp only [Act.put, List.setIfInBounds_toArray, List.set_cons_zero, List.set_cons_succ]
    refine wpAnyH_ready (rs := [3, 8]) (by kernel_rfl) (by simp) ?_
    refine AllReadyH.cons (o := ⟨some 21, .call ⟨_, _, _⟩, _, _, _, _⟩) rfl (fun K hK => ?_) (AllReadyH.cons (o := ⟨some 7, .alloc _, _, _, _, _⟩) rfl (fun K hK => ?_) (AllReadyH.nil))
    ·
     go_simp
     go_at_call 39
     refine (Device_any xs k' B b A c L _ _ (by have := HK.out; have := HKX.out; omega) HSTd.out.1 (HSTd.out.treeIn HKK.out) (fun d hd => (HVT.out.small d hd).2) (by have := HLL.out; omega)).mono ?_
     rintro e' q3 ⟨d, A2, c2, k2, rfl, hfew_, hsl_, hk2_, ht_, hg_⟩
     have HSTq3 := Lib.hid (HSTd.out.tape HKK.out ht_ hg_); have HFEW := Lib.hid hfew_; have HK2 := Lib.hid hk2_
     have HGDq3 := Lib.hid (grown_trans HGDd.out hg_)
     have HSDq3 := Lib.hid (show SlS q3 (fun x => w1.heap.size < x ∧ x < q3.heap.size) A2 c2 d.attrs from hsl_.mono (fun x hx => ⟨by have := HSTd.out.2.2.2.1.2.2; omega, hx.2⟩) (fun _ _ _ _ hu => hu))
     clear hfew_ hsl_ hk2_ ht_ hg_
     refine hK.out _ _ HSTq3.out.2.2.2.1 (fun _ => ?_)
     clear hK K
     try simp only [Act.put, List.setIfInBounds_toArray, List.set_cons_zero, List.set_cons_succ]
     refine wpAnyH_ready (rs := [4, 8]) (by kernel_rfl) (by simp) ?_
     refine AllReadyH.cons (o := ⟨some 22, .call ⟨_, _, _⟩, _, _, _, _⟩) rfl (fun K hK => ?_) (AllReadyH.cons (o := ⟨some 7, .alloc _, _, _, _, _⟩) rfl (fun K hK => ?_) (AllReadyH.nil))
     ·
      have HSO := Lib.hid (show SlS q3 (fun x => w1.heap.size < x ∧ x < q3.heap.size) A c L from ((HSTd.out.2.2.2.2.tape HGDq3.out (fun x hx => by have := HKK.out; unfold TrK at this; omega))).mono (fun x hx => ⟨hx.1, by have := HGDq3.out.size; omega⟩) (fun _ _ _ _ hu => hu))
      go_simp
      go_at_call 38
      refine (RInsert_any A c L d A2 c2 (fun x => w1.heap.size < x ∧ x < q3.heap.size) _ HSO.out (fun x hx => hx.2) HFEW.out.ok HSDq3.out HVT.out (HOK.out.tape HSTq3.out.2.1 HNG.out)).mono ?_
      rintro e' q4 ⟨hb_, v, rfl, hown_⟩
      obtain ⟨A3, c3, hv_, hsl_⟩ := hown_.cs
      subst hv_
      have HSTq4 := Lib.hid (HSTq3.out.below hb_)
      have HGDq4 := Lib.hid (grown_below HGDq3.out hb_)
      have HSI := Lib.hid (show SlS q4 (fun x => w1.heap.size < x ∧ x < q4.heap.size) A3 c3 (insR L d) from hsl_.mono (fun x hx => ⟨by rcases hx.1 with h | h; exact h.1; have := HSTq3.out.2.2.2.1.2.2; omega, hx.2⟩) (fun _ _ _ _ hu => hu))
      clear hb_ hown_ hsl_ HSO
      refine hK.out _ _ HSTq4.out.2.2.2.1 (fun _ => ?_)
      clear hK K
      try simp only [Act.put, List.setIfInBounds_toArray, List.set_cons_zero, List.set_cons_succ]
      refine wpAnyH_take (i := 5) (oi := ⟨some 17, _, _, _, _, _⟩) (v := .tuple #[.agg #[.slice A3 (insR L d).length c3], .int .i64 (insE L d)]) rfl (by kernel_rfl) (by kernel_rfl) (by kernel_rfl) (fun _ _ _ h => h) (Or.inl ⟨by rfl, fun w' hS => by go_simp⟩) HSTq4.out.2.2.2.1 ?_
      try simp only [Act.put, List.setIfInBounds_toArray, List.set_cons_zero, List.set_cons_succ]
      refine wpAnyH_take (i := 6) (oi := ⟨some 23, _, _, _, _, _⟩) (v := .agg #[.slice A3 (insR L d).length c3]) rfl (by kernel_rfl) (by kernel_rfl) (by kernel_rfl) (fun _ _ _ h => h) (Or.inl ⟨by rfl, fun w' hS => by go_simp⟩) HSTq4.out.2.2.2.1 ?_
      try simp only [Act.put, List.setIfInBounds_toArray, List.set_cons_zero, List.set_cons_succ]
      refine wpAnyH_take (i := 7) (oi := ⟨some 24, _, _, _, _, _⟩) (v := .int .i64 (insE L d)) rfl (by kernel_rfl) (by kernel_rfl) (by kernel_rfl) (fun _ _ _ h => h) (Or.inl ⟨by rfl, fun w' hS => by go_simp⟩) HSTq4.out.2.2.2.1 ?_
      try simp only [Act.put, List.setIfInBounds_toArray, List.set_cons_zero, List.set_cons_succ]
      refine wpAnyH_ready (rs := [8]) (by kernel_rfl) (by simp) ?_
      refine AllReadyH.cons (o := ⟨some 7, .alloc _, _, _, _, _⟩) rfl (fun K hK => ?_) (AllReadyH.nil)
      go_simp
      obtain ⟨q5, hq5⟩ : ∃ z, q4.alloc (.cells #[.slice none 0 0] 28) = z := ⟨_, rfl⟩
      have hb_ : Below q4.heap.size q4 q5 := by rw [← hq5]; exact (Below.refl _ _).alloc (Nat.le_refl _) _
      have HB7q5 := Lib.hid (show BoxL q5 q4.heap.size [.slice none 0 0] from box_mk hq5)
      try rw [hq5]
      clear hq5
      have HG7 := Lib.hid (show b < q4.heap.size ∧ w1.heap.size < q4.heap.size ∧ wd.heap.size ≤ q4.heap.size from ⟨by have := HSTq4.out.2.2.2.1.2.2; have := HKK.out; unfold TrK at this; omega, HSTq4.out.2.2.2.1.2.2, HGDq4.out.size⟩)
      have HSTq5 := Lib.hid (HSTq4.out.below hb_)
      have HGDq5 := Lib.hid (grown_below HGDq4.out hb_)
      have HSIq5 := Lib.hid ((HSI.out.below hb_ (fun x hx => hx.2)).mono (S' := fun x => w1.heap.size < x ∧ x < q5.heap.size ∧ x ≠ q4.heap.size) (fun x hx => ⟨hx.1, by have := hb_.size; omega, by omega⟩) (fun _ _ _ _ hu => hu))
      clear hb_
      refine hK.out _ _ HSTq5.out.2.2.2.1 (fun _ => ?_)
      clear hK K
      try simp only [Act.put, List.setIfInBounds_toArray, List.set_cons_zero, List.set_cons_succ]
      have c7 := HB7q5.out.1 0 _ rfl; have c7f := HB7q5.out.2.1
      have HSF := Lib.hid (show ∀ (A' : Option Addr) (c' : Nat) (L' : List Dev), SlS q5 (fun x => w1.heap.size < x ∧ x < q5.heap.size ∧ x ≠ q4.heap.size) A' c' L' → SlS (q5.setCell ⟨q4.heap.size, 0, none⟩ (.slice A3 (insR L d).length c3)) (fun x => w1.heap.size < x ∧ x < (q5.setCell ⟨q4.heap.size, 0, none⟩ (.slice A3 (insR L d).length c3)).heap.size) A' c' L' from fun A' c' L' h => (h.set_ (fun x hx => hx.2.2) _).mono (fun x hx => ⟨hx.1, by simpa using hx.2.1⟩) (fun _ _ _ _ hu => hu))
      have HTF := Lib.hid (show TrSt w B b xs k2 w.heap.size w1.heap.size A c L (q5.setCell ⟨q4.heap.size, 0, none⟩ (.slice A3 (insR L d).length c3)) from ⟨HSTq5.out.1.set_ (by have := HG7.out; omega) (by have := HG7.out; have := HBW.out; omega) _, grown_set HSTq5.out.2.1 (by have := HG7.out; have := HKK.out; unfold TrK at this; omega) _, HSTq5.out.2.2.1.far (by have := HG7.out; have := HKK.out; unfold TrK at this; omega) _, HSTq5.out.2.2.2.1.far (by have := HG7.out; omega) _, HSF.out _ _ _ (((HSTd.out.2.2.2.2.tape HGDq5.out (fun x hx => by have := HKK.out; unfold TrK at this; omega))).mono (fun x hx => ⟨hx.1, by have := HGDq5.out.size; omega, by have := HG7.out; omega⟩) (fun _ _ _ _ hu => hu))⟩)
      have HCF := Lib.hid (show BoxL (q5.setCell ⟨q4.heap.size, 0, none⟩ (.slice A3 (insR L d).length c3)) q4.heap.size [.slice A3 (insR L d).length c3] from HB7q5.out.set_ (j := 0) (by simp) _)
      have HSN := Lib.hid (HSF.out _ _ _ HSIq5.out)
      refine wpAnyH_ready (rs := [9]) (by kernel_rfl) (by simp) ?_
      refine AllReadyH.cons (o := ⟨none, .store _ _ _, _, _, _, _⟩) rfl (fun K hK => ?_) AllReadyH.nil
      go_simp
      refine hK.out _ _ HTF.out.2.2.2.1 (fun _ => ?_)
      clear hK K
      try simp only [Act.put, List.setIfInBounds_toArray, List.set_cons_zero, List.set_cons_succ]
      refine wpAnyH_take (i := 10) (oi := ⟨some 8, _, _, _, _, _⟩) (v := .int .i64 (insE L d)) rfl (by kernel_rfl) (by kernel_rfl) (by kernel_rfl) (fun _ _ _ h => h) (Or.inl ⟨by rfl, fun w' hS => by go_simp⟩) HTF.out.2.2.2.1 ?_
      try simp only [Act.put, List.setIfInBounds_toArray, List.set_cons_zero, List.set_cons_succ]
      refine wpAnyH_done (by kernel_rfl) ?_ _
      go_wp2_with fail
      go_meet
      exact ⟨q4.heap.size, d, rfl, rfl, ⟨k2, A3, c3, HK2.out, HTF.out, HSN.out, HCF.out.1 0 _ rfl⟩⟩
     ·
      go_simp
      obtain ⟨q6, hq6⟩ : ∃ z, q3.alloc (.cells #[.slice none 0 0] 28) = z := ⟨_, rfl⟩
      have hb_ : Below q3.heap.size q3 q6 := by rw [← hq6]; exact (Below.refl _ _).alloc (Nat.le_refl _) _
      have HB7q6 := Lib.hid (show BoxL q6 q3.heap.size [.slice none 0 0] from box_mk hq6)
      try rw [hq6]
      clear hq6
      have HG7 := Lib.hid (show b < q3.heap.size ∧ w1.heap.size < q3.heap.size ∧ wd.heap.size ≤ q3.heap.size from ⟨by have := HSTq3.out.2.2.2.1.2.2; have := HKK.out; unfold TrK at this; omega, HSTq3.out.2.2.2.1.2.2, HGDq3.out.size⟩)
      have HSTq6 := Lib.hid (HSTq3.out.below hb_)
      have HGDq6 := Lib.hid (grown_below HGDq3.out hb_)
      have HSDq6 := Lib.hid ((HSDq3.out.below hb_ (fun x hx => hx.2)).mono (S' := fun x => w1.heap.size < x ∧ x < q6.heap.size ∧ x ≠ q3.heap.size) (fun x hx => ⟨hx.1, by have := hb_.size; omega, by omega⟩) (fun _ _ _ _ hu => hu))
      clear hb_
      refine hK.out _ _ HSTq6.out.2.2.2.1 (fun _ => ?_)
      clear hK K
      try simp only [Act.put, List.setIfInBounds_toArray, List.set_cons_zero, List.set_cons_succ]
      refine wpAnyH_ready (rs := [4]) (by kernel_rfl) (by simp) ?_
      refine AllReadyH.cons (o := ⟨some 22, .call ⟨_, _, _⟩, _, _, _, _⟩) rfl (fun K hK => ?_) (AllReadyH.nil)
      have HSO := Lib.hid (show SlS q6 (fun x => w1.heap.size < x ∧ x < q6.heap.size ∧ x ≠ q3.heap.size) A c L from ((HSTd.out.2.2.2.2.tape HGDq6.out (fun x hx => by have := HKK.out; unfold TrK at this; omega))).mono (fun x hx => ⟨hx.1, by have := HGDq6.out.size; omega, by have := HG7.out; omega⟩) (fun _ _ _ _ hu => hu))
      go_simp
      go_at_call 38
      refine (RInsert_any A c L d A2 c2 (fun x => w1.heap.size < x ∧ x < q6.heap.size ∧ x ≠ q3.heap.size) _ HSO.out (fun x hx => hx.2.1) HFEW.out.ok HSDq6.out HVT.out (HOK.out.tape HSTq6.out.2.1 HNG.out)).mono ?_
      rintro e' q7 ⟨hb_, v, rfl, hown_⟩
      obtain ⟨A3, c3, hv_, hsl_⟩ := hown_.cs
      subst hv_
      have HSTq7 := Lib.hid (HSTq6.out.below hb_)
      have HGDq7 := Lib.hid (grown_below HGDq6.out hb_)
      have HB7q7 := Lib.hid (HB7q6.out.kept (grown_none hb_) (fun e => by cases e))
      have HSI := Lib.hid (show SlS q7 (fun x => w1.heap.size < x ∧ x < q7.heap.size ∧ x ≠ q3.heap.size) A3 c3 (insR L d) from hsl_.mono (fun x hx => ⟨by rcases hx.1 with h | h; exact h.1; have := HSTq6.out.2.2.2.1.2.2; omega, hx.2, by rcases hx.1 with h | h; exact h.2.2; have := HB7q6.out.2.2; omega⟩) (fun _ _ _ _ hu => hu))
      clear hb_ hown_ hsl_ HSO
      refine hK.out _ _ HSTq7.out.2.2.2.1 (fun _ => ?_)
      clear hK K
      try simp only [Act.put, List.setIfInBounds_toArray, List.set_cons_zero, List.set_cons_succ]
      refine wpAnyH_take (i := 5) (oi := ⟨some 17, _, _, _, _, _⟩) (v := .tuple #[.agg #[.slice A3 (insR L d).length c3], .int .i64 (insE L d)]) rfl (by kernel_rfl) (by kernel_rfl) (by kernel_rfl) (fun _ _ _ h => h) (Or.inl ⟨by rfl, fun w' hS => by go_simp⟩) HSTq7.out.2.2.2.1 ?_
      try simp only [Act.put, List.setIfInBounds_toArray, List.set_cons_zero, List.set_cons_succ]
      refine wpAnyH_take (i := 6) (oi := ⟨some 23, _, _, _, _, _⟩) (v := .agg #[.slice A3 (insR L d).length c3]) rfl (by kernel_rfl) (by kernel_rfl) (by kernel_rfl) (fun _ _ _ h => h) (Or.inl ⟨by rfl, fun w' hS => by go_simp⟩) HSTq7.out.2.2.2.1 ?_
      try simp only [Act.put, List.setIfInBounds_toArray, List.set_cons_zero, List.set_cons_succ]
      refine wpAnyH_take (i := 7) (oi := ⟨some 24, _, _, _, _, _⟩) (v := .int .i64 (insE L d)) rfl (by kernel_rfl) (by kernel_rfl) (by kernel_rfl) (fun _ _ _ h => h) (Or.inl ⟨by rfl, fun w' hS => by go_simp⟩) HSTq7.out.2.2.2.1 ?_
      try simp only [Act.put, List.setIfInBounds_toArray, List.set_cons_zero, List.set_cons_succ]
      have c7 := HB7q7.out.1 0 _ rfl; have c7f := HB7q7.out.2.1
      have HSF := Lib.hid (show ∀ (A' : Option Addr) (c' : Nat) (L' : List Dev), SlS q7 (fun x => w1.heap.size < x ∧ x < q7.heap.size ∧ x ≠ q3.heap.size) A' c' L' → SlS (q7.setCell ⟨q3.heap.size, 0, none⟩ (.slice A3 (insR L d).length c3)) (fun x => w1.heap.size < x ∧ x < (q7.setCell ⟨q3.heap.size, 0, none⟩ (.slice A3 (insR L d).length c3)).heap.size) A' c' L' from fun A' c' L' h => (h.set_ (fun x hx => hx.2.2) _).mono (fun x hx => ⟨hx.1, by simpa using hx.2.1⟩) (fun _ _ _ _ hu => hu))
      have HTF := Lib.hid (show TrSt w B b xs k2 w.heap.size w1.heap.size A c L (q7.setCell ⟨q3.heap.size, 0, none⟩ (.slice A3 (insR L d).length c3)) from ⟨HSTq7.out.1.set_ (by have := HG7.out; omega) (by have := HG7.out; have := HBW.out; omega) _, grown_set HSTq7.out.2.1 (by have := HG7.out; have := HKK.out; unfold TrK at this; omega) _, HSTq7.out.2.2.1.far (by have := HG7.out; have := HKK.out; unfold TrK at this; omega) _, HSTq7.out.2.2.2.1.far (by have := HG7.out; omega) _, HSF.out _ _ _ (((HSTd.out.2.2.2.2.tape HGDq7.out (fun x hx => by have := HKK.out; unfold TrK at this; omega))).mono (fun x hx => ⟨hx.1, by have := HGDq7.out.size; omega, by have := HG7.out; omega⟩) (fun _ _ _ _ hu => hu))⟩)
      have HCF := Lib.hid (show BoxL (q7.setCell ⟨q3.heap.size, 0, none⟩ (.slice A3 (insR L d).length c3)) q3.heap.size [.slice A3 (insR L d).length c3] from HB7q7.out.set_ (j := 0) (by simp) _)
      have HSN := Lib.hid (HSF.out _ _ _ HSI.out)
      refine wpAnyH_ready (rs := [9]) (by kernel_rfl) (by simp) ?_
      refine AllReadyH.cons (o := ⟨none, .store _ _ _, _, _, _, _⟩) rfl (fun K hK => ?_) AllReadyH.nil
      go_simp
      refine hK.out _ _ HTF.out.2.2.2.1 (fun _ => ?_)
      clear hK K
      try simp only [Act.put, List.setIfInBounds_toArray, List.set_cons_zero, List.set_cons_succ]
      refine wpAnyH_take (i := 10) (oi := ⟨some 8, _, _, _, _, _⟩) (v := .int .i64 (insE L d)) rfl (by kernel_rfl) (by kernel_rfl) (by kernel_rfl) (fun _ _ _ h => h) (Or.inl ⟨by rfl, fun w' hS => by go_simp⟩) HTF.out.2.2.2.1 ?_
      try simp only [Act.put, List.setIfInBounds_toArray, List.set_cons_zero, List.set_cons_succ]
      refine wpAnyH_done (by kernel_rfl) ?_ _
      go_wp2_with fail
      go_meet
      exact ⟨q3.heap.size, d, rfl, rfl, ⟨k2, A3, c3, HK2.out, HTF.out, HSN.out, HCF.out.1 0 _ rfl⟩⟩
    ·
     go_simp
     obtain ⟨q8, hq8⟩ : ∃ z, wd.alloc (.cells #[.slice none 0 0] 28) = z := ⟨_, rfl⟩
     have hb_ : Below wd.heap.size wd q8 := by rw [← hq8]; exact (Below.refl _ _).alloc (Nat.le_refl _) _
     have HB7q8 := Lib.hid (show BoxL q8 wd.heap.size [.slice none 0 0] from box_mk hq8)
     try rw [hq8]
     clear hq8
     have HG7 := Lib.hid (show b < wd.heap.size ∧ w1.heap.size < wd.heap.size ∧ wd.heap.size ≤ wd.heap.size from ⟨by have := HSTd.out.2.2.2.1.2.2; have := HKK.out; unfold TrK at this; omega, HSTd.out.2.2.2.1.2.2, HGDd.out.size⟩)
     have HSTq8 := Lib.hid (HSTd.out.below hb_)
     have HGDq8 := Lib.hid (grown_below HGDd.out hb_)
     clear hb_
     refine hK.out _ _ HSTq8.out.2.2.2.1 (fun _ => ?_)
     clear hK K
     try simp only [Act.put, List.setIfInBounds_toArray, List.set_cons_zero, List.set_cons_succ]
     refine wpAnyH_ready (rs := [3]) (by kernel_rfl) (by simp) ?_
     refine AllReadyH.cons (o := ⟨some 21, .call ⟨_, _, _⟩, _, _, _, _⟩) rfl (fun K hK => ?_) (AllReadyH.nil)
     go_simp
     go_at_call 39
     refine (Device_any xs k' B b A c L _ _ (by have := HK.out; have := HKX.out; omega) HSTq8.out.1 (HSTq8.out.treeIn HKK.out) (fun d hd => (HVT.out.small d hd).2) (by have := HLL.out; omega)).mono ?_
     rintro e' q9 ⟨d, A2, c2, k2, rfl, hfew_, hsl_, hk2_, ht_, hg_⟩
     have HSTq9 := Lib.hid (HSTq8.out.tape HKK.out ht_ hg_); have HFEW := Lib.hid hfew_; have HK2 := Lib.hid hk2_
     have HGDq9 := Lib.hid (grown_trans HGDq8.out hg_)
     have HB7q9 := Lib.hid (HB7q8.out.kept hg_ (fun e => by have := Option.some.inj e; have := HG7.out; omega))
     have HSDq9 := Lib.hid (show SlS q9 (fun x => w1.heap.size < x ∧ x < q9.heap.size ∧ x ≠ wd.heap.size) A2 c2 d.attrs from hsl_.mono (fun x hx => ⟨by have := HSTq8.out.2.2.2.1.2.2; omega, hx.2, by have := HB7q8.out.2.2; omega⟩) (fun _ _ _ _ hu => hu))
     clear hfew_ hsl_ hk2_ ht_ hg_
     refine hK.out _ _ HSTq9.out.2.2.2.1 (fun _ => ?_)
     clear hK K
     try simp only [Act.put, List.setIfInBounds_toArray, List.set_cons_zero, List.set_cons_succ]
     refine wpAnyH_ready (rs := [4]) (by kernel_rfl) (by simp) ?_
     refine AllReadyH.cons (o := ⟨some 22, .call ⟨_, _, _⟩, _, _, _, _⟩) rfl (fun K hK => ?_) (AllReadyH.nil)
     have HSO := Lib.hid (show SlS q9 (fun x => w1.heap.size < x ∧ x < q9.heap.size ∧ x ≠ wd.heap.size) A c L from ((HSTd.out.2.2.2.2.tape HGDq9.out (fun x hx => by have := HKK.out; unfold TrK at this; omega))).mono (fun x hx => ⟨hx.1, by have := HGDq9.out.size; omega, by have := HG7.out; omega⟩) (fun _ _ _ _ hu => hu))
     go_simp
     go_at_call 38
     refine (RInsert_any A c L d A2 c2 (fun x => w1.heap.size < x ∧ x < q9.heap.size ∧ x ≠ wd.heap.size) _ HSO.out (fun x hx => hx.2.1) HFEW.out.ok HSDq9.out HVT.out (HOK.out.tape HSTq9.out.2.1 HNG.out)).mono ?_
     rintro e' q10 ⟨hb_, v, rfl, hown_⟩
     obtain ⟨A3, c3, hv_, hsl_⟩ := hown_.cs
     subst hv_
     have HSTq10 := Lib.hid (HSTq9.out.below hb_)
     have HGDq10 := Lib.hid (grown_below HGDq9.out hb_)
     have HB7q10 := Lib.hid (HB7q9.out.kept (grown_none hb_) (fun e => by cases e))
     have HSI := Lib.hid (show SlS q10 (fun x => w1.heap.size < x ∧ x < q10.heap.size ∧ x ≠ wd.heap.size) A3 c3 (insR L d) from hsl_.mono (fun x hx => ⟨by rcases hx.1 with h | h; exact h.1; have := HSTq9.out.2.2.2.1.2.2; omega, hx.2, by rcases hx.1 with h | h; exact h.2.2; have := HB7q9.out.2.2; omega⟩) (fun _ _ _ _ hu => hu))
     clear hb_ hown_ hsl_ HSO
     refine hK.out _ _ HSTq10.out.2.2.2.1 (fun _ => ?_)
     clear hK K
     try simp only [Act.put, List.setIfInBounds_toArray, List.set_cons_zero, List.set_cons_succ]
     refine wpAnyH_take (i := 5) (oi := ⟨some 17, _, _, _, _, _⟩) (v := .tuple #[.agg #[.slice A3 (insR L d).length c3], .int .i64 (insE L d)]) rfl (by kernel_rfl) (by kernel_rfl) (by kernel_rfl) (fun _ _ _ h => h) (Or.inl ⟨by rfl, fun w' hS => by go_simp⟩) HSTq10.out.2.2.2.1 ?_
     try simp only [Act.put, List.setIfInBounds_toArray, List.set_cons_zero, List.set_cons_succ]
     refine wpAnyH_take (i := 6) (oi := ⟨some 23, _, _, _, _, _⟩) (v := .agg #[.slice A3 (insR L d).length c3]) rfl (by kernel_rfl) (by kernel_rfl) (by kernel_rfl) (fun _ _ _ h => h) (Or.inl ⟨by rfl, fun w' hS => by go_simp⟩) HSTq10.out.2.2.2.1 ?_
     try simp only [Act.put, List.setIfInBounds_toArray, List.set_cons_zero, List.set_cons_succ]
     refine wpAnyH_take (i := 7) (oi := ⟨some 24, _, _, _, _, _⟩) (v := .int .i64 (insE L d)) rfl (by kernel_rfl) (by kernel_rfl) (by kernel_rfl) (fun _ _ _ h => h) (Or.inl ⟨by rfl, fun w' hS => by go_simp⟩) HSTq10.out.2.2.2.1 ?_
     try simp only [Act.put, List.setIfInBounds_toArray, List.set_cons_zero, List.set_cons_succ]
     have c7 := HB7q10.out.1 0 _ rfl; have c7f := HB7q10.out.2.1
     have HSF := Lib.hid (show ∀ (A' : Option Addr) (c' : Nat) (L' : List Dev), SlS q10 (fun x => w1.heap.size < x ∧ x < q10.heap.size ∧ x ≠ wd.heap.size) A' c' L' → SlS (q10.setCell ⟨wd.heap.size, 0, none⟩ (.slice A3 (insR L d).length c3)) (fun x => w1.heap.size < x ∧ x < (q10.setCell ⟨wd.heap.size, 0, none⟩ (.slice A3 (insR L d).length c3)).heap.size) A' c' L' from fun A' c' L' h => (h.set_ (fun x hx => hx.2.2) _).mono (fun x hx => ⟨hx.1, by simpa using hx.2.1⟩) (fun _ _ _ _ hu => hu))
     have HTF := Lib.hid (show TrSt w B b xs k2 w.heap.size w1.heap.size A c L (q10.setCell ⟨wd.heap.size, 0, none⟩ (.slice A3 (insR L d).length c3)) from ⟨HSTq10.out.1.set_ (by have := HG7.out; omega) (by have := HG7.out; have := HBW.out; omega) _, grown_set HSTq10.out.2.1 (by have := HG7.out; have := HKK.out; unfold TrK at this; omega) _, HSTq10.out.2.2.1.far (by have := HG7.out; have := HKK.out; unfold TrK at this; omega) _, HSTq10.out.2.2.2.1.far (by have := HG7.out; omega) _, HSF.out _ _ _ (((HSTd.out.2.2.2.2.tape HGDq10.out (fun x hx => by have := HKK.out; unfold TrK at this; omega))).mono (fun x hx => ⟨hx.1, by have := HGDq10.out.size; omega, by have := HG7.out; omega⟩) (fun _ _ _ _ hu => hu))⟩)
     have HCF := Lib.hid (show BoxL (q10.setCell ⟨wd.heap.size, 0, none⟩ (.slice A3 (insR L d).length c3)) wd.heap.size [.slice A3 (insR L d).length c3] from HB7q10.out.set_ (j := 0) (by simp) _)
     have HSN := Lib.hid (HSF.out _ _ _ HSI.out)
     refine wpAnyH_ready (rs := [9]) (by kernel_rfl) (by simp) ?_
     refine AllReadyH.cons (o := ⟨none, .store _ _ _, _, _, _, _⟩) rfl (fun K hK => ?_) AllReadyH.nil
     go_simp
     refine hK.out _ _ HTF.out.2.2.2.1 (fun _ => ?_)
     clear hK K
     try simp only [Act.put, List.setIfInBounds_toArray, List.set_cons_zero, List.set_cons_succ]
     refine wpAnyH_take (i := 10) (oi := ⟨some 8, _, _, _, _, _⟩) (v := .int .i64 (insE L d)) rfl (by kernel_rfl) (by kernel_rfl) (by kernel_rfl) (fun _ _ _ h => h) (Or.inl ⟨by rfl, fun w' hS => by go_simp⟩) HTF.out.2.2.2.1 ?_
     try simp only [Act.put, List.setIfInBounds_toArray, List.set_cons_zero, List.set_cons_succ]
     refine wpAnyH_done (by kernel_rfl) ?_ _
     go_wp2_with fail
     go_meet
     exact ⟨wd.heap.size, d, rfl, rfl, ⟨k2, A3, c3, HK2.out, HTF.out, HSN.out, HCF.out.1 0 _ rfl⟩⟩
   case rest =>
   obtain ⟨g7, d, rfl, rfl, hq⟩ := hcut
   obtain ⟨k2, A3, c3, hk2, hst, hsl, hc7⟩ := hq.out
   clear hq HST
   have HK2 := Lib.hid hk2; have HST := Lib.hid hst; have HSL := Lib.hid hsl; have HC7 := Lib.hid hc7; clear hk2 hst hsl hc7
   obtain ⟨z, hz⟩ : ∃ z, insE L d = z := ⟨_, rfl⟩
   rw [hz]
   have HZ := Lib.hid hz; clear hz
   by_cases h0 : z = 0
   ·
    have e0 : (z == 0) = true := beq_iff_eq.2 h0
    have HVN := Lib.hid (VT_tree HVT.out (by rw [HZ.out, h0])); clear h0
    have c7 := HC7.out; have t0 := HST.out.2.2.2.1.1 0 _ rfl; have tf := HST.out.2.2.2.1.2.1
    have HSN := Lib.hid (HST.out.put HKK.out HSL.out)
    go_wp2
    go_roundw
    case rel => exact ⟨j - 1, insR L d, A3, c3, k2, by first | rfl | go_num, ⟨by omega, by omega, by rw [HVN.out.2]; push_cast; omega⟩, HVN.out.1, by have := HKB.out; have := HK2.out; show (k2 : Int) + 31 * (j - 1) ≤ _; omega, HSN⟩
    case measure => simp [intOf]; omega
   ·
    have e0 : (z == 0) = false := beq_eq_false_iff_ne.2 h0
    clear h0
    go_wp2
    go_roundw
    case rel => exact ⟨j - 1, L, A, c, k2, by first | rfl | go_num, ⟨by omega, by omega, by omega⟩, HVT.out, by have := HKB.out; have := HK2.out; show (k2 : Int) + 31 * (j - 1) ≤ _; omega, HST⟩
    case measure => simp [intOf]; omega
  ·
   have t0 := HST.out.2.2.2.1.1 0 _ rfl; have r0 := HST.out.2.2.1.1 0 _ rfl; have rf := HST.out.2.2.1.2.1
   go_wp2
   refine bodyPost_ret (v := .agg #[.slice A L.length c]) (by simp [results, Tryz.results10, go_sem, r0, rf]) rfl ⟨A, c, L, k', rfl, HVT.out, by omega, ?_, by have := HKX.out; omega, HST.out.1.set_ (by have := HBW.out; omega) (by have := HBW.out; omega) _, grown_set HST.out.2.1 (Nat.le_refl _) _⟩
   exact (HST.out.2.2.2.2.set_ (fun x hx => by have := HGw1.out; omega) _).mono (fun x hx => ⟨by have := HGw1.out; omega, by simpa using hx.2⟩) (fun _ _ _ _ hu => hu)
def SomePost (xs : List Int) (k B b : Nat) (w : World) (e : Ending) (w' : World) : Prop := ∃ (n : Int) (k' : Nat), e = .returned (.int .i64 n) ∧ (-1 ≤ n ∧ n ≤ 1073741824) ∧ k' ≤ k + 2 ∧ TapeAt w' B b xs k' ∧ w.grownBy w' (some b)
set_option maxRecDepth 100000 in
set_option maxHeartbeats 4000000 in
theorem Some_any (xs : List Int) (k B b : Nat) (A : Option Addr) (c : Nat) (L : List Dev) (S : Nat → Prop) (w : World) (hk : k ≤ 2 ^ 38) (ht : TapeAt w B b xs k) (htr : TreeIn w b S A c L) (hL : ∀ d ∈ L, 0 ≤ d.idx ∧ d.idx ≤ 1073741824) (hll : L.length ≤ 1000) : Calls Tryz.prog 16 #[.pointer (some ⟨b, 0, none⟩), .agg #[.slice A L.length c]] w (SomePost xs k B b w) := by
 have HT := Lib.hid ht; have HK := Lib.hid hk; have HTR := Lib.hid htr; have HL := Lib.hid hL; have HLL := Lib.hid hll
 have hx1 := htr.sl.1; have hx2 := htr.sl.2.1
 unfold maxLen at hx2
 clear ht hk htr hL hll
 have HBW := Lib.hid (show b < w.heap.size ∧ B ≤ b by obtain ⟨_, _, _, _, _, _, h1, h2⟩ := HT.out; exact ⟨h2, h1⟩)
 go_enter Tryz.func16, Tryz.ntmps16
 go_upto_region 1 with fail
 obtain ⟨w1, hw1⟩ : ∃ w1, w.alloc (.cells #[.slice A L.length c] 28) = w1 := ⟨_, rfl⟩
 have hbw1 : Below w.heap.size w w1 := by rw [← hw1]; exact (Below.refl _ _).alloc (Nat.le_refl _) _
 have HGw1 := Lib.hid (show w1.heap.size = w.heap.size + 1 by rw [← hw1]; simp)
 have HXtw1 := Lib.hid (show BoxL w1 w.heap.size [.slice A L.length c] from box_mk hw1)
 try simp only [hw1]
 have HBw1 := Lib.hid hbw1
 clear hw1 hbw1
 try rw [show w.heap.size + 1 = w1.heap.size from HGw1.out.symm]
 have ct0 := HXtw1.out.1 0 _ rfl
 have HT1 := Lib.hid (HT.out.kept (grown_none HBw1.out) (fun e => by cases e) (fun g e => by cases e)); have HG1 := Lib.hid (grown_any (row := some b) HBw1.out)
 by_cases hn : 0 < L.length
 ·
  have i1 : (0 : Int) < (L.length : Int) := by omega
  go_wp2_with fail
  refine (Next_lit 8 xs k B b _ (by have := HK.out; omega) HT1.out (by omega) (by omega)).mono ?_
  rintro e v2 ⟨f, hf0, hf1, rfl, ht_, hg_⟩
  have HT2 := Lib.hid ht_; have HG2 := Lib.hid (grown_trans HG1.out hg_); have HX2 := Lib.hid (HXtw1.out.kept hg_ (fun e => by have := Option.some.inj e; have := HBW.out.1; omega)); clear ht_ hg_
  by_cases hf : 0 < f
  ·
   clear ct0
   go_wp2_with fail
   have HL1 := Lib.hid (show (L.length : Int) ≤ 1000000 by have := HLL.out; omega); have HL2 := Lib.hid (show (1 : Int) ≤ (L.length : Int) by omega); have HKX := Lib.hid (show k + 1 ≤ 2 ^ 40 by have := HK.out; omega)
   refine wp_region_held_drew (S := fun w' => BoxL w' w.heap.size [.slice A L.length c]) (by kernel_rfl) HX2.out.drew (fun hS0 => ?_)
   obtain ⟨wd, hwd⟩ : ∃ z, v2.drew = z := ⟨_, rfl⟩
   have hb_ : Below v2.heap.size v2 wd := by rw [← hwd]; exact below_drewN_self _ _ 1
   have HTd := Lib.hid (HT2.out.kept (grown_none hb_) (fun e => by cases e) (fun g e => by cases e)); have HGd := Lib.hid (grown_below HG2.out hb_)
   rw [hwd] at hS0 ⊢
   have HS0 := Lib.hid hS0
   clear hwd hb_ hS0
   refine wpAnyH_take (i := 0) (oi := ⟨some 16, _, _, _, _, _⟩) (v := .pointer (some ⟨w.heap.size, 0, none⟩)) rfl (by kernel_rfl) (by kernel_rfl) (by kernel_rfl) (fun _ _ _ h => h) (Or.inl ⟨by rfl, fun w' hS => by go_simp⟩) HS0.out ?_
   try simp only [Act.put, List.setIfInBounds_toArray, List.set_cons_zero, List.set_cons_succ]
   refine wpAnyH_take (i := 1) (oi := ⟨some 17, _, _, _, _, _⟩) (v := .slice A L.length c) rfl (by kernel_rfl) (by kernel_rfl) (by kernel_rfl) (fun _ _ _ h => h) (Or.inl ⟨by rfl, fun w' hS => by (have u := hS.1 0 _ rfl; go_simp)⟩) HS0.out ?_
   try simp only [Act.put, List.setIfInBounds_toArray, List.set_cons_zero, List.set_cons_succ]
   refine wpAnyH_take (i := 2) (oi := ⟨some 18, _, _, _, _, _⟩) (v := .pointer (some ⟨b, 0, none⟩)) rfl (by kernel_rfl) (by kernel_rfl) (by kernel_rfl) (fun _ _ _ h => h) (Or.inl ⟨by rfl, fun w' hS => by go_simp⟩) HS0.out ?_
   try simp only [Act.put, List.setIfInBounds_toArray, List.set_cons_zero, List.set_cons_succ]
   refine wpAnyH_take (i := 3) (oi := ⟨some 19, _, _, _, _, _⟩) (v := .int .i64 L.length) rfl (by kernel_rfl) (by kernel_rfl) (by kernel_rfl) (fun _ _ _ h => h) (Or.inl ⟨by rfl, fun w' hS => by go_simp⟩) HS0.out ?_
   try simp only [Act.put, List.setIfInBounds_toArray, List.set_cons_zero, List.set_cons_succ]
   refine wpAnyH_ready (rs := [4]) (by kernel_rfl) (by simp) ?_
   refine AllReadyH.cons (o := ⟨some 20, .call ⟨_, _, _⟩, _, _, _, _⟩) rfl (fun K hK => ?_) AllReadyH.nil
   go_simp
   go_at_call 37
   refine (Next_lit (L.length : Int) xs (k + 1) B b _ HKX.out HTd.out HL2.out HL1.out).mono ?_
   rintro e' v4 ⟨m, hm0, hm1, rfl, ht_, hg_⟩
   have HT4 := Lib.hid ht_; have HG4 := Lib.hid (grown_trans HGd.out hg_); have HS4 := Lib.hid (HS0.out.kept hg_ (fun e => by have := Option.some.inj e; have := HBW.out.1; omega)); clear ht_ hg_
   refine hK.out _ _ HS4.out (fun _ => ?_)
   clear hK K
   try simp only [Act.put, List.setIfInBounds_toArray, List.set_cons_zero, List.set_cons_succ]
   obtain ⟨m, rfl⟩ := Int.eq_ofNat_of_zero_le hm0
   have hml : m < L.length := by omega
   have i3 : (m : Int) < (L.length : Int) := by omega
   obtain ⟨b3, o3, rfl, hb3, A2, c2, -, -, hdc⟩ := (HTR.out.tape HG4.out).out.dev hml
   obtain ⟨y, hy⟩ : ∃ y, L[m]'hml = y := ⟨_, rfl⟩
   have hyb := HL.out _ (List.getElem_mem hml)
   rw [hy] at hyb hdc
   have y0 := hdc.1
   have HYB := Lib.hid hyb; clear hdc hy hyb hm1
   refine wpAnyH_take (i := 5) (oi := ⟨some 21, _, _, _, _, _⟩) (v := .pointer (some ⟨b3, o3 + m * 10, none⟩)) rfl (by kernel_rfl) (by kernel_rfl) (by kernel_rfl) (fun _ _ _ h => h) (Or.inl ⟨by rfl, fun w' hS => by go_simp⟩) HS4.out ?_
   try simp only [Act.put, List.setIfInBounds_toArray, List.set_cons_zero, List.set_cons_succ]
   refine wpAnyH_take (i := 6) (oi := ⟨some 22, _, _, _, _, _⟩) (v := .pointer (some ⟨b3, o3 + m * 10, none⟩)) rfl (by kernel_rfl) (by kernel_rfl) (by kernel_rfl) (fun _ _ _ h => h) (Or.inl ⟨by rfl, fun w' hS => by go_simp⟩) HS4.out ?_
   try simp only [Act.put, List.setIfInBounds_toArray, List.set_cons_zero, List.set_cons_succ]
   refine wpAnyH_ready (rs := [7]) (by kernel_rfl) (by simp) ?_
   refine AllReadyH.cons (o := ⟨some 23, .load _ _, _, _, _, _⟩) rfl (fun K hK => ?_) AllReadyH.nil
   go_simp
   refine hK.out _ _ HS4.out (fun _ => ?_)
   clear hK K
   try simp only [Act.put, List.setIfInBounds_toArray, List.set_cons_zero, List.set_cons_succ]
   refine wpAnyH_take (i := 8) (oi := ⟨some 4, _, _, _, _, _⟩) (v := .int .i64 y.idx) rfl (by kernel_rfl) (by kernel_rfl) (by kernel_rfl) (fun _ _ _ h => h) (Or.inl ⟨by rfl, fun w' hS => by go_simp⟩) HS4.out ?_
   try simp only [Act.put, List.setIfInBounds_toArray, List.set_cons_zero, List.set_cons_succ]
   refine wpAnyH_done (by kernel_rfl) ?_ _
   go_wp2
   go_ret
   exact ⟨y.idx, k + 1 + 1, rfl, ⟨by have := HYB.out; omega, by have := HYB.out; omega⟩, by omega, HT4.out, HG4.out⟩
  ·
   go_wp2_with fail
   refine (Next_lit 40 xs (k + 1) B b _ (by have := HK.out; omega) HT2.out (by omega) (by omega)).mono ?_
   rintro e v3 ⟨z, hz0, hz1, rfl, ht_, hg_⟩
   have HT3 := Lib.hid ht_; have HG3 := Lib.hid (grown_trans HG2.out hg_); clear ht_ hg_
   go_wp2
   go_ret
   exact ⟨z - 1, k + 1 + 1, rfl, ⟨by omega, by omega⟩, by omega, HT3.out, HG3.out⟩
 ·
  have i1 : ¬ (0 : Int) < (L.length : Int) := by omega
  go_wp2_with fail
  refine (Next_lit 40 xs (k) B b _ (by have := HK.out; omega) HT1.out (by omega) (by omega)).mono ?_
  rintro e v3 ⟨z, hz0, hz1, rfl, ht_, hg_⟩
  have HT3 := Lib.hid ht_; have HG3 := Lib.hid (grown_trans HG1.out hg_); clear ht_ hg_
  go_wp2
  go_ret
  exact ⟨z - 1, k + 1, rfl, ⟨by omega, by omega⟩, by omega, HT3.out, HG3.out⟩
end Go.Proofs.YtjgllhlilbchpaaGreatDoor
