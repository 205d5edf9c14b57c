/-
  The walks of coldplugworld: Tree and Some.
-/
import Derived.Test.YtjpoljlgkgmdkaaGreatDoorYG
import Derived.Test.YtjpoljlgkgmdkaaGreatDoorYC
import Derived.RangeFuncNested
import Derived.RangeFuncBound
import Derived.RangeFuncCalls
import Derived.RangeFuncLeaves
import Derived.Shelf.RegionOpen
import Derived.OwnWalkIn
import Derived.TacticsInMore
import Derived.LoopNIn
import Derived.LoopIn
import Derived.Test.YtjpoljlgkgmdkaaGreatDoorYA
import Derived.Maps.OwnIn
import Derived.Lib.ItoaNum
import Derived.Test.YtjpoljlgkgmdkaaGreatDoorYB
import Derived.Lib.AtoiAllCases
import Derived.Lib.AppendIntMem
import Derived.Test.YtjpoljlgkgmdkaaGreatDoorCards
import Derived.Test.YtjpoljlgkgmdkaaGreatDoorTie
import Derived.ProofKit
import Derived.OpenShut
import Derived.Below
import Derived.ChangeSame
import Derived.Deep.DeepHandedRow
import Derived.Lay
import Derived.SevenTiedAt
import Derived.SliceStrings
import Derived.WideKeyArgs
import Derived.Stop.LaidErr
import Derived.ChangeSlices
set_option linter.unusedSimpArgs false
set_option linter.unusedVariables false
namespace Go.Cold
open Go Go.RowKit
def TrSt (w0 : World) (B b : Nat) (xs : List Int) (k g4 g5 : Nat) (A : Option Addr) (c : Nat) (L : List Dev) (w : World) : Prop :=
 TapeAt w B b xs k ∧ w0.grownBy w (some b) ∧ BoxL w g4 [.slice none 0 0] ∧ BoxL w g5 [.slice A L.length c] ∧ SlS w (fun x => g5 < x ∧ x < w.heap.size) A c L
def TrK (w0 : World) (B b g4 g5 : Nat) : Prop := b < w0.heap.size ∧ B ≤ b ∧ w0.heap.size ≤ g4 ∧ g4 < g5
section
variable {w0 w w' : World} {B b k k' g4 g5 c : Nat} {xs : List Int} {A : Option Addr} {L : List Dev}
theorem TrSt.tape (h : TrSt w0 B b xs k g4 g5 A c L w) (K : TrK w0 B b g4 g5) (ht : TapeAt w' B b xs k') (hg : w.grownBy w' (some b)) : TrSt w0 B b xs k' g4 g5 A c L w' := by
 obtain ⟨h1, h2, h3, h4, h5⟩ := h
 obtain ⟨a1, a2, a3, a4⟩ := K
 exact ⟨ht, grown_trans h2 hg, h3.kept hg (fun e => by have := Option.some.inj e; omega), h4.kept hg (fun e => by have := Option.some.inj e; omega),
  h5.mono (fun x hx => ⟨hx.1, by have := hg.size; omega⟩) (fun x o u hx hu => hg.cell hu (fun e => by have h : x = b := Option.some.inj e; omega))⟩
theorem TrSt.below (h : TrSt w0 B b xs k g4 g5 A c L w) (hb : Below w.heap.size w w') : TrSt w0 B b xs k g4 g5 A c L w' := by
 obtain ⟨h1, h2, h3, h4, h5⟩ := h
 exact ⟨h1.kept (grown_none hb) (fun e => by cases e) (fun g e => by cases e), grown_below h2 hb, h3.kept (grown_none hb) (fun e => by cases e), h4.kept (grown_none hb) (fun e => by cases e),
  h5.mono (fun x hx => ⟨hx.1, by have := hb.size; omega⟩) (fun x o u hx hu => (hb.cell (p := ⟨x, o, none⟩) (by exact hx.2)).trans hu)⟩
theorem TrSt.drew (h : TrSt w0 B b xs k g4 g5 A c L w) : TrSt w0 B b xs k g4 g5 A c L w.drew := h.below (below_drewN_self w _ 1)
theorem TrSt.put {A' : Option Addr} {c' : Nat} {L' : List Dev} (h : TrSt w0 B b xs k g4 g5 A c L w) (K : TrK w0 B b g4 g5) (hs : SlS w (fun x => g5 < x ∧ x < w.heap.size) A' c' L') : TrSt w0 B b xs k g4 g5 A' c' L' (w.setCell ⟨g5, 0, none⟩ (.slice A' L'.length c')) := by
 obtain ⟨h1, h2, h3, h4, h5⟩ := h
 obtain ⟨a1, a2, a3, a4⟩ := K
 exact ⟨h1.set_ (by omega) (by omega) _, grown_set h2 (by omega) _, h3.far (by omega) _, h4.set_ (j := 0) (by simp) _, (hs.set_ (fun x hx => by omega) _).mono (fun x hx => ⟨hx.1, by simpa using hx.2⟩) (fun _ _ _ _ hu => hu)⟩
theorem TrSt.treeIn (h : TrSt w0 B b xs k g4 g5 A c L w) (K : TrK w0 B b g4 g5) : TreeIn w b (fun x => g5 < x ∧ x < w.heap.size) A c L := by
 obtain ⟨a1, a2, a3, a4⟩ := K
 exact ⟨h.2.2.2.2, fun x hx => by omega, fun x hx => hx.2⟩
end
theorem VT_tree {L : List Dev} {d : Dev} (h : VT L) (he : insE L d = 0) : VT (insR L d) ∧ (insR L d).length = L.length + 1 := by
 unfold insR
 rw [if_pos he]
 exact ⟨(ins_VT h he).1, ins_length L d⟩
end Go.Cold
namespace Go.Proofs.YtjpoljlgkgmdkaaGreatDoor
open Go.RowKit Go.Cold
def NotG (b : Nat) : Prop := ¬ b = 0
theorem Ok.tape {w w' : World} {b : Nat} (h : Ok w) (hg : w.grownBy w' (some b)) (hb : NotG b) : Ok w' := by
 obtain ⟨m, hm⟩ := h
 exact ⟨m, hg.cell hm (fun e => hb (Option.some.inj e).symm)⟩
def TreePost (xs : List Int) (k B b : Nat) (n : Int) (w : World) (e : Ending) (w' : World) : Prop := ∃ (A : Option Addr) (c : Nat) (L : List Dev) (k' : Nat), e = .returned (.agg #[.slice A L.length c]) ∧ VT L ∧ (L.length : Int) ≤ n ∧ SlS w' (fun x => w.heap.size ≤ x ∧ x < w'.heap.size) A c L ∧ k' ≤ k + 1000 ∧ TapeAt w' B b xs k' ∧ w.grownBy w' (some b)
def TrCut (w0 : World) (B b : Nat) (xs : List Int) (kx g4 g5 : Nat) (A : Option Addr) (c : Nat) (L : List Dev) (g7 : Nat) (d : Dev) (w : World) : Prop :=
 ∃ (k' : Nat) (A' : Option Addr) (c' : Nat), k' ≤ kx ∧ TrSt w0 B b xs k' g4 g5 A c L w ∧ SlS w (fun x => g5 < x ∧ x < w.heap.size) A' c' (insR L d) ∧ w.cell? ⟨g7, 0, none⟩ = some (.slice A' (insR L d).length c')
theorem info_tree2 : (Tryz.prog.info? 47).map (fun i => (i.zero, i.size)) = some (some (.agg #[.slice none 0 0]), 1) := by kernel_rfl
set_option maxRecDepth 100000 in
set_option maxHeartbeats 8000000 in
theorem Tree_any (xs : List Int) (k B b : Nat) (n : Int) (w : World) (hk : k ≤ 2 ^ 37) (ht : TapeAt w B b xs k) (hn : 0 ≤ n ∧ n ≤ 20) (hok : Ok w) (hng : NotG b) : Calls Tryz.prog 20 #[.pointer (some ⟨b, 0, none⟩), .int .i64 n] w (TreePost xs k B b n w) := by
 have hn1 : 0 ≤ n := hn.1; have hn2 : n ≤ 20 := hn.2
 have HT := Lib.hid ht; have HK := Lib.hid hk; have HOK := Lib.hid hok; have HNG := Lib.hid hng; have HN := Lib.hid hn; clear ht hk hok hng hn
 have HBW := Lib.hid (show b < w.heap.size ∧ B ≤ b by obtain ⟨_, _, _, _, _, _, h1, h2⟩ := HT.out; exact ⟨h2, h1⟩)
 have hzt := (zero_of_info (P := Tryz.prog) (t := 47) info_tree2).1
 go_enter Tryz.func20, Tryz.ntmps20
 go_upto_region 2 with fail
 obtain ⟨w1, hw1⟩ : ∃ w1, w.alloc (.cells #[.slice none 0 0] 47) = w1 := ⟨_, rfl⟩
 have hbw1 : Below w.heap.size w w1 := by rw [← hw1]; exact (Below.refl _ _).alloc (Nat.le_refl _) _
 have HGw1 := Lib.hid (show w1.heap.size = w.heap.size + 1 by rw [← hw1]; simp)
 have HXrw1 := Lib.hid (show BoxL w1 w.heap.size [.slice none 0 0] from box_mk hw1)
 try simp only [hw1]
 have HBw1 := Lib.hid hbw1
 clear hw1 hbw1
 try rw [show w.heap.size + 1 = w1.heap.size from HGw1.out.symm]
 obtain ⟨w2, hw2⟩ : ∃ w2, w1.alloc (.cells #[.slice none 0 0] 47) = w2 := ⟨_, rfl⟩
 have hbw2 : Below w1.heap.size w1 w2 := by rw [← hw2]; exact (Below.refl _ _).alloc (Nat.le_refl _) _
 have HGw2 := Lib.hid (show w2.heap.size = w1.heap.size + 1 by rw [← hw2]; simp)
 have HXtw2 := Lib.hid (show BoxL w2 w1.heap.size [.slice none 0 0] from box_mk hw2)
 try simp only [hw2]
 have HBw2 := Lib.hid (HBw1.out.trans (hbw2.mono HBw1.out.size))
 have rw2 := Lib.hid (HXrw1.out.kept (grown_none hbw2) (fun e => by cases e))
 clear hw2 hbw2
 try rw [show w1.heap.size + 1 = w2.heap.size from HGw2.out.symm]
 have HT2 := Lib.hid (HT.out.kept (grown_none HBw2.out) (fun e => by cases e) (fun g e => by cases e)); have HKK := Lib.hid (show TrK w B b w.heap.size w1.heap.size from ⟨HBW.out.1, HBW.out.2, Nat.le_refl _, by have := HGw1.out; omega⟩)
 have HST := Lib.hid (show TrSt w B b xs (k) w.heap.size w1.heap.size none 0 ([] : List Dev) w2 from ⟨HT2.out, grown_any HBw2.out, rw2.out, HXtw2.out, SlS.nil_⟩)
 go_wp2_with fail
 refine (Next_lit (n + 1) xs k B b _ (by have := HK.out; omega) HT2.out (by omega) (by omega)).mono ?_
 rintro e w3 ⟨m, hm0, hm1, rfl, ht_, hg_⟩
 have HST3 := Lib.hid (HST.out.tape HKK.out ht_ hg_); clear ht_ hg_
 go_wp2_with fail
 go_loopw [6] (fun i wr => ∃ (j : Int) (L : List Dev) (A : Option Addr) (c k' : Nat), i = .int .i64 j ∧ (0 ≤ j ∧ j ≤ n ∧ (L.length : Int) + j ≤ n) ∧ Hid (VT L) ∧ Hid ((k' : Int) + 31 * j ≤ k + 1 + 31 * n) ∧ Hid (TrSt w B b xs (k') w.heap.size w1.heap.size A c L wr)) (fun i _ => (intOf i).toNat)
 case atStart => exact ⟨m, [], none, 0, k + 1, rfl, ⟨hm0, by omega, by simp; omega⟩, VT_nil, by show ((k + 1 : Nat) : Int) + 31 * m ≤ _; omega, HST3⟩
 case round =>
  obtain ⟨j, L, A, c, k', rfl, hj, HVT, HKB, HST⟩ := hrel
  obtain ⟨hj0, hj1, hj2⟩ := hj
  clear HST3 hm0 hm1
  have hk' : k' ≤ k + 1 + 31 * 20 := by have := HKB.out; omega
  have HKX := Lib.hid hk'; clear hk'
  have hll : L.length ≤ 20 := by omega
  have HLL := Lib.hid hll; clear hll
  by_cases hlt : 0 < j
  ·
   go_upto_region 5 with fail
   go_cut [7, 8] (fun s7 s8 wx => ∃ (g7 : Nat) (d : Dev), s7 = .pointer (some ⟨g7, 0, none⟩) ∧ s8 = .int .i64 (insE L d) ∧ Hid (TrCut w B b xs (k' + 30) w.heap.size w1.heap.size A c L g7 d wx))
   case first =>
    refine wp_region_held_drew (S := fun w' => BoxL w' w1.heap.size [.slice A L.length c]) (by kernel_rfl) HST.out.2.2.2.1.drew (fun hS0 => ?_)
    obtain ⟨wd, hwd⟩ : ∃ z, wr.drew = z := ⟨_, rfl⟩
    have HSTd := Lib.hid HST.out.drew
    rw [hwd] at hS0 HSTd ⊢
    clear hwd hS0
    have HGDd := Lib.hid (show wd.grownBy wd (some b) from grown_any (Below.refl _ _))
    refine wpAnyH_take (i := 0) (oi := ⟨some 18, _, _, _, _, _⟩) (v := .agg #[.slice A L.length c]) rfl (by kernel_rfl) (by kernel_rfl) (by kernel_rfl) (fun _ _ _ h => h) (Or.inl ⟨by rfl, fun w' hS => by (have u := hS.1 0 _ rfl; go_simp)⟩) HSTd.out.2.2.2.1 ?_
    try simp only [Act.put, List.setIfInBounds_toArray, List.set_cons_zero, List.set_cons_succ]
    refine wpAnyH_take (i := 2) (oi := ⟨some 20, _, _, _, _, _⟩) (v := .agg #[.slice A L.length c]) rfl (by kernel_rfl) (by kernel_rfl) (by kernel_rfl) (fun _ _ _ h => h) (Or.inl ⟨by rfl, fun w' hS => by (have u := hS.1 0 _ rfl; go_simp)⟩) HSTd.out.2.2.2.1 ?_
    try simp only [Act.put, List.setIfInBounds_toArray, List.set_cons_zero, List.set_cons_succ]
    refine wpAnyH_take (i := 1) (oi := ⟨some 19, _, _, _, _, _⟩) (v := .pointer (some ⟨b, 0, none⟩)) rfl (by kernel_rfl) (by kernel_rfl) (by kernel_rfl) (fun _ _ _ h => h) (Or.inl ⟨by rfl, fun w' hS => by go_simp⟩) HSTd.out.2.2.2.1 ?_
    try simp only [Act.put, List.setIfInBounds_toArray, List.set_cons_zero, List.set_cons_succ]
    refine wpAnyH_ready (rs := [3, 8]) (by kernel_rfl) (by simp) ?_
    refine AllReadyH.cons (o := ⟨some 21, .call ⟨_, _, _⟩, _, _, _, _⟩) rfl (fun K hK => ?_) (AllReadyH.cons (o := ⟨some 7, .alloc _, _, _, _, _⟩) rfl (fun K hK => ?_) (AllReadyH.nil))
    ·
     go_simp
     go_at_call 54
     refine (Device_any xs k' B b A c L _ _ (by have := HK.out; have := HKX.out; omega) HSTd.out.1 (HSTd.out.treeIn HKK.out) (fun d hd => (HVT.out.small d hd).2) (by have := HLL.out; omega)).mono ?_
     rintro e' q3 ⟨d, A2, c2, k2, rfl, hfew_, hsl_, hk2_, ht_, hg_⟩
     have HSTq3 := Lib.hid (HSTd.out.tape HKK.out ht_ hg_); have HFEW := Lib.hid hfew_; have HK2 := Lib.hid hk2_
     have HGDq3 := Lib.hid (grown_trans HGDd.out hg_)
     have HSDq3 := Lib.hid (show SlS q3 (fun x => w1.heap.size < x ∧ x < q3.heap.size) A2 c2 d.attrs from hsl_.mono (fun x hx => ⟨by have := HSTd.out.2.2.2.1.2.2; omega, hx.2⟩) (fun _ _ _ _ hu => hu))
     clear hfew_ hsl_ hk2_ ht_ hg_
     refine hK.out _ _ HSTq3.out.2.2.2.1 (fun _ => ?_)
     clear hK K
     try simp only [Act.put, List.setIfInBounds_toArray, List.set_cons_zero, List.set_cons_succ]
     refine wpAnyH_ready (rs := [4, 8]) (by kernel_rfl) (by simp) ?_
     refine AllReadyH.cons (o := ⟨some 22, .call ⟨_, _, _⟩, _, _, _, _⟩) rfl (fun K hK => ?_) (AllReadyH.cons (o := ⟨some 7, .alloc _, _, _, _, _⟩) rfl (fun K hK => ?_) (AllReadyH.nil))
     ·
      have HSO := Lib.hid (show SlS q3 (fun x => w1.heap.size < x ∧ x < q3.heap.size) A c L from ((HSTd.out.2.2.2.2.tape HGDq3.out (fun x hx => by have := HKK.out; unfold TrK at this; omega))).mono (fun x hx => ⟨hx.1, by have := HGDq3.out.size; omega⟩) (fun _ _ _ _ hu => hu))
      go_simp
      go_at_call 53
      refine (RInsert_any A c L d A2 c2 (fun x => w1.heap.size < x ∧ x < q3.heap.size) _ HSO.out (fun x hx => hx.2) HFEW.out.ok HSDq3.out HVT.out (HOK.out.tape HSTq3.out.2.1 HNG.out)).mono ?_
      rintro e' q4 ⟨hb_, v, rfl, hown_⟩
      obtain ⟨A3, c3, hv_, hsl_⟩ := hown_.cs
      subst hv_
      have HSTq4 := Lib.hid (HSTq3.out.below hb_)
      have HGDq4 := Lib.hid (grown_below HGDq3.out hb_)
      have HSI := Lib.hid (show SlS q4 (fun x => w1.heap.size < x ∧ x < q4.heap.size) A3 c3 (insR L d) from hsl_.mono (fun x hx => ⟨by rcases hx.1 with h | h; exact h.1; have := HSTq3.out.2.2.2.1.2.2; omega, hx.2⟩) (fun _ _ _ _ hu => hu))
      clear hb_ hown_ hsl_ HSO
      refine hK.out _ _ HSTq4.out.2.2.2.1 (fun _ => ?_)
      clear hK K
      try simp only [Act.put, List.setIfInBounds_toArray, List.set_cons_zero, List.set_cons_succ]
      refine wpAnyH_take (i := 5) (oi := ⟨some 17, _, _, _, _, _⟩) (v := .tuple #[.agg #[.slice A3 (insR L d).length c3], .int .i64 (insE L d)]) rfl (by kernel_rfl) (by kernel_rfl) (by kernel_rfl) (fun _ _ _ h => h) (Or.inl ⟨by rfl, fun w' hS => by go_simp⟩) HSTq4.out.2.2.2.1 ?_
      try simp only [Act.put, List.setIfInBounds_toArray, List.set_cons_zero, List.set_cons_succ]
      refine wpAnyH_take (i := 6) (oi := ⟨some 23, _, _, _, _, _⟩) (v := .agg #[.slice A3 (insR L d).length c3]) rfl (by kernel_rfl) (by kernel_rfl) (by kernel_rfl) (fun _ _ _ h => h) (Or.inl ⟨by rfl, fun w' hS => by go_simp⟩) HSTq4.out.2.2.2.1 ?_
      try simp only [Act.put, List.setIfInBounds_toArray, List.set_cons_zero, List.set_cons_succ]
      refine wpAnyH_take (i := 7) (oi := ⟨some 24, _, _, _, _, _⟩) (v := .int .i64 (insE L d)) rfl (by kernel_rfl) (by kernel_rfl) (by kernel_rfl) (fun _ _ _ h => h) (Or.inl ⟨by rfl, fun w' hS => by go_simp⟩) HSTq4.out.2.2.2.1 ?_
      try simp only [Act.put, List.setIfInBounds_toArray, List.set_cons_zero, List.set_cons_succ]
      refine wpAnyH_ready (rs := [8]) (by kernel_rfl) (by simp) ?_
      refine AllReadyH.cons (o := ⟨some 7, .alloc _, _, _, _, _⟩) rfl (fun K hK => ?_) (AllReadyH.nil)
      go_simp
      obtain ⟨q5, hq5⟩ : ∃ z, q4.alloc (.cells #[.slice none 0 0] 47) = z := ⟨_, rfl⟩
      have hb_ : Below q4.heap.size q4 q5 := by rw [← hq5]; exact (Below.refl _ _).alloc (Nat.le_refl _) _
      have HB7q5 := Lib.hid (show BoxL q5 q4.heap.size [.slice none 0 0] from box_mk hq5)
      try rw [hq5]
      clear hq5
      have HG7 := Lib.hid (show b < q4.heap.size ∧ w1.heap.size < q4.heap.size ∧ wd.heap.size ≤ q4.heap.size from ⟨by have := HSTq4.out.2.2.2.1.2.2; have := HKK.out; unfold TrK at this; omega, HSTq4.out.2.2.2.1.2.2, HGDq4.out.size⟩)
      have HSTq5 := Lib.hid (HSTq4.out.below hb_)
      have HGDq5 := Lib.hid (grown_below HGDq4.out hb_)
      have HSIq5 := Lib.hid ((HSI.out.below hb_ (fun x hx => hx.2)).mono (S' := fun x => w1.heap.size < x ∧ x < q5.heap.size ∧ x ≠ q4.heap.size) (fun x hx => ⟨hx.1, by have := hb_.size; omega, by omega⟩) (fun _ _ _ _ hu => hu))
      clear hb_
      refine hK.out _ _ HSTq5.out.2.2.2.1 (fun _ => ?_)
      clear hK K
      try simp only [Act.put, List.setIfInBounds_toArray, List.set_cons_zero, List.set_cons_succ]
      have c7 := HB7q5.out.1 0 _ rfl; have c7f := HB7q5.out.2.1
      have HSF := Lib.hid (show ∀ (A' : Option Addr) (c' : Nat) (L' : List Dev), SlS q5 (fun x => w1.heap.size < x ∧ x < q5.heap.size ∧ x ≠ q4.heap.size) A' c' L' → SlS (q5.setCell ⟨q4.heap.size, 0, none⟩ (.slice A3 (insR L d).length c3)) (fun x => w1.heap.size < x ∧ x < (q5.setCell ⟨q4.heap.size, 0, none⟩ (.slice A3 (insR L d).length c3)).heap.size) A' c' L' from fun A' c' L' h => (h.set_ (fun x hx => hx.2.2) _).mono (fun x hx => ⟨hx.1, by simpa using hx.2.1⟩) (fun _ _ _ _ hu => hu))
      have HTF := Lib.hid (show TrSt w B b xs k2 w.heap.size w1.heap.size A c L (q5.setCell ⟨q4.heap.size, 0, none⟩ (.slice A3 (insR L d).length c3)) from ⟨HSTq5.out.1.set_ (by have := HG7.out; omega) (by have := HG7.out; have := HBW.out; omega) _, grown_set HSTq5.out.2.1 (by have := HG7.out; have := HKK.out; unfold TrK at this; omega) _, HSTq5.out.2.2.1.far (by have := HG7.out; have := HKK.out; unfold TrK at this; omega) _, HSTq5.out.2.2.2.1.far (by have := HG7.out; omega) _, HSF.out _ _ _ (((HSTd.out.2.2.2.2.tape HGDq5.out (fun x hx => by have := HKK.out; unfold TrK at this; omega))).mono (fun x hx => ⟨hx.1, by have := HGDq5.out.size; omega, by have := HG7.out; omega⟩) (fun _ _ _ _ hu => hu))⟩)
      have HCF := Lib.hid (show BoxL (q5.setCell ⟨q4.heap.size, 0, none⟩ (.slice A3 (insR L d).length c3)) q4.heap.size [.slice A3 (insR L d).length c3] from HB7q5.out.set_ (j := 0) (by simp) _)
      have HSN := Lib.hid (HSF.out _ _ _ HSIq5.out)
      refine wpAnyH_ready (rs := [9]) (by kernel_rfl) (by simp) ?_
      refine AllReadyH.cons (o := ⟨none, .store _ _ _, _, _, _, _⟩) rfl (fun K hK => ?_) AllReadyH.nil
      go_simp
      refine hK.out _ _ HTF.out.2.2.2.1 (fun _ => ?_)
      clear hK K
      try simp only [Act.put, List.setIfInBounds_toArray, List.set_cons_zero, List.set_cons_succ]
      refine wpAnyH_take (i := 10) (oi := ⟨some 8, _, _, _, _, _⟩) (v := .int .i64 (insE L d)) rfl (by kernel_rfl) (by kernel_rfl) (by kernel_rfl) (fun _ _ _ h => h) (Or.inl ⟨by rfl, fun w' hS => by go_simp⟩) HTF.out.2.2.2.1 ?_
      try simp only [Act.put, List.setIfInBounds_toArray, List.set_cons_zero, List.set_cons_succ]
      refine wpAnyH_done (by kernel_rfl) ?_ _
      go_wp2_with fail
      go_meet
      exact ⟨q4.heap.size, d, rfl, rfl, ⟨k2, A3, c3, HK2.out, HTF.out, HSN.out, HCF.out.1 0 _ rfl⟩⟩
     ·
      go_simp
      obtain ⟨q6, hq6⟩ : ∃ z, q3.alloc (.cells #[.slice none 0 0] 47) = z := ⟨_, rfl⟩
      have hb_ : Below q3.heap.size q3 q6 := by rw [← hq6]; exact (Below.refl _ _).alloc (Nat.le_refl _) _
      have HB7q6 := Lib.hid (show BoxL q6 q3.heap.size [.slice none 0 0] from box_mk hq6)
      try rw [hq6]
      clear hq6
      have HG7 := Lib.hid (show b < q3.heap.size ∧ w1.heap.size < q3.heap.size ∧ wd.heap.size ≤ q3.heap.size from ⟨by have := HSTq3.out.2.2.2.1.2.2; have := HKK.out; unfold TrK at this; omega, HSTq3.out.2.2.2.1.2.2, HGDq3.out.size⟩)
      have HSTq6 := Lib.hid (HSTq3.out.below hb_)
      have HGDq6 := Lib.hid (grown_below HGDq3.out hb_)
      have HSDq6 := Lib.hid ((HSDq3.out.below hb_ (fun x hx => hx.2)).mono (S' := fun x => w1.heap.size < x ∧ x < q6.heap.size ∧ x ≠ q3.heap.size) (fun x hx => ⟨hx.1, by have := hb_.size; omega, by omega⟩) (fun _ _ _ _ hu => hu))
      clear hb_
      refine hK.out _ _ HSTq6.out.2.2.2.1 (fun _ => ?_)
      clear hK K
      try simp only [Act.put, List.setIfInBounds_toArray, List.set_cons_zero, List.set_cons_succ]
      refine wpAnyH_ready (rs := [4]) (by kernel_rfl) (by simp) ?_
      refine AllReadyH.cons (o := ⟨some 22, .call ⟨_, _, _⟩, _, _, _, _⟩) rfl (fun K hK => ?_) (AllReadyH.nil)
      have HSO := Lib.hid (show SlS q6 (fun x => w1.heap.size < x ∧ x < q6.heap.size ∧ x ≠ q3.heap.size) A c L from ((HSTd.out.2.2.2.2.tape HGDq6.out (fun x hx => by have := HKK.out; unfold TrK at this; omega))).mono (fun x hx => ⟨hx.1, by have := HGDq6.out.size; omega, by have := HG7.out; omega⟩) (fun _ _ _ _ hu => hu))
      go_simp
      go_at_call 53
      refine (RInsert_any A c L d A2 c2 (fun x => w1.heap.size < x ∧ x < q6.heap.size ∧ x ≠ q3.heap.size) _ HSO.out (fun x hx => hx.2.1) HFEW.out.ok HSDq6.out HVT.out (HOK.out.tape HSTq6.out.2.1 HNG.out)).mono ?_
      rintro e' q7 ⟨hb_, v, rfl, hown_⟩
      obtain ⟨A3, c3, hv_, hsl_⟩ := hown_.cs
      subst hv_
      have HSTq7 := Lib.hid (HSTq6.out.below hb_)
      have HGDq7 := Lib.hid (grown_below HGDq6.out hb_)
      have HB7q7 := Lib.hid (HB7q6.out.kept (grown_none hb_) (fun e => by cases e))
      have HSI := Lib.hid (show SlS q7 (fun x => w1.heap.size < x ∧ x < q7.heap.size ∧ x ≠ q3.heap.size) A3 c3 (insR L d) from hsl_.mono (fun x hx => ⟨by rcases hx.1 with h | h; exact h.1; have := HSTq6.out.2.2.2.1.2.2; omega, hx.2, by rcases hx.1 with h | h; exact h.2.2; have := HB7q6.out.2.2; omega⟩) (fun _ _ _ _ hu => hu))
      clear hb_ hown_ hsl_ HSO
      refine hK.out _ _ HSTq7.out.2.2.2.1 (fun _ => ?_)
      clear hK K
      try simp only [Act.put, List.setIfInBounds_toArray, List.set_cons_zero, List.set_cons_succ]
      refine wpAnyH_take (i := 5) (oi := ⟨some 17, _, _, _, _, _⟩) (v := .tuple #[.agg #[.slice A3 (insR L d).length c3], .int .i64 (insE L d)]) rfl (by kernel_rfl) (by kernel_rfl) (by kernel_rfl) (fun _ _ _ h => h) (Or.inl ⟨by rfl, fun w' hS => by go_simp⟩) HSTq7.out.2.2.2.1 ?_
      try simp only [Act.put, List.setIfInBounds_toArray, List.set_cons_zero, List.set_cons_succ]
      refine wpAnyH_take (i := 6) (oi := ⟨some 23, _, _, _, _, _⟩) (v := .agg #[.slice A3 (insR L d).length c3]) rfl (by kernel_rfl) (by kernel_rfl) (by kernel_rfl) (fun _ _ _ h => h) (Or.inl ⟨by rfl, fun w' hS => by go_simp⟩) HSTq7.out.2.2.2.1 ?_
      try simp only [Act.put, List.setIfInBounds_toArray, List.set_cons_zero, List.set_cons_succ]
      refine wpAnyH_take (i := 7) (oi := ⟨some 24, _, _, _, _, _⟩) (v := .int .i64 (insE L d)) rfl (by kernel_rfl) (by kernel_rfl) (by kernel_rfl) (fun _ _ _ h => h) (Or.inl ⟨by rfl, fun w' hS => by go_simp⟩) HSTq7.out.2.2.2.1 ?_
      try simp only [Act.put, List.setIfInBounds_toArray, List.set_cons_zero, List.set_cons_succ]
      have c7 := HB7q7.out.1 0 _ rfl; have c7f := HB7q7.out.2.1
      have HSF := Lib.hid (show ∀ (A' : Option Addr) (c' : Nat) (L' : List Dev), SlS q7 (fun x => w1.heap.size < x ∧ x < q7.heap.size ∧ x ≠ q3.heap.size) A' c' L' → SlS (q7.setCell ⟨q3.heap.size, 0, none⟩ (.slice A3 (insR L d).length c3)) (fun x => w1.heap.size < x ∧ x < (q7.setCell ⟨q3.heap.size, 0, none⟩ (.slice A3 (insR L d).length c3)).heap.size) A' c' L' from fun A' c' L' h => (h.set_ (fun x hx => hx.2.2) _).mono (fun x hx => ⟨hx.1, by simpa using hx.2.1⟩) (fun _ _ _ _ hu => hu))
      have HTF := Lib.hid (show TrSt w B b xs k2 w.heap.size w1.heap.size A c L (q7.setCell ⟨q3.heap.size, 0, none⟩ (.slice A3 (insR L d).length c3)) from ⟨HSTq7.out.1.set_ (by have := HG7.out; omega) (by have := HG7.out; have := HBW.out; omega) _, grown_set HSTq7.out.2.1 (by have := HG7.out; have := HKK.out; unfold TrK at this; omega) _, HSTq7.out.2.2.1.far (by have := HG7.out; have := HKK.out; unfold TrK at this; omega) _, HSTq7.out.2.2.2.1.far (by have := HG7.out; omega) _, HSF.out _ _ _ (((HSTd.out.2.2.2.2.tape HGDq7.out (fun x hx => by have := HKK.out; unfold TrK at this; omega))).mono (fun x hx => ⟨hx.1, by have := HGDq7.out.size; omega, by have := HG7.out; omega⟩) (fun _ _ _ _ hu => hu))⟩)
      have HCF := Lib.hid (show BoxL (q7.setCell ⟨q3.heap.size, 0, none⟩ (.slice A3 (insR L d).length c3)) q3.heap.size [.slice A3 (insR L d).length c3] from HB7q7.out.set_ (j := 0) (by simp) _)
      have HSN := Lib.hid (HSF.out _ _ _ HSI.out)
      refine wpAnyH_ready (rs := [9]) (by kernel_rfl) (by simp) ?_
      refine AllReadyH.cons (o := ⟨none, .store _ _ _, _, _, _, _⟩) rfl (fun K hK => ?_) AllReadyH.nil
      go_simp
      refine hK.out _ _ HTF.out.2.2.2.1 (fun _ => ?_)
      clear hK K
      try simp only [Act.put, List.setIfInBounds_toArray, List.set_cons_zero, List.set_cons_succ]
      refine wpAnyH_take (i := 10) (oi := ⟨some 8, _, _, _, _, _⟩) (v := .int .i64 (insE L d)) rfl (by kernel_rfl) (by kernel_rfl) (by kernel_rfl) (fun _ _ _ h => h) (Or.inl ⟨by rfl, fun w' hS => by go_simp⟩) HTF.out.2.2.2.1 ?_
      try simp only [Act.put, List.setIfInBounds_toArray, List.set_cons_zero, List.set_cons_succ]
      refine wpAnyH_done (by kernel_rfl) ?_ _
      go_wp2_with fail
      go_meet
      exact ⟨q3.heap.size, d, rfl, rfl, ⟨k2, A3, c3, HK2.out, HTF.out, HSN.out, HCF.out.1 0 _ rfl⟩⟩
    ·
     go_simp
     obtain ⟨q8, hq8⟩ : ∃ z, wd.alloc (.cells #[.slice none 0 0] 47) = z := ⟨_, rfl⟩
     have hb_ : Below wd.heap.size wd q8 := by rw [← hq8]; exact (Below.refl _ _).alloc (Nat.le_refl _) _
     have HB7q8 := Lib.hid (show BoxL q8 wd.heap.size [.slice none 0 0] from box_mk hq8)
     try rw [hq8]
     clear hq8
     have HG7 := Lib.hid (show b < wd.heap.size ∧ w1.heap.size < wd.heap.size ∧ wd.heap.size ≤ wd.heap.size from ⟨by have := HSTd.out.2.2.2.1.2.2; have := HKK.out; unfold TrK at this; omega, HSTd.out.2.2.2.1.2.2, HGDd.out.size⟩)
     have HSTq8 := Lib.hid (HSTd.out.below hb_)
     have HGDq8 := Lib.hid (grown_below HGDd.out hb_)
     clear hb_
     refine hK.out _ _ HSTq8.out.2.2.2.1 (fun _ => ?_)
     clear hK K
     try simp only [Act.put, List.setIfInBounds_toArray, List.set_cons_zero, List.set_cons_succ]
     refine wpAnyH_ready (rs := [3]) (by kernel_rfl) (by simp) ?_
     refine AllReadyH.cons (o := ⟨some 21, .call ⟨_, _, _⟩, _, _, _, _⟩) rfl (fun K hK => ?_) (AllReadyH.nil)
     go_simp
     go_at_call 54
     refine (Device_any xs k' B b A c L _ _ (by have := HK.out; have := HKX.out; omega) HSTq8.out.1 (HSTq8.out.treeIn HKK.out) (fun d hd => (HVT.out.small d hd).2) (by have := HLL.out; omega)).mono ?_
     rintro e' q9 ⟨d, A2, c2, k2, rfl, hfew_, hsl_, hk2_, ht_, hg_⟩
     have HSTq9 := Lib.hid (HSTq8.out.tape HKK.out ht_ hg_); have HFEW := Lib.hid hfew_; have HK2 := Lib.hid hk2_
     have HGDq9 := Lib.hid (grown_trans HGDq8.out hg_)
     have HB7q9 := Lib.hid (HB7q8.out.kept hg_ (fun e => by have := Option.some.inj e; have := HG7.out; omega))
     have HSDq9 := Lib.hid (show SlS q9 (fun x => w1.heap.size < x ∧ x < q9.heap.size ∧ x ≠ wd.heap.size) A2 c2 d.attrs from hsl_.mono (fun x hx => ⟨by have := HSTq8.out.2.2.2.1.2.2; omega, hx.2, by have := HB7q8.out.2.2; omega⟩) (fun _ _ _ _ hu => hu))
     clear hfew_ hsl_ hk2_ ht_ hg_
     refine hK.out _ _ HSTq9.out.2.2.2.1 (fun _ => ?_)
     clear hK K
     try simp only [Act.put, List.setIfInBounds_toArray, List.set_cons_zero, List.set_cons_succ]
     refine wpAnyH_ready (rs := [4]) (by kernel_rfl) (by simp) ?_
     refine AllReadyH.cons (o := ⟨some 22, .call ⟨_, _, _⟩, _, _, _, _⟩) rfl (fun K hK => ?_) (AllReadyH.nil)
     have HSO := Lib.hid (show SlS q9 (fun x => w1.heap.size < x ∧ x < q9.heap.size ∧ x ≠ wd.heap.size) A c L from ((HSTd.out.2.2.2.2.tape HGDq9.out (fun x hx => by have := HKK.out; unfold TrK at this; omega))).mono (fun x hx => ⟨hx.1, by have := HGDq9.out.size; omega, by have := HG7.out; omega⟩) (fun _ _ _ _ hu => hu))
     go_simp
     go_at_call 53
     refine (RInsert_any A c L d A2 c2 (fun x => w1.heap.size < x ∧ x < q9.heap.size ∧ x ≠ wd.heap.size) _ HSO.out (fun x hx => hx.2.1) HFEW.out.ok HSDq9.out HVT.out (HOK.out.tape HSTq9.out.2.1 HNG.out)).mono ?_
     rintro e' q10 ⟨hb_, v, rfl, hown_⟩
     obtain ⟨A3, c3, hv_, hsl_⟩ := hown_.cs
     subst hv_
     have HSTq10 := Lib.hid (HSTq9.out.below hb_)
     have HGDq10 := Lib.hid (grown_below HGDq9.out hb_)
     have HB7q10 := Lib.hid (HB7q9.out.kept (grown_none hb_) (fun e => by cases e))
     have HSI := Lib.hid (show SlS q10 (fun x => w1.heap.size < x ∧ x < q10.heap.size ∧ x ≠ wd.heap.size) A3 c3 (insR L d) from hsl_.mono (fun x hx => ⟨by rcases hx.1 with h | h; exact h.1; have := HSTq9.out.2.2.2.1.2.2; omega, hx.2, by rcases hx.1 with h | h; exact h.2.2; have := HB7q9.out.2.2; omega⟩) (fun _ _ _ _ hu => hu))
     clear hb_ hown_ hsl_ HSO
     refine hK.out _ _ HSTq10.out.2.2.2.1 (fun _ => ?_)
     clear hK K
     try simp only [Act.put, List.setIfInBounds_toArray, List.set_cons_zero, List.set_cons_succ]
     refine wpAnyH_take (i := 5) (oi := ⟨some 17, _, _, _, _, _⟩) (v := .tuple #[.agg #[.slice A3 (insR L d).length c3], .int .i64 (insE L d)]) rfl (by kernel_rfl) (by kernel_rfl) (by kernel_rfl) (fun _ _ _ h => h) (Or.inl ⟨by rfl, fun w' hS => by go_simp⟩) HSTq10.out.2.2.2.1 ?_
     try simp only [Act.put, List.setIfInBounds_toArray, List.set_cons_zero, List.set_cons_succ]
     refine wpAnyH_take (i := 6) (oi := ⟨some 23, _, _, _, _, _⟩) (v := .agg #[.slice A3 (insR L d).length c3]) rfl (by kernel_rfl) (by kernel_rfl) (by kernel_rfl) (fun _ _ _ h => h) (Or.inl ⟨by rfl, fun w' hS => by go_simp⟩) HSTq10.out.2.2.2.1 ?_
     try simp only [Act.put, List.setIfInBounds_toArray, List.set_cons_zero, List.set_cons_succ]
     refine wpAnyH_take (i := 7) (oi := ⟨some 24, _, _, _, _, _⟩) (v := .int .i64 (insE L d)) rfl (by kernel_rfl) (by kernel_rfl) (by kernel_rfl) (fun _ _ _ h => h) (Or.inl ⟨by rfl, fun w' hS => by go_simp⟩) HSTq10.out.2.2.2.1 ?_
     try simp only [Act.put, List.setIfInBounds_toArray, List.set_cons_zero, List.set_cons_succ]
     have c7 := HB7q10.out.1 0 _ rfl; have c7f := HB7q10.out.2.1
     have HSF := Lib.hid (show ∀ (A' : Option Addr) (c' : Nat) (L' : List Dev), SlS q10 (fun x => w1.heap.size < x ∧ x < q10.heap.size ∧ x ≠ wd.heap.size) A' c' L' → SlS (q10.setCell ⟨wd.heap.size, 0, none⟩ (.slice A3 (insR L d).length c3)) (fun x => w1.heap.size < x ∧ x < (q10.setCell ⟨wd.heap.size, 0, none⟩ (.slice A3 (insR L d).length c3)).heap.size) A' c' L' from fun A' c' L' h => (h.set_ (fun x hx => hx.2.2) _).mono (fun x hx => ⟨hx.1, by simpa using hx.2.1⟩) (fun _ _ _ _ hu => hu))
     have HTF := Lib.hid (show TrSt w B b xs k2 w.heap.size w1.heap.size A c L (q10.setCell ⟨wd.heap.size, 0, none⟩ (.slice A3 (insR L d).length c3)) from ⟨HSTq10.out.1.set_ (by have := HG7.out; omega) (by have := HG7.out; have := HBW.out; omega) _, grown_set HSTq10.out.2.1 (by have := HG7.out; have := HKK.out; unfold TrK at this; omega) _, HSTq10.out.2.2.1.far (by have := HG7.out; have := HKK.out; unfold TrK at this; omega) _, HSTq10.out.2.2.2.1.far (by have := HG7.out; omega) _, HSF.out _ _ _ (((HSTd.out.2.2.2.2.tape HGDq10.out (fun x hx => by have := HKK.out; unfold TrK at this; omega))).mono (fun x hx => ⟨hx.1, by have := HGDq10.out.size; omega, by have := HG7.out; omega⟩) (fun _ _ _ _ hu => hu))⟩)
     have HCF := Lib.hid (show BoxL (q10.setCell ⟨wd.heap.size, 0, none⟩ (.slice A3 (insR L d).length c3)) wd.heap.size [.slice A3 (insR L d).length c3] from HB7q10.out.set_ (j := 0) (by simp) _)
     have HSN := Lib.hid (HSF.out _ _ _ HSI.out)
     refine wpAnyH_ready (rs := [9]) (by kernel_rfl) (by simp) ?_
     refine AllReadyH.cons (o := ⟨none, .store _ _ _, _, _, _, _⟩) rfl (fun K hK => ?_) AllReadyH.nil
     go_simp
     refine hK.out _ _ HTF.out.2.2.2.1 (fun _ => ?_)
     clear hK K
     try simp only [Act.put, List.setIfInBounds_toArray, List.set_cons_zero, List.set_cons_succ]
     refine wpAnyH_take (i := 10) (oi := ⟨some 8, _, _, _, _, _⟩) (v := .int .i64 (insE L d)) rfl (by kernel_rfl) (by kernel_rfl) (by kernel_rfl) (fun _ _ _ h => h) (Or.inl ⟨by rfl, fun w' hS => by go_simp⟩) HTF.out.2.2.2.1 ?_
     try simp only [Act.put, List.setIfInBounds_toArray, List.set_cons_zero, List.set_cons_succ]
     refine wpAnyH_done (by kernel_rfl) ?_ _
     go_wp2_with fail
     go_meet
     exact ⟨wd.heap.size, d, rfl, rfl, ⟨k2, A3, c3, HK2.out, HTF.out, HSN.out, HCF.out.1 0 _ rfl⟩⟩
   case rest =>
   obtain ⟨g7, d, rfl, rfl, hq⟩ := hcut
   obtain ⟨k2, A3, c3, hk2, hst, hsl, hc7⟩ := hq.out
   clear hq HST
   have HK2 := Lib.hid hk2; have HST := Lib.hid hst; have HSL := Lib.hid hsl; have HC7 := Lib.hid hc7; clear hk2 hst hsl hc7
   obtain ⟨z, hz⟩ : ∃ z, insE L d = z := ⟨_, rfl⟩
   rw [hz]
   have HZ := Lib.hid hz; clear hz
   by_cases h0 : z = 0
   ·
    have e0 : (z == 0) = true := beq_iff_eq.2 h0
    have HVN := Lib.hid (VT_tree HVT.out (by rw [HZ.out, h0])); clear h0
    have c7 := HC7.out; have t0 := HST.out.2.2.2.1.1 0 _ rfl; have tf := HST.out.2.2.2.1.2.1
    have HSN := Lib.hid (HST.out.put HKK.out HSL.out)
    go_wp2
    go_roundw
    case rel => exact ⟨j - 1, insR L d, A3, c3, k2, by first | rfl | go_num, ⟨by omega, by omega, by rw [HVN.out.2]; push_cast; omega⟩, HVN.out.1, by have := HKB.out; have := HK2.out; show (k2 : Int) + 31 * (j - 1) ≤ _; omega, HSN⟩
    case measure => simp [intOf]; omega
   ·
    have e0 : (z == 0) = false := beq_eq_false_iff_ne.2 h0
    clear h0
    go_wp2
    go_roundw
    case rel => exact ⟨j - 1, L, A, c, k2, by first | rfl | go_num, ⟨by omega, by omega, by omega⟩, HVT.out, by have := HKB.out; have := HK2.out; show (k2 : Int) + 31 * (j - 1) ≤ _; omega, HST⟩
    case measure => simp [intOf]; omega
  ·
   have t0 := HST.out.2.2.2.1.1 0 _ rfl; have r0 := HST.out.2.2.1.1 0 _ rfl; have rf := HST.out.2.2.1.2.1
   go_wp2
   refine bodyPost_ret (v := .agg #[.slice A L.length c]) (by simp [results, Tryz.results20, go_sem, r0, rf]) rfl ⟨A, c, L, k', rfl, HVT.out, by omega, ?_, by have := HKX.out; omega, HST.out.1.set_ (by have := HBW.out; omega) (by have := HBW.out; omega) _, grown_set HST.out.2.1 (Nat.le_refl _) _⟩
   exact (HST.out.2.2.2.2.set_ (fun x hx => by have := HGw1.out; omega) _).mono (fun x hx => ⟨by have := HGw1.out; omega, by simpa using hx.2⟩) (fun _ _ _ _ hu => hu)
end Go.Proofs.YtjpoljlgkgmdkaaGreatDoor
namespace Go.Cold
open Go Go.RowKit
end Go.Cold
namespace Go.Proofs.YtjpoljlgkgmdkaaGreatDoor
open Go.RowKit Go.Cold
end Go.Proofs.YtjpoljlgkgmdkaaGreatDoor
namespace Go.Cold
open Go Go.RowKit
def orgM (L : List Dev) : Int → Option ByteArray := L.foldl (fun f d => updF f d.idx (((f d.par).getD ByteArray.empty ++ ⟨#[47]⟩) ++ d.orig)) (fun _ => none)
def plGo : List Dev → Nat → (Int → Option Int) → (Int → Option Int)
 | [], _, f => f
 | d :: r, i, f => plGo r (i + 1) (updF f d.idx (i : Int))
def plM (L : List Dev) : Int → Option Int := plGo L 0 (fun _ => none)
theorem str_size_in {m : Nat} : ∀ (L : List Dev) (s : Int → ByteArray) (t : Nat), (∀ n, (s n).size ≤ t) → (∀ d ∈ L, d.orig.size ≤ m) → ∀ n, (L.foldl strStep s n).size ≤ t + L.length * (m + 1)
 | [], s, t, h, _, n => by simpa using h n
 | d :: r, s, t, h, hm, n => by
  have h2 := str_size_in r (strStep s d) (t + (m + 1)) (fun n => by
   unfold strStep
   have h3 := hm d List.mem_cons_self
   split
   ·
    rw [ByteArray.size_append, ByteArray.size_append]
    have h4 := h d.par
    have h5 : (⟨#[47]⟩ : ByteArray).size = 1 := rfl
    omega
   · have := h n; omega) (fun x hx => hm x (List.mem_cons_of_mem _ hx)) n
  rw [List.foldl_cons, List.length_cons, Nat.succ_mul]
  omega
theorem str_size {L : List Dev} (h : ∀ d ∈ L, d.orig.size ≤ 32) (hl : L.length ≤ 256) (n : Int) : (strF L n).size ≤ 8448 := by
 have h1 := str_size_in L (fun _ => ⟨#[]⟩) 0 (fun _ => Nat.le_refl _) h n
 have h2 := Nat.mul_le_mul_right 33 hl
 unfold strF
 omega
def LkSt (P : Program) (tI tS : TypeId) (w0 : World) (g1 g2 g3 bp bo : Nat) (A : Option Addr) (c : Nat) (L : List Dev) (k : Nat) (w : World) : Prop :=
 Below w0.heap.size w0 w ∧ BoxL w g1 [.slice A L.length c] ∧ BoxL w g2 [.slice none 0 0, .map none, .map none] ∧ BoxL w g3 [.slice A L.length c, .map (some bp), .map (some bo)] ∧ MapV P tI tI w bp k (plM (L.take k)) ∧ MapV P tI tS w bo k (orgM (L.take k))
theorem LkSt.below {P : Program} {tI tS : TypeId} {w0 w w' : World} {g1 g2 g3 bp bo c k : Nat} {A : Option Addr} {L : List Dev} (h : LkSt P tI tS w0 g1 g2 g3 bp bo A c L k w) (hb : Below w.heap.size w w') : LkSt P tI tS w0 g1 g2 g3 bp bo A c L k w' := by
 obtain ⟨h1, h2, h3, h4, h5, h6⟩ := h
 exact ⟨h1.trans (hb.mono h1.size), h2.kept (grown_none hb) (fun e => by cases e), h3.kept (grown_none hb) (fun e => by cases e), h4.kept (grown_none hb) (fun e => by cases e), h5.next hb, h6.next hb⟩
section
variable {α : Type} [El α] {P : Program} {k e t : TypeId} {w w' : World} {b n : Nat} {f : Int → Option α}
end
end Go.Cold
namespace Go.Proofs.YtjpoljlgkgmdkaaGreatDoor
open Go.RowKit Go.Cold
end Go.Proofs.YtjpoljlgkgmdkaaGreatDoor
namespace Go.Cold
open Go Go.RowKit
end Go.Cold
namespace Go.Proofs.YtjpoljlgkgmdkaaGreatDoor
open Go.RowKit Go.Cold
end Go.Proofs.YtjpoljlgkgmdkaaGreatDoor
namespace Go.Cold
open Go Go.RowKit
end Go.Cold
namespace Go.Proofs.YtjpoljlgkgmdkaaGreatDoor
open Go.RowKit Go.Cold
end Go.Proofs.YtjpoljlgkgmdkaaGreatDoor
namespace Go.Cold
open Go Go.RowKit
def chkAll (L : List Dev) : Int := if 256 < L.length then 40 else chkGo chkP [] L
theorem chk_step {L : List Dev} {k : Nat} {y : Dev} (hk : L[k]? = some y) : chkGo chkP (L.take k) (L.drop k) = if chkP (L.take k) y ≠ 0 then chkP (L.take k) y else chkGo chkP (L.take (k + 1)) (L.drop (k + 1)) := by
 obtain ⟨h1, h2⟩ := List.getElem?_eq_some_iff.1 hk
 rw [List.drop_eq_getElem_cons h1, h2, chkGo, List.take_add_one, hk]
 rfl
def ChkAt (L : List Dev) (k : Nat) : Prop := chkGo chkP [] L = chkGo chkP (L.take k) (L.drop k) ∧ ∀ d ∈ L.take k, d.orig.size ≤ 32
theorem ChkAt.next {L : List Dev} {k : Nat} {y : Dev} (h : ChkAt L k) (hk : L[k]? = some y) (hc : chkP (L.take k) y = 0) (hs : y.orig.size ≤ 32) : ChkAt L (k + 1) := by
 refine ⟨by rw [h.1, chk_step hk, if_neg (by simp [hc])], fun d hd => ?_⟩
 rw [List.take_add_one, hk] at hd
 rcases List.mem_append.1 hd with hd | hd
 · exact h.2 d hd
 · simp at hd; subst hd; exact hs
theorem ChkAt.end_ {L : List Dev} (h : ChkAt L L.length) (hl : ¬ 256 < L.length) : chkAll L = 0 := by
 unfold chkAll
 rw [if_neg hl, h.1, List.take_length, List.drop_length]; rfl
end Go.Cold
namespace Go.Proofs.YtjpoljlgkgmdkaaGreatDoor
open Go.RowKit Go.Cold
end Go.Proofs.YtjpoljlgkgmdkaaGreatDoor
namespace Go.Cold
open Go Go.RowKit
def KpZ (Z : Nat → Prop) (W W' : World) : Prop := W.heap.size ≤ W'.heap.size ∧ ∀ k, k < W.heap.size → Z k → W'.heap[k]? = W.heap[k]?
theorem KpZ.refl (Z : Nat → Prop) (W : World) : KpZ Z W W := ⟨Nat.le_refl _, fun _ _ _ => rfl⟩
theorem KpZ.trans {Z : Nat → Prop} {A B C : World} (h : KpZ Z A B) (k : KpZ Z B C) : KpZ Z A C := ⟨Nat.le_trans h.1 k.1, fun i hi hz => (k.2 i (Nat.lt_of_lt_of_le hi h.1) hz).trans (h.2 i hi hz)⟩
theorem KpZ.below {Z : Nat → Prop} {W W' : World} (h : Below W.heap.size W W') : KpZ Z W W' := ⟨h.size, fun k hk _ => h.block k hk⟩
theorem KpZ.grown {Z : Nat → Prop} {W W' : World} {b : Nat} (h : W.grownBy W' (some b)) (hb : ¬ Z b) : KpZ Z W W' := ⟨h.size, fun k hk hz => h.block k hk (fun e => hb (by rw [← Option.some.inj e]; exact hz))⟩
variable {F : Fence} {n : Nat} {P : Program}
end Go.Cold
namespace Go.Cold
open Go Go.RowKit
def UpSt (P : Program) (tI : TypeId) (gv gi bp bo : Nat) (A : Option Addr) (c N B : Nat) (L : List Dev) (m : Int) (W : World) : Prop :=
 BoxL W gv [.slice A L.length c, .map (some bp), .map (some bo)] ∧ BoxL W gi [.int .i64 m] ∧ MapV P tI tI W bp N (plM L) ∧ Sl W B A c L ∧ B ≤ W.heap.size
section
variable {P : Program} {tI : TypeId} {gv gi bp bo c N B : Nat} {A : Option Addr} {L : List Dev} {m m' : Int} {W W' : World}
theorem UpSt.below (h : UpSt P tI gv gi bp bo A c N B L m W) (hb : Below W.heap.size W W') : UpSt P tI gv gi bp bo A c N B L m W' := by
 obtain ⟨h1, h2, h3, h4, h5⟩ := h
 exact ⟨h1.kept (grown_none hb) (fun e => by cases e), h2.kept (grown_none hb) (fun e => by cases e), h3.next hb, h4.keep (hb.mono h5), Nat.le_trans h5 hb.size⟩
theorem UpSt.put (h : UpSt P tI gv gi bp bo A c N B L m W) (h1 : gi ≠ gv) (h2 : gi ≠ bp) (h3 : B ≤ gi) : UpSt P tI gv gi bp bo A c N B L m' (W.setCell ⟨gi, 0, none⟩ (.int .i64 m')) := by
 obtain ⟨a1, a2, a3, a4, a5⟩ := h
 exact ⟨a1.far h1 _, a2.set_ (j := 0) (by simp) _, a3.kept (grown_one _ gi 0 _) (fun e => h2 (Option.some.inj e).symm), a4.keep ((Below.refl _ _).setCell (by exact h3) _), by simpa using a5⟩
end
abbrev DevX := Dev × Option Addr × Nat
end Go.Cold
namespace Go.Proofs.YtjpoljlgkgmdkaaGreatDoor
open Go.RowKit Go.Cold Go.Shelf
attribute [local go_sem] Oper.semAt_some
end Go.Proofs.YtjpoljlgkgmdkaaGreatDoor
namespace Go.Cold
open Go Go.RowKit
end Go.Cold
namespace Go.Proofs.YtjpoljlgkgmdkaaGreatDoor
open Go.RowKit Go.Cold Go.Shelf
attribute [local go_sem] Oper.semAt_some
end Go.Proofs.YtjpoljlgkgmdkaaGreatDoor
namespace Go.Cold
open Go Go.RowKit
theorem pathS_size {xs : List ByteArray} (hn : xs ≠ []) : (joinB xs).size + 1 = (pathS xs).size := by
 rw [pathS_join hn, toB_size, List.length_cons, ba_size]
end Go.Cold
namespace Go.Proofs.YtjpoljlgkgmdkaaGreatDoor
open Go.RowKit Go.Cold
set_option maxRecDepth 100000 in
theorem RPlace_any (A : Option Addr) (c : Nat) (L : List Dev) (n : Int) (w : World) (B : Nat) (hB : B ≤ w.heap.size) (hx : Sl w B A c L) (hv : VT L) (hn : okI n) : Calls Tryz.prog 50 #[.agg #[.slice A L.length c], .int .i64 n] w fun e w' => e = .returned (.string (strF L n)) ∧ Below w.heap.size w w' := by
 have hx1 := hx.1; have hx2 := hx.2.1
 unfold maxLen at hx2
 have HX := Lib.hid hx; have HB := Lib.hid hB; have HV := Lib.hid hv; have HN := Lib.hid hn
 clear hx hB hv hn
 go_enter Tryz.func50, Tryz.ntmps50
 go_upto_region 1 with fail
 obtain ⟨w1, hw1⟩ : ∃ w1, w.alloc (.cells #[.slice A L.length c] 47) = w1 := ⟨_, rfl⟩
 have hbw1 : Below w.heap.size w w1 := by rw [← hw1]; exact (Below.refl _ _).alloc (Nat.le_refl _) _
 have HGw1 := Lib.hid (show w1.heap.size = w.heap.size + 1 by rw [← hw1]; simp)
 have HXtw1 := Lib.hid (show BoxL w1 w.heap.size [.slice A L.length c] from box_mk hw1)
 try simp only [hw1]
 have HSw1 := Lib.hid (show w.heap.size ≤ w1.heap.size from hbw1.size)
 have HBw1 := Lib.hid hbw1
 clear hw1 hbw1
 try rw [show w.heap.size + 1 = w1.heap.size from HGw1.out.symm]
 have ct0 := HXtw1.out.1 0 _ rfl
 go_wp2_with fail
 refine (ROrigin_any A c L n _ B (Nat.le_trans HB.out HBw1.out.size) (HX.out.keep (HBw1.out.mono HB.out)) (by have := HV.out.size; omega) HN.out).mono ?_
 rintro e w2 ⟨hbw2, v, rfl, hown⟩
 clear ct0
 have HSw2 := Lib.hid (show w1.heap.size ≤ w2.heap.size from hbw2.size)
 have HBw2 := Lib.hid (HBw1.out.trans (hbw2.mono HBw1.out.size))
 have tw2 := Lib.hid (HXtw1.out.kept (grown_none hbw2) (fun e => by cases e))
 clear hbw2
 rw [chainO_org HV.out.wf] at hown
 have hss := str_size (fun d hd => (HV.out.small d hd).1) HV.out.size n
 have hse := strF_eq L n
 have hln := org_len HV.out.wf n
 obtain ⟨xs, hxs⟩ : ∃ z, orgF L n = z := ⟨_, rfl⟩
 rw [hxs] at hown hse hln
 obtain ⟨A5, c5, rfl, hsl⟩ := hown.sl
 have hs1 := hsl.1; have hs2 := hsl.2.1
 unfold maxLen at hs2
 have hvl := HV.out.size
 have HSL := Lib.hid hsl; have HSS := Lib.hid hss; have HSE := Lib.hid hse; have HLN := Lib.hid (show xs.length ≤ 4294967280 by omega); clear hown hsl hxs hss hse hln hvl
 by_cases h0 : 0 < xs.length
 ·
  have i1 : (0 : Int) < (xs.length : Int) := by omega
  have hne : xs ≠ [] := by intro h; rw [h] at h0; simp at h0
  have hjs := pathS_size hne
  have hpj := pathS_join hne
  have HJS := Lib.hid (show (joinB xs).size ≤ 4294967280 by have := HSS.out; rw [HSE.out] at this; omega)
  have HPJ := Lib.hid hpj; clear hjs hpj hne h0
  go_wp2_with fail
  refine (RJoin_any A5 c5 xs _ HSL.out HJS.out HLN.out).mono ?_
  rintro e w3 ⟨rfl, hbw3⟩
  have HSw3 := Lib.hid (show w2.heap.size ≤ w3.heap.size from hbw3.size)
  have HBw3 := Lib.hid (HBw2.out.trans (hbw3.mono HBw2.out.size))
  have tw3 := Lib.hid (tw2.out.kept (grown_none hbw3) (fun e => by cases e))
  clear hbw3
  rw [← HPJ.out, ← HSE.out]
  go_wp2
  go_ret
  exact ⟨by try rfl, HBw3.out⟩
 ·
  have i1 : ¬ (0 : Int) < (xs.length : Int) := by omega
  have HE := Lib.hid (show strF L n = ⟨#[]⟩ by rw [HSE.out, List.eq_nil_of_length_eq_zero (by omega : xs.length = 0)]; rfl); clear h0
  go_wp2
  go_ret
  exact ⟨by rw [HE.out]; try rfl, HBw2.out⟩
end Go.Proofs.YtjpoljlgkgmdkaaGreatDoor
namespace Go.Cold
open Go Go.RowKit
def k6 : Dev := ⟨6, 4, ⟨#[115, 100, 97]⟩, ⟨#[115, 100, 97]⟩, ⟨#[98, 108, 111, 99, 107]⟩, ⟨#[]⟩, ⟨#[]⟩, 2, 9, []⟩
end Go.Cold
namespace Go.Proofs.YtjpoljlgkgmdkaaGreatDoor
open Go.RowKit Go.Cold
end Go.Proofs.YtjpoljlgkgmdkaaGreatDoor
namespace Go.Cold
open Go Go.RowKit
end Go.Cold
namespace Go.Proofs.YtjpoljlgkgmdkaaGreatDoor
open Go.RowKit Go.Cold
theorem ok_of_shape (W : World) (h : W.ShapedOpen Tryz.prog) : Ok W := Tryz.laysM146.s1_3 W h
theorem tape_new {w : World} {A : Option Addr} {c : Nat} {xs : List Int} (h : Sl w w.heap.size A c xs) : TapeAt (w.alloc (.cells #[.slice A xs.length c, .int .i64 0] 25)) w.heap.size w.heap.size xs 0 := by
 refine ⟨A, c, ?_, ?_, fun j => World.frozen?_alloc_at _ _ _ _ rfl, h.keep ((Below.refl _ _).alloc (Nat.le_refl _) _), Nat.le_refl _, by simp⟩ <;> (rw [World.cell?_alloc_at _ _ _ _ rfl]; rfl)
theorem notG_of {w : World} (h : Ok w) : NotG w.heap.size := by
 obtain ⟨m, hm⟩ := h
 have := block_lt_of_cell hm
 intro e
 rw [← e] at this
 exact absurd this (Nat.lt_irrefl _)
end Go.Proofs.YtjpoljlgkgmdkaaGreatDoor
namespace Go.Cold
open Go Go.RowKit
end Go.Cold
namespace Go.Cold
open Go Go.RowKit
def unitR (v : Value) : Option (DataW Unit × List MemPlace) := match v with
 | .agg a => if a.size = 0 then some (.agg [], []) else none
 | _ => none
def SetV (P : Program) (k e : TypeId) (w : World) (b n : Nat) (s : Int → Bool) : Prop :=
 ∃ D : DataW Unit, w.ownsMap P k unitR b n D ∧ ∀ i, okI i → Maps.has D (.int .i64 i) = s i
section
variable {P : Program} {k e t : TypeId} {w w' : World} {b n : Nat} {s : Int → Bool}
theorem SetV.kept {row : Option Nat} (h : SetV P k e w b n s) (hg : w.grownBy w' row) (hne : some b ≠ row) : SetV P k e w' b n s := by
 obtain ⟨D, h1, h2⟩ := h
 exact ⟨D, h1.kept hg hne, h2⟩
theorem SetV.lt (h : SetV P k e w b n s) : b < w.heap.size := by obtain ⟨D, h1, _⟩ := h; exact h1.lt
theorem SetV.below {B : Nat} (h : SetV P k e w b n s) (hb : Below B w w') (hlt : b < B) : SetV P k e w' b n s := by
 obtain ⟨D, ⟨es, clock, h1, h2⟩, h3⟩ := h
 exact ⟨D, ⟨es, clock, (hb.block b hlt).trans h1, h2⟩, h3⟩
theorem SetV.next (h : SetV P k e w b n s) (hb : Below w.heap.size w w') : SetV P k e w' b n s := h.below hb h.lt
theorem SetV.mono {m : Nat} (h : SetV P k e w b n s) (hm : n ≤ m) : SetV P k e w b m s := by obtain ⟨D, h1, h2⟩ := h; exact ⟨D, h1.mono hm, h2⟩
end
end Go.Cold
namespace Go.Cold
open Go Go.RowKit
instance : RepS Int where
 rdS _ _ n cs := cs = [.int .i64 n] ∧ -9223372036854775808 ≤ n ∧ n ≤ 9223372036854775807
 pos := by show 0 < 1; omega
 lenS h := by rw [h.1]; rfl
 one h u hu := by rw [h.1] at hu; simp at hu; subst hu; rfl
 mono _ _ h := h
 rd_iff := Iff.rfl
end Go.Cold
namespace Go.Cold
open Go Go.RowKit
def inS (L : List Dev) (s : Int → Bool) (n : Int) : Bool := (chainO L n).any fun d => s d.idx
def aboveB (L : List Dev) (i j : Int) : Bool := ((chainO L j).drop 1).any fun d => decide (d.idx = i)
theorem drop_any {L : List Dev} (h : WF L) {d : Dev} (hd : d ∈ L) (s : Int → Bool) : (((chainO L d.idx).drop 1).any fun e => s e.idx) = inS L s d.par := by
 unfold inS
 rw [chainO_cons h hd]; rfl
end Go.Cold
namespace Go.Cold
open Go Go.RowKit
def itB (k : Nat) : ByteArray := ⟨(Lib.itoa (k : Int)).toArray⟩
def partS (p : ByteArray) (k : Nat) : ByteArray := (p ++ ⟨#[112]⟩) ++ itB k
def numGo (p o : ByteArray) : Nat → Nat → Nat
 | 0, _ => 0
 | m + 1, k => if o = partS p k then k else numGo p o m (k + 1)
def numR (p o : ByteArray) : Nat := numGo p o 16 1
def partO (L : List Dev) (n : Int) : Nat := match findD L n with
 | none => 0
 | some d => match findD L d.par with
  | none => 0
  | some p => if d.kind = 2 ∧ p.kind = 2 then numR p.orig d.orig else 0
def parO (L : List Dev) (n : Int) : Int := ((findD L n).getD zeroD).par
def sisB (L : List Dev) (i j : Int) : Bool := decide (partO L i ≠ 0) && decide (partO L j ≠ 0) && decide (i ≠ j) && decide (parO L i = parO L j)
theorem sis_comm (L : List Dev) (i j : Int) : sisB L i j = sisB L j i := by
 unfold sisB
 rw [Bool.eq_iff_iff]
 simp only [Bool.and_eq_true, decide_eq_true_eq]
 exact ⟨fun ⟨⟨⟨a, b⟩, c⟩, d⟩ => ⟨⟨⟨b, a⟩, Ne.symm c⟩, d.symm⟩, fun ⟨⟨⟨a, b⟩, c⟩, d⟩ => ⟨⟨⟨b, a⟩, Ne.symm c⟩, d.symm⟩⟩
theorem sis_self (L : List Dev) (i : Int) : sisB L i i = false := by unfold sisB; simp
def ordR (L : List Dev) (l : List Int) : List Int := idxs (L.filter fun d => l.contains d.idx)
def okBat (L : List Dev) (dirty busy out : List Int) (n : Int) : Bool :=
 !busy.contains n && ((chainO L n).drop 1).all (fun u => !dirty.contains u.idx && !busy.contains u.idx) && busy.all (fun b => !sisB L n b) && out.all (fun b => !sisB L n b)
def batR (L : List Dev) (dirty busy : List Int) : List Int → List Int → List Int
 | [], out => out
 | n :: r, out => if okBat L dirty busy out n then batR L dirty busy r (out ++ [n]) else batR L dirty busy r out
theorem ord_nodup {L : List Dev} (h : WF L) (l : List Int) : (ordR L l).Nodup := h.uniq.sublist ((List.filter_sublist (l := L)).map _)
end Go.Cold
namespace Go.Cold
open Go Go.RowKit
theorem chain_left {A B : List Dev} (h : WF (A ++ B)) : ∀ (k : Nat) (n : Int), n ∈ idxs A → ∀ u ∈ chainL (A ++ B) k n, u ∈ A
 | 0, n, _, u, hu => by rw [chainL] at hu; cases hu
 | k + 1, n, hn, u, hu => by
  obtain ⟨e, he, rfl⟩ := List.mem_map.1 hn
  rw [chainL, find_of h.uniq (List.mem_append_left _ he)] at hu
  rcases List.mem_cons.1 hu with rfl | hu
  · exact he
  ·
   have hw := h.left
   rcases parA_mem hw.par he with h1 | h1 | h1
   ·
    exfalso
    rw [h1] at hu
    have hz := zero_out h
    cases k with
    | zero => rw [chainL] at hu; cases hu
    | succ k => rw [chainL, find_none.2 hz] at hu; cases hu
   · cases h1
   · exact chain_left h k e.par h1 u hu
theorem anc_left {A B : List Dev} {d : Dev} (h : WF (A ++ d :: B)) : ∀ u ∈ (chainO (A ++ d :: B) d.idx).drop 1, u ∈ A := by
 intro u hu
 rw [chainO_cons h (List.mem_append_right _ List.mem_cons_self)] at hu
 have hu2 : u ∈ chainO (A ++ d :: B) d.par := hu
 rcases (parA_append.1 h.par).2.1 with h1 | h1
 · rw [h1, chainO_none (zero_out h)] at hu2; cases hu2
 ·
  rw [List.append_nil] at h1
  exact chain_left h _ _ h1 u hu2
theorem bat_mono (L : List Dev) (dirty busy : List Int) : ∀ (l out : List Int), ∃ more, batR L dirty busy l out = out ++ more
 | [], out => ⟨[], by rw [batR, List.append_nil]⟩
 | n :: r, out => by
  rw [batR]
  split
  ·
   obtain ⟨m, hm⟩ := bat_mono L dirty busy r (out ++ [n])
   exact ⟨n :: m, by rw [hm, List.append_assoc]; rfl⟩
  · exact bat_mono L dirty busy r out
theorem bat_progress {L : List Dev} (h : WF L) (dirty : List Int) : (batR L dirty [] (ordR L dirty) [] = []) ↔ ordR L dirty = [] := by
 constructor
 ·
  intro hb
  rcases hl : ordR L dirty with _ | ⟨n, r⟩
  · rfl
  ·
   exfalso
   unfold ordR idxs at hl
   rcases hf : L.filter (fun d => dirty.contains d.idx) with _ | ⟨d, s⟩
   · rw [hf] at hl; cases hl
   ·
    rw [hf, List.map_cons] at hl
    injection hl with h1 h2
    obtain ⟨A, B, hL, hA, hd, -⟩ := List.filter_eq_cons_iff.1 hf
    have hok : okBat L dirty [] [] n = true := by
     unfold okBat
     have hch : ((chainO L n).drop 1).all (fun u => !dirty.contains u.idx && !([] : List Int).contains u.idx) = true := by
      rw [List.all_eq_true]
      intro u hu
      rw [← h1, hL] at hu
      have hua := anc_left (by rw [← hL]; exact h) u hu
      have := hA u hua
      cases hq : dirty.contains u.idx with
      | true => rw [hq] at this; exact absurd rfl this
      | false => rfl
     rw [hch]; rfl
    unfold ordR idxs at hb
    rw [hf, List.map_cons, h1, batR, hok, if_pos rfl] at hb
    obtain ⟨m, hm⟩ := bat_mono L dirty [] (s.map (·.idx)) ([] ++ [n])
    rw [hm] at hb
    cases hb
 ·
  intro hb
  rw [hb]; rfl
def BatOk (L : List Dev) (dirty busy : List Int) (n : Int) : Prop := n ∉ busy ∧ (∀ u ∈ (chainO L n).drop 1, u.idx ∉ dirty ∧ u.idx ∉ busy) ∧ ∀ b ∈ busy, sisB L n b = false
theorem okBat_iff {L : List Dev} {dirty busy out : List Int} {n : Int} : okBat L dirty busy out n = true ↔ BatOk L dirty busy n ∧ ∀ b ∈ out, sisB L n b = false := by
 unfold okBat BatOk
 simp only [Bool.and_eq_true, List.all_eq_true, Bool.not_eq_true']
 have hc : ∀ (l : List Int) (m : Int), l.contains m = false ↔ m ∉ l := fun l m => by
  rw [← Bool.not_eq_true, List.contains_iff_mem]
 simp only [hc]
 exact ⟨fun ⟨⟨⟨a, b⟩, c⟩, d⟩ => ⟨⟨a, b, c⟩, d⟩, fun ⟨⟨a, b, c⟩, d⟩ => ⟨⟨⟨a, b⟩, c⟩, d⟩⟩
theorem bat_facts (L : List Dev) (dirty busy : List Int) : ∀ (l out : List Int), (∀ n ∈ out, BatOk L dirty busy n) → (out.Pairwise fun a b => sisB L a b = false) →
  (∀ n ∈ batR L dirty busy l out, (n ∈ l ∨ n ∈ out) ∧ BatOk L dirty busy n) ∧ ((batR L dirty busy l out).Pairwise fun a b => sisB L a b = false) ∧
  (∀ n ∈ l, BatOk L dirty busy n → (∀ b ∈ batR L dirty busy l out, b ≠ n → sisB L n b = false) → n ∈ batR L dirty busy l out)
 | [], out, h1, h2 => ⟨fun n hn => ⟨.inr hn, h1 n hn⟩, h2, fun n hn => by cases hn⟩
 | n :: r, out, h1, h2 => by
  rw [batR]
  cases hk : okBat L dirty busy out n with
  | true =>
   rw [if_pos rfl]
   obtain ⟨hb, hs⟩ := okBat_iff.1 hk
   obtain ⟨q1, q2, q3⟩ := bat_facts L dirty busy r (out ++ [n]) (fun m hm => by
    rcases List.mem_append.1 hm with hm | hm
    · exact h1 m hm
    · rw [List.mem_singleton.1 hm]; exact hb) (List.pairwise_append.2 ⟨h2, List.pairwise_singleton _ _, fun a ha b hb2 => by rw [List.mem_singleton.1 hb2, sis_comm]; exact hs a ha⟩)
   refine ⟨fun m hm => ?_, q2, fun m hm hmb hms => ?_⟩
   ·
    obtain ⟨h3, h4⟩ := q1 m hm
    refine ⟨?_, h4⟩
    rcases h3 with h3 | h3
    · exact .inl (List.mem_cons_of_mem _ h3)
    ·
     rcases List.mem_append.1 h3 with h3 | h3
     · exact .inr h3
     · rw [List.mem_singleton.1 h3]; exact .inl List.mem_cons_self
   ·
    rcases List.mem_cons.1 hm with rfl | hm
    ·
     obtain ⟨more, hmo⟩ := bat_mono L dirty busy r (out ++ [m])
     rw [hmo]
     exact List.mem_append_left _ (List.mem_append_right _ (List.mem_singleton.2 rfl))
    · exact q3 m hm hmb hms
  | false =>
   rw [if_neg (by decide)]
   obtain ⟨q1, q2, q3⟩ := bat_facts L dirty busy r out h1 h2
   refine ⟨fun m hm => ?_, q2, fun m hm hmb hms => ?_⟩
   ·
    obtain ⟨h3, h4⟩ := q1 m hm
    exact ⟨h3.imp (List.mem_cons_of_mem _) id, h4⟩
   ·
    rcases List.mem_cons.1 hm with rfl | hm
    ·
     exfalso
     obtain ⟨more, hmo⟩ := bat_mono L dirty busy r out
     have : okBat L dirty busy out m = true := okBat_iff.2 ⟨hmb, fun b hb => by
      by_cases he : b = m
      · subst he; exact sis_self L b
      · exact hms b (by rw [hmo]; exact List.mem_append_left _ hb) he⟩
     rw [hk] at this; cases this
    · exact q3 m hm hmb hms
theorem ord_iff {L : List Dev} {l : List Int} {n : Int} : n ∈ ordR L l ↔ n ∈ idxs L ∧ n ∈ l := by
 constructor
 ·
  intro h
  obtain ⟨d, hd, rfl⟩ := List.mem_map.1 h
  obtain ⟨h1, h2⟩ := List.mem_filter.1 hd
  exact ⟨mem_idxs h1, List.contains_iff_mem.1 h2⟩
 ·
  rintro ⟨h1, h2⟩
  obtain ⟨d, hd, rfl⟩ := List.mem_map.1 h1
  exact mem_idxs (List.mem_filter.2 ⟨hd, List.contains_iff_mem.2 h2⟩)
def batch (L : List Dev) (dirty busy : List Int) : List Int := batR L dirty busy (ordR L dirty) []
theorem batch_iff {L : List Dev} (h : WF L) (dirty busy : List Int) {n : Int} (hn : n ∈ idxs L) :
  (n ∈ batch L dirty busy → n ∈ dirty ∧ BatOk L dirty busy n) ∧ (n ∈ dirty → BatOk L dirty busy n → (∀ b ∈ batch L dirty busy, b ≠ n → sisB L n b = false) → n ∈ batch L dirty busy) := by
 obtain ⟨q1, q2, q3⟩ := bat_facts L dirty busy (ordR L dirty) [] (fun _ h => by cases h) List.Pairwise.nil
 refine ⟨fun hb => ?_, fun hd hb hs => q3 n (ord_iff.2 ⟨hn, hd⟩) hb hs⟩
 obtain ⟨h1, h2⟩ := q1 n hb
 rcases h1 with h1 | h1
 · exact ⟨(ord_iff.1 h1).2, h2⟩
 · cases h1
end Go.Cold
namespace Go.Cold
open Go Go.RowKit
def restB (batch dirty : List Int) : List Int := dirty.filter fun n => !batch.contains n
structure EndAt (L : List Dev) (all taken dirty : List Int) : Prop where
 tree : ∀ n ∈ dirty, n ∈ idxs L
 nodup : dirty.Nodup
 apart : ∀ n ∈ taken, n ∉ dirty
 tnodup : taken.Nodup
 size : taken.length + dirty.length = all.length
 later : ∀ n ∈ taken, ∀ m ∈ dirty, aboveB L m n = false
 order : taken.Pairwise fun a b => aboveB L b a = false
theorem EndAt.start {L : List Dev} {all : List Int} (h1 : ∀ n ∈ all, n ∈ idxs L) (h2 : all.Nodup) : EndAt L all [] all :=
 ⟨h1, h2, fun _ h => by (cases h), List.nodup_nil, by simp, fun _ h => by (cases h), List.Pairwise.nil⟩
theorem bat_sub (L : List Dev) (dirty busy : List Int) : ∀ (l out : List Int), ∃ more, batR L dirty busy l out = out ++ more ∧ more.Sublist l
 | [], out => ⟨[], by rw [batR, List.append_nil], List.Sublist.refl _⟩
 | n :: r, out => by
  rw [batR]
  split
  ·
   obtain ⟨m, hm, hs⟩ := bat_sub L dirty busy r (out ++ [n])
   exact ⟨n :: m, by rw [hm, List.append_assoc]; rfl, hs.cons_cons n⟩
  ·
   obtain ⟨m, hm, hs⟩ := bat_sub L dirty busy r out
   exact ⟨m, hm, hs.cons n⟩
theorem batch_nodup {L : List Dev} (h : WF L) (dirty busy : List Int) : (batch L dirty busy).Nodup := by
 obtain ⟨m, hm, hs⟩ := bat_sub L dirty busy (ordR L dirty) []
 unfold batch
 rw [hm, List.nil_append]
 exact (ord_nodup h dirty).sublist hs
theorem filter_size {l b : List Int} (hl : l.Nodup) (hb : b.Nodup) (hs : ∀ n ∈ b, n ∈ l) : b.length + (restB b l).length = l.length := by
 have h1 : (l.filter fun n => b.contains n).length + (restB b l).length = l.length := by
  unfold restB
  have := List.length_eq_countP_add_countP (fun n => b.contains n) (l := l)
  rw [List.countP_eq_length_filter, List.countP_eq_length_filter] at this
  have e : (fun n : Int => decide (¬ b.contains n = true)) = fun n => !b.contains n := funext fun n => by cases b.contains n <;> rfl
  rw [e] at this
  omega
 have h2 : (l.filter fun n => b.contains n).length = b.length := by
  have p : (l.filter fun n => b.contains n).Perm b := by
   refine (List.perm_ext_iff_of_nodup (hl.sublist List.filter_sublist) hb).2 fun n => ?_
   rw [List.mem_filter, List.contains_iff_mem]
   exact ⟨fun h => h.2, fun h => ⟨hs n h, h⟩⟩
  exact p.length_eq
 omega
theorem EndAt.next {L : List Dev} (h : WF L) {all taken dirty : List Int} (he : EndAt L all taken dirty) : EndAt L all (taken ++ batch L dirty []) (restB (batch L dirty []) dirty) := by
 have hb : ∀ n ∈ batch L dirty [], n ∈ dirty ∧ BatOk L dirty [] n := fun n hn => by
  have h1 : n ∈ idxs L := by
   obtain ⟨q1, -, -⟩ := bat_facts L dirty [] (ordR L dirty) [] (fun _ h => by cases h) List.Pairwise.nil
   rcases (q1 n hn).1 with h2 | h2
   · exact (ord_iff.1 h2).1
   · cases h2
  exact (batch_iff h dirty [] h1).1 hn
 have hsub : ∀ n ∈ restB (batch L dirty []) dirty, n ∈ dirty ∧ n ∉ batch L dirty [] := fun n hn => by
  obtain ⟨h1, h2⟩ := List.mem_filter.1 hn
  exact ⟨h1, fun h3 => by rw [List.contains_iff_mem.2 h3] at h2; cases h2⟩
 have habove : ∀ n ∈ batch L dirty [], ∀ m ∈ dirty, aboveB L m n = false := fun n hn m hm => by
  cases ha : aboveB L m n with
  | false => rfl
  | true =>
   exfalso
   obtain ⟨e, he2, hi⟩ := List.any_eq_true.1 ha
   exact ((hb n hn).2.2.1 e he2).1 ((of_decide_eq_true hi) ▸ hm)
 refine ⟨fun n hn => he.tree n (hsub n hn).1, he.nodup.sublist List.filter_sublist, fun n hn hd => ?_, ?_, ?_, fun n hn m hm => ?_, ?_⟩
 ·
  rcases List.mem_append.1 hn with hn | hn
  · exact he.apart n hn (hsub n hd).1
  · exact (hsub n hd).2 hn
 ·
  refine List.nodup_append.2 ⟨he.tnodup, batch_nodup h _ _, fun a ha b hb2 e => ?_⟩
  subst e
  exact he.apart a ha (hb a hb2).1
 ·
  rw [List.length_append]
  have := filter_size he.nodup (batch_nodup h dirty []) (fun n hn => (hb n hn).1)
  have := he.size
  omega
 ·
  rcases List.mem_append.1 hn with hn | hn
  · exact he.later n hn m (hsub m hm).1
  · exact habove n hn m (hsub m hm).1
 ·
  refine List.pairwise_append.2 ⟨he.order, ?_, fun a ha b hb2 => he.later a ha b (hb b hb2).1⟩
  exact List.Pairwise.imp_of_mem (fun {a b} ha hb2 _ => habove a ha b (hb b hb2).1) (batch_nodup h dirty [])
theorem EndAt.more {L : List Dev} (h : WF L) {all taken dirty : List Int} (he : EndAt L all taken dirty) (hd : dirty ≠ []) : batch L dirty [] ≠ [] ∧ (restB (batch L dirty []) dirty).length < dirty.length := by
 have h1 : batch L dirty [] ≠ [] := fun hb => by
  have h2 := (bat_progress h dirty).1 hb
  rcases dirty with _ | ⟨n, r⟩
  · exact hd rfl
  ·
   have h3 : n ∈ ordR L (n :: r) := ord_iff.2 ⟨he.tree n List.mem_cons_self, List.mem_cons_self⟩
   rw [h2] at h3; cases h3
 refine ⟨h1, ?_⟩
 have hb : ∀ n ∈ batch L dirty [], n ∈ dirty := fun n hn => by
  obtain ⟨q1, -, -⟩ := bat_facts L dirty [] (ordR L dirty) [] (fun _ h => by cases h) List.Pairwise.nil
  rcases (q1 n hn).1 with h2 | h2
  · exact (ord_iff.1 h2).2
  · cases h2
 have := filter_size he.nodup (batch_nodup h dirty []) hb
 have : 0 < (batch L dirty []).length := List.length_pos_iff.2 h1
 omega
end Go.Cold
namespace Go.Cold
open Go Go.RowKit
end Go.Cold
namespace Go.Cold
open Go Go.RowKit
end Go.Cold
namespace Go.Cold
open Go Go.RowKit
end Go.Cold
namespace Go.Proofs.YtjpoljlgkgmdkaaGreatDoor
open Go.RowKit Go.Cold
end Go.Proofs.YtjpoljlgkgmdkaaGreatDoor
namespace Go.Cold
open Go Go.RowKit
end Go.Cold
namespace Go.Proofs.YtjpoljlgkgmdkaaGreatDoor
open Go.RowKit Go.Cold
def ifaceW (ev : Value) : Prop := ev = .nilIface ∨ ∃ te pe, ev = .iface te pe
def OkA (w : World) : Prop := (∃ ev, w.cell? ⟨2, 0, none⟩ = some ev ∧ ifaceW ev) ∧ (∃ ev, w.cell? ⟨3, 0, none⟩ = some ev ∧ ifaceW ev)
theorem OkA.lt {w : World} (h : OkA w) : 2 < w.heap.size ∧ 3 < w.heap.size := by
 obtain ⟨⟨e1, h1, _⟩, ⟨e2, h2, _⟩⟩ := h
 exact ⟨block_lt_of_cell h1, block_lt_of_cell h2⟩
theorem OkA.next {w w' : World} (h : OkA w) (hb : Below w.heap.size w w') : OkA w' := by
 obtain ⟨l1, l2⟩ := h.lt
 obtain ⟨⟨e1, h1, q1⟩, ⟨e2, h2, q2⟩⟩ := h
 exact ⟨⟨e1, (hb.cell (p := ⟨_, 0, none⟩) (by exact l1)).trans h1, q1⟩, ⟨e2, (hb.cell (p := ⟨_, 0, none⟩) (by exact l2)).trans h2, q2⟩⟩
end Go.Proofs.YtjpoljlgkgmdkaaGreatDoor
namespace Go.Cold
open Go Go.RowKit
end Go.Cold
namespace Go.Proofs.YtjpoljlgkgmdkaaGreatDoor
open Go.ChangeShapes Go.WideShapes Go.ChangeAt Go.RowKit

theorem own : ownKnob Tryz.prog.godebug = none := by kernel_rfl

section
variable {H : Type} {enc : TypeId × Value → H} {P : Program}
theorem post_of_below {f : Func} {s : ChangeSpec} {apart fresh handsOn again : Bool} {W W' : World} {args : Array Value} {v : Value} {ds gs : List (DataW H)} {before pa pv : List MemPlace}
  (hW : DataW.Whole enc P f.params.toList s.vars apart W args.toList ds gs before)
  (hres : ∀ (b : Nat) (sp : Nat → Bool) (hd : Bool), DataW.TrodAll enc P W' b sp hd f.resultTypes.toList (v.resultList f.resultTypes.size) (s.fn H (ds ++ gs)).results [])
  (hargs : ∀ sp : Nat → Bool, (∀ p ∈ before, sp p.block = true) → DataW.TrodAll enc P W' 0 sp true f.params.toList args.toList (s.fn H (ds ++ gs)).args pa)
  (hvars : ∀ sp : Nat → Bool, (∀ p ∈ before, sp p.block = true) → DataW.TrodVars enc P W' sp s.vars (s.fn H (ds ++ gs)).vars pv)
  (hps : before = pa ++ pv) (hb : Below W.heap.size W W')
  (hok : ∀ (j : Nat) (t : TypeId) (r : Value), f.resultTypes[j]? = some t → (v.resultList f.resultTypes.size)[j]? = some r → Value.okWide P W' .any 0 t r) :
  s.post enc P f apart fresh handsOn again W args v W' := by
 have hlt : ∀ p ∈ before, p.block < W.heap.size := fun p hp => hW.lt p hp
 have hold : ∀ p ∈ before, (fun b => decide (b < W.heap.size)) p.block = true := fun p hp => by simpa using hlt p hp
 refine ⟨ds, gs, before, [], pa, pv, hW, hres _ _ _, hargs _ hold, hvars _ hold, World.keptBut_mono (fun p hp => ⟨hp, ?_⟩) (hb.frame (· ∈ before)), fun _ => ?_⟩
 ·
  rw [hps, List.mem_append] at hp
  exact Or.inr hp
 ·
  obtain ⟨_, _, _, _, _, hz, hn⟩ := hW
  refine ⟨hok, _, _, ([] ++ pa) ++ pv, ⟨[] ++ pa, pv, trodAll_append (hargs _ (fun _ _ => rfl)) (hres _ _ _), hvars _ (fun _ _ => rfl), rfl, ?_, ?_⟩, ?_⟩
  ·
   intro b off hp
   have hin : MemPlace.cell b off ∈ before := by rw [hps]; simpa using hp
   rw [hb.frozen (hlt _ hin)]
   exact hz b off hin
  ·
   intro ha
   have := hn ha
   rw [hps] at this
   simpa using this
  ·
   intro p hp _
   rw [hps]
   simpa using hp
theorem witness_row_shaped {C : Checked} {os : Os} {f : FuncId} {fn : Func} {s : OpenSpec} {conds : List PathCond} {apart : Bool} {laid : List (String × DataW Unit)} (modest : Bool) (w0 : World) (args : Array Value) (hos : w0.os = os)
  (hsh : (w0.forCall (fun _ _ => 0) ⟨#[], args, []⟩).Shaped C.prog)
  (hok : Input.okWideB C.prog (w0.forCall (fun _ _ => 0) ⟨#[], args, []⟩) f ⟨#[], args, []⟩ = true)
  (hrow : s.preRow enc C.prog fn conds apart laid (w0.forCall (fun _ _ => 0) ⟨#[], args, []⟩).memory args) :
  ∃ (w : World) (tape : Tape) (i : Input), w.os = os ∧ (w.forCall tape i).Shaped C.prog ∧ i.vars = [] ∧ Input.okWide C.prog (w.forCall tape i) .any w.heap.size f i ∧
   s.preRow enc C.prog fn conds apart laid (w.forCall tape i).memory i.args ∧ ({ modest := modest } : Assume).holds C.prog (lone (Frame.enter C.prog f i.args .normal) [] (w.forCall tape i)) :=
 ⟨w0, fun _ _ => 0, ⟨#[], args, []⟩, hos, hsh, rfl, (Input.okWide_of_okWideB hok).2, hrow, by
  simp only [Assume.holds]
  exact ⟨by simp, by simp, fun _ => Modest.zero, by simp, by simp⟩⟩
end

section
variable {H : Type} {enc : TypeId × Value → H} {P : Program}
theorem trodAll_stays (hl : laidOutB P = true) {W W' : World} {sp' : Nat → Bool} : ∀ {ts : List TypeId} {vs : List Value} {ds : List (DataW H)} {ps : List MemPlace},
  (ts.all fun t => P.readableRec t && decide (t < P.types.size)) = true → DataW.TrodAll enc P W 0 (fun _ => true) true ts vs ds ps → (∀ p ∈ ps, W.sameAt W' p) → (∀ p ∈ ps, sp' p.block = true) → DataW.TrodAll enc P W' 0 sp' true ts vs ds ps
 | [], _, _, _, _, h, _, _ => by
  obtain ⟨rfl, rfl, rfl⟩ := trodAll_nil h
  exact trodAll_mk0
 | t :: ts, _, _, _, hr, h, hs, hsp => by
  obtain ⟨v, vs, d, ds, p, q, rfl, rfl, rfl, h0, h1⟩ := trodAll_cons h
  simp only [List.all_cons, Bool.and_eq_true, decide_eq_true_eq] at hr
  exact trodAll_cons_mk (WideElems.Trod_stays hl hr.1.1 hr.1.2 h0 (fun x hx => hs x (List.mem_append_left _ hx)) (fun x hx => hsp x (List.mem_append_left _ hx)))
   (trodAll_stays hl (by simpa using hr.2) h1 (fun x hx => hs x (List.mem_append_right _ hx)) (fun x hx => hsp x (List.mem_append_right _ hx)))
theorem trodAll_length {W : World} {sp : Nat → Bool} : ∀ {ts : List TypeId} {vs : List Value} {ds : List (DataW H)} {ps : List MemPlace}, DataW.TrodAll enc P W 0 sp true ts vs ds ps → ds.length = ts.length
 | [], _, _, _, h => by obtain ⟨_, rfl, _⟩ := trodAll_nil h; rfl
 | t :: ts, _, _, _, h => by
  obtain ⟨v, vs, d, ds, p, q, rfl, rfl, rfl, _, h1⟩ := trodAll_cons h
  have := trodAll_length h1
  simpa using this
theorem open_strs {W : World} {base : Nat} {t e : TypeId} {v : Value} {d : DataW H} {ps : List MemPlace} (ht : P.underlying t = some (.slice e)) (he : P.underlying e = some .string) (hc : P.cellsOf e = 1)
  (hok : Value.okWide P W .any base t v) (h : DataW.Trod enc P W 0 (fun _ => true) true t v d ps) (hlt : ∀ p ∈ ps, p.block < W.heap.size) :
  ∃ A c, ∃ xs : List ByteArray, v = .slice A xs.length c ∧ Cold.Sl W W.heap.size A c xs := by
 obtain ⟨a0, len, cap, rfl⟩ := okWide_slice ht hok
 obtain ⟨fuel, hf⟩ := h
 rcases open_strings ht he hc hf with ⟨hcs, hx⟩ | ⟨a, len', cap', ss, hcs, _, hl, hm, hlen, hx, hcell, hws⟩
 ·
  simp [Value.cells] at hcs
  obtain ⟨rfl, rfl, rfl⟩ := hcs
  exact ⟨none, 0, [], rfl, Cold.Sl.nil_⟩
 ·
  simp [Value.cells] at hcs
  obtain ⟨rfl, rfl, rfl⟩ := hcs
  simp only [if_true] at hlen
  simp only [Prod.mk.injEq] at hx
  obtain ⟨_, rfl⟩ := hx
  have htl : (ss.take len).length = len := by rw [List.length_take]; omega
  refine ⟨some a, cap, ss.take len, by rw [htl], ⟨by rw [htl]; exact hl, hm, fun h0 => ?_⟩⟩
  rw [htl] at h0
  have hb : a.block < W.heap.size := hlt (.cell a.block (a.off + 0)) (MemPlace.mem_row.2 ⟨0, by omega, rfl⟩)
  have h00 := hcell 0 (by omega)
  have hspot : a.spot = none := by
   have e : a.add 0 = a := by simp [Addr.add]
   rw [e] at h00
   cases hs : a.spot with
   | none => rfl
   | some z => simp [World.cell?, hs] at h00; split at h00 <;> simp_all
  obtain ⟨b, o, sp⟩ := a
  simp only at hspot hb
  subst hspot
  refine ⟨b, o, rfl, hb, fun i x hx => ?_⟩
  rw [List.getElem?_take] at hx
  split at hx
  case isFalse => cases hx
  have hi : i < ss.length := (List.getElem?_eq_some_iff.1 hx).1
  refine ⟨[.string x], ⟨rfl, hws x (List.mem_of_getElem? hx)⟩, fun j u hu => ?_⟩
  have hj : j = 0 := by
   rcases j with _ | j
   · rfl
   · simp at hu
  subst hj
  simp at hu
  subst hu
  have h1 := hcell i hi
  rw [Cold.add_mk] at h1
  have h2 : ss.getD i ByteArray.empty = x := by simp [List.getD, hx]
  rw [h2] at h1
  simpa [Cold.Rep.size] using h1
end

theorem gES : Tryz.prog.globalNamed "strconv.ErrSyntax" = some 2 := by kernel_rfl
theorem gESType : (Tryz.prog.globals[2]?).map (·.type) = some 114 := by kernel_rfl
theorem gER : Tryz.prog.globalNamed "strconv.ErrRange" = some 3 := by kernel_rfl
theorem gERType : (Tryz.prog.globals[3]?).map (·.type) = some 114 := by kernel_rfl
theorem rowErr (u : TypeId) (h : Tryz.prog.typeName? 3 u = some "*errors.errorString") : u = 224 :=
 typeName_ptr_named (nm := "errors.errorString") (by rw [show "*" ++ "errors.errorString" = "*errors.errorString" by decide]; kernel_rfl) (by kernel_rfl) (by decide) u (by rw [show "*" ++ "errors.errorString" = "*errors.errorString" by decide]; exact h)
theorem oka_of_laid {W : World} (h : laidMetH Tryz.prog [("math/bits.deBruijn32tab", Rows.laid_math_bits_deBruijn32tab), ("math/bits.deBruijn64tab", Rows.laid_math_bits_deBruijn64tab), ("internal/strconv.uint64pow10", Rows.laid_internal_strconv_uint64pow10), ("unicode/utf8.acceptRanges", Rows.laid_unicode_utf8_acceptRanges), ("strconv.ErrRange", Rows.laid_strconv_ErrRange), ("strconv.ErrSyntax", Rows.laid_strconv_ErrSyntax), ("unicode.CaseRanges", Rows.laid_unicode_CaseRanges), ("unicode/utf8.first", Rows.laid_unicode_utf8_first)] W) : OkA W := by
 have h0 : laidMet Tryz.prog [("math/bits.deBruijn32tab", Rows.laid_math_bits_deBruijn32tab), ("math/bits.deBruijn64tab", Rows.laid_math_bits_deBruijn64tab), ("internal/strconv.uint64pow10", Rows.laid_internal_strconv_uint64pow10), ("unicode/utf8.acceptRanges", Rows.laid_unicode_utf8_acceptRanges), ("strconv.ErrRange", Rows.laid_strconv_ErrRange), ("strconv.ErrSyntax", Rows.laid_strconv_ErrSyntax), ("unicode.CaseRanges", Rows.laid_unicode_CaseRanges), ("unicode/utf8.first", Rows.laid_unicode_utf8_first)] W := h
 have h2 := h0.tail.tail.tail.tail
 obtain ⟨a1, s1, hv1, -, -, -⟩ := laid_sentinel h2 gER gERType Tryz.underlying114 rowErr Tryz.underlying224 Tryz.underlying226 rfl rfl Tryz.underlying9 (by kernel_rfl) (by kernel_rfl)
 obtain ⟨a0, s0, hv0, -, -, -⟩ := laid_sentinel h2.tail gES gESType Tryz.underlying114 rowErr Tryz.underlying224 Tryz.underlying226 rfl rfl Tryz.underlying9 (by kernel_rfl) (by kernel_rfl)
 exact ⟨⟨_, by have h0 := World.var?_cell gES hv0 0; simpa using h0, .inr ⟨_, _, rfl⟩⟩, ⟨_, by have h0 := World.var?_cell gER hv1 0; simpa using h0, .inr ⟨_, _, rfl⟩⟩⟩

theorem laidOut : laidOutB Tryz.prog = true := by kernel_rfl

set_option maxRecDepth 100000 in
theorem law_lifted {f : FuncId} {fn : Func} {s : ChangeSpec} {laid : List (String × DataW Unit)} (os : Os) (started : os.Started) (H : Type) (enc : TypeId × Value → H) (F : Stop.Interp)
  (noInit : Tryz.prog.inits.idxOf? f = none) (hfn : Tryz.prog.funcs[f]? = some fn) (args0 : Array Value)
  (hsh0 : ((World.laidAll Tryz.prog os laid).forCall (fun _ _ => 0) ⟨#[], args0, []⟩).Shaped Tryz.prog)
  (hok0 : Input.okWideB Tryz.prog ((World.laidAll Tryz.prog os laid).forCall (fun _ _ => 0) ⟨#[], args0, []⟩) f ⟨#[], args0, []⟩ = true)
  (hrow0 : (OpenSpec.ofChange s).preRow enc Tryz.prog fn [] false laid ((World.laidAll Tryz.prog os laid).forCall (fun _ _ => 0) ⟨#[], args0, []⟩).memory args0)
  (hvars : s.vars = []) (hres : fn.resultTypes = #[4])
  (hs : ∀ ds : List (DataW H), ds.length = fn.params.toList.length → s.fn H (ds ++ []) = { results := [.lit (.bool true)], args := ds })
  (hr : (fn.params.toList.all fun t => Tryz.prog.readableRec t && decide (t < Tryz.prog.types.size)) = true)
  (law : ∀ (W : World) (base : Nat) (args : Array Value) (ds : List (DataW H)) (ps : List MemPlace),
   (∀ (j : Nat) t v, fn.params[j]? = some t → args[j]? = some v → Value.okWide Tryz.prog W .any base t v) →
   DataW.TrodAll enc Tryz.prog W 0 (fun _ => true) true fn.params.toList args.toList ds ps → (∀ p ∈ ps, p.block < W.heap.size) →
   (DataW.weightsEach Tryz.checked.prog (fn.params.toList ++ (OpenSpec.ofChange s).bare.plain.varTypes Tryz.checked.prog) (ds ++ [])).all (· ≤ reachBytes) = true → W.ShapedOpen Tryz.checked.prog → laidMetH Tryz.prog laid W →
   Calls Tryz.prog f args W fun e W' => e = .returned (.bool true) ∧ Below W.heap.size W W') :
  ReturnsInHanded {} Tryz.checked os f .any ((OpenSpec.ofChange s).preRow enc Tryz.prog fn [] false laid) (((OpenSpec.ofChange s).at F).post enc Tryz.prog fn false true false false) := by
 refine returnsInHanded_of_row (C := Tryz.checked) (s := OpenSpec.ofChange s) own started noInit hfn
  (witness_row_shaped (enc := enc) (C := Tryz.checked) false (World.laidAll Tryz.prog os laid) args0 (World.laidAll_os _ _ _) hsh0 hok0 hrow0) ?_
 intro W base args ds gs before hval hW _ _ hz hlaid hsh _
 have hlt : ∀ p ∈ before, p.block < W.heap.size := fun p hp => hW.lt p hp
 have hW' := hW
 obtain ⟨p, q, hA0, hV, rfl, hfz, hnd⟩ := hW
 have hA : DataW.TrodAll enc Tryz.prog W 0 (fun _ => true) true fn.params.toList args.toList ds p := hA0
 have hv : (OpenSpec.ofChange s).vars = [] := hvars
 rw [hv] at hV
 obtain ⟨rfl, rfl⟩ := trodVars_none hV
 simp only [List.append_nil] at hW' hlt
 have hlen : ds.length = fn.params.toList.length := trodAll_length hA
 refine (law W base args ds p hval hA hlt hz hsh hlaid).mono fun e W' ⟨he, hb⟩ => ?_
 subst he
 have e1 := hs ds hlen
 have hrt : fn.resultTypes.toList = [4] := by rw [hres]
 have hrl : (Value.bool true).resultList fn.resultTypes.size = [.bool true] := by rw [hres]; rfl
 refine ⟨_, rfl, post_of_below (s := s) (pa := p) (pv := []) hW' (fun _ _ _ => ?_) (fun sp hsp => ?_) (fun _ _ => ?_) (by simp) hb ?_⟩
 · rw [hrt, hrl, e1]; exact trodAll_mk1 (shut_bool Tryz.underlying4 _)
 · rw [e1]; exact trodAll_stays laidOut hr hA (fun x hx => hb.same (hlt x hx)) (fun x hx => hsp x hx)
 · rw [e1, hvars]; rfl
 ·
  intro j t r hj hr'
  rw [hres] at hj
  rw [hrl] at hr'
  rcases j with _ | j
  ·
   simp at hj hr'
   subst hj; subst hr'
   exact okWide_bool_mk Tryz.underlying4 _
  · simp at hr'

end Go.Proofs.YtjpoljlgkgmdkaaGreatDoor
namespace Go.Proofs.YtjpoljlgkgmdkaaGreatDoor
open Go.ChangeShapes Go.WideShapes Go.ChangeAt Go.RowKit
section
variable {H : Type} {enc : TypeId × Value → H} {P : Program}
theorem open_nums {W : World} {base : Nat} {t e : TypeId} {v : Value} {d : DataW H} {ps : List MemPlace} (ht : P.underlying t = some (.slice e)) (he : P.underlying e = some (.int .i64)) (hc : P.cellsOf e = 1)
  (hok : Value.okWide P W .any base t v) (h : DataW.Trod enc P W 0 (fun _ => true) true t v d ps) (hlt : ∀ p ∈ ps, p.block < W.heap.size) :
  ∃ A c, ∃ xs : List Int, v = .slice A xs.length c ∧ Cold.Sl W W.heap.size A c xs := by
 obtain ⟨a0, len, cap, rfl⟩ := okWide_slice ht hok
 obtain ⟨fuel, hf⟩ := h
 rcases open_ints ht he hc hf with ⟨hcs, hx⟩ | ⟨a, len', cap', ss, hcs, _, hl, hm, hlen, hx, hcell, hws⟩
 ·
  simp [Value.cells] at hcs
  obtain ⟨rfl, rfl, rfl⟩ := hcs
  exact ⟨none, 0, [], rfl, Cold.Sl.nil_⟩
 ·
  simp [Value.cells] at hcs
  obtain ⟨rfl, rfl, rfl⟩ := hcs
  simp only [if_true] at hlen
  simp only [Prod.mk.injEq] at hx
  obtain ⟨_, rfl⟩ := hx
  have htl : (ss.take len).length = len := by rw [List.length_take]; omega
  refine ⟨some a, cap, ss.take len, by rw [htl], ⟨by rw [htl]; exact hl, hm, fun h0 => ?_⟩⟩
  rw [htl] at h0
  have hb : a.block < W.heap.size := hlt (.cell a.block (a.off + 0)) (MemPlace.mem_row.2 ⟨0, by omega, rfl⟩)
  have h00 := hcell 0 (by omega)
  have hspot : a.spot = none := by
   have e : a.add 0 = a := by simp [Addr.add]
   rw [e] at h00
   cases hs : a.spot with
   | none => rfl
   | some z => simp [World.cell?, hs] at h00; split at h00 <;> simp_all
  obtain ⟨b, o, sp⟩ := a
  simp only at hspot hb
  subst hspot
  refine ⟨b, o, rfl, hb, fun i x hx => ?_⟩
  rw [List.getElem?_take] at hx
  split at hx
  case isFalse => cases hx
  have hi : i < ss.length := (List.getElem?_eq_some_iff.1 hx).1
  have hwf := hws x (List.mem_of_getElem? hx)
  simp only [Lit.wf, Bool.and_eq_true, decide_eq_true_eq] at hwf
  refine ⟨[.int .i64 x], ⟨rfl, hwf.1, hwf.2⟩, fun j u hu => ?_⟩
  have hj : j = 0 := by
   rcases j with _ | j
   · rfl
   · simp at hu
  subst hj
  simp at hu
  subst hu
  have h1 := hcell i hi
  rw [Cold.add_mk] at h1
  have h2 : ss.getD i 0 = x := by simp [List.getD, hx]
  rw [h2] at h1
  simpa [Cold.Rep.size] using h1
end
end Go.Proofs.YtjpoljlgkgmdkaaGreatDoor
