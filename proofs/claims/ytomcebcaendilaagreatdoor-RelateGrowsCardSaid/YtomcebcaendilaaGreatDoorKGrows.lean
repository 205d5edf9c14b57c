/-
  RelateGrows: row and card.
 Conditions: those of the given row and card (the listed variables of the library hold what the text lays), nothing else.
-/
import Derived.Test.YtomcebcaendilaaGreatDoorIRH
import Derived.Test.YtomcebcaendilaaGreatDoorIRG
import Derived.Test.YtomcebcaendilaaGreatDoorIL
import Derived.Test.YtomcebcaendilaaGreatDoorIW
import Derived.Test.YtomcebcaendilaaGreatDoorIV
import Derived.Test.YtomcebcaendilaaGreatDoorIU
import Derived.Test.YtomcebcaendilaaGreatDoorIM
import Derived.ShutString
set_option linter.unusedSimpArgs false
set_option linter.unusedVariables false
namespace Go.Cold
open Go Go.RowKit
/-- Where the law stands: three trees in three boxes. -/
def GrS (w : World) (g1 g2 g3 : Nat) (A1 : Option Addr) (c1 : Nat) (L1 : List Dev) (A2 : Option Addr) (c2 : Nat) (L2 : List Dev) (A3 : Option Addr) (c3 : Nat) (L3 : List Dev) (wr : World) : Prop :=
 Below w.heap.size w wr ∧ BoxL wr g1 [.slice A1 L1.length c1] ∧ BoxL wr g2 [.slice A2 L2.length c2] ∧ BoxL wr g3 [.slice A3 L3.length c3] ∧ Sl wr wr.heap.size A1 c1 L1 ∧ Sl wr wr.heap.size A2 c2 L2 ∧ Sl wr wr.heap.size A3 c3 L3
theorem GrS.below {w wr wx : World} {g1 g2 g3 c1 c2 c3 : Nat} {A1 A2 A3 : Option Addr} {L1 L2 L3 : List Dev} (h : GrS w g1 g2 g3 A1 c1 L1 A2 c2 L2 A3 c3 L3 wr) (hb : Below wr.heap.size wr wx) : GrS w g1 g2 g3 A1 c1 L1 A2 c2 L2 A3 c3 L3 wx :=
 ⟨h.1.trans (hb.mono h.1.size), h.2.1.kept (grown_none hb) (fun e => by cases e), h.2.2.1.kept (grown_none hb) (fun e => by cases e), h.2.2.2.1.kept (grown_none hb) (fun e => by cases e), h.2.2.2.2.1.next (Nat.le_refl _) hb, h.2.2.2.2.2.1.next (Nat.le_refl _) hb, h.2.2.2.2.2.2.next (Nat.le_refl _) hb⟩
theorem idx_cells {w : World} {B c b o : Nat} {L : List Dev} (h : Sl w B (some ⟨b, o, none⟩) c L) : ∀ (m : Nat) (hm : m < L.length), w.cell? ⟨b, o + m * 10, none⟩ = some (.int .i64 (L[m]'hm).idx) := fun m hm => by
 obtain ⟨b', o', e, -, A2, c2, -, -, hc⟩ := h.dev hm
 cases e
 exact hc.1
theorem idx_keep {w wx : World} {b o : Nat} {L : List Dev} (h : ∀ (m : Nat) (hm : m < L.length), w.cell? ⟨b, o + m * 10, none⟩ = some (.int .i64 (L[m]'hm).idx)) (hb : Below w.heap.size w wx) : ∀ (m : Nat) (hm : m < L.length), wx.cell? ⟨b, o + m * 10, none⟩ = some (.int .i64 (L[m]'hm).idx) := fun m hm =>
 (hb.cell (p := ⟨b, o + m * 10, none⟩) (block_lt_of_cell (h m hm))).trans (h m hm)
theorem idx_inj_nodup : ∀ {L : List Dev} {x y : Dev}, (L.map (·.idx)).Nodup → x ∈ L → y ∈ L → x.idx = y.idx → x = y
 | [], _, _, _, hx, _, _ => by cases hx
 | d :: r, x, y, hu, hx, hy, e => by
  rw [List.map_cons, List.nodup_cons] at hu
  rcases List.mem_cons.1 hx with h1 | h1 <;> rcases List.mem_cons.1 hy with h2 | h2
  · rw [h1, h2]
  · exact absurd (List.mem_map.2 ⟨y, h2, by rw [← e, h1]⟩) hu.1
  · exact absurd (List.mem_map.2 ⟨x, h1, by rw [e, h2]⟩) hu.1
  · exact idx_inj_nodup hu.2 h1 h2 e
theorem idx_inj {L : List Dev} (h : WF L) {x y : Dev} (hx : x ∈ L) (hy : y ∈ L) (e : x.idx = y.idx) : x = y := by
 exact idx_inj_nodup (by have hu := h.uniq; unfold idxs at hu; exact hu) hx hy e
theorem rem_has {L : List Dev} (h : WF L) {t : Int} {x : Dev} (hx : x ∈ L) (hf : (findD (remL L t) x.idx).isSome = true) : x ∈ remL L t := by
 obtain ⟨d, hd⟩ := Option.isSome_iff_exists.1 hf
 obtain ⟨h1, h2⟩ := find_some hd
 have hdL : d ∈ L := (List.mem_filter.1 h1).1
 have : d = x := idx_inj h hdL hx h2
 exact this ▸ h1
theorem cell_tr {w w' : World} {b i : Nat} {v : Value} (h : w.cell? ⟨b, i, none⟩ = some v) (hb : Below w.heap.size w w') : w'.cell? ⟨b, i, none⟩ = some v := (hb.cell (p := ⟨b, i, none⟩) (block_lt_of_cell h)).trans h
theorem below_tr {a b c : World} (h1 : Below a.heap.size a b) (h2 : Below b.heap.size b c) : Below a.heap.size a c := h1.trans (h2.mono h1.size)
/-- Behind the removal: the tree's box, the smaller tree's box. -/
def GrC (w w2 : World) (g1 g2 : Nat) (A1 : Option Addr) (c1 : Nat) (L1 : List Dev) (A2 : Option Addr) (c2 : Nat) (L2 : List Dev) (wr : World) : Prop :=
 Below w.heap.size w wr ∧ Below w2.heap.size w2 wr ∧ BoxL wr g1 [.slice A1 L1.length c1] ∧ BoxL wr g2 [.slice A2 L2.length c2] ∧ Sl wr wr.heap.size A2 c2 L2
theorem grow_zz {L : List Dev} {n : Int} (h : VT L) (hl : L.length ≤ 10) (hn : n ≤ 10) (hm : MadeL n L) : insE L zzD = 0 :=
 zz_ins h (by omega) (fun d hd => by have := (hm d hd).1; omega) (fun d hd => (hm d hd).2.1.ne)
end Go.Cold
namespace Go.Proofs.YtomcebcaendilaaGreatDoor
open Go.RowKit Go.Cold
set_option maxRecDepth 100000 in
set_option maxHeartbeats 8000000 in
theorem lawGrows_any (A : Option Addr) (c : Nat) (xs : List Int) (at_ : Int) (w : World) (hok : Ok w) (hoa : OkA w) (hx : Sl w w.heap.size A c xs) (hat : okI at_) :
  Calls Tryz.prog 11 #[.slice A xs.length c, .int .i64 at_] w fun e w' => e = .returned (.bool true) ∧ Below w.heap.size w w' := by
 have HAT := Lib.hid (show okI at_ from hat); clear hat
 have HOK := Lib.hid hok; have HOA := Lib.hid hoa; have HX := Lib.hid hx
 clear hok hoa hx 
 go_enter Tryz.func11, Tryz.ntmps11
 go_upto_region 2 with fail
 have htape := tape_new HX.out
 have HNG := Lib.hid (notG_of HOK.out)
 obtain ⟨w1, hw1⟩ : ∃ z, w.alloc (.cells #[.slice A xs.length c, .int .i64 0] 31) = z := ⟨_, rfl⟩
 rw [hw1] at htape
 have hb1 : Below w.heap.size w w1 := by rw [← hw1]; exact (Below.refl _ _).alloc (Nat.le_refl _) _
 have HGw1 := Lib.hid (show w1.heap.size = w.heap.size + 1 by rw [← hw1]; simp)
 try simp only [hw1]
 have HTAPE := Lib.hid htape
 clear hw1 htape
 have HSw1 := Lib.hid (show w.heap.size ≤ w1.heap.size from hb1.size)
 have HBw1 := Lib.hid hb1
 clear hb1
 go_wp2_with fail
 refine (TreeM_any xs 0 w.heap.size w.heap.size 10 w1 (by decide) HTAPE.out ⟨by decide, by decide⟩ (HOK.out.next HBw1.out) HNG.out).mono ?_
 rintro e w2 ⟨AT, cT, L, k1, rfl, ⟨hvt, hmd⟩, hln, hsl, hk1, htp, hg2⟩
 have hb2 : Below w.heap.size w w2 := below_of_grown HBw1.out hg2 HBw1.out.size (Nat.le_refl _)
 have HSB2 := Lib.hid (show w1.heap.size ≤ w2.heap.size from hg2.size)
 have hx1 := hsl.1; have hx2 := hsl.2.1
 unfold maxLen at hx2
 have HVT := Lib.hid hvt; have HMD := Lib.hid hmd; have HLN := Lib.hid (show L.length ≤ 10 by omega); have HSL := Lib.hid (hsl.sl (B := w2.heap.size) (fun x hx => hx.2))
 have HBw2 := Lib.hid hb2
 clear HTAPE hvt hmd hln hsl hk1 htp hg2 hb2
 go_upto_region 2 with fail
 obtain ⟨w3, hw3⟩ : ∃ w3, w2.alloc (.cells #[.slice AT L.length cT] 27) = w3 := ⟨_, rfl⟩
 have hbw3 : Below w2.heap.size w2 w3 := by rw [← hw3]; exact (Below.refl _ _).alloc (Nat.le_refl _) _
 have HGw3 := Lib.hid (show w3.heap.size = w2.heap.size + 1 by rw [← hw3]; simp)
 have HXtw3 := Lib.hid (show BoxL w3 w2.heap.size [.slice AT L.length cT] from box_mk hw3)
 try simp only [hw3]
 have HSTEPw3 := Lib.hid hbw3
 have HSw3 := Lib.hid (show w2.heap.size ≤ w3.heap.size from hbw3.size)
 have HBw3 := Lib.hid (HBw2.out.trans (hbw3.mono HBw2.out.size))
 have HSLw3 := Lib.hid ((HSL.out).next (Nat.le_refl _) hbw3)
 clear hw3 hbw3
 try rw [show w2.heap.size + 1 = w3.heap.size from HGw3.out.symm]
 have HLA := Lib.hid (show ∀ d ∈ L, d.attrs.length ≤ 1000000 from fun d hd => attrs_le (HVT.out.chk d hd))
 have ct0 := HXtw3.out.1 0 _ rfl
 by_cases h0 : L.length = 0
 ·
  have i0 : ((L.length : Int) == 0) = true := by rw [h0]; rfl
  go_wp2_with fail
  refine (known_any _ (HOK.out.next HBw3.out) (HOA.out.next HBw3.out)).mono ?_
  rintro e w' ⟨rfl, hb⟩
  go_wp2
  go_ret
  exact ⟨by try rfl, HBw3.out.trans (hb.mono HBw3.out.size)⟩
 have i0 : ((L.length : Int) == 0) = false := by simp; intro e; apply h0; rw [e]; rfl
 have hl0 : 0 < L.length := by omega
 go_upto_region 4 with fail
 clear i0
 obtain ⟨b3, o3, rfl, hb3, A9, c9, -, -, -⟩ := HSLw3.out.dev hl0
 clear hb3
 obtain ⟨m, hm⟩ : ∃ m : Nat, foldI at_ (L.length : Int) = m := ⟨(foldI at_ (L.length : Int)).toNat, by have := foldI_pos (v := at_) (n := (L.length : Int)) (by omega); omega⟩
 have hml : m < L.length := by have := foldI_pos (v := at_) (n := (L.length : Int)) (by omega); omega
 have HML := Lib.hid hml; have HMF := Lib.hid hm
 obtain ⟨n, hn⟩ : ∃ n, (L[m]'hml).idx = n := ⟨_, rfl⟩
 have HNI := Lib.hid (show n ∈ idxs L by rw [← hn]; exact mem_idxs (List.getElem_mem hml))
 have HON := Lib.hid (show okI n by rw [← hn]; have := (HVT.out.small _ (List.getElem_mem hml)).2; unfold okI; omega)
 have HNN := Lib.hid (show ∀ (wz : World) , wz.cell? ⟨b3, o3 + m * 10, none⟩ = some (.int .i64 (L[m]'hml).idx) → wz.cell? ⟨b3, o3 + m * 10, none⟩ = some (.int .i64 n) from fun wz h => by rw [h, hn])
 have i3 : (m : Int) < (L.length : Int) := by omega
 have HIC := Lib.hid (HNN.out _ (idx_cells HSLw3.out m hml))
 clear hm hn HNN hml
 have HBT := Lib.hid (show Below w2.heap.size w2 w3 from HSTEPw3.out)
 clear ct0
 go_cut [6, 7] (fun s6 s7 wx => ∃ (g6 : Nat) (Au : Option Addr) (cu : Nat) (U : List Dev), s6 = .pointer (some ⟨g6, 0, none⟩) ∧ s7 = .int .i64 0 ∧ Hid (remL L n = U) ∧ Hid (w2.heap.size < g6) ∧ Hid (GrC w w2 w2.heap.size g6 (some ⟨b3, o3, none⟩) cT L Au cu U wx))
 case first =>
  refine wp_region_held_drew (S := fun w' => BoxL w' w2.heap.size [.slice (some ⟨b3, o3, none⟩) L.length cT] ∧ w'.cell? ⟨b3, o3 + m * 10, none⟩ = some (.int .i64 n)) (by kernel_rfl) ⟨HXtw3.out.drew, by show (World.drew w3).cell? _ = _; exact HIC.out⟩ (fun hS0 => ?_)
  obtain ⟨wd, hwd⟩ : ∃ z, World.drew w3 = z := ⟨_, rfl⟩
  rw [hwd] at hS0 ⊢
  have hb_ : Below w3.heap.size w3 wd := by rw [← hwd]; exact below_drewN_self _ _ 1
  clear hwd hS0
  have HSwd := Lib.hid (show w3.heap.size ≤ wd.heap.size from hb_.size)
  have HBwd := Lib.hid (HBw3.out.trans (hb_.mono HBw3.out.size))
  have twd := Lib.hid (HXtw3.out.kept (grown_none hb_) (fun e => by cases e))
  have HSLwd := Lib.hid ((HSLw3.out).next (Nat.le_refl _) hb_)
  have HICwd := Lib.hid (cell_tr HIC.out hb_)
  have HBTwd := Lib.hid (below_tr HBT.out hb_)
  clear hb_
  refine wpAnyH_take (i := 0) (oi := ⟨some 28, _, _, _, _, _⟩) (v := .agg #[.slice (some ⟨b3, o3, none⟩) L.length cT]) rfl (by kernel_rfl) (by kernel_rfl) (by kernel_rfl) (fun _ _ _ h => h) (Or.inl ⟨by rfl, fun w' hS => by (have u0_ := hS.1.1 0 _ rfl; go_simp)⟩) ⟨twd.out, HICwd.out⟩ ?_
  try simp only [Act.put, List.setIfInBounds_toArray, List.set_cons_zero, List.set_cons_succ]
  refine wpAnyH_take (i := 1) (oi := ⟨some 29, _, _, _, _, _⟩) (v := .pointer (some ⟨w2.heap.size, 0, none⟩)) rfl (by kernel_rfl) (by kernel_rfl) (by kernel_rfl) (fun _ _ _ h => h) (Or.inl ⟨by rfl, fun w' hS => by go_simp⟩) ⟨twd.out, HICwd.out⟩ ?_
  try simp only [Act.put, List.setIfInBounds_toArray, List.set_cons_zero, List.set_cons_succ]
  refine wpAnyH_take (i := 2) (oi := ⟨some 30, _, _, _, _, _⟩) (v := .slice (some ⟨b3, o3, none⟩) L.length cT) rfl (by kernel_rfl) (by kernel_rfl) (by kernel_rfl) (fun _ _ _ h => h) (Or.inl ⟨by rfl, fun w' hS => by (have u0_ := hS.1.1 0 _ rfl; go_simp)⟩) ⟨twd.out, HICwd.out⟩ ?_
  try simp only [Act.put, List.setIfInBounds_toArray, List.set_cons_zero, List.set_cons_succ]
  refine wpAnyH_take (i := 3) (oi := ⟨some 31, _, _, _, _, _⟩) (v := .int .i64 at_) rfl (by kernel_rfl) (by kernel_rfl) (by kernel_rfl) (fun _ _ _ h => h) (Or.inl ⟨by rfl, fun w' hS => by go_simp⟩) ⟨twd.out, HICwd.out⟩ ?_
  try simp only [Act.put, List.setIfInBounds_toArray, List.set_cons_zero, List.set_cons_succ]
  refine wpAnyH_take (i := 4) (oi := ⟨some 32, _, _, _, _, _⟩) (v := .pointer (some ⟨w2.heap.size, 0, none⟩)) rfl (by kernel_rfl) (by kernel_rfl) (by kernel_rfl) (fun _ _ _ h => h) (Or.inl ⟨by rfl, fun w' hS => by go_simp⟩) ⟨twd.out, HICwd.out⟩ ?_
  try simp only [Act.put, List.setIfInBounds_toArray, List.set_cons_zero, List.set_cons_succ]
  refine wpAnyH_take (i := 5) (oi := ⟨some 33, _, _, _, _, _⟩) (v := .slice (some ⟨b3, o3, none⟩) L.length cT) rfl (by kernel_rfl) (by kernel_rfl) (by kernel_rfl) (fun _ _ _ h => h) (Or.inl ⟨by rfl, fun w' hS => by (have u0_ := hS.1.1 0 _ rfl; go_simp)⟩) ⟨twd.out, HICwd.out⟩ ?_
  try simp only [Act.put, List.setIfInBounds_toArray, List.set_cons_zero, List.set_cons_succ]
  refine wpAnyH_take (i := 6) (oi := ⟨some 34, _, _, _, _, _⟩) (v := .int .i64 L.length) rfl (by kernel_rfl) (by kernel_rfl) (by kernel_rfl) (fun _ _ _ h => h) (Or.inl ⟨by rfl, fun w' hS => by go_simp⟩) ⟨twd.out, HICwd.out⟩ ?_
  try simp only [Act.put, List.setIfInBounds_toArray, List.set_cons_zero, List.set_cons_succ]
  have HLI := Lib.hid (show okI (L.length : Int) by unfold okI; have := HLN.out; omega)
  refine wpAnyH_ready (rs := [7, 15]) (by kernel_rfl) (by simp) ?_
  refine AllReadyH.cons (o := ⟨some 35, .call ⟨_, _, _⟩, _, _, _, _⟩) rfl (fun K hK => ?_) (AllReadyH.cons (o := ⟨some 6, .alloc _, _, _, _, _⟩) rfl (fun K hK => ?_) (AllReadyH.nil))
  ·
   go_simp
   go_at_call 34
   refine (Fold_any at_ (L.length : Int) _ HAT.out HLI.out).mono ?_
   rintro e' q4 ⟨rfl, hw_⟩
   rw [HMF.out]
   have hb_ : Below wd.heap.size wd q4 := by rw [← hw_]; exact Below.refl _ _
   clear hw_
   have HSq4 := Lib.hid (show wd.heap.size ≤ q4.heap.size from hb_.size)
   have HBq4 := Lib.hid (HBwd.out.trans (hb_.mono HBwd.out.size))
   have tq4 := Lib.hid (twd.out.kept (grown_none hb_) (fun e => by cases e))
   have HSLq4 := Lib.hid ((HSLwd.out).next (Nat.le_refl _) hb_)
   have HICq4 := Lib.hid (cell_tr HICwd.out hb_)
   have HBTq4 := Lib.hid (below_tr HBTwd.out hb_)
   clear hb_
   refine hK.out _ _ ⟨tq4.out, HICq4.out⟩ (fun _ => ?_)
   clear hK K
   try simp only [Act.put, List.setIfInBounds_toArray, List.set_cons_zero, List.set_cons_succ]
   refine wpAnyH_take (i := 8) (oi := ⟨some 36, _, _, _, _, _⟩) (v := .pointer (some ⟨b3, o3 + m * 10, none⟩)) rfl (by kernel_rfl) (by kernel_rfl) (by kernel_rfl) (fun _ _ _ h => h) (Or.inl ⟨by rfl, fun w' hS => by go_simp⟩) ⟨tq4.out, HICq4.out⟩ ?_
   try simp only [Act.put, List.setIfInBounds_toArray, List.set_cons_zero, List.set_cons_succ]
   refine wpAnyH_take (i := 9) (oi := ⟨some 37, _, _, _, _, _⟩) (v := .pointer (some ⟨b3, o3 + m * 10, none⟩)) rfl (by kernel_rfl) (by kernel_rfl) (by kernel_rfl) (fun _ _ _ h => h) (Or.inl ⟨by rfl, fun w' hS => by go_simp⟩) ⟨tq4.out, HICq4.out⟩ ?_
   try simp only [Act.put, List.setIfInBounds_toArray, List.set_cons_zero, List.set_cons_succ]
   refine wpAnyH_take (i := 10) (oi := ⟨some 38, _, _, _, _, _⟩) (v := .int .i64 n) rfl (by kernel_rfl) (by kernel_rfl) (by kernel_rfl) (fun _ _ _ h => h) (Or.inl ⟨by rfl, fun w' hS => by (have u1_ := hS.2; go_simp)⟩) ⟨tq4.out, HICq4.out⟩ ?_
   try simp only [Act.put, List.setIfInBounds_toArray, List.set_cons_zero, List.set_cons_succ]
   refine wpAnyH_ready (rs := [11, 15]) (by kernel_rfl) (by simp) ?_
   refine AllReadyH.cons (o := ⟨some 39, .call ⟨_, _, _⟩, _, _, _, _⟩) rfl (fun K hK => ?_) (AllReadyH.cons (o := ⟨some 6, .alloc _, _, _, _, _⟩) rfl (fun K hK => ?_) (AllReadyH.nil))
   ·
    go_simp
    go_at_call 33
    refine (Remove_any (some ⟨b3, o3, none⟩) cT L n _ _ (Nat.le_refl _) HSLq4.out HVT.out HON.out).mono ?_
    rintro e' q5 ⟨hb_, vu, rfl, ho_⟩
    obtain ⟨Au, cu, hvu, hsu_⟩ := ho_.cs
    subst hvu
    rw [show remE L n = 0 from if_pos HNI.out]
    obtain ⟨U, hU⟩ : ∃ z, remX L n = z := ⟨_, rfl⟩
    rw [hU] at hsu_ ⊢
    have HUU := Lib.hid (show remL L n = U by rw [← hU]; exact (if_pos HNI.out).symm); have HSU := Lib.hid (show SlS q5 (fun b => q4.heap.size ≤ b ∧ b < q5.heap.size) Au cu U from hsu_.mono (fun b hb => ⟨hb.1.elim id id, hb.2⟩) (fun _ _ _ _ hu => hu))
    have HSq5 := Lib.hid (show q4.heap.size ≤ q5.heap.size from hb_.size)
    have HBq5 := Lib.hid (HBq4.out.trans (hb_.mono HBq4.out.size))
    have tq5 := Lib.hid (tq4.out.kept (grown_none hb_) (fun e => by cases e))
    have HSLq5 := Lib.hid ((HSLq4.out).next (Nat.le_refl _) hb_)
    have HICq5 := Lib.hid (cell_tr HICq4.out hb_)
    have HBTq5 := Lib.hid (below_tr HBTq4.out hb_)
    clear hb_ hU hsu_ ho_
    refine hK.out _ _ ⟨tq5.out, HICq5.out⟩ (fun _ => ?_)
    clear hK K
    try simp only [Act.put, List.setIfInBounds_toArray, List.set_cons_zero, List.set_cons_succ]
    refine wpAnyH_take (i := 12) (oi := ⟨some 27, _, _, _, _, _⟩) (v := .tuple #[.agg #[.slice Au U.length cu], .int .i64 0]) rfl (by kernel_rfl) (by kernel_rfl) (by kernel_rfl) (fun _ _ _ h => h) (Or.inl ⟨by rfl, fun w' hS => by go_simp⟩) ⟨tq5.out, HICq5.out⟩ ?_
    try simp only [Act.put, List.setIfInBounds_toArray, List.set_cons_zero, List.set_cons_succ]
    refine wpAnyH_take (i := 13) (oi := ⟨some 40, _, _, _, _, _⟩) (v := .agg #[.slice Au U.length cu]) rfl (by kernel_rfl) (by kernel_rfl) (by kernel_rfl) (fun _ _ _ h => h) (Or.inl ⟨by rfl, fun w' hS => by go_simp⟩) ⟨tq5.out, HICq5.out⟩ ?_
    try simp only [Act.put, List.setIfInBounds_toArray, List.set_cons_zero, List.set_cons_succ]
    refine wpAnyH_take (i := 14) (oi := ⟨some 41, _, _, _, _, _⟩) (v := .int .i64 0) rfl (by kernel_rfl) (by kernel_rfl) (by kernel_rfl) (fun _ _ _ h => h) (Or.inl ⟨by rfl, fun w' hS => by go_simp⟩) ⟨tq5.out, HICq5.out⟩ ?_
    try simp only [Act.put, List.setIfInBounds_toArray, List.set_cons_zero, List.set_cons_succ]
    have HBB := Lib.hid (Below.refl q5.heap.size q5)
    refine wpAnyH_ready (rs := [15]) (by kernel_rfl) (by simp) ?_
    refine AllReadyH.cons (o := ⟨some 6, .alloc _, _, _, _, _⟩) rfl (fun K hK => ?_) (AllReadyH.nil)
    have HGU := Lib.hid (show w2.heap.size < q5.heap.size ∧ w.heap.size ≤ q5.heap.size ∧ b3 < q5.heap.size from ⟨tq5.out.2.2, HBq5.out.size, block_lt_of_cell HICq5.out⟩)
    go_simp
    obtain ⟨q6, hq6⟩ : ∃ z, q5.alloc (.cells #[.slice none 0 0] 27) = z := ⟨_, rfl⟩
    have hb_ : Below q5.heap.size q5 q6 := by rw [← hq6]; exact (Below.refl _ _).alloc (Nat.le_refl _) _
    have HXuq6 := Lib.hid (show BoxL q6 q5.heap.size [.slice none 0 0] from box_mk hq6)
    try rw [hq6]
    clear hq6
    have HSq6 := Lib.hid (show q5.heap.size ≤ q6.heap.size from hb_.size)
    have HBq6 := Lib.hid (HBq5.out.trans (hb_.mono HBq5.out.size))
    have tq6 := Lib.hid (tq5.out.kept (grown_none hb_) (fun e => by cases e))
    have HSLq6 := Lib.hid ((HSLq5.out).next (Nat.le_refl _) hb_)
    have HICq6 := Lib.hid (cell_tr HICq5.out hb_)
    have HBTq6 := Lib.hid (below_tr HBTq5.out hb_)
    have HBBq6 := Lib.hid (below_tr HBB.out hb_)
    clear hb_
    refine hK.out _ _ ⟨tq6.out, HICq6.out⟩ (fun _ => ?_)
    clear hK K
    try simp only [Act.put, List.setIfInBounds_toArray, List.set_cons_zero, List.set_cons_succ]
    have HUB := Lib.hid (show q5.heap.size < q4.heap.size ∨ q5.heap.size ≤ q5.heap.size from .inr (by exact Nat.le_refl _))
    refine wpAnyH_ready (rs := [16]) (by kernel_rfl) (by simp) ?_
    refine AllReadyH.cons (o := ⟨none, .store _ _ _, _, _, _, _⟩) rfl (fun K hK => ?_) (AllReadyH.nil)
    have c7 := HXuq6.out.1 0 _ rfl; have c7f := HXuq6.out.2.1
    go_simp
    clear c7 c7f
    have hgs := grown_one q6 q5.heap.size 0 (.slice Au U.length cu)
    have hbx_ := HXuq6.out.set_ (j := 0) (by simp) (.slice Au U.length cu)
    have hsu1 := SlS.below HSU.out (show Below q5.heap.size q5 q6 from HBBq6.out) (fun x hx => hx.2)
    have hne_ : ∀ x, (q4.heap.size ≤ x ∧ x < q5.heap.size) → x ≠ q5.heap.size := fun x hx => by have := HUB.out; have := HSq4.out; have := HSq5.out; have := HSq6.out; omega
    have hsu2 := (hsu1.set_ (g := q5.heap.size) (j := 0) hne_ (.slice Au U.length cu))
    have hsu3 := SlS.sl (B := (q6.setCell ⟨q5.heap.size, 0, none⟩ (.slice Au U.length cu)).heap.size) hsu2 (fun x hx => by have := hx.2; have := HSq4.out; have := HSq5.out; have := HSq6.out; simp; omega)
    obtain ⟨q7, hq7⟩ : ∃ z, q6.setCell ⟨q5.heap.size, 0, none⟩ (.slice Au U.length cu) = z := ⟨_, rfl⟩
    rw [hq7] at hgs hbx_ hsu3 ⊢
    have HXU := Lib.hid (show BoxL q7 q5.heap.size [.slice Au U.length cu] from hbx_)
    have HBS := Lib.hid (HBq6.out.grown hgs HBq6.out.size (fun q hq => by have := Option.some.inj hq; have := HGU.out; omega))
    have HTU := Lib.hid (tq6.out.kept hgs (fun e => by have := Option.some.inj e; have := HGU.out; omega))
    have HICU := Lib.hid (show q7.cell? ⟨b3, o3 + m * 10, none⟩ = some (.int .i64 n) from (hgs.cell HICq6.out (fun e => by have h_ : b3 = q5.heap.size := Option.some.inj e; have := HGU.out; omega)))
    have HB2U := Lib.hid (HBTq6.out.grown hgs HBTq6.out.size (fun q hq => by have := Option.some.inj hq; have := HGU.out; omega))
    have HSU3 := Lib.hid hsu3
    clear hgs hbx_ hsu1 hsu2 hsu3 hne_
    refine hK.out _ _ ⟨HTU.out, HICU.out⟩ (fun _ => ?_)
    clear hK K
    try simp only [Act.put, List.setIfInBounds_toArray, List.set_cons_zero, List.set_cons_succ]
    refine wpAnyH_take (i := 17) (oi := ⟨some 7, _, _, _, _, _⟩) (v := .int .i64 0) rfl (by kernel_rfl) (by kernel_rfl) (by kernel_rfl) (fun _ _ _ h => h) (Or.inl ⟨by rfl, fun w' hS => by go_simp⟩) ⟨HTU.out, HICU.out⟩ ?_
    try simp only [Act.put, List.setIfInBounds_toArray, List.set_cons_zero, List.set_cons_succ]
    refine wpAnyH_done (by kernel_rfl) ?_ _
    go_wp2_with fail
    go_meet
    exact ⟨q5.heap.size, Au, cu, U, rfl, rfl, HUU, Lib.hid HGU.out.1, Lib.hid ⟨HBS.out, HB2U.out, HTU.out, HXU.out, HSU3.out⟩⟩
   ·
    have HGU := Lib.hid (show w2.heap.size < q4.heap.size ∧ w.heap.size ≤ q4.heap.size ∧ b3 < q4.heap.size from ⟨tq4.out.2.2, HBq4.out.size, block_lt_of_cell HICq4.out⟩)
    go_simp
    obtain ⟨q8, hq8⟩ : ∃ z, q4.alloc (.cells #[.slice none 0 0] 27) = z := ⟨_, rfl⟩
    have hb_ : Below q4.heap.size q4 q8 := by rw [← hq8]; exact (Below.refl _ _).alloc (Nat.le_refl _) _
    have HXuq8 := Lib.hid (show BoxL q8 q4.heap.size [.slice none 0 0] from box_mk hq8)
    try rw [hq8]
    clear hq8
    have HSq8 := Lib.hid (show q4.heap.size ≤ q8.heap.size from hb_.size)
    have HBq8 := Lib.hid (HBq4.out.trans (hb_.mono HBq4.out.size))
    have tq8 := Lib.hid (tq4.out.kept (grown_none hb_) (fun e => by cases e))
    have HSLq8 := Lib.hid ((HSLq4.out).next (Nat.le_refl _) hb_)
    have HICq8 := Lib.hid (cell_tr HICq4.out hb_)
    have HBTq8 := Lib.hid (below_tr HBTq4.out hb_)
    clear hb_
    refine hK.out _ _ ⟨tq8.out, HICq8.out⟩ (fun _ => ?_)
    clear hK K
    try simp only [Act.put, List.setIfInBounds_toArray, List.set_cons_zero, List.set_cons_succ]
    have HUL := Lib.hid (show q4.heap.size < q8.heap.size from HXuq8.out.2.2)
    refine wpAnyH_ready (rs := [11]) (by kernel_rfl) (by simp) ?_
    refine AllReadyH.cons (o := ⟨some 39, .call ⟨_, _, _⟩, _, _, _, _⟩) rfl (fun K hK => ?_) (AllReadyH.nil)
    go_simp
    go_at_call 33
    refine (Remove_any (some ⟨b3, o3, none⟩) cT L n _ _ (Nat.le_refl _) HSLq8.out HVT.out HON.out).mono ?_
    rintro e' q9 ⟨hb_, vu, rfl, ho_⟩
    obtain ⟨Au, cu, hvu, hsu_⟩ := ho_.cs
    subst hvu
    rw [show remE L n = 0 from if_pos HNI.out]
    obtain ⟨U, hU⟩ : ∃ z, remX L n = z := ⟨_, rfl⟩
    rw [hU] at hsu_ ⊢
    have HUU := Lib.hid (show remL L n = U by rw [← hU]; exact (if_pos HNI.out).symm); have HSU := Lib.hid (show SlS q9 (fun b => q8.heap.size ≤ b ∧ b < q9.heap.size) Au cu U from hsu_.mono (fun b hb => ⟨hb.1.elim id id, hb.2⟩) (fun _ _ _ _ hu => hu))
    have HSq9 := Lib.hid (show q8.heap.size ≤ q9.heap.size from hb_.size)
    have HBq9 := Lib.hid (HBq8.out.trans (hb_.mono HBq8.out.size))
    have tq9 := Lib.hid (tq8.out.kept (grown_none hb_) (fun e => by cases e))
    have uq9 := Lib.hid (HXuq8.out.kept (grown_none hb_) (fun e => by cases e))
    have HSLq9 := Lib.hid ((HSLq8.out).next (Nat.le_refl _) hb_)
    have HICq9 := Lib.hid (cell_tr HICq8.out hb_)
    have HBTq9 := Lib.hid (below_tr HBTq8.out hb_)
    have HULq9 := Lib.hid (Nat.lt_of_lt_of_le HUL.out (hb_).size)
    clear hb_ hU hsu_ ho_
    refine hK.out _ _ ⟨tq9.out, HICq9.out⟩ (fun _ => ?_)
    clear hK K
    try simp only [Act.put, List.setIfInBounds_toArray, List.set_cons_zero, List.set_cons_succ]
    refine wpAnyH_take (i := 12) (oi := ⟨some 27, _, _, _, _, _⟩) (v := .tuple #[.agg #[.slice Au U.length cu], .int .i64 0]) rfl (by kernel_rfl) (by kernel_rfl) (by kernel_rfl) (fun _ _ _ h => h) (Or.inl ⟨by rfl, fun w' hS => by go_simp⟩) ⟨tq9.out, HICq9.out⟩ ?_
    try simp only [Act.put, List.setIfInBounds_toArray, List.set_cons_zero, List.set_cons_succ]
    refine wpAnyH_take (i := 13) (oi := ⟨some 40, _, _, _, _, _⟩) (v := .agg #[.slice Au U.length cu]) rfl (by kernel_rfl) (by kernel_rfl) (by kernel_rfl) (fun _ _ _ h => h) (Or.inl ⟨by rfl, fun w' hS => by go_simp⟩) ⟨tq9.out, HICq9.out⟩ ?_
    try simp only [Act.put, List.setIfInBounds_toArray, List.set_cons_zero, List.set_cons_succ]
    refine wpAnyH_take (i := 14) (oi := ⟨some 41, _, _, _, _, _⟩) (v := .int .i64 0) rfl (by kernel_rfl) (by kernel_rfl) (by kernel_rfl) (fun _ _ _ h => h) (Or.inl ⟨by rfl, fun w' hS => by go_simp⟩) ⟨tq9.out, HICq9.out⟩ ?_
    try simp only [Act.put, List.setIfInBounds_toArray, List.set_cons_zero, List.set_cons_succ]
    have HUB := Lib.hid (show q4.heap.size < q8.heap.size ∨ q9.heap.size ≤ q4.heap.size from .inl HUL.out)
    have HBB := Lib.hid (Below.refl q9.heap.size q9)
    refine wpAnyH_ready (rs := [16]) (by kernel_rfl) (by simp) ?_
    refine AllReadyH.cons (o := ⟨none, .store _ _ _, _, _, _, _⟩) rfl (fun K hK => ?_) (AllReadyH.nil)
    have c7 := uq9.out.1 0 _ rfl; have c7f := uq9.out.2.1
    go_simp
    clear c7 c7f
    have hgs := grown_one q9 q4.heap.size 0 (.slice Au U.length cu)
    have hbx_ := uq9.out.set_ (j := 0) (by simp) (.slice Au U.length cu)
    have hsu1 := HSU.out
    have hne_ : ∀ x, (q8.heap.size ≤ x ∧ x < q9.heap.size) → x ≠ q4.heap.size := fun x hx => by have := HUB.out; have := HSq4.out; have := HSq8.out; have := HSq9.out; omega
    have hsu2 := (hsu1.set_ (g := q4.heap.size) (j := 0) hne_ (.slice Au U.length cu))
    have hsu3 := SlS.sl (B := (q9.setCell ⟨q4.heap.size, 0, none⟩ (.slice Au U.length cu)).heap.size) hsu2 (fun x hx => by have := hx.2; have := HSq4.out; have := HSq8.out; have := HSq9.out; simp; omega)
    obtain ⟨q10, hq10⟩ : ∃ z, q9.setCell ⟨q4.heap.size, 0, none⟩ (.slice Au U.length cu) = z := ⟨_, rfl⟩
    rw [hq10] at hgs hbx_ hsu3 ⊢
    have HXU := Lib.hid (show BoxL q10 q4.heap.size [.slice Au U.length cu] from hbx_)
    have HBS := Lib.hid (HBq9.out.grown hgs HBq9.out.size (fun q hq => by have := Option.some.inj hq; have := HGU.out; omega))
    have HTU := Lib.hid (tq9.out.kept hgs (fun e => by have := Option.some.inj e; have := HGU.out; omega))
    have HICU := Lib.hid (show q10.cell? ⟨b3, o3 + m * 10, none⟩ = some (.int .i64 n) from (hgs.cell HICq9.out (fun e => by have h_ : b3 = q4.heap.size := Option.some.inj e; have := HGU.out; omega)))
    have HB2U := Lib.hid (HBTq9.out.grown hgs HBTq9.out.size (fun q hq => by have := Option.some.inj hq; have := HGU.out; omega))
    have HSU3 := Lib.hid hsu3
    clear hgs hbx_ hsu1 hsu2 hsu3 hne_
    refine hK.out _ _ ⟨HTU.out, HICU.out⟩ (fun _ => ?_)
    clear hK K
    try simp only [Act.put, List.setIfInBounds_toArray, List.set_cons_zero, List.set_cons_succ]
    refine wpAnyH_take (i := 17) (oi := ⟨some 7, _, _, _, _, _⟩) (v := .int .i64 0) rfl (by kernel_rfl) (by kernel_rfl) (by kernel_rfl) (fun _ _ _ h => h) (Or.inl ⟨by rfl, fun w' hS => by go_simp⟩) ⟨HTU.out, HICU.out⟩ ?_
    try simp only [Act.put, List.setIfInBounds_toArray, List.set_cons_zero, List.set_cons_succ]
    refine wpAnyH_done (by kernel_rfl) ?_ _
    go_wp2_with fail
    go_meet
    exact ⟨q4.heap.size, Au, cu, U, rfl, rfl, HUU, Lib.hid HGU.out.1, Lib.hid ⟨HBS.out, HB2U.out, HTU.out, HXU.out, HSU3.out⟩⟩
  ·
   have HGU := Lib.hid (show w2.heap.size < wd.heap.size ∧ w.heap.size ≤ wd.heap.size ∧ b3 < wd.heap.size from ⟨twd.out.2.2, HBwd.out.size, block_lt_of_cell HICwd.out⟩)
   go_simp
   obtain ⟨q11, hq11⟩ : ∃ z, wd.alloc (.cells #[.slice none 0 0] 27) = z := ⟨_, rfl⟩
   have hb_ : Below wd.heap.size wd q11 := by rw [← hq11]; exact (Below.refl _ _).alloc (Nat.le_refl _) _
   have HXuq11 := Lib.hid (show BoxL q11 wd.heap.size [.slice none 0 0] from box_mk hq11)
   try rw [hq11]
   clear hq11
   have HSq11 := Lib.hid (show wd.heap.size ≤ q11.heap.size from hb_.size)
   have HBq11 := Lib.hid (HBwd.out.trans (hb_.mono HBwd.out.size))
   have tq11 := Lib.hid (twd.out.kept (grown_none hb_) (fun e => by cases e))
   have HSLq11 := Lib.hid ((HSLwd.out).next (Nat.le_refl _) hb_)
   have HICq11 := Lib.hid (cell_tr HICwd.out hb_)
   have HBTq11 := Lib.hid (below_tr HBTwd.out hb_)
   clear hb_
   refine hK.out _ _ ⟨tq11.out, HICq11.out⟩ (fun _ => ?_)
   clear hK K
   try simp only [Act.put, List.setIfInBounds_toArray, List.set_cons_zero, List.set_cons_succ]
   have HUL := Lib.hid (show wd.heap.size < q11.heap.size from HXuq11.out.2.2)
   refine wpAnyH_ready (rs := [7]) (by kernel_rfl) (by simp) ?_
   refine AllReadyH.cons (o := ⟨some 35, .call ⟨_, _, _⟩, _, _, _, _⟩) rfl (fun K hK => ?_) (AllReadyH.nil)
   go_simp
   go_at_call 34
   refine (Fold_any at_ (L.length : Int) _ HAT.out HLI.out).mono ?_
   rintro e' q12 ⟨rfl, hw_⟩
   rw [HMF.out]
   have hb_ : Below q11.heap.size q11 q12 := by rw [← hw_]; exact Below.refl _ _
   clear hw_
   have HSq12 := Lib.hid (show q11.heap.size ≤ q12.heap.size from hb_.size)
   have HBq12 := Lib.hid (HBq11.out.trans (hb_.mono HBq11.out.size))
   have tq12 := Lib.hid (tq11.out.kept (grown_none hb_) (fun e => by cases e))
   have uq12 := Lib.hid (HXuq11.out.kept (grown_none hb_) (fun e => by cases e))
   have HSLq12 := Lib.hid ((HSLq11.out).next (Nat.le_refl _) hb_)
   have HICq12 := Lib.hid (cell_tr HICq11.out hb_)
   have HBTq12 := Lib.hid (below_tr HBTq11.out hb_)
   have HULq12 := Lib.hid (Nat.lt_of_lt_of_le HUL.out (hb_).size)
   clear hb_
   refine hK.out _ _ ⟨tq12.out, HICq12.out⟩ (fun _ => ?_)
   clear hK K
   try simp only [Act.put, List.setIfInBounds_toArray, List.set_cons_zero, List.set_cons_succ]
   refine wpAnyH_take (i := 8) (oi := ⟨some 36, _, _, _, _, _⟩) (v := .pointer (some ⟨b3, o3 + m * 10, none⟩)) rfl (by kernel_rfl) (by kernel_rfl) (by kernel_rfl) (fun _ _ _ h => h) (Or.inl ⟨by rfl, fun w' hS => by go_simp⟩) ⟨tq12.out, HICq12.out⟩ ?_
   try simp only [Act.put, List.setIfInBounds_toArray, List.set_cons_zero, List.set_cons_succ]
   refine wpAnyH_take (i := 9) (oi := ⟨some 37, _, _, _, _, _⟩) (v := .pointer (some ⟨b3, o3 + m * 10, none⟩)) rfl (by kernel_rfl) (by kernel_rfl) (by kernel_rfl) (fun _ _ _ h => h) (Or.inl ⟨by rfl, fun w' hS => by go_simp⟩) ⟨tq12.out, HICq12.out⟩ ?_
   try simp only [Act.put, List.setIfInBounds_toArray, List.set_cons_zero, List.set_cons_succ]
   refine wpAnyH_take (i := 10) (oi := ⟨some 38, _, _, _, _, _⟩) (v := .int .i64 n) rfl (by kernel_rfl) (by kernel_rfl) (by kernel_rfl) (fun _ _ _ h => h) (Or.inl ⟨by rfl, fun w' hS => by (have u1_ := hS.2; go_simp)⟩) ⟨tq12.out, HICq12.out⟩ ?_
   try simp only [Act.put, List.setIfInBounds_toArray, List.set_cons_zero, List.set_cons_succ]
   refine wpAnyH_ready (rs := [11]) (by kernel_rfl) (by simp) ?_
   refine AllReadyH.cons (o := ⟨some 39, .call ⟨_, _, _⟩, _, _, _, _⟩) rfl (fun K hK => ?_) (AllReadyH.nil)
   go_simp
   go_at_call 33
   refine (Remove_any (some ⟨b3, o3, none⟩) cT L n _ _ (Nat.le_refl _) HSLq12.out HVT.out HON.out).mono ?_
   rintro e' q13 ⟨hb_, vu, rfl, ho_⟩
   obtain ⟨Au, cu, hvu, hsu_⟩ := ho_.cs
   subst hvu
   rw [show remE L n = 0 from if_pos HNI.out]
   obtain ⟨U, hU⟩ : ∃ z, remX L n = z := ⟨_, rfl⟩
   rw [hU] at hsu_ ⊢
   have HUU := Lib.hid (show remL L n = U by rw [← hU]; exact (if_pos HNI.out).symm); have HSU := Lib.hid (show SlS q13 (fun b => q12.heap.size ≤ b ∧ b < q13.heap.size) Au cu U from hsu_.mono (fun b hb => ⟨hb.1.elim id id, hb.2⟩) (fun _ _ _ _ hu => hu))
   have HSq13 := Lib.hid (show q12.heap.size ≤ q13.heap.size from hb_.size)
   have HBq13 := Lib.hid (HBq12.out.trans (hb_.mono HBq12.out.size))
   have tq13 := Lib.hid (tq12.out.kept (grown_none hb_) (fun e => by cases e))
   have uq13 := Lib.hid (uq12.out.kept (grown_none hb_) (fun e => by cases e))
   have HSLq13 := Lib.hid ((HSLq12.out).next (Nat.le_refl _) hb_)
   have HICq13 := Lib.hid (cell_tr HICq12.out hb_)
   have HBTq13 := Lib.hid (below_tr HBTq12.out hb_)
   have HULq13 := Lib.hid (Nat.lt_of_lt_of_le HULq12.out (hb_).size)
   clear hb_ hU hsu_ ho_
   refine hK.out _ _ ⟨tq13.out, HICq13.out⟩ (fun _ => ?_)
   clear hK K
   try simp only [Act.put, List.setIfInBounds_toArray, List.set_cons_zero, List.set_cons_succ]
   refine wpAnyH_take (i := 12) (oi := ⟨some 27, _, _, _, _, _⟩) (v := .tuple #[.agg #[.slice Au U.length cu], .int .i64 0]) rfl (by kernel_rfl) (by kernel_rfl) (by kernel_rfl) (fun _ _ _ h => h) (Or.inl ⟨by rfl, fun w' hS => by go_simp⟩) ⟨tq13.out, HICq13.out⟩ ?_
   try simp only [Act.put, List.setIfInBounds_toArray, List.set_cons_zero, List.set_cons_succ]
   refine wpAnyH_take (i := 13) (oi := ⟨some 40, _, _, _, _, _⟩) (v := .agg #[.slice Au U.length cu]) rfl (by kernel_rfl) (by kernel_rfl) (by kernel_rfl) (fun _ _ _ h => h) (Or.inl ⟨by rfl, fun w' hS => by go_simp⟩) ⟨tq13.out, HICq13.out⟩ ?_
   try simp only [Act.put, List.setIfInBounds_toArray, List.set_cons_zero, List.set_cons_succ]
   refine wpAnyH_take (i := 14) (oi := ⟨some 41, _, _, _, _, _⟩) (v := .int .i64 0) rfl (by kernel_rfl) (by kernel_rfl) (by kernel_rfl) (fun _ _ _ h => h) (Or.inl ⟨by rfl, fun w' hS => by go_simp⟩) ⟨tq13.out, HICq13.out⟩ ?_
   try simp only [Act.put, List.setIfInBounds_toArray, List.set_cons_zero, List.set_cons_succ]
   have HUB := Lib.hid (show wd.heap.size < q12.heap.size ∨ q13.heap.size ≤ wd.heap.size from .inl HULq12.out)
   have HBB := Lib.hid (Below.refl q13.heap.size q13)
   refine wpAnyH_ready (rs := [16]) (by kernel_rfl) (by simp) ?_
   refine AllReadyH.cons (o := ⟨none, .store _ _ _, _, _, _, _⟩) rfl (fun K hK => ?_) (AllReadyH.nil)
   have c7 := uq13.out.1 0 _ rfl; have c7f := uq13.out.2.1
   go_simp
   clear c7 c7f
   have hgs := grown_one q13 wd.heap.size 0 (.slice Au U.length cu)
   have hbx_ := uq13.out.set_ (j := 0) (by simp) (.slice Au U.length cu)
   have hsu1 := HSU.out
   have hne_ : ∀ x, (q12.heap.size ≤ x ∧ x < q13.heap.size) → x ≠ wd.heap.size := fun x hx => by have := HUB.out; have := HSq11.out; have := HSq12.out; have := HSq13.out; omega
   have hsu2 := (hsu1.set_ (g := wd.heap.size) (j := 0) hne_ (.slice Au U.length cu))
   have hsu3 := SlS.sl (B := (q13.setCell ⟨wd.heap.size, 0, none⟩ (.slice Au U.length cu)).heap.size) hsu2 (fun x hx => by have := hx.2; have := HSq11.out; have := HSq12.out; have := HSq13.out; simp; omega)
   obtain ⟨q14, hq14⟩ : ∃ z, q13.setCell ⟨wd.heap.size, 0, none⟩ (.slice Au U.length cu) = z := ⟨_, rfl⟩
   rw [hq14] at hgs hbx_ hsu3 ⊢
   have HXU := Lib.hid (show BoxL q14 wd.heap.size [.slice Au U.length cu] from hbx_)
   have HBS := Lib.hid (HBq13.out.grown hgs HBq13.out.size (fun q hq => by have := Option.some.inj hq; have := HGU.out; omega))
   have HTU := Lib.hid (tq13.out.kept hgs (fun e => by have := Option.some.inj e; have := HGU.out; omega))
   have HICU := Lib.hid (show q14.cell? ⟨b3, o3 + m * 10, none⟩ = some (.int .i64 n) from (hgs.cell HICq13.out (fun e => by have h_ : b3 = wd.heap.size := Option.some.inj e; have := HGU.out; omega)))
   have HB2U := Lib.hid (HBTq13.out.grown hgs HBTq13.out.size (fun q hq => by have := Option.some.inj hq; have := HGU.out; omega))
   have HSU3 := Lib.hid hsu3
   clear hgs hbx_ hsu1 hsu2 hsu3 hne_
   refine hK.out _ _ ⟨HTU.out, HICU.out⟩ (fun _ => ?_)
   clear hK K
   try simp only [Act.put, List.setIfInBounds_toArray, List.set_cons_zero, List.set_cons_succ]
   refine wpAnyH_take (i := 17) (oi := ⟨some 7, _, _, _, _, _⟩) (v := .int .i64 0) rfl (by kernel_rfl) (by kernel_rfl) (by kernel_rfl) (fun _ _ _ h => h) (Or.inl ⟨by rfl, fun w' hS => by go_simp⟩) ⟨HTU.out, HICU.out⟩ ?_
   try simp only [Act.put, List.setIfInBounds_toArray, List.set_cons_zero, List.set_cons_succ]
   refine wpAnyH_done (by kernel_rfl) ?_ _
   go_wp2_with fail
   go_meet
   exact ⟨wd.heap.size, Au, cu, U, rfl, rfl, HUU, Lib.hid HGU.out.1, Lib.hid ⟨HBS.out, HB2U.out, HTU.out, HXU.out, HSU3.out⟩⟩
 case rest =>
 obtain ⟨g6, Au, cu, U, rfl, rfl, HUU, HG6, HGC⟩ := hcut
 have HBC := Lib.hid HGC.out.1; have HTC := Lib.hid HGC.out.2.2.1; have HUC := Lib.hid HGC.out.2.2.2.1; have HSLC := Lib.hid ((HSL.out.keep HGC.out.2.1).more HGC.out.2.1.size); have HSUC := Lib.hid HGC.out.2.2.2.2
 have hu1 := HSUC.out.1; have hu2 := HSUC.out.2.1
 unfold maxLen at hu2
 have HZZ := Lib.hid (grow_zz HVT.out HLN.out (Int.le_refl _) HMD.out)
 have HVU := Lib.hid (show VT U by rw [← HUU.out]; exact (rem_VT HVT.out n).1)
 have HVW := Lib.hid (show VT (insL L zzD) from (ins_VT HVT.out HZZ.out).1)
 have ct0 := HTC.out.1 0 _ rfl
 have cu0 := HUC.out.1 0 _ rfl
 go_wp2_with fail
 refine (Insert_any (some ⟨b3, o3, none⟩) cT L zzD none 0 _ _ (Nat.le_refl _) HSLC.out ⟨by unfold okI; decide +kernel, by unfold okI; decide +kernel, by show (2 : Nat) ≤ maxLen; unfold maxLen; omega, by show (2 : Nat) ≤ maxLen; unfold maxLen; omega, by show (1 : Nat) ≤ maxLen; unfold maxLen; omega, Nat.zero_le _, Nat.zero_le _, by unfold okI; decide +kernel, by unfold okI; decide +kernel⟩ Sl.nil_ (by show (2 : Nat) ≤ _; omega) HVT.out (HOK.out.next HBC.out)).mono ?_
 rintro e wi ⟨hb_, vw, rfl, ho_⟩
 rw [HZZ.out]
 rw [show insR L zzD = insL L zzD by unfold insR; rw [if_pos HZZ.out]] at ho_
 obtain ⟨WL, hWL⟩ : ∃ z, insL L zzD = z := ⟨_, rfl⟩
 rw [hWL] at ho_ HVW
 have HWL := Lib.hid hWL
 obtain ⟨Aw, cw, hvw, hsw_⟩ := ho_.sl
 subst hvw
 have hw1 := hsw_.1; have hw2 := hsw_.2.1
 unfold maxLen at hw2
 have HSW := Lib.hid hsw_
 clear ct0 cu0
 have HSwi := Lib.hid (show wc.heap.size ≤ wi.heap.size from hb_.size)
 have HBwi := Lib.hid (HBC.out.trans (hb_.mono HBC.out.size))
 have twi := Lib.hid (HTC.out.kept (grown_none hb_) (fun e => by cases e))
 have uwi := Lib.hid (HUC.out.kept (grown_none hb_) (fun e => by cases e))
 have HSLwi := Lib.hid ((HSLC.out).next (Nat.le_refl _) hb_)
 have HSUwi := Lib.hid ((HSUC.out).next (Nat.le_refl _) hb_)
 clear hb_ ho_ hsw_ hWL
 go_upto_region 6 with fail
 obtain ⟨w61, hw61⟩ : ∃ w61, wi.alloc (.cells #[.slice Aw WL.length cw] 27) = w61 := ⟨_, rfl⟩
 have hbw61 : Below wi.heap.size wi w61 := by rw [← hw61]; exact (Below.refl _ _).alloc (Nat.le_refl _) _
 have HGw61 := Lib.hid (show w61.heap.size = wi.heap.size + 1 by rw [← hw61]; simp)
 have HXww61 := Lib.hid (show BoxL w61 wi.heap.size [.slice Aw WL.length cw] from box_mk hw61)
 try simp only [hw61]
 have HSTEPw61 := Lib.hid hbw61
 have HSw61 := Lib.hid (show wi.heap.size ≤ w61.heap.size from hbw61.size)
 have HBw61 := Lib.hid (HBwi.out.trans (hbw61.mono HBwi.out.size))
 have tw61 := Lib.hid (twi.out.kept (grown_none hbw61) (fun e => by cases e))
 have uw61 := Lib.hid (uwi.out.kept (grown_none hbw61) (fun e => by cases e))
 have HSLw61 := Lib.hid ((HSLwi.out).next (Nat.le_refl _) hbw61)
 have HSUw61 := Lib.hid ((HSUwi.out).next (Nat.le_refl _) hbw61)
 have HSWw61 := Lib.hid ((HSW.out).next (Nat.le_refl _) hbw61)
 clear hw61 hbw61
 try rw [show wi.heap.size + 1 = w61.heap.size from HGw61.out.symm]
 have HRS := Lib.hid (show GrS w w2.heap.size g6 wi.heap.size (some ⟨b3, o3, none⟩) cT L Au cu U Aw cw WL w61 from ⟨HBw61.out, tw61.out, uw61.out, HXww61.out, HSLw61.out, HSUw61.out, HSWw61.out⟩)
 go_wp2_with fail
 go_loopw [10] (fun kk wr => ∃ i : Nat, i ≤ L.length ∧ kk = .int .i64 i ∧ Hid (GrS w w2.heap.size g6 wi.heap.size (some ⟨b3, o3, none⟩) cT L Au cu U Aw cw WL wr)) (fun kk _ => L.length - (intOf kk).toNat)
 case atStart => exact ⟨0, Nat.zero_le _, rfl, HRS⟩
 case round =>
  clear HRS
  obtain ⟨i, hi, rfl, HRS⟩ := hrel
  have t0 := HRS.out.2.1.1 0 _ rfl
  by_cases hit : i < L.length
  ·
   have i2 : (i : Int) < (L.length : Int) := by omega
   go_wp2_with fail
   clear t0
   go_loopw [11] (fun kk wr => ∃ k : Nat, k ≤ L.length ∧ kk = .int .i64 k ∧ Hid (GrS w w2.heap.size g6 wi.heap.size (some ⟨b3, o3, none⟩) cT L Au cu U Aw cw WL wr)) (fun kk _ => L.length - (intOf kk).toNat)
   case atStart => exact ⟨0, Nat.zero_le _, rfl, HRS⟩
   case round =>
    clear HRS
    obtain ⟨k, hk, rfl, HRS⟩ := hrel
    have t0 := HRS.out.2.1.1 0 _ rfl
    by_cases hkt : k < L.length
    ·
     have i4 : (k : Int) < (L.length : Int) := by omega
     obtain ⟨b7, o7, e7, -, A7, c7, hok3, -, hcs3⟩ := HRS.out.2.2.2.2.1.dev hit
     cases e7
     obtain ⟨b8, o8, e8, -, A8, c8, hok4, -, hcs4⟩ := HRS.out.2.2.2.2.1.dev hkt
     cases e8
     have hmx : L[i]'hit ∈ L := List.getElem_mem hit
     have hmy : L[k]'hkt ∈ L := List.getElem_mem hkt
     obtain ⟨x, hx⟩ : ∃ x, L[i]'hit = x := ⟨_, rfl⟩
     obtain ⟨y, hy⟩ : ∃ y, L[k]'hkt = y := ⟨_, rfl⟩
     rw [hx] at hok3 hcs3 hmx
     rw [hy] at hok4 hcs4 hmy
     have HCX := Lib.hid hcs3.1; have HCY := Lib.hid hcs4.1; have HOX := Lib.hid hok3.1; have HOY := Lib.hid hok4.1; have HMX := Lib.hid hmx; have HMY := Lib.hid hmy
     clear hcs3 hcs4 hok3 hok4 hmx hmy hx hy
     have HBR := Lib.hid HRS.out.1; have HTR := Lib.hid HRS.out.2.1; have HUR := Lib.hid HRS.out.2.2.1; have HWR := Lib.hid HRS.out.2.2.2.1; have HSLR := Lib.hid HRS.out.2.2.2.2.1; have HSUR := Lib.hid HRS.out.2.2.2.2.2.1; have HSWR := Lib.hid HRS.out.2.2.2.2.2.2
     go_upto_region 14 with fail
     clear t0
     refine wp_region_held_drew (S := fun w' => BoxL w' w2.heap.size [.slice (some ⟨b3, o3, none⟩) L.length cT] ∧ w'.cell? ⟨b3, o3 + i * 10, none⟩ = some (.int .i64 x.idx) ∧ w'.cell? ⟨b3, o3 + k * 10, none⟩ = some (.int .i64 y.idx)) (by kernel_rfl) ⟨HTR.out.drew, by show (World.drew wr).cell? _ = _; exact HCX.out, by show (World.drew wr).cell? _ = _; exact HCY.out⟩ (fun hS0 => ?_)
     obtain ⟨wd1, hwd1⟩ : ∃ z, World.drew wr = z := ⟨_, rfl⟩
     rw [hwd1] at hS0 ⊢
     have hb_ : Below wr.heap.size wr wd1 := by rw [← hwd1]; exact below_drewN_self _ _ 1
     clear hwd1
     have HSAwd1 := Lib.hid hS0; clear hS0
     have HSwd1 := Lib.hid (show wr.heap.size ≤ wd1.heap.size from hb_.size)
     have HBwd1 := Lib.hid (HBR.out.trans (hb_.mono HBR.out.size))
     have twd1 := Lib.hid (HTR.out.kept (grown_none hb_) (fun e => by cases e))
     have uwd1 := Lib.hid (HUR.out.kept (grown_none hb_) (fun e => by cases e))
     have wwd1 := Lib.hid (HWR.out.kept (grown_none hb_) (fun e => by cases e))
     have HSLwd1 := Lib.hid ((HSLR.out).next (Nat.le_refl _) hb_)
     have HSUwd1 := Lib.hid ((HSUR.out).next (Nat.le_refl _) hb_)
     have HSWwd1 := Lib.hid ((HSWR.out).next (Nat.le_refl _) hb_)
     clear hb_
     refine wpAnyH_take (i := 0) (oi := ⟨some 68, _, _, _, _, _⟩) (v := .pointer (some ⟨w2.heap.size, 0, none⟩)) rfl (by kernel_rfl) (by kernel_rfl) (by kernel_rfl) (fun _ _ _ h => h) (Or.inl ⟨by rfl, fun w' hS => by go_simp⟩) HSAwd1.out ?_
     try simp only [Act.put, List.setIfInBounds_toArray, List.set_cons_zero, List.set_cons_succ]
     refine wpAnyH_take (i := 1) (oi := ⟨some 69, _, _, _, _, _⟩) (v := .slice (some ⟨b3, o3, none⟩) L.length cT) rfl (by kernel_rfl) (by kernel_rfl) (by kernel_rfl) (fun _ _ _ h => h) (Or.inl ⟨by rfl, fun w' hS => by (have u0_ := hS.1.1 0 _ rfl; go_simp)⟩) HSAwd1.out ?_
     try simp only [Act.put, List.setIfInBounds_toArray, List.set_cons_zero, List.set_cons_succ]
     refine wpAnyH_take (i := 2) (oi := ⟨some 70, _, _, _, _, _⟩) (v := .int .i64 i) rfl (by kernel_rfl) (by kernel_rfl) (by kernel_rfl) (fun _ _ _ h => h) (Or.inl ⟨by rfl, fun w' hS => by go_simp⟩) HSAwd1.out ?_
     try simp only [Act.put, List.setIfInBounds_toArray, List.set_cons_zero, List.set_cons_succ]
     refine wpAnyH_take (i := 3) (oi := ⟨some 71, _, _, _, _, _⟩) (v := .pointer (some ⟨b3, o3 + i * 10, none⟩)) rfl (by kernel_rfl) (by kernel_rfl) (by kernel_rfl) (fun _ _ _ h => h) (Or.inl ⟨by rfl, fun w' hS => by go_simp⟩) HSAwd1.out ?_
     try simp only [Act.put, List.setIfInBounds_toArray, List.set_cons_zero, List.set_cons_succ]
     refine wpAnyH_take (i := 4) (oi := ⟨some 72, _, _, _, _, _⟩) (v := .pointer (some ⟨b3, o3 + i * 10, none⟩)) rfl (by kernel_rfl) (by kernel_rfl) (by kernel_rfl) (fun _ _ _ h => h) (Or.inl ⟨by rfl, fun w' hS => by go_simp⟩) HSAwd1.out ?_
     try simp only [Act.put, List.setIfInBounds_toArray, List.set_cons_zero, List.set_cons_succ]
     refine wpAnyH_take (i := 5) (oi := ⟨some 73, _, _, _, _, _⟩) (v := .int .i64 x.idx) rfl (by kernel_rfl) (by kernel_rfl) (by kernel_rfl) (fun _ _ _ h => h) (Or.inl ⟨by rfl, fun w' hS => by (have u0_ := hS.2.1; go_simp)⟩) HSAwd1.out ?_
     try simp only [Act.put, List.setIfInBounds_toArray, List.set_cons_zero, List.set_cons_succ]
     refine wpAnyH_take (i := 6) (oi := ⟨some 74, _, _, _, _, _⟩) (v := .pointer (some ⟨w2.heap.size, 0, none⟩)) rfl (by kernel_rfl) (by kernel_rfl) (by kernel_rfl) (fun _ _ _ h => h) (Or.inl ⟨by rfl, fun w' hS => by go_simp⟩) HSAwd1.out ?_
     try simp only [Act.put, List.setIfInBounds_toArray, List.set_cons_zero, List.set_cons_succ]
     refine wpAnyH_take (i := 7) (oi := ⟨some 75, _, _, _, _, _⟩) (v := .slice (some ⟨b3, o3, none⟩) L.length cT) rfl (by kernel_rfl) (by kernel_rfl) (by kernel_rfl) (fun _ _ _ h => h) (Or.inl ⟨by rfl, fun w' hS => by (have u0_ := hS.1.1 0 _ rfl; go_simp)⟩) HSAwd1.out ?_
     try simp only [Act.put, List.setIfInBounds_toArray, List.set_cons_zero, List.set_cons_succ]
     refine wpAnyH_take (i := 8) (oi := ⟨some 76, _, _, _, _, _⟩) (v := .int .i64 k) rfl (by kernel_rfl) (by kernel_rfl) (by kernel_rfl) (fun _ _ _ h => h) (Or.inl ⟨by rfl, fun w' hS => by go_simp⟩) HSAwd1.out ?_
     try simp only [Act.put, List.setIfInBounds_toArray, List.set_cons_zero, List.set_cons_succ]
     refine wpAnyH_take (i := 9) (oi := ⟨some 77, _, _, _, _, _⟩) (v := .pointer (some ⟨b3, o3 + k * 10, none⟩)) rfl (by kernel_rfl) (by kernel_rfl) (by kernel_rfl) (fun _ _ _ h => h) (Or.inl ⟨by rfl, fun w' hS => by go_simp⟩) HSAwd1.out ?_
     try simp only [Act.put, List.setIfInBounds_toArray, List.set_cons_zero, List.set_cons_succ]
     refine wpAnyH_take (i := 10) (oi := ⟨some 78, _, _, _, _, _⟩) (v := .pointer (some ⟨b3, o3 + k * 10, none⟩)) rfl (by kernel_rfl) (by kernel_rfl) (by kernel_rfl) (fun _ _ _ h => h) (Or.inl ⟨by rfl, fun w' hS => by go_simp⟩) HSAwd1.out ?_
     try simp only [Act.put, List.setIfInBounds_toArray, List.set_cons_zero, List.set_cons_succ]
     refine wpAnyH_take (i := 11) (oi := ⟨some 79, _, _, _, _, _⟩) (v := .int .i64 y.idx) rfl (by kernel_rfl) (by kernel_rfl) (by kernel_rfl) (fun _ _ _ h => h) (Or.inl ⟨by rfl, fun w' hS => by (have u0_ := hS.2.2; go_simp)⟩) HSAwd1.out ?_
     try simp only [Act.put, List.setIfInBounds_toArray, List.set_cons_zero, List.set_cons_succ]
     refine wpAnyH_take (i := 12) (oi := ⟨some 12, _, _, _, _, _⟩) (v := .int .i64 x.idx) rfl (by kernel_rfl) (by kernel_rfl) (by kernel_rfl) (fun _ _ _ h => h) (Or.inl ⟨by rfl, fun w' hS => by go_simp⟩) HSAwd1.out ?_
     try simp only [Act.put, List.setIfInBounds_toArray, List.set_cons_zero, List.set_cons_succ]
     refine wpAnyH_take (i := 13) (oi := ⟨some 13, _, _, _, _, _⟩) (v := .int .i64 y.idx) rfl (by kernel_rfl) (by kernel_rfl) (by kernel_rfl) (fun _ _ _ h => h) (Or.inl ⟨by rfl, fun w' hS => by go_simp⟩) HSAwd1.out ?_
     try simp only [Act.put, List.setIfInBounds_toArray, List.set_cons_zero, List.set_cons_succ]
     refine wpAnyH_done (by kernel_rfl) ?_ _
     have ct0 := twd1.out.1 0 _ rfl
     have cu0 := uwd1.out.1 0 _ rfl
     have cw0 := wwd1.out.1 0 _ rfl
     go_wp2_with fail
     refine (RFind_any Au cu U x.idx _ _ (Nat.le_refl _) HSUwd1.out).mono ?_
     rintro e fx ⟨hb_, dx, Adx, cdx, -, rfl, -, -⟩
     clear ct0 cu0 cw0
     have HSfx := Lib.hid (show wd1.heap.size ≤ fx.heap.size from hb_.size)
     have HBfx := Lib.hid (HBwd1.out.trans (hb_.mono HBwd1.out.size))
     have tfx := Lib.hid (twd1.out.kept (grown_none hb_) (fun e => by cases e))
     have ufx := Lib.hid (uwd1.out.kept (grown_none hb_) (fun e => by cases e))
     have wfx := Lib.hid (wwd1.out.kept (grown_none hb_) (fun e => by cases e))
     have HSLfx := Lib.hid ((HSLwd1.out).next (Nat.le_refl _) hb_)
     have HSUfx := Lib.hid ((HSUwd1.out).next (Nat.le_refl _) hb_)
     have HSWfx := Lib.hid ((HSWwd1.out).next (Nat.le_refl _) hb_)
     clear hb_
     obtain ⟨qx, hqx⟩ : ∃ z, (findD U x.idx).isSome = z := ⟨_, rfl⟩
     rw [hqx]
     have HQx := Lib.hid hqx; clear hqx
     have ct0 := tfx.out.1 0 _ rfl
     have cu0 := ufx.out.1 0 _ rfl
     have cw0 := wfx.out.1 0 _ rfl
     go_upto_region 16 with fail
     obtain ⟨hx, hhx⟩ : ∃ z, fx.alloc (.cells #[.int .i64 dx.idx, .int .i64 dx.par, .string dx.nm, .string dx.orig, .string dx.sub, .string dx.drv, .string dx.ali, .int .i64 dx.kind, .int .i64 dx.num, .slice Adx dx.attrs.length cdx] 34) = z := ⟨_, rfl⟩
     have hb_ : Below fx.heap.size fx hx := by rw [← hhx]; exact (Below.refl _ _).alloc (Nat.le_refl _) _
     try simp only [hhx]
     clear hhx
     clear ct0 cu0 cw0
     have HShx := Lib.hid (show fx.heap.size ≤ hx.heap.size from hb_.size)
     have HBhx := Lib.hid (HBfx.out.trans (hb_.mono HBfx.out.size))
     have thx := Lib.hid (tfx.out.kept (grown_none hb_) (fun e => by cases e))
     have uhx := Lib.hid (ufx.out.kept (grown_none hb_) (fun e => by cases e))
     have whx := Lib.hid (wfx.out.kept (grown_none hb_) (fun e => by cases e))
     have HSLhx := Lib.hid ((HSLfx.out).next (Nat.le_refl _) hb_)
     have HSUhx := Lib.hid ((HSUfx.out).next (Nat.le_refl _) hb_)
     have HSWhx := Lib.hid ((HSWfx.out).next (Nat.le_refl _) hb_)
     clear hb_
     have ct0 := thx.out.1 0 _ rfl
     have cu0 := uhx.out.1 0 _ rfl
     have cw0 := whx.out.1 0 _ rfl
     go_wp2_with fail
     refine (RFind_any Au cu U y.idx _ _ (Nat.le_refl _) HSUhx.out).mono ?_
     rintro e fy ⟨hb_, dy, Ady, cdy, -, rfl, -, -⟩
     clear ct0 cu0 cw0
     have HSfy := Lib.hid (show hx.heap.size ≤ fy.heap.size from hb_.size)
     have HBfy := Lib.hid (HBhx.out.trans (hb_.mono HBhx.out.size))
     have tfy := Lib.hid (thx.out.kept (grown_none hb_) (fun e => by cases e))
     have ufy := Lib.hid (uhx.out.kept (grown_none hb_) (fun e => by cases e))
     have wfy := Lib.hid (whx.out.kept (grown_none hb_) (fun e => by cases e))
     have HSLfy := Lib.hid ((HSLhx.out).next (Nat.le_refl _) hb_)
     have HSUfy := Lib.hid ((HSUhx.out).next (Nat.le_refl _) hb_)
     have HSWfy := Lib.hid ((HSWhx.out).next (Nat.le_refl _) hb_)
     clear hb_
     obtain ⟨qy, hqy⟩ : ∃ z, (findD U y.idx).isSome = z := ⟨_, rfl⟩
     rw [hqy]
     have HQy := Lib.hid hqy; clear hqy
     have ct0 := tfy.out.1 0 _ rfl
     have cu0 := ufy.out.1 0 _ rfl
     have cw0 := wfy.out.1 0 _ rfl
     go_upto_region 17 with fail
     obtain ⟨hy, hhy⟩ : ∃ z, fy.alloc (.cells #[.int .i64 dy.idx, .int .i64 dy.par, .string dy.nm, .string dy.orig, .string dy.sub, .string dy.drv, .string dy.ali, .int .i64 dy.kind, .int .i64 dy.num, .slice Ady dy.attrs.length cdy] 34) = z := ⟨_, rfl⟩
     have hb_ : Below fy.heap.size fy hy := by rw [← hhy]; exact (Below.refl _ _).alloc (Nat.le_refl _) _
     try simp only [hhy]
     clear hhy
     clear ct0 cu0 cw0
     have HShy := Lib.hid (show fy.heap.size ≤ hy.heap.size from hb_.size)
     have HBhy := Lib.hid (HBfy.out.trans (hb_.mono HBfy.out.size))
     have thy := Lib.hid (tfy.out.kept (grown_none hb_) (fun e => by cases e))
     have uhy := Lib.hid (ufy.out.kept (grown_none hb_) (fun e => by cases e))
     have why := Lib.hid (wfy.out.kept (grown_none hb_) (fun e => by cases e))
     have HSLhy := Lib.hid ((HSLfy.out).next (Nat.le_refl _) hb_)
     have HSUhy := Lib.hid ((HSUfy.out).next (Nat.le_refl _) hb_)
     have HSWhy := Lib.hid ((HSWfy.out).next (Nat.le_refl _) hb_)
     clear hb_
     have ct0 := thy.out.1 0 _ rfl
     have cu0 := uhy.out.1 0 _ rfl
     have cw0 := why.out.1 0 _ rfl
     obtain ⟨rz, hrz⟩ : ∃ z, relB L x.idx y.idx = z := ⟨_, rfl⟩
     have HRZ := Lib.hid hrz
     have HRW := Lib.hid (show relB WL x.idx y.idx = rz by rw [← hrz, ← HWL.out]; exact rel_ins HVT.out HZZ.out HMX.out HMY.out)
     have HRU := Lib.hid (show qx = true → qy = true → relB U x.idx y.idx = rz from fun h1 h2 => by
      rw [← hrz, ← HUU.out]
      exact rel_rem HVT.out n (rem_has HVT.out.wf HMX.out (by rw [HUU.out, HQx.out, h1])) (rem_has HVT.out.wf HMY.out (by rw [HUU.out, HQy.out, h2])))
     clear hrz
     go_cut [117] (fun s wx => s = .bool false ∧ Hid (GrS w w2.heap.size g6 wi.heap.size (some ⟨b3, o3, none⟩) cT L Au cu U Aw cw WL wx))
     case first =>
      cases qx <;> cases qy
      ·
       refine wp_region_held_drew (S := fun w' => BoxL w' w2.heap.size [.slice (some ⟨b3, o3, none⟩) L.length cT] ∧ BoxL w' g6 [.slice Au U.length cu] ∧ BoxL w' wi.heap.size [.slice Aw WL.length cw]) (by kernel_rfl) ⟨thy.out.drew, uhy.out.drew, why.out.drew⟩ (fun hS0 => ?_)
       obtain ⟨wd3, hwd3⟩ : ∃ z, World.drew hy = z := ⟨_, rfl⟩
       rw [hwd3] at hS0 ⊢
       have hb_ : Below hy.heap.size hy wd3 := by rw [← hwd3]; exact below_drewN_self _ _ 1
       clear hwd3 hS0
       clear ct0 cu0 cw0
       have HSwd3 := Lib.hid (show hy.heap.size ≤ wd3.heap.size from hb_.size)
       have HBwd3 := Lib.hid (HBhy.out.trans (hb_.mono HBhy.out.size))
       have twd3 := Lib.hid (thy.out.kept (grown_none hb_) (fun e => by cases e))
       have uwd3 := Lib.hid (uhy.out.kept (grown_none hb_) (fun e => by cases e))
       have wwd3 := Lib.hid (why.out.kept (grown_none hb_) (fun e => by cases e))
       have HSLwd3 := Lib.hid ((HSLhy.out).next (Nat.le_refl _) hb_)
       have HSUwd3 := Lib.hid ((HSUhy.out).next (Nat.le_refl _) hb_)
       have HSWwd3 := Lib.hid ((HSWhy.out).next (Nat.le_refl _) hb_)
       clear hb_
       refine wpAnyH_take (i := 0) (oi := ⟨some 92, _, _, _, _, _⟩) (v := .agg #[.slice Aw WL.length cw]) rfl (by kernel_rfl) (by kernel_rfl) (by kernel_rfl) (fun _ _ _ h => h) (Or.inl ⟨by rfl, fun w' hS => by (have u0_ := hS.2.2.1 0 _ rfl; go_simp)⟩) ⟨twd3.out, uwd3.out, wwd3.out⟩ ?_
       try simp only [Act.put, List.setIfInBounds_toArray, List.set_cons_zero, List.set_cons_succ]
       refine wpAnyH_take (i := 1) (oi := ⟨some 93, _, _, _, _, _⟩) (v := .int .i64 x.idx) rfl (by kernel_rfl) (by kernel_rfl) (by kernel_rfl) (fun _ _ _ h => h) (Or.inl ⟨by rfl, fun w' hS => by go_simp⟩) ⟨twd3.out, uwd3.out, wwd3.out⟩ ?_
       try simp only [Act.put, List.setIfInBounds_toArray, List.set_cons_zero, List.set_cons_succ]
       refine wpAnyH_take (i := 2) (oi := ⟨some 94, _, _, _, _, _⟩) (v := .int .i64 y.idx) rfl (by kernel_rfl) (by kernel_rfl) (by kernel_rfl) (fun _ _ _ h => h) (Or.inl ⟨by rfl, fun w' hS => by go_simp⟩) ⟨twd3.out, uwd3.out, wwd3.out⟩ ?_
       try simp only [Act.put, List.setIfInBounds_toArray, List.set_cons_zero, List.set_cons_succ]
       refine wpAnyH_take (i := 4) (oi := ⟨some 96, _, _, _, _, _⟩) (v := .agg #[.slice (some ⟨b3, o3, none⟩) L.length cT]) rfl (by kernel_rfl) (by kernel_rfl) (by kernel_rfl) (fun _ _ _ h => h) (Or.inl ⟨by rfl, fun w' hS => by (have u0_ := hS.1.1 0 _ rfl; go_simp)⟩) ⟨twd3.out, uwd3.out, wwd3.out⟩ ?_
       try simp only [Act.put, List.setIfInBounds_toArray, List.set_cons_zero, List.set_cons_succ]
       refine wpAnyH_take (i := 5) (oi := ⟨some 97, _, _, _, _, _⟩) (v := .int .i64 x.idx) rfl (by kernel_rfl) (by kernel_rfl) (by kernel_rfl) (fun _ _ _ h => h) (Or.inl ⟨by rfl, fun w' hS => by go_simp⟩) ⟨twd3.out, uwd3.out, wwd3.out⟩ ?_
       try simp only [Act.put, List.setIfInBounds_toArray, List.set_cons_zero, List.set_cons_succ]
       refine wpAnyH_take (i := 6) (oi := ⟨some 98, _, _, _, _, _⟩) (v := .int .i64 y.idx) rfl (by kernel_rfl) (by kernel_rfl) (by kernel_rfl) (fun _ _ _ h => h) (Or.inl ⟨by rfl, fun w' hS => by go_simp⟩) ⟨twd3.out, uwd3.out, wwd3.out⟩ ?_
       try simp only [Act.put, List.setIfInBounds_toArray, List.set_cons_zero, List.set_cons_succ]
       refine wpAnyH_ready (rs := [3]) (by kernel_rfl) (by simp) ?_
       refine AllReadyH.cons (o := ⟨some 95, .call ⟨_, _, _⟩, _, _, _, _⟩) rfl (fun K hK => ?_) AllReadyH.nil
       go_simp
       go_at_call 20
       refine (Related_any Aw cw WL x.idx y.idx _ _ (Nat.le_refl _) HSWwd3.out HVW.out HOX.out HOY.out (HOK.out.next HBwd3.out) (HOA.out.next HBwd3.out)).mono ?_
       rintro e' r1 ⟨rfl, hb_⟩
       rw [HRW.out]
       have HSr1 := Lib.hid (show wd3.heap.size ≤ r1.heap.size from hb_.size)
       have HBr1 := Lib.hid (HBwd3.out.trans (hb_.mono HBwd3.out.size))
       have tr1 := Lib.hid (twd3.out.kept (grown_none hb_) (fun e => by cases e))
       have ur1 := Lib.hid (uwd3.out.kept (grown_none hb_) (fun e => by cases e))
       have wr1 := Lib.hid (wwd3.out.kept (grown_none hb_) (fun e => by cases e))
       have HSLr1 := Lib.hid ((HSLwd3.out).next (Nat.le_refl _) hb_)
       have HSUr1 := Lib.hid ((HSUwd3.out).next (Nat.le_refl _) hb_)
       have HSWr1 := Lib.hid ((HSWwd3.out).next (Nat.le_refl _) hb_)
       clear hb_
       refine hK.out _ _ ⟨tr1.out, ur1.out, wr1.out⟩ (fun _ => ?_)
       clear hK K
       try simp only [Act.put, List.setIfInBounds_toArray, List.set_cons_zero, List.set_cons_succ]
       refine wpAnyH_ready (rs := [7]) (by kernel_rfl) (by simp) ?_
       refine AllReadyH.cons (o := ⟨some 99, .call ⟨_, _, _⟩, _, _, _, _⟩) rfl (fun K hK => ?_) AllReadyH.nil
       go_simp
       go_at_call 20
       refine (Related_any (some ⟨b3, o3, none⟩) cT L x.idx y.idx _ _ (Nat.le_refl _) HSLr1.out HVT.out HOX.out HOY.out (HOK.out.next HBr1.out) (HOA.out.next HBr1.out)).mono ?_
       rintro e' r2 ⟨rfl, hb_⟩
       rw [HRZ.out]
       have HSr2 := Lib.hid (show r1.heap.size ≤ r2.heap.size from hb_.size)
       have HBr2 := Lib.hid (HBr1.out.trans (hb_.mono HBr1.out.size))
       have tr2 := Lib.hid (tr1.out.kept (grown_none hb_) (fun e => by cases e))
       have ur2 := Lib.hid (ur1.out.kept (grown_none hb_) (fun e => by cases e))
       have wr2 := Lib.hid (wr1.out.kept (grown_none hb_) (fun e => by cases e))
       have HSLr2 := Lib.hid ((HSLr1.out).next (Nat.le_refl _) hb_)
       have HSUr2 := Lib.hid ((HSUr1.out).next (Nat.le_refl _) hb_)
       have HSWr2 := Lib.hid ((HSWr1.out).next (Nat.le_refl _) hb_)
       clear hb_
       refine hK.out _ _ ⟨tr2.out, ur2.out, wr2.out⟩ (fun _ => ?_)
       clear hK K
       try simp only [Act.put, List.setIfInBounds_toArray, List.set_cons_zero, List.set_cons_succ]
       have hrr : (rz != rz) = false := by cases rz <;> rfl
       refine wpAnyH_take (i := 8) (oi := ⟨some 100, _, _, _, _, _⟩) (v := .bool false) rfl (by kernel_rfl) (by kernel_rfl) (by kernel_rfl) (fun _ _ _ h => h) (Or.inl ⟨by rfl, fun w' hS => by go_simp⟩) ⟨tr2.out, ur2.out, wr2.out⟩ ?_
       try simp only [Act.put, List.setIfInBounds_toArray, List.set_cons_zero, List.set_cons_succ]
       refine wpAnyH_take (i := 9) (oi := ⟨some 101, _, _, _, _, _⟩) (v := .bool false) rfl (by kernel_rfl) (by kernel_rfl) (by kernel_rfl) (fun _ _ _ h => h) (Or.inl ⟨by rfl, fun w' hS => by go_simp⟩) ⟨tr2.out, ur2.out, wr2.out⟩ ?_
       try simp only [Act.put, List.setIfInBounds_toArray, List.set_cons_zero, List.set_cons_succ]
       refine wpAnyH_take (i := 10) (oi := ⟨some 102, _, _, _, _, _⟩) (v := .bool false) rfl (by kernel_rfl) (by kernel_rfl) (by kernel_rfl) (fun _ _ _ h => h) (Or.inl ⟨by rfl, fun w' hS => by go_simp⟩) ⟨tr2.out, ur2.out, wr2.out⟩ ?_
       try simp only [Act.put, List.setIfInBounds_toArray, List.set_cons_zero, List.set_cons_succ]
       refine wpAnyH_take (i := 11) (oi := ⟨some 103, _, _, _, _, _⟩) (v := .bool false) rfl (by kernel_rfl) (by kernel_rfl) (by kernel_rfl) (fun _ _ _ h => h) (Or.inl ⟨by rfl, fun w' hS => by go_simp⟩) ⟨tr2.out, ur2.out, wr2.out⟩ ?_
       try simp only [Act.put, List.setIfInBounds_toArray, List.set_cons_zero, List.set_cons_succ]
       refine wpAnyH_take (i := 12) (oi := ⟨some 104, _, _, _, _, _⟩) (v := undef) rfl (by kernel_rfl) (by kernel_rfl) (by kernel_rfl) (fun _ _ _ h => h) (Or.inr ⟨by rfl, rfl⟩) ⟨tr2.out, ur2.out, wr2.out⟩ ?_
       try simp only [Act.put, List.setIfInBounds_toArray, List.set_cons_zero, List.set_cons_succ]
       refine wpAnyH_take (i := 13) (oi := ⟨some 105, _, _, _, _, _⟩) (v := .bool false) rfl (by kernel_rfl) (by kernel_rfl) (by kernel_rfl) (fun _ _ _ h => h) (Or.inl ⟨by rfl, fun w' hS => by go_simp⟩) ⟨tr2.out, ur2.out, wr2.out⟩ ?_
       try simp only [Act.put, List.setIfInBounds_toArray, List.set_cons_zero, List.set_cons_succ]
       refine wpAnyH_take (i := 14) (oi := ⟨some 106, _, _, _, _, _⟩) (v := .bool false) rfl (by kernel_rfl) (by kernel_rfl) (by kernel_rfl) (fun _ _ _ h => h) (Or.inl ⟨by rfl, fun w' hS => by go_simp⟩) ⟨tr2.out, ur2.out, wr2.out⟩ ?_
       try simp only [Act.put, List.setIfInBounds_toArray, List.set_cons_zero, List.set_cons_succ]
       refine wpAnyH_take (i := 15) (oi := ⟨some 107, _, _, _, _, _⟩) (v := undef) rfl (by kernel_rfl) (by kernel_rfl) (by kernel_rfl) (fun _ _ _ h => h) (Or.inr ⟨by rfl, rfl⟩) ⟨tr2.out, ur2.out, wr2.out⟩ ?_
       try simp only [Act.put, List.setIfInBounds_toArray, List.set_cons_zero, List.set_cons_succ]
       refine wpAnyH_take (i := 16) (oi := ⟨some 108, _, _, _, _, _⟩) (v := undef) rfl (by kernel_rfl) (by kernel_rfl) (by kernel_rfl) (fun _ _ _ h => h) (Or.inr ⟨by rfl, rfl⟩) ⟨tr2.out, ur2.out, wr2.out⟩ ?_
       try simp only [Act.put, List.setIfInBounds_toArray, List.set_cons_zero, List.set_cons_succ]
       refine wpAnyH_take (i := 17) (oi := ⟨some 109, _, _, _, _, _⟩) (v := undef) rfl (by kernel_rfl) (by kernel_rfl) (by kernel_rfl) (fun _ _ _ h => h) (Or.inr ⟨by rfl, rfl⟩) ⟨tr2.out, ur2.out, wr2.out⟩ ?_
       try simp only [Act.put, List.setIfInBounds_toArray, List.set_cons_zero, List.set_cons_succ]
       refine wpAnyH_take (i := 18) (oi := ⟨some 110, _, _, _, _, _⟩) (v := undef) rfl (by kernel_rfl) (by kernel_rfl) (by kernel_rfl) (fun _ _ _ h => h) (Or.inr ⟨by rfl, rfl⟩) ⟨tr2.out, ur2.out, wr2.out⟩ ?_
       try simp only [Act.put, List.setIfInBounds_toArray, List.set_cons_zero, List.set_cons_succ]
       refine wpAnyH_take (i := 19) (oi := ⟨some 111, _, _, _, _, _⟩) (v := undef) rfl (by kernel_rfl) (by kernel_rfl) (by kernel_rfl) (fun _ _ _ h => h) (Or.inr ⟨by rfl, rfl⟩) ⟨tr2.out, ur2.out, wr2.out⟩ ?_
       try simp only [Act.put, List.setIfInBounds_toArray, List.set_cons_zero, List.set_cons_succ]
       refine wpAnyH_take (i := 20) (oi := ⟨some 112, _, _, _, _, _⟩) (v := undef) rfl (by kernel_rfl) (by kernel_rfl) (by kernel_rfl) (fun _ _ _ h => h) (Or.inr ⟨by rfl, rfl⟩) ⟨tr2.out, ur2.out, wr2.out⟩ ?_
       try simp only [Act.put, List.setIfInBounds_toArray, List.set_cons_zero, List.set_cons_succ]
       refine wpAnyH_take (i := 21) (oi := ⟨some 113, _, _, _, _, _⟩) (v := undef) rfl (by kernel_rfl) (by kernel_rfl) (by kernel_rfl) (fun _ _ _ h => h) (Or.inr ⟨by rfl, rfl⟩) ⟨tr2.out, ur2.out, wr2.out⟩ ?_
       try simp only [Act.put, List.setIfInBounds_toArray, List.set_cons_zero, List.set_cons_succ]
       refine wpAnyH_take (i := 22) (oi := ⟨some 114, _, _, _, _, _⟩) (v := undef) rfl (by kernel_rfl) (by kernel_rfl) (by kernel_rfl) (fun _ _ _ h => h) (Or.inr ⟨by rfl, rfl⟩) ⟨tr2.out, ur2.out, wr2.out⟩ ?_
       try simp only [Act.put, List.setIfInBounds_toArray, List.set_cons_zero, List.set_cons_succ]
       refine wpAnyH_take (i := 23) (oi := ⟨some 115, _, _, _, _, _⟩) (v := undef) rfl (by kernel_rfl) (by kernel_rfl) (by kernel_rfl) (fun _ _ _ h => h) (Or.inr ⟨by rfl, rfl⟩) ⟨tr2.out, ur2.out, wr2.out⟩ ?_
       try simp only [Act.put, List.setIfInBounds_toArray, List.set_cons_zero, List.set_cons_succ]
       refine wpAnyH_take (i := 24) (oi := ⟨some 116, _, _, _, _, _⟩) (v := .bool false) rfl (by kernel_rfl) (by kernel_rfl) (by kernel_rfl) (fun _ _ _ h => h) (Or.inl ⟨by rfl, fun w' hS => by go_simp⟩) ⟨tr2.out, ur2.out, wr2.out⟩ ?_
       try simp only [Act.put, List.setIfInBounds_toArray, List.set_cons_zero, List.set_cons_succ]
       refine wpAnyH_take (i := 25) (oi := ⟨some 117, _, _, _, _, _⟩) (v := .bool false) rfl (by kernel_rfl) (by kernel_rfl) (by kernel_rfl) (fun _ _ _ h => h) (Or.inl ⟨by rfl, fun w' hS => by go_simp⟩) ⟨tr2.out, ur2.out, wr2.out⟩ ?_
       try simp only [Act.put, List.setIfInBounds_toArray, List.set_cons_zero, List.set_cons_succ]
       clear hrr
       refine wpAnyH_done (by kernel_rfl) ?_ _
       have HRN := Lib.hid (show GrS w w2.heap.size g6 wi.heap.size (some ⟨b3, o3, none⟩) cT L Au cu U Aw cw WL r2 from ⟨HBr2.out, tr2.out, ur2.out, wr2.out, HSLr2.out, HSUr2.out, HSWr2.out⟩)
       go_wp2_with fail
       go_meet
       exact ⟨rfl, HRN⟩
      ·
       refine wp_region_held_drew (S := fun w' => BoxL w' w2.heap.size [.slice (some ⟨b3, o3, none⟩) L.length cT] ∧ BoxL w' g6 [.slice Au U.length cu] ∧ BoxL w' wi.heap.size [.slice Aw WL.length cw]) (by kernel_rfl) ⟨thy.out.drew, uhy.out.drew, why.out.drew⟩ (fun hS0 => ?_)
       obtain ⟨wd3, hwd3⟩ : ∃ z, World.drew hy = z := ⟨_, rfl⟩
       rw [hwd3] at hS0 ⊢
       have hb_ : Below hy.heap.size hy wd3 := by rw [← hwd3]; exact below_drewN_self _ _ 1
       clear hwd3 hS0
       clear ct0 cu0 cw0
       have HSwd3 := Lib.hid (show hy.heap.size ≤ wd3.heap.size from hb_.size)
       have HBwd3 := Lib.hid (HBhy.out.trans (hb_.mono HBhy.out.size))
       have twd3 := Lib.hid (thy.out.kept (grown_none hb_) (fun e => by cases e))
       have uwd3 := Lib.hid (uhy.out.kept (grown_none hb_) (fun e => by cases e))
       have wwd3 := Lib.hid (why.out.kept (grown_none hb_) (fun e => by cases e))
       have HSLwd3 := Lib.hid ((HSLhy.out).next (Nat.le_refl _) hb_)
       have HSUwd3 := Lib.hid ((HSUhy.out).next (Nat.le_refl _) hb_)
       have HSWwd3 := Lib.hid ((HSWhy.out).next (Nat.le_refl _) hb_)
       clear hb_
       refine wpAnyH_take (i := 0) (oi := ⟨some 92, _, _, _, _, _⟩) (v := .agg #[.slice Aw WL.length cw]) rfl (by kernel_rfl) (by kernel_rfl) (by kernel_rfl) (fun _ _ _ h => h) (Or.inl ⟨by rfl, fun w' hS => by (have u0_ := hS.2.2.1 0 _ rfl; go_simp)⟩) ⟨twd3.out, uwd3.out, wwd3.out⟩ ?_
       try simp only [Act.put, List.setIfInBounds_toArray, List.set_cons_zero, List.set_cons_succ]
       refine wpAnyH_take (i := 1) (oi := ⟨some 93, _, _, _, _, _⟩) (v := .int .i64 x.idx) rfl (by kernel_rfl) (by kernel_rfl) (by kernel_rfl) (fun _ _ _ h => h) (Or.inl ⟨by rfl, fun w' hS => by go_simp⟩) ⟨twd3.out, uwd3.out, wwd3.out⟩ ?_
       try simp only [Act.put, List.setIfInBounds_toArray, List.set_cons_zero, List.set_cons_succ]
       refine wpAnyH_take (i := 2) (oi := ⟨some 94, _, _, _, _, _⟩) (v := .int .i64 y.idx) rfl (by kernel_rfl) (by kernel_rfl) (by kernel_rfl) (fun _ _ _ h => h) (Or.inl ⟨by rfl, fun w' hS => by go_simp⟩) ⟨twd3.out, uwd3.out, wwd3.out⟩ ?_
       try simp only [Act.put, List.setIfInBounds_toArray, List.set_cons_zero, List.set_cons_succ]
       refine wpAnyH_take (i := 4) (oi := ⟨some 96, _, _, _, _, _⟩) (v := .agg #[.slice (some ⟨b3, o3, none⟩) L.length cT]) rfl (by kernel_rfl) (by kernel_rfl) (by kernel_rfl) (fun _ _ _ h => h) (Or.inl ⟨by rfl, fun w' hS => by (have u0_ := hS.1.1 0 _ rfl; go_simp)⟩) ⟨twd3.out, uwd3.out, wwd3.out⟩ ?_
       try simp only [Act.put, List.setIfInBounds_toArray, List.set_cons_zero, List.set_cons_succ]
       refine wpAnyH_take (i := 5) (oi := ⟨some 97, _, _, _, _, _⟩) (v := .int .i64 x.idx) rfl (by kernel_rfl) (by kernel_rfl) (by kernel_rfl) (fun _ _ _ h => h) (Or.inl ⟨by rfl, fun w' hS => by go_simp⟩) ⟨twd3.out, uwd3.out, wwd3.out⟩ ?_
       try simp only [Act.put, List.setIfInBounds_toArray, List.set_cons_zero, List.set_cons_succ]
       refine wpAnyH_take (i := 6) (oi := ⟨some 98, _, _, _, _, _⟩) (v := .int .i64 y.idx) rfl (by kernel_rfl) (by kernel_rfl) (by kernel_rfl) (fun _ _ _ h => h) (Or.inl ⟨by rfl, fun w' hS => by go_simp⟩) ⟨twd3.out, uwd3.out, wwd3.out⟩ ?_
       try simp only [Act.put, List.setIfInBounds_toArray, List.set_cons_zero, List.set_cons_succ]
       refine wpAnyH_ready (rs := [3]) (by kernel_rfl) (by simp) ?_
       refine AllReadyH.cons (o := ⟨some 95, .call ⟨_, _, _⟩, _, _, _, _⟩) rfl (fun K hK => ?_) AllReadyH.nil
       go_simp
       go_at_call 20
       refine (Related_any Aw cw WL x.idx y.idx _ _ (Nat.le_refl _) HSWwd3.out HVW.out HOX.out HOY.out (HOK.out.next HBwd3.out) (HOA.out.next HBwd3.out)).mono ?_
       rintro e' r1 ⟨rfl, hb_⟩
       rw [HRW.out]
       have HSr1 := Lib.hid (show wd3.heap.size ≤ r1.heap.size from hb_.size)
       have HBr1 := Lib.hid (HBwd3.out.trans (hb_.mono HBwd3.out.size))
       have tr1 := Lib.hid (twd3.out.kept (grown_none hb_) (fun e => by cases e))
       have ur1 := Lib.hid (uwd3.out.kept (grown_none hb_) (fun e => by cases e))
       have wr1 := Lib.hid (wwd3.out.kept (grown_none hb_) (fun e => by cases e))
       have HSLr1 := Lib.hid ((HSLwd3.out).next (Nat.le_refl _) hb_)
       have HSUr1 := Lib.hid ((HSUwd3.out).next (Nat.le_refl _) hb_)
       have HSWr1 := Lib.hid ((HSWwd3.out).next (Nat.le_refl _) hb_)
       clear hb_
       refine hK.out _ _ ⟨tr1.out, ur1.out, wr1.out⟩ (fun _ => ?_)
       clear hK K
       try simp only [Act.put, List.setIfInBounds_toArray, List.set_cons_zero, List.set_cons_succ]
       refine wpAnyH_ready (rs := [7]) (by kernel_rfl) (by simp) ?_
       refine AllReadyH.cons (o := ⟨some 99, .call ⟨_, _, _⟩, _, _, _, _⟩) rfl (fun K hK => ?_) AllReadyH.nil
       go_simp
       go_at_call 20
       refine (Related_any (some ⟨b3, o3, none⟩) cT L x.idx y.idx _ _ (Nat.le_refl _) HSLr1.out HVT.out HOX.out HOY.out (HOK.out.next HBr1.out) (HOA.out.next HBr1.out)).mono ?_
       rintro e' r2 ⟨rfl, hb_⟩
       rw [HRZ.out]
       have HSr2 := Lib.hid (show r1.heap.size ≤ r2.heap.size from hb_.size)
       have HBr2 := Lib.hid (HBr1.out.trans (hb_.mono HBr1.out.size))
       have tr2 := Lib.hid (tr1.out.kept (grown_none hb_) (fun e => by cases e))
       have ur2 := Lib.hid (ur1.out.kept (grown_none hb_) (fun e => by cases e))
       have wr2 := Lib.hid (wr1.out.kept (grown_none hb_) (fun e => by cases e))
       have HSLr2 := Lib.hid ((HSLr1.out).next (Nat.le_refl _) hb_)
       have HSUr2 := Lib.hid ((HSUr1.out).next (Nat.le_refl _) hb_)
       have HSWr2 := Lib.hid ((HSWr1.out).next (Nat.le_refl _) hb_)
       clear hb_
       refine hK.out _ _ ⟨tr2.out, ur2.out, wr2.out⟩ (fun _ => ?_)
       clear hK K
       try simp only [Act.put, List.setIfInBounds_toArray, List.set_cons_zero, List.set_cons_succ]
       have hrr : (rz != rz) = false := by cases rz <;> rfl
       refine wpAnyH_take (i := 8) (oi := ⟨some 100, _, _, _, _, _⟩) (v := .bool false) rfl (by kernel_rfl) (by kernel_rfl) (by kernel_rfl) (fun _ _ _ h => h) (Or.inl ⟨by rfl, fun w' hS => by go_simp⟩) ⟨tr2.out, ur2.out, wr2.out⟩ ?_
       try simp only [Act.put, List.setIfInBounds_toArray, List.set_cons_zero, List.set_cons_succ]
       refine wpAnyH_take (i := 9) (oi := ⟨some 101, _, _, _, _, _⟩) (v := .bool false) rfl (by kernel_rfl) (by kernel_rfl) (by kernel_rfl) (fun _ _ _ h => h) (Or.inl ⟨by rfl, fun w' hS => by go_simp⟩) ⟨tr2.out, ur2.out, wr2.out⟩ ?_
       try simp only [Act.put, List.setIfInBounds_toArray, List.set_cons_zero, List.set_cons_succ]
       refine wpAnyH_take (i := 10) (oi := ⟨some 102, _, _, _, _, _⟩) (v := .bool false) rfl (by kernel_rfl) (by kernel_rfl) (by kernel_rfl) (fun _ _ _ h => h) (Or.inl ⟨by rfl, fun w' hS => by go_simp⟩) ⟨tr2.out, ur2.out, wr2.out⟩ ?_
       try simp only [Act.put, List.setIfInBounds_toArray, List.set_cons_zero, List.set_cons_succ]
       refine wpAnyH_take (i := 11) (oi := ⟨some 103, _, _, _, _, _⟩) (v := .bool false) rfl (by kernel_rfl) (by kernel_rfl) (by kernel_rfl) (fun _ _ _ h => h) (Or.inl ⟨by rfl, fun w' hS => by go_simp⟩) ⟨tr2.out, ur2.out, wr2.out⟩ ?_
       try simp only [Act.put, List.setIfInBounds_toArray, List.set_cons_zero, List.set_cons_succ]
       refine wpAnyH_take (i := 12) (oi := ⟨some 104, _, _, _, _, _⟩) (v := undef) rfl (by kernel_rfl) (by kernel_rfl) (by kernel_rfl) (fun _ _ _ h => h) (Or.inr ⟨by rfl, rfl⟩) ⟨tr2.out, ur2.out, wr2.out⟩ ?_
       try simp only [Act.put, List.setIfInBounds_toArray, List.set_cons_zero, List.set_cons_succ]
       refine wpAnyH_take (i := 13) (oi := ⟨some 105, _, _, _, _, _⟩) (v := .bool false) rfl (by kernel_rfl) (by kernel_rfl) (by kernel_rfl) (fun _ _ _ h => h) (Or.inl ⟨by rfl, fun w' hS => by go_simp⟩) ⟨tr2.out, ur2.out, wr2.out⟩ ?_
       try simp only [Act.put, List.setIfInBounds_toArray, List.set_cons_zero, List.set_cons_succ]
       refine wpAnyH_take (i := 14) (oi := ⟨some 106, _, _, _, _, _⟩) (v := .bool false) rfl (by kernel_rfl) (by kernel_rfl) (by kernel_rfl) (fun _ _ _ h => h) (Or.inl ⟨by rfl, fun w' hS => by go_simp⟩) ⟨tr2.out, ur2.out, wr2.out⟩ ?_
       try simp only [Act.put, List.setIfInBounds_toArray, List.set_cons_zero, List.set_cons_succ]
       refine wpAnyH_take (i := 15) (oi := ⟨some 107, _, _, _, _, _⟩) (v := undef) rfl (by kernel_rfl) (by kernel_rfl) (by kernel_rfl) (fun _ _ _ h => h) (Or.inr ⟨by rfl, rfl⟩) ⟨tr2.out, ur2.out, wr2.out⟩ ?_
       try simp only [Act.put, List.setIfInBounds_toArray, List.set_cons_zero, List.set_cons_succ]
       refine wpAnyH_take (i := 16) (oi := ⟨some 108, _, _, _, _, _⟩) (v := undef) rfl (by kernel_rfl) (by kernel_rfl) (by kernel_rfl) (fun _ _ _ h => h) (Or.inr ⟨by rfl, rfl⟩) ⟨tr2.out, ur2.out, wr2.out⟩ ?_
       try simp only [Act.put, List.setIfInBounds_toArray, List.set_cons_zero, List.set_cons_succ]
       refine wpAnyH_take (i := 17) (oi := ⟨some 109, _, _, _, _, _⟩) (v := undef) rfl (by kernel_rfl) (by kernel_rfl) (by kernel_rfl) (fun _ _ _ h => h) (Or.inr ⟨by rfl, rfl⟩) ⟨tr2.out, ur2.out, wr2.out⟩ ?_
       try simp only [Act.put, List.setIfInBounds_toArray, List.set_cons_zero, List.set_cons_succ]
       refine wpAnyH_take (i := 18) (oi := ⟨some 110, _, _, _, _, _⟩) (v := undef) rfl (by kernel_rfl) (by kernel_rfl) (by kernel_rfl) (fun _ _ _ h => h) (Or.inr ⟨by rfl, rfl⟩) ⟨tr2.out, ur2.out, wr2.out⟩ ?_
       try simp only [Act.put, List.setIfInBounds_toArray, List.set_cons_zero, List.set_cons_succ]
       refine wpAnyH_take (i := 19) (oi := ⟨some 111, _, _, _, _, _⟩) (v := undef) rfl (by kernel_rfl) (by kernel_rfl) (by kernel_rfl) (fun _ _ _ h => h) (Or.inr ⟨by rfl, rfl⟩) ⟨tr2.out, ur2.out, wr2.out⟩ ?_
       try simp only [Act.put, List.setIfInBounds_toArray, List.set_cons_zero, List.set_cons_succ]
       refine wpAnyH_take (i := 20) (oi := ⟨some 112, _, _, _, _, _⟩) (v := undef) rfl (by kernel_rfl) (by kernel_rfl) (by kernel_rfl) (fun _ _ _ h => h) (Or.inr ⟨by rfl, rfl⟩) ⟨tr2.out, ur2.out, wr2.out⟩ ?_
       try simp only [Act.put, List.setIfInBounds_toArray, List.set_cons_zero, List.set_cons_succ]
       refine wpAnyH_take (i := 21) (oi := ⟨some 113, _, _, _, _, _⟩) (v := undef) rfl (by kernel_rfl) (by kernel_rfl) (by kernel_rfl) (fun _ _ _ h => h) (Or.inr ⟨by rfl, rfl⟩) ⟨tr2.out, ur2.out, wr2.out⟩ ?_
       try simp only [Act.put, List.setIfInBounds_toArray, List.set_cons_zero, List.set_cons_succ]
       refine wpAnyH_take (i := 22) (oi := ⟨some 114, _, _, _, _, _⟩) (v := undef) rfl (by kernel_rfl) (by kernel_rfl) (by kernel_rfl) (fun _ _ _ h => h) (Or.inr ⟨by rfl, rfl⟩) ⟨tr2.out, ur2.out, wr2.out⟩ ?_
       try simp only [Act.put, List.setIfInBounds_toArray, List.set_cons_zero, List.set_cons_succ]
       refine wpAnyH_take (i := 23) (oi := ⟨some 115, _, _, _, _, _⟩) (v := undef) rfl (by kernel_rfl) (by kernel_rfl) (by kernel_rfl) (fun _ _ _ h => h) (Or.inr ⟨by rfl, rfl⟩) ⟨tr2.out, ur2.out, wr2.out⟩ ?_
       try simp only [Act.put, List.setIfInBounds_toArray, List.set_cons_zero, List.set_cons_succ]
       refine wpAnyH_take (i := 24) (oi := ⟨some 116, _, _, _, _, _⟩) (v := .bool false) rfl (by kernel_rfl) (by kernel_rfl) (by kernel_rfl) (fun _ _ _ h => h) (Or.inl ⟨by rfl, fun w' hS => by go_simp⟩) ⟨tr2.out, ur2.out, wr2.out⟩ ?_
       try simp only [Act.put, List.setIfInBounds_toArray, List.set_cons_zero, List.set_cons_succ]
       refine wpAnyH_take (i := 25) (oi := ⟨some 117, _, _, _, _, _⟩) (v := .bool false) rfl (by kernel_rfl) (by kernel_rfl) (by kernel_rfl) (fun _ _ _ h => h) (Or.inl ⟨by rfl, fun w' hS => by go_simp⟩) ⟨tr2.out, ur2.out, wr2.out⟩ ?_
       try simp only [Act.put, List.setIfInBounds_toArray, List.set_cons_zero, List.set_cons_succ]
       clear hrr
       refine wpAnyH_done (by kernel_rfl) ?_ _
       have HRN := Lib.hid (show GrS w w2.heap.size g6 wi.heap.size (some ⟨b3, o3, none⟩) cT L Au cu U Aw cw WL r2 from ⟨HBr2.out, tr2.out, ur2.out, wr2.out, HSLr2.out, HSUr2.out, HSWr2.out⟩)
       go_wp2_with fail
       go_meet
       exact ⟨rfl, HRN⟩
      ·
       refine wp_region_held_drew (S := fun w' => BoxL w' w2.heap.size [.slice (some ⟨b3, o3, none⟩) L.length cT] ∧ BoxL w' g6 [.slice Au U.length cu] ∧ BoxL w' wi.heap.size [.slice Aw WL.length cw]) (by kernel_rfl) ⟨thy.out.drew, uhy.out.drew, why.out.drew⟩ (fun hS0 => ?_)
       obtain ⟨wd3, hwd3⟩ : ∃ z, World.drew hy = z := ⟨_, rfl⟩
       rw [hwd3] at hS0 ⊢
       have hb_ : Below hy.heap.size hy wd3 := by rw [← hwd3]; exact below_drewN_self _ _ 1
       clear hwd3 hS0
       clear ct0 cu0 cw0
       have HSwd3 := Lib.hid (show hy.heap.size ≤ wd3.heap.size from hb_.size)
       have HBwd3 := Lib.hid (HBhy.out.trans (hb_.mono HBhy.out.size))
       have twd3 := Lib.hid (thy.out.kept (grown_none hb_) (fun e => by cases e))
       have uwd3 := Lib.hid (uhy.out.kept (grown_none hb_) (fun e => by cases e))
       have wwd3 := Lib.hid (why.out.kept (grown_none hb_) (fun e => by cases e))
       have HSLwd3 := Lib.hid ((HSLhy.out).next (Nat.le_refl _) hb_)
       have HSUwd3 := Lib.hid ((HSUhy.out).next (Nat.le_refl _) hb_)
       have HSWwd3 := Lib.hid ((HSWhy.out).next (Nat.le_refl _) hb_)
       clear hb_
       refine wpAnyH_take (i := 0) (oi := ⟨some 92, _, _, _, _, _⟩) (v := .agg #[.slice Aw WL.length cw]) rfl (by kernel_rfl) (by kernel_rfl) (by kernel_rfl) (fun _ _ _ h => h) (Or.inl ⟨by rfl, fun w' hS => by (have u0_ := hS.2.2.1 0 _ rfl; go_simp)⟩) ⟨twd3.out, uwd3.out, wwd3.out⟩ ?_
       try simp only [Act.put, List.setIfInBounds_toArray, List.set_cons_zero, List.set_cons_succ]
       refine wpAnyH_take (i := 1) (oi := ⟨some 93, _, _, _, _, _⟩) (v := .int .i64 x.idx) rfl (by kernel_rfl) (by kernel_rfl) (by kernel_rfl) (fun _ _ _ h => h) (Or.inl ⟨by rfl, fun w' hS => by go_simp⟩) ⟨twd3.out, uwd3.out, wwd3.out⟩ ?_
       try simp only [Act.put, List.setIfInBounds_toArray, List.set_cons_zero, List.set_cons_succ]
       refine wpAnyH_take (i := 2) (oi := ⟨some 94, _, _, _, _, _⟩) (v := .int .i64 y.idx) rfl (by kernel_rfl) (by kernel_rfl) (by kernel_rfl) (fun _ _ _ h => h) (Or.inl ⟨by rfl, fun w' hS => by go_simp⟩) ⟨twd3.out, uwd3.out, wwd3.out⟩ ?_
       try simp only [Act.put, List.setIfInBounds_toArray, List.set_cons_zero, List.set_cons_succ]
       refine wpAnyH_take (i := 4) (oi := ⟨some 96, _, _, _, _, _⟩) (v := .agg #[.slice (some ⟨b3, o3, none⟩) L.length cT]) rfl (by kernel_rfl) (by kernel_rfl) (by kernel_rfl) (fun _ _ _ h => h) (Or.inl ⟨by rfl, fun w' hS => by (have u0_ := hS.1.1 0 _ rfl; go_simp)⟩) ⟨twd3.out, uwd3.out, wwd3.out⟩ ?_
       try simp only [Act.put, List.setIfInBounds_toArray, List.set_cons_zero, List.set_cons_succ]
       refine wpAnyH_take (i := 5) (oi := ⟨some 97, _, _, _, _, _⟩) (v := .int .i64 x.idx) rfl (by kernel_rfl) (by kernel_rfl) (by kernel_rfl) (fun _ _ _ h => h) (Or.inl ⟨by rfl, fun w' hS => by go_simp⟩) ⟨twd3.out, uwd3.out, wwd3.out⟩ ?_
       try simp only [Act.put, List.setIfInBounds_toArray, List.set_cons_zero, List.set_cons_succ]
       refine wpAnyH_take (i := 6) (oi := ⟨some 98, _, _, _, _, _⟩) (v := .int .i64 y.idx) rfl (by kernel_rfl) (by kernel_rfl) (by kernel_rfl) (fun _ _ _ h => h) (Or.inl ⟨by rfl, fun w' hS => by go_simp⟩) ⟨twd3.out, uwd3.out, wwd3.out⟩ ?_
       try simp only [Act.put, List.setIfInBounds_toArray, List.set_cons_zero, List.set_cons_succ]
       refine wpAnyH_ready (rs := [3]) (by kernel_rfl) (by simp) ?_
       refine AllReadyH.cons (o := ⟨some 95, .call ⟨_, _, _⟩, _, _, _, _⟩) rfl (fun K hK => ?_) AllReadyH.nil
       go_simp
       go_at_call 20
       refine (Related_any Aw cw WL x.idx y.idx _ _ (Nat.le_refl _) HSWwd3.out HVW.out HOX.out HOY.out (HOK.out.next HBwd3.out) (HOA.out.next HBwd3.out)).mono ?_
       rintro e' r1 ⟨rfl, hb_⟩
       rw [HRW.out]
       have HSr1 := Lib.hid (show wd3.heap.size ≤ r1.heap.size from hb_.size)
       have HBr1 := Lib.hid (HBwd3.out.trans (hb_.mono HBwd3.out.size))
       have tr1 := Lib.hid (twd3.out.kept (grown_none hb_) (fun e => by cases e))
       have ur1 := Lib.hid (uwd3.out.kept (grown_none hb_) (fun e => by cases e))
       have wr1 := Lib.hid (wwd3.out.kept (grown_none hb_) (fun e => by cases e))
       have HSLr1 := Lib.hid ((HSLwd3.out).next (Nat.le_refl _) hb_)
       have HSUr1 := Lib.hid ((HSUwd3.out).next (Nat.le_refl _) hb_)
       have HSWr1 := Lib.hid ((HSWwd3.out).next (Nat.le_refl _) hb_)
       clear hb_
       refine hK.out _ _ ⟨tr1.out, ur1.out, wr1.out⟩ (fun _ => ?_)
       clear hK K
       try simp only [Act.put, List.setIfInBounds_toArray, List.set_cons_zero, List.set_cons_succ]
       refine wpAnyH_ready (rs := [7]) (by kernel_rfl) (by simp) ?_
       refine AllReadyH.cons (o := ⟨some 99, .call ⟨_, _, _⟩, _, _, _, _⟩) rfl (fun K hK => ?_) AllReadyH.nil
       go_simp
       go_at_call 20
       refine (Related_any (some ⟨b3, o3, none⟩) cT L x.idx y.idx _ _ (Nat.le_refl _) HSLr1.out HVT.out HOX.out HOY.out (HOK.out.next HBr1.out) (HOA.out.next HBr1.out)).mono ?_
       rintro e' r2 ⟨rfl, hb_⟩
       rw [HRZ.out]
       have HSr2 := Lib.hid (show r1.heap.size ≤ r2.heap.size from hb_.size)
       have HBr2 := Lib.hid (HBr1.out.trans (hb_.mono HBr1.out.size))
       have tr2 := Lib.hid (tr1.out.kept (grown_none hb_) (fun e => by cases e))
       have ur2 := Lib.hid (ur1.out.kept (grown_none hb_) (fun e => by cases e))
       have wr2 := Lib.hid (wr1.out.kept (grown_none hb_) (fun e => by cases e))
       have HSLr2 := Lib.hid ((HSLr1.out).next (Nat.le_refl _) hb_)
       have HSUr2 := Lib.hid ((HSUr1.out).next (Nat.le_refl _) hb_)
       have HSWr2 := Lib.hid ((HSWr1.out).next (Nat.le_refl _) hb_)
       clear hb_
       refine hK.out _ _ ⟨tr2.out, ur2.out, wr2.out⟩ (fun _ => ?_)
       clear hK K
       try simp only [Act.put, List.setIfInBounds_toArray, List.set_cons_zero, List.set_cons_succ]
       have hrr : (rz != rz) = false := by cases rz <;> rfl
       refine wpAnyH_take (i := 8) (oi := ⟨some 100, _, _, _, _, _⟩) (v := .bool false) rfl (by kernel_rfl) (by kernel_rfl) (by kernel_rfl) (fun _ _ _ h => h) (Or.inl ⟨by rfl, fun w' hS => by go_simp⟩) ⟨tr2.out, ur2.out, wr2.out⟩ ?_
       try simp only [Act.put, List.setIfInBounds_toArray, List.set_cons_zero, List.set_cons_succ]
       refine wpAnyH_take (i := 9) (oi := ⟨some 101, _, _, _, _, _⟩) (v := .bool false) rfl (by kernel_rfl) (by kernel_rfl) (by kernel_rfl) (fun _ _ _ h => h) (Or.inl ⟨by rfl, fun w' hS => by go_simp⟩) ⟨tr2.out, ur2.out, wr2.out⟩ ?_
       try simp only [Act.put, List.setIfInBounds_toArray, List.set_cons_zero, List.set_cons_succ]
       refine wpAnyH_take (i := 10) (oi := ⟨some 102, _, _, _, _, _⟩) (v := .bool true) rfl (by kernel_rfl) (by kernel_rfl) (by kernel_rfl) (fun _ _ _ h => h) (Or.inl ⟨by rfl, fun w' hS => by go_simp⟩) ⟨tr2.out, ur2.out, wr2.out⟩ ?_
       try simp only [Act.put, List.setIfInBounds_toArray, List.set_cons_zero, List.set_cons_succ]
       refine wpAnyH_take (i := 11) (oi := ⟨some 103, _, _, _, _, _⟩) (v := .bool true) rfl (by kernel_rfl) (by kernel_rfl) (by kernel_rfl) (fun _ _ _ h => h) (Or.inl ⟨by rfl, fun w' hS => by go_simp⟩) ⟨tr2.out, ur2.out, wr2.out⟩ ?_
       try simp only [Act.put, List.setIfInBounds_toArray, List.set_cons_zero, List.set_cons_succ]
       refine wpAnyH_take (i := 12) (oi := ⟨some 104, _, _, _, _, _⟩) (v := .bool false) rfl (by kernel_rfl) (by kernel_rfl) (by kernel_rfl) (fun _ _ _ h => h) (Or.inl ⟨by rfl, fun w' hS => by go_simp⟩) ⟨tr2.out, ur2.out, wr2.out⟩ ?_
       try simp only [Act.put, List.setIfInBounds_toArray, List.set_cons_zero, List.set_cons_succ]
       refine wpAnyH_take (i := 13) (oi := ⟨some 105, _, _, _, _, _⟩) (v := .bool false) rfl (by kernel_rfl) (by kernel_rfl) (by kernel_rfl) (fun _ _ _ h => h) (Or.inl ⟨by rfl, fun w' hS => by go_simp⟩) ⟨tr2.out, ur2.out, wr2.out⟩ ?_
       try simp only [Act.put, List.setIfInBounds_toArray, List.set_cons_zero, List.set_cons_succ]
       refine wpAnyH_take (i := 14) (oi := ⟨some 106, _, _, _, _, _⟩) (v := .bool false) rfl (by kernel_rfl) (by kernel_rfl) (by kernel_rfl) (fun _ _ _ h => h) (Or.inl ⟨by rfl, fun w' hS => by go_simp⟩) ⟨tr2.out, ur2.out, wr2.out⟩ ?_
       try simp only [Act.put, List.setIfInBounds_toArray, List.set_cons_zero, List.set_cons_succ]
       refine wpAnyH_take (i := 15) (oi := ⟨some 107, _, _, _, _, _⟩) (v := undef) rfl (by kernel_rfl) (by kernel_rfl) (by kernel_rfl) (fun _ _ _ h => h) (Or.inr ⟨by rfl, rfl⟩) ⟨tr2.out, ur2.out, wr2.out⟩ ?_
       try simp only [Act.put, List.setIfInBounds_toArray, List.set_cons_zero, List.set_cons_succ]
       refine wpAnyH_take (i := 16) (oi := ⟨some 108, _, _, _, _, _⟩) (v := undef) rfl (by kernel_rfl) (by kernel_rfl) (by kernel_rfl) (fun _ _ _ h => h) (Or.inr ⟨by rfl, rfl⟩) ⟨tr2.out, ur2.out, wr2.out⟩ ?_
       try simp only [Act.put, List.setIfInBounds_toArray, List.set_cons_zero, List.set_cons_succ]
       refine wpAnyH_take (i := 17) (oi := ⟨some 109, _, _, _, _, _⟩) (v := undef) rfl (by kernel_rfl) (by kernel_rfl) (by kernel_rfl) (fun _ _ _ h => h) (Or.inr ⟨by rfl, rfl⟩) ⟨tr2.out, ur2.out, wr2.out⟩ ?_
       try simp only [Act.put, List.setIfInBounds_toArray, List.set_cons_zero, List.set_cons_succ]
       refine wpAnyH_take (i := 18) (oi := ⟨some 110, _, _, _, _, _⟩) (v := undef) rfl (by kernel_rfl) (by kernel_rfl) (by kernel_rfl) (fun _ _ _ h => h) (Or.inr ⟨by rfl, rfl⟩) ⟨tr2.out, ur2.out, wr2.out⟩ ?_
       try simp only [Act.put, List.setIfInBounds_toArray, List.set_cons_zero, List.set_cons_succ]
       refine wpAnyH_take (i := 19) (oi := ⟨some 111, _, _, _, _, _⟩) (v := undef) rfl (by kernel_rfl) (by kernel_rfl) (by kernel_rfl) (fun _ _ _ h => h) (Or.inr ⟨by rfl, rfl⟩) ⟨tr2.out, ur2.out, wr2.out⟩ ?_
       try simp only [Act.put, List.setIfInBounds_toArray, List.set_cons_zero, List.set_cons_succ]
       refine wpAnyH_take (i := 20) (oi := ⟨some 112, _, _, _, _, _⟩) (v := undef) rfl (by kernel_rfl) (by kernel_rfl) (by kernel_rfl) (fun _ _ _ h => h) (Or.inr ⟨by rfl, rfl⟩) ⟨tr2.out, ur2.out, wr2.out⟩ ?_
       try simp only [Act.put, List.setIfInBounds_toArray, List.set_cons_zero, List.set_cons_succ]
       refine wpAnyH_take (i := 21) (oi := ⟨some 113, _, _, _, _, _⟩) (v := undef) rfl (by kernel_rfl) (by kernel_rfl) (by kernel_rfl) (fun _ _ _ h => h) (Or.inr ⟨by rfl, rfl⟩) ⟨tr2.out, ur2.out, wr2.out⟩ ?_
       try simp only [Act.put, List.setIfInBounds_toArray, List.set_cons_zero, List.set_cons_succ]
       refine wpAnyH_take (i := 22) (oi := ⟨some 114, _, _, _, _, _⟩) (v := undef) rfl (by kernel_rfl) (by kernel_rfl) (by kernel_rfl) (fun _ _ _ h => h) (Or.inr ⟨by rfl, rfl⟩) ⟨tr2.out, ur2.out, wr2.out⟩ ?_
       try simp only [Act.put, List.setIfInBounds_toArray, List.set_cons_zero, List.set_cons_succ]
       refine wpAnyH_take (i := 23) (oi := ⟨some 115, _, _, _, _, _⟩) (v := undef) rfl (by kernel_rfl) (by kernel_rfl) (by kernel_rfl) (fun _ _ _ h => h) (Or.inr ⟨by rfl, rfl⟩) ⟨tr2.out, ur2.out, wr2.out⟩ ?_
       try simp only [Act.put, List.setIfInBounds_toArray, List.set_cons_zero, List.set_cons_succ]
       refine wpAnyH_take (i := 24) (oi := ⟨some 116, _, _, _, _, _⟩) (v := .bool false) rfl (by kernel_rfl) (by kernel_rfl) (by kernel_rfl) (fun _ _ _ h => h) (Or.inl ⟨by rfl, fun w' hS => by go_simp⟩) ⟨tr2.out, ur2.out, wr2.out⟩ ?_
       try simp only [Act.put, List.setIfInBounds_toArray, List.set_cons_zero, List.set_cons_succ]
       refine wpAnyH_take (i := 25) (oi := ⟨some 117, _, _, _, _, _⟩) (v := .bool false) rfl (by kernel_rfl) (by kernel_rfl) (by kernel_rfl) (fun _ _ _ h => h) (Or.inl ⟨by rfl, fun w' hS => by go_simp⟩) ⟨tr2.out, ur2.out, wr2.out⟩ ?_
       try simp only [Act.put, List.setIfInBounds_toArray, List.set_cons_zero, List.set_cons_succ]
       clear hrr
       refine wpAnyH_done (by kernel_rfl) ?_ _
       have HRN := Lib.hid (show GrS w w2.heap.size g6 wi.heap.size (some ⟨b3, o3, none⟩) cT L Au cu U Aw cw WL r2 from ⟨HBr2.out, tr2.out, ur2.out, wr2.out, HSLr2.out, HSUr2.out, HSWr2.out⟩)
       go_wp2_with fail
       go_meet
       exact ⟨rfl, HRN⟩
      ·
       refine wp_region_held_drew (S := fun w' => BoxL w' w2.heap.size [.slice (some ⟨b3, o3, none⟩) L.length cT] ∧ BoxL w' g6 [.slice Au U.length cu] ∧ BoxL w' wi.heap.size [.slice Aw WL.length cw]) (by kernel_rfl) ⟨thy.out.drew, uhy.out.drew, why.out.drew⟩ (fun hS0 => ?_)
       obtain ⟨wd3, hwd3⟩ : ∃ z, World.drew hy = z := ⟨_, rfl⟩
       rw [hwd3] at hS0 ⊢
       have hb_ : Below hy.heap.size hy wd3 := by rw [← hwd3]; exact below_drewN_self _ _ 1
       clear hwd3 hS0
       clear ct0 cu0 cw0
       have HSwd3 := Lib.hid (show hy.heap.size ≤ wd3.heap.size from hb_.size)
       have HBwd3 := Lib.hid (HBhy.out.trans (hb_.mono HBhy.out.size))
       have twd3 := Lib.hid (thy.out.kept (grown_none hb_) (fun e => by cases e))
       have uwd3 := Lib.hid (uhy.out.kept (grown_none hb_) (fun e => by cases e))
       have wwd3 := Lib.hid (why.out.kept (grown_none hb_) (fun e => by cases e))
       have HSLwd3 := Lib.hid ((HSLhy.out).next (Nat.le_refl _) hb_)
       have HSUwd3 := Lib.hid ((HSUhy.out).next (Nat.le_refl _) hb_)
       have HSWwd3 := Lib.hid ((HSWhy.out).next (Nat.le_refl _) hb_)
       clear hb_
       refine wpAnyH_take (i := 0) (oi := ⟨some 92, _, _, _, _, _⟩) (v := .agg #[.slice Aw WL.length cw]) rfl (by kernel_rfl) (by kernel_rfl) (by kernel_rfl) (fun _ _ _ h => h) (Or.inl ⟨by rfl, fun w' hS => by (have u0_ := hS.2.2.1 0 _ rfl; go_simp)⟩) ⟨twd3.out, uwd3.out, wwd3.out⟩ ?_
       try simp only [Act.put, List.setIfInBounds_toArray, List.set_cons_zero, List.set_cons_succ]
       refine wpAnyH_take (i := 1) (oi := ⟨some 93, _, _, _, _, _⟩) (v := .int .i64 x.idx) rfl (by kernel_rfl) (by kernel_rfl) (by kernel_rfl) (fun _ _ _ h => h) (Or.inl ⟨by rfl, fun w' hS => by go_simp⟩) ⟨twd3.out, uwd3.out, wwd3.out⟩ ?_
       try simp only [Act.put, List.setIfInBounds_toArray, List.set_cons_zero, List.set_cons_succ]
       refine wpAnyH_take (i := 2) (oi := ⟨some 94, _, _, _, _, _⟩) (v := .int .i64 y.idx) rfl (by kernel_rfl) (by kernel_rfl) (by kernel_rfl) (fun _ _ _ h => h) (Or.inl ⟨by rfl, fun w' hS => by go_simp⟩) ⟨twd3.out, uwd3.out, wwd3.out⟩ ?_
       try simp only [Act.put, List.setIfInBounds_toArray, List.set_cons_zero, List.set_cons_succ]
       refine wpAnyH_take (i := 4) (oi := ⟨some 96, _, _, _, _, _⟩) (v := .agg #[.slice (some ⟨b3, o3, none⟩) L.length cT]) rfl (by kernel_rfl) (by kernel_rfl) (by kernel_rfl) (fun _ _ _ h => h) (Or.inl ⟨by rfl, fun w' hS => by (have u0_ := hS.1.1 0 _ rfl; go_simp)⟩) ⟨twd3.out, uwd3.out, wwd3.out⟩ ?_
       try simp only [Act.put, List.setIfInBounds_toArray, List.set_cons_zero, List.set_cons_succ]
       refine wpAnyH_take (i := 5) (oi := ⟨some 97, _, _, _, _, _⟩) (v := .int .i64 x.idx) rfl (by kernel_rfl) (by kernel_rfl) (by kernel_rfl) (fun _ _ _ h => h) (Or.inl ⟨by rfl, fun w' hS => by go_simp⟩) ⟨twd3.out, uwd3.out, wwd3.out⟩ ?_
       try simp only [Act.put, List.setIfInBounds_toArray, List.set_cons_zero, List.set_cons_succ]
       refine wpAnyH_take (i := 6) (oi := ⟨some 98, _, _, _, _, _⟩) (v := .int .i64 y.idx) rfl (by kernel_rfl) (by kernel_rfl) (by kernel_rfl) (fun _ _ _ h => h) (Or.inl ⟨by rfl, fun w' hS => by go_simp⟩) ⟨twd3.out, uwd3.out, wwd3.out⟩ ?_
       try simp only [Act.put, List.setIfInBounds_toArray, List.set_cons_zero, List.set_cons_succ]
       refine wpAnyH_ready (rs := [3]) (by kernel_rfl) (by simp) ?_
       refine AllReadyH.cons (o := ⟨some 95, .call ⟨_, _, _⟩, _, _, _, _⟩) rfl (fun K hK => ?_) AllReadyH.nil
       go_simp
       go_at_call 20
       refine (Related_any Aw cw WL x.idx y.idx _ _ (Nat.le_refl _) HSWwd3.out HVW.out HOX.out HOY.out (HOK.out.next HBwd3.out) (HOA.out.next HBwd3.out)).mono ?_
       rintro e' r1 ⟨rfl, hb_⟩
       rw [HRW.out]
       have HSr1 := Lib.hid (show wd3.heap.size ≤ r1.heap.size from hb_.size)
       have HBr1 := Lib.hid (HBwd3.out.trans (hb_.mono HBwd3.out.size))
       have tr1 := Lib.hid (twd3.out.kept (grown_none hb_) (fun e => by cases e))
       have ur1 := Lib.hid (uwd3.out.kept (grown_none hb_) (fun e => by cases e))
       have wr1 := Lib.hid (wwd3.out.kept (grown_none hb_) (fun e => by cases e))
       have HSLr1 := Lib.hid ((HSLwd3.out).next (Nat.le_refl _) hb_)
       have HSUr1 := Lib.hid ((HSUwd3.out).next (Nat.le_refl _) hb_)
       have HSWr1 := Lib.hid ((HSWwd3.out).next (Nat.le_refl _) hb_)
       clear hb_
       refine hK.out _ _ ⟨tr1.out, ur1.out, wr1.out⟩ (fun _ => ?_)
       clear hK K
       try simp only [Act.put, List.setIfInBounds_toArray, List.set_cons_zero, List.set_cons_succ]
       refine wpAnyH_ready (rs := [7]) (by kernel_rfl) (by simp) ?_
       refine AllReadyH.cons (o := ⟨some 99, .call ⟨_, _, _⟩, _, _, _, _⟩) rfl (fun K hK => ?_) AllReadyH.nil
       go_simp
       go_at_call 20
       refine (Related_any (some ⟨b3, o3, none⟩) cT L x.idx y.idx _ _ (Nat.le_refl _) HSLr1.out HVT.out HOX.out HOY.out (HOK.out.next HBr1.out) (HOA.out.next HBr1.out)).mono ?_
       rintro e' r2 ⟨rfl, hb_⟩
       rw [HRZ.out]
       have HSr2 := Lib.hid (show r1.heap.size ≤ r2.heap.size from hb_.size)
       have HBr2 := Lib.hid (HBr1.out.trans (hb_.mono HBr1.out.size))
       have tr2 := Lib.hid (tr1.out.kept (grown_none hb_) (fun e => by cases e))
       have ur2 := Lib.hid (ur1.out.kept (grown_none hb_) (fun e => by cases e))
       have wr2 := Lib.hid (wr1.out.kept (grown_none hb_) (fun e => by cases e))
       have HSLr2 := Lib.hid ((HSLr1.out).next (Nat.le_refl _) hb_)
       have HSUr2 := Lib.hid ((HSUr1.out).next (Nat.le_refl _) hb_)
       have HSWr2 := Lib.hid ((HSWr1.out).next (Nat.le_refl _) hb_)
       clear hb_
       refine hK.out _ _ ⟨tr2.out, ur2.out, wr2.out⟩ (fun _ => ?_)
       clear hK K
       try simp only [Act.put, List.setIfInBounds_toArray, List.set_cons_zero, List.set_cons_succ]
       have hrr : (rz != rz) = false := by cases rz <;> rfl
       refine wpAnyH_take (i := 8) (oi := ⟨some 100, _, _, _, _, _⟩) (v := .bool false) rfl (by kernel_rfl) (by kernel_rfl) (by kernel_rfl) (fun _ _ _ h => h) (Or.inl ⟨by rfl, fun w' hS => by go_simp⟩) ⟨tr2.out, ur2.out, wr2.out⟩ ?_
       try simp only [Act.put, List.setIfInBounds_toArray, List.set_cons_zero, List.set_cons_succ]
       refine wpAnyH_take (i := 9) (oi := ⟨some 101, _, _, _, _, _⟩) (v := .bool false) rfl (by kernel_rfl) (by kernel_rfl) (by kernel_rfl) (fun _ _ _ h => h) (Or.inl ⟨by rfl, fun w' hS => by go_simp⟩) ⟨tr2.out, ur2.out, wr2.out⟩ ?_
       try simp only [Act.put, List.setIfInBounds_toArray, List.set_cons_zero, List.set_cons_succ]
       refine wpAnyH_take (i := 10) (oi := ⟨some 102, _, _, _, _, _⟩) (v := .bool true) rfl (by kernel_rfl) (by kernel_rfl) (by kernel_rfl) (fun _ _ _ h => h) (Or.inl ⟨by rfl, fun w' hS => by go_simp⟩) ⟨tr2.out, ur2.out, wr2.out⟩ ?_
       try simp only [Act.put, List.setIfInBounds_toArray, List.set_cons_zero, List.set_cons_succ]
       refine wpAnyH_take (i := 11) (oi := ⟨some 103, _, _, _, _, _⟩) (v := .bool true) rfl (by kernel_rfl) (by kernel_rfl) (by kernel_rfl) (fun _ _ _ h => h) (Or.inl ⟨by rfl, fun w' hS => by go_simp⟩) ⟨tr2.out, ur2.out, wr2.out⟩ ?_
       try simp only [Act.put, List.setIfInBounds_toArray, List.set_cons_zero, List.set_cons_succ]
       refine wpAnyH_take (i := 12) (oi := ⟨some 104, _, _, _, _, _⟩) (v := .bool true) rfl (by kernel_rfl) (by kernel_rfl) (by kernel_rfl) (fun _ _ _ h => h) (Or.inl ⟨by rfl, fun w' hS => by go_simp⟩) ⟨tr2.out, ur2.out, wr2.out⟩ ?_
       try simp only [Act.put, List.setIfInBounds_toArray, List.set_cons_zero, List.set_cons_succ]
       refine wpAnyH_take (i := 13) (oi := ⟨some 105, _, _, _, _, _⟩) (v := .bool true) rfl (by kernel_rfl) (by kernel_rfl) (by kernel_rfl) (fun _ _ _ h => h) (Or.inl ⟨by rfl, fun w' hS => by go_simp⟩) ⟨tr2.out, ur2.out, wr2.out⟩ ?_
       try simp only [Act.put, List.setIfInBounds_toArray, List.set_cons_zero, List.set_cons_succ]
       refine wpAnyH_take (i := 14) (oi := ⟨some 106, _, _, _, _, _⟩) (v := .bool true) rfl (by kernel_rfl) (by kernel_rfl) (by kernel_rfl) (fun _ _ _ h => h) (Or.inl ⟨by rfl, fun w' hS => by go_simp⟩) ⟨tr2.out, ur2.out, wr2.out⟩ ?_
       try simp only [Act.put, List.setIfInBounds_toArray, List.set_cons_zero, List.set_cons_succ]
       clear hrr
       refine wpAnyH_take (i := 15) (oi := ⟨some 107, _, _, _, _, _⟩) (v := .agg #[.slice Au U.length cu]) rfl (by kernel_rfl) (by kernel_rfl) (by kernel_rfl) (fun _ _ _ h => h) (Or.inl ⟨by rfl, fun w' hS => by (have u0_ := hS.2.1.1 0 _ rfl; go_simp)⟩) ⟨tr2.out, ur2.out, wr2.out⟩ ?_
       try simp only [Act.put, List.setIfInBounds_toArray, List.set_cons_zero, List.set_cons_succ]
       refine wpAnyH_take (i := 16) (oi := ⟨some 108, _, _, _, _, _⟩) (v := .int .i64 x.idx) rfl (by kernel_rfl) (by kernel_rfl) (by kernel_rfl) (fun _ _ _ h => h) (Or.inl ⟨by rfl, fun w' hS => by go_simp⟩) ⟨tr2.out, ur2.out, wr2.out⟩ ?_
       try simp only [Act.put, List.setIfInBounds_toArray, List.set_cons_zero, List.set_cons_succ]
       refine wpAnyH_take (i := 17) (oi := ⟨some 109, _, _, _, _, _⟩) (v := .int .i64 y.idx) rfl (by kernel_rfl) (by kernel_rfl) (by kernel_rfl) (fun _ _ _ h => h) (Or.inl ⟨by rfl, fun w' hS => by go_simp⟩) ⟨tr2.out, ur2.out, wr2.out⟩ ?_
       try simp only [Act.put, List.setIfInBounds_toArray, List.set_cons_zero, List.set_cons_succ]
       refine wpAnyH_take (i := 19) (oi := ⟨some 111, _, _, _, _, _⟩) (v := .agg #[.slice (some ⟨b3, o3, none⟩) L.length cT]) rfl (by kernel_rfl) (by kernel_rfl) (by kernel_rfl) (fun _ _ _ h => h) (Or.inl ⟨by rfl, fun w' hS => by (have u0_ := hS.1.1 0 _ rfl; go_simp)⟩) ⟨tr2.out, ur2.out, wr2.out⟩ ?_
       try simp only [Act.put, List.setIfInBounds_toArray, List.set_cons_zero, List.set_cons_succ]
       refine wpAnyH_take (i := 20) (oi := ⟨some 112, _, _, _, _, _⟩) (v := .int .i64 x.idx) rfl (by kernel_rfl) (by kernel_rfl) (by kernel_rfl) (fun _ _ _ h => h) (Or.inl ⟨by rfl, fun w' hS => by go_simp⟩) ⟨tr2.out, ur2.out, wr2.out⟩ ?_
       try simp only [Act.put, List.setIfInBounds_toArray, List.set_cons_zero, List.set_cons_succ]
       refine wpAnyH_take (i := 21) (oi := ⟨some 113, _, _, _, _, _⟩) (v := .int .i64 y.idx) rfl (by kernel_rfl) (by kernel_rfl) (by kernel_rfl) (fun _ _ _ h => h) (Or.inl ⟨by rfl, fun w' hS => by go_simp⟩) ⟨tr2.out, ur2.out, wr2.out⟩ ?_
       try simp only [Act.put, List.setIfInBounds_toArray, List.set_cons_zero, List.set_cons_succ]
       refine wpAnyH_ready (rs := [18]) (by kernel_rfl) (by simp) ?_
       refine AllReadyH.cons (o := ⟨some 110, .call ⟨_, _, _⟩, _, _, _, _⟩) rfl (fun K hK => ?_) AllReadyH.nil
       go_simp
       go_at_call 20
       refine (Related_any Au cu U x.idx y.idx _ _ (Nat.le_refl _) HSUr2.out HVU.out HOX.out HOY.out (HOK.out.next HBr2.out) (HOA.out.next HBr2.out)).mono ?_
       rintro e' r3 ⟨rfl, hb_⟩
       rw [HRU.out rfl rfl]
       have HSr3 := Lib.hid (show r2.heap.size ≤ r3.heap.size from hb_.size)
       have HBr3 := Lib.hid (HBr2.out.trans (hb_.mono HBr2.out.size))
       have tr3 := Lib.hid (tr2.out.kept (grown_none hb_) (fun e => by cases e))
       have ur3 := Lib.hid (ur2.out.kept (grown_none hb_) (fun e => by cases e))
       have wr3 := Lib.hid (wr2.out.kept (grown_none hb_) (fun e => by cases e))
       have HSLr3 := Lib.hid ((HSLr2.out).next (Nat.le_refl _) hb_)
       have HSUr3 := Lib.hid ((HSUr2.out).next (Nat.le_refl _) hb_)
       have HSWr3 := Lib.hid ((HSWr2.out).next (Nat.le_refl _) hb_)
       clear hb_
       refine hK.out _ _ ⟨tr3.out, ur3.out, wr3.out⟩ (fun _ => ?_)
       clear hK K
       try simp only [Act.put, List.setIfInBounds_toArray, List.set_cons_zero, List.set_cons_succ]
       refine wpAnyH_ready (rs := [22]) (by kernel_rfl) (by simp) ?_
       refine AllReadyH.cons (o := ⟨some 114, .call ⟨_, _, _⟩, _, _, _, _⟩) rfl (fun K hK => ?_) AllReadyH.nil
       go_simp
       go_at_call 20
       refine (Related_any (some ⟨b3, o3, none⟩) cT L x.idx y.idx _ _ (Nat.le_refl _) HSLr3.out HVT.out HOX.out HOY.out (HOK.out.next HBr3.out) (HOA.out.next HBr3.out)).mono ?_
       rintro e' r4 ⟨rfl, hb_⟩
       rw [HRZ.out]
       have HSr4 := Lib.hid (show r3.heap.size ≤ r4.heap.size from hb_.size)
       have HBr4 := Lib.hid (HBr3.out.trans (hb_.mono HBr3.out.size))
       have tr4 := Lib.hid (tr3.out.kept (grown_none hb_) (fun e => by cases e))
       have ur4 := Lib.hid (ur3.out.kept (grown_none hb_) (fun e => by cases e))
       have wr4 := Lib.hid (wr3.out.kept (grown_none hb_) (fun e => by cases e))
       have HSLr4 := Lib.hid ((HSLr3.out).next (Nat.le_refl _) hb_)
       have HSUr4 := Lib.hid ((HSUr3.out).next (Nat.le_refl _) hb_)
       have HSWr4 := Lib.hid ((HSWr3.out).next (Nat.le_refl _) hb_)
       clear hb_
       refine hK.out _ _ ⟨tr4.out, ur4.out, wr4.out⟩ (fun _ => ?_)
       clear hK K
       try simp only [Act.put, List.setIfInBounds_toArray, List.set_cons_zero, List.set_cons_succ]
       have hrr : (rz != rz) = false := by cases rz <;> rfl
       refine wpAnyH_take (i := 23) (oi := ⟨some 115, _, _, _, _, _⟩) (v := .bool false) rfl (by kernel_rfl) (by kernel_rfl) (by kernel_rfl) (fun _ _ _ h => h) (Or.inl ⟨by rfl, fun w' hS => by go_simp⟩) ⟨tr4.out, ur4.out, wr4.out⟩ ?_
       try simp only [Act.put, List.setIfInBounds_toArray, List.set_cons_zero, List.set_cons_succ]
       refine wpAnyH_take (i := 24) (oi := ⟨some 116, _, _, _, _, _⟩) (v := .bool false) rfl (by kernel_rfl) (by kernel_rfl) (by kernel_rfl) (fun _ _ _ h => h) (Or.inl ⟨by rfl, fun w' hS => by go_simp⟩) ⟨tr4.out, ur4.out, wr4.out⟩ ?_
       try simp only [Act.put, List.setIfInBounds_toArray, List.set_cons_zero, List.set_cons_succ]
       refine wpAnyH_take (i := 25) (oi := ⟨some 117, _, _, _, _, _⟩) (v := .bool false) rfl (by kernel_rfl) (by kernel_rfl) (by kernel_rfl) (fun _ _ _ h => h) (Or.inl ⟨by rfl, fun w' hS => by go_simp⟩) ⟨tr4.out, ur4.out, wr4.out⟩ ?_
       try simp only [Act.put, List.setIfInBounds_toArray, List.set_cons_zero, List.set_cons_succ]
       clear hrr
       refine wpAnyH_done (by kernel_rfl) ?_ _
       have HRN := Lib.hid (show GrS w w2.heap.size g6 wi.heap.size (some ⟨b3, o3, none⟩) cT L Au cu U Aw cw WL r4 from ⟨HBr4.out, tr4.out, ur4.out, wr4.out, HSLr4.out, HSUr4.out, HSWr4.out⟩)
       go_wp2_with fail
       go_meet
       exact ⟨rfl, HRN⟩
     case rest =>
     obtain ⟨rfl, HRC⟩ := hcut
     go_wp2
     go_roundw
     case rel => exact ⟨k + 1, by omega, by go_num, HRC⟩
     case measure => simp [intOf]; omega
    ·
     have i4 : ¬ (k : Int) < (L.length : Int) := by omega
     go_wp2
     go_roundw
     case rel => exact ⟨i + 1, by omega, by go_num, HRS⟩
     case measure => simp [intOf]; omega
  ·
   have i2 : ¬ (i : Int) < (L.length : Int) := by omega
   go_wp2_with fail
   refine (known_any _ (HOK.out.next HRS.out.1) (HOA.out.next HRS.out.1)).mono ?_
   rintro e w' ⟨rfl, hb⟩
   go_wp2
   go_ret
   exact ⟨by try rfl, HRS.out.1.trans (hb.mono HRS.out.1.size)⟩
end Go.Proofs.YtomcebcaendilaaGreatDoor
namespace Go.Proofs.YtomcebcaendilaaGreatDoor
open Go.RowKit Go.Cold
namespace cRelateGrows
open Go.ChangeShapes Go.WideShapes Go.ChangeAt
open Go.ChangeMaps (open_string)
set_option maxRecDepth 100000
theorem reads (os : Os) {H : Type} (enc : TypeId × Value → H) : ∃ places, DataW.whole enc Tryz.prog ((World.laidAll Tryz.prog os Rows.relateGrowsRow.laid).forCall (fun _ _ => 0) ⟨#[], #[.slice none 0 0, .int .i64 0], []⟩).memory Tryz.f11.params.toList Rows.relateGrowsSpec.vars false (#[.slice none 0 0, .int .i64 0] : Array Value).toList 8 = some ([.nil, .lit (.int .i64 0)], [], places) :=
 ⟨[], by kernel_rfl⟩
theorem lifted (os : Os) (started : os.Started) (H : Type) (enc : TypeId × Value → H) (F : Stop.Interp) :
  ReturnsInHanded {} Tryz.checked os 11 .any ((OpenSpec.ofChange Rows.relateGrowsSpec).preRow enc Tryz.prog Tryz.f11 Rows.relateGrowsRow.domain false Rows.relateGrowsRow.laid) (((OpenSpec.ofChange Rows.relateGrowsSpec).at F).post enc Tryz.prog Tryz.f11 false true false false) := by
 obtain ⟨places, hx⟩ := reads os enc
 refine law_lifted os started H enc F (by kernel_rfl) Tryz.func11 #[.slice none 0 0, .int .i64 0] (World.shaped_of_ZipB (by kernel_rfl) (by kernel_rfl)) (by kernel_rfl)
  (OpenSpec.preRow_of_cond 8 hx (by kernel_rfl) (fun k hk => by cases hk) (by kernel_rfl) (laidMet_laidAll _ (by kernel_rfl) (by kernel_rfl))) rfl rfl
  (fun ds hl => by
   rw [Tryz.params11] at hl
   match ds, hl with
   | [d0, d1], _ => rfl) (by kernel_rfl) ?_
 intro W base args ds ps hval hA hlt hz hsh hlaid
 rw [Tryz.params11] at hA hval
 obtain ⟨v0, vs0, d0, ds0, p0, q0, hargs, rfl, rfl, h0, r0⟩ := trodAll_cons hA
 obtain ⟨v1, vs1, d1, ds1, p1, q1, rfl, rfl, rfl, h1, r1⟩ := trodAll_cons r0
 obtain ⟨rfl, rfl, rfl⟩ := trodAll_nil r1
 obtain rfl : args = #[v0, v1] := by cases args; simp_all
 obtain ⟨A0, c0, xs0, rfl, s0⟩ := open_nums Tryz.underlying24 Tryz.underlying3 (by kernel_rfl) (hval 0 24 v0 rfl rfl) h0 (fun x hx => hlt x (List.mem_append_left _ hx))
 obtain ⟨a1, rfl, rfl, rfl, w1⟩ := open_int Tryz.underlying3 (hval 1 3 v1 rfl rfl) h1
 exact lawGrows_any A0 c0 xs0 a1 W (show Ok W from Tryz.laysM146.s1_3 W hsh) (oka_of_laid hlaid) s0 (wf_i64.1 w1)
theorem said : Rows.RelateGrowsSaid :=
 OpenClaim.holds_of_cond 11 Tryz.f11 rfl rfl rfl rfl rfl rfl rfl ⟨rfl, rfl, rfl, rfl, rfl⟩ rfl rfl rfl rfl rfl (by kernel_rfl) Tryz.func11 (by kernel_rfl)
  (of_decide_eq_true (by kernel_rfl)) (by unfold Func.isWrapper; first | (rw [if_pos (by decide +kernel)]; kernel_rfl) | (rw [if_neg (by decide +kernel)]; exact ⟨rfl, rfl⟩))
  (fun os started H enc _ F => by rw [OpenClaim.pre_eq_preRow]; exact lifted os started H enc F)
theorem plain (f : FuncId) (fn : Func) (hf : Tryz.pinned.checked.prog.funcNamed Rows.relateGrowsRow.func = some f) (hfn : Tryz.pinned.checked.prog.funcs[f]? = some fn) :
  true = Tryz.pinned.checked.prog.looks [] ∧ ∀ (j : Nat) t, fn.params[j]? = some t → Tryz.pinned.checked.prog.wantsStandIn t = false := by
 obtain rfl : f = 11 := Option.some.inj ((show Tryz.prog.funcNamed Rows.relateGrowsRow.func = some 11 by kernel_rfl).symm.trans hf) |>.symm
 obtain rfl : fn = Tryz.f11 := (Option.some.inj (Tryz.func11.symm.trans hfn)).symm
 refine ⟨by kernel_rfl, fun j t ht => ?_⟩
 rw [Tryz.params11] at ht
 have hm : t ∈ [24, 3] := by simpa using Array.mem_of_getElem? ht
 have hall : ([24, 3].all fun u => !Tryz.prog.wantsStandIn u) = true := by kernel_rfl
 exact (show Tryz.prog.wantsStandIn t = false by simpa using List.all_eq_true.1 hall t hm)
/-- The card. -/
theorem card : Rows.RelateGrowsCardSaid :=
 Claim7.holds_tied_plain_at .later [] _ _ _ _ said (fun _ h => by cases h) (by kernel_rfl) (fun _ h => by cases h) relateGrows_row_tie rfl ⟨rfl, rfl⟩ (by kernel_rfl) rfl plain (by kernel_rfl)
end cRelateGrows
end Go.Proofs.YtomcebcaendilaaGreatDoor
