/-
  PartitionChanged: row and card.
 Conditions: those of the given row and card (the listed variables of the library hold what the text lays), nothing else.
-/
import Derived.Test.YtehmidmoiamcfaaGreatDoorJT
import Derived.Test.YtehmidmoiamcfaaGreatDoorJTB
import Derived.Test.YtehmidmoiamcfaaGreatDoorJRG
import Derived.Test.YtehmidmoiamcfaaGreatDoorJH
import Derived.Test.YtehmidmoiamcfaaGreatDoorJV
import Derived.Test.YtehmidmoiamcfaaGreatDoorJF
import Derived.Deep.DeepCutAuto
import Derived.Test.YtehmidmoiamcfaaGreatDoorJSH
import Derived.ShutString
set_option linter.unusedSimpArgs false
set_option linter.unusedVariables false
namespace Go.Cold
open Go Go.RowKit Go.Proofs.YtehmidmoiamcfaaGreatDoor
/-- Behind the choice of a device: the tree's box and the device's. -/
def ChS (w w2 : World) (g6 : Nat) (A : Option Addr) (c : Nat) (L : List Dev) (d : Dev) (A3 : Option Addr) (c3 : Nat) (wx : World) : Prop :=
 Below w.heap.size w wx ∧ Below w2.heap.size w2 wx ∧ BoxL wx w2.heap.size [.slice A L.length c] ∧ BoxL wx g6 [.int .i64 d.idx, .int .i64 d.par, .string d.nm, .string d.orig, .string d.sub, .string d.drv, .string d.ali, .int .i64 d.kind, .int .i64 d.num, .slice A3 d.attrs.length c3]
theorem cell_tr31 {w w' : World} {b i : Nat} {v : Value} (h : w.cell? ⟨b, i, none⟩ = some v) (hb : Below w.heap.size w w') : w'.cell? ⟨b, i, none⟩ = some v := (hb.cell (p := ⟨b, i, none⟩) (block_lt_of_cell h)).trans h
theorem below_tr31 {a b c : World} (h1 : Below a.heap.size a b) (h2 : Below b.heap.size b c) : Below a.heap.size a c := h1.trans (h2.mono h1.size)
/-- Ten cells of a device in a row. -/
def Dev10 (w : World) (b o : Nat) (d : Dev) (A3 : Option Addr) (c3 : Nat) : Prop :=
 w.cell? ⟨b, o, none⟩ = some (.int .i64 d.idx) ∧ w.cell? ⟨b, o + 1, none⟩ = some (.int .i64 d.par) ∧ w.cell? ⟨b, o + 2, none⟩ = some (.string d.nm) ∧ w.cell? ⟨b, o + 3, none⟩ = some (.string d.orig) ∧ w.cell? ⟨b, o + 4, none⟩ = some (.string d.sub) ∧ w.cell? ⟨b, o + 5, none⟩ = some (.string d.drv) ∧ w.cell? ⟨b, o + 6, none⟩ = some (.string d.ali) ∧ w.cell? ⟨b, o + 7, none⟩ = some (.int .i64 d.kind) ∧ w.cell? ⟨b, o + 8, none⟩ = some (.int .i64 d.num) ∧ w.cell? ⟨b, o + 9, none⟩ = some (.slice A3 d.attrs.length c3)
theorem Dev10.next {w w' : World} {b o : Nat} {d : Dev} {A3 : Option Addr} {c3 : Nat} (h : Dev10 w b o d A3 c3) (hb : Below w.heap.size w w') : Dev10 w' b o d A3 c3 := by
 obtain ⟨h0, h1, h2, h3, h4, h5, h6, h7, h8, h9⟩ := h
 exact ⟨cell_tr31 h0 hb, cell_tr31 h1 hb, cell_tr31 h2 hb, cell_tr31 h3 hb, cell_tr31 h4 hb, cell_tr31 h5 hb, cell_tr31 h6 hb, cell_tr31 h7 hb, cell_tr31 h8 hb, cell_tr31 h9 hb⟩
theorem chgX_eq {L : List Dev} {d : Dev} (h : VT L) (hd : d ∈ L) : chgX L (setsA d chgA) = chgL L (setsA d chgA) := by unfold chgX; rw [if_pos (chgX_at h hd)]
end Go.Cold
namespace Go.Proofs.YtehmidmoiamcfaaGreatDoor
open Go.RowKit Go.Cold
set_option maxRecDepth 100000 in
set_option maxHeartbeats 8000000 in
theorem lawChanged31_any (A : Option Addr) (c : Nat) (xs : List Int) (at_ : Int) (w : World) (hok : Ok w) (h7 : Ok7 w) (hx : Sl w w.heap.size A c xs) (hat : okI at_) :
  Calls Tryz.prog 9 #[.slice A xs.length c, .int .i64 at_] w fun e w' => e = .returned (.bool true) ∧ Below w.heap.size w w' := by
 have HAT := Lib.hid (show okI at_ from hat); have H7 := Lib.hid h7; have hoa := ok7_a h7; clear hat h7
 have HOK := Lib.hid hok; have HOA := Lib.hid hoa; have HX := Lib.hid hx
 clear hok hoa hx 
 go_enter Tryz.func9, Tryz.ntmps9
 go_upto_region 2 with fail
 have htape := tape_new HX.out
 have HNG := Lib.hid (notG_of HOK.out)
 obtain ⟨w1, hw1⟩ : ∃ z, w.alloc (.cells #[.slice A xs.length c, .int .i64 0] 32) = z := ⟨_, rfl⟩
 rw [hw1] at htape
 have hb1 : Below w.heap.size w w1 := by rw [← hw1]; exact (Below.refl _ _).alloc (Nat.le_refl _) _
 have HGw1 := Lib.hid (show w1.heap.size = w.heap.size + 1 by rw [← hw1]; simp)
 try simp only [hw1]
 have HTAPE := Lib.hid htape
 clear hw1 htape
 have HSw1 := Lib.hid (show w.heap.size ≤ w1.heap.size from hb1.size)
 have HBw1 := Lib.hid hb1
 clear hb1
 go_wp2_with fail
 refine (TreeM_any xs 0 w.heap.size w.heap.size 12 w1 (by decide) HTAPE.out ⟨by decide, by decide⟩ (HOK.out.next HBw1.out) HNG.out).mono ?_
 rintro e w2 ⟨AT, cT, L, k1, rfl, ⟨hvt, hmd⟩, hln, hsl, hk1, htp, hg2⟩
 have hb2 : Below w.heap.size w w2 := below_of_grown HBw1.out hg2 HBw1.out.size (Nat.le_refl _)
 have HSB2 := Lib.hid (show w1.heap.size ≤ w2.heap.size from hg2.size)
 have hx1 := hsl.1; have hx2 := hsl.2.1
 unfold maxLen at hx2
 have HVT := Lib.hid hvt; have HMD := Lib.hid hmd; have HLN := Lib.hid (show L.length ≤ 12 by omega); have HSL := Lib.hid (hsl.sl (B := w2.heap.size) (fun x hx => hx.2))
 have HBw2 := Lib.hid hb2
 clear HTAPE hvt hmd hln hsl hk1 htp hg2 hb2
 go_upto_region 2 with fail
 obtain ⟨w3, hw3⟩ : ∃ w3, w2.alloc (.cells #[.slice AT L.length cT] 57) = w3 := ⟨_, rfl⟩
 have hbw3 : Below w2.heap.size w2 w3 := by rw [← hw3]; exact (Below.refl _ _).alloc (Nat.le_refl _) _
 have HGw3 := Lib.hid (show w3.heap.size = w2.heap.size + 1 by rw [← hw3]; simp)
 have HXtw3 := Lib.hid (show BoxL w3 w2.heap.size [.slice AT L.length cT] from box_mk hw3)
 try simp only [hw3]
 have HSTEPw3 := Lib.hid hbw3
 have HSw3 := Lib.hid (show w2.heap.size ≤ w3.heap.size from hbw3.size)
 have HBw3 := Lib.hid (HBw2.out.trans (hbw3.mono HBw2.out.size))
 have HSLw3 := Lib.hid ((HSL.out).next (Nat.le_refl _) hbw3)
 clear hw3 hbw3
 try rw [show w2.heap.size + 1 = w3.heap.size from HGw3.out.symm]
 have HLA := Lib.hid (show ∀ d ∈ L, d.attrs.length ≤ 1000000 from fun d hd => attrs_le (HVT.out.chk d hd))
 have ct0 := HXtw3.out.1 0 _ rfl
 by_cases h0 : L.length = 0
 ·
  have i0 : ((L.length : Int) == 0) = true := by rw [h0]; rfl
  go_wp2_with fail
  refine (known31_any _ (H7.out.below HBw3.out)).mono ?_
  rintro e wk ⟨rfl, hb⟩
  go_wp2
  go_ret
  exact ⟨by try rfl, HBw3.out.trans (hb.mono HBw3.out.size)⟩
 have i0 : ((L.length : Int) == 0) = false := by simp; intro e; apply h0; rw [e]; rfl
 have hl0 : 0 < L.length := by omega
 go_upto_region 4 with fail
 clear i0
 obtain ⟨m, hm⟩ : ∃ m : Nat, foldI at_ (L.length : Int) = m := ⟨(foldI at_ (L.length : Int)).toNat, by have := foldI_pos (v := at_) (n := (L.length : Int)) (by omega); omega⟩
 have hml : m < L.length := by have := foldI_pos (v := at_) (n := (L.length : Int)) (by omega); omega
 have HMF := Lib.hid hm
 obtain ⟨b3, o3, rfl, hb3, A3, c3, hok3, hsl3, hcs3⟩ := HSL.out.dev hml
 have hmem : L[m]'hml ∈ L := List.getElem_mem hml
 obtain ⟨d, hd⟩ : ∃ d, L[m]'hml = d := ⟨_, rfl⟩
 rw [hd] at hok3 hsl3 hcs3 hmem
 have HMEM := Lib.hid hmem; have HDOK := Lib.hid hok3; have HSD := Lib.hid hsl3
 have HBT := Lib.hid (show Below w2.heap.size w2 w3 from HSTEPw3.out)
 have HDC := Lib.hid (Dev10.next (show Dev10 w2 b3 (o3 + m * 10) d A3 c3 from hcs3) HBT.out)
 have i3 : (m : Int) < (L.length : Int) := by omega
 clear hm hmem hok3 hsl3 hcs3 hb3 hl0 h0 hd
 clear ct0
 have hzv := (zero_of_info (P := Tryz.prog) (t := 43) info_dev2).1
 have HZV := Lib.hid hzv; clear hzv
 go_cut [6] (fun s6 wx => ∃ (g6 : Nat), s6 = .pointer (some ⟨g6, 0, none⟩) ∧ Hid (w2.heap.size < g6) ∧ Hid (ChS w w2 g6 (some ⟨b3, o3, none⟩) cT L d A3 c3 wx))
 case first =>
  refine wp_region_held_drew (S := fun w' => BoxL w' w2.heap.size [.slice (some ⟨b3, o3, none⟩) L.length cT] ∧ Dev10 w' b3 (o3 + m * 10) d A3 c3) (by kernel_rfl) ⟨HXtw3.out.drew, Dev10.next HDC.out (below_drewN_self _ _ 1)⟩ (fun hS0 => ?_)
  obtain ⟨wd, hwd⟩ : ∃ z, World.drew w3 = z := ⟨_, rfl⟩
  rw [hwd] at hS0 ⊢
  have hb_ : Below w3.heap.size w3 wd := by rw [← hwd]; exact below_drewN_self _ _ 1
  clear hwd hS0
  have HSwd := Lib.hid (show w3.heap.size ≤ wd.heap.size from hb_.size)
  have HBwd := Lib.hid (HBw3.out.trans (hb_.mono HBw3.out.size))
  have twd := Lib.hid (HXtw3.out.kept (grown_none hb_) (fun e => by cases e))
  have HSLwd := Lib.hid ((HSLw3.out).next (Nat.le_refl _) hb_)
  have HBTwd := Lib.hid (below_tr31 HBT.out hb_)
  have HDCwd := Lib.hid (Dev10.next HDC.out hb_)
  clear hb_
  refine wpAnyH_take (i := 0) (oi := ⟨some 21, _, _, _, _, _⟩) (v := .pointer (some ⟨w2.heap.size, 0, none⟩)) rfl (by kernel_rfl) (by kernel_rfl) (by kernel_rfl) (fun _ _ _ h => h) (Or.inl ⟨by rfl, fun w' hS => by go_simp⟩) ⟨twd.out, HDCwd.out⟩ ?_
  try simp only [Act.put, List.setIfInBounds_toArray, List.set_cons_zero, List.set_cons_succ]
  refine wpAnyH_take (i := 1) (oi := ⟨some 22, _, _, _, _, _⟩) (v := .slice (some ⟨b3, o3, none⟩) L.length cT) rfl (by kernel_rfl) (by kernel_rfl) (by kernel_rfl) (fun _ _ _ h => h) (Or.inl ⟨by rfl, fun w' hS => by (have u0_ := hS.1.1 0 _ rfl; go_simp)⟩) ⟨twd.out, HDCwd.out⟩ ?_
  try simp only [Act.put, List.setIfInBounds_toArray, List.set_cons_zero, List.set_cons_succ]
  refine wpAnyH_take (i := 2) (oi := ⟨some 23, _, _, _, _, _⟩) (v := .int .i64 at_) rfl (by kernel_rfl) (by kernel_rfl) (by kernel_rfl) (fun _ _ _ h => h) (Or.inl ⟨by rfl, fun w' hS => by go_simp⟩) ⟨twd.out, HDCwd.out⟩ ?_
  try simp only [Act.put, List.setIfInBounds_toArray, List.set_cons_zero, List.set_cons_succ]
  refine wpAnyH_take (i := 3) (oi := ⟨some 24, _, _, _, _, _⟩) (v := .pointer (some ⟨w2.heap.size, 0, none⟩)) rfl (by kernel_rfl) (by kernel_rfl) (by kernel_rfl) (fun _ _ _ h => h) (Or.inl ⟨by rfl, fun w' hS => by go_simp⟩) ⟨twd.out, HDCwd.out⟩ ?_
  try simp only [Act.put, List.setIfInBounds_toArray, List.set_cons_zero, List.set_cons_succ]
  refine wpAnyH_take (i := 4) (oi := ⟨some 25, _, _, _, _, _⟩) (v := .slice (some ⟨b3, o3, none⟩) L.length cT) rfl (by kernel_rfl) (by kernel_rfl) (by kernel_rfl) (fun _ _ _ h => h) (Or.inl ⟨by rfl, fun w' hS => by (have u0_ := hS.1.1 0 _ rfl; go_simp)⟩) ⟨twd.out, HDCwd.out⟩ ?_
  try simp only [Act.put, List.setIfInBounds_toArray, List.set_cons_zero, List.set_cons_succ]
  refine wpAnyH_take (i := 5) (oi := ⟨some 26, _, _, _, _, _⟩) (v := .int .i64 L.length) rfl (by kernel_rfl) (by kernel_rfl) (by kernel_rfl) (fun _ _ _ h => h) (Or.inl ⟨by rfl, fun w' hS => by go_simp⟩) ⟨twd.out, HDCwd.out⟩ ?_
  try simp only [Act.put, List.setIfInBounds_toArray, List.set_cons_zero, List.set_cons_succ]
  have HLI := Lib.hid (show okI (L.length : Int) by unfold okI; have := HLN.out; omega)
  refine wpAnyH_ready (rs := [6, 9]) (by kernel_rfl) (by simp) ?_
  refine AllReadyH.cons (o := ⟨some 27, .call ⟨_, _, _⟩, _, _, _, _⟩) rfl (fun K hK => ?_) (AllReadyH.cons (o := ⟨some 6, .alloc _, _, _, _, _⟩) rfl (fun K hK => ?_) (AllReadyH.nil))
  ·
   go_simp
   go_at_call 29
   refine (Fold_any at_ (L.length : Int) _ HAT.out HLI.out).mono ?_
   rintro e' q4 ⟨rfl, hw_⟩
   rw [HMF.out]
   have hb_ : Below wd.heap.size wd q4 := by rw [← hw_]; exact Below.refl _ _
   clear hw_
   have HSq4 := Lib.hid (show wd.heap.size ≤ q4.heap.size from hb_.size)
   have HBq4 := Lib.hid (HBwd.out.trans (hb_.mono HBwd.out.size))
   have tq4 := Lib.hid (twd.out.kept (grown_none hb_) (fun e => by cases e))
   have HSLq4 := Lib.hid ((HSLwd.out).next (Nat.le_refl _) hb_)
   have HBTq4 := Lib.hid (below_tr31 HBTwd.out hb_)
   have HDCq4 := Lib.hid (Dev10.next HDCwd.out hb_)
   clear hb_
   refine hK.out _ _ ⟨tq4.out, HDCq4.out⟩ (fun _ => ?_)
   clear hK K
   try simp only [Act.put, List.setIfInBounds_toArray, List.set_cons_zero, List.set_cons_succ]
   refine wpAnyH_take (i := 7) (oi := ⟨some 28, _, _, _, _, _⟩) (v := .pointer (some ⟨b3, o3 + m * 10, none⟩)) rfl (by kernel_rfl) (by kernel_rfl) (by kernel_rfl) (fun _ _ _ h => h) (Or.inl ⟨by rfl, fun w' hS => by go_simp⟩) ⟨tq4.out, HDCq4.out⟩ ?_
   try simp only [Act.put, List.setIfInBounds_toArray, List.set_cons_zero, List.set_cons_succ]
   refine wpAnyH_take (i := 8) (oi := ⟨some 29, _, _, _, _, _⟩) (v := .agg #[.int .i64 d.idx, .int .i64 d.par, .string d.nm, .string d.orig, .string d.sub, .string d.drv, .string d.ali, .int .i64 d.kind, .int .i64 d.num, .slice A3 d.attrs.length c3]) rfl (by kernel_rfl) (by kernel_rfl) (by kernel_rfl) (fun _ _ _ h => h) (Or.inl ⟨by rfl, fun w' hS => by (obtain ⟨u0_, u1_, u2_, u3_, u4_, u5_, u6_, u7_, u8_, u9_⟩ := hS.2; go_simp)⟩) ⟨tq4.out, HDCq4.out⟩ ?_
   try simp only [Act.put, List.setIfInBounds_toArray, List.set_cons_zero, List.set_cons_succ]
   refine wpAnyH_ready (rs := [9]) (by kernel_rfl) (by simp) ?_
   refine AllReadyH.cons (o := ⟨some 6, .alloc _, _, _, _, _⟩) rfl (fun K hK => ?_) (AllReadyH.nil)
   have hzv := HZV.out
   have HGU := Lib.hid (show w2.heap.size < q4.heap.size ∧ w.heap.size ≤ q4.heap.size ∧ b3 < q4.heap.size from ⟨tq4.out.2.2, HBq4.out.size, block_lt_of_cell HDCq4.out.1⟩)
   go_simp
   obtain ⟨q5, hq5⟩ : ∃ z, q4.alloc (.cells #[.int .i64 0, .int .i64 0, .string ByteArray.empty, .string ByteArray.empty, .string ByteArray.empty, .string ByteArray.empty, .string ByteArray.empty, .int .i64 0, .int .i64 0, .slice none 0 0] 43) = z := ⟨_, rfl⟩
   have hb_ : Below q4.heap.size q4 q5 := by rw [← hq5]; exact (Below.refl _ _).alloc (Nat.le_refl _) _
   have HXdq5 := Lib.hid (show BoxL q5 q4.heap.size [.int .i64 0, .int .i64 0, .string ByteArray.empty, .string ByteArray.empty, .string ByteArray.empty, .string ByteArray.empty, .string ByteArray.empty, .int .i64 0, .int .i64 0, .slice none 0 0] from box_mk hq5)
   try rw [hq5]
   clear hq5
   have HSq5 := Lib.hid (show q4.heap.size ≤ q5.heap.size from hb_.size)
   have HBq5 := Lib.hid (HBq4.out.trans (hb_.mono HBq4.out.size))
   have tq5 := Lib.hid (tq4.out.kept (grown_none hb_) (fun e => by cases e))
   have HSLq5 := Lib.hid ((HSLq4.out).next (Nat.le_refl _) hb_)
   have HBTq5 := Lib.hid (below_tr31 HBTq4.out hb_)
   have HDCq5 := Lib.hid (Dev10.next HDCq4.out hb_)
   clear hb_
   refine hK.out _ _ ⟨tq5.out, HDCq5.out⟩ (fun _ => ?_)
   clear hK K
   try simp only [Act.put, List.setIfInBounds_toArray, List.set_cons_zero, List.set_cons_succ]
   try clear hzv
   refine wpAnyH_ready (rs := [10]) (by kernel_rfl) (by simp) ?_
   refine AllReadyH.cons (o := ⟨none, .store _ _ _, _, _, _, _⟩) rfl (fun K hK => ?_) (AllReadyH.nil)
   have z0 := HXdq5.out.1 0 _ rfl; have z1 := HXdq5.out.1 1 _ rfl; have z2 := HXdq5.out.1 2 _ rfl; have z3 := HXdq5.out.1 3 _ rfl; have z4 := HXdq5.out.1 4 _ rfl; have z5 := HXdq5.out.1 5 _ rfl; have z6 := HXdq5.out.1 6 _ rfl; have z7 := HXdq5.out.1 7 _ rfl; have z8 := HXdq5.out.1 8 _ rfl; have z9 := HXdq5.out.1 9 _ rfl; have zf := HXdq5.out.2.1
   go_simp
   clear z0 z1 z2 z3 z4 z5 z6 z7 z8 z9 zf
   obtain ⟨q6, hq6⟩ : ∃ z, ((((((((((q5.setCell ⟨q4.heap.size, 0, none⟩ (.int .i64 d.idx)).setCell ⟨q4.heap.size, 1, none⟩ (.int .i64 d.par)).setCell ⟨q4.heap.size, 2, none⟩ (.string d.nm)).setCell ⟨q4.heap.size, 3, none⟩ (.string d.orig)).setCell ⟨q4.heap.size, 4, none⟩ (.string d.sub)).setCell ⟨q4.heap.size, 5, none⟩ (.string d.drv)).setCell ⟨q4.heap.size, 6, none⟩ (.string d.ali)).setCell ⟨q4.heap.size, 7, none⟩ (.int .i64 d.kind)).setCell ⟨q4.heap.size, 8, none⟩ (.int .i64 d.num)).setCell ⟨q4.heap.size, 9, none⟩ (.slice A3 d.attrs.length c3)) = z := ⟨_, rfl⟩
   have HTS := Lib.hid (show BoxL q6 w2.heap.size [.slice (some ⟨b3, o3, none⟩) L.length cT] by rw [← hq6]; exact set10_ind (fun w' => BoxL w' w2.heap.size [.slice (some ⟨b3, o3, none⟩) L.length cT]) (fun w' j v h => h.far (fun e => by have := HGU.out; omega) v) tq5.out _ _ _ _ _ _ _ _ _ _)
   have HXS := Lib.hid (show BoxL q6 q4.heap.size [.int .i64 d.idx, .int .i64 d.par, .string d.nm, .string d.orig, .string d.sub, .string d.drv, .string d.ali, .int .i64 d.kind, .int .i64 d.num, .slice A3 d.attrs.length c3] by rw [← hq6]; exact HXdq5.out.set10 _ _ _ _ _ _ _ _ _ _)
   have HBS := Lib.hid (show Below w.heap.size w q6 by rw [← hq6]; exact below10 HBq5.out (by have := HGU.out; omega) _ _ _ _ _ _ _ _ _ _)
   have HB2S := Lib.hid (show Below w2.heap.size w2 q6 by rw [← hq6]; exact below10 HBTq5.out (by have := HGU.out; omega) _ _ _ _ _ _ _ _ _ _)
   have HDS := Lib.hid (show Dev10 q6 b3 (o3 + m * 10) d A3 c3 by rw [← hq6]; exact set10_ind (fun w' => Dev10 w' b3 (o3 + m * 10) d A3 c3) (fun w' j v h => ⟨by rw [cell_set_far _ _ _ _ _ (by show q4.heap.size ≠ b3; have := HGU.out; omega)]; exact h.1, by rw [cell_set_far _ _ _ _ _ (by show q4.heap.size ≠ b3; have := HGU.out; omega)]; exact h.2.1, by rw [cell_set_far _ _ _ _ _ (by show q4.heap.size ≠ b3; have := HGU.out; omega)]; exact h.2.2.1, by rw [cell_set_far _ _ _ _ _ (by show q4.heap.size ≠ b3; have := HGU.out; omega)]; exact h.2.2.2.1, by rw [cell_set_far _ _ _ _ _ (by show q4.heap.size ≠ b3; have := HGU.out; omega)]; exact h.2.2.2.2.1, by rw [cell_set_far _ _ _ _ _ (by show q4.heap.size ≠ b3; have := HGU.out; omega)]; exact h.2.2.2.2.2.1, by rw [cell_set_far _ _ _ _ _ (by show q4.heap.size ≠ b3; have := HGU.out; omega)]; exact h.2.2.2.2.2.2.1, by rw [cell_set_far _ _ _ _ _ (by show q4.heap.size ≠ b3; have := HGU.out; omega)]; exact h.2.2.2.2.2.2.2.1, by rw [cell_set_far _ _ _ _ _ (by show q4.heap.size ≠ b3; have := HGU.out; omega)]; exact h.2.2.2.2.2.2.2.2.1, by rw [cell_set_far _ _ _ _ _ (by show q4.heap.size ≠ b3; have := HGU.out; omega)]; exact h.2.2.2.2.2.2.2.2.2⟩) HDCq5.out _ _ _ _ _ _ _ _ _ _)
   simp only [hq6]
   clear hq6
   refine hK.out _ _ ⟨HTS.out, HDS.out⟩ (fun _ => ?_)
   clear hK K
   try simp only [Act.put, List.setIfInBounds_toArray, List.set_cons_zero, List.set_cons_succ]
   refine wpAnyH_done (by kernel_rfl) ?_ _
   go_wp2_with fail
   go_meet
   exact ⟨q4.heap.size, rfl, Lib.hid HGU.out.1, Lib.hid ⟨HBS.out, HB2S.out, HTS.out, HXS.out⟩⟩
  ·
   have hzv := HZV.out
   have HGU := Lib.hid (show w2.heap.size < wd.heap.size ∧ w.heap.size ≤ wd.heap.size ∧ b3 < wd.heap.size from ⟨twd.out.2.2, HBwd.out.size, block_lt_of_cell HDCwd.out.1⟩)
   go_simp
   obtain ⟨q7, hq7⟩ : ∃ z, wd.alloc (.cells #[.int .i64 0, .int .i64 0, .string ByteArray.empty, .string ByteArray.empty, .string ByteArray.empty, .string ByteArray.empty, .string ByteArray.empty, .int .i64 0, .int .i64 0, .slice none 0 0] 43) = z := ⟨_, rfl⟩
   have hb_ : Below wd.heap.size wd q7 := by rw [← hq7]; exact (Below.refl _ _).alloc (Nat.le_refl _) _
   have HXdq7 := Lib.hid (show BoxL q7 wd.heap.size [.int .i64 0, .int .i64 0, .string ByteArray.empty, .string ByteArray.empty, .string ByteArray.empty, .string ByteArray.empty, .string ByteArray.empty, .int .i64 0, .int .i64 0, .slice none 0 0] from box_mk hq7)
   try rw [hq7]
   clear hq7
   have HSq7 := Lib.hid (show wd.heap.size ≤ q7.heap.size from hb_.size)
   have HBq7 := Lib.hid (HBwd.out.trans (hb_.mono HBwd.out.size))
   have tq7 := Lib.hid (twd.out.kept (grown_none hb_) (fun e => by cases e))
   have HSLq7 := Lib.hid ((HSLwd.out).next (Nat.le_refl _) hb_)
   have HBTq7 := Lib.hid (below_tr31 HBTwd.out hb_)
   have HDCq7 := Lib.hid (Dev10.next HDCwd.out hb_)
   clear hb_
   refine hK.out _ _ ⟨tq7.out, HDCq7.out⟩ (fun _ => ?_)
   clear hK K
   try simp only [Act.put, List.setIfInBounds_toArray, List.set_cons_zero, List.set_cons_succ]
   try clear hzv
   refine wpAnyH_ready (rs := [6]) (by kernel_rfl) (by simp) ?_
   refine AllReadyH.cons (o := ⟨some 27, .call ⟨_, _, _⟩, _, _, _, _⟩) rfl (fun K hK => ?_) (AllReadyH.nil)
   go_simp
   go_at_call 29
   refine (Fold_any at_ (L.length : Int) _ HAT.out HLI.out).mono ?_
   rintro e' q8 ⟨rfl, hw_⟩
   rw [HMF.out]
   have hb_ : Below q7.heap.size q7 q8 := by rw [← hw_]; exact Below.refl _ _
   clear hw_
   have HSq8 := Lib.hid (show q7.heap.size ≤ q8.heap.size from hb_.size)
   have HBq8 := Lib.hid (HBq7.out.trans (hb_.mono HBq7.out.size))
   have tq8 := Lib.hid (tq7.out.kept (grown_none hb_) (fun e => by cases e))
   have dq8 := Lib.hid (HXdq7.out.kept (grown_none hb_) (fun e => by cases e))
   have HSLq8 := Lib.hid ((HSLq7.out).next (Nat.le_refl _) hb_)
   have HBTq8 := Lib.hid (below_tr31 HBTq7.out hb_)
   have HDCq8 := Lib.hid (Dev10.next HDCq7.out hb_)
   clear hb_
   refine hK.out _ _ ⟨tq8.out, HDCq8.out⟩ (fun _ => ?_)
   clear hK K
   try simp only [Act.put, List.setIfInBounds_toArray, List.set_cons_zero, List.set_cons_succ]
   refine wpAnyH_take (i := 7) (oi := ⟨some 28, _, _, _, _, _⟩) (v := .pointer (some ⟨b3, o3 + m * 10, none⟩)) rfl (by kernel_rfl) (by kernel_rfl) (by kernel_rfl) (fun _ _ _ h => h) (Or.inl ⟨by rfl, fun w' hS => by go_simp⟩) ⟨tq8.out, HDCq8.out⟩ ?_
   try simp only [Act.put, List.setIfInBounds_toArray, List.set_cons_zero, List.set_cons_succ]
   refine wpAnyH_take (i := 8) (oi := ⟨some 29, _, _, _, _, _⟩) (v := .agg #[.int .i64 d.idx, .int .i64 d.par, .string d.nm, .string d.orig, .string d.sub, .string d.drv, .string d.ali, .int .i64 d.kind, .int .i64 d.num, .slice A3 d.attrs.length c3]) rfl (by kernel_rfl) (by kernel_rfl) (by kernel_rfl) (fun _ _ _ h => h) (Or.inl ⟨by rfl, fun w' hS => by (obtain ⟨u0_, u1_, u2_, u3_, u4_, u5_, u6_, u7_, u8_, u9_⟩ := hS.2; go_simp)⟩) ⟨tq8.out, HDCq8.out⟩ ?_
   try simp only [Act.put, List.setIfInBounds_toArray, List.set_cons_zero, List.set_cons_succ]
   refine wpAnyH_ready (rs := [10]) (by kernel_rfl) (by simp) ?_
   refine AllReadyH.cons (o := ⟨none, .store _ _ _, _, _, _, _⟩) rfl (fun K hK => ?_) (AllReadyH.nil)
   have z0 := dq8.out.1 0 _ rfl; have z1 := dq8.out.1 1 _ rfl; have z2 := dq8.out.1 2 _ rfl; have z3 := dq8.out.1 3 _ rfl; have z4 := dq8.out.1 4 _ rfl; have z5 := dq8.out.1 5 _ rfl; have z6 := dq8.out.1 6 _ rfl; have z7 := dq8.out.1 7 _ rfl; have z8 := dq8.out.1 8 _ rfl; have z9 := dq8.out.1 9 _ rfl; have zf := dq8.out.2.1
   go_simp
   clear z0 z1 z2 z3 z4 z5 z6 z7 z8 z9 zf
   obtain ⟨q9, hq9⟩ : ∃ z, ((((((((((q8.setCell ⟨wd.heap.size, 0, none⟩ (.int .i64 d.idx)).setCell ⟨wd.heap.size, 1, none⟩ (.int .i64 d.par)).setCell ⟨wd.heap.size, 2, none⟩ (.string d.nm)).setCell ⟨wd.heap.size, 3, none⟩ (.string d.orig)).setCell ⟨wd.heap.size, 4, none⟩ (.string d.sub)).setCell ⟨wd.heap.size, 5, none⟩ (.string d.drv)).setCell ⟨wd.heap.size, 6, none⟩ (.string d.ali)).setCell ⟨wd.heap.size, 7, none⟩ (.int .i64 d.kind)).setCell ⟨wd.heap.size, 8, none⟩ (.int .i64 d.num)).setCell ⟨wd.heap.size, 9, none⟩ (.slice A3 d.attrs.length c3)) = z := ⟨_, rfl⟩
   have HTS := Lib.hid (show BoxL q9 w2.heap.size [.slice (some ⟨b3, o3, none⟩) L.length cT] by rw [← hq9]; exact set10_ind (fun w' => BoxL w' w2.heap.size [.slice (some ⟨b3, o3, none⟩) L.length cT]) (fun w' j v h => h.far (fun e => by have := HGU.out; omega) v) tq8.out _ _ _ _ _ _ _ _ _ _)
   have HXS := Lib.hid (show BoxL q9 wd.heap.size [.int .i64 d.idx, .int .i64 d.par, .string d.nm, .string d.orig, .string d.sub, .string d.drv, .string d.ali, .int .i64 d.kind, .int .i64 d.num, .slice A3 d.attrs.length c3] by rw [← hq9]; exact dq8.out.set10 _ _ _ _ _ _ _ _ _ _)
   have HBS := Lib.hid (show Below w.heap.size w q9 by rw [← hq9]; exact below10 HBq8.out (by have := HGU.out; omega) _ _ _ _ _ _ _ _ _ _)
   have HB2S := Lib.hid (show Below w2.heap.size w2 q9 by rw [← hq9]; exact below10 HBTq8.out (by have := HGU.out; omega) _ _ _ _ _ _ _ _ _ _)
   have HDS := Lib.hid (show Dev10 q9 b3 (o3 + m * 10) d A3 c3 by rw [← hq9]; exact set10_ind (fun w' => Dev10 w' b3 (o3 + m * 10) d A3 c3) (fun w' j v h => ⟨by rw [cell_set_far _ _ _ _ _ (by show wd.heap.size ≠ b3; have := HGU.out; omega)]; exact h.1, by rw [cell_set_far _ _ _ _ _ (by show wd.heap.size ≠ b3; have := HGU.out; omega)]; exact h.2.1, by rw [cell_set_far _ _ _ _ _ (by show wd.heap.size ≠ b3; have := HGU.out; omega)]; exact h.2.2.1, by rw [cell_set_far _ _ _ _ _ (by show wd.heap.size ≠ b3; have := HGU.out; omega)]; exact h.2.2.2.1, by rw [cell_set_far _ _ _ _ _ (by show wd.heap.size ≠ b3; have := HGU.out; omega)]; exact h.2.2.2.2.1, by rw [cell_set_far _ _ _ _ _ (by show wd.heap.size ≠ b3; have := HGU.out; omega)]; exact h.2.2.2.2.2.1, by rw [cell_set_far _ _ _ _ _ (by show wd.heap.size ≠ b3; have := HGU.out; omega)]; exact h.2.2.2.2.2.2.1, by rw [cell_set_far _ _ _ _ _ (by show wd.heap.size ≠ b3; have := HGU.out; omega)]; exact h.2.2.2.2.2.2.2.1, by rw [cell_set_far _ _ _ _ _ (by show wd.heap.size ≠ b3; have := HGU.out; omega)]; exact h.2.2.2.2.2.2.2.2.1, by rw [cell_set_far _ _ _ _ _ (by show wd.heap.size ≠ b3; have := HGU.out; omega)]; exact h.2.2.2.2.2.2.2.2.2⟩) HDCq8.out _ _ _ _ _ _ _ _ _ _)
   simp only [hq9]
   clear hq9
   refine hK.out _ _ ⟨HTS.out, HDS.out⟩ (fun _ => ?_)
   clear hK K
   try simp only [Act.put, List.setIfInBounds_toArray, List.set_cons_zero, List.set_cons_succ]
   refine wpAnyH_done (by kernel_rfl) ?_ _
   go_wp2_with fail
   go_meet
   exact ⟨wd.heap.size, rfl, Lib.hid HGU.out.1, Lib.hid ⟨HBS.out, HB2S.out, HTS.out, HXS.out⟩⟩
 case rest =>
 obtain ⟨g6, rfl, HG6, HC⟩ := hcut
 have HBC := Lib.hid HC.out.1; have HB2C := Lib.hid HC.out.2.1; have HTC := Lib.hid HC.out.2.2.1; have HDC_ := Lib.hid HC.out.2.2.2; have HSLC := Lib.hid ((HSL.out.keep HC.out.2.1).more HC.out.2.1.size)
 clear HDC HBT
 have ct0 := HTC.out.1 0 _ rfl
 have cd0 := HDC_.out.1 0 _ rfl
 go_wp2_with fail
 refine (PRight_any (some ⟨b3, o3, none⟩) cT L d.idx _ _ (Nat.le_refl _) HSLC.out HVT.out (H7.out.below HBC.out)).mono ?_
 rintro e w10 ⟨rfl, hbw10⟩
 clear ct0 cd0
 have HSw10 := Lib.hid (show wc.heap.size ≤ w10.heap.size from hbw10.size)
 have HBw10 := Lib.hid (HBC.out.trans (hbw10.mono HBC.out.size))
 have tw10 := Lib.hid (HTC.out.kept (grown_none hbw10) (fun e => by cases e))
 have dw10 := Lib.hid (HDC_.out.kept (grown_none hbw10) (fun e => by cases e))
 have HSLw10 := Lib.hid ((HSLC.out).next (Nat.le_refl _) hbw10)
 have HB2w10 := Lib.hid (below_tr31 HB2C.out hbw10)
 clear hbw10
 obtain ⟨q, hq⟩ : ∃ z, rightB L d.idx = z := ⟨_, rfl⟩
 rw [hq]
 have HQ := Lib.hid hq; clear hq
 go_upto_region 6 with fail
 obtain ⟨wa, hwa⟩ : ∃ z, w10.alloc (.cells #[.string ⟨#[99, 111, 110, 116, 101, 110, 116]⟩, .string ⟨#[102, 115, 58, 99, 104, 97, 110, 103, 101, 100, 58]⟩] 63) = z := ⟨_, rfl⟩
 have hba : Below w10.heap.size w10 wa := by rw [← hwa]; exact (Below.refl _ _).alloc (Nat.le_refl _) _
 have hxa : BoxL wa w10.heap.size [.string ⟨#[99, 111, 110, 116, 101, 110, 116]⟩, .string ⟨#[102, 115, 58, 99, 104, 97, 110, 103, 101, 100, 58]⟩] := box_mk hwa
 have HGA := Lib.hid (show g6 < w10.heap.size ∧ wa.heap.size = w10.heap.size + 1 from ⟨dw10.out.2.2, by rw [← hwa]; simp⟩)
 have HSwa := Lib.hid (show w10.heap.size ≤ wa.heap.size from hba.size)
 have HBwa := Lib.hid (HBw10.out.trans (hba.mono HBw10.out.size))
 have twa := Lib.hid (tw10.out.kept (grown_none hba) (fun e => by cases e))
 have dwa := Lib.hid (dw10.out.kept (grown_none hba) (fun e => by cases e))
 have HSLwa := Lib.hid ((HSLw10.out).next (Nat.le_refl _) hba)
 have HB2wa := Lib.hid (below_tr31 HB2w10.out hba)
 have HXA := Lib.hid hxa; clear hba hxa
 have ct0 := twa.out.1 0 _ rfl
 have cd9 := dwa.out.1 9 _ rfl
 have cfd := dwa.out.2.1
 go_upto_region 7 with fail
 try rw [hwa]
 clear hwa
 clear ct0 cd9 cfd
 have HGW := Lib.hid (show w.heap.size ≤ w2.heap.size from HBw2.out.size)
 have hgs := grown_one wa g6 9 (.slice (some ⟨w10.heap.size, 0, none⟩) 1 1)
 have hbx_ := dwa.out.set_ (j := 9) (by simp) (.slice (some ⟨w10.heap.size, 0, none⟩) 1 1)
 obtain ⟨wb, hwb⟩ : ∃ z, wa.setCell ⟨g6, 9, none⟩ (.slice (some ⟨w10.heap.size, 0, none⟩) 1 1) = z := ⟨_, rfl⟩
 rw [hwb] at hgs hbx_ ⊢
 clear hwb
 have HDB := Lib.hid (show BoxL wb g6 [.int .i64 d.idx, .int .i64 d.par, .string d.nm, .string d.orig, .string d.sub, .string d.drv, .string d.ali, .int .i64 d.kind, .int .i64 d.num, .slice (some ⟨w10.heap.size, 0, none⟩) 1 1] from hbx_)
 have HBB := Lib.hid (HBwa.out.grown hgs HBwa.out.size (fun q hq => by have := Option.some.inj hq; have := HG6.out; have := HGW.out; omega))
 have HB2B := Lib.hid (HB2wa.out.grown hgs HB2wa.out.size (fun q hq => by have := Option.some.inj hq; have := HG6.out; omega))
 have HTB := Lib.hid (twa.out.kept hgs (fun e => by have := Option.some.inj e; have := HG6.out; omega))
 have HAB := Lib.hid (HXA.out.kept hgs (fun e => by have := Option.some.inj e; have := HGA.out; omega))
 have HSB := Lib.hid (show wa.heap.size ≤ wb.heap.size from hgs.size)
 clear hgs hbx_
 have HSLB := Lib.hid ((HSL.out.keep HB2B.out).more HB2B.out.size)
 have HSAB := Lib.hid (show Sl wb wb.heap.size (some ⟨w10.heap.size, 0, none⟩) 1 (setsA d chgA).attrs from (sls_one HAB.out (by show (7 : Nat) ≤ maxLen; unfold maxLen; omega) (by show (11 : Nat) ≤ maxLen; unfold maxLen; omega)).sl (fun x hx => by have h2 : x = _ := hx; have := HGA.out; have := HSB.out; omega))
 have ct0 := HTB.out.1 0 _ rfl
 have cd0 := HDB.out.1 0 _ rfl
 have cd1 := HDB.out.1 1 _ rfl
 have cd2 := HDB.out.1 2 _ rfl
 have cd3 := HDB.out.1 3 _ rfl
 have cd4 := HDB.out.1 4 _ rfl
 have cd5 := HDB.out.1 5 _ rfl
 have cd6 := HDB.out.1 6 _ rfl
 have cd7 := HDB.out.1 7 _ rfl
 have cd8 := HDB.out.1 8 _ rfl
 have cd9 := HDB.out.1 9 _ rfl
 have hch := chgX_at HVT.out HMEM.out
 have hcx := chgX_eq HVT.out HMEM.out
 have HCR := Lib.hid (chg_right HVT.out HMD.out HMEM.out); have HUV := Lib.hid (chg_VT HVT.out hch).1
 have HCH := Lib.hid hch; have HCX := Lib.hid hcx; clear hch hcx
 go_wp2_with fail
 refine (Change_any (some ⟨b3, o3, none⟩) cT L (setsA d chgA) (some ⟨w10.heap.size, 0, none⟩) 1 _ _ (Nat.le_refl _) HSLB.out HDOK.out HSAB.out HVT.out (HOK.out.next HBB.out)).mono ?_
 rintro e wu ⟨hb_, vu, rfl, ho_⟩
 obtain ⟨Au, cu, hvu, hsu_⟩ := ho_.sl
 subst hvu
 rw [HCH.out]
 obtain ⟨U, hU⟩ : ∃ z, chgL L (setsA d chgA) = z := ⟨_, rfl⟩
 rw [HCX.out, hU] at hsu_
 rw [HCX.out, hU]
 rw [hU] at HCR HUV
 clear ct0 cd0 cd1 cd2 cd3 cd4 cd5 cd6 cd7 cd8 cd9
 have HSwu := Lib.hid (show wb.heap.size ≤ wu.heap.size from hb_.size)
 have HBwu := Lib.hid (HBB.out.trans (hb_.mono HBB.out.size))
 have twu := Lib.hid (HTB.out.kept (grown_none hb_) (fun e => by cases e))
 have dwu := Lib.hid (HDB.out.kept (grown_none hb_) (fun e => by cases e))
 have HSLwu := Lib.hid ((HSLB.out).next (Nat.le_refl _) hb_)
 have HB2wu := Lib.hid (below_tr31 HB2B.out hb_)
 have HSU := Lib.hid hsu_; clear hb_ hsu_ ho_ hU
 have ct0 := twu.out.1 0 _ rfl
 have cd0 := dwu.out.1 0 _ rfl
 have cd1 := dwu.out.1 1 _ rfl
 have cd2 := dwu.out.1 2 _ rfl
 have cd3 := dwu.out.1 3 _ rfl
 have cd4 := dwu.out.1 4 _ rfl
 have cd5 := dwu.out.1 5 _ rfl
 have cd6 := dwu.out.1 6 _ rfl
 have cd7 := dwu.out.1 7 _ rfl
 have cd8 := dwu.out.1 8 _ rfl
 have cd9 := dwu.out.1 9 _ rfl
 have hu1 := HSU.out.1; have hu2 := HSU.out.2.1
 unfold maxLen at hu2
 go_upto_region 8 with fail
 obtain ⟨w11, hw11⟩ : ∃ w11, wu.alloc (.cells #[.slice Au U.length cu] 57) = w11 := ⟨_, rfl⟩
 have hbw11 : Below wu.heap.size wu w11 := by rw [← hw11]; exact (Below.refl _ _).alloc (Nat.le_refl _) _
 have HGw11 := Lib.hid (show w11.heap.size = wu.heap.size + 1 by rw [← hw11]; simp)
 have HXyw11 := Lib.hid (show BoxL w11 wu.heap.size [.slice Au U.length cu] from box_mk hw11)
 try simp only [hw11]
 have HSTEPw11 := Lib.hid hbw11
 have HSw11 := Lib.hid (show wu.heap.size ≤ w11.heap.size from hbw11.size)
 have HBw11 := Lib.hid (HBwu.out.trans (hbw11.mono HBwu.out.size))
 have tw11 := Lib.hid (twu.out.kept (grown_none hbw11) (fun e => by cases e))
 have dw11 := Lib.hid (dwu.out.kept (grown_none hbw11) (fun e => by cases e))
 have HSLw11 := Lib.hid ((HSLwu.out).next (Nat.le_refl _) hbw11)
 have HB2w11 := Lib.hid (below_tr31 HB2wu.out hbw11)
 have HSUw11 := Lib.hid ((HSU.out).next (Nat.le_refl _) hbw11)
 clear hw11 hbw11
 try rw [show wu.heap.size + 1 = w11.heap.size from HGw11.out.symm]
 clear ct0 cd0 cd1 cd2 cd3 cd4 cd5 cd6 cd7 cd8 cd9
 have ct0 := tw11.out.1 0 _ rfl
 have cd0 := dw11.out.1 0 _ rfl
 have cd1 := dw11.out.1 1 _ rfl
 have cd2 := dw11.out.1 2 _ rfl
 have cd3 := dw11.out.1 3 _ rfl
 have cd4 := dw11.out.1 4 _ rfl
 have cd5 := dw11.out.1 5 _ rfl
 have cd6 := dw11.out.1 6 _ rfl
 have cd7 := dw11.out.1 7 _ rfl
 have cd8 := dw11.out.1 8 _ rfl
 have cd9 := dw11.out.1 9 _ rfl
 have cy0 := HXyw11.out.1 0 _ rfl
 go_wp2_with fail
 refine (RFind_any Au cu U d.idx _ _ (Nat.le_refl _) HSUw11.out).mono ?_
 rintro e w12 ⟨hbw12, x, A5, c5, -, rfl, -, -⟩
 clear ct0 cd0 cd1 cd2 cd3 cd4 cd5 cd6 cd7 cd8 cd9 cy0
 have HSw12 := Lib.hid (show w11.heap.size ≤ w12.heap.size from hbw12.size)
 have HBw12 := Lib.hid (HBw11.out.trans (hbw12.mono HBw11.out.size))
 have tw12 := Lib.hid (tw11.out.kept (grown_none hbw12) (fun e => by cases e))
 have dw12 := Lib.hid (dw11.out.kept (grown_none hbw12) (fun e => by cases e))
 have yw12 := Lib.hid (HXyw11.out.kept (grown_none hbw12) (fun e => by cases e))
 have HSLw12 := Lib.hid ((HSLw11.out).next (Nat.le_refl _) hbw12)
 have HB2w12 := Lib.hid (below_tr31 HB2w11.out hbw12)
 have HSUw12 := Lib.hid ((HSUw11.out).next (Nat.le_refl _) hbw12)
 clear hbw12
 rw [HCR.out.2]
 have ct0 := tw12.out.1 0 _ rfl
 have cd0 := dw12.out.1 0 _ rfl
 have cd1 := dw12.out.1 1 _ rfl
 have cd2 := dw12.out.1 2 _ rfl
 have cd3 := dw12.out.1 3 _ rfl
 have cd4 := dw12.out.1 4 _ rfl
 have cd5 := dw12.out.1 5 _ rfl
 have cd6 := dw12.out.1 6 _ rfl
 have cd7 := dw12.out.1 7 _ rfl
 have cd8 := dw12.out.1 8 _ rfl
 have cd9 := dw12.out.1 9 _ rfl
 have cy0 := yw12.out.1 0 _ rfl
 go_upto_region 11 with fail
 obtain ⟨w13, hw13⟩ : ∃ w13, w12.alloc (.cells #[.int .i64 x.idx, .int .i64 x.par, .string x.nm, .string x.orig, .string x.sub, .string x.drv, .string x.ali, .int .i64 x.kind, .int .i64 x.num, .slice A5 x.attrs.length c5] 43) = w13 := ⟨_, rfl⟩
 have hbw13 : Below w12.heap.size w12 w13 := by rw [← hw13]; exact (Below.refl _ _).alloc (Nat.le_refl _) _
 have HGw13 := Lib.hid (show w13.heap.size = w12.heap.size + 1 by rw [← hw13]; simp)
 have HXzw13 := Lib.hid (show BoxL w13 w12.heap.size [.int .i64 x.idx, .int .i64 x.par, .string x.nm, .string x.orig, .string x.sub, .string x.drv, .string x.ali, .int .i64 x.kind, .int .i64 x.num, .slice A5 x.attrs.length c5] from box_mk hw13)
 try simp only [hw13]
 have HSTEPw13 := Lib.hid hbw13
 have HSw13 := Lib.hid (show w12.heap.size ≤ w13.heap.size from hbw13.size)
 have HBw13 := Lib.hid (HBw12.out.trans (hbw13.mono HBw12.out.size))
 have tw13 := Lib.hid (tw12.out.kept (grown_none hbw13) (fun e => by cases e))
 have dw13 := Lib.hid (dw12.out.kept (grown_none hbw13) (fun e => by cases e))
 have yw13 := Lib.hid (yw12.out.kept (grown_none hbw13) (fun e => by cases e))
 have HSLw13 := Lib.hid ((HSLw12.out).next (Nat.le_refl _) hbw13)
 have HB2w13 := Lib.hid (below_tr31 HB2w12.out hbw13)
 have HSUw13 := Lib.hid ((HSUw12.out).next (Nat.le_refl _) hbw13)
 clear hw13 hbw13
 try rw [show w12.heap.size + 1 = w13.heap.size from HGw13.out.symm]
 clear ct0 cd0 cd1 cd2 cd3 cd4 cd5 cd6 cd7 cd8 cd9 cy0
 have ct0 := tw13.out.1 0 _ rfl
 have cd0 := dw13.out.1 0 _ rfl
 have cd1 := dw13.out.1 1 _ rfl
 have cd2 := dw13.out.1 2 _ rfl
 have cd3 := dw13.out.1 3 _ rfl
 have cd4 := dw13.out.1 4 _ rfl
 have cd5 := dw13.out.1 5 _ rfl
 have cd6 := dw13.out.1 6 _ rfl
 have cd7 := dw13.out.1 7 _ rfl
 have cd8 := dw13.out.1 8 _ rfl
 have cd9 := dw13.out.1 9 _ rfl
 have cy0 := yw13.out.1 0 _ rfl
 go_wp2_with fail
 refine (PRight_any Au cu U d.idx _ _ (Nat.le_refl _) HSUw13.out HUV.out (H7.out.below HBw13.out)).mono ?_
 rintro e w14 ⟨rfl, hbw14⟩
 clear ct0 cd0 cd1 cd2 cd3 cd4 cd5 cd6 cd7 cd8 cd9 cy0
 have HSw14 := Lib.hid (show w13.heap.size ≤ w14.heap.size from hbw14.size)
 have HBw14 := Lib.hid (HBw13.out.trans (hbw14.mono HBw13.out.size))
 have tw14 := Lib.hid (tw13.out.kept (grown_none hbw14) (fun e => by cases e))
 have dw14 := Lib.hid (dw13.out.kept (grown_none hbw14) (fun e => by cases e))
 have yw14 := Lib.hid (yw13.out.kept (grown_none hbw14) (fun e => by cases e))
 have zw14 := Lib.hid (HXzw13.out.kept (grown_none hbw14) (fun e => by cases e))
 have HSLw14 := Lib.hid ((HSLw13.out).next (Nat.le_refl _) hbw14)
 have HB2w14 := Lib.hid (below_tr31 HB2w13.out hbw14)
 have HSUw14 := Lib.hid ((HSUw13.out).next (Nat.le_refl _) hbw14)
 clear hbw14
 rw [HCR.out.1]
 have ct0 := tw14.out.1 0 _ rfl
 have cd0 := dw14.out.1 0 _ rfl
 have cd7 := dw14.out.1 7 _ rfl
 have cy0 := yw14.out.1 0 _ rfl
 cases q
 ·
  go_wp2_with fail
  refine (known31_any _ (H7.out.below HBw14.out)).mono ?_
  rintro e wk ⟨rfl, hb⟩
  go_wp2
  go_ret
  exact ⟨by try rfl, HBw14.out.trans (hb.mono HBw14.out.size)⟩
 ·
  have hk2 : (d.kind == 2) = true := by rw [right_kind_of HVT.out.wf HMEM.out HQ.out]; rfl
  go_wp2_with fail
  refine (known31_any _ (H7.out.below HBw14.out)).mono ?_
  rintro e wk ⟨rfl, hb⟩
  go_wp2
  go_ret
  exact ⟨by try rfl, HBw14.out.trans (hb.mono HBw14.out.size)⟩
end Go.Proofs.YtehmidmoiamcfaaGreatDoor
namespace Go.Proofs.YtehmidmoiamcfaaGreatDoor
open Go.RowKit Go.Cold
namespace cPartitionChanged
open Go.ChangeShapes Go.WideShapes Go.ChangeAt
open Go.ChangeMaps (open_string)
set_option maxRecDepth 100000
theorem reads (os : Os) {H : Type} (enc : TypeId × Value → H) : ∃ places, DataW.whole enc Tryz.prog ((World.laidAll Tryz.prog os Rows.partitionChangedRow.laid).forCall (fun _ _ => 0) ⟨#[], #[.slice none 0 0, .int .i64 0], []⟩).memory Tryz.f9.params.toList Rows.partitionChangedSpec.vars false (#[.slice none 0 0, .int .i64 0] : Array Value).toList 8 = some ([.nil, .lit (.int .i64 0)], [], places) :=
 ⟨[], by kernel_rfl⟩
theorem lifted (os : Os) (started : os.Started) (H : Type) (enc : TypeId × Value → H) (F : Stop.Interp) :
  ReturnsInHanded {} Tryz.checked os 9 .any ((OpenSpec.ofChange Rows.partitionChangedSpec).preRow enc Tryz.prog Tryz.f9 Rows.partitionChangedRow.domain false Rows.partitionChangedRow.laid) (((OpenSpec.ofChange Rows.partitionChangedSpec).at F).post enc Tryz.prog Tryz.f9 false true false false) := by
 obtain ⟨places, hx⟩ := reads os enc
 refine law_lifted os started H enc F (by kernel_rfl) Tryz.func9 #[.slice none 0 0, .int .i64 0] (World.shaped_of_ZipB (by kernel_rfl) (by kernel_rfl)) (by kernel_rfl)
  (OpenSpec.preRow_of_cond 8 hx (by kernel_rfl) (fun k hk => by cases hk) (by kernel_rfl) (laidMet_laidAll _ (by kernel_rfl) (by kernel_rfl))) rfl rfl
  (fun ds hl => by
   rw [Tryz.params9] at hl
   match ds, hl with
   | [d0, d1], _ => rfl) (by kernel_rfl) ?_
 intro W base args ds ps hval hA hlt hz hsh hlaid
 rw [Tryz.params9] at hA hval
 obtain ⟨v0, vs0, d0, ds0, p0, q0, hargs, rfl, rfl, h0, r0⟩ := trodAll_cons hA
 obtain ⟨v1, vs1, d1, ds1, p1, q1, rfl, rfl, rfl, h1, r1⟩ := trodAll_cons r0
 obtain ⟨rfl, rfl, rfl⟩ := trodAll_nil r1
 obtain rfl : args = #[v0, v1] := by cases args; simp_all
 obtain ⟨A0, c0, xs0, rfl, s0⟩ := open_nums Tryz.underlying29 Tryz.underlying3 (by kernel_rfl) (hval 0 29 v0 rfl rfl) h0 (fun x hx => hlt x (List.mem_append_left _ hx))
 obtain ⟨a1, rfl, rfl, rfl, w1⟩ := open_int Tryz.underlying3 (hval 1 3 v1 rfl rfl) h1
 exact lawChanged31_any A0 c0 xs0 a1 W (show Ok W from Tryz.laysM146.s1_3 W hsh) (ok7_of_laid hlaid) s0 (wf_i64.1 w1)
theorem said : Rows.PartitionChangedSaid :=
 OpenClaim.holds_of_cond 9 Tryz.f9 rfl rfl rfl rfl rfl rfl rfl ⟨rfl, rfl, rfl, rfl, rfl⟩ rfl rfl rfl rfl rfl (by kernel_rfl) Tryz.func9 (by kernel_rfl)
  (of_decide_eq_true (by kernel_rfl)) (by unfold Func.isWrapper; first | (rw [if_pos (by decide +kernel)]; kernel_rfl) | (rw [if_neg (by decide +kernel)]; exact ⟨rfl, rfl⟩))
  (fun os started H enc _ F => by rw [OpenClaim.pre_eq_preRow]; exact lifted os started H enc F)
theorem plain (f : FuncId) (fn : Func) (hf : Tryz.pinned.checked.prog.funcNamed Rows.partitionChangedRow.func = some f) (hfn : Tryz.pinned.checked.prog.funcs[f]? = some fn) :
  true = Tryz.pinned.checked.prog.looks [] ∧ ∀ (j : Nat) t, fn.params[j]? = some t → Tryz.pinned.checked.prog.wantsStandIn t = false := by
 obtain rfl : f = 9 := Option.some.inj ((show Tryz.prog.funcNamed Rows.partitionChangedRow.func = some 9 by kernel_rfl).symm.trans hf) |>.symm
 obtain rfl : fn = Tryz.f9 := (Option.some.inj (Tryz.func9.symm.trans hfn)).symm
 refine ⟨by kernel_rfl, fun j t ht => ?_⟩
 rw [Tryz.params9] at ht
 have hm : t ∈ [29, 3] := by simpa using Array.mem_of_getElem? ht
 have hall : ([29, 3].all fun u => !Tryz.prog.wantsStandIn u) = true := by kernel_rfl
 exact (show Tryz.prog.wantsStandIn t = false by simpa using List.all_eq_true.1 hall t hm)
/-- The card. -/
theorem card : Rows.PartitionChangedCardSaid :=
 Claim7.holds_tied_plain_at .later [] _ _ _ _ said (fun _ h => by cases h) (by kernel_rfl) (fun _ h => by cases h) partitionChanged_row_tie rfl ⟨rfl, rfl⟩ (by kernel_rfl) rfl plain (by kernel_rfl)
end cPartitionChanged
end Go.Proofs.YtehmidmoiamcfaaGreatDoor
