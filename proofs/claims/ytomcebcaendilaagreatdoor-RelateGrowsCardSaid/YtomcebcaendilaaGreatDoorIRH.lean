/-
  The walks of coldplugmake's SameInts and of coldplugmade's Example.
-/
import Derived.Test.YtomcebcaendilaaGreatDoorIRE
import Derived.Test.YtomcebcaendilaaGreatDoorIRD
import Derived.Test.YtomcebcaendilaaGreatDoorIH
import Derived.Deep.DeepCutAuto
set_option linter.unusedSimpArgs false
set_option linter.unusedVariables false
namespace Go.Cold
open Go Go.RowKit
/-- The tree of the chapter's example. -/
def eL : List Dev := [⟨1, 0, ⟨#[115, 100, 97]⟩, ⟨#[115, 100, 97]⟩, ⟨#[98, 108, 111, 99, 107]⟩, ⟨#[]⟩, ⟨#[]⟩, 2, 8, []⟩, ⟨2, 1, ⟨#[115, 100, 97, 112, 49]⟩, ⟨#[115, 100, 97, 112, 49]⟩, ⟨#[98, 108, 111, 99, 107]⟩, ⟨#[]⟩, ⟨#[]⟩, 2, 9, []⟩, ⟨3, 1, ⟨#[115, 100, 97, 112, 50]⟩, ⟨#[115, 100, 97, 112, 50]⟩, ⟨#[98, 108, 111, 99, 107]⟩, ⟨#[]⟩, ⟨#[]⟩, 2, 10, []⟩, ⟨4, 0, ⟨#[117, 115, 98]⟩, ⟨#[117, 115, 98]⟩, ⟨#[117, 115, 98]⟩, ⟨#[]⟩, ⟨#[]⟩, 1, 0, []⟩, ⟨5, 4, ⟨#[101, 116, 104, 48]⟩, ⟨#[101, 116, 104, 48]⟩, ⟨#[110, 101, 116]⟩, ⟨#[]⟩, ⟨#[]⟩, 4, 0, []⟩]
theorem eL_VT : VT eL := (check_VT (by decide)).1 (by decide +kernel)
/-- A literal list of devices without attributes. -/
theorem lit_sl {w : World} {g B : Nat} {L : List Dev} (hL : ∀ x ∈ L, devOk x ∧ x.attrs = []) (hn : L.length ≤ maxLen) (h : BoxL w g (L.map fun x => devCells x none 0).flatten) (hB : g < B) : Sl w B (some ⟨g, 0, none⟩) L.length L := by
 refine ⟨Nat.le_refl _, hn, fun _ => ⟨g, 0, rfl, hB, fun i x hx => ⟨devCells x none 0, ⟨none, 0, rfl, (hL x (List.mem_of_getElem? hx)).1, ?_⟩, fun j u hu => ?_⟩⟩⟩
 · rw [(hL x (List.mem_of_getElem? hx)).2]; exact SlS.nil_
 ·
  have hj : j < 10 := by have := (List.getElem?_eq_some_iff.1 hu).1; simpa [devCells] using this
  rw [Nat.zero_add]
  refine h.1 _ u ?_
  show _ = _
  rw [show i * Rep.size Dev + j = i * 10 + j from rfl, flatten_row (n := 10) (fun cs hcs => by obtain ⟨d, -, rfl⟩ := List.mem_map.1 hcs; rfl) (i := i) (cs := devCells x none 0) (by rw [List.getElem?_map, hx]; rfl) hj]
  exact hu
theorem eL_ok : ∀ x ∈ eL, devOk x ∧ x.attrs = [] := by
 intro x hm
 simp only [eL, List.mem_cons, List.not_mem_nil, or_false] at hm
 rcases hm with rfl | rfl | rfl | rfl | rfl <;> refine ⟨⟨?_, ?_, ?_, ?_, ?_, ?_, ?_, ?_, ?_⟩, rfl⟩ <;> first | (unfold okI; decide +kernel) | decide +kernel
theorem eL_cells : [.int .i64 1, .int .i64 0, .string ⟨#[115, 100, 97]⟩, .string ⟨#[115, 100, 97]⟩, .string ⟨#[98, 108, 111, 99, 107]⟩, .string ⟨#[]⟩, .string ⟨#[]⟩, .int .i64 2, .int .i64 8, .slice none 0 0, .int .i64 2, .int .i64 1, .string ⟨#[115, 100, 97, 112, 49]⟩, .string ⟨#[115, 100, 97, 112, 49]⟩, .string ⟨#[98, 108, 111, 99, 107]⟩, .string ⟨#[]⟩, .string ⟨#[]⟩, .int .i64 2, .int .i64 9, .slice none 0 0, .int .i64 3, .int .i64 1, .string ⟨#[115, 100, 97, 112, 50]⟩, .string ⟨#[115, 100, 97, 112, 50]⟩, .string ⟨#[98, 108, 111, 99, 107]⟩, .string ⟨#[]⟩, .string ⟨#[]⟩, .int .i64 2, .int .i64 10, .slice none 0 0, .int .i64 4, .int .i64 0, .string ⟨#[117, 115, 98]⟩, .string ⟨#[117, 115, 98]⟩, .string ⟨#[117, 115, 98]⟩, .string ⟨#[]⟩, .string ⟨#[]⟩, .int .i64 1, .int .i64 0, .slice none 0 0, .int .i64 5, .int .i64 4, .string ⟨#[101, 116, 104, 48]⟩, .string ⟨#[101, 116, 104, 48]⟩, .string ⟨#[110, 101, 116]⟩, .string ⟨#[]⟩, .string ⟨#[]⟩, .int .i64 4, .int .i64 0, .slice none 0 0] = (eL.map fun x => devCells x none 0).flatten := by kernel_rfl
def blkC : List Value := [.int .i64 0, .int .i64 0, .string ByteArray.empty, .string ByteArray.empty, .string ⟨#[98, 108, 111, 99, 107]⟩, .string ByteArray.empty, .string ByteArray.empty, .int .i64 2, .int .i64 0, .slice none 0 0]
/-- A device's ten cells are written. -/
def fillB (w : World) (g : Nat) : World := ((((((((((w.setCell ⟨g, 0, none⟩ (.int .i64 0)).setCell ⟨g, 1, none⟩ (.int .i64 0)).setCell ⟨g, 2, none⟩ (.string ByteArray.empty)).setCell ⟨g, 3, none⟩ (.string ByteArray.empty)).setCell ⟨g, 4, none⟩ (.string ⟨#[98, 108, 111, 99, 107]⟩)).setCell ⟨g, 5, none⟩ (.string ByteArray.empty)).setCell ⟨g, 6, none⟩ (.string ByteArray.empty)).setCell ⟨g, 7, none⟩ (.int .i64 2)).setCell ⟨g, 8, none⟩ (.int .i64 0)).setCell ⟨g, 9, none⟩ (.slice none 0 0))
theorem fill_eq (w : World) (g : Nat) : ((((((((((w.setCell ⟨g, 0, none⟩ (.int .i64 0)).setCell ⟨g, 1, none⟩ (.int .i64 0)).setCell ⟨g, 2, none⟩ (.string ByteArray.empty)).setCell ⟨g, 3, none⟩ (.string ByteArray.empty)).setCell ⟨g, 4, none⟩ (.string ⟨#[98, 108, 111, 99, 107]⟩)).setCell ⟨g, 5, none⟩ (.string ByteArray.empty)).setCell ⟨g, 6, none⟩ (.string ByteArray.empty)).setCell ⟨g, 7, none⟩ (.int .i64 2)).setCell ⟨g, 8, none⟩ (.int .i64 0)).setCell ⟨g, 9, none⟩ (.slice none 0 0)) = fillB w g := rfl
theorem fill_box {w z : World} {g : Nat} (h : BoxL w g zero10) (e : fillB w g = z) : BoxL z g blkC := e ▸ BoxL.set10 h (.int .i64 0) (.int .i64 0) (.string ByteArray.empty) (.string ByteArray.empty) (.string ⟨#[98, 108, 111, 99, 107]⟩) (.string ByteArray.empty) (.string ByteArray.empty) (.int .i64 2) (.int .i64 0) (.slice none 0 0)
theorem fill_far {w z : World} {g q : Nat} {cs : List Value} (h : BoxL w q cs) (hn : q ≠ g) (e : fillB w g = z) : BoxL z q cs :=
 e ▸ set10_ind (fun w' => BoxL w' q cs) (fun w' j v h => h.far hn.symm v) h (.int .i64 0) (.int .i64 0) (.string ByteArray.empty) (.string ByteArray.empty) (.string ⟨#[98, 108, 111, 99, 107]⟩) (.string ByteArray.empty) (.string ByteArray.empty) (.int .i64 2) (.int .i64 0) (.slice none 0 0)
theorem fill_below {w0 w z : World} {g : Nat} (h : Below w0.heap.size w0 w) (hg : w0.heap.size ≤ g) (e : fillB w g = z) : Below w0.heap.size w0 z :=
 e ▸ (set10_ind (fun w' => Below w0.heap.size w0 w' ∧ w.heap.size ≤ w'.heap.size) (fun w' j v h1 => ⟨h1.1.grown (grown_one _ _ _ _) (by have := h.size; omega) (fun q hq => by have := Option.some.inj hq; omega), by simpa using h1.2⟩) ⟨h, Nat.le_refl _⟩ (.int .i64 0) (.int .i64 0) (.string ByteArray.empty) (.string ByteArray.empty) (.string ⟨#[98, 108, 111, 99, 107]⟩) (.string ByteArray.empty) (.string ByteArray.empty) (.int .i64 2) (.int .i64 0) (.slice none 0 0)).1
theorem zbox10 {w : World} {g : Nat} (h : BoxL w g zero10) : w.cell? ⟨g, 0, none⟩ = some (.int .i64 0) ∧ w.cell? ⟨g, 1, none⟩ = some (.int .i64 0) ∧ w.cell? ⟨g, 2, none⟩ = some (.string ByteArray.empty) ∧ w.cell? ⟨g, 3, none⟩ = some (.string ByteArray.empty) ∧ w.cell? ⟨g, 4, none⟩ = some (.string ByteArray.empty) ∧ w.cell? ⟨g, 5, none⟩ = some (.string ByteArray.empty) ∧ w.cell? ⟨g, 6, none⟩ = some (.string ByteArray.empty) ∧ w.cell? ⟨g, 7, none⟩ = some (.int .i64 0) ∧ w.cell? ⟨g, 8, none⟩ = some (.int .i64 0) ∧ w.cell? ⟨g, 9, none⟩ = some (.slice none 0 0) ∧ ∀ j, w.frozen? ⟨g, j, none⟩ = false :=
 ⟨h.1 0 _ rfl, h.1 1 _ rfl, h.1 2 _ rfl, h.1 3 _ rfl, h.1 4 _ rfl, h.1 5 _ rfl, h.1 6 _ rfl, h.1 7 _ rfl, h.1 8 _ rfl, h.1 9 _ rfl, h.2.1⟩
/-- Three devices that are filled: where they lie. -/
def ExB (w0 : World) (gr g2 g3 g4 : Nat) (c2 c3 c4 : List Value) (w : World) : Prop :=
 Below w0.heap.size w0 w ∧ BoxL w gr [.slice none 0 0] ∧ BoxL w g2 c2 ∧ BoxL w g3 c3 ∧ BoxL w g4 c4
end Go.Cold
namespace Go.Proofs.YtomcebcaendilaaGreatDoor
open Go.RowKit Go.Cold
def zcells : Obj := .cells #[.int .i64 0, .int .i64 0, .string ByteArray.empty, .string ByteArray.empty, .string ByteArray.empty, .string ByteArray.empty, .string ByteArray.empty, .int .i64 0, .int .i64 0, .slice none 0 0] 34
theorem zc_eq : (Obj.cells #[.int .i64 0, .int .i64 0, .string ByteArray.empty, .string ByteArray.empty, .string ByteArray.empty, .string ByteArray.empty, .string ByteArray.empty, .int .i64 0, .int .i64 0, .slice none 0 0] 34) = zcells := rfl
/-- coldplugmake.SameInts, of equal lists. -/
theorem SameInts_same (A B : Option Addr) (c d : Nat) (xs : List Int) (w : World) (b1 b2 : Nat) (hx : Sl w b1 A c xs) (hy : Sl w b2 B d xs) :
  Calls Tryz.prog 22 #[.slice A xs.length c, .slice B xs.length d] w fun e w' => e = .returned (.bool true) ∧ Below w.heap.size w w' := by
 have hc := hx.1; have hc2 := hx.2.1; have hd := hy.1; have hd2 := hy.2.1
 unfold maxLen at hc2 hd2
 go_enter Tryz.func22, Tryz.ntmps22
 go_wp2
 go_loopw [5] (fun i wr => ∃ k n : Nat, k ≤ xs.length ∧ i = .int .i64 k ∧ wr = w.drewN n) (fun i _ => xs.length - (intOf i).toNat)
 case atStart => exact ⟨0, 0, Nat.zero_le _, rfl, rfl⟩
 case round =>
  obtain ⟨k, n, hk, rfl, rfl⟩ := hrel
  by_cases hlt : k < xs.length
  ·
   obtain ⟨b3, o3, rfl, _, cx, _⟩ := hx.int hlt
   obtain ⟨b4, o4, rfl, _, cy, _⟩ := hy.int hlt
   have i1 : (k : Int) < (xs.length : Int) := by omega
   go_wp2
   go_quiet (fail)
   go_wp2
   go_roundw
   case rel => exact ⟨k + 1, _, by omega, by go_num, rfl⟩
   case measure => simp [intOf]; omega
  ·
   go_wp2
   go_ret
   exact ⟨rfl, below_drewN_self _ _ _⟩
set_option maxRecDepth 100000 in
set_option maxHeartbeats 8000000 in
/-- coldplugmade.Example. -/
theorem Example_any (w : World) : Calls Tryz.prog 37 #[] w fun e w' => ∃ A : Addr, e = .returned (.agg #[.slice (some A) 5 5]) ∧ Below w.heap.size w w' ∧ Sl w' w'.heap.size (some A) 5 eL := by
 have hzt := (zero_of_info (P := Tryz.prog) (t := 27) info_tree2).1
 have hzv := (zero_of_info (P := Tryz.prog) (t := 34) info_dev2).1
 go_enter Tryz.func37, Tryz.ntmps37
 go_upto_region 1 with fail
 obtain ⟨w1, hw1⟩ : ∃ w1, w.alloc (.cells #[.slice none 0 0] 27) = w1 := ⟨_, rfl⟩
 have hbw1 : Below w.heap.size w w1 := by rw [← hw1]; exact (Below.refl _ _).alloc (Nat.le_refl _) _
 have HGw1 := Lib.hid (show w1.heap.size = w.heap.size + 1 by rw [← hw1]; simp)
 have HXrw1 := Lib.hid (show BoxL w1 w.heap.size [.slice none 0 0] from box_mk hw1)
 try simp only [hw1]
 have HSw1 := Lib.hid (show w.heap.size ≤ w1.heap.size from hbw1.size)
 have HBw1 := Lib.hid hbw1
 clear hw1 hbw1
 try rw [show w.heap.size + 1 = w1.heap.size from HGw1.out.symm]
 go_upto_region 2 with fail
 obtain ⟨w2, hw2⟩ : ∃ w2, w1.alloc (.cells #[.int .i64 0, .int .i64 0, .string ByteArray.empty, .string ByteArray.empty, .string ⟨#[98, 108, 111, 99, 107]⟩, .string ByteArray.empty, .string ByteArray.empty, .int .i64 2, .int .i64 0, .slice none 0 0] 34) = w2 := ⟨_, rfl⟩
 have hbw2 : Below w1.heap.size w1 w2 := by rw [← hw2]; exact (Below.refl _ _).alloc (Nat.le_refl _) _
 have HGw2 := Lib.hid (show w2.heap.size = w1.heap.size + 1 by rw [← hw2]; simp)
 have HXbw2 := Lib.hid (show BoxL w2 w1.heap.size [.int .i64 0, .int .i64 0, .string ByteArray.empty, .string ByteArray.empty, .string ⟨#[98, 108, 111, 99, 107]⟩, .string ByteArray.empty, .string ByteArray.empty, .int .i64 2, .int .i64 0, .slice none 0 0] from box_mk hw2)
 try simp only [hw2]
 have HSw2 := Lib.hid (show w1.heap.size ≤ w2.heap.size from hbw2.size)
 have HBw2 := Lib.hid (HBw1.out.trans (hbw2.mono HBw1.out.size))
 have rw2 := Lib.hid (HXrw1.out.kept (grown_none hbw2) (fun e => by cases e))
 clear hw2 hbw2
 try rw [show w1.heap.size + 1 = w2.heap.size from HGw2.out.symm]
 go_cut [2, 3, 4] (fun s2 s3 s4 wx => ∃ (g2 g3 g4 : Nat), s2 = .pointer (some ⟨g2, 0, none⟩) ∧ s3 = .pointer (some ⟨g3, 0, none⟩) ∧ s4 = .pointer (some ⟨g4, 0, none⟩) ∧ (w.heap.size < g2 ∧ w.heap.size < g3 ∧ w.heap.size < g4) ∧ (g2 ≠ g3 ∧ g2 ≠ g4 ∧ g3 ≠ g4) ∧ Hid (ExB w w.heap.size g2 g3 g4 blkC blkC blkC wx))
 case first =>
  refine wp_region_held_drew (S := fun w' => BoxL w' w1.heap.size blkC) (by kernel_rfl) HXbw2.out.drew (fun hS0 => ?_)
  obtain ⟨wd, hwd⟩ : ∃ z, World.drew w2 = z := ⟨_, rfl⟩
  rw [hwd] at hS0 ⊢
  have hb_ : Below w2.heap.size w2 wd := by rw [← hwd]; exact below_drewN_self _ _ 1
  clear hwd hS0
  have HSwd := Lib.hid (show w2.heap.size ≤ wd.heap.size from hb_.size)
  have HBwd := Lib.hid (HBw2.out.trans (hb_.mono HBw2.out.size))
  have rwd := Lib.hid (rw2.out.kept (grown_none hb_) (fun e => by cases e))
  have bwd := Lib.hid (HXbw2.out.kept (grown_none hb_) (fun e => by cases e))
  clear hb_
  refine wpAnyH_take (i := 0) (oi := ⟨some 6, _, _, _, _, _⟩) (v := .agg #[.int .i64 0, .int .i64 0, .string ByteArray.empty, .string ByteArray.empty, .string ⟨#[98, 108, 111, 99, 107]⟩, .string ByteArray.empty, .string ByteArray.empty, .int .i64 2, .int .i64 0, .slice none 0 0]) rfl (by kernel_rfl) (by kernel_rfl) (by kernel_rfl) (fun _ _ _ h => h) (Or.inl ⟨by rfl, fun w' hS => by (have u0_ := hS.1 0 _ rfl; have u1_ := hS.1 1 _ rfl; have u2_ := hS.1 2 _ rfl; have u3_ := hS.1 3 _ rfl; have u4_ := hS.1 4 _ rfl; have u5_ := hS.1 5 _ rfl; have u6_ := hS.1 6 _ rfl; have u7_ := hS.1 7 _ rfl; have u8_ := hS.1 8 _ rfl; have u9_ := hS.1 9 _ rfl; go_simp)⟩) bwd.out ?_
  try simp only [Act.put, List.setIfInBounds_toArray, List.set_cons_zero, List.set_cons_succ]
  refine wpAnyH_take (i := 1) (oi := ⟨some 7, _, _, _, _, _⟩) (v := .agg #[.int .i64 0, .int .i64 0, .string ByteArray.empty, .string ByteArray.empty, .string ⟨#[98, 108, 111, 99, 107]⟩, .string ByteArray.empty, .string ByteArray.empty, .int .i64 2, .int .i64 0, .slice none 0 0]) rfl (by kernel_rfl) (by kernel_rfl) (by kernel_rfl) (fun _ _ _ h => h) (Or.inl ⟨by rfl, fun w' hS => by (have u0_ := hS.1 0 _ rfl; have u1_ := hS.1 1 _ rfl; have u2_ := hS.1 2 _ rfl; have u3_ := hS.1 3 _ rfl; have u4_ := hS.1 4 _ rfl; have u5_ := hS.1 5 _ rfl; have u6_ := hS.1 6 _ rfl; have u7_ := hS.1 7 _ rfl; have u8_ := hS.1 8 _ rfl; have u9_ := hS.1 9 _ rfl; go_simp)⟩) bwd.out ?_
  try simp only [Act.put, List.setIfInBounds_toArray, List.set_cons_zero, List.set_cons_succ]
  refine wpAnyH_take (i := 2) (oi := ⟨some 8, _, _, _, _, _⟩) (v := .agg #[.int .i64 0, .int .i64 0, .string ByteArray.empty, .string ByteArray.empty, .string ⟨#[98, 108, 111, 99, 107]⟩, .string ByteArray.empty, .string ByteArray.empty, .int .i64 2, .int .i64 0, .slice none 0 0]) rfl (by kernel_rfl) (by kernel_rfl) (by kernel_rfl) (fun _ _ _ h => h) (Or.inl ⟨by rfl, fun w' hS => by (have u0_ := hS.1 0 _ rfl; have u1_ := hS.1 1 _ rfl; have u2_ := hS.1 2 _ rfl; have u3_ := hS.1 3 _ rfl; have u4_ := hS.1 4 _ rfl; have u5_ := hS.1 5 _ rfl; have u6_ := hS.1 6 _ rfl; have u7_ := hS.1 7 _ rfl; have u8_ := hS.1 8 _ rfl; have u9_ := hS.1 9 _ rfl; go_simp)⟩) bwd.out ?_
  try simp only [Act.put, List.setIfInBounds_toArray, List.set_cons_zero, List.set_cons_succ]
  refine wpAnyH_ready (rs := [3, 4, 5]) (by kernel_rfl) (by simp) ?_
  refine AllReadyH.cons (o := ⟨some 2, .alloc _, _, _, _, _⟩) rfl (fun K hK => ?_) (AllReadyH.cons (o := ⟨some 3, .alloc _, _, _, _, _⟩) rfl (fun K hK => ?_) (AllReadyH.cons (o := ⟨some 4, .alloc _, _, _, _, _⟩) rfl (fun K hK => ?_) (AllReadyH.nil)))
  ·
   go_simp
   obtain ⟨q3, hq3⟩ : ∃ z, wd.alloc zcells = z := ⟨_, rfl⟩
   have hb_ : Below wd.heap.size wd q3 := by rw [← hq3]; exact (Below.refl _ _).alloc (Nat.le_refl _) _
   have HXx2q3 := Lib.hid (show BoxL q3 wd.heap.size zero10 from box_mk hq3)
   rw [zc_eq, hq3]
   clear hq3
   have HSq3 := Lib.hid (show wd.heap.size ≤ q3.heap.size from hb_.size)
   have HBq3 := Lib.hid (HBwd.out.trans (hb_.mono HBwd.out.size))
   have rq3 := Lib.hid (rwd.out.kept (grown_none hb_) (fun e => by cases e))
   have bq3 := Lib.hid (bwd.out.kept (grown_none hb_) (fun e => by cases e))
   clear hb_
   refine hK.out _ _ bq3.out (fun _ => ?_)
   clear hK K
   try simp only [Act.put, List.setIfInBounds_toArray, List.set_cons_zero, List.set_cons_succ]
   have HGx2 := Lib.hid (show w1.heap.size < wd.heap.size ∧ wd.heap.size < q3.heap.size from ⟨by have := HBwd.out.size; have := HGw2.out; have := HSwd.out; have := (show wd.heap.size ≤ wd.heap.size from by exact Nat.le_refl _); omega, HXx2q3.out.2.2⟩)
   refine wpAnyH_ready (rs := [4, 5]) (by kernel_rfl) (by simp) ?_
   refine AllReadyH.cons (o := ⟨some 3, .alloc _, _, _, _, _⟩) rfl (fun K hK => ?_) (AllReadyH.cons (o := ⟨some 4, .alloc _, _, _, _, _⟩) rfl (fun K hK => ?_) (AllReadyH.nil))
   ·
    go_simp
    obtain ⟨q4, hq4⟩ : ∃ z, q3.alloc zcells = z := ⟨_, rfl⟩
    have hb_ : Below q3.heap.size q3 q4 := by rw [← hq4]; exact (Below.refl _ _).alloc (Nat.le_refl _) _
    have HXx3q4 := Lib.hid (show BoxL q4 q3.heap.size zero10 from box_mk hq4)
    rw [zc_eq, hq4]
    clear hq4
    have HSq4 := Lib.hid (show q3.heap.size ≤ q4.heap.size from hb_.size)
    have HBq4 := Lib.hid (HBq3.out.trans (hb_.mono HBq3.out.size))
    have rq4 := Lib.hid (rq3.out.kept (grown_none hb_) (fun e => by cases e))
    have bq4 := Lib.hid (bq3.out.kept (grown_none hb_) (fun e => by cases e))
    have x2q4 := Lib.hid (HXx2q3.out.kept (grown_none hb_) (fun e => by cases e))
    clear hb_
    refine hK.out _ _ bq4.out (fun _ => ?_)
    clear hK K
    try simp only [Act.put, List.setIfInBounds_toArray, List.set_cons_zero, List.set_cons_succ]
    have HGx3 := Lib.hid (show w1.heap.size < q3.heap.size ∧ q3.heap.size < q4.heap.size from ⟨by have := HBwd.out.size; have := HGw2.out; have := HSwd.out; have := (show wd.heap.size ≤ q3.heap.size from by have := HSq3.out; omega); omega, HXx3q4.out.2.2⟩)
    refine wpAnyH_ready (rs := [5]) (by kernel_rfl) (by simp) ?_
    refine AllReadyH.cons (o := ⟨some 4, .alloc _, _, _, _, _⟩) rfl (fun K hK => ?_) (AllReadyH.nil)
    go_simp
    obtain ⟨q5, hq5⟩ : ∃ z, q4.alloc zcells = z := ⟨_, rfl⟩
    have hb_ : Below q4.heap.size q4 q5 := by rw [← hq5]; exact (Below.refl _ _).alloc (Nat.le_refl _) _
    have HXx4q5 := Lib.hid (show BoxL q5 q4.heap.size zero10 from box_mk hq5)
    rw [zc_eq, hq5]
    clear hq5
    have HSq5 := Lib.hid (show q4.heap.size ≤ q5.heap.size from hb_.size)
    have HBq5 := Lib.hid (HBq4.out.trans (hb_.mono HBq4.out.size))
    have rq5 := Lib.hid (rq4.out.kept (grown_none hb_) (fun e => by cases e))
    have bq5 := Lib.hid (bq4.out.kept (grown_none hb_) (fun e => by cases e))
    have x2q5 := Lib.hid (x2q4.out.kept (grown_none hb_) (fun e => by cases e))
    have x3q5 := Lib.hid (HXx3q4.out.kept (grown_none hb_) (fun e => by cases e))
    clear hb_
    refine hK.out _ _ bq5.out (fun _ => ?_)
    clear hK K
    try simp only [Act.put, List.setIfInBounds_toArray, List.set_cons_zero, List.set_cons_succ]
    have HGx4 := Lib.hid (show w1.heap.size < q4.heap.size ∧ q4.heap.size < q5.heap.size from ⟨by have := HBwd.out.size; have := HGw2.out; have := HSwd.out; have := (show wd.heap.size ≤ q4.heap.size from by have := HSq3.out; have := HSq4.out; omega); omega, HXx4q5.out.2.2⟩)
    refine wpAnyH_ready (rs := [6]) (by kernel_rfl) (by simp) ?_
    refine AllReadyH.cons (o := ⟨none, .store _ _ _, _, _, _, _⟩) rfl (fun K hK => ?_) (AllReadyH.nil)
    obtain ⟨z0, z1, z2, z3, z4, z5, z6, z7, z8, z9, zf⟩ := zbox10 x2q5.out
    go_simp
    rw [fill_eq]
    obtain ⟨q6, hq6⟩ : ∃ z, fillB q5 wd.heap.size = z := ⟨_, rfl⟩
    have HXsq6 := Lib.hid (fill_box x2q5.out hq6)
    have rq6 := Lib.hid (fill_far rq5.out (by have := HGx2.out; have := HGx3.out; have := HGx4.out; have := HGw1.out; have := HGw2.out; have := HSq3.out; have := HSq4.out; have := HSq5.out; omega) hq6)
    have bq6 := Lib.hid (fill_far bq5.out (by have := HGx2.out; have := HGx3.out; have := HGx4.out; have := HGw1.out; have := HGw2.out; have := HSq3.out; have := HSq4.out; have := HSq5.out; omega) hq6)
    have x3q6 := Lib.hid (fill_far x3q5.out (by have := HGx2.out; have := HGx3.out; have := HGx4.out; have := HGw1.out; have := HGw2.out; have := HSq3.out; have := HSq4.out; have := HSq5.out; omega) hq6)
    have x4q6 := Lib.hid (fill_far HXx4q5.out (by have := HGx2.out; have := HGx3.out; have := HGx4.out; have := HGw1.out; have := HGw2.out; have := HSq3.out; have := HSq4.out; have := HSq5.out; omega) hq6)
    have HBq6 := Lib.hid (fill_below HBq5.out (by have := HGx2.out; have := HGw1.out; omega) hq6)
    rw [hq6]
    clear hq6 z0 z1 z2 z3 z4 z5 z6 z7 z8 z9 zf
    refine hK.out _ _ bq6.out (fun _ => ?_)
    clear hK K
    try simp only [Act.put, List.setIfInBounds_toArray, List.set_cons_zero, List.set_cons_succ]
    refine wpAnyH_ready (rs := [7]) (by kernel_rfl) (by simp) ?_
    refine AllReadyH.cons (o := ⟨none, .store _ _ _, _, _, _, _⟩) rfl (fun K hK => ?_) (AllReadyH.nil)
    obtain ⟨z0, z1, z2, z3, z4, z5, z6, z7, z8, z9, zf⟩ := zbox10 x3q6.out
    go_simp
    rw [fill_eq]
    obtain ⟨q7, hq7⟩ : ∃ z, fillB q6 q3.heap.size = z := ⟨_, rfl⟩
    have HXsq7 := Lib.hid (fill_box x3q6.out hq7)
    have rq7 := Lib.hid (fill_far rq6.out (by have := HGx2.out; have := HGx3.out; have := HGx4.out; have := HGw1.out; have := HGw2.out; have := HSq3.out; have := HSq4.out; have := HSq5.out; omega) hq7)
    have bq7 := Lib.hid (fill_far bq6.out (by have := HGx2.out; have := HGx3.out; have := HGx4.out; have := HGw1.out; have := HGw2.out; have := HSq3.out; have := HSq4.out; have := HSq5.out; omega) hq7)
    have x2q7 := Lib.hid (fill_far HXsq6.out (by have := HGx2.out; have := HGx3.out; have := HGx4.out; have := HGw1.out; have := HGw2.out; have := HSq3.out; have := HSq4.out; have := HSq5.out; omega) hq7)
    have x4q7 := Lib.hid (fill_far x4q6.out (by have := HGx2.out; have := HGx3.out; have := HGx4.out; have := HGw1.out; have := HGw2.out; have := HSq3.out; have := HSq4.out; have := HSq5.out; omega) hq7)
    have HBq7 := Lib.hid (fill_below HBq6.out (by have := HGx3.out; have := HGw1.out; omega) hq7)
    rw [hq7]
    clear hq7 z0 z1 z2 z3 z4 z5 z6 z7 z8 z9 zf
    refine hK.out _ _ bq7.out (fun _ => ?_)
    clear hK K
    try simp only [Act.put, List.setIfInBounds_toArray, List.set_cons_zero, List.set_cons_succ]
    refine wpAnyH_ready (rs := [8]) (by kernel_rfl) (by simp) ?_
    refine AllReadyH.cons (o := ⟨none, .store _ _ _, _, _, _, _⟩) rfl (fun K hK => ?_) (AllReadyH.nil)
    obtain ⟨z0, z1, z2, z3, z4, z5, z6, z7, z8, z9, zf⟩ := zbox10 x4q7.out
    go_simp
    rw [fill_eq]
    obtain ⟨q8, hq8⟩ : ∃ z, fillB q7 q4.heap.size = z := ⟨_, rfl⟩
    have HXsq8 := Lib.hid (fill_box x4q7.out hq8)
    have rq8 := Lib.hid (fill_far rq7.out (by have := HGx2.out; have := HGx3.out; have := HGx4.out; have := HGw1.out; have := HGw2.out; have := HSq3.out; have := HSq4.out; have := HSq5.out; omega) hq8)
    have bq8 := Lib.hid (fill_far bq7.out (by have := HGx2.out; have := HGx3.out; have := HGx4.out; have := HGw1.out; have := HGw2.out; have := HSq3.out; have := HSq4.out; have := HSq5.out; omega) hq8)
    have x2q8 := Lib.hid (fill_far x2q7.out (by have := HGx2.out; have := HGx3.out; have := HGx4.out; have := HGw1.out; have := HGw2.out; have := HSq3.out; have := HSq4.out; have := HSq5.out; omega) hq8)
    have x3q8 := Lib.hid (fill_far HXsq7.out (by have := HGx2.out; have := HGx3.out; have := HGx4.out; have := HGw1.out; have := HGw2.out; have := HSq3.out; have := HSq4.out; have := HSq5.out; omega) hq8)
    have HBq8 := Lib.hid (fill_below HBq7.out (by have := HGx4.out; have := HGw1.out; omega) hq8)
    rw [hq8]
    clear hq8 z0 z1 z2 z3 z4 z5 z6 z7 z8 z9 zf
    refine hK.out _ _ bq8.out (fun _ => ?_)
    clear hK K
    try simp only [Act.put, List.setIfInBounds_toArray, List.set_cons_zero, List.set_cons_succ]
    refine wpAnyH_done (by kernel_rfl) ?_ _
    go_wp2_with fail
    go_meet
    exact ⟨wd.heap.size, q3.heap.size, q4.heap.size, rfl, rfl, rfl, ⟨by have := HGx2.out; have := HGx3.out; have := HGx4.out; have := HGw1.out; have := HGw2.out; have := HSq3.out; have := HSq4.out; have := HSq5.out; omega, by have := HGx2.out; have := HGx3.out; have := HGx4.out; have := HGw1.out; have := HGw2.out; have := HSq3.out; have := HSq4.out; have := HSq5.out; omega, by have := HGx2.out; have := HGx3.out; have := HGx4.out; have := HGw1.out; have := HGw2.out; have := HSq3.out; have := HSq4.out; have := HSq5.out; omega⟩, ⟨by have := HGx2.out; have := HGx3.out; have := HGx4.out; have := HGw1.out; have := HGw2.out; have := HSq3.out; have := HSq4.out; have := HSq5.out; omega, by have := HGx2.out; have := HGx3.out; have := HGx4.out; have := HGw1.out; have := HGw2.out; have := HSq3.out; have := HSq4.out; have := HSq5.out; omega, by have := HGx2.out; have := HGx3.out; have := HGx4.out; have := HGw1.out; have := HGw2.out; have := HSq3.out; have := HSq4.out; have := HSq5.out; omega⟩, Lib.hid ⟨HBq8.out, rq8.out, x2q8.out, x3q8.out, HXsq8.out⟩⟩
   ·
    go_simp
    obtain ⟨q9, hq9⟩ : ∃ z, q3.alloc zcells = z := ⟨_, rfl⟩
    have hb_ : Below q3.heap.size q3 q9 := by rw [← hq9]; exact (Below.refl _ _).alloc (Nat.le_refl _) _
    have HXx4q9 := Lib.hid (show BoxL q9 q3.heap.size zero10 from box_mk hq9)
    rw [zc_eq, hq9]
    clear hq9
    have HSq9 := Lib.hid (show q3.heap.size ≤ q9.heap.size from hb_.size)
    have HBq9 := Lib.hid (HBq3.out.trans (hb_.mono HBq3.out.size))
    have rq9 := Lib.hid (rq3.out.kept (grown_none hb_) (fun e => by cases e))
    have bq9 := Lib.hid (bq3.out.kept (grown_none hb_) (fun e => by cases e))
    have x2q9 := Lib.hid (HXx2q3.out.kept (grown_none hb_) (fun e => by cases e))
    clear hb_
    refine hK.out _ _ bq9.out (fun _ => ?_)
    clear hK K
    try simp only [Act.put, List.setIfInBounds_toArray, List.set_cons_zero, List.set_cons_succ]
    have HGx4 := Lib.hid (show w1.heap.size < q3.heap.size ∧ q3.heap.size < q9.heap.size from ⟨by have := HBwd.out.size; have := HGw2.out; have := HSwd.out; have := (show wd.heap.size ≤ q3.heap.size from by have := HSq3.out; omega); omega, HXx4q9.out.2.2⟩)
    refine wpAnyH_ready (rs := [4]) (by kernel_rfl) (by simp) ?_
    refine AllReadyH.cons (o := ⟨some 3, .alloc _, _, _, _, _⟩) rfl (fun K hK => ?_) (AllReadyH.nil)
    go_simp
    obtain ⟨q10, hq10⟩ : ∃ z, q9.alloc zcells = z := ⟨_, rfl⟩
    have hb_ : Below q9.heap.size q9 q10 := by rw [← hq10]; exact (Below.refl _ _).alloc (Nat.le_refl _) _
    have HXx3q10 := Lib.hid (show BoxL q10 q9.heap.size zero10 from box_mk hq10)
    rw [zc_eq, hq10]
    clear hq10
    have HSq10 := Lib.hid (show q9.heap.size ≤ q10.heap.size from hb_.size)
    have HBq10 := Lib.hid (HBq9.out.trans (hb_.mono HBq9.out.size))
    have rq10 := Lib.hid (rq9.out.kept (grown_none hb_) (fun e => by cases e))
    have bq10 := Lib.hid (bq9.out.kept (grown_none hb_) (fun e => by cases e))
    have x2q10 := Lib.hid (x2q9.out.kept (grown_none hb_) (fun e => by cases e))
    have x4q10 := Lib.hid (HXx4q9.out.kept (grown_none hb_) (fun e => by cases e))
    clear hb_
    refine hK.out _ _ bq10.out (fun _ => ?_)
    clear hK K
    try simp only [Act.put, List.setIfInBounds_toArray, List.set_cons_zero, List.set_cons_succ]
    have HGx3 := Lib.hid (show w1.heap.size < q9.heap.size ∧ q9.heap.size < q10.heap.size from ⟨by have := HBwd.out.size; have := HGw2.out; have := HSwd.out; have := (show wd.heap.size ≤ q9.heap.size from by have := HSq3.out; have := HSq9.out; omega); omega, HXx3q10.out.2.2⟩)
    refine wpAnyH_ready (rs := [6]) (by kernel_rfl) (by simp) ?_
    refine AllReadyH.cons (o := ⟨none, .store _ _ _, _, _, _, _⟩) rfl (fun K hK => ?_) (AllReadyH.nil)
    obtain ⟨z0, z1, z2, z3, z4, z5, z6, z7, z8, z9, zf⟩ := zbox10 x2q10.out
    go_simp
    rw [fill_eq]
    obtain ⟨q11, hq11⟩ : ∃ z, fillB q10 wd.heap.size = z := ⟨_, rfl⟩
    have HXsq11 := Lib.hid (fill_box x2q10.out hq11)
    have rq11 := Lib.hid (fill_far rq10.out (by have := HGx2.out; have := HGx3.out; have := HGx4.out; have := HGw1.out; have := HGw2.out; have := HSq3.out; have := HSq9.out; have := HSq10.out; omega) hq11)
    have bq11 := Lib.hid (fill_far bq10.out (by have := HGx2.out; have := HGx3.out; have := HGx4.out; have := HGw1.out; have := HGw2.out; have := HSq3.out; have := HSq9.out; have := HSq10.out; omega) hq11)
    have x4q11 := Lib.hid (fill_far x4q10.out (by have := HGx2.out; have := HGx3.out; have := HGx4.out; have := HGw1.out; have := HGw2.out; have := HSq3.out; have := HSq9.out; have := HSq10.out; omega) hq11)
    have x3q11 := Lib.hid (fill_far HXx3q10.out (by have := HGx2.out; have := HGx3.out; have := HGx4.out; have := HGw1.out; have := HGw2.out; have := HSq3.out; have := HSq9.out; have := HSq10.out; omega) hq11)
    have HBq11 := Lib.hid (fill_below HBq10.out (by have := HGx2.out; have := HGw1.out; omega) hq11)
    rw [hq11]
    clear hq11 z0 z1 z2 z3 z4 z5 z6 z7 z8 z9 zf
    refine hK.out _ _ bq11.out (fun _ => ?_)
    clear hK K
    try simp only [Act.put, List.setIfInBounds_toArray, List.set_cons_zero, List.set_cons_succ]
    refine wpAnyH_ready (rs := [7]) (by kernel_rfl) (by simp) ?_
    refine AllReadyH.cons (o := ⟨none, .store _ _ _, _, _, _, _⟩) rfl (fun K hK => ?_) (AllReadyH.nil)
    obtain ⟨z0, z1, z2, z3, z4, z5, z6, z7, z8, z9, zf⟩ := zbox10 x3q11.out
    go_simp
    rw [fill_eq]
    obtain ⟨q12, hq12⟩ : ∃ z, fillB q11 q9.heap.size = z := ⟨_, rfl⟩
    have HXsq12 := Lib.hid (fill_box x3q11.out hq12)
    have rq12 := Lib.hid (fill_far rq11.out (by have := HGx2.out; have := HGx3.out; have := HGx4.out; have := HGw1.out; have := HGw2.out; have := HSq3.out; have := HSq9.out; have := HSq10.out; omega) hq12)
    have bq12 := Lib.hid (fill_far bq11.out (by have := HGx2.out; have := HGx3.out; have := HGx4.out; have := HGw1.out; have := HGw2.out; have := HSq3.out; have := HSq9.out; have := HSq10.out; omega) hq12)
    have x2q12 := Lib.hid (fill_far HXsq11.out (by have := HGx2.out; have := HGx3.out; have := HGx4.out; have := HGw1.out; have := HGw2.out; have := HSq3.out; have := HSq9.out; have := HSq10.out; omega) hq12)
    have x4q12 := Lib.hid (fill_far x4q11.out (by have := HGx2.out; have := HGx3.out; have := HGx4.out; have := HGw1.out; have := HGw2.out; have := HSq3.out; have := HSq9.out; have := HSq10.out; omega) hq12)
    have HBq12 := Lib.hid (fill_below HBq11.out (by have := HGx3.out; have := HGw1.out; omega) hq12)
    rw [hq12]
    clear hq12 z0 z1 z2 z3 z4 z5 z6 z7 z8 z9 zf
    refine hK.out _ _ bq12.out (fun _ => ?_)
    clear hK K
    try simp only [Act.put, List.setIfInBounds_toArray, List.set_cons_zero, List.set_cons_succ]
    refine wpAnyH_ready (rs := [8]) (by kernel_rfl) (by simp) ?_
    refine AllReadyH.cons (o := ⟨none, .store _ _ _, _, _, _, _⟩) rfl (fun K hK => ?_) (AllReadyH.nil)
    obtain ⟨z0, z1, z2, z3, z4, z5, z6, z7, z8, z9, zf⟩ := zbox10 x4q12.out
    go_simp
    rw [fill_eq]
    obtain ⟨q13, hq13⟩ : ∃ z, fillB q12 q3.heap.size = z := ⟨_, rfl⟩
    have HXsq13 := Lib.hid (fill_box x4q12.out hq13)
    have rq13 := Lib.hid (fill_far rq12.out (by have := HGx2.out; have := HGx3.out; have := HGx4.out; have := HGw1.out; have := HGw2.out; have := HSq3.out; have := HSq9.out; have := HSq10.out; omega) hq13)
    have bq13 := Lib.hid (fill_far bq12.out (by have := HGx2.out; have := HGx3.out; have := HGx4.out; have := HGw1.out; have := HGw2.out; have := HSq3.out; have := HSq9.out; have := HSq10.out; omega) hq13)
    have x2q13 := Lib.hid (fill_far x2q12.out (by have := HGx2.out; have := HGx3.out; have := HGx4.out; have := HGw1.out; have := HGw2.out; have := HSq3.out; have := HSq9.out; have := HSq10.out; omega) hq13)
    have x3q13 := Lib.hid (fill_far HXsq12.out (by have := HGx2.out; have := HGx3.out; have := HGx4.out; have := HGw1.out; have := HGw2.out; have := HSq3.out; have := HSq9.out; have := HSq10.out; omega) hq13)
    have HBq13 := Lib.hid (fill_below HBq12.out (by have := HGx4.out; have := HGw1.out; omega) hq13)
    rw [hq13]
    clear hq13 z0 z1 z2 z3 z4 z5 z6 z7 z8 z9 zf
    refine hK.out _ _ bq13.out (fun _ => ?_)
    clear hK K
    try simp only [Act.put, List.setIfInBounds_toArray, List.set_cons_zero, List.set_cons_succ]
    refine wpAnyH_done (by kernel_rfl) ?_ _
    go_wp2_with fail
    go_meet
    exact ⟨wd.heap.size, q9.heap.size, q3.heap.size, rfl, rfl, rfl, ⟨by have := HGx2.out; have := HGx3.out; have := HGx4.out; have := HGw1.out; have := HGw2.out; have := HSq3.out; have := HSq9.out; have := HSq10.out; omega, by have := HGx2.out; have := HGx3.out; have := HGx4.out; have := HGw1.out; have := HGw2.out; have := HSq3.out; have := HSq9.out; have := HSq10.out; omega, by have := HGx2.out; have := HGx3.out; have := HGx4.out; have := HGw1.out; have := HGw2.out; have := HSq3.out; have := HSq9.out; have := HSq10.out; omega⟩, ⟨by have := HGx2.out; have := HGx3.out; have := HGx4.out; have := HGw1.out; have := HGw2.out; have := HSq3.out; have := HSq9.out; have := HSq10.out; omega, by have := HGx2.out; have := HGx3.out; have := HGx4.out; have := HGw1.out; have := HGw2.out; have := HSq3.out; have := HSq9.out; have := HSq10.out; omega, by have := HGx2.out; have := HGx3.out; have := HGx4.out; have := HGw1.out; have := HGw2.out; have := HSq3.out; have := HSq9.out; have := HSq10.out; omega⟩, Lib.hid ⟨HBq13.out, rq13.out, x2q13.out, x3q13.out, HXsq13.out⟩⟩
  ·
   go_simp
   obtain ⟨q14, hq14⟩ : ∃ z, wd.alloc zcells = z := ⟨_, rfl⟩
   have hb_ : Below wd.heap.size wd q14 := by rw [← hq14]; exact (Below.refl _ _).alloc (Nat.le_refl _) _
   have HXx3q14 := Lib.hid (show BoxL q14 wd.heap.size zero10 from box_mk hq14)
   rw [zc_eq, hq14]
   clear hq14
   have HSq14 := Lib.hid (show wd.heap.size ≤ q14.heap.size from hb_.size)
   have HBq14 := Lib.hid (HBwd.out.trans (hb_.mono HBwd.out.size))
   have rq14 := Lib.hid (rwd.out.kept (grown_none hb_) (fun e => by cases e))
   have bq14 := Lib.hid (bwd.out.kept (grown_none hb_) (fun e => by cases e))
   clear hb_
   refine hK.out _ _ bq14.out (fun _ => ?_)
   clear hK K
   try simp only [Act.put, List.setIfInBounds_toArray, List.set_cons_zero, List.set_cons_succ]
   have HGx3 := Lib.hid (show w1.heap.size < wd.heap.size ∧ wd.heap.size < q14.heap.size from ⟨by have := HBwd.out.size; have := HGw2.out; have := HSwd.out; have := (show wd.heap.size ≤ wd.heap.size from by exact Nat.le_refl _); omega, HXx3q14.out.2.2⟩)
   refine wpAnyH_ready (rs := [3, 5]) (by kernel_rfl) (by simp) ?_
   refine AllReadyH.cons (o := ⟨some 2, .alloc _, _, _, _, _⟩) rfl (fun K hK => ?_) (AllReadyH.cons (o := ⟨some 4, .alloc _, _, _, _, _⟩) rfl (fun K hK => ?_) (AllReadyH.nil))
   ·
    go_simp
    obtain ⟨q15, hq15⟩ : ∃ z, q14.alloc zcells = z := ⟨_, rfl⟩
    have hb_ : Below q14.heap.size q14 q15 := by rw [← hq15]; exact (Below.refl _ _).alloc (Nat.le_refl _) _
    have HXx2q15 := Lib.hid (show BoxL q15 q14.heap.size zero10 from box_mk hq15)
    rw [zc_eq, hq15]
    clear hq15
    have HSq15 := Lib.hid (show q14.heap.size ≤ q15.heap.size from hb_.size)
    have HBq15 := Lib.hid (HBq14.out.trans (hb_.mono HBq14.out.size))
    have rq15 := Lib.hid (rq14.out.kept (grown_none hb_) (fun e => by cases e))
    have bq15 := Lib.hid (bq14.out.kept (grown_none hb_) (fun e => by cases e))
    have x3q15 := Lib.hid (HXx3q14.out.kept (grown_none hb_) (fun e => by cases e))
    clear hb_
    refine hK.out _ _ bq15.out (fun _ => ?_)
    clear hK K
    try simp only [Act.put, List.setIfInBounds_toArray, List.set_cons_zero, List.set_cons_succ]
    have HGx2 := Lib.hid (show w1.heap.size < q14.heap.size ∧ q14.heap.size < q15.heap.size from ⟨by have := HBwd.out.size; have := HGw2.out; have := HSwd.out; have := (show wd.heap.size ≤ q14.heap.size from by have := HSq14.out; omega); omega, HXx2q15.out.2.2⟩)
    refine wpAnyH_ready (rs := [5]) (by kernel_rfl) (by simp) ?_
    refine AllReadyH.cons (o := ⟨some 4, .alloc _, _, _, _, _⟩) rfl (fun K hK => ?_) (AllReadyH.nil)
    go_simp
    obtain ⟨q16, hq16⟩ : ∃ z, q15.alloc zcells = z := ⟨_, rfl⟩
    have hb_ : Below q15.heap.size q15 q16 := by rw [← hq16]; exact (Below.refl _ _).alloc (Nat.le_refl _) _
    have HXx4q16 := Lib.hid (show BoxL q16 q15.heap.size zero10 from box_mk hq16)
    rw [zc_eq, hq16]
    clear hq16
    have HSq16 := Lib.hid (show q15.heap.size ≤ q16.heap.size from hb_.size)
    have HBq16 := Lib.hid (HBq15.out.trans (hb_.mono HBq15.out.size))
    have rq16 := Lib.hid (rq15.out.kept (grown_none hb_) (fun e => by cases e))
    have bq16 := Lib.hid (bq15.out.kept (grown_none hb_) (fun e => by cases e))
    have x3q16 := Lib.hid (x3q15.out.kept (grown_none hb_) (fun e => by cases e))
    have x2q16 := Lib.hid (HXx2q15.out.kept (grown_none hb_) (fun e => by cases e))
    clear hb_
    refine hK.out _ _ bq16.out (fun _ => ?_)
    clear hK K
    try simp only [Act.put, List.setIfInBounds_toArray, List.set_cons_zero, List.set_cons_succ]
    have HGx4 := Lib.hid (show w1.heap.size < q15.heap.size ∧ q15.heap.size < q16.heap.size from ⟨by have := HBwd.out.size; have := HGw2.out; have := HSwd.out; have := (show wd.heap.size ≤ q15.heap.size from by have := HSq14.out; have := HSq15.out; omega); omega, HXx4q16.out.2.2⟩)
    refine wpAnyH_ready (rs := [6]) (by kernel_rfl) (by simp) ?_
    refine AllReadyH.cons (o := ⟨none, .store _ _ _, _, _, _, _⟩) rfl (fun K hK => ?_) (AllReadyH.nil)
    obtain ⟨z0, z1, z2, z3, z4, z5, z6, z7, z8, z9, zf⟩ := zbox10 x2q16.out
    go_simp
    rw [fill_eq]
    obtain ⟨q17, hq17⟩ : ∃ z, fillB q16 q14.heap.size = z := ⟨_, rfl⟩
    have HXsq17 := Lib.hid (fill_box x2q16.out hq17)
    have rq17 := Lib.hid (fill_far rq16.out (by have := HGx2.out; have := HGx3.out; have := HGx4.out; have := HGw1.out; have := HGw2.out; have := HSq14.out; have := HSq15.out; have := HSq16.out; omega) hq17)
    have bq17 := Lib.hid (fill_far bq16.out (by have := HGx2.out; have := HGx3.out; have := HGx4.out; have := HGw1.out; have := HGw2.out; have := HSq14.out; have := HSq15.out; have := HSq16.out; omega) hq17)
    have x3q17 := Lib.hid (fill_far x3q16.out (by have := HGx2.out; have := HGx3.out; have := HGx4.out; have := HGw1.out; have := HGw2.out; have := HSq14.out; have := HSq15.out; have := HSq16.out; omega) hq17)
    have x4q17 := Lib.hid (fill_far HXx4q16.out (by have := HGx2.out; have := HGx3.out; have := HGx4.out; have := HGw1.out; have := HGw2.out; have := HSq14.out; have := HSq15.out; have := HSq16.out; omega) hq17)
    have HBq17 := Lib.hid (fill_below HBq16.out (by have := HGx2.out; have := HGw1.out; omega) hq17)
    rw [hq17]
    clear hq17 z0 z1 z2 z3 z4 z5 z6 z7 z8 z9 zf
    refine hK.out _ _ bq17.out (fun _ => ?_)
    clear hK K
    try simp only [Act.put, List.setIfInBounds_toArray, List.set_cons_zero, List.set_cons_succ]
    refine wpAnyH_ready (rs := [7]) (by kernel_rfl) (by simp) ?_
    refine AllReadyH.cons (o := ⟨none, .store _ _ _, _, _, _, _⟩) rfl (fun K hK => ?_) (AllReadyH.nil)
    obtain ⟨z0, z1, z2, z3, z4, z5, z6, z7, z8, z9, zf⟩ := zbox10 x3q17.out
    go_simp
    rw [fill_eq]
    obtain ⟨q18, hq18⟩ : ∃ z, fillB q17 wd.heap.size = z := ⟨_, rfl⟩
    have HXsq18 := Lib.hid (fill_box x3q17.out hq18)
    have rq18 := Lib.hid (fill_far rq17.out (by have := HGx2.out; have := HGx3.out; have := HGx4.out; have := HGw1.out; have := HGw2.out; have := HSq14.out; have := HSq15.out; have := HSq16.out; omega) hq18)
    have bq18 := Lib.hid (fill_far bq17.out (by have := HGx2.out; have := HGx3.out; have := HGx4.out; have := HGw1.out; have := HGw2.out; have := HSq14.out; have := HSq15.out; have := HSq16.out; omega) hq18)
    have x2q18 := Lib.hid (fill_far HXsq17.out (by have := HGx2.out; have := HGx3.out; have := HGx4.out; have := HGw1.out; have := HGw2.out; have := HSq14.out; have := HSq15.out; have := HSq16.out; omega) hq18)
    have x4q18 := Lib.hid (fill_far x4q17.out (by have := HGx2.out; have := HGx3.out; have := HGx4.out; have := HGw1.out; have := HGw2.out; have := HSq14.out; have := HSq15.out; have := HSq16.out; omega) hq18)
    have HBq18 := Lib.hid (fill_below HBq17.out (by have := HGx3.out; have := HGw1.out; omega) hq18)
    rw [hq18]
    clear hq18 z0 z1 z2 z3 z4 z5 z6 z7 z8 z9 zf
    refine hK.out _ _ bq18.out (fun _ => ?_)
    clear hK K
    try simp only [Act.put, List.setIfInBounds_toArray, List.set_cons_zero, List.set_cons_succ]
    refine wpAnyH_ready (rs := [8]) (by kernel_rfl) (by simp) ?_
    refine AllReadyH.cons (o := ⟨none, .store _ _ _, _, _, _, _⟩) rfl (fun K hK => ?_) (AllReadyH.nil)
    obtain ⟨z0, z1, z2, z3, z4, z5, z6, z7, z8, z9, zf⟩ := zbox10 x4q18.out
    go_simp
    rw [fill_eq]
    obtain ⟨q19, hq19⟩ : ∃ z, fillB q18 q15.heap.size = z := ⟨_, rfl⟩
    have HXsq19 := Lib.hid (fill_box x4q18.out hq19)
    have rq19 := Lib.hid (fill_far rq18.out (by have := HGx2.out; have := HGx3.out; have := HGx4.out; have := HGw1.out; have := HGw2.out; have := HSq14.out; have := HSq15.out; have := HSq16.out; omega) hq19)
    have bq19 := Lib.hid (fill_far bq18.out (by have := HGx2.out; have := HGx3.out; have := HGx4.out; have := HGw1.out; have := HGw2.out; have := HSq14.out; have := HSq15.out; have := HSq16.out; omega) hq19)
    have x3q19 := Lib.hid (fill_far HXsq18.out (by have := HGx2.out; have := HGx3.out; have := HGx4.out; have := HGw1.out; have := HGw2.out; have := HSq14.out; have := HSq15.out; have := HSq16.out; omega) hq19)
    have x2q19 := Lib.hid (fill_far x2q18.out (by have := HGx2.out; have := HGx3.out; have := HGx4.out; have := HGw1.out; have := HGw2.out; have := HSq14.out; have := HSq15.out; have := HSq16.out; omega) hq19)
    have HBq19 := Lib.hid (fill_below HBq18.out (by have := HGx4.out; have := HGw1.out; omega) hq19)
    rw [hq19]
    clear hq19 z0 z1 z2 z3 z4 z5 z6 z7 z8 z9 zf
    refine hK.out _ _ bq19.out (fun _ => ?_)
    clear hK K
    try simp only [Act.put, List.setIfInBounds_toArray, List.set_cons_zero, List.set_cons_succ]
    refine wpAnyH_done (by kernel_rfl) ?_ _
    go_wp2_with fail
    go_meet
    exact ⟨q14.heap.size, wd.heap.size, q15.heap.size, rfl, rfl, rfl, ⟨by have := HGx2.out; have := HGx3.out; have := HGx4.out; have := HGw1.out; have := HGw2.out; have := HSq14.out; have := HSq15.out; have := HSq16.out; omega, by have := HGx2.out; have := HGx3.out; have := HGx4.out; have := HGw1.out; have := HGw2.out; have := HSq14.out; have := HSq15.out; have := HSq16.out; omega, by have := HGx2.out; have := HGx3.out; have := HGx4.out; have := HGw1.out; have := HGw2.out; have := HSq14.out; have := HSq15.out; have := HSq16.out; omega⟩, ⟨by have := HGx2.out; have := HGx3.out; have := HGx4.out; have := HGw1.out; have := HGw2.out; have := HSq14.out; have := HSq15.out; have := HSq16.out; omega, by have := HGx2.out; have := HGx3.out; have := HGx4.out; have := HGw1.out; have := HGw2.out; have := HSq14.out; have := HSq15.out; have := HSq16.out; omega, by have := HGx2.out; have := HGx3.out; have := HGx4.out; have := HGw1.out; have := HGw2.out; have := HSq14.out; have := HSq15.out; have := HSq16.out; omega⟩, Lib.hid ⟨HBq19.out, rq19.out, x2q19.out, x3q19.out, HXsq19.out⟩⟩
   ·
    go_simp
    obtain ⟨q20, hq20⟩ : ∃ z, q14.alloc zcells = z := ⟨_, rfl⟩
    have hb_ : Below q14.heap.size q14 q20 := by rw [← hq20]; exact (Below.refl _ _).alloc (Nat.le_refl _) _
    have HXx4q20 := Lib.hid (show BoxL q20 q14.heap.size zero10 from box_mk hq20)
    rw [zc_eq, hq20]
    clear hq20
    have HSq20 := Lib.hid (show q14.heap.size ≤ q20.heap.size from hb_.size)
    have HBq20 := Lib.hid (HBq14.out.trans (hb_.mono HBq14.out.size))
    have rq20 := Lib.hid (rq14.out.kept (grown_none hb_) (fun e => by cases e))
    have bq20 := Lib.hid (bq14.out.kept (grown_none hb_) (fun e => by cases e))
    have x3q20 := Lib.hid (HXx3q14.out.kept (grown_none hb_) (fun e => by cases e))
    clear hb_
    refine hK.out _ _ bq20.out (fun _ => ?_)
    clear hK K
    try simp only [Act.put, List.setIfInBounds_toArray, List.set_cons_zero, List.set_cons_succ]
    have HGx4 := Lib.hid (show w1.heap.size < q14.heap.size ∧ q14.heap.size < q20.heap.size from ⟨by have := HBwd.out.size; have := HGw2.out; have := HSwd.out; have := (show wd.heap.size ≤ q14.heap.size from by have := HSq14.out; omega); omega, HXx4q20.out.2.2⟩)
    refine wpAnyH_ready (rs := [3]) (by kernel_rfl) (by simp) ?_
    refine AllReadyH.cons (o := ⟨some 2, .alloc _, _, _, _, _⟩) rfl (fun K hK => ?_) (AllReadyH.nil)
    go_simp
    obtain ⟨q21, hq21⟩ : ∃ z, q20.alloc zcells = z := ⟨_, rfl⟩
    have hb_ : Below q20.heap.size q20 q21 := by rw [← hq21]; exact (Below.refl _ _).alloc (Nat.le_refl _) _
    have HXx2q21 := Lib.hid (show BoxL q21 q20.heap.size zero10 from box_mk hq21)
    rw [zc_eq, hq21]
    clear hq21
    have HSq21 := Lib.hid (show q20.heap.size ≤ q21.heap.size from hb_.size)
    have HBq21 := Lib.hid (HBq20.out.trans (hb_.mono HBq20.out.size))
    have rq21 := Lib.hid (rq20.out.kept (grown_none hb_) (fun e => by cases e))
    have bq21 := Lib.hid (bq20.out.kept (grown_none hb_) (fun e => by cases e))
    have x3q21 := Lib.hid (x3q20.out.kept (grown_none hb_) (fun e => by cases e))
    have x4q21 := Lib.hid (HXx4q20.out.kept (grown_none hb_) (fun e => by cases e))
    clear hb_
    refine hK.out _ _ bq21.out (fun _ => ?_)
    clear hK K
    try simp only [Act.put, List.setIfInBounds_toArray, List.set_cons_zero, List.set_cons_succ]
    have HGx2 := Lib.hid (show w1.heap.size < q20.heap.size ∧ q20.heap.size < q21.heap.size from ⟨by have := HBwd.out.size; have := HGw2.out; have := HSwd.out; have := (show wd.heap.size ≤ q20.heap.size from by have := HSq14.out; have := HSq20.out; omega); omega, HXx2q21.out.2.2⟩)
    refine wpAnyH_ready (rs := [6]) (by kernel_rfl) (by simp) ?_
    refine AllReadyH.cons (o := ⟨none, .store _ _ _, _, _, _, _⟩) rfl (fun K hK => ?_) (AllReadyH.nil)
    obtain ⟨z0, z1, z2, z3, z4, z5, z6, z7, z8, z9, zf⟩ := zbox10 HXx2q21.out
    go_simp
    rw [fill_eq]
    obtain ⟨q22, hq22⟩ : ∃ z, fillB q21 q20.heap.size = z := ⟨_, rfl⟩
    have HXsq22 := Lib.hid (fill_box HXx2q21.out hq22)
    have rq22 := Lib.hid (fill_far rq21.out (by have := HGx2.out; have := HGx3.out; have := HGx4.out; have := HGw1.out; have := HGw2.out; have := HSq14.out; have := HSq20.out; have := HSq21.out; omega) hq22)
    have bq22 := Lib.hid (fill_far bq21.out (by have := HGx2.out; have := HGx3.out; have := HGx4.out; have := HGw1.out; have := HGw2.out; have := HSq14.out; have := HSq20.out; have := HSq21.out; omega) hq22)
    have x3q22 := Lib.hid (fill_far x3q21.out (by have := HGx2.out; have := HGx3.out; have := HGx4.out; have := HGw1.out; have := HGw2.out; have := HSq14.out; have := HSq20.out; have := HSq21.out; omega) hq22)
    have x4q22 := Lib.hid (fill_far x4q21.out (by have := HGx2.out; have := HGx3.out; have := HGx4.out; have := HGw1.out; have := HGw2.out; have := HSq14.out; have := HSq20.out; have := HSq21.out; omega) hq22)
    have HBq22 := Lib.hid (fill_below HBq21.out (by have := HGx2.out; have := HGw1.out; omega) hq22)
    rw [hq22]
    clear hq22 z0 z1 z2 z3 z4 z5 z6 z7 z8 z9 zf
    refine hK.out _ _ bq22.out (fun _ => ?_)
    clear hK K
    try simp only [Act.put, List.setIfInBounds_toArray, List.set_cons_zero, List.set_cons_succ]
    refine wpAnyH_ready (rs := [7]) (by kernel_rfl) (by simp) ?_
    refine AllReadyH.cons (o := ⟨none, .store _ _ _, _, _, _, _⟩) rfl (fun K hK => ?_) (AllReadyH.nil)
    obtain ⟨z0, z1, z2, z3, z4, z5, z6, z7, z8, z9, zf⟩ := zbox10 x3q22.out
    go_simp
    rw [fill_eq]
    obtain ⟨q23, hq23⟩ : ∃ z, fillB q22 wd.heap.size = z := ⟨_, rfl⟩
    have HXsq23 := Lib.hid (fill_box x3q22.out hq23)
    have rq23 := Lib.hid (fill_far rq22.out (by have := HGx2.out; have := HGx3.out; have := HGx4.out; have := HGw1.out; have := HGw2.out; have := HSq14.out; have := HSq20.out; have := HSq21.out; omega) hq23)
    have bq23 := Lib.hid (fill_far bq22.out (by have := HGx2.out; have := HGx3.out; have := HGx4.out; have := HGw1.out; have := HGw2.out; have := HSq14.out; have := HSq20.out; have := HSq21.out; omega) hq23)
    have x4q23 := Lib.hid (fill_far x4q22.out (by have := HGx2.out; have := HGx3.out; have := HGx4.out; have := HGw1.out; have := HGw2.out; have := HSq14.out; have := HSq20.out; have := HSq21.out; omega) hq23)
    have x2q23 := Lib.hid (fill_far HXsq22.out (by have := HGx2.out; have := HGx3.out; have := HGx4.out; have := HGw1.out; have := HGw2.out; have := HSq14.out; have := HSq20.out; have := HSq21.out; omega) hq23)
    have HBq23 := Lib.hid (fill_below HBq22.out (by have := HGx3.out; have := HGw1.out; omega) hq23)
    rw [hq23]
    clear hq23 z0 z1 z2 z3 z4 z5 z6 z7 z8 z9 zf
    refine hK.out _ _ bq23.out (fun _ => ?_)
    clear hK K
    try simp only [Act.put, List.setIfInBounds_toArray, List.set_cons_zero, List.set_cons_succ]
    refine wpAnyH_ready (rs := [8]) (by kernel_rfl) (by simp) ?_
    refine AllReadyH.cons (o := ⟨none, .store _ _ _, _, _, _, _⟩) rfl (fun K hK => ?_) (AllReadyH.nil)
    obtain ⟨z0, z1, z2, z3, z4, z5, z6, z7, z8, z9, zf⟩ := zbox10 x4q23.out
    go_simp
    rw [fill_eq]
    obtain ⟨q24, hq24⟩ : ∃ z, fillB q23 q14.heap.size = z := ⟨_, rfl⟩
    have HXsq24 := Lib.hid (fill_box x4q23.out hq24)
    have rq24 := Lib.hid (fill_far rq23.out (by have := HGx2.out; have := HGx3.out; have := HGx4.out; have := HGw1.out; have := HGw2.out; have := HSq14.out; have := HSq20.out; have := HSq21.out; omega) hq24)
    have bq24 := Lib.hid (fill_far bq23.out (by have := HGx2.out; have := HGx3.out; have := HGx4.out; have := HGw1.out; have := HGw2.out; have := HSq14.out; have := HSq20.out; have := HSq21.out; omega) hq24)
    have x3q24 := Lib.hid (fill_far HXsq23.out (by have := HGx2.out; have := HGx3.out; have := HGx4.out; have := HGw1.out; have := HGw2.out; have := HSq14.out; have := HSq20.out; have := HSq21.out; omega) hq24)
    have x2q24 := Lib.hid (fill_far x2q23.out (by have := HGx2.out; have := HGx3.out; have := HGx4.out; have := HGw1.out; have := HGw2.out; have := HSq14.out; have := HSq20.out; have := HSq21.out; omega) hq24)
    have HBq24 := Lib.hid (fill_below HBq23.out (by have := HGx4.out; have := HGw1.out; omega) hq24)
    rw [hq24]
    clear hq24 z0 z1 z2 z3 z4 z5 z6 z7 z8 z9 zf
    refine hK.out _ _ bq24.out (fun _ => ?_)
    clear hK K
    try simp only [Act.put, List.setIfInBounds_toArray, List.set_cons_zero, List.set_cons_succ]
    refine wpAnyH_done (by kernel_rfl) ?_ _
    go_wp2_with fail
    go_meet
    exact ⟨q20.heap.size, wd.heap.size, q14.heap.size, rfl, rfl, rfl, ⟨by have := HGx2.out; have := HGx3.out; have := HGx4.out; have := HGw1.out; have := HGw2.out; have := HSq14.out; have := HSq20.out; have := HSq21.out; omega, by have := HGx2.out; have := HGx3.out; have := HGx4.out; have := HGw1.out; have := HGw2.out; have := HSq14.out; have := HSq20.out; have := HSq21.out; omega, by have := HGx2.out; have := HGx3.out; have := HGx4.out; have := HGw1.out; have := HGw2.out; have := HSq14.out; have := HSq20.out; have := HSq21.out; omega⟩, ⟨by have := HGx2.out; have := HGx3.out; have := HGx4.out; have := HGw1.out; have := HGw2.out; have := HSq14.out; have := HSq20.out; have := HSq21.out; omega, by have := HGx2.out; have := HGx3.out; have := HGx4.out; have := HGw1.out; have := HGw2.out; have := HSq14.out; have := HSq20.out; have := HSq21.out; omega, by have := HGx2.out; have := HGx3.out; have := HGx4.out; have := HGw1.out; have := HGw2.out; have := HSq14.out; have := HSq20.out; have := HSq21.out; omega⟩, Lib.hid ⟨HBq24.out, rq24.out, x2q24.out, x3q24.out, HXsq24.out⟩⟩
  ·
   go_simp
   obtain ⟨q25, hq25⟩ : ∃ z, wd.alloc zcells = z := ⟨_, rfl⟩
   have hb_ : Below wd.heap.size wd q25 := by rw [← hq25]; exact (Below.refl _ _).alloc (Nat.le_refl _) _
   have HXx4q25 := Lib.hid (show BoxL q25 wd.heap.size zero10 from box_mk hq25)
   rw [zc_eq, hq25]
   clear hq25
   have HSq25 := Lib.hid (show wd.heap.size ≤ q25.heap.size from hb_.size)
   have HBq25 := Lib.hid (HBwd.out.trans (hb_.mono HBwd.out.size))
   have rq25 := Lib.hid (rwd.out.kept (grown_none hb_) (fun e => by cases e))
   have bq25 := Lib.hid (bwd.out.kept (grown_none hb_) (fun e => by cases e))
   clear hb_
   refine hK.out _ _ bq25.out (fun _ => ?_)
   clear hK K
   try simp only [Act.put, List.setIfInBounds_toArray, List.set_cons_zero, List.set_cons_succ]
   have HGx4 := Lib.hid (show w1.heap.size < wd.heap.size ∧ wd.heap.size < q25.heap.size from ⟨by have := HBwd.out.size; have := HGw2.out; have := HSwd.out; have := (show wd.heap.size ≤ wd.heap.size from by exact Nat.le_refl _); omega, HXx4q25.out.2.2⟩)
   refine wpAnyH_ready (rs := [3, 4]) (by kernel_rfl) (by simp) ?_
   refine AllReadyH.cons (o := ⟨some 2, .alloc _, _, _, _, _⟩) rfl (fun K hK => ?_) (AllReadyH.cons (o := ⟨some 3, .alloc _, _, _, _, _⟩) rfl (fun K hK => ?_) (AllReadyH.nil))
   ·
    go_simp
    obtain ⟨q26, hq26⟩ : ∃ z, q25.alloc zcells = z := ⟨_, rfl⟩
    have hb_ : Below q25.heap.size q25 q26 := by rw [← hq26]; exact (Below.refl _ _).alloc (Nat.le_refl _) _
    have HXx2q26 := Lib.hid (show BoxL q26 q25.heap.size zero10 from box_mk hq26)
    rw [zc_eq, hq26]
    clear hq26
    have HSq26 := Lib.hid (show q25.heap.size ≤ q26.heap.size from hb_.size)
    have HBq26 := Lib.hid (HBq25.out.trans (hb_.mono HBq25.out.size))
    have rq26 := Lib.hid (rq25.out.kept (grown_none hb_) (fun e => by cases e))
    have bq26 := Lib.hid (bq25.out.kept (grown_none hb_) (fun e => by cases e))
    have x4q26 := Lib.hid (HXx4q25.out.kept (grown_none hb_) (fun e => by cases e))
    clear hb_
    refine hK.out _ _ bq26.out (fun _ => ?_)
    clear hK K
    try simp only [Act.put, List.setIfInBounds_toArray, List.set_cons_zero, List.set_cons_succ]
    have HGx2 := Lib.hid (show w1.heap.size < q25.heap.size ∧ q25.heap.size < q26.heap.size from ⟨by have := HBwd.out.size; have := HGw2.out; have := HSwd.out; have := (show wd.heap.size ≤ q25.heap.size from by have := HSq25.out; omega); omega, HXx2q26.out.2.2⟩)
    refine wpAnyH_ready (rs := [4]) (by kernel_rfl) (by simp) ?_
    refine AllReadyH.cons (o := ⟨some 3, .alloc _, _, _, _, _⟩) rfl (fun K hK => ?_) (AllReadyH.nil)
    go_simp
    obtain ⟨q27, hq27⟩ : ∃ z, q26.alloc zcells = z := ⟨_, rfl⟩
    have hb_ : Below q26.heap.size q26 q27 := by rw [← hq27]; exact (Below.refl _ _).alloc (Nat.le_refl _) _
    have HXx3q27 := Lib.hid (show BoxL q27 q26.heap.size zero10 from box_mk hq27)
    rw [zc_eq, hq27]
    clear hq27
    have HSq27 := Lib.hid (show q26.heap.size ≤ q27.heap.size from hb_.size)
    have HBq27 := Lib.hid (HBq26.out.trans (hb_.mono HBq26.out.size))
    have rq27 := Lib.hid (rq26.out.kept (grown_none hb_) (fun e => by cases e))
    have bq27 := Lib.hid (bq26.out.kept (grown_none hb_) (fun e => by cases e))
    have x4q27 := Lib.hid (x4q26.out.kept (grown_none hb_) (fun e => by cases e))
    have x2q27 := Lib.hid (HXx2q26.out.kept (grown_none hb_) (fun e => by cases e))
    clear hb_
    refine hK.out _ _ bq27.out (fun _ => ?_)
    clear hK K
    try simp only [Act.put, List.setIfInBounds_toArray, List.set_cons_zero, List.set_cons_succ]
    have HGx3 := Lib.hid (show w1.heap.size < q26.heap.size ∧ q26.heap.size < q27.heap.size from ⟨by have := HBwd.out.size; have := HGw2.out; have := HSwd.out; have := (show wd.heap.size ≤ q26.heap.size from by have := HSq25.out; have := HSq26.out; omega); omega, HXx3q27.out.2.2⟩)
    refine wpAnyH_ready (rs := [6]) (by kernel_rfl) (by simp) ?_
    refine AllReadyH.cons (o := ⟨none, .store _ _ _, _, _, _, _⟩) rfl (fun K hK => ?_) (AllReadyH.nil)
    obtain ⟨z0, z1, z2, z3, z4, z5, z6, z7, z8, z9, zf⟩ := zbox10 x2q27.out
    go_simp
    rw [fill_eq]
    obtain ⟨q28, hq28⟩ : ∃ z, fillB q27 q25.heap.size = z := ⟨_, rfl⟩
    have HXsq28 := Lib.hid (fill_box x2q27.out hq28)
    have rq28 := Lib.hid (fill_far rq27.out (by have := HGx2.out; have := HGx3.out; have := HGx4.out; have := HGw1.out; have := HGw2.out; have := HSq25.out; have := HSq26.out; have := HSq27.out; omega) hq28)
    have bq28 := Lib.hid (fill_far bq27.out (by have := HGx2.out; have := HGx3.out; have := HGx4.out; have := HGw1.out; have := HGw2.out; have := HSq25.out; have := HSq26.out; have := HSq27.out; omega) hq28)
    have x4q28 := Lib.hid (fill_far x4q27.out (by have := HGx2.out; have := HGx3.out; have := HGx4.out; have := HGw1.out; have := HGw2.out; have := HSq25.out; have := HSq26.out; have := HSq27.out; omega) hq28)
    have x3q28 := Lib.hid (fill_far HXx3q27.out (by have := HGx2.out; have := HGx3.out; have := HGx4.out; have := HGw1.out; have := HGw2.out; have := HSq25.out; have := HSq26.out; have := HSq27.out; omega) hq28)
    have HBq28 := Lib.hid (fill_below HBq27.out (by have := HGx2.out; have := HGw1.out; omega) hq28)
    rw [hq28]
    clear hq28 z0 z1 z2 z3 z4 z5 z6 z7 z8 z9 zf
    refine hK.out _ _ bq28.out (fun _ => ?_)
    clear hK K
    try simp only [Act.put, List.setIfInBounds_toArray, List.set_cons_zero, List.set_cons_succ]
    refine wpAnyH_ready (rs := [7]) (by kernel_rfl) (by simp) ?_
    refine AllReadyH.cons (o := ⟨none, .store _ _ _, _, _, _, _⟩) rfl (fun K hK => ?_) (AllReadyH.nil)
    obtain ⟨z0, z1, z2, z3, z4, z5, z6, z7, z8, z9, zf⟩ := zbox10 x3q28.out
    go_simp
    rw [fill_eq]
    obtain ⟨q29, hq29⟩ : ∃ z, fillB q28 q26.heap.size = z := ⟨_, rfl⟩
    have HXsq29 := Lib.hid (fill_box x3q28.out hq29)
    have rq29 := Lib.hid (fill_far rq28.out (by have := HGx2.out; have := HGx3.out; have := HGx4.out; have := HGw1.out; have := HGw2.out; have := HSq25.out; have := HSq26.out; have := HSq27.out; omega) hq29)
    have bq29 := Lib.hid (fill_far bq28.out (by have := HGx2.out; have := HGx3.out; have := HGx4.out; have := HGw1.out; have := HGw2.out; have := HSq25.out; have := HSq26.out; have := HSq27.out; omega) hq29)
    have x4q29 := Lib.hid (fill_far x4q28.out (by have := HGx2.out; have := HGx3.out; have := HGx4.out; have := HGw1.out; have := HGw2.out; have := HSq25.out; have := HSq26.out; have := HSq27.out; omega) hq29)
    have x2q29 := Lib.hid (fill_far HXsq28.out (by have := HGx2.out; have := HGx3.out; have := HGx4.out; have := HGw1.out; have := HGw2.out; have := HSq25.out; have := HSq26.out; have := HSq27.out; omega) hq29)
    have HBq29 := Lib.hid (fill_below HBq28.out (by have := HGx3.out; have := HGw1.out; omega) hq29)
    rw [hq29]
    clear hq29 z0 z1 z2 z3 z4 z5 z6 z7 z8 z9 zf
    refine hK.out _ _ bq29.out (fun _ => ?_)
    clear hK K
    try simp only [Act.put, List.setIfInBounds_toArray, List.set_cons_zero, List.set_cons_succ]
    refine wpAnyH_ready (rs := [8]) (by kernel_rfl) (by simp) ?_
    refine AllReadyH.cons (o := ⟨none, .store _ _ _, _, _, _, _⟩) rfl (fun K hK => ?_) (AllReadyH.nil)
    obtain ⟨z0, z1, z2, z3, z4, z5, z6, z7, z8, z9, zf⟩ := zbox10 x4q29.out
    go_simp
    rw [fill_eq]
    obtain ⟨q30, hq30⟩ : ∃ z, fillB q29 wd.heap.size = z := ⟨_, rfl⟩
    have HXsq30 := Lib.hid (fill_box x4q29.out hq30)
    have rq30 := Lib.hid (fill_far rq29.out (by have := HGx2.out; have := HGx3.out; have := HGx4.out; have := HGw1.out; have := HGw2.out; have := HSq25.out; have := HSq26.out; have := HSq27.out; omega) hq30)
    have bq30 := Lib.hid (fill_far bq29.out (by have := HGx2.out; have := HGx3.out; have := HGx4.out; have := HGw1.out; have := HGw2.out; have := HSq25.out; have := HSq26.out; have := HSq27.out; omega) hq30)
    have x2q30 := Lib.hid (fill_far x2q29.out (by have := HGx2.out; have := HGx3.out; have := HGx4.out; have := HGw1.out; have := HGw2.out; have := HSq25.out; have := HSq26.out; have := HSq27.out; omega) hq30)
    have x3q30 := Lib.hid (fill_far HXsq29.out (by have := HGx2.out; have := HGx3.out; have := HGx4.out; have := HGw1.out; have := HGw2.out; have := HSq25.out; have := HSq26.out; have := HSq27.out; omega) hq30)
    have HBq30 := Lib.hid (fill_below HBq29.out (by have := HGx4.out; have := HGw1.out; omega) hq30)
    rw [hq30]
    clear hq30 z0 z1 z2 z3 z4 z5 z6 z7 z8 z9 zf
    refine hK.out _ _ bq30.out (fun _ => ?_)
    clear hK K
    try simp only [Act.put, List.setIfInBounds_toArray, List.set_cons_zero, List.set_cons_succ]
    refine wpAnyH_done (by kernel_rfl) ?_ _
    go_wp2_with fail
    go_meet
    exact ⟨q25.heap.size, q26.heap.size, wd.heap.size, rfl, rfl, rfl, ⟨by have := HGx2.out; have := HGx3.out; have := HGx4.out; have := HGw1.out; have := HGw2.out; have := HSq25.out; have := HSq26.out; have := HSq27.out; omega, by have := HGx2.out; have := HGx3.out; have := HGx4.out; have := HGw1.out; have := HGw2.out; have := HSq25.out; have := HSq26.out; have := HSq27.out; omega, by have := HGx2.out; have := HGx3.out; have := HGx4.out; have := HGw1.out; have := HGw2.out; have := HSq25.out; have := HSq26.out; have := HSq27.out; omega⟩, ⟨by have := HGx2.out; have := HGx3.out; have := HGx4.out; have := HGw1.out; have := HGw2.out; have := HSq25.out; have := HSq26.out; have := HSq27.out; omega, by have := HGx2.out; have := HGx3.out; have := HGx4.out; have := HGw1.out; have := HGw2.out; have := HSq25.out; have := HSq26.out; have := HSq27.out; omega, by have := HGx2.out; have := HGx3.out; have := HGx4.out; have := HGw1.out; have := HGw2.out; have := HSq25.out; have := HSq26.out; have := HSq27.out; omega⟩, Lib.hid ⟨HBq30.out, rq30.out, x2q30.out, x3q30.out, HXsq30.out⟩⟩
   ·
    go_simp
    obtain ⟨q31, hq31⟩ : ∃ z, q25.alloc zcells = z := ⟨_, rfl⟩
    have hb_ : Below q25.heap.size q25 q31 := by rw [← hq31]; exact (Below.refl _ _).alloc (Nat.le_refl _) _
    have HXx3q31 := Lib.hid (show BoxL q31 q25.heap.size zero10 from box_mk hq31)
    rw [zc_eq, hq31]
    clear hq31
    have HSq31 := Lib.hid (show q25.heap.size ≤ q31.heap.size from hb_.size)
    have HBq31 := Lib.hid (HBq25.out.trans (hb_.mono HBq25.out.size))
    have rq31 := Lib.hid (rq25.out.kept (grown_none hb_) (fun e => by cases e))
    have bq31 := Lib.hid (bq25.out.kept (grown_none hb_) (fun e => by cases e))
    have x4q31 := Lib.hid (HXx4q25.out.kept (grown_none hb_) (fun e => by cases e))
    clear hb_
    refine hK.out _ _ bq31.out (fun _ => ?_)
    clear hK K
    try simp only [Act.put, List.setIfInBounds_toArray, List.set_cons_zero, List.set_cons_succ]
    have HGx3 := Lib.hid (show w1.heap.size < q25.heap.size ∧ q25.heap.size < q31.heap.size from ⟨by have := HBwd.out.size; have := HGw2.out; have := HSwd.out; have := (show wd.heap.size ≤ q25.heap.size from by have := HSq25.out; omega); omega, HXx3q31.out.2.2⟩)
    refine wpAnyH_ready (rs := [3]) (by kernel_rfl) (by simp) ?_
    refine AllReadyH.cons (o := ⟨some 2, .alloc _, _, _, _, _⟩) rfl (fun K hK => ?_) (AllReadyH.nil)
    go_simp
    obtain ⟨q32, hq32⟩ : ∃ z, q31.alloc zcells = z := ⟨_, rfl⟩
    have hb_ : Below q31.heap.size q31 q32 := by rw [← hq32]; exact (Below.refl _ _).alloc (Nat.le_refl _) _
    have HXx2q32 := Lib.hid (show BoxL q32 q31.heap.size zero10 from box_mk hq32)
    rw [zc_eq, hq32]
    clear hq32
    have HSq32 := Lib.hid (show q31.heap.size ≤ q32.heap.size from hb_.size)
    have HBq32 := Lib.hid (HBq31.out.trans (hb_.mono HBq31.out.size))
    have rq32 := Lib.hid (rq31.out.kept (grown_none hb_) (fun e => by cases e))
    have bq32 := Lib.hid (bq31.out.kept (grown_none hb_) (fun e => by cases e))
    have x4q32 := Lib.hid (x4q31.out.kept (grown_none hb_) (fun e => by cases e))
    have x3q32 := Lib.hid (HXx3q31.out.kept (grown_none hb_) (fun e => by cases e))
    clear hb_
    refine hK.out _ _ bq32.out (fun _ => ?_)
    clear hK K
    try simp only [Act.put, List.setIfInBounds_toArray, List.set_cons_zero, List.set_cons_succ]
    have HGx2 := Lib.hid (show w1.heap.size < q31.heap.size ∧ q31.heap.size < q32.heap.size from ⟨by have := HBwd.out.size; have := HGw2.out; have := HSwd.out; have := (show wd.heap.size ≤ q31.heap.size from by have := HSq25.out; have := HSq31.out; omega); omega, HXx2q32.out.2.2⟩)
    refine wpAnyH_ready (rs := [6]) (by kernel_rfl) (by simp) ?_
    refine AllReadyH.cons (o := ⟨none, .store _ _ _, _, _, _, _⟩) rfl (fun K hK => ?_) (AllReadyH.nil)
    obtain ⟨z0, z1, z2, z3, z4, z5, z6, z7, z8, z9, zf⟩ := zbox10 HXx2q32.out
    go_simp
    rw [fill_eq]
    obtain ⟨q33, hq33⟩ : ∃ z, fillB q32 q31.heap.size = z := ⟨_, rfl⟩
    have HXsq33 := Lib.hid (fill_box HXx2q32.out hq33)
    have rq33 := Lib.hid (fill_far rq32.out (by have := HGx2.out; have := HGx3.out; have := HGx4.out; have := HGw1.out; have := HGw2.out; have := HSq25.out; have := HSq31.out; have := HSq32.out; omega) hq33)
    have bq33 := Lib.hid (fill_far bq32.out (by have := HGx2.out; have := HGx3.out; have := HGx4.out; have := HGw1.out; have := HGw2.out; have := HSq25.out; have := HSq31.out; have := HSq32.out; omega) hq33)
    have x4q33 := Lib.hid (fill_far x4q32.out (by have := HGx2.out; have := HGx3.out; have := HGx4.out; have := HGw1.out; have := HGw2.out; have := HSq25.out; have := HSq31.out; have := HSq32.out; omega) hq33)
    have x3q33 := Lib.hid (fill_far x3q32.out (by have := HGx2.out; have := HGx3.out; have := HGx4.out; have := HGw1.out; have := HGw2.out; have := HSq25.out; have := HSq31.out; have := HSq32.out; omega) hq33)
    have HBq33 := Lib.hid (fill_below HBq32.out (by have := HGx2.out; have := HGw1.out; omega) hq33)
    rw [hq33]
    clear hq33 z0 z1 z2 z3 z4 z5 z6 z7 z8 z9 zf
    refine hK.out _ _ bq33.out (fun _ => ?_)
    clear hK K
    try simp only [Act.put, List.setIfInBounds_toArray, List.set_cons_zero, List.set_cons_succ]
    refine wpAnyH_ready (rs := [7]) (by kernel_rfl) (by simp) ?_
    refine AllReadyH.cons (o := ⟨none, .store _ _ _, _, _, _, _⟩) rfl (fun K hK => ?_) (AllReadyH.nil)
    obtain ⟨z0, z1, z2, z3, z4, z5, z6, z7, z8, z9, zf⟩ := zbox10 x3q33.out
    go_simp
    rw [fill_eq]
    obtain ⟨q34, hq34⟩ : ∃ z, fillB q33 q25.heap.size = z := ⟨_, rfl⟩
    have HXsq34 := Lib.hid (fill_box x3q33.out hq34)
    have rq34 := Lib.hid (fill_far rq33.out (by have := HGx2.out; have := HGx3.out; have := HGx4.out; have := HGw1.out; have := HGw2.out; have := HSq25.out; have := HSq31.out; have := HSq32.out; omega) hq34)
    have bq34 := Lib.hid (fill_far bq33.out (by have := HGx2.out; have := HGx3.out; have := HGx4.out; have := HGw1.out; have := HGw2.out; have := HSq25.out; have := HSq31.out; have := HSq32.out; omega) hq34)
    have x4q34 := Lib.hid (fill_far x4q33.out (by have := HGx2.out; have := HGx3.out; have := HGx4.out; have := HGw1.out; have := HGw2.out; have := HSq25.out; have := HSq31.out; have := HSq32.out; omega) hq34)
    have x2q34 := Lib.hid (fill_far HXsq33.out (by have := HGx2.out; have := HGx3.out; have := HGx4.out; have := HGw1.out; have := HGw2.out; have := HSq25.out; have := HSq31.out; have := HSq32.out; omega) hq34)
    have HBq34 := Lib.hid (fill_below HBq33.out (by have := HGx3.out; have := HGw1.out; omega) hq34)
    rw [hq34]
    clear hq34 z0 z1 z2 z3 z4 z5 z6 z7 z8 z9 zf
    refine hK.out _ _ bq34.out (fun _ => ?_)
    clear hK K
    try simp only [Act.put, List.setIfInBounds_toArray, List.set_cons_zero, List.set_cons_succ]
    refine wpAnyH_ready (rs := [8]) (by kernel_rfl) (by simp) ?_
    refine AllReadyH.cons (o := ⟨none, .store _ _ _, _, _, _, _⟩) rfl (fun K hK => ?_) (AllReadyH.nil)
    obtain ⟨z0, z1, z2, z3, z4, z5, z6, z7, z8, z9, zf⟩ := zbox10 x4q34.out
    go_simp
    rw [fill_eq]
    obtain ⟨q35, hq35⟩ : ∃ z, fillB q34 wd.heap.size = z := ⟨_, rfl⟩
    have HXsq35 := Lib.hid (fill_box x4q34.out hq35)
    have rq35 := Lib.hid (fill_far rq34.out (by have := HGx2.out; have := HGx3.out; have := HGx4.out; have := HGw1.out; have := HGw2.out; have := HSq25.out; have := HSq31.out; have := HSq32.out; omega) hq35)
    have bq35 := Lib.hid (fill_far bq34.out (by have := HGx2.out; have := HGx3.out; have := HGx4.out; have := HGw1.out; have := HGw2.out; have := HSq25.out; have := HSq31.out; have := HSq32.out; omega) hq35)
    have x3q35 := Lib.hid (fill_far HXsq34.out (by have := HGx2.out; have := HGx3.out; have := HGx4.out; have := HGw1.out; have := HGw2.out; have := HSq25.out; have := HSq31.out; have := HSq32.out; omega) hq35)
    have x2q35 := Lib.hid (fill_far x2q34.out (by have := HGx2.out; have := HGx3.out; have := HGx4.out; have := HGw1.out; have := HGw2.out; have := HSq25.out; have := HSq31.out; have := HSq32.out; omega) hq35)
    have HBq35 := Lib.hid (fill_below HBq34.out (by have := HGx4.out; have := HGw1.out; omega) hq35)
    rw [hq35]
    clear hq35 z0 z1 z2 z3 z4 z5 z6 z7 z8 z9 zf
    refine hK.out _ _ bq35.out (fun _ => ?_)
    clear hK K
    try simp only [Act.put, List.setIfInBounds_toArray, List.set_cons_zero, List.set_cons_succ]
    refine wpAnyH_done (by kernel_rfl) ?_ _
    go_wp2_with fail
    go_meet
    exact ⟨q31.heap.size, q25.heap.size, wd.heap.size, rfl, rfl, rfl, ⟨by have := HGx2.out; have := HGx3.out; have := HGx4.out; have := HGw1.out; have := HGw2.out; have := HSq25.out; have := HSq31.out; have := HSq32.out; omega, by have := HGx2.out; have := HGx3.out; have := HGx4.out; have := HGw1.out; have := HGw2.out; have := HSq25.out; have := HSq31.out; have := HSq32.out; omega, by have := HGx2.out; have := HGx3.out; have := HGx4.out; have := HGw1.out; have := HGw2.out; have := HSq25.out; have := HSq31.out; have := HSq32.out; omega⟩, ⟨by have := HGx2.out; have := HGx3.out; have := HGx4.out; have := HGw1.out; have := HGw2.out; have := HSq25.out; have := HSq31.out; have := HSq32.out; omega, by have := HGx2.out; have := HGx3.out; have := HGx4.out; have := HGw1.out; have := HGw2.out; have := HSq25.out; have := HSq31.out; have := HSq32.out; omega, by have := HGx2.out; have := HGx3.out; have := HGx4.out; have := HGw1.out; have := HGw2.out; have := HSq25.out; have := HSq31.out; have := HSq32.out; omega⟩, Lib.hid ⟨HBq35.out, rq35.out, x2q35.out, x3q35.out, HXsq35.out⟩⟩
 case rest =>
 obtain ⟨g2, g3, g4, rfl, rfl, rfl, hlt, hne, HEX⟩ := hcut
 obtain ⟨hl2, hl3, hl4⟩ := hlt
 obtain ⟨n23, n24, n34⟩ := hne
 have HLT := Lib.hid (show w.heap.size < g2 ∧ w.heap.size < g3 ∧ w.heap.size < g4 from ⟨hl2, hl3, hl4⟩); have HNE := Lib.hid (show g2 ≠ g3 ∧ g2 ≠ g4 ∧ g3 ≠ g4 from ⟨n23, n24, n34⟩)
 clear hl2 hl3 hl4 n23 n24 n34
 have HEY := Lib.hid (show ExB w w.heap.size g2 g3 g4 [.int .i64 0, .int .i64 0, .string ByteArray.empty, .string ByteArray.empty, .string ⟨#[98, 108, 111, 99, 107]⟩, .string ByteArray.empty, .string ByteArray.empty, .int .i64 2, .int .i64 0, .slice none 0 0] [.int .i64 0, .int .i64 0, .string ByteArray.empty, .string ByteArray.empty, .string ⟨#[98, 108, 111, 99, 107]⟩, .string ByteArray.empty, .string ByteArray.empty, .int .i64 2, .int .i64 0, .slice none 0 0] [.int .i64 0, .int .i64 0, .string ByteArray.empty, .string ByteArray.empty, .string ⟨#[98, 108, 111, 99, 107]⟩, .string ByteArray.empty, .string ByteArray.empty, .int .i64 2, .int .i64 0, .slice none 0 0] wc from HEX.out)
 clear HEX
 have x0 := HEY.out.2.2.1.1 0 _ rfl
 have x2 := HEY.out.2.2.1.1 2 _ rfl
 have x3 := HEY.out.2.2.1.1 3 _ rfl
 have x8 := HEY.out.2.2.1.1 8 _ rfl
 have xf := HEY.out.2.2.1.2.1
 go_upto_region 4 with fail
 obtain ⟨e0, he0⟩ : ∃ z, ((((wc.setCell ⟨g2, 0, none⟩ (.int .i64 1)).setCell ⟨g2, 2, none⟩ (.string ⟨#[115, 100, 97]⟩)).setCell ⟨g2, 3, none⟩ (.string ⟨#[115, 100, 97]⟩)).setCell ⟨g2, 8, none⟩ (.int .i64 8)) = z := ⟨_, rfl⟩
 have HE0 := Lib.hid (show ExB w w.heap.size g2 g3 g4 [.int .i64 1, .int .i64 0, .string ⟨#[115, 100, 97]⟩, .string ⟨#[115, 100, 97]⟩, .string ⟨#[98, 108, 111, 99, 107]⟩, .string ByteArray.empty, .string ByteArray.empty, .int .i64 2, .int .i64 8, .slice none 0 0] [.int .i64 0, .int .i64 0, .string ByteArray.empty, .string ByteArray.empty, .string ⟨#[98, 108, 111, 99, 107]⟩, .string ByteArray.empty, .string ByteArray.empty, .int .i64 2, .int .i64 0, .slice none 0 0] [.int .i64 0, .int .i64 0, .string ByteArray.empty, .string ByteArray.empty, .string ⟨#[98, 108, 111, 99, 107]⟩, .string ByteArray.empty, .string ByteArray.empty, .int .i64 2, .int .i64 0, .slice none 0 0] e0 from he0 ▸ ⟨((((HEY.out.1.grown (grown_one _ _ _ _) (by have h := HEY.out.1.size; simpa using h) (fun q hq => by have := Option.some.inj hq; have := HLT.out; omega)).grown (grown_one _ _ _ _) (by have h := HEY.out.1.size; simpa using h) (fun q hq => by have := Option.some.inj hq; have := HLT.out; omega)).grown (grown_one _ _ _ _) (by have h := HEY.out.1.size; simpa using h) (fun q hq => by have := Option.some.inj hq; have := HLT.out; omega)).grown (grown_one _ _ _ _) (by have h := HEY.out.1.size; simpa using h) (fun q hq => by have := Option.some.inj hq; have := HLT.out; omega)), ((((HEY.out.2.1.far (by have := HLT.out; omega) _).far (by have := HLT.out; omega) _).far (by have := HLT.out; omega) _).far (by have := HLT.out; omega) _), ((((HEY.out.2.2.1.set_ (j := 0) (by simp) _).set_ (j := 2) (by simp) _).set_ (j := 3) (by simp) _).set_ (j := 8) (by simp) _), ((((HEY.out.2.2.2.1.far (by have := HNE.out; omega) _).far (by have := HNE.out; omega) _).far (by have := HNE.out; omega) _).far (by have := HNE.out; omega) _), ((((HEY.out.2.2.2.2.far (by have := HNE.out; omega) _).far (by have := HNE.out; omega) _).far (by have := HNE.out; omega) _).far (by have := HNE.out; omega) _)⟩)
 rw [he0]
 clear he0 x0 x2 x3 x8 xf
 have x0 := HE0.out.2.2.2.1.1 0 _ rfl
 have x1 := HE0.out.2.2.2.1.1 1 _ rfl
 have x2 := HE0.out.2.2.2.1.1 2 _ rfl
 have x3 := HE0.out.2.2.2.1.1 3 _ rfl
 have x8 := HE0.out.2.2.2.1.1 8 _ rfl
 have xf := HE0.out.2.2.2.1.2.1
 go_upto_region 5 with fail
 obtain ⟨e1, he1⟩ : ∃ z, (((((e0.setCell ⟨g3, 0, none⟩ (.int .i64 2)).setCell ⟨g3, 1, none⟩ (.int .i64 1)).setCell ⟨g3, 2, none⟩ (.string ⟨#[115, 100, 97, 112, 49]⟩)).setCell ⟨g3, 3, none⟩ (.string ⟨#[115, 100, 97, 112, 49]⟩)).setCell ⟨g3, 8, none⟩ (.int .i64 9)) = z := ⟨_, rfl⟩
 have HE1 := Lib.hid (show ExB w w.heap.size g2 g3 g4 [.int .i64 1, .int .i64 0, .string ⟨#[115, 100, 97]⟩, .string ⟨#[115, 100, 97]⟩, .string ⟨#[98, 108, 111, 99, 107]⟩, .string ByteArray.empty, .string ByteArray.empty, .int .i64 2, .int .i64 8, .slice none 0 0] [.int .i64 2, .int .i64 1, .string ⟨#[115, 100, 97, 112, 49]⟩, .string ⟨#[115, 100, 97, 112, 49]⟩, .string ⟨#[98, 108, 111, 99, 107]⟩, .string ByteArray.empty, .string ByteArray.empty, .int .i64 2, .int .i64 9, .slice none 0 0] [.int .i64 0, .int .i64 0, .string ByteArray.empty, .string ByteArray.empty, .string ⟨#[98, 108, 111, 99, 107]⟩, .string ByteArray.empty, .string ByteArray.empty, .int .i64 2, .int .i64 0, .slice none 0 0] e1 from he1 ▸ ⟨(((((HE0.out.1.grown (grown_one _ _ _ _) (by have h := HE0.out.1.size; simpa using h) (fun q hq => by have := Option.some.inj hq; have := HLT.out; omega)).grown (grown_one _ _ _ _) (by have h := HE0.out.1.size; simpa using h) (fun q hq => by have := Option.some.inj hq; have := HLT.out; omega)).grown (grown_one _ _ _ _) (by have h := HE0.out.1.size; simpa using h) (fun q hq => by have := Option.some.inj hq; have := HLT.out; omega)).grown (grown_one _ _ _ _) (by have h := HE0.out.1.size; simpa using h) (fun q hq => by have := Option.some.inj hq; have := HLT.out; omega)).grown (grown_one _ _ _ _) (by have h := HE0.out.1.size; simpa using h) (fun q hq => by have := Option.some.inj hq; have := HLT.out; omega)), (((((HE0.out.2.1.far (by have := HLT.out; omega) _).far (by have := HLT.out; omega) _).far (by have := HLT.out; omega) _).far (by have := HLT.out; omega) _).far (by have := HLT.out; omega) _), (((((HE0.out.2.2.1.far (by have := HNE.out; omega) _).far (by have := HNE.out; omega) _).far (by have := HNE.out; omega) _).far (by have := HNE.out; omega) _).far (by have := HNE.out; omega) _), (((((HE0.out.2.2.2.1.set_ (j := 0) (by simp) _).set_ (j := 1) (by simp) _).set_ (j := 2) (by simp) _).set_ (j := 3) (by simp) _).set_ (j := 8) (by simp) _), (((((HE0.out.2.2.2.2.far (by have := HNE.out; omega) _).far (by have := HNE.out; omega) _).far (by have := HNE.out; omega) _).far (by have := HNE.out; omega) _).far (by have := HNE.out; omega) _)⟩)
 rw [he1]
 clear he1 x0 x1 x2 x3 x8 xf
 have x0 := HE1.out.2.2.2.2.1 0 _ rfl
 have x1 := HE1.out.2.2.2.2.1 1 _ rfl
 have x2 := HE1.out.2.2.2.2.1 2 _ rfl
 have x3 := HE1.out.2.2.2.2.1 3 _ rfl
 have x8 := HE1.out.2.2.2.2.1 8 _ rfl
 have xf := HE1.out.2.2.2.2.2.1
 go_upto_region 6 with fail
 obtain ⟨e2, he2⟩ : ∃ z, (((((e1.setCell ⟨g4, 0, none⟩ (.int .i64 3)).setCell ⟨g4, 1, none⟩ (.int .i64 1)).setCell ⟨g4, 2, none⟩ (.string ⟨#[115, 100, 97, 112, 50]⟩)).setCell ⟨g4, 3, none⟩ (.string ⟨#[115, 100, 97, 112, 50]⟩)).setCell ⟨g4, 8, none⟩ (.int .i64 10)) = z := ⟨_, rfl⟩
 have HE2 := Lib.hid (show ExB w w.heap.size g2 g3 g4 [.int .i64 1, .int .i64 0, .string ⟨#[115, 100, 97]⟩, .string ⟨#[115, 100, 97]⟩, .string ⟨#[98, 108, 111, 99, 107]⟩, .string ByteArray.empty, .string ByteArray.empty, .int .i64 2, .int .i64 8, .slice none 0 0] [.int .i64 2, .int .i64 1, .string ⟨#[115, 100, 97, 112, 49]⟩, .string ⟨#[115, 100, 97, 112, 49]⟩, .string ⟨#[98, 108, 111, 99, 107]⟩, .string ByteArray.empty, .string ByteArray.empty, .int .i64 2, .int .i64 9, .slice none 0 0] [.int .i64 3, .int .i64 1, .string ⟨#[115, 100, 97, 112, 50]⟩, .string ⟨#[115, 100, 97, 112, 50]⟩, .string ⟨#[98, 108, 111, 99, 107]⟩, .string ByteArray.empty, .string ByteArray.empty, .int .i64 2, .int .i64 10, .slice none 0 0] e2 from he2 ▸ ⟨(((((HE1.out.1.grown (grown_one _ _ _ _) (by have h := HE1.out.1.size; simpa using h) (fun q hq => by have := Option.some.inj hq; have := HLT.out; omega)).grown (grown_one _ _ _ _) (by have h := HE1.out.1.size; simpa using h) (fun q hq => by have := Option.some.inj hq; have := HLT.out; omega)).grown (grown_one _ _ _ _) (by have h := HE1.out.1.size; simpa using h) (fun q hq => by have := Option.some.inj hq; have := HLT.out; omega)).grown (grown_one _ _ _ _) (by have h := HE1.out.1.size; simpa using h) (fun q hq => by have := Option.some.inj hq; have := HLT.out; omega)).grown (grown_one _ _ _ _) (by have h := HE1.out.1.size; simpa using h) (fun q hq => by have := Option.some.inj hq; have := HLT.out; omega)), (((((HE1.out.2.1.far (by have := HLT.out; omega) _).far (by have := HLT.out; omega) _).far (by have := HLT.out; omega) _).far (by have := HLT.out; omega) _).far (by have := HLT.out; omega) _), (((((HE1.out.2.2.1.far (by have := HNE.out; omega) _).far (by have := HNE.out; omega) _).far (by have := HNE.out; omega) _).far (by have := HNE.out; omega) _).far (by have := HNE.out; omega) _), (((((HE1.out.2.2.2.1.far (by have := HNE.out; omega) _).far (by have := HNE.out; omega) _).far (by have := HNE.out; omega) _).far (by have := HNE.out; omega) _).far (by have := HNE.out; omega) _), (((((HE1.out.2.2.2.2.set_ (j := 0) (by simp) _).set_ (j := 1) (by simp) _).set_ (j := 2) (by simp) _).set_ (j := 3) (by simp) _).set_ (j := 8) (by simp) _)⟩)
 rw [he2]
 clear he2 x0 x1 x2 x3 x8 xf
 have a00 := HE2.out.2.2.1.1 0 _ rfl
 have a01 := HE2.out.2.2.1.1 1 _ rfl
 have a02 := HE2.out.2.2.1.1 2 _ rfl
 have a03 := HE2.out.2.2.1.1 3 _ rfl
 have a04 := HE2.out.2.2.1.1 4 _ rfl
 have a05 := HE2.out.2.2.1.1 5 _ rfl
 have a06 := HE2.out.2.2.1.1 6 _ rfl
 have a07 := HE2.out.2.2.1.1 7 _ rfl
 have a08 := HE2.out.2.2.1.1 8 _ rfl
 have a09 := HE2.out.2.2.1.1 9 _ rfl
 have a10 := HE2.out.2.2.2.1.1 0 _ rfl
 have a11 := HE2.out.2.2.2.1.1 1 _ rfl
 have a12 := HE2.out.2.2.2.1.1 2 _ rfl
 have a13 := HE2.out.2.2.2.1.1 3 _ rfl
 have a14 := HE2.out.2.2.2.1.1 4 _ rfl
 have a15 := HE2.out.2.2.2.1.1 5 _ rfl
 have a16 := HE2.out.2.2.2.1.1 6 _ rfl
 have a17 := HE2.out.2.2.2.1.1 7 _ rfl
 have a18 := HE2.out.2.2.2.1.1 8 _ rfl
 have a19 := HE2.out.2.2.2.1.1 9 _ rfl
 have a20 := HE2.out.2.2.2.2.1 0 _ rfl
 have a21 := HE2.out.2.2.2.2.1 1 _ rfl
 have a22 := HE2.out.2.2.2.2.1 2 _ rfl
 have a23 := HE2.out.2.2.2.2.1 3 _ rfl
 have a24 := HE2.out.2.2.2.2.1 4 _ rfl
 have a25 := HE2.out.2.2.2.2.1 5 _ rfl
 have a26 := HE2.out.2.2.2.2.1 6 _ rfl
 have a27 := HE2.out.2.2.2.2.1 7 _ rfl
 have a28 := HE2.out.2.2.2.2.1 8 _ rfl
 have a29 := HE2.out.2.2.2.2.1 9 _ rfl
 obtain ⟨wz, hwz⟩ : ∃ z, e2.alloc (.cells #[.int .i64 1, .int .i64 0, .string ⟨#[115, 100, 97]⟩, .string ⟨#[115, 100, 97]⟩, .string ⟨#[98, 108, 111, 99, 107]⟩, .string ByteArray.empty, .string ByteArray.empty, .int .i64 2, .int .i64 8, .slice none 0 0, .int .i64 2, .int .i64 1, .string ⟨#[115, 100, 97, 112, 49]⟩, .string ⟨#[115, 100, 97, 112, 49]⟩, .string ⟨#[98, 108, 111, 99, 107]⟩, .string ByteArray.empty, .string ByteArray.empty, .int .i64 2, .int .i64 9, .slice none 0 0, .int .i64 3, .int .i64 1, .string ⟨#[115, 100, 97, 112, 50]⟩, .string ⟨#[115, 100, 97, 112, 50]⟩, .string ⟨#[98, 108, 111, 99, 107]⟩, .string ByteArray.empty, .string ByteArray.empty, .int .i64 2, .int .i64 10, .slice none 0 0, .int .i64 4, .int .i64 0, .string ⟨#[117, 115, 98]⟩, .string ⟨#[117, 115, 98]⟩, .string ⟨#[117, 115, 98]⟩, .string ByteArray.empty, .string ByteArray.empty, .int .i64 1, .int .i64 0, .slice none 0 0, .int .i64 5, .int .i64 4, .string ⟨#[101, 116, 104, 48]⟩, .string ⟨#[101, 116, 104, 48]⟩, .string ⟨#[110, 101, 116]⟩, .string ByteArray.empty, .string ByteArray.empty, .int .i64 4, .int .i64 0, .slice none 0 0] 34) = z := ⟨_, rfl⟩
 have hb_ : Below e2.heap.size e2 wz := by rw [← hwz]; exact (Below.refl _ _).alloc (Nat.le_refl _) _
 have hx_ : BoxL wz e2.heap.size [.int .i64 1, .int .i64 0, .string ⟨#[115, 100, 97]⟩, .string ⟨#[115, 100, 97]⟩, .string ⟨#[98, 108, 111, 99, 107]⟩, .string ⟨#[]⟩, .string ⟨#[]⟩, .int .i64 2, .int .i64 8, .slice none 0 0, .int .i64 2, .int .i64 1, .string ⟨#[115, 100, 97, 112, 49]⟩, .string ⟨#[115, 100, 97, 112, 49]⟩, .string ⟨#[98, 108, 111, 99, 107]⟩, .string ⟨#[]⟩, .string ⟨#[]⟩, .int .i64 2, .int .i64 9, .slice none 0 0, .int .i64 3, .int .i64 1, .string ⟨#[115, 100, 97, 112, 50]⟩, .string ⟨#[115, 100, 97, 112, 50]⟩, .string ⟨#[98, 108, 111, 99, 107]⟩, .string ⟨#[]⟩, .string ⟨#[]⟩, .int .i64 2, .int .i64 10, .slice none 0 0, .int .i64 4, .int .i64 0, .string ⟨#[117, 115, 98]⟩, .string ⟨#[117, 115, 98]⟩, .string ⟨#[117, 115, 98]⟩, .string ⟨#[]⟩, .string ⟨#[]⟩, .int .i64 1, .int .i64 0, .slice none 0 0, .int .i64 5, .int .i64 4, .string ⟨#[101, 116, 104, 48]⟩, .string ⟨#[101, 116, 104, 48]⟩, .string ⟨#[110, 101, 116]⟩, .string ⟨#[]⟩, .string ⟨#[]⟩, .int .i64 4, .int .i64 0, .slice none 0 0] := box_mk hwz
 have HBZ := Lib.hid hb_; have HXZ := Lib.hid hx_; have HRZ := Lib.hid (HE2.out.2.1.kept (grown_none hb_) (fun e => by cases e))
 clear hb_ hx_
 have r0 := HRZ.out.1 0 _ rfl; have rf := HRZ.out.2.1
 go_wp2
 have hb_ := HBZ.out; have hx_ := HXZ.out
 have hg_ := grown_one wz w.heap.size 0 (.slice (some ⟨e2.heap.size, 0, none⟩) 5 5)
 have hne : e2.heap.size ≠ w.heap.size := by have := HE2.out.2.1.2.2; omega
 rw [eL_cells] at hx_
 refine bodyPost_ret (v := .agg #[.slice (some ⟨e2.heap.size, 0, none⟩) 5 5]) (by simp [results, Tryz.results37, go_sem, r0, rf]) rfl ⟨⟨e2.heap.size, 0, none⟩, rfl, ?_, ?_⟩
 · exact (HE2.out.1.trans (hb_.mono HE2.out.1.size)).grown hg_ (by have := HE2.out.1.size; have := hb_.size; omega) (fun q hq => by have := Option.some.inj hq; omega)
 · exact lit_sl eL_ok (by decide) (hx_.far hne.symm _) (by have := hx_.2.2; simpa using this)
end Go.Proofs.YtomcebcaendilaaGreatDoor
namespace Go.Cold
open Go Go.RowKit
theorem lit_ints {w : World} {g B : Nat} {xs : List Int} (hok : ∀ x ∈ xs, okI x) (hn : xs.length ≤ maxLen) (h : BoxL w g (xs.map fun x => .int .i64 x)) (hB : g < B) : Sl w B (some ⟨g, 0, none⟩) xs.length xs := by
 refine ⟨Nat.le_refl _, hn, fun _ => ⟨g, 0, rfl, hB, fun i x hx => ⟨[.int .i64 x], ⟨rfl, hok x (List.mem_of_getElem? hx)⟩, fun j u hu => ?_⟩⟩⟩
 rcases j with _ | j
 ·
  simp at hu
  subst hu
  refine h.1 _ _ ?_
  rw [show 0 + (i * Rep.size Int + 0) = i by show 0 + (i * 1 + 0) = i; omega, List.getElem?_map, hx]; rfl
 · simp at hu
theorem eL_part : partO eL 3 = 2 := by decide +kernel
theorem eL_sis : sisB eL 2 3 = true := by decide +kernel
theorem eL_rel : relB eL 1 3 = true := by decide +kernel
theorem eL_unrel : relB eL 1 4 = false := by decide +kernel
theorem eL_under : underP ⟨#[47, 97]⟩ ⟨#[47, 97, 47, 98]⟩ = true := by decide +kernel
theorem eL_bat : batR eL [5, 3, 2, 4] [] (ordR eL [5, 3, 2, 4]) [] = [2, 4] := by decide +kernel
theorem eL_clos : closR eL [4] = [4, 5] := by decide +kernel
end Go.Cold
namespace Go.Proofs.YtomcebcaendilaaGreatDoor
open Go.RowKit Go.Cold
set_option maxRecDepth 100000 in
set_option maxHeartbeats 4000000 in
theorem known_any (w : World) (hok : Ok w) (hoa : OkA w) : Calls Tryz.prog 12 #[] w fun e w' => e = .returned (.bool true) ∧ Below w.heap.size w w' := by
 have HOK := Lib.hid hok; have HOA := Lib.hid hoa; clear hok hoa
 go_enter Tryz.func12, Tryz.ntmps12
 go_wp2_with fail
 refine (Example_any w).mono ?_
 rintro e w1 ⟨A, rfl, hb_, hs_⟩
 have HSL := Lib.hid hs_; clear hs_
 have HSw1 := Lib.hid (show w.heap.size ≤ w1.heap.size from hb_.size)
 have HBw1 := Lib.hid hb_
 clear hb_
 go_upto_region 2 with fail
 obtain ⟨w2, hw2⟩ : ∃ w2, w1.alloc (.cells #[.slice (some A) 5 5] 27) = w2 := ⟨_, rfl⟩
 have hbw2 : Below w1.heap.size w1 w2 := by rw [← hw2]; exact (Below.refl _ _).alloc (Nat.le_refl _) _
 have HGw2 := Lib.hid (show w2.heap.size = w1.heap.size + 1 by rw [← hw2]; simp)
 have HXtw2 := Lib.hid (show BoxL w2 w1.heap.size [.slice (some A) 5 5] from box_mk hw2)
 try simp only [hw2]
 have HSw2 := Lib.hid (show w1.heap.size ≤ w2.heap.size from hbw2.size)
 have HBw2 := Lib.hid (HBw1.out.trans (hbw2.mono HBw1.out.size))
 have HSLw2 := Lib.hid ((HSL.out).next (Nat.le_refl _) hbw2)
 clear hw2 hbw2
 try rw [show w1.heap.size + 1 = w2.heap.size from HGw2.out.symm]
 have ct0 := HXtw2.out.1 0 _ rfl
 go_wp2_with fail
 refine (Partition_any (some A) 5 eL 3 _ _ (Nat.le_refl _) HSLw2.out eL_VT (HOA.out.next HBw2.out)).mono ?_
 rintro e w3 ⟨rfl, hbw3⟩
 clear ct0
 have HSw3 := Lib.hid (show w2.heap.size ≤ w3.heap.size from hbw3.size)
 have HBw3 := Lib.hid (HBw2.out.trans (hbw3.mono HBw2.out.size))
 have tw3 := Lib.hid (HXtw2.out.kept (grown_none hbw3) (fun e => by cases e))
 have HSLw3 := Lib.hid ((HSLw2.out).next (Nat.le_refl _) hbw3)
 clear hbw3
 have ct0 := tw3.out.1 0 _ rfl
 rw [eL_part]
 have h23 := Lib.hid (show okI 1 ∧ okI 3 ∧ okI 4 from ⟨by unfold okI; decide +kernel, by unfold okI; decide +kernel, by unfold okI; decide +kernel⟩)
 go_wp2_with fail
 refine (Sisters_any (some A) 5 eL 2 3 _ _ (Nat.le_refl _) HSLw3.out eL_VT (HOA.out.next HBw3.out)).mono ?_
 rintro e w4 ⟨rfl, hbw4⟩
 clear ct0
 have HSw4 := Lib.hid (show w3.heap.size ≤ w4.heap.size from hbw4.size)
 have HBw4 := Lib.hid (HBw3.out.trans (hbw4.mono HBw3.out.size))
 have tw4 := Lib.hid (tw3.out.kept (grown_none hbw4) (fun e => by cases e))
 have HSLw4 := Lib.hid ((HSLw3.out).next (Nat.le_refl _) hbw4)
 clear hbw4
 have ct0 := tw4.out.1 0 _ rfl
 rw [eL_sis]
 go_wp2_with fail
 refine (Related_any (some A) 5 eL 1 3 _ _ (Nat.le_refl _) HSLw4.out eL_VT h23.out.1 h23.out.2.1 (HOK.out.next HBw4.out) (HOA.out.next HBw4.out)).mono ?_
 rintro e w5 ⟨rfl, hbw5⟩
 clear ct0
 have HSw5 := Lib.hid (show w4.heap.size ≤ w5.heap.size from hbw5.size)
 have HBw5 := Lib.hid (HBw4.out.trans (hbw5.mono HBw4.out.size))
 have tw5 := Lib.hid (tw4.out.kept (grown_none hbw5) (fun e => by cases e))
 have HSLw5 := Lib.hid ((HSLw4.out).next (Nat.le_refl _) hbw5)
 clear hbw5
 have ct0 := tw5.out.1 0 _ rfl
 rw [eL_rel]
 go_wp2_with fail
 refine (Related_any (some A) 5 eL 1 4 _ _ (Nat.le_refl _) HSLw5.out eL_VT h23.out.1 h23.out.2.2 (HOK.out.next HBw5.out) (HOA.out.next HBw5.out)).mono ?_
 rintro e w6 ⟨rfl, hbw6⟩
 clear ct0
 have HSw6 := Lib.hid (show w5.heap.size ≤ w6.heap.size from hbw6.size)
 have HBw6 := Lib.hid (HBw5.out.trans (hbw6.mono HBw5.out.size))
 have tw6 := Lib.hid (tw5.out.kept (grown_none hbw6) (fun e => by cases e))
 have HSLw6 := Lib.hid ((HSLw5.out).next (Nat.le_refl _) hbw6)
 clear hbw6
 have ct0 := tw6.out.1 0 _ rfl
 rw [eL_unrel]
 go_wp2_with fail
 refine (Ancestor_any ⟨#[47, 97]⟩ ⟨#[47, 97, 47, 98]⟩ _ (by decide) (by decide) (HOK.out.next HBw6.out)).mono ?_
 rintro e w7 ⟨rfl, hbw7⟩
 clear ct0
 have HSw7 := Lib.hid (show w6.heap.size ≤ w7.heap.size from hbw7.size)
 have HBw7 := Lib.hid (HBw6.out.trans (hbw7.mono HBw6.out.size))
 have tw7 := Lib.hid (tw6.out.kept (grown_none hbw7) (fun e => by cases e))
 have HSLw7 := Lib.hid ((HSLw6.out).next (Nat.le_refl _) hbw7)
 clear hbw7
 have ct0 := tw7.out.1 0 _ rfl
 rw [eL_under]
 obtain ⟨w8, hw8⟩ : ∃ z, w7.alloc (.cells #[.int .i64 5, .int .i64 3, .int .i64 2, .int .i64 4] 3) = z := ⟨_, rfl⟩
 have hb_ : Below w7.heap.size w7 w8 := by rw [← hw8]; exact (Below.refl _ _).alloc (Nat.le_refl _) _
 have HIa := Lib.hid (show BoxL w8 w7.heap.size [.int .i64 5, .int .i64 3, .int .i64 2, .int .i64 4] from box_mk hw8)
 have HGw8 := Lib.hid (show w8.heap.size = w7.heap.size + 1 by rw [← hw8]; simp)
 clear ct0
 have co0 := tw7.out.1 0 _ rfl
 have HSw8 := Lib.hid (show w7.heap.size ≤ w8.heap.size from hb_.size)
 have HBw8 := Lib.hid (HBw7.out.trans (hb_.mono HBw7.out.size))
 have tw8 := Lib.hid (tw7.out.kept (grown_none hb_) (fun e => by cases e))
 have HSLw8 := Lib.hid ((HSLw7.out).next (Nat.le_refl _) hb_)
 clear hb_
 have ct0 := tw8.out.1 0 _ rfl
 go_wp2_with fail
 refine (Batch_any (some A) 5 eL _ _ (Nat.le_refl _) HSLw8.out eL_VT (some ⟨w7.heap.size, 0, none⟩) 4 [5, 3, 2, 4] _ (Nat.le_refl _) (lit_ints (xs := [5, 3, 2, 4]) (by intro x hx; have h : ∀ x ∈ ([5, 3, 2, 4] : List Int), okI x := (by unfold okI; decide +kernel); exact h x hx) (by decide) HIa.out HIa.out.2.2) none 0 [] 0 (Nat.zero_le _) Sl.nil_ (by decide) (by decide) (HOA.out.next HBw8.out)).mono ?_
 rintro e wB hgot_
 obtain ⟨hb_, A5, c5, rfl, hs_⟩ := hgot_.sl
 rw [eL_bat] at hs_ ⊢
 have HSB := Lib.hid hs_; clear hgot_ hs_
 clear ct0 co0
 have HSwB := Lib.hid (show w8.heap.size ≤ wB.heap.size from hb_.size)
 have HBwB := Lib.hid (HBw8.out.trans (hb_.mono HBw8.out.size))
 have twB := Lib.hid (tw8.out.kept (grown_none hb_) (fun e => by cases e))
 have awB := Lib.hid (HIa.out.kept (grown_none hb_) (fun e => by cases e))
 have HSLwB := Lib.hid ((HSLw8.out).next (Nat.le_refl _) hb_)
 clear hb_
 have ct0 := twB.out.1 0 _ rfl
 obtain ⟨w9, hw9⟩ : ∃ z, wB.alloc (.cells #[.int .i64 2, .int .i64 4] 3) = z := ⟨_, rfl⟩
 have hb_ : Below wB.heap.size wB w9 := by rw [← hw9]; exact (Below.refl _ _).alloc (Nat.le_refl _) _
 have HIb := Lib.hid (show BoxL w9 wB.heap.size [.int .i64 2, .int .i64 4] from box_mk hw9)
 have HGw9 := Lib.hid (show w9.heap.size = wB.heap.size + 1 by rw [← hw9]; simp)
 clear ct0
 have co0 := twB.out.1 0 _ rfl
 have HSw9 := Lib.hid (show wB.heap.size ≤ w9.heap.size from hb_.size)
 have HBw9 := Lib.hid (HBwB.out.trans (hb_.mono HBwB.out.size))
 have tw9 := Lib.hid (twB.out.kept (grown_none hb_) (fun e => by cases e))
 have aw9 := Lib.hid (awB.out.kept (grown_none hb_) (fun e => by cases e))
 have HSLw9 := Lib.hid ((HSLwB.out).next (Nat.le_refl _) hb_)
 have HSBw9 := Lib.hid ((HSB.out).next (Nat.le_refl _) hb_)
 clear hb_
 have ct0 := tw9.out.1 0 _ rfl
 go_wp2_with fail
 refine (SameInts_same A5 (some ⟨wB.heap.size, 0, none⟩) c5 2 [2, 4] _ _ _ HSBw9.out (lit_ints (xs := [2, 4]) (by intro x hx; have h : ∀ x ∈ ([2, 4] : List Int), okI x := (by unfold okI; decide +kernel); exact h x hx) (by decide) HIb.out HIb.out.2.2)).mono ?_
 rintro e w10 ⟨rfl, hbw10⟩
 clear ct0 co0
 have HSw10 := Lib.hid (show w9.heap.size ≤ w10.heap.size from hbw10.size)
 have HBw10 := Lib.hid (HBw9.out.trans (hbw10.mono HBw9.out.size))
 have tw10 := Lib.hid (tw9.out.kept (grown_none hbw10) (fun e => by cases e))
 have aw10 := Lib.hid (aw9.out.kept (grown_none hbw10) (fun e => by cases e))
 have bw10 := Lib.hid (HIb.out.kept (grown_none hbw10) (fun e => by cases e))
 have HSLw10 := Lib.hid ((HSLw9.out).next (Nat.le_refl _) hbw10)
 have HSBw10 := Lib.hid ((HSBw9.out).next (Nat.le_refl _) hbw10)
 clear hbw10
 have ct0 := tw10.out.1 0 _ rfl
 obtain ⟨w11, hw11⟩ : ∃ z, w10.alloc (.cells #[.int .i64 4] 3) = z := ⟨_, rfl⟩
 have hb_ : Below w10.heap.size w10 w11 := by rw [← hw11]; exact (Below.refl _ _).alloc (Nat.le_refl _) _
 have HIc := Lib.hid (show BoxL w11 w10.heap.size [.int .i64 4] from box_mk hw11)
 have HGw11 := Lib.hid (show w11.heap.size = w10.heap.size + 1 by rw [← hw11]; simp)
 clear ct0
 have co0 := tw10.out.1 0 _ rfl
 have HSw11 := Lib.hid (show w10.heap.size ≤ w11.heap.size from hb_.size)
 have HBw11 := Lib.hid (HBw10.out.trans (hb_.mono HBw10.out.size))
 have tw11 := Lib.hid (tw10.out.kept (grown_none hb_) (fun e => by cases e))
 have aw11 := Lib.hid (aw10.out.kept (grown_none hb_) (fun e => by cases e))
 have bw11 := Lib.hid (bw10.out.kept (grown_none hb_) (fun e => by cases e))
 have HSLw11 := Lib.hid ((HSLw10.out).next (Nat.le_refl _) hb_)
 have HSBw11 := Lib.hid ((HSBw10.out).next (Nat.le_refl _) hb_)
 clear hb_
 have ct0 := tw11.out.1 0 _ rfl
 go_wp2_with fail
 refine (Closed_any (some A) 5 eL _ _ (Nat.le_refl _) HSLw11.out eL_VT (some ⟨w10.heap.size, 0, none⟩) 1 [4] _ (Nat.le_refl _) (lit_ints (xs := [4]) (by intro x hx; have h : ∀ x ∈ ([4] : List Int), okI x := (by unfold okI; decide +kernel); exact h x hx) (by decide) HIc.out HIc.out.2.2)).mono ?_
 rintro e wC hgot_
 obtain ⟨hb_, A6, c6, rfl, hs_⟩ := hgot_.sl
 rw [eL_clos] at hs_ ⊢
 have HSC := Lib.hid hs_; clear hgot_ hs_
 clear ct0 co0
 have HSwC := Lib.hid (show w11.heap.size ≤ wC.heap.size from hb_.size)
 have HBwC := Lib.hid (HBw11.out.trans (hb_.mono HBw11.out.size))
 have twC := Lib.hid (tw11.out.kept (grown_none hb_) (fun e => by cases e))
 have awC := Lib.hid (aw11.out.kept (grown_none hb_) (fun e => by cases e))
 have bwC := Lib.hid (bw11.out.kept (grown_none hb_) (fun e => by cases e))
 have cwC := Lib.hid (HIc.out.kept (grown_none hb_) (fun e => by cases e))
 have HSLwC := Lib.hid ((HSLw11.out).next (Nat.le_refl _) hb_)
 have HSBwC := Lib.hid ((HSBw11.out).next (Nat.le_refl _) hb_)
 clear hb_
 have ct0 := twC.out.1 0 _ rfl
 obtain ⟨w12, hw12⟩ : ∃ z, wC.alloc (.cells #[.int .i64 4, .int .i64 5] 3) = z := ⟨_, rfl⟩
 have hb_ : Below wC.heap.size wC w12 := by rw [← hw12]; exact (Below.refl _ _).alloc (Nat.le_refl _) _
 have HId := Lib.hid (show BoxL w12 wC.heap.size [.int .i64 4, .int .i64 5] from box_mk hw12)
 have HGw12 := Lib.hid (show w12.heap.size = wC.heap.size + 1 by rw [← hw12]; simp)
 clear ct0
 have co0 := twC.out.1 0 _ rfl
 have HSw12 := Lib.hid (show wC.heap.size ≤ w12.heap.size from hb_.size)
 have HBw12 := Lib.hid (HBwC.out.trans (hb_.mono HBwC.out.size))
 have tw12 := Lib.hid (twC.out.kept (grown_none hb_) (fun e => by cases e))
 have aw12 := Lib.hid (awC.out.kept (grown_none hb_) (fun e => by cases e))
 have bw12 := Lib.hid (bwC.out.kept (grown_none hb_) (fun e => by cases e))
 have cw12 := Lib.hid (cwC.out.kept (grown_none hb_) (fun e => by cases e))
 have HSLw12 := Lib.hid ((HSLwC.out).next (Nat.le_refl _) hb_)
 have HSBw12 := Lib.hid ((HSBwC.out).next (Nat.le_refl _) hb_)
 have HSCw12 := Lib.hid ((HSC.out).next (Nat.le_refl _) hb_)
 clear hb_
 have ct0 := tw12.out.1 0 _ rfl
 go_wp2_with fail
 refine (SameInts_same A6 (some ⟨wC.heap.size, 0, none⟩) c6 2 [4, 5] _ _ _ HSCw12.out (lit_ints (xs := [4, 5]) (by intro x hx; have h : ∀ x ∈ ([4, 5] : List Int), okI x := (by unfold okI; decide +kernel); exact h x hx) (by decide) HId.out HId.out.2.2)).mono ?_
 rintro e w13 ⟨rfl, hbw13⟩
 clear ct0 co0
 have HSw13 := Lib.hid (show w12.heap.size ≤ w13.heap.size from hbw13.size)
 have HBw13 := Lib.hid (HBw12.out.trans (hbw13.mono HBw12.out.size))
 have tw13 := Lib.hid (tw12.out.kept (grown_none hbw13) (fun e => by cases e))
 have aw13 := Lib.hid (aw12.out.kept (grown_none hbw13) (fun e => by cases e))
 have bw13 := Lib.hid (bw12.out.kept (grown_none hbw13) (fun e => by cases e))
 have cw13 := Lib.hid (cw12.out.kept (grown_none hbw13) (fun e => by cases e))
 have dw13 := Lib.hid (HId.out.kept (grown_none hbw13) (fun e => by cases e))
 have HSLw13 := Lib.hid ((HSLw12.out).next (Nat.le_refl _) hbw13)
 have HSBw13 := Lib.hid ((HSBw12.out).next (Nat.le_refl _) hbw13)
 have HSCw13 := Lib.hid ((HSCw12.out).next (Nat.le_refl _) hbw13)
 clear hbw13
 have ct0 := tw13.out.1 0 _ rfl
 go_wp2
 go_ret
 exact ⟨by try rfl, HBw13.out⟩
end Go.Proofs.YtomcebcaendilaaGreatDoor
