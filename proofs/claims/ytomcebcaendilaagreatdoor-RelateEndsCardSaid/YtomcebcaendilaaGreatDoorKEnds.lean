/-
  RelateEnds: row and card.
 Conditions: those of the given row and card (the listed variables of the library hold what the text lays), nothing else.
-/
import Derived.Test.YtomcebcaendilaaGreatDoorHRH
import Derived.Test.YtomcebcaendilaaGreatDoorHRG
import Derived.Test.YtomcebcaendilaaGreatDoorHL
import Derived.Test.YtomcebcaendilaaGreatDoorHW
import Derived.Test.YtomcebcaendilaaGreatDoorHM
import Derived.ShutString
set_option linter.unusedSimpArgs false
set_option linter.unusedVariables false
namespace Go.Cold
open Go Go.RowKit
/-- Where a law of the chapter stands: the tree's box, the tree, a list of numbers. -/
def RsS (w : World) (gt : Nat) (A : Option Addr) (c : Nat) (L : List Dev) (A2 : Option Addr) (c2 : Nat) (ll : List Int) (wr : World) : Prop :=
 Below w.heap.size w wr ∧ BoxL wr gt [.slice A L.length c] ∧ Sl wr wr.heap.size A c L ∧ Sl wr wr.heap.size A2 c2 ll
theorem RsS.below {w wr wx : World} {gt : Nat} {A A2 : Option Addr} {c c2 : Nat} {L : List Dev} {ll : List Int} (h : RsS w gt A c L A2 c2 ll wr) (hb : Below wr.heap.size wr wx) : RsS w gt A c L A2 c2 ll wx :=
 ⟨h.1.trans (hb.mono h.1.size), h.2.1.kept (grown_none hb) (fun e => by cases e), h.2.2.1.next (Nat.le_refl _) hb, h.2.2.2.next (Nat.le_refl _) hb⟩
theorem okI_all {w : World} {B c : Nat} {A : Option Addr} {xs : List Int} (h : Sl w B A c xs) : ∀ n ∈ xs, okI n := by
 intro n hn
 obtain ⟨i, hi, rfl⟩ := List.getElem_of_mem hn
 obtain ⟨b, o, e, hb, h4⟩ := h.2.2 (by omega)
 obtain ⟨cs, h5, h6⟩ := h4 i _ (List.getElem?_eq_getElem hi)
 exact h5.2
theorem flat_one : ∀ l : List Int, (l.map fun x => [Value.int .i64 x]).flatten = l.map fun x => .int .i64 x
 | [] => rfl
 | x :: r => by rw [List.map_cons, List.flatten_cons, flat_one r]; rfl
theorem own_ints {F : Nat → Prop} {w w' : World} {T : TypeId} {xs : List Int} {cs : Array Value} (h : w.alloc (.cells cs T) = w') (hc : cs.toList = xs.map fun x => .int .i64 x) (hok : ∀ x ∈ xs, okI x) (hn : xs.length ≤ maxLen) : OwnsS F w' w.heap.size T (.slice (some ⟨w.heap.size, 0, none⟩) xs.length xs.length) xs := by
 have hs : cs.size = xs.length * 1 := by rw [← Array.length_toList, hc]; simp
 have h1 := World.ownsRow_lit (base := w.heap.size) (e := T) (size := 1) w cs xs.length (Nat.le_refl _) hn hs
 rw [h] at h1
 refine ⟨xs.map fun x => [.int .i64 x], ?_, by simp, fun i x cs' hx hcs => ?_⟩
 ·
  have e : (xs.map fun x => [Value.int .i64 x]).flatten = cs.toList := by rw [hc]; exact flat_one xs
  rw [e]; exact h1
 ·
  rw [List.getElem?_map, hx] at hcs
  cases hcs
  exact ⟨rfl, hok x (List.mem_of_getElem? hx)⟩
/-- Where the law stands that takes batch after batch: what is left lies in a row of its own, so does what was taken. -/
def EnS (w2 : World) (gt b3 : Nat) (A : Option Addr) (c : Nat) (L : List Dev) (T : TypeId) (v6 v7 : Value) (dirty taken : List Int) (wr : World) : Prop :=
 Below w2.heap.size w2 wr ∧ b3 ≤ wr.heap.size ∧ BoxL wr gt [.slice A L.length c] ∧ OwnsS (fun _ => True) wr b3 T v6 dirty ∧ OwnsS (fun _ => True) wr b3 T v7 taken ∧ ∀ q, v7.ownBlock = some q → v6.ownBlock ≠ some q
section
variable {w2 wr wx : World} {gt b3 c : Nat} {A : Option Addr} {L : List Dev} {T : TypeId} {v6 v7 : Value} {dirty taken : List Int}
theorem EnS.below (h : EnS w2 gt b3 A c L T v6 v7 dirty taken wr) (hb : Below wr.heap.size wr wx) : EnS w2 gt b3 A c L T v6 v7 dirty taken wx :=
 ⟨h.1.trans (hb.mono h.1.size), Nat.le_trans h.2.1 hb.size, h.2.2.1.kept (grown_none hb) (fun e => by cases e), h.2.2.2.1.below hb, h.2.2.2.2.1.below hb, h.2.2.2.2.2⟩
/-- A row of another one's is written. -/
theorem EnS.far {row : Option Nat} (h : EnS w2 gt b3 A c L T v6 v7 dirty taken wr) (hg : wr.grownBy wx row) (hn : w2.heap.size ≤ b3 ∧ gt < b3) (hr : ∀ k, row = some k → b3 ≤ k ∧ v6.ownBlock ≠ some k ∧ v7.ownBlock ≠ some k) : EnS w2 gt b3 A c L T v6 v7 dirty taken wx :=
 ⟨h.1.grown hg h.1.size (fun q hq => by have := (hr q hq).1; omega), Nat.le_trans h.2.1 hg.size, h.2.2.1.kept hg (fun e => by have := (hr _ e.symm).1; omega), h.2.2.2.1.keep_int hg (fun k hk e => (hr k e).2.1 hk), h.2.2.2.2.1.keep_int hg (fun k hk e => (hr k e).2.2 hk), h.2.2.2.2.2⟩
/-- A batch is put behind what was taken; what is left lies in another row. -/
theorem EnS.step {bN : Nat} {v9 v' : Value} {rest more : List Int} (h : EnS w2 gt b3 A c L T v6 v7 dirty taken wr) (hn : w2.heap.size ≤ b3 ∧ gt < b3) (hb : b3 ≤ bN) (hr : OwnsS (fun _ => True) wr bN T v9 rest) (hlt : ∀ q, v7.ownBlock = some q → q < bN)
  (ho : OwnsS (fun _ => True) wx b3 T v' (taken ++ more)) (hg : wr.grownBy wx v7.ownBlock) (hv : ∀ k, v'.ownBlock = some k → v7.ownBlock = some k ∨ wr.heap.size ≤ k) : EnS w2 gt b3 A c L T v9 v' rest (taken ++ more) wx := by
 have h7 : ∀ k, v7.ownBlock = some k → b3 ≤ k := fun k hk => (h.2.2.2.2.1.lt k hk).1
 refine ⟨h.1.grown hg h.1.size (fun q hq => by have := h7 q hq; omega), Nat.le_trans h.2.1 hg.size, h.2.2.1.kept hg (fun e => by have := h7 _ e.symm; omega), (hr.keep_int hg (fun k hk e => by have := hlt k e; have := (hr.lt k hk).1; omega)).low hb, ho, fun q hq e => ?_⟩
 have h9 := hr.lt q e
 rcases hv q hq with h1 | h1
 · have := hlt q h1; omega
 · omega
end
def lenW : Value → Nat
 | .slice _ n _ => n
 | _ => 0
theorem rest_snoc (b dirty : List Int) {k : Nat} {n : Int} (h : dirty[k]? = some n) : restB b (dirty.take (k + 1)) = restB b (dirty.take k) ++ if b.contains n then [] else [n] := by
 unfold restB
 rw [List.take_add_one, h, List.filter_append]
 congr 1
 cases hc : b.contains n <;> simp_all
/-- A row lies apart from another one's block that was there before. -/
theorem own_apart {w : World} {base c n : Nat} {T : TypeId} {A : Option Addr} {xs : List Int} {v : Value} (h : OwnsS (fun _ => True) w base T (.slice A n c) xs) (hv : ∀ q, v.ownBlock = some q → q < base) : SlS w (fun b => True ∧ b < w.heap.size ∧ v.ownBlock ≠ some b) A c xs ∨ xs = [] := by
 by_cases h0 : xs = []
 · exact .inr h0
 ·
  obtain ⟨e, h1⟩ := h.ints_sl
  refine .inl ⟨h1.1, h1.2.1, fun hn => ?_⟩
  obtain ⟨b, o, rfl, hb, hc⟩ := h1.2.2 hn
  have := (h.lt b rfl).1
  exact ⟨b, o, rfl, ⟨trivial, hb, fun e => by have := hv b e; omega⟩, hc⟩
end Go.Cold
namespace Go.Proofs.YtomcebcaendilaaGreatDoor
open Go.RowKit Go.Cold
set_option maxRecDepth 100000 in
set_option maxHeartbeats 8000000 in
theorem lawEnds_any (A : Option Addr) (c : Nat) (xs : List Int) (A2 : Option Addr) (c2 : Nat) (ys : List Int) (w : World) (hok : Ok w) (hoa : OkA w) (hx : Sl w w.heap.size A c xs) (hys : Sl w w.heap.size A2 c2 ys) :
  Calls Tryz.prog 9 #[.slice A xs.length c, .slice A2 ys.length c2] w fun e w' => e = .returned (.bool true) ∧ Below w.heap.size w w' := by
 have HOK := Lib.hid hok; have HOA := Lib.hid hoa; have HX := Lib.hid hx
 have hys1 := hys.1; have hys2 := hys.2.1
 unfold maxLen at hys2
 have HYS := Lib.hid hys
 clear hok hoa hx hys
 go_enter Tryz.func9, Tryz.ntmps9
 by_cases hrys : 60 < ys.length
 ·
  have i0ys : (60 : Int) < (ys.length : Int) := by omega
  go_wp2_with fail
  refine (known_any _ HOK.out HOA.out).mono ?_
  rintro e w' ⟨rfl, hb⟩
  go_wp2
  go_ret
  exact ⟨by try rfl, hb⟩
 have i0ys : ¬ (60 : Int) < (ys.length : Int) := by omega
 have HLYS := Lib.hid (show ys.length ≤ 60 by omega)
 go_upto_region 4 with fail
 have htape := tape_new HX.out
 have HNG := Lib.hid (notG_of HOK.out)
 obtain ⟨w1, hw1⟩ : ∃ z, w.alloc (.cells #[.slice A xs.length c, .int .i64 0] 31) = z := ⟨_, rfl⟩
 rw [hw1] at htape
 have hb1 : Below w.heap.size w w1 := by rw [← hw1]; exact (Below.refl _ _).alloc (Nat.le_refl _) _
 have HGw1 := Lib.hid (show w1.heap.size = w.heap.size + 1 by rw [← hw1]; simp)
 try simp only [hw1]
 have HTAPE := Lib.hid htape
 clear hw1 htape
 have HSw1 := Lib.hid (show w.heap.size ≤ w1.heap.size from hb1.size)
 have HBw1 := Lib.hid hb1
 clear hb1
 go_wp2_with fail
 refine (TreeM_any xs 0 w.heap.size w.heap.size 12 w1 (by decide) HTAPE.out ⟨by decide, by decide⟩ (HOK.out.next HBw1.out) HNG.out).mono ?_
 rintro e w2 ⟨AT, cT, L, k1, rfl, ⟨hvt, hmd⟩, hln, hsl, hk1, htp, hg2⟩
 have hb2 : Below w.heap.size w w2 := below_of_grown HBw1.out hg2 HBw1.out.size (Nat.le_refl _)
 have HSB2 := Lib.hid (show w1.heap.size ≤ w2.heap.size from hg2.size)
 have hx1 := hsl.1; have hx2 := hsl.2.1
 unfold maxLen at hx2
 have HVT := Lib.hid hvt; have HMD := Lib.hid hmd; have HLN := Lib.hid (show L.length ≤ 12 by omega); have HSL := Lib.hid (hsl.sl (B := w2.heap.size) (fun x hx => hx.2))
 have HBw2 := Lib.hid hb2
 clear HTAPE hvt hmd hln hsl hk1 htp hg2 hb2
 go_upto_region 4 with fail
 obtain ⟨w3, hw3⟩ : ∃ w3, w2.alloc (.cells #[.slice AT L.length cT] 27) = w3 := ⟨_, rfl⟩
 have hbw3 : Below w2.heap.size w2 w3 := by rw [← hw3]; exact (Below.refl _ _).alloc (Nat.le_refl _) _
 have HGw3 := Lib.hid (show w3.heap.size = w2.heap.size + 1 by rw [← hw3]; simp)
 have HXtw3 := Lib.hid (show BoxL w3 w2.heap.size [.slice AT L.length cT] from box_mk hw3)
 try simp only [hw3]
 have HSTEPw3 := Lib.hid hbw3
 have HSw3 := Lib.hid (show w2.heap.size ≤ w3.heap.size from hbw3.size)
 have HBw3 := Lib.hid (HBw2.out.trans (hbw3.mono HBw2.out.size))
 have HSLw3 := Lib.hid ((HSL.out).next (Nat.le_refl _) hbw3)
 clear hw3 hbw3
 try rw [show w2.heap.size + 1 = w3.heap.size from HGw3.out.symm]
 have HLA := Lib.hid (show ∀ d ∈ L, d.attrs.length ≤ 1000000 from fun d hd => attrs_le (HVT.out.chk d hd))
 have ct0 := HXtw3.out.1 0 _ rfl
 have HWT := Lib.hid (show w2.heap.size < w3.heap.size by have := HGw3.out; omega)
 have HNB := Lib.hid (show w2.heap.size ≤ w3.heap.size ∧ w2.heap.size < w3.heap.size by have := HWT.out; omega)
 go_wp2_with fail
 refine (Closed_any AT cT L _ _ (Nat.le_refl _) HSLw3.out HVT.out A2 c2 ys w.heap.size HBw3.out.size (HYS.out.keep HBw3.out)).mono ?_
 rintro e w4 ⟨hb_, v6, rfl, ho_⟩
 obtain ⟨al, hal⟩ : ∃ z, closR L ys = z := ⟨_, rfl⟩
 rw [hal] at ho_
 clear ct0
 have HAL := Lib.hid hal
 have HEA := Lib.hid (show EndAt L al [] al from by rw [← hal]; exact EndAt.start (clos_in ys) (clos_nodup HVT.out.wf ys))
 have HALL := Lib.hid (show al.length ≤ 256 by rw [← hal]; unfold closR idxs; rw [List.length_map]; have := List.length_filter_le (fun d : Dev => inS L (fun n => ys.contains n) d.idx) L; have := HLN.out; omega)
 have HES := Lib.hid (show EnS w2 w2.heap.size w3.heap.size AT cT L 3 v6 (.slice none 0 0) al [] w4 from ⟨HSTEPw3.out.trans (hb_.mono HSTEPw3.out.size), hb_.size, HXtw3.out.kept (grown_none hb_) (fun e => by cases e), ho_, OwnsS.nil_ _ _ _ _, fun q hq => by cases hq⟩)
 have HLV := Lib.hid (show lenW v6 = al.length by obtain ⟨A6, c6, e, -⟩ := ho_.ints; rw [e]; rfl)
 clear hb_ ho_ hal
 go_wp2_with fail
 go_loopw [6, 7] (fun v6 v7 wr => ∃ (taken dirty : List Int), Hid (EndAt L al taken dirty) ∧ Hid (EnS w2 w2.heap.size w3.heap.size AT cT L 3 v6 v7 dirty taken wr) ∧ Hid (lenW v6 = dirty.length)) (fun v6 _ _ => lenW v6)
 case atStart => exact ⟨[], al, HEA, HES, HLV⟩
 case round =>
  clear HEA HES HLV
  obtain ⟨taken, dirty, HEA, HES, HLV⟩ := hrel
  obtain ⟨A6, c6, hv6, hs6⟩ := HES.out.2.2.2.1.ints
  subst hv6
  have h61 := hs6.1; have h62 := hs6.2.1
  unfold maxLen at h62
  have HDL := Lib.hid (show dirty.length ≤ 256 by have := HEA.out.size; have := HALL.out; omega)
  have HTL := Lib.hid (show taken.length ≤ 256 by have := HEA.out.size; have := HALL.out; omega)
  clear hs6
  have HBR := Lib.hid (HBw2.out.trans (HES.out.1.mono HBw2.out.size))
  by_cases hd : 0 < dirty.length
  ·
   have i1 : (0 : Int) < (dirty.length : Int) := by omega
   have t0 := HES.out.2.2.1.1 0 _ rfl
   have HM := Lib.hid (HEA.out.more HVT.out.wf (by intro e; rw [e] at hd; simp at hd))
   have HNX := Lib.hid (HEA.out.next HVT.out.wf)
   go_wp2_with fail
   refine (Batch_any AT cT L _ w2.heap.size HES.out.1.size (HSL.out.keep HES.out.1) HVT.out A6 c6 dirty _ (Nat.le_refl _) HES.out.2.2.2.1.ints_sl.2 none 0 [] 0 (Nat.zero_le _) Sl.nil_ (by have := HDL.out; omega) (by decide) (HOA.out.next HBR.out)).mono ?_
   rintro e w6 ⟨hb_, v8, rfl, ho_⟩
   clear t0
   obtain ⟨bt, hbt⟩ : ∃ z, batch L dirty [] = z := ⟨_, rfl⟩
   rw [hbt] at HM HNX
   rw [show batR L dirty [] (ordR L dirty) [] = bt from hbt] at ho_
   clear hbt
   have HES6 := Lib.hid (HES.out.below hb_)
   obtain ⟨A8, c8, hv8, hs8⟩ := ho_.ints
   subst hv8
   have h81 := hs8.1; have h82 := hs8.2.1
   unfold maxLen at h82
   have HOB := Lib.hid ho_
   have HSZ6 := Lib.hid hb_.size
   have HOW := Lib.hid (show OwnsS (fun _ => True) w6 w6.heap.size 3 (.slice none 0 0) (restB bt (dirty.take 0)) from OwnsS.nil_ _ _ _ _)
   clear hb_ ho_ hs8
   have HB6 := Lib.hid (show ∀ q, (Value.slice A6 dirty.length c6).ownBlock = some q ∨ u7.ownBlock = some q ∨ (Value.slice A8 bt.length c8).ownBlock = some q → q < w6.heap.size from fun q hq => by rcases hq with h | h | h; exact (HES6.out.2.2.2.1.lt q h).2; exact (HES6.out.2.2.2.2.1.lt q h).2; exact (HOB.out.lt q h).2)
   have HBT := Lib.hid (show bt.length ≤ 256 by have h1 := HNX.out.size; rw [List.length_append] at h1; have := HALL.out; omega)
   have i8 : ((bt.length : Int) == 0) = false := by have h := HM.out.1; rcases bt with _ | ⟨b, r⟩; exact absurd rfl h; simp; omega
   go_wp2_with fail
   clear i8 i1
   obtain ⟨wr0, rfl⟩ : ∃ z, z = wr := ⟨_, rfl⟩
   go_loopw [9, 10] (fun v9 kk wr => ∃ k : Nat, k ≤ dirty.length ∧ kk = .int .i64 k ∧ Hid (EnS w2 w2.heap.size w3.heap.size AT cT L 3 (.slice A6 dirty.length c6) u7 dirty taken wr) ∧ Hid (w6.heap.size ≤ wr.heap.size) ∧ Hid (OwnsS (fun _ => True) wr wr0.heap.size 3 (.slice A8 bt.length c8) bt) ∧ Hid (OwnsS (fun _ => True) wr w6.heap.size 3 v9 (restB bt (dirty.take (k))))) (fun _ kk _ => dirty.length - (intOf kk).toNat)
   case atStart => exact ⟨0, Nat.zero_le _, rfl, HES6, Lib.hid (by exact Nat.le_refl _), HOB, HOW⟩
   case round =>
    clear HOW
    obtain ⟨k, hk, rfl, HER, HWR, HOBR, HOR⟩ := hrel
    by_cases hkt : k < dirty.length
    ·
     have i2 : (k : Int) < (dirty.length : Int) := by omega
     obtain ⟨b5, o5, rfl, hb5, hc5, hok5, hok6⟩ := HER.out.2.2.2.1.ints_sl.2.int hkt
     obtain ⟨n, hn⟩ : ∃ x, dirty[k]'hkt = x := ⟨_, rfl⟩
     rw [hn] at hc5 hok5 hok6
     have HSN := Lib.hid (rest_snoc bt dirty (show dirty[k]? = some n by rw [List.getElem?_eq_getElem hkt, hn]))
     have HOKN := Lib.hid (show okI n from ⟨hok5, hok6⟩)
     clear hb5 hok5 hok6 hn
     have hacl : (restB bt (dirty.take k)).length ≤ k := by unfold restB; refine Nat.le_trans (List.length_filter_le _ _) ?_; rw [List.length_take]; omega
     obtain ⟨acc, hacc⟩ : ∃ z, restB bt (dirty.take k) = z := ⟨_, rfl⟩
     rw [hacc] at hacl HSN HOR
     have HAM := Lib.hid (show acc.length + 1 ≤ maxLen ∧ (acc.length + 1) * 8 ≤ 140737488355328 by have := HDL.out; constructor <;> first | (unfold maxLen; omega) | omega)
     clear hacl hacc
     go_wp2_with fail
     refine (RIn_any A8 c8 bt n _ _ HOBR.out.ints_sl.2).mono ?_
     rintro e w' ⟨rfl, hw_⟩
     rw [hw_]; clear hw_ w'
     obtain ⟨z, hz⟩ : ∃ z, hasL bt n = z := ⟨_, rfl⟩
     rw [hz]
     have HZ := Lib.hid (show bt.contains n = z from hz); clear hz
     cases z
     ·
      have HSP := Lib.hid (show restB bt (dirty.take (k + 1)) = acc ++ [n] by rw [HSN.out, HZ.out]; rfl)
      obtain ⟨wa, hwa⟩ : ∃ z, wr.alloc (.cells #[.int .i64 n] 3) = z := ⟨_, rfl⟩
      have hba : Below wr.heap.size wr wa := by rw [← hwa]; exact (Below.refl _ _).alloc (Nat.le_refl _) _
      have HNEW := Lib.hid (lit_cells hwa (l := [.int .i64 n]) rfl)
      have HBA := Lib.hid hba; clear hba
      have HRD := Lib.hid (show RepS.rdS wa (fun b => True ∧ b < wa.heap.size ∧ u9.ownBlock ≠ some b) n [.int .i64 n] from ⟨rfl, HOKN.out⟩)
      go_wp2_with (at_builtin; go_must (refine wpList_app1 E_int rfl _ _ rfl u9 _ rfl (HOR.out.below HBA.out) wr.heap.size rfl n [.int .i64 n] HNEW.out HRD.out HAM.out.1 HAM.out.2 (Nat.le_trans HWR.out HBA.out.size) ?_); intro v2 w9 hown_ hgrow_ hnew_; have HOWN9 := Lib.hid hown_; have HG9 := Lib.hid hgrow_; clear hown_ hgrow_ hnew_ hc5)
      have HLB := Lib.hid (show ∀ q, u9.ownBlock = some q → w6.heap.size ≤ q from fun q hq => (HOR.out.lt q hq).1)
      have HE9 := Lib.hid ((HER.out.below HBA.out).far HG9.out HNB.out (fun q hq => ⟨by have := HLB.out q hq; have := HES6.out.2.1; omega, fun e => by have := HLB.out q hq; have := HB6.out q (.inl e); omega, fun e => by have := HLB.out q hq; have := HB6.out q (.inr (.inl e)); omega⟩))
      have HOB9 := Lib.hid ((HOBR.out.below HBA.out).keep_int HG9.out (fun q hq e => by have := HLB.out q e; have := HB6.out q (.inr (.inr hq)); omega))
      go_roundw
      case rel => exact ⟨k + 1, by omega, by go_num, HE9, Lib.hid (Nat.le_trans HWR.out (Nat.le_trans HBA.out.size HG9.out.size)), HOB9, by rw [HSP.out]; exact HOWN9⟩
      case measure => simp [intOf]; omega
     ·
      have HSP := Lib.hid (show restB bt (dirty.take (k + 1)) = acc by rw [HSN.out, HZ.out]; simp)
      clear hc5
      try go_wp2
      go_roundw
      case rel => exact ⟨k + 1, by omega, by go_num, HER, HWR, HOBR, by rw [HSP.out]; exact HOR⟩
      case measure => simp [intOf]; omega
    ·
     have i2 : ¬ (k : Int) < (dirty.length : Int) := by omega
     obtain rfl : k = dirty.length := by omega
     rw [List.take_length] at HOR
     obtain ⟨rs, hrs⟩ : ∃ z, restB bt dirty = z := ⟨_, rfl⟩
     rw [hrs] at HOR HM HNX
     clear hrs
     obtain ⟨A9, c9, hv9, hs9⟩ := HOR.out.ints
     subst hv9
     have h91 := hs9.1; have h92 := hs9.2.1
     unfold maxLen at h92
     clear hs9
     have i9 : ((rs.length : Int) == (dirty.length : Int)) = false := by have := HM.out.2; simp; omega
     skip
     have HYS := Lib.hid (own_apart HOBR.out (v := u7) (fun q hq => (HES.out.2.2.2.2.1.lt q hq).2))
     go_wp2_with (at_builtin; go_must (refine wpList_app rfl _ _ rfl u7 (.slice A8 bt.length c8) rfl rfl (run_appL E_int _ u7 taken HER.out.2.2.2.2.1 A8 c8 bt HYS.out (by have := HTL.out; have := HBT.out; unfold maxLen; omega) (by have := HTL.out; have := HBT.out; omega) HER.out.2.1) ?_); rintro v2 w9 ⟨hown_, hgrow_, hnew_⟩; have HOWN9 := Lib.hid hown_; have HG9 := Lib.hid hgrow_; have HN9 := Lib.hid hnew_; clear hown_ hgrow_ hnew_)
     have HEN := Lib.hid (HER.out.step HNB.out HES6.out.2.1 HOR.out (fun q hq => HB6.out q (.inr (.inl hq))) HOWN9.out HG9.out HN9.out)
     go_roundw
     case rel => exact ⟨taken ++ bt, rs, HNX, HEN, Lib.hid rfl⟩
     case measure => have := HM.out.2; simp [lenW]; omega
  ·
   have i1 : ¬ (0 : Int) < (dirty.length : Int) := by omega
   have hd0 : dirty = [] := List.eq_nil_of_length_eq_zero (by omega)
   subst hd0
   obtain ⟨A5, c5, hv5, hs5⟩ := HES.out.2.2.2.2.1.ints
   subst hv5
   have h51 := hs5.1; have h52 := hs5.2.1
   unfold maxLen at h52
   have HRS := Lib.hid (show RsS w w2.heap.size AT cT L A5 c5 taken wr from ⟨HBR.out, HES.out.2.2.1, (HSL.out.keep HES.out.1).more HES.out.1.size, hs5⟩)
   have HOKL := Lib.hid (okI_all hs5)
   clear hs5 HES
   have HORD := Lib.hid (show ∀ (i k : Nat) (h1 : i < taken.length) (h2 : k < taken.length), i < k → aboveB L (taken[k]'h2) (taken[i]'h1) = false ∧ taken[i]'h1 ≠ taken[k]'h2 from fun i k h1 h2 hik => ⟨List.pairwise_iff_getElem.1 HEA.out.order i k h1 h2 hik, List.pairwise_iff_getElem.1 HEA.out.tnodup i k h1 h2 hik⟩)
   have HSIZE := Lib.hid (show taken.length = al.length by have h := HEA.out.size; simpa using h)
   go_wp2_with fail
   go_loopw [11] (fun kk wr => ∃ i : Nat, i ≤ taken.length ∧ kk = .int .i64 i ∧ Hid (RsS w w2.heap.size AT cT L A5 c5 taken wr)) (fun kk _ => taken.length - (intOf kk).toNat)
   case atStart => exact ⟨0, Nat.zero_le _, rfl, HRS⟩
   case round =>
    clear HRS
    obtain ⟨i, hi, rfl, HRS⟩ := hrel
    by_cases hit : i < taken.length
    ·
     have i2 : (i : Int) < (taken.length : Int) := by omega
     go_wp2_with fail
     go_loopw [12] (fun kk wr => ∃ k : Nat, (i < k ∧ k ≤ taken.length) ∧ kk = .int .i64 k ∧ Hid (RsS w w2.heap.size AT cT L A5 c5 taken wr)) (fun kk _ => taken.length - (intOf kk).toNat)
     case atStart => exact ⟨i + 1, ⟨by omega, by omega⟩, by go_num, HRS⟩
     case round =>
      clear HRS
      obtain ⟨k, ⟨hik, hk⟩, rfl, HRS⟩ := hrel
      by_cases hkt : k < taken.length
      ·
       have i3 : (k : Int) < (taken.length : Int) := by omega
       have hf := HORD.out i k hit hkt hik
       obtain ⟨b5, o5, rfl, -, hc5, -, -⟩ := HRS.out.2.2.2.int hit
       obtain ⟨b6, o6, e6, -, hc6, -, -⟩ := HRS.out.2.2.2.int hkt
       cases e6
       have ho1 := HOKL.out _ (List.getElem_mem hit); have ho2 := HOKL.out _ (List.getElem_mem hkt)
       obtain ⟨x, hx⟩ : ∃ x, taken[i]'hit = x := ⟨_, rfl⟩
       obtain ⟨y, hy⟩ : ∃ x, taken[k]'hkt = x := ⟨_, rfl⟩
       rw [hx] at hc5 hf ho1
       rw [hy] at hc6 hf ho2
       have HC5 := Lib.hid hc5; have HC6 := Lib.hid hc6; have HOX := Lib.hid (show okI x from ho1); have HOY := Lib.hid (show okI y from ho2); have HF := Lib.hid hf
       clear hc5 hc6 ho1 ho2 hf hx hy
       have HBQ := Lib.hid HRS.out.1; have HTQ := Lib.hid HRS.out.2.1; have HSQ := Lib.hid HRS.out.2.2.1; have HIQ := Lib.hid HRS.out.2.2.2
       go_upto_region 25 with fail
       refine wp_region_held_drew (S := fun w' => BoxL w' w2.heap.size [.slice AT L.length cT] ∧ w'.cell? ⟨b5, o5 + i, none⟩ = some (.int .i64 x) ∧ w'.cell? ⟨b5, o5 + k, none⟩ = some (.int .i64 y)) (by kernel_rfl) ⟨HTQ.out.drew, by show (World.drew wr).cell? _ = _; exact HC5.out, by show (World.drew wr).cell? _ = _; exact HC6.out⟩ (fun hS0 => ?_)
       obtain ⟨wd1, hwd1⟩ : ∃ z, World.drew wr = z := ⟨_, rfl⟩
       rw [hwd1] at hS0 ⊢
       have hb_ : Below wr.heap.size wr wd1 := by rw [← hwd1]; exact below_drewN_self _ _ 1
       clear hwd1
       have HSAwd1 := Lib.hid hS0; clear hS0
       have HSwd1 := Lib.hid (show wr.heap.size ≤ wd1.heap.size from hb_.size)
       have HBwd1 := Lib.hid (HBQ.out.trans (hb_.mono HBQ.out.size))
       have twd1 := Lib.hid (HTQ.out.kept (grown_none hb_) (fun e => by cases e))
       have HSLwd1 := Lib.hid ((HSQ.out).next (Nat.le_refl _) hb_)
       have HILwd1 := Lib.hid ((HIQ.out).next (Nat.le_refl _) hb_)
       clear hb_
       refine wpAnyH_take (i := 0) (oi := ⟨some 76, _, _, _, _, _⟩) (v := .agg #[.slice AT L.length cT]) rfl (by kernel_rfl) (by kernel_rfl) (by kernel_rfl) (fun _ _ _ h => h) (Or.inl ⟨by rfl, fun w' hS => by (have u0_ := hS.1.1 0 _ rfl; go_simp)⟩) HSAwd1.out ?_
       try simp only [Act.put, List.setIfInBounds_toArray, List.set_cons_zero, List.set_cons_succ]
       refine wpAnyH_take (i := 1) (oi := ⟨some 77, _, _, _, _, _⟩) (v := .slice (some ⟨b5, o5, none⟩) taken.length c5) rfl (by kernel_rfl) (by kernel_rfl) (by kernel_rfl) (fun _ _ _ h => h) (Or.inl ⟨by rfl, fun w' hS => by go_simp⟩) HSAwd1.out ?_
       try simp only [Act.put, List.setIfInBounds_toArray, List.set_cons_zero, List.set_cons_succ]
       refine wpAnyH_take (i := 2) (oi := ⟨some 78, _, _, _, _, _⟩) (v := .int .i64 k) rfl (by kernel_rfl) (by kernel_rfl) (by kernel_rfl) (fun _ _ _ h => h) (Or.inl ⟨by rfl, fun w' hS => by go_simp⟩) HSAwd1.out ?_
       try simp only [Act.put, List.setIfInBounds_toArray, List.set_cons_zero, List.set_cons_succ]
       refine wpAnyH_take (i := 3) (oi := ⟨some 79, _, _, _, _, _⟩) (v := .pointer (some ⟨b5, o5 + k, none⟩)) rfl (by kernel_rfl) (by kernel_rfl) (by kernel_rfl) (fun _ _ _ h => h) (Or.inl ⟨by rfl, fun w' hS => by go_simp⟩) HSAwd1.out ?_
       try simp only [Act.put, List.setIfInBounds_toArray, List.set_cons_zero, List.set_cons_succ]
       refine wpAnyH_take (i := 4) (oi := ⟨some 80, _, _, _, _, _⟩) (v := .int .i64 y) rfl (by kernel_rfl) (by kernel_rfl) (by kernel_rfl) (fun _ _ _ h => h) (Or.inl ⟨by rfl, fun w' hS => by (have u0_ := hS.2.2; go_simp)⟩) HSAwd1.out ?_
       try simp only [Act.put, List.setIfInBounds_toArray, List.set_cons_zero, List.set_cons_succ]
       refine wpAnyH_take (i := 5) (oi := ⟨some 81, _, _, _, _, _⟩) (v := .slice (some ⟨b5, o5, none⟩) taken.length c5) rfl (by kernel_rfl) (by kernel_rfl) (by kernel_rfl) (fun _ _ _ h => h) (Or.inl ⟨by rfl, fun w' hS => by go_simp⟩) HSAwd1.out ?_
       try simp only [Act.put, List.setIfInBounds_toArray, List.set_cons_zero, List.set_cons_succ]
       refine wpAnyH_take (i := 6) (oi := ⟨some 82, _, _, _, _, _⟩) (v := .int .i64 i) rfl (by kernel_rfl) (by kernel_rfl) (by kernel_rfl) (fun _ _ _ h => h) (Or.inl ⟨by rfl, fun w' hS => by go_simp⟩) HSAwd1.out ?_
       try simp only [Act.put, List.setIfInBounds_toArray, List.set_cons_zero, List.set_cons_succ]
       refine wpAnyH_take (i := 7) (oi := ⟨some 83, _, _, _, _, _⟩) (v := .pointer (some ⟨b5, o5 + i, none⟩)) rfl (by kernel_rfl) (by kernel_rfl) (by kernel_rfl) (fun _ _ _ h => h) (Or.inl ⟨by rfl, fun w' hS => by go_simp⟩) HSAwd1.out ?_
       try simp only [Act.put, List.setIfInBounds_toArray, List.set_cons_zero, List.set_cons_succ]
       refine wpAnyH_take (i := 8) (oi := ⟨some 84, _, _, _, _, _⟩) (v := .int .i64 x) rfl (by kernel_rfl) (by kernel_rfl) (by kernel_rfl) (fun _ _ _ h => h) (Or.inl ⟨by rfl, fun w' hS => by (have u0_ := hS.2.1; go_simp)⟩) HSAwd1.out ?_
       try simp only [Act.put, List.setIfInBounds_toArray, List.set_cons_zero, List.set_cons_succ]
       refine wpAnyH_ready (rs := [9]) (by kernel_rfl) (by simp) ?_
       refine AllReadyH.cons (o := ⟨some 85, .call ⟨_, _, _⟩, _, _, _, _⟩) rfl (fun K hK => ?_) AllReadyH.nil
       go_simp
       go_at_call 31
       refine (RAbove_any AT cT L y x _ _ (Nat.le_refl _) HSLwd1.out HVT.out HOX.out).mono ?_
       rintro e' q1 ⟨rfl, hb_⟩
       rw [HF.out.1]
       have HSAq1 := Lib.hid (show BoxL q1 w2.heap.size [.slice AT L.length cT] ∧ q1.cell? ⟨b5, o5 + i, none⟩ = some (.int .i64 x) ∧ q1.cell? ⟨b5, o5 + k, none⟩ = some (.int .i64 y) from ⟨(HSAwd1.out.1).kept (grown_none hb_) (fun e => by cases e), cell_on hb_ (HSAwd1.out.2.1), cell_on hb_ (HSAwd1.out.2.2)⟩)
       have HSq1 := Lib.hid (show wd1.heap.size ≤ q1.heap.size from hb_.size)
       have HBq1 := Lib.hid (HBwd1.out.trans (hb_.mono HBwd1.out.size))
       have tq1 := Lib.hid (twd1.out.kept (grown_none hb_) (fun e => by cases e))
       have HSLq1 := Lib.hid ((HSLwd1.out).next (Nat.le_refl _) hb_)
       have HILq1 := Lib.hid ((HILwd1.out).next (Nat.le_refl _) hb_)
       clear hb_
       refine hK.out _ _ HSAq1.out (fun _ => ?_)
       clear hK K
       try simp only [Act.put, List.setIfInBounds_toArray, List.set_cons_zero, List.set_cons_succ]
       refine wpAnyH_take (i := 10) (oi := ⟨some 86, _, _, _, _, _⟩) (v := .bool false) rfl (by kernel_rfl) (by kernel_rfl) (by kernel_rfl) (fun _ _ _ h => h) (Or.inl ⟨by rfl, fun w' hS => by go_simp⟩) HSAq1.out ?_
       try simp only [Act.put, List.setIfInBounds_toArray, List.set_cons_zero, List.set_cons_succ]
       refine wpAnyH_take (i := 11) (oi := ⟨some 87, _, _, _, _, _⟩) (v := .slice (some ⟨b5, o5, none⟩) taken.length c5) rfl (by kernel_rfl) (by kernel_rfl) (by kernel_rfl) (fun _ _ _ h => h) (Or.inl ⟨by rfl, fun w' hS => by go_simp⟩) HSAq1.out ?_
       try simp only [Act.put, List.setIfInBounds_toArray, List.set_cons_zero, List.set_cons_succ]
       refine wpAnyH_take (i := 12) (oi := ⟨some 88, _, _, _, _, _⟩) (v := .int .i64 i) rfl (by kernel_rfl) (by kernel_rfl) (by kernel_rfl) (fun _ _ _ h => h) (Or.inl ⟨by rfl, fun w' hS => by go_simp⟩) HSAq1.out ?_
       try simp only [Act.put, List.setIfInBounds_toArray, List.set_cons_zero, List.set_cons_succ]
       refine wpAnyH_take (i := 13) (oi := ⟨some 89, _, _, _, _, _⟩) (v := .pointer (some ⟨b5, o5 + i, none⟩)) rfl (by kernel_rfl) (by kernel_rfl) (by kernel_rfl) (fun _ _ _ h => h) (Or.inl ⟨by rfl, fun w' hS => by go_simp⟩) HSAq1.out ?_
       try simp only [Act.put, List.setIfInBounds_toArray, List.set_cons_zero, List.set_cons_succ]
       refine wpAnyH_take (i := 14) (oi := ⟨some 90, _, _, _, _, _⟩) (v := .int .i64 x) rfl (by kernel_rfl) (by kernel_rfl) (by kernel_rfl) (fun _ _ _ h => h) (Or.inl ⟨by rfl, fun w' hS => by (have u0_ := hS.2.1; go_simp)⟩) HSAq1.out ?_
       try simp only [Act.put, List.setIfInBounds_toArray, List.set_cons_zero, List.set_cons_succ]
       refine wpAnyH_take (i := 15) (oi := ⟨some 91, _, _, _, _, _⟩) (v := .slice (some ⟨b5, o5, none⟩) taken.length c5) rfl (by kernel_rfl) (by kernel_rfl) (by kernel_rfl) (fun _ _ _ h => h) (Or.inl ⟨by rfl, fun w' hS => by go_simp⟩) HSAq1.out ?_
       try simp only [Act.put, List.setIfInBounds_toArray, List.set_cons_zero, List.set_cons_succ]
       refine wpAnyH_take (i := 16) (oi := ⟨some 92, _, _, _, _, _⟩) (v := .int .i64 k) rfl (by kernel_rfl) (by kernel_rfl) (by kernel_rfl) (fun _ _ _ h => h) (Or.inl ⟨by rfl, fun w' hS => by go_simp⟩) HSAq1.out ?_
       try simp only [Act.put, List.setIfInBounds_toArray, List.set_cons_zero, List.set_cons_succ]
       refine wpAnyH_take (i := 17) (oi := ⟨some 93, _, _, _, _, _⟩) (v := .pointer (some ⟨b5, o5 + k, none⟩)) rfl (by kernel_rfl) (by kernel_rfl) (by kernel_rfl) (fun _ _ _ h => h) (Or.inl ⟨by rfl, fun w' hS => by go_simp⟩) HSAq1.out ?_
       try simp only [Act.put, List.setIfInBounds_toArray, List.set_cons_zero, List.set_cons_succ]
       refine wpAnyH_take (i := 18) (oi := ⟨some 94, _, _, _, _, _⟩) (v := .int .i64 y) rfl (by kernel_rfl) (by kernel_rfl) (by kernel_rfl) (fun _ _ _ h => h) (Or.inl ⟨by rfl, fun w' hS => by (have u0_ := hS.2.2; go_simp)⟩) HSAq1.out ?_
       try simp only [Act.put, List.setIfInBounds_toArray, List.set_cons_zero, List.set_cons_succ]
       have hxy : (x == y) = false := beq_eq_false_iff_ne.2 HF.out.2
       refine wpAnyH_take (i := 19) (oi := ⟨some 95, _, _, _, _, _⟩) (v := .bool false) rfl (by kernel_rfl) (by kernel_rfl) (by kernel_rfl) (fun _ _ _ h => h) (Or.inl ⟨by rfl, fun w' hS => by go_simp⟩) HSAq1.out ?_
       try simp only [Act.put, List.setIfInBounds_toArray, List.set_cons_zero, List.set_cons_succ]
       refine wpAnyH_take (i := 20) (oi := ⟨some 96, _, _, _, _, _⟩) (v := .bool false) rfl (by kernel_rfl) (by kernel_rfl) (by kernel_rfl) (fun _ _ _ h => h) (Or.inl ⟨by rfl, fun w' hS => by go_simp⟩) HSAq1.out ?_
       try simp only [Act.put, List.setIfInBounds_toArray, List.set_cons_zero, List.set_cons_succ]
       clear hxy
       refine wpAnyH_done (by kernel_rfl) ?_ _
       have HRN := Lib.hid (show RsS w w2.heap.size AT cT L (some ⟨b5, o5, none⟩) c5 taken q1 from ⟨HBq1.out, tq1.out, HSLq1.out, HILq1.out⟩)
       go_wp2
       go_roundw
       case rel => exact ⟨k + 1, ⟨by omega, by omega⟩, by go_num, HRN⟩
       case measure => simp [intOf]; omega
      ·
       have i3 : ¬ (k : Int) < (taken.length : Int) := by omega
       go_wp2
       go_roundw
       case rel => exact ⟨i + 1, by omega, by go_num, HRS⟩
       case measure => simp [intOf]; omega
    ·
     have i2 : ¬ (i : Int) < (taken.length : Int) := by omega
     have HBQ := Lib.hid HRS.out.1; have HTQ := Lib.hid HRS.out.2.1; have HSQ := Lib.hid HRS.out.2.2.1; have HIQ := Lib.hid HRS.out.2.2.2
     have ct0 := HTQ.out.1 0 _ rfl
     go_wp2_with fail
     refine (Closed_any AT cT L _ _ (Nat.le_refl _) HSQ.out HVT.out A2 c2 ys w.heap.size HBQ.out.size (HYS.out.keep HBQ.out)).mono ?_
     rintro e wz hgot_
     obtain ⟨hb_, A7, c7, rfl, -⟩ := hgot_.sl
     rw [HAL.out]
     clear ct0
     have HSwz := Lib.hid (show wr.heap.size ≤ wz.heap.size from hb_.size)
     have HBwz := Lib.hid (HBQ.out.trans (hb_.mono HBQ.out.size))
     have twz := Lib.hid (HTQ.out.kept (grown_none hb_) (fun e => by cases e))
     have HSLwz := Lib.hid ((HSQ.out).next (Nat.le_refl _) hb_)
     have HILwz := Lib.hid ((HIQ.out).next (Nat.le_refl _) hb_)
     clear hb_ hgot_
     have i7 : ((taken.length : Int) == (al.length : Int)) = true := by rw [HSIZE.out]; simp
     go_wp2_with fail
     refine (known_any _ (HOK.out.next HBwz.out) (HOA.out.next HBwz.out)).mono ?_
     rintro e w' ⟨rfl, hb⟩
     go_wp2
     go_ret
     exact ⟨by try rfl, HBwz.out.trans (hb.mono HBwz.out.size)⟩
end Go.Proofs.YtomcebcaendilaaGreatDoor
namespace Go.Proofs.YtomcebcaendilaaGreatDoor
open Go.RowKit Go.Cold
namespace cRelateEnds
open Go.ChangeShapes Go.WideShapes Go.ChangeAt
open Go.ChangeMaps (open_string)
set_option maxRecDepth 100000
theorem reads (os : Os) {H : Type} (enc : TypeId × Value → H) : ∃ places, DataW.whole enc Tryz.prog ((World.laidAll Tryz.prog os Rows.relateEndsRow.laid).forCall (fun _ _ => 0) ⟨#[], #[.slice none 0 0, .slice none 0 0], []⟩).memory Tryz.f9.params.toList Rows.relateEndsSpec.vars false (#[.slice none 0 0, .slice none 0 0] : Array Value).toList 8 = some ([.nil, .nil], [], places) :=
 ⟨[], by kernel_rfl⟩
theorem lifted (os : Os) (started : os.Started) (H : Type) (enc : TypeId × Value → H) (F : Stop.Interp) :
  ReturnsInHanded {} Tryz.checked os 9 .any ((OpenSpec.ofChange Rows.relateEndsSpec).preRow enc Tryz.prog Tryz.f9 Rows.relateEndsRow.domain false Rows.relateEndsRow.laid) (((OpenSpec.ofChange Rows.relateEndsSpec).at F).post enc Tryz.prog Tryz.f9 false true false false) := by
 obtain ⟨places, hx⟩ := reads os enc
 refine law_lifted os started H enc F (by kernel_rfl) Tryz.func9 #[.slice none 0 0, .slice none 0 0] (World.shaped_of_ZipB (by kernel_rfl) (by kernel_rfl)) (by kernel_rfl)
  (OpenSpec.preRow_of_cond 8 hx (by kernel_rfl) (fun k hk => by cases hk) (by kernel_rfl) (laidMet_laidAll _ (by kernel_rfl) (by kernel_rfl))) rfl rfl
  (fun ds hl => by
   rw [Tryz.params9] at hl
   match ds, hl with
   | [d0, d1], _ => rfl) (by kernel_rfl) ?_
 intro W base args ds ps hval hA hlt hz hsh hlaid
 rw [Tryz.params9] at hA hval
 obtain ⟨v0, vs0, d0, ds0, p0, q0, hargs, rfl, rfl, h0, r0⟩ := trodAll_cons hA
 obtain ⟨v1, vs1, d1, ds1, p1, q1, rfl, rfl, rfl, h1, r1⟩ := trodAll_cons r0
 obtain ⟨rfl, rfl, rfl⟩ := trodAll_nil r1
 obtain rfl : args = #[v0, v1] := by cases args; simp_all
 obtain ⟨A0, c0, xs0, rfl, s0⟩ := open_nums Tryz.underlying24 Tryz.underlying3 (by kernel_rfl) (hval 0 24 v0 rfl rfl) h0 (fun x hx => hlt x (List.mem_append_left _ hx))
 obtain ⟨A1, c1, xs1, rfl, s1⟩ := open_nums Tryz.underlying24 Tryz.underlying3 (by kernel_rfl) (hval 1 24 v1 rfl rfl) h1 (fun x hx => hlt x (List.mem_append_right _ (List.mem_append_left _ hx)))
 exact lawEnds_any A0 c0 xs0 A1 c1 xs1 W (show Ok W from Tryz.laysM146.s1_3 W hsh) (oka_of_laid hlaid) s0 s1
theorem said : Rows.RelateEndsSaid :=
 OpenClaim.holds_of_cond 9 Tryz.f9 rfl rfl rfl rfl rfl rfl rfl ⟨rfl, rfl, rfl, rfl, rfl⟩ rfl rfl rfl rfl rfl (by kernel_rfl) Tryz.func9 (by kernel_rfl)
  (of_decide_eq_true (by kernel_rfl)) (by unfold Func.isWrapper; first | (rw [if_pos (by decide +kernel)]; kernel_rfl) | (rw [if_neg (by decide +kernel)]; exact ⟨rfl, rfl⟩))
  (fun os started H enc _ F => by rw [OpenClaim.pre_eq_preRow]; exact lifted os started H enc F)
theorem plain (f : FuncId) (fn : Func) (hf : Tryz.pinned.checked.prog.funcNamed Rows.relateEndsRow.func = some f) (hfn : Tryz.pinned.checked.prog.funcs[f]? = some fn) :
  true = Tryz.pinned.checked.prog.looks [] ∧ ∀ (j : Nat) t, fn.params[j]? = some t → Tryz.pinned.checked.prog.wantsStandIn t = false := by
 obtain rfl : f = 9 := Option.some.inj ((show Tryz.prog.funcNamed Rows.relateEndsRow.func = some 9 by kernel_rfl).symm.trans hf) |>.symm
 obtain rfl : fn = Tryz.f9 := (Option.some.inj (Tryz.func9.symm.trans hfn)).symm
 refine ⟨by kernel_rfl, fun j t ht => ?_⟩
 rw [Tryz.params9] at ht
 have hm : t ∈ [24, 24] := by simpa using Array.mem_of_getElem? ht
 have hall : ([24, 24].all fun u => !Tryz.prog.wantsStandIn u) = true := by kernel_rfl
 exact (show Tryz.prog.wantsStandIn t = false by simpa using List.all_eq_true.1 hall t hm)
/-- The card. -/
theorem card : Rows.RelateEndsCardSaid :=
 Claim7.holds_tied_plain_at .later [] _ _ _ _ said (fun _ h => by cases h) (by kernel_rfl) (fun _ h => by cases h) relateEnds_row_tie rfl ⟨rfl, rfl⟩ (by kernel_rfl) rfl plain (by kernel_rfl)
end cRelateEnds
end Go.Proofs.YtomcebcaendilaaGreatDoor
