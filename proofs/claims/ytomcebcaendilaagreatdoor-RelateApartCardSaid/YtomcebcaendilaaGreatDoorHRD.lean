/-
  The walks of the reference's Closed and Batch.
-/
import Derived.Test.YtomcebcaendilaaGreatDoorHRC
set_option linter.unusedSimpArgs false
set_option linter.unusedVariables false
namespace Go.Cold
open Go Go.RowKit
theorem any_snoc {α : Type} {p : α → Bool} {l : List α} {k : Nat} {x : α} (h : l[k]? = some x) : (l.take (k + 1)).any p = ((l.take k).any p || p x) := by
 rw [List.take_add_one, h, List.any_append]; simp
theorem all_snoc {α : Type} {p : α → Bool} {l : List α} {k : Nat} {x : α} (h : l[k]? = some x) : (l.take (k + 1)).all p = ((l.take k).all p && p x) := by
 rw [List.take_add_one, h, List.all_append]; simp
/-- What the reference puts into its closed list. -/
def clB (L : List Dev) (l : List Int) (d : Dev) : Bool := l.contains d.idx || l.any fun k => aboveB L k d.idx
theorem clB_clos {L : List Dev} (h : WF L) (l : List Int) : idxs (L.filter (clB L l)) = closR L l := by
 unfold closR
 congr 1
 apply List.filter_congr
 intro d hd
 exact closed_same h l hd
theorem filt_snoc {L : List Dev} {p : Dev → Bool} {k : Nat} {y : Dev} (h : L[k]? = some y) : idxs ((L.take (k + 1)).filter p) = if p y then idxs ((L.take k).filter p) ++ [y.idx] else idxs ((L.take k).filter p) := by
 rw [List.take_add_one, h, List.filter_append]
 unfold idxs
 rw [List.map_append, show (some y).toList = [y] from rfl]
 cases hc : p y
 · rw [List.filter_cons_of_neg (by rw [hc]; decide)]; simp
 · rw [List.filter_cons_of_pos (by exact hc)]; simp
theorem batR_step (L : List Dev) (dirty busy : List Int) {l : List Int} {k : Nat} {n : Int} (h : l[k]? = some n) (acc : List Int) : batR L dirty busy (l.drop k) acc = if okBat L dirty busy acc n then batR L dirty busy (l.drop (k + 1)) (acc ++ [n]) else batR L dirty busy (l.drop (k + 1)) acc := by
 have hk := (List.getElem?_eq_some_iff.1 h).1
 have hn := (List.getElem?_eq_some_iff.1 h).2
 rw [List.drop_eq_getElem_cons hk, hn]
 rfl
theorem batR_end (L : List Dev) (dirty busy l acc : List Int) : batR L dirty busy (l.drop l.length) acc = acc := by rw [List.drop_length]; rfl
end Go.Cold
namespace Go.Proofs.YtomcebcaendilaaGreatDoor
open Go.RowKit Go.Cold
set_option maxRecDepth 100000 in
set_option maxHeartbeats 4000000 in
/-- The reference's Closed. -/
theorem RClosed_any (A : Option Addr) (c : Nat) (L : List Dev) (w : World) (B : Nat) (hB : B ≤ w.heap.size) (hx : Sl w B A c L) (hv : VT L) (A2 : Option Addr) (c2 : Nat) (xs : List Int) (B2 : Nat) (hB2 : B2 ≤ w.heap.size) (hy : Sl w B2 A2 c2 xs) :
  Calls Tryz.prog 26 #[.agg #[.slice A L.length c], .slice A2 xs.length c2] w (GotI (closR L xs) w) := by
 have hx1 := hx.1; have hx2 := hx.2.1
 unfold maxLen at hx2
 have HX := Lib.hid hx; have HB := Lib.hid hB; have HV := Lib.hid hv; have HY := Lib.hid hy; have HYB := Lib.hid hB2; clear hx hB hv hy hB2
 have HLN := Lib.hid HV.out.size
 go_enter Tryz.func26, Tryz.ntmps26
 go_upto_region 1 with fail
 obtain ⟨w1, hw1⟩ : ∃ w1, w.alloc (.cells #[.slice A L.length c] 27) = w1 := ⟨_, rfl⟩
 have hbw1 : Below w.heap.size w w1 := by rw [← hw1]; exact (Below.refl _ _).alloc (Nat.le_refl _) _
 have HGw1 := Lib.hid (show w1.heap.size = w.heap.size + 1 by rw [← hw1]; simp)
 have HXtw1 := Lib.hid (show BoxL w1 w.heap.size [.slice A L.length c] from box_mk hw1)
 try simp only [hw1]
 have HBw1 := Lib.hid hbw1
 clear hw1 hbw1
 try rw [show w.heap.size + 1 = w1.heap.size from HGw1.out.symm]
 have ct0 := HXtw1.out.1 0 _ rfl
 have hy1 := HY.out.1; have hy2 := HY.out.2.1
 unfold maxLen at hy2
 have HTB := Lib.hid (show w.heap.size < w1.heap.size by have := HGw1.out; omega)
 have HOW := Lib.hid (show OwnsS (fun _ => True) w1 w1.heap.size 3 (.slice none 0 0) (idxs ((L.take 0).filter (clB L xs))) from OwnsS.nil_ _ _ _ _)
 go_wp2_with fail
 clear ct0
 go_loopw [5, 6] (fun v i wr => ∃ k : Nat, k ≤ L.length ∧ i = .int .i64 k ∧ Hid (Below w1.heap.size w1 wr) ∧ Hid (BoxL wr w.heap.size [.slice A L.length c]) ∧ Hid (OwnsS (fun _ => True) wr w1.heap.size 3 v (idxs ((L.take (k)).filter (clB L xs))))) (fun _ i _ => L.length - (intOf i).toNat)
 case atStart => exact ⟨0, Nat.zero_le _, rfl, Lib.hid (Below.refl _ _), HXtw1, HOW⟩
 case round =>
  clear HOW
  obtain ⟨k, hk, rfl, HBR, HTR, HOWN⟩ := hrel
  obtain ⟨wo, rfl⟩ : ∃ z, z = wr := ⟨_, rfl⟩
  by_cases hlt : k < L.length
  ·
   have i1 : (k : Int) < (L.length : Int) := by omega
   obtain ⟨b3, o3, rfl, hb3, A3, c3, hok3, hat3, hcs3⟩ := (HX.out.keep ((HBw1.out.trans (HBR.out.mono HBw1.out.size)).mono HB.out)).dev hlt
   have hxk : L[k]? = some L[k] := List.getElem?_eq_getElem hlt
   obtain ⟨y, hy⟩ : ∃ y, L[k]'hlt = y := ⟨_, rfl⟩
   rw [hy] at hok3 hcs3 hxk
   have HXK := Lib.hid hxk; have HOK3 := Lib.hid hok3
   obtain ⟨y0, y1, y2, y3, y4, y5, y6, y7, y8, y9⟩ := hcs3
   clear hxk hok3 hat3 hy hb3
   have hst := filt_snoc (p := clB L xs) HXK.out
   have hacl := ord_len (L := L) (p := clB L xs) k
   obtain ⟨acc, hacc⟩ : ∃ z, idxs ((L.take (k)).filter (clB L xs)) = z := ⟨_, rfl⟩
   rw [hacc] at hacl HOWN hst
   have HST := Lib.hid hst; clear hacc hst
   have HAM := Lib.hid (show acc.length + 1 ≤ maxLen ∧ (acc.length + 1) * 8 ≤ 140737488355328 by have := HLN.out; constructor <;> first | (unfold maxLen; omega) | omega); clear hacl
   have ct0 := HTR.out.1 0 _ rfl
   go_wp2_with fail
   refine (RIn_any A2 c2 xs y.idx _ B2 (HY.out.keep ((HBw1.out.trans (HBR.out.mono HBw1.out.size)).mono HYB.out))).mono ?_
   rintro e w' ⟨rfl, hw_⟩
   rw [hw_]; clear hw_ w'
   clear y0 y1 y2 y3 y4 y5 y6 y7 y8 y9
   clear ct0
   obtain ⟨z0, hz0⟩ : ∃ z, hasL xs y.idx = z := ⟨_, rfl⟩
   rw [hz0]
   have HZ0 := Lib.hid hz0; clear hz0
   go_wp2_with fail
   go_loopw [8, 9] (fun v i wr => ∃ (z : Bool) (q : Nat), q ≤ xs.length ∧ v = .bool z ∧ i = .int .i64 q ∧ Hid (z = (z0 || (xs.take q).any fun k => aboveB L k y.idx)) ∧ Hid (Below wo.heap.size wo wr)) (fun _ i _ => xs.length - (intOf i).toNat)
   case atStart => exact ⟨z0, 0, Nat.zero_le _, rfl, rfl, Lib.hid (by simp), Lib.hid (Below.refl _ _)⟩
   case round =>
    obtain ⟨z, q, hq, rfl, rfl, HZ, HBQ⟩ := hrel
    have HBW := Lib.hid (HBR.out.trans (HBQ.out.mono HBR.out.size)); have HTQ := Lib.hid (HTR.out.kept (grown_none HBQ.out) (fun e => by cases e)); have HOQ := Lib.hid (HOWN.out.below HBQ.out)
    by_cases hqt : q < xs.length
    ·
     have i2 : (q : Int) < (xs.length : Int) := by omega
     obtain ⟨b4, o4, rfl, hb4, hc4, hok4, hok5⟩ := (HY.out.keep ((HBw1.out.trans (HBW.out.mono HBw1.out.size)).mono HYB.out)).int hqt
     obtain ⟨x, hxq⟩ : ∃ x, xs[q]'hqt = x := ⟨_, rfl⟩
     rw [hxq] at hc4 hok4 hok5
     have HXQ := Lib.hid (show xs[q]? = some x by rw [List.getElem?_eq_getElem hqt, hxq])
     have hsn := any_snoc (p := fun k => aboveB L k y.idx) HXQ.out
     have HSN := Lib.hid hsn; have HC4 := Lib.hid hc4; clear hxq hsn hok4 hok5
     cases z
     ·
      go_upto_region 10 with fail
      refine wp_region_held_drew (S := fun w' => BoxL w' w.heap.size [.slice (some ⟨b3, o3, none⟩) L.length c] ∧ w'.cell? ⟨b4, o4 + q, none⟩ = some (.int .i64 x)) (by kernel_rfl) ⟨HTQ.out.drew, by show (World.drew wr).cell? _ = _; exact HC4.out⟩ (fun hS0 => ?_)
      obtain ⟨wd, hwd⟩ : ∃ z, World.drew wr = z := ⟨_, rfl⟩
      rw [hwd] at hS0 ⊢
      have hb_ : Below wr.heap.size wr wd := by rw [← hwd]; exact below_drewN_self _ _ 1
      have HD1 := Lib.hid hb_
      clear hwd hS0
      have HBwd := Lib.hid (HBW.out.trans (hb_.mono HBW.out.size))
      have twd := Lib.hid (HTQ.out.kept (grown_none hb_) (fun e => by cases e))
      have HOwd := Lib.hid (HOQ.out.below hb_)
      clear hb_
      have HSQ := Lib.hid (show BoxL wd w.heap.size [.slice (some ⟨b3, o3, none⟩) L.length c] ∧ wd.cell? ⟨b4, o4 + q, none⟩ = some (.int .i64 x) from ⟨twd.out, (HD1.out.cell (p := ⟨b4, o4 + q, none⟩) (block_lt_of_cell HC4.out)).trans HC4.out⟩)
      refine wpAnyH_take (i := 0) (oi := ⟨some 32, _, _, _, _, _⟩) (v := .bool false) rfl (by kernel_rfl) (by kernel_rfl) (by kernel_rfl) (fun _ _ _ h => h) (Or.inl ⟨by rfl, fun w' hS => by go_simp⟩) HSQ.out ?_
      try simp only [Act.put, List.setIfInBounds_toArray, List.set_cons_zero, List.set_cons_succ]
      refine wpAnyH_take (i := 1) (oi := ⟨some 33, _, _, _, _, _⟩) (v := .bool false) rfl (by kernel_rfl) (by kernel_rfl) (by kernel_rfl) (fun _ _ _ h => h) (Or.inl ⟨by rfl, fun w' hS => by go_simp⟩) HSQ.out ?_
      try simp only [Act.put, List.setIfInBounds_toArray, List.set_cons_zero, List.set_cons_succ]
      refine wpAnyH_take (i := 2) (oi := ⟨some 34, _, _, _, _, _⟩) (v := .agg #[.slice (some ⟨b3, o3, none⟩) L.length c]) rfl (by kernel_rfl) (by kernel_rfl) (by kernel_rfl) (fun _ _ _ h => h) (Or.inl ⟨by rfl, fun w' hS => by (have u0_ := hS.1.1 0 _ rfl; have u1_ := hS.2; go_simp)⟩) HSQ.out ?_
      try simp only [Act.put, List.setIfInBounds_toArray, List.set_cons_zero, List.set_cons_succ]
      refine wpAnyH_take (i := 3) (oi := ⟨some 35, _, _, _, _, _⟩) (v := .slice (some ⟨b4, o4, none⟩) xs.length c2) rfl (by kernel_rfl) (by kernel_rfl) (by kernel_rfl) (fun _ _ _ h => h) (Or.inl ⟨by rfl, fun w' hS => by go_simp⟩) HSQ.out ?_
      try simp only [Act.put, List.setIfInBounds_toArray, List.set_cons_zero, List.set_cons_succ]
      refine wpAnyH_take (i := 4) (oi := ⟨some 36, _, _, _, _, _⟩) (v := .int .i64 q) rfl (by kernel_rfl) (by kernel_rfl) (by kernel_rfl) (fun _ _ _ h => h) (Or.inl ⟨by rfl, fun w' hS => by go_simp⟩) HSQ.out ?_
      try simp only [Act.put, List.setIfInBounds_toArray, List.set_cons_zero, List.set_cons_succ]
      refine wpAnyH_take (i := 5) (oi := ⟨some 37, _, _, _, _, _⟩) (v := .pointer (some ⟨b4, o4 + q, none⟩)) rfl (by kernel_rfl) (by kernel_rfl) (by kernel_rfl) (fun _ _ _ h => h) (Or.inl ⟨by rfl, fun w' hS => by go_simp⟩) HSQ.out ?_
      try simp only [Act.put, List.setIfInBounds_toArray, List.set_cons_zero, List.set_cons_succ]
      refine wpAnyH_take (i := 6) (oi := ⟨some 38, _, _, _, _, _⟩) (v := .int .i64 x) rfl (by kernel_rfl) (by kernel_rfl) (by kernel_rfl) (fun _ _ _ h => h) (Or.inl ⟨by rfl, fun w' hS => by (have u0_ := hS.1.1 0 _ rfl; have u1_ := hS.2; go_simp)⟩) HSQ.out ?_
      try simp only [Act.put, List.setIfInBounds_toArray, List.set_cons_zero, List.set_cons_succ]
      refine wpAnyH_take (i := 7) (oi := ⟨some 39, _, _, _, _, _⟩) (v := .int .i64 y.idx) rfl (by kernel_rfl) (by kernel_rfl) (by kernel_rfl) (fun _ _ _ h => h) (Or.inl ⟨by rfl, fun w' hS => by go_simp⟩) HSQ.out ?_
      try simp only [Act.put, List.setIfInBounds_toArray, List.set_cons_zero, List.set_cons_succ]
      refine wpAnyH_ready (rs := [8]) (by kernel_rfl) (by simp) ?_
      refine AllReadyH.cons (o := ⟨some 40, .call ⟨_, _, _⟩, _, _, _, _⟩) rfl (fun K hK => ?_) AllReadyH.nil
      go_simp
      go_at_call 31
      refine (RAbove_any _ c L x y.idx _ B (Nat.le_trans HB.out (Nat.le_trans HBw1.out.size HBwd.out.size)) (HX.out.keep ((HBw1.out.trans (HBwd.out.mono HBw1.out.size)).mono HB.out)) HV.out HOK3.out.1).mono ?_
      rintro e' wz ⟨rfl, hb_⟩
      obtain ⟨r, hr⟩ : ∃ z, aboveB L x y.idx = z := ⟨_, rfl⟩
      rw [hr]
      have HR := Lib.hid hr; clear hr
      have HD2 := Lib.hid (HD1.out.trans (hb_.mono HD1.out.size)); have HSZ := Lib.hid (show BoxL wz w.heap.size [.slice (some ⟨b3, o3, none⟩) L.length c] ∧ wz.cell? ⟨b4, o4 + q, none⟩ = some (.int .i64 x) from ⟨HSQ.out.1.kept (grown_none hb_) (fun e => by cases e), (hb_.cell (p := ⟨b4, o4 + q, none⟩) (block_lt_of_cell HSQ.out.2)).trans HSQ.out.2⟩)
      have HBwz := Lib.hid (HBwd.out.trans (hb_.mono HBwd.out.size))
      have twz := Lib.hid (twd.out.kept (grown_none hb_) (fun e => by cases e))
      have HOwz := Lib.hid (HOwd.out.below hb_)
      clear hb_
      refine hK.out _ _ HSZ.out (fun _ => ?_)
      clear hK K
      try simp only [Act.put, List.setIfInBounds_toArray, List.set_cons_zero, List.set_cons_succ]
      refine wpAnyH_take (i := 9) (oi := ⟨some 41, _, _, _, _, _⟩) (v := .bool r) rfl (by kernel_rfl) (by kernel_rfl) (by kernel_rfl) (fun _ _ _ h => h) (Or.inl ⟨by rfl, fun w' hS => by go_simp⟩) HSZ.out ?_
      try simp only [Act.put, List.setIfInBounds_toArray, List.set_cons_zero, List.set_cons_succ]
      refine wpAnyH_take (i := 10) (oi := ⟨some 8, _, _, _, _, _⟩) (v := .bool r) rfl (by kernel_rfl) (by kernel_rfl) (by kernel_rfl) (fun _ _ _ h => h) (Or.inl ⟨by rfl, fun w' hS => by go_simp⟩) HSZ.out ?_
      try simp only [Act.put, List.setIfInBounds_toArray, List.set_cons_zero, List.set_cons_succ]
      refine wpAnyH_done (by kernel_rfl) ?_ _
      have HZn := Lib.hid (show r = (z0 || (xs.take (q + 1)).any fun k => aboveB L k y.idx) by rw [HSN.out, ← Bool.or_assoc, ← HZ.out, HR.out]; rfl)
      have HBn := Lib.hid (show Below wo.heap.size wo wz from HBQ.out.trans (HD2.out.mono HBQ.out.size))
      try go_wp2
      go_roundw
      case rel => exact ⟨r, q + 1, by omega, rfl, by go_num, HZn, HBn⟩
      case measure => simp [intOf]; omega
     ·
      go_upto_region 10 with fail
      refine wp_region_held_drew (S := fun w' => BoxL w' w.heap.size [.slice (some ⟨b3, o3, none⟩) L.length c] ∧ w'.cell? ⟨b4, o4 + q, none⟩ = some (.int .i64 x)) (by kernel_rfl) ⟨HTQ.out.drew, by show (World.drew wr).cell? _ = _; exact HC4.out⟩ (fun hS0 => ?_)
      obtain ⟨wd, hwd⟩ : ∃ z, World.drew wr = z := ⟨_, rfl⟩
      rw [hwd] at hS0 ⊢
      have hb_ : Below wr.heap.size wr wd := by rw [← hwd]; exact below_drewN_self _ _ 1
      have HD1 := Lib.hid hb_
      clear hwd hS0
      have HBwd := Lib.hid (HBW.out.trans (hb_.mono HBW.out.size))
      have twd := Lib.hid (HTQ.out.kept (grown_none hb_) (fun e => by cases e))
      have HOwd := Lib.hid (HOQ.out.below hb_)
      clear hb_
      have HSQ := Lib.hid (show BoxL wd w.heap.size [.slice (some ⟨b3, o3, none⟩) L.length c] ∧ wd.cell? ⟨b4, o4 + q, none⟩ = some (.int .i64 x) from ⟨twd.out, (HD1.out.cell (p := ⟨b4, o4 + q, none⟩) (block_lt_of_cell HC4.out)).trans HC4.out⟩)
      refine wpAnyH_take (i := 0) (oi := ⟨some 32, _, _, _, _, _⟩) (v := .bool true) rfl (by kernel_rfl) (by kernel_rfl) (by kernel_rfl) (fun _ _ _ h => h) (Or.inl ⟨by rfl, fun w' hS => by go_simp⟩) HSQ.out ?_
      try simp only [Act.put, List.setIfInBounds_toArray, List.set_cons_zero, List.set_cons_succ]
      refine wpAnyH_take (i := 1) (oi := ⟨some 33, _, _, _, _, _⟩) (v := .bool true) rfl (by kernel_rfl) (by kernel_rfl) (by kernel_rfl) (fun _ _ _ h => h) (Or.inl ⟨by rfl, fun w' hS => by go_simp⟩) HSQ.out ?_
      try simp only [Act.put, List.setIfInBounds_toArray, List.set_cons_zero, List.set_cons_succ]
      refine wpAnyH_take (i := 2) (oi := ⟨some 34, _, _, _, _, _⟩) (v := undef) rfl (by kernel_rfl) (by kernel_rfl) (by kernel_rfl) (fun _ _ _ h => h) (Or.inr ⟨by rfl, rfl⟩) HSQ.out ?_
      try simp only [Act.put, List.setIfInBounds_toArray, List.set_cons_zero, List.set_cons_succ]
      refine wpAnyH_take (i := 3) (oi := ⟨some 35, _, _, _, _, _⟩) (v := undef) rfl (by kernel_rfl) (by kernel_rfl) (by kernel_rfl) (fun _ _ _ h => h) (Or.inr ⟨by rfl, rfl⟩) HSQ.out ?_
      try simp only [Act.put, List.setIfInBounds_toArray, List.set_cons_zero, List.set_cons_succ]
      refine wpAnyH_take (i := 4) (oi := ⟨some 36, _, _, _, _, _⟩) (v := undef) rfl (by kernel_rfl) (by kernel_rfl) (by kernel_rfl) (fun _ _ _ h => h) (Or.inr ⟨by rfl, rfl⟩) HSQ.out ?_
      try simp only [Act.put, List.setIfInBounds_toArray, List.set_cons_zero, List.set_cons_succ]
      refine wpAnyH_take (i := 5) (oi := ⟨some 37, _, _, _, _, _⟩) (v := undef) rfl (by kernel_rfl) (by kernel_rfl) (by kernel_rfl) (fun _ _ _ h => h) (Or.inr ⟨by rfl, rfl⟩) HSQ.out ?_
      try simp only [Act.put, List.setIfInBounds_toArray, List.set_cons_zero, List.set_cons_succ]
      refine wpAnyH_take (i := 6) (oi := ⟨some 38, _, _, _, _, _⟩) (v := undef) rfl (by kernel_rfl) (by kernel_rfl) (by kernel_rfl) (fun _ _ _ h => h) (Or.inr ⟨by rfl, rfl⟩) HSQ.out ?_
      try simp only [Act.put, List.setIfInBounds_toArray, List.set_cons_zero, List.set_cons_succ]
      refine wpAnyH_take (i := 7) (oi := ⟨some 39, _, _, _, _, _⟩) (v := undef) rfl (by kernel_rfl) (by kernel_rfl) (by kernel_rfl) (fun _ _ _ h => h) (Or.inr ⟨by rfl, rfl⟩) HSQ.out ?_
      try simp only [Act.put, List.setIfInBounds_toArray, List.set_cons_zero, List.set_cons_succ]
      refine wpAnyH_take (i := 8) (oi := ⟨some 40, _, _, _, _, _⟩) (v := undef) rfl (by kernel_rfl) (by kernel_rfl) (by kernel_rfl) (fun _ _ _ h => h) (Or.inr ⟨by rfl, rfl⟩) HSQ.out ?_
      try simp only [Act.put, List.setIfInBounds_toArray, List.set_cons_zero, List.set_cons_succ]
      refine wpAnyH_take (i := 9) (oi := ⟨some 41, _, _, _, _, _⟩) (v := .bool true) rfl (by kernel_rfl) (by kernel_rfl) (by kernel_rfl) (fun _ _ _ h => h) (Or.inl ⟨by rfl, fun w' hS => by go_simp⟩) HSQ.out ?_
      try simp only [Act.put, List.setIfInBounds_toArray, List.set_cons_zero, List.set_cons_succ]
      refine wpAnyH_take (i := 10) (oi := ⟨some 8, _, _, _, _, _⟩) (v := .bool true) rfl (by kernel_rfl) (by kernel_rfl) (by kernel_rfl) (fun _ _ _ h => h) (Or.inl ⟨by rfl, fun w' hS => by go_simp⟩) HSQ.out ?_
      try simp only [Act.put, List.setIfInBounds_toArray, List.set_cons_zero, List.set_cons_succ]
      refine wpAnyH_done (by kernel_rfl) ?_ _
      have HZn := Lib.hid (show true = (z0 || (xs.take (q + 1)).any fun k => aboveB L k y.idx) by rw [HSN.out, ← Bool.or_assoc, ← HZ.out]; rfl)
      have HBn := Lib.hid (show Below wo.heap.size wo wd from HBQ.out.trans (HD1.out.mono HBQ.out.size))
      try go_wp2
      go_roundw
      case rel => exact ⟨true, q + 1, by omega, rfl, by go_num, HZn, HBn⟩
      case measure => simp [intOf]; omega
    ·
     have i2 : ¬ (q : Int) < (xs.length : Int) := by omega
     obtain rfl : q = xs.length := by omega
     have hzc : clB L xs y = z := by have h := HZ.out; rw [List.take_length, ← HZ0.out] at h; rw [h]; rfl
     rw [hzc] at HST
     clear hzc
     cases z
     ·
      have HOn := Lib.hid (show OwnsS (fun _ => True) wr w1.heap.size 3 u5 (idxs ((L.take (k + 1)).filter (clB L xs))) from by rw [HST.out]; exact HOQ.out)
      try go_wp2
      go_roundw
      case rel => exact ⟨k + 1, by omega, by go_num, HBW, HTQ, HOn⟩
      case measure => simp [intOf]; omega
     ·
      obtain ⟨wa, hwa⟩ : ∃ z, wr.alloc (.cells #[.int .i64 y.idx] 3) = z := ⟨_, rfl⟩
      have hba : Below wr.heap.size wr wa := by rw [← hwa]; exact (Below.refl _ _).alloc (Nat.le_refl _) _
      have hnew := lit_cells hwa (l := [.int .i64 y.idx]) rfl
      have HNEW := Lib.hid hnew; clear hnew
      have HBwa := Lib.hid (HBW.out.trans (hba.mono HBW.out.size))
      have twa := Lib.hid (HTQ.out.kept (grown_none hba) (fun e => by cases e))
      have HOwa := Lib.hid (HOQ.out.below hba)
      clear hba
      have HRD := Lib.hid (show RepS.rdS wa (fun b => True ∧ b < wa.heap.size ∧ u5.ownBlock ≠ some b) y.idx [.int .i64 y.idx] from ⟨rfl, HOK3.out.1⟩)
      go_wp2_with (at_builtin; go_must (refine wpList_app1 E_int rfl _ _ rfl u5 _ rfl HOwa.out wr.heap.size rfl y.idx [.int .i64 y.idx] HNEW.out HRD.out HAM.out.1 HAM.out.2 (HBwa.out.size) ?_); intro v2 w9 hown_ hgrow_ hnew_; have HOWN9 := Lib.hid hown_; have HGROW9 := Lib.hid hgrow_; clear hown_ hgrow_ hnew_)
      have HB9 := Lib.hid (show Below w1.heap.size w1 w9 from below_own HBwa.out HGROW9.out HBwa.out.size (fun k hk => (HOwa.out.lt k hk).1))
      have HT9 := Lib.hid (twa.out.kept HGROW9.out (fun e => by have := (HOwa.out.lt _ e.symm).1; have := HTB.out; omega))
      have HOn := Lib.hid (show OwnsS (fun _ => True) w9 w1.heap.size 3 v2 (idxs ((L.take (k + 1)).filter (clB L xs))) from by rw [HST.out]; exact HOWN9.out)
      try go_wp2
      go_roundw
      case rel => exact ⟨k + 1, by omega, by go_num, HB9, HT9, HOn⟩
      case measure => simp [intOf]; omega
  ·
   have i1 : ¬ (k : Int) < (L.length : Int) := by omega
   obtain rfl : k = L.length := by omega
   have ct0 := HTR.out.1 0 _ rfl
   go_wp2
   go_ret
   exact ⟨HBw1.out.trans (HBR.out.mono HBw1.out.size), _, by first | rfl | exact rfl, by have h := HOWN.out; rw [List.take_length, clB_clos HV.out.wf] at h; exact h.low (by have := HTB.out; omega)⟩
end Go.Proofs.YtomcebcaendilaaGreatDoor
namespace Go.Proofs.YtomcebcaendilaaGreatDoor
open Go.RowKit Go.Cold
theorem cell_on {w w' : World} {b i : Nat} {v : Value} (hb : Below w.heap.size w w') (h : w.cell? ⟨b, i, none⟩ = some v) : w'.cell? ⟨b, i, none⟩ = some v := (hb.cell (p := ⟨b, i, none⟩) (block_lt_of_cell h)).trans h
set_option maxRecDepth 100000 in
set_option maxHeartbeats 4000000 in
/-- The reference's Batch. -/
theorem RBatch_any (A : Option Addr) (c : Nat) (L : List Dev) (w : World) (B : Nat) (hB : B ≤ w.heap.size) (hx : Sl w B A c L) (hv : VT L) (A2 : Option Addr) (c2 : Nat) (dirty : List Int) (B2 : Nat) (hB2 : B2 ≤ w.heap.size) (hy : Sl w B2 A2 c2 dirty) (A3 : Option Addr) (c3 : Nat) (busy : List Int) (B3 : Nat) (hB3 : B3 ≤ w.heap.size) (hz : Sl w B3 A3 c3 busy) :
  Calls Tryz.prog 28 #[.agg #[.slice A L.length c], .slice A2 dirty.length c2, .slice A3 busy.length c3] w (GotI (batR L dirty busy (ordR L dirty) []) w) := by
 have hx1 := hx.1; have hx2 := hx.2.1
 unfold maxLen at hx2
 have HX := Lib.hid hx; have HB := Lib.hid hB; have HV := Lib.hid hv; have HY := Lib.hid hy; have HYB := Lib.hid hB2; have HZ3 := Lib.hid hz; have HZB := Lib.hid hB3; clear hx hB hv hy hB2 hz hB3
 have HLN := Lib.hid HV.out.size
 go_enter Tryz.func28, Tryz.ntmps28
 go_upto_region 1 with fail
 obtain ⟨w1, hw1⟩ : ∃ w1, w.alloc (.cells #[.slice A L.length c] 27) = w1 := ⟨_, rfl⟩
 have hbw1 : Below w.heap.size w w1 := by rw [← hw1]; exact (Below.refl _ _).alloc (Nat.le_refl _) _
 have HGw1 := Lib.hid (show w1.heap.size = w.heap.size + 1 by rw [← hw1]; simp)
 have HXtw1 := Lib.hid (show BoxL w1 w.heap.size [.slice A L.length c] from box_mk hw1)
 try simp only [hw1]
 have HBw1 := Lib.hid hbw1
 clear hw1 hbw1
 try rw [show w.heap.size + 1 = w1.heap.size from HGw1.out.symm]
 have ct0 := HXtw1.out.1 0 _ rfl
 have hz1 := HZ3.out.1; have hz2 := HZ3.out.2.1
 unfold maxLen at hz2
 go_wp2_with fail
 refine (ROrder_any A c L _ B (Nat.le_trans HB.out HBw1.out.size) (HX.out.keep (HBw1.out.mono HB.out)) HV.out A2 c2 dirty B2 (Nat.le_trans HYB.out HBw1.out.size) (HY.out.keep (HBw1.out.mono HYB.out))).mono ?_
 rintro e w2 hgot_
 obtain ⟨hbw2, A4, c4, rfl, hls_⟩ := hgot_.sl
 clear hgot_
 have HS12 := Lib.hid hbw2.size
 clear ct0
 have HBw2 := Lib.hid (HBw1.out.trans (hbw2.mono HBw1.out.size))
 have tw2 := Lib.hid (HXtw1.out.kept (grown_none hbw2) (fun e => by cases e))
 clear hbw2
 have ct0 := tw2.out.1 0 _ rfl
 obtain ⟨l, hl⟩ : ∃ l, ordR L dirty = l := ⟨_, rfl⟩
 rw [hl] at hls_ ⊢
 have HLE := Lib.hid hl; have HLS := Lib.hid hls_; have hl1 := hls_.1; have hl2 := hls_.2.1
 unfold maxLen at hl2
 have HLL := Lib.hid (show l.length ≤ 256 by rw [← hl]; have h1 := ord_len (L := L) (p := fun d => dirty.contains d.idx) L.length; rw [List.take_length] at h1; have h2 : (ordR L dirty).length ≤ L.length := h1; have := HLN.out; omega)
 clear hl hls_
 have HTB := Lib.hid (show w.heap.size < w2.heap.size by have := HGw1.out; have := HS12.out; omega)
 obtain ⟨R, hR⟩ : ∃ R, batR L dirty busy l [] = R := ⟨_, rfl⟩
 have HR0 := Lib.hid hR; clear hR
 have HOW := Lib.hid (show OwnsS (fun _ => True) w2 w2.heap.size 3 (.slice none 0 0) ([] : List Int) from OwnsS.nil_ _ _ _ _)
 go_wp2_with fail
 clear ct0
 go_loopw [7, 9] (fun v i wr => ∃ (k : Nat) (acc : List Int), k ≤ l.length ∧ acc.length ≤ k ∧ i = .int .i64 k ∧ Hid (batR L dirty busy (l.drop k) acc = R) ∧ Hid (Below w2.heap.size w2 wr) ∧ Hid (BoxL wr w.heap.size [.slice A L.length c]) ∧ Hid (OwnsS (fun _ => True) wr w2.heap.size 3 v acc)) (fun _ i _ => l.length - (intOf i).toNat)
 case atStart => exact ⟨0, [], Nat.zero_le _, Nat.le_refl _, rfl, HR0, Lib.hid (Below.refl _ _), tw2, HOW⟩
 case round =>
  clear HOW
  obtain ⟨k, acc, hk, hak, rfl, HBA, HBR, HTR, HOWN⟩ := hrel
  obtain ⟨wo, rfl⟩ : ∃ z, z = wr := ⟨_, rfl⟩
  by_cases hlt : k < l.length
  ·
   have i1 : (k : Int) < (l.length : Int) := by omega
   obtain ⟨b4, o4, rfl, hb4, hc4, hok4, hok5⟩ := (HLS.out.keep HBR.out).int hlt
   obtain ⟨n, hn⟩ : ∃ n, l[k]'hlt = n := ⟨_, rfl⟩
   rw [hn] at hc4 hok4 hok5
   have HXK := Lib.hid (show l[k]? = some n by rw [List.getElem?_eq_getElem hlt, hn])
   have HOKN := Lib.hid (show okI n from ⟨hok4, hok5⟩)
   have HC4 := Lib.hid hc4; have HB4 := Lib.hid (block_lt_of_cell hc4)
   clear hn hok4 hok5
   have hst := batR_step L dirty busy HXK.out acc
   rw [HBA.out] at hst
   have HST := Lib.hid hst; clear hst
   have HAM := Lib.hid (show acc.length + 1 ≤ maxLen ∧ (acc.length + 1) * 8 ≤ 140737488355328 by have := HLL.out; constructor <;> first | (unfold maxLen; omega) | omega)
   have ct0 := HTR.out.1 0 _ rfl
   go_wp2_with fail
   refine (RIn_any A3 c3 busy n _ B3 (HZ3.out.keep ((HBw2.out.trans (HBR.out.mono HBw2.out.size)).mono HZB.out))).mono ?_
   rintro e w' ⟨rfl, hw_⟩
   rw [hw_]; clear hw_ w'
   clear ct0
   clear hc4
   obtain ⟨z0, hz0⟩ : ∃ z, hasL busy n = z := ⟨_, rfl⟩
   rw [hz0]
   have HZ0 := Lib.hid hz0; clear hz0
   go_upto_region 7 with fail
   refine wp_region_held_drew (S := fun w' => BoxL w' w.heap.size [.slice A L.length c] ∧ w'.cell? ⟨b4, o4 + k, none⟩ = some (.int .i64 n)) (by kernel_rfl) ⟨HTR.out.drew, by show (World.drew wo).cell? _ = _; exact HC4.out⟩ (fun hS0 => ?_)
   obtain ⟨wd, hwd⟩ : ∃ z, World.drew wo = z := ⟨_, rfl⟩
   rw [hwd] at hS0 ⊢
   have hb_ : Below wo.heap.size wo wd := by rw [← hwd]; exact below_drewN_self _ _ 1
   have HD1 := Lib.hid hb_
   clear hwd hS0
   have HBwd := Lib.hid (HBR.out.trans (hb_.mono HBR.out.size))
   have twd := Lib.hid (HTR.out.kept (grown_none hb_) (fun e => by cases e))
   have HOwd := Lib.hid (HOWN.out.below hb_)
   clear hb_
   have HSQ := Lib.hid (show BoxL wd w.heap.size [.slice A L.length c] ∧ wd.cell? ⟨b4, o4 + k, none⟩ = some (.int .i64 n) from ⟨(HTR.out).kept (grown_none HD1.out) (fun e => by cases e), cell_on HD1.out (HC4.out)⟩)
   refine wpAnyH_take (i := 0) (oi := ⟨some 31, _, _, _, _, _⟩) (v := .agg #[.slice A L.length c]) rfl (by kernel_rfl) (by kernel_rfl) (by kernel_rfl) (fun _ _ _ h => h) (Or.inl ⟨by rfl, fun w' hS => by (have u0_ := hS.1.1 0 _ rfl; have u1_ := hS.2; go_simp)⟩) HSQ.out ?_
   try simp only [Act.put, List.setIfInBounds_toArray, List.set_cons_zero, List.set_cons_succ]
   refine wpAnyH_take (i := 1) (oi := ⟨some 32, _, _, _, _, _⟩) (v := .slice (some ⟨b4, o4, none⟩) l.length c4) rfl (by kernel_rfl) (by kernel_rfl) (by kernel_rfl) (fun _ _ _ h => h) (Or.inl ⟨by rfl, fun w' hS => by go_simp⟩) HSQ.out ?_
   try simp only [Act.put, List.setIfInBounds_toArray, List.set_cons_zero, List.set_cons_succ]
   refine wpAnyH_take (i := 2) (oi := ⟨some 33, _, _, _, _, _⟩) (v := .int .i64 k) rfl (by kernel_rfl) (by kernel_rfl) (by kernel_rfl) (fun _ _ _ h => h) (Or.inl ⟨by rfl, fun w' hS => by go_simp⟩) HSQ.out ?_
   try simp only [Act.put, List.setIfInBounds_toArray, List.set_cons_zero, List.set_cons_succ]
   refine wpAnyH_take (i := 3) (oi := ⟨some 34, _, _, _, _, _⟩) (v := .pointer (some ⟨b4, o4 + k, none⟩)) rfl (by kernel_rfl) (by kernel_rfl) (by kernel_rfl) (fun _ _ _ h => h) (Or.inl ⟨by rfl, fun w' hS => by go_simp⟩) HSQ.out ?_
   try simp only [Act.put, List.setIfInBounds_toArray, List.set_cons_zero, List.set_cons_succ]
   refine wpAnyH_take (i := 4) (oi := ⟨some 35, _, _, _, _, _⟩) (v := .int .i64 n) rfl (by kernel_rfl) (by kernel_rfl) (by kernel_rfl) (fun _ _ _ h => h) (Or.inl ⟨by rfl, fun w' hS => by (have u0_ := hS.1.1 0 _ rfl; have u1_ := hS.2; go_simp)⟩) HSQ.out ?_
   try simp only [Act.put, List.setIfInBounds_toArray, List.set_cons_zero, List.set_cons_succ]
   refine wpAnyH_ready (rs := [5]) (by kernel_rfl) (by simp) ?_
   refine AllReadyH.cons (o := ⟨some 36, .call ⟨_, _, _⟩, _, _, _, _⟩) rfl (fun K hK => ?_) AllReadyH.nil
   go_simp
   go_at_call 49
   refine (RAncestors_any A c L n _ B (Nat.le_trans HB.out (HBw2.out.trans (HBwd.out.mono HBw2.out.size)).size) (HX.out.keep ((HBw2.out.trans (HBwd.out.mono HBw2.out.size)).mono HB.out)) (by have := HLN.out; omega) HOKN.out).mono ?_
   rintro e' wz ⟨hb_, A5, c5, rfl, hsl_⟩
   obtain ⟨UU, hU_⟩ : ∃ z, (chainO L n).drop 1 = z := ⟨_, rfl⟩
   rw [hU_] at hsl_ ⊢
   have HKE := Lib.hid hU_; have HSK := Lib.hid hsl_; have hk1 := hsl_.1; have hk2 := hsl_.2.1
   unfold maxLen at hk2
   clear hU_ hsl_
   have HD2 := Lib.hid (HD1.out.trans (hb_.mono HD1.out.size)); have HSZ := Lib.hid (show BoxL wz w.heap.size [.slice A L.length c] ∧ wz.cell? ⟨b4, o4 + k, none⟩ = some (.int .i64 n) from ⟨(HSQ.out.1).kept (grown_none hb_) (fun e => by cases e), cell_on hb_ (HSQ.out.2)⟩)
   have HBwz := Lib.hid (HBwd.out.trans (hb_.mono HBwd.out.size))
   have twz := Lib.hid (twd.out.kept (grown_none hb_) (fun e => by cases e))
   have HOwz := Lib.hid (HOwd.out.below hb_)
   clear hb_
   refine hK.out _ _ HSZ.out (fun _ => ?_)
   clear hK K
   try simp only [Act.put, List.setIfInBounds_toArray, List.set_cons_zero, List.set_cons_succ]
   refine wpAnyH_take (i := 6) (oi := ⟨some 11, _, _, _, _, _⟩) (v := .slice A5 UU.length c5) rfl (by kernel_rfl) (by kernel_rfl) (by kernel_rfl) (fun _ _ _ h => h) (Or.inl ⟨by rfl, fun w' hS => by go_simp⟩) HSZ.out ?_
   try simp only [Act.put, List.setIfInBounds_toArray, List.set_cons_zero, List.set_cons_succ]
   refine wpAnyH_done (by kernel_rfl) ?_ _
   have HCZ := Lib.hid HSZ.out.2
   have HBZ := Lib.hid (show Below wo.heap.size wo wz from HD2.out)
   clear HSQ HSZ
   go_wp2_with fail
   go_loop [10, 12] (fun v i => ∃ (z : Bool) (q : Nat), q ≤ UU.length ∧ v = .bool z ∧ i = .int .i64 q ∧ Hid (z = (!z0 && (UU.take q).all (fun u : Dev => !dirty.contains u.idx && !busy.contains u.idx)))) (fun _ i => UU.length - (intOf i).toNat)
   case atStart => exact ⟨!z0, 0, Nat.zero_le _, rfl, rfl, Lib.hid (by simp)⟩
   case round =>
    obtain ⟨z, q, hq, rfl, rfl, HZ⟩ := hrel
    by_cases hqt : q < UU.length
    ·
     have i2 : (q : Int) < (UU.length : Int) := by omega
     obtain ⟨b5, o5, rfl, hb5, A6, c6, hok6, hat6, hcs6⟩ := HSK.out.dev hqt
     obtain ⟨u, hu⟩ : ∃ u, UU[q]'hqt = u := ⟨_, rfl⟩
     rw [hu] at hcs6
     have HSN := Lib.hid (all_snoc (p := fun u : Dev => !dirty.contains u.idx && !busy.contains u.idx) (show UU[q]? = some u by rw [List.getElem?_eq_getElem hqt, hu]))
     have u0 := hcs6.1
     clear hok6 hat6 hcs6 hu
     cases z
     ·
      have HZn := Lib.hid (show false = (!z0 && (UU.take (q + 1)).all (fun u : Dev => !dirty.contains u.idx && !busy.contains u.idx)) by rw [HSN.out, ← Bool.and_assoc, ← HZ.out]; rfl)
      try go_wp2
      go_round
      case rel => exact ⟨false, q + 1, by omega, rfl, by go_num, HZn⟩
      case measure => simp [intOf]; omega
     ·
      go_wp2_with fail
      refine (RIn_any A2 c2 dirty u.idx _ B2 (HY.out.keep ((HBw2.out.trans (HBwz.out.mono HBw2.out.size)).mono HYB.out))).mono ?_
      rintro e w' ⟨rfl, hw_⟩
      rw [hw_]; clear hw_ w'
      obtain ⟨r1, hr1⟩ : ∃ z, hasL dirty u.idx = z := ⟨_, rfl⟩
      rw [hr1]
      have HR1 := Lib.hid (show dirty.contains u.idx = r1 from hr1); clear hr1
      cases r1
      ·
       go_wp2_with fail
       refine (RIn_any A3 c3 busy u.idx _ B3 (HZ3.out.keep ((HBw2.out.trans (HBwz.out.mono HBw2.out.size)).mono HZB.out))).mono ?_
       rintro e w' ⟨rfl, hw_⟩
       rw [hw_]; clear hw_ w'
       obtain ⟨r2, hr2⟩ : ∃ z, hasL busy u.idx = z := ⟨_, rfl⟩
       rw [hr2]
       have HR2 := Lib.hid (show busy.contains u.idx = r2 from hr2); clear hr2
       have HZn := Lib.hid (show (!r2) = (!z0 && (UU.take (q + 1)).all (fun u : Dev => !dirty.contains u.idx && !busy.contains u.idx)) by rw [HSN.out, ← Bool.and_assoc, ← HZ.out]; rw [HR1.out, HR2.out]; rfl)
       try go_wp2
       go_round
       case rel => exact ⟨(!r2), q + 1, by omega, rfl, by go_num, HZn⟩
       case measure => simp [intOf]; omega
      ·
       have HZn := Lib.hid (show false = (!z0 && (UU.take (q + 1)).all (fun u : Dev => !dirty.contains u.idx && !busy.contains u.idx)) by rw [HSN.out, ← Bool.and_assoc, ← HZ.out]; rw [HR1.out]; rfl)
       try go_wp2
       go_round
       case rel => exact ⟨false, q + 1, by omega, rfl, by go_num, HZn⟩
       case measure => simp [intOf]; omega
    ·
     have i2 : ¬ (q : Int) < (UU.length : Int) := by omega
     obtain rfl : q = UU.length := by omega
     obtain ⟨z1, hz1⟩ : ∃ z', z = z' := ⟨_, rfl⟩
     have HZ1 := Lib.hid (show z1 = (!z0 && UU.all (fun u : Dev => !dirty.contains u.idx && !busy.contains u.idx)) by have h := HZ.out; rw [List.take_length] at h; rw [← hz1]; exact h)
     rw [hz1]
     clear hz1 HZ HSK
     go_wp2_with fail
     go_loopw [10, 13] (fun v i wr => ∃ (z : Bool) (q : Nat), q ≤ busy.length ∧ v = .bool z ∧ i = .int .i64 q ∧ Hid (z = (z1 && (busy.take q).all (fun b => !sisB L n b))) ∧ Hid (Below wz.heap.size wz wr)) (fun _ i _ => busy.length - (intOf i).toNat)
     case atStart => exact ⟨z1, 0, Nat.zero_le _, rfl, rfl, Lib.hid (by simp), Lib.hid (Below.refl _ _)⟩
     case round =>
      obtain ⟨z, q, hq, rfl, rfl, HZ, HBQ⟩ := hrel
      obtain ⟨wa, rfl⟩ : ∃ z, z = wr := ⟨_, rfl⟩
      have HBWa := Lib.hid (HBwz.out.trans (HBQ.out.mono HBwz.out.size)); have HTQa := Lib.hid (twz.out.kept (grown_none HBQ.out) (fun e => by cases e)); have HOQa := Lib.hid (HOwz.out.below HBQ.out); have HCQa := Lib.hid (cell_on HBQ.out HCZ.out)
      by_cases hqt : q < busy.length
      ·
       have i2 : (q : Int) < (busy.length : Int) := by omega
       obtain ⟨b6, o6, rfl, hb6, hc6, hok6, hok7⟩ := (HZ3.out.keep ((HBw2.out.trans (HBWa.out.mono HBw2.out.size)).mono HZB.out)).int hqt
       obtain ⟨x, hxq⟩ : ∃ x, busy[q]'hqt = x := ⟨_, rfl⟩
       rw [hxq] at hc6
       have HSN := Lib.hid (all_snoc (p := fun b => !sisB L n b) (show busy[q]? = some x by rw [List.getElem?_eq_getElem hqt, hxq])); have HC6 := Lib.hid hc6; clear hxq hok6 hok7 hc6
       cases z
       ·
        go_upto_region 15 with fail
        refine wp_region_held_drew (S := fun w' => BoxL w' w.heap.size [.slice A L.length c] ∧ w'.cell? ⟨b4, o4 + k, none⟩ = some (.int .i64 n) ∧ w'.cell? ⟨b6, o6 + q, none⟩ = some (.int .i64 x)) (by kernel_rfl) ⟨HTQa.out.drew, by show (World.drew wa).cell? _ = _; exact HCQa.out, by show (World.drew wa).cell? _ = _; exact HC6.out⟩ (fun hS0 => ?_)
        obtain ⟨wda, hwda⟩ : ∃ z, World.drew wa = z := ⟨_, rfl⟩
        rw [hwda] at hS0 ⊢
        have hb_ : Below wa.heap.size wa wda := by rw [← hwda]; exact below_drewN_self _ _ 1
        have HD1 := Lib.hid hb_
        clear hwda hS0
        have HBwda := Lib.hid (HBWa.out.trans (hb_.mono HBWa.out.size))
        have twda := Lib.hid (HTQa.out.kept (grown_none hb_) (fun e => by cases e))
        have HOwda := Lib.hid (HOQa.out.below hb_)
        clear hb_
        have HSQ := Lib.hid (show BoxL wda w.heap.size [.slice A L.length c] ∧ wda.cell? ⟨b4, o4 + k, none⟩ = some (.int .i64 n) ∧ wda.cell? ⟨b6, o6 + q, none⟩ = some (.int .i64 x) from ⟨(HTQa.out).kept (grown_none HD1.out) (fun e => by cases e), cell_on HD1.out (HCQa.out), cell_on HD1.out (HC6.out)⟩)
        refine wpAnyH_take (i := 0) (oi := ⟨some 70, _, _, _, _, _⟩) (v := .bool false) rfl (by kernel_rfl) (by kernel_rfl) (by kernel_rfl) (fun _ _ _ h => h) (Or.inl ⟨by rfl, fun w' hS => by go_simp⟩) HSQ.out ?_
        try simp only [Act.put, List.setIfInBounds_toArray, List.set_cons_zero, List.set_cons_succ]
        refine wpAnyH_take (i := 1) (oi := ⟨some 71, _, _, _, _, _⟩) (v := .bool false) rfl (by kernel_rfl) (by kernel_rfl) (by kernel_rfl) (fun _ _ _ h => h) (Or.inl ⟨by rfl, fun w' hS => by go_simp⟩) HSQ.out ?_
        try simp only [Act.put, List.setIfInBounds_toArray, List.set_cons_zero, List.set_cons_succ]
        refine wpAnyH_take (i := 2) (oi := ⟨some 72, _, _, _, _, _⟩) (v := undef) rfl (by kernel_rfl) (by kernel_rfl) (by kernel_rfl) (fun _ _ _ h => h) (Or.inr ⟨by rfl, rfl⟩) HSQ.out ?_
        try simp only [Act.put, List.setIfInBounds_toArray, List.set_cons_zero, List.set_cons_succ]
        refine wpAnyH_take (i := 3) (oi := ⟨some 73, _, _, _, _, _⟩) (v := undef) rfl (by kernel_rfl) (by kernel_rfl) (by kernel_rfl) (fun _ _ _ h => h) (Or.inr ⟨by rfl, rfl⟩) HSQ.out ?_
        try simp only [Act.put, List.setIfInBounds_toArray, List.set_cons_zero, List.set_cons_succ]
        refine wpAnyH_take (i := 4) (oi := ⟨some 74, _, _, _, _, _⟩) (v := undef) rfl (by kernel_rfl) (by kernel_rfl) (by kernel_rfl) (fun _ _ _ h => h) (Or.inr ⟨by rfl, rfl⟩) HSQ.out ?_
        try simp only [Act.put, List.setIfInBounds_toArray, List.set_cons_zero, List.set_cons_succ]
        refine wpAnyH_take (i := 5) (oi := ⟨some 75, _, _, _, _, _⟩) (v := undef) rfl (by kernel_rfl) (by kernel_rfl) (by kernel_rfl) (fun _ _ _ h => h) (Or.inr ⟨by rfl, rfl⟩) HSQ.out ?_
        try simp only [Act.put, List.setIfInBounds_toArray, List.set_cons_zero, List.set_cons_succ]
        refine wpAnyH_take (i := 6) (oi := ⟨some 76, _, _, _, _, _⟩) (v := undef) rfl (by kernel_rfl) (by kernel_rfl) (by kernel_rfl) (fun _ _ _ h => h) (Or.inr ⟨by rfl, rfl⟩) HSQ.out ?_
        try simp only [Act.put, List.setIfInBounds_toArray, List.set_cons_zero, List.set_cons_succ]
        refine wpAnyH_take (i := 7) (oi := ⟨some 77, _, _, _, _, _⟩) (v := undef) rfl (by kernel_rfl) (by kernel_rfl) (by kernel_rfl) (fun _ _ _ h => h) (Or.inr ⟨by rfl, rfl⟩) HSQ.out ?_
        try simp only [Act.put, List.setIfInBounds_toArray, List.set_cons_zero, List.set_cons_succ]
        refine wpAnyH_take (i := 8) (oi := ⟨some 78, _, _, _, _, _⟩) (v := undef) rfl (by kernel_rfl) (by kernel_rfl) (by kernel_rfl) (fun _ _ _ h => h) (Or.inr ⟨by rfl, rfl⟩) HSQ.out ?_
        try simp only [Act.put, List.setIfInBounds_toArray, List.set_cons_zero, List.set_cons_succ]
        refine wpAnyH_take (i := 9) (oi := ⟨some 79, _, _, _, _, _⟩) (v := undef) rfl (by kernel_rfl) (by kernel_rfl) (by kernel_rfl) (fun _ _ _ h => h) (Or.inr ⟨by rfl, rfl⟩) HSQ.out ?_
        try simp only [Act.put, List.setIfInBounds_toArray, List.set_cons_zero, List.set_cons_succ]
        refine wpAnyH_take (i := 10) (oi := ⟨some 80, _, _, _, _, _⟩) (v := undef) rfl (by kernel_rfl) (by kernel_rfl) (by kernel_rfl) (fun _ _ _ h => h) (Or.inr ⟨by rfl, rfl⟩) HSQ.out ?_
        try simp only [Act.put, List.setIfInBounds_toArray, List.set_cons_zero, List.set_cons_succ]
        refine wpAnyH_take (i := 11) (oi := ⟨some 81, _, _, _, _, _⟩) (v := undef) rfl (by kernel_rfl) (by kernel_rfl) (by kernel_rfl) (fun _ _ _ h => h) (Or.inr ⟨by rfl, rfl⟩) HSQ.out ?_
        try simp only [Act.put, List.setIfInBounds_toArray, List.set_cons_zero, List.set_cons_succ]
        refine wpAnyH_take (i := 12) (oi := ⟨some 82, _, _, _, _, _⟩) (v := undef) rfl (by kernel_rfl) (by kernel_rfl) (by kernel_rfl) (fun _ _ _ h => h) (Or.inr ⟨by rfl, rfl⟩) HSQ.out ?_
        try simp only [Act.put, List.setIfInBounds_toArray, List.set_cons_zero, List.set_cons_succ]
        refine wpAnyH_take (i := 13) (oi := ⟨some 83, _, _, _, _, _⟩) (v := .bool false) rfl (by kernel_rfl) (by kernel_rfl) (by kernel_rfl) (fun _ _ _ h => h) (Or.inl ⟨by rfl, fun w' hS => by go_simp⟩) HSQ.out ?_
        try simp only [Act.put, List.setIfInBounds_toArray, List.set_cons_zero, List.set_cons_succ]
        refine wpAnyH_take (i := 14) (oi := ⟨some 10, _, _, _, _, _⟩) (v := .bool false) rfl (by kernel_rfl) (by kernel_rfl) (by kernel_rfl) (fun _ _ _ h => h) (Or.inl ⟨by rfl, fun w' hS => by go_simp⟩) HSQ.out ?_
        try simp only [Act.put, List.setIfInBounds_toArray, List.set_cons_zero, List.set_cons_succ]
        refine wpAnyH_done (by kernel_rfl) ?_ _
        have HZn := Lib.hid (show false = (z1 && (busy.take (q + 1)).all (fun b => !sisB L n b)) by rw [HSN.out, ← Bool.and_assoc, ← HZ.out]; rfl)
        have HBn := Lib.hid (show Below wz.heap.size wz wda from HBQ.out.trans (HD1.out.mono HBQ.out.size))
        try go_wp2
        go_roundw
        case rel => exact ⟨false, q + 1, by omega, rfl, by go_num, HZn, HBn⟩
        case measure => simp [intOf]; omega
       ·
        go_upto_region 15 with fail
        refine wp_region_held_drew (S := fun w' => BoxL w' w.heap.size [.slice A L.length c] ∧ w'.cell? ⟨b4, o4 + k, none⟩ = some (.int .i64 n) ∧ w'.cell? ⟨b6, o6 + q, none⟩ = some (.int .i64 x)) (by kernel_rfl) ⟨HTQa.out.drew, by show (World.drew wa).cell? _ = _; exact HCQa.out, by show (World.drew wa).cell? _ = _; exact HC6.out⟩ (fun hS0 => ?_)
        obtain ⟨wda, hwda⟩ : ∃ z, World.drew wa = z := ⟨_, rfl⟩
        rw [hwda] at hS0 ⊢
        have hb_ : Below wa.heap.size wa wda := by rw [← hwda]; exact below_drewN_self _ _ 1
        have HD1 := Lib.hid hb_
        clear hwda hS0
        have HBwda := Lib.hid (HBWa.out.trans (hb_.mono HBWa.out.size))
        have twda := Lib.hid (HTQa.out.kept (grown_none hb_) (fun e => by cases e))
        have HOwda := Lib.hid (HOQa.out.below hb_)
        clear hb_
        have HSQ := Lib.hid (show BoxL wda w.heap.size [.slice A L.length c] ∧ wda.cell? ⟨b4, o4 + k, none⟩ = some (.int .i64 n) ∧ wda.cell? ⟨b6, o6 + q, none⟩ = some (.int .i64 x) from ⟨(HTQa.out).kept (grown_none HD1.out) (fun e => by cases e), cell_on HD1.out (HCQa.out), cell_on HD1.out (HC6.out)⟩)
        refine wpAnyH_take (i := 0) (oi := ⟨some 70, _, _, _, _, _⟩) (v := .bool true) rfl (by kernel_rfl) (by kernel_rfl) (by kernel_rfl) (fun _ _ _ h => h) (Or.inl ⟨by rfl, fun w' hS => by go_simp⟩) HSQ.out ?_
        try simp only [Act.put, List.setIfInBounds_toArray, List.set_cons_zero, List.set_cons_succ]
        refine wpAnyH_take (i := 1) (oi := ⟨some 71, _, _, _, _, _⟩) (v := .bool true) rfl (by kernel_rfl) (by kernel_rfl) (by kernel_rfl) (fun _ _ _ h => h) (Or.inl ⟨by rfl, fun w' hS => by go_simp⟩) HSQ.out ?_
        try simp only [Act.put, List.setIfInBounds_toArray, List.set_cons_zero, List.set_cons_succ]
        refine wpAnyH_take (i := 2) (oi := ⟨some 72, _, _, _, _, _⟩) (v := .agg #[.slice A L.length c]) rfl (by kernel_rfl) (by kernel_rfl) (by kernel_rfl) (fun _ _ _ h => h) (Or.inl ⟨by rfl, fun w' hS => by (have u0_ := hS.1.1 0 _ rfl; have u1_ := hS.2.1; have u2_ := hS.2.2; go_simp)⟩) HSQ.out ?_
        try simp only [Act.put, List.setIfInBounds_toArray, List.set_cons_zero, List.set_cons_succ]
        refine wpAnyH_take (i := 3) (oi := ⟨some 73, _, _, _, _, _⟩) (v := .slice (some ⟨b4, o4, none⟩) l.length c4) rfl (by kernel_rfl) (by kernel_rfl) (by kernel_rfl) (fun _ _ _ h => h) (Or.inl ⟨by rfl, fun w' hS => by go_simp⟩) HSQ.out ?_
        try simp only [Act.put, List.setIfInBounds_toArray, List.set_cons_zero, List.set_cons_succ]
        refine wpAnyH_take (i := 4) (oi := ⟨some 74, _, _, _, _, _⟩) (v := .int .i64 k) rfl (by kernel_rfl) (by kernel_rfl) (by kernel_rfl) (fun _ _ _ h => h) (Or.inl ⟨by rfl, fun w' hS => by go_simp⟩) HSQ.out ?_
        try simp only [Act.put, List.setIfInBounds_toArray, List.set_cons_zero, List.set_cons_succ]
        refine wpAnyH_take (i := 5) (oi := ⟨some 75, _, _, _, _, _⟩) (v := .pointer (some ⟨b4, o4 + k, none⟩)) rfl (by kernel_rfl) (by kernel_rfl) (by kernel_rfl) (fun _ _ _ h => h) (Or.inl ⟨by rfl, fun w' hS => by go_simp⟩) HSQ.out ?_
        try simp only [Act.put, List.setIfInBounds_toArray, List.set_cons_zero, List.set_cons_succ]
        refine wpAnyH_take (i := 6) (oi := ⟨some 76, _, _, _, _, _⟩) (v := .int .i64 n) rfl (by kernel_rfl) (by kernel_rfl) (by kernel_rfl) (fun _ _ _ h => h) (Or.inl ⟨by rfl, fun w' hS => by (have u0_ := hS.1.1 0 _ rfl; have u1_ := hS.2.1; have u2_ := hS.2.2; go_simp)⟩) HSQ.out ?_
        try simp only [Act.put, List.setIfInBounds_toArray, List.set_cons_zero, List.set_cons_succ]
        refine wpAnyH_take (i := 7) (oi := ⟨some 77, _, _, _, _, _⟩) (v := .slice (some ⟨b6, o6, none⟩) busy.length c3) rfl (by kernel_rfl) (by kernel_rfl) (by kernel_rfl) (fun _ _ _ h => h) (Or.inl ⟨by rfl, fun w' hS => by go_simp⟩) HSQ.out ?_
        try simp only [Act.put, List.setIfInBounds_toArray, List.set_cons_zero, List.set_cons_succ]
        refine wpAnyH_take (i := 8) (oi := ⟨some 78, _, _, _, _, _⟩) (v := .int .i64 q) rfl (by kernel_rfl) (by kernel_rfl) (by kernel_rfl) (fun _ _ _ h => h) (Or.inl ⟨by rfl, fun w' hS => by go_simp⟩) HSQ.out ?_
        try simp only [Act.put, List.setIfInBounds_toArray, List.set_cons_zero, List.set_cons_succ]
        refine wpAnyH_take (i := 9) (oi := ⟨some 79, _, _, _, _, _⟩) (v := .pointer (some ⟨b6, o6 + q, none⟩)) rfl (by kernel_rfl) (by kernel_rfl) (by kernel_rfl) (fun _ _ _ h => h) (Or.inl ⟨by rfl, fun w' hS => by go_simp⟩) HSQ.out ?_
        try simp only [Act.put, List.setIfInBounds_toArray, List.set_cons_zero, List.set_cons_succ]
        refine wpAnyH_take (i := 10) (oi := ⟨some 80, _, _, _, _, _⟩) (v := .int .i64 x) rfl (by kernel_rfl) (by kernel_rfl) (by kernel_rfl) (fun _ _ _ h => h) (Or.inl ⟨by rfl, fun w' hS => by (have u0_ := hS.1.1 0 _ rfl; have u1_ := hS.2.1; have u2_ := hS.2.2; go_simp)⟩) HSQ.out ?_
        try simp only [Act.put, List.setIfInBounds_toArray, List.set_cons_zero, List.set_cons_succ]
        refine wpAnyH_ready (rs := [11]) (by kernel_rfl) (by simp) ?_
        refine AllReadyH.cons (o := ⟨some 81, .call ⟨_, _, _⟩, _, _, _, _⟩) rfl (fun K hK => ?_) AllReadyH.nil
        go_simp
        go_at_call 19
        refine (RSisters_any A c L n x _ B (Nat.le_trans HB.out (HBw2.out.trans (HBwda.out.mono HBw2.out.size)).size) (HX.out.keep ((HBw2.out.trans (HBwda.out.mono HBw2.out.size)).mono HB.out)) HV.out).mono ?_
        rintro e' wya ⟨rfl, hb_⟩
        obtain ⟨r, hr⟩ : ∃ z, sisB L n x = z := ⟨_, rfl⟩
        rw [hr]
        have HR := Lib.hid hr; clear hr
        have HD2 := Lib.hid (HD1.out.trans (hb_.mono HD1.out.size)); have HSZ := Lib.hid (show BoxL wya w.heap.size [.slice A L.length c] ∧ wya.cell? ⟨b4, o4 + k, none⟩ = some (.int .i64 n) ∧ wya.cell? ⟨b6, o6 + q, none⟩ = some (.int .i64 x) from ⟨(HSQ.out.1).kept (grown_none hb_) (fun e => by cases e), cell_on hb_ (HSQ.out.2.1), cell_on hb_ (HSQ.out.2.2)⟩)
        have HBwya := Lib.hid (HBwda.out.trans (hb_.mono HBwda.out.size))
        have twya := Lib.hid (twda.out.kept (grown_none hb_) (fun e => by cases e))
        have HOwya := Lib.hid (HOwda.out.below hb_)
        clear hb_
        refine hK.out _ _ HSZ.out (fun _ => ?_)
        clear hK K
        try simp only [Act.put, List.setIfInBounds_toArray, List.set_cons_zero, List.set_cons_succ]
        refine wpAnyH_take (i := 12) (oi := ⟨some 82, _, _, _, _, _⟩) (v := .bool (!r)) rfl (by kernel_rfl) (by kernel_rfl) (by kernel_rfl) (fun _ _ _ h => h) (Or.inl ⟨by rfl, fun w' hS => by go_simp⟩) HSZ.out ?_
        try simp only [Act.put, List.setIfInBounds_toArray, List.set_cons_zero, List.set_cons_succ]
        refine wpAnyH_take (i := 13) (oi := ⟨some 83, _, _, _, _, _⟩) (v := .bool (!r)) rfl (by kernel_rfl) (by kernel_rfl) (by kernel_rfl) (fun _ _ _ h => h) (Or.inl ⟨by rfl, fun w' hS => by go_simp⟩) HSZ.out ?_
        try simp only [Act.put, List.setIfInBounds_toArray, List.set_cons_zero, List.set_cons_succ]
        refine wpAnyH_take (i := 14) (oi := ⟨some 10, _, _, _, _, _⟩) (v := .bool (!r)) rfl (by kernel_rfl) (by kernel_rfl) (by kernel_rfl) (fun _ _ _ h => h) (Or.inl ⟨by rfl, fun w' hS => by go_simp⟩) HSZ.out ?_
        try simp only [Act.put, List.setIfInBounds_toArray, List.set_cons_zero, List.set_cons_succ]
        refine wpAnyH_done (by kernel_rfl) ?_ _
        have HZn := Lib.hid (show (!r) = (z1 && (busy.take (q + 1)).all (fun b => !sisB L n b)) by rw [HSN.out, ← Bool.and_assoc, ← HZ.out]; rw [HR.out]; rfl)
        have HBn := Lib.hid (show Below wz.heap.size wz wya from HBQ.out.trans (HD2.out.mono HBQ.out.size))
        try go_wp2
        go_roundw
        case rel => exact ⟨(!r), q + 1, by omega, rfl, by go_num, HZn, HBn⟩
        case measure => simp [intOf]; omega
      ·
       have i2 : ¬ (q : Int) < (busy.length : Int) := by omega
       obtain rfl : q = busy.length := by omega
       obtain ⟨z2, hz2⟩ : ∃ z', z = z' := ⟨_, rfl⟩
       have HZ2 := Lib.hid (show z2 = (z1 && busy.all (fun b => !sisB L n b)) by have h := HZ.out; rw [List.take_length] at h; rw [← hz2]; exact h)
       rw [hz2]
       clear hz2 HZ HBQ
       obtain ⟨A9, c9, hv9, hsl9⟩ := HOQa.out.ints
       have HV9 := Lib.hid hv9; have HSL9 := Lib.hid hsl9; have ha1 := hsl9.1; have ha2 := hsl9.2.1
       unfold maxLen at ha2
       rw [hv9]
       clear hv9 hsl9
       go_wp2_with fail
       go_loopw [10, 14] (fun v i wr => ∃ (z : Bool) (q : Nat), q ≤ acc.length ∧ v = .bool z ∧ i = .int .i64 q ∧ Hid (z = (z2 && (acc.take q).all (fun b => !sisB L n b))) ∧ Hid (Below wa.heap.size wa wr)) (fun _ i _ => acc.length - (intOf i).toNat)
       case atStart => exact ⟨z2, 0, Nat.zero_le _, rfl, rfl, Lib.hid (by simp), Lib.hid (Below.refl _ _)⟩
       case round =>
        obtain ⟨z, q, hq, rfl, rfl, HZ, HBQ⟩ := hrel
        obtain ⟨wb, rfl⟩ : ∃ z, z = wr := ⟨_, rfl⟩
        have HBWb := Lib.hid (HBWa.out.trans (HBQ.out.mono HBWa.out.size)); have HTQb := Lib.hid (HTQa.out.kept (grown_none HBQ.out) (fun e => by cases e)); have HOQb := Lib.hid (HOQa.out.below HBQ.out); have HCQb := Lib.hid (cell_on HBQ.out HCQa.out)
        by_cases hqt : q < acc.length
        ·
         have i2 : (q : Int) < (acc.length : Int) := by omega
         obtain ⟨b6, o6, rfl, hb6, hc6, hok6, hok7⟩ := (HSL9.out.keep (HBQ.out.mono (Nat.le_refl _))).int hqt
         obtain ⟨x, hxq⟩ : ∃ x, acc[q]'hqt = x := ⟨_, rfl⟩
         rw [hxq] at hc6
         have HSN := Lib.hid (all_snoc (p := fun b => !sisB L n b) (show acc[q]? = some x by rw [List.getElem?_eq_getElem hqt, hxq])); have HC6 := Lib.hid hc6; clear hxq hok6 hok7 hc6
         cases z
         ·
          go_upto_region 19 with fail
          refine wp_region_held_drew (S := fun w' => BoxL w' w.heap.size [.slice A L.length c] ∧ w'.cell? ⟨b4, o4 + k, none⟩ = some (.int .i64 n) ∧ w'.cell? ⟨b6, o6 + q, none⟩ = some (.int .i64 x)) (by kernel_rfl) ⟨HTQb.out.drew, by show (World.drew wb).cell? _ = _; exact HCQb.out, by show (World.drew wb).cell? _ = _; exact HC6.out⟩ (fun hS0 => ?_)
          obtain ⟨wdb, hwdb⟩ : ∃ z, World.drew wb = z := ⟨_, rfl⟩
          rw [hwdb] at hS0 ⊢
          have hb_ : Below wb.heap.size wb wdb := by rw [← hwdb]; exact below_drewN_self _ _ 1
          have HD1 := Lib.hid hb_
          clear hwdb hS0
          have HBwdb := Lib.hid (HBWb.out.trans (hb_.mono HBWb.out.size))
          have twdb := Lib.hid (HTQb.out.kept (grown_none hb_) (fun e => by cases e))
          have HOwdb := Lib.hid (HOQb.out.below hb_)
          clear hb_
          have HSQ := Lib.hid (show BoxL wdb w.heap.size [.slice A L.length c] ∧ wdb.cell? ⟨b4, o4 + k, none⟩ = some (.int .i64 n) ∧ wdb.cell? ⟨b6, o6 + q, none⟩ = some (.int .i64 x) from ⟨(HTQb.out).kept (grown_none HD1.out) (fun e => by cases e), cell_on HD1.out (HCQb.out), cell_on HD1.out (HC6.out)⟩)
          refine wpAnyH_take (i := 0) (oi := ⟨some 90, _, _, _, _, _⟩) (v := .bool false) rfl (by kernel_rfl) (by kernel_rfl) (by kernel_rfl) (fun _ _ _ h => h) (Or.inl ⟨by rfl, fun w' hS => by go_simp⟩) HSQ.out ?_
          try simp only [Act.put, List.setIfInBounds_toArray, List.set_cons_zero, List.set_cons_succ]
          refine wpAnyH_take (i := 1) (oi := ⟨some 91, _, _, _, _, _⟩) (v := .bool false) rfl (by kernel_rfl) (by kernel_rfl) (by kernel_rfl) (fun _ _ _ h => h) (Or.inl ⟨by rfl, fun w' hS => by go_simp⟩) HSQ.out ?_
          try simp only [Act.put, List.setIfInBounds_toArray, List.set_cons_zero, List.set_cons_succ]
          refine wpAnyH_take (i := 2) (oi := ⟨some 92, _, _, _, _, _⟩) (v := undef) rfl (by kernel_rfl) (by kernel_rfl) (by kernel_rfl) (fun _ _ _ h => h) (Or.inr ⟨by rfl, rfl⟩) HSQ.out ?_
          try simp only [Act.put, List.setIfInBounds_toArray, List.set_cons_zero, List.set_cons_succ]
          refine wpAnyH_take (i := 3) (oi := ⟨some 93, _, _, _, _, _⟩) (v := undef) rfl (by kernel_rfl) (by kernel_rfl) (by kernel_rfl) (fun _ _ _ h => h) (Or.inr ⟨by rfl, rfl⟩) HSQ.out ?_
          try simp only [Act.put, List.setIfInBounds_toArray, List.set_cons_zero, List.set_cons_succ]
          refine wpAnyH_take (i := 4) (oi := ⟨some 94, _, _, _, _, _⟩) (v := undef) rfl (by kernel_rfl) (by kernel_rfl) (by kernel_rfl) (fun _ _ _ h => h) (Or.inr ⟨by rfl, rfl⟩) HSQ.out ?_
          try simp only [Act.put, List.setIfInBounds_toArray, List.set_cons_zero, List.set_cons_succ]
          refine wpAnyH_take (i := 5) (oi := ⟨some 95, _, _, _, _, _⟩) (v := undef) rfl (by kernel_rfl) (by kernel_rfl) (by kernel_rfl) (fun _ _ _ h => h) (Or.inr ⟨by rfl, rfl⟩) HSQ.out ?_
          try simp only [Act.put, List.setIfInBounds_toArray, List.set_cons_zero, List.set_cons_succ]
          refine wpAnyH_take (i := 6) (oi := ⟨some 96, _, _, _, _, _⟩) (v := undef) rfl (by kernel_rfl) (by kernel_rfl) (by kernel_rfl) (fun _ _ _ h => h) (Or.inr ⟨by rfl, rfl⟩) HSQ.out ?_
          try simp only [Act.put, List.setIfInBounds_toArray, List.set_cons_zero, List.set_cons_succ]
          refine wpAnyH_take (i := 7) (oi := ⟨some 97, _, _, _, _, _⟩) (v := undef) rfl (by kernel_rfl) (by kernel_rfl) (by kernel_rfl) (fun _ _ _ h => h) (Or.inr ⟨by rfl, rfl⟩) HSQ.out ?_
          try simp only [Act.put, List.setIfInBounds_toArray, List.set_cons_zero, List.set_cons_succ]
          refine wpAnyH_take (i := 8) (oi := ⟨some 98, _, _, _, _, _⟩) (v := undef) rfl (by kernel_rfl) (by kernel_rfl) (by kernel_rfl) (fun _ _ _ h => h) (Or.inr ⟨by rfl, rfl⟩) HSQ.out ?_
          try simp only [Act.put, List.setIfInBounds_toArray, List.set_cons_zero, List.set_cons_succ]
          refine wpAnyH_take (i := 9) (oi := ⟨some 99, _, _, _, _, _⟩) (v := undef) rfl (by kernel_rfl) (by kernel_rfl) (by kernel_rfl) (fun _ _ _ h => h) (Or.inr ⟨by rfl, rfl⟩) HSQ.out ?_
          try simp only [Act.put, List.setIfInBounds_toArray, List.set_cons_zero, List.set_cons_succ]
          refine wpAnyH_take (i := 10) (oi := ⟨some 100, _, _, _, _, _⟩) (v := undef) rfl (by kernel_rfl) (by kernel_rfl) (by kernel_rfl) (fun _ _ _ h => h) (Or.inr ⟨by rfl, rfl⟩) HSQ.out ?_
          try simp only [Act.put, List.setIfInBounds_toArray, List.set_cons_zero, List.set_cons_succ]
          refine wpAnyH_take (i := 11) (oi := ⟨some 101, _, _, _, _, _⟩) (v := undef) rfl (by kernel_rfl) (by kernel_rfl) (by kernel_rfl) (fun _ _ _ h => h) (Or.inr ⟨by rfl, rfl⟩) HSQ.out ?_
          try simp only [Act.put, List.setIfInBounds_toArray, List.set_cons_zero, List.set_cons_succ]
          refine wpAnyH_take (i := 12) (oi := ⟨some 102, _, _, _, _, _⟩) (v := undef) rfl (by kernel_rfl) (by kernel_rfl) (by kernel_rfl) (fun _ _ _ h => h) (Or.inr ⟨by rfl, rfl⟩) HSQ.out ?_
          try simp only [Act.put, List.setIfInBounds_toArray, List.set_cons_zero, List.set_cons_succ]
          refine wpAnyH_take (i := 13) (oi := ⟨some 103, _, _, _, _, _⟩) (v := .bool false) rfl (by kernel_rfl) (by kernel_rfl) (by kernel_rfl) (fun _ _ _ h => h) (Or.inl ⟨by rfl, fun w' hS => by go_simp⟩) HSQ.out ?_
          try simp only [Act.put, List.setIfInBounds_toArray, List.set_cons_zero, List.set_cons_succ]
          refine wpAnyH_take (i := 14) (oi := ⟨some 10, _, _, _, _, _⟩) (v := .bool false) rfl (by kernel_rfl) (by kernel_rfl) (by kernel_rfl) (fun _ _ _ h => h) (Or.inl ⟨by rfl, fun w' hS => by go_simp⟩) HSQ.out ?_
          try simp only [Act.put, List.setIfInBounds_toArray, List.set_cons_zero, List.set_cons_succ]
          refine wpAnyH_done (by kernel_rfl) ?_ _
          have HZn := Lib.hid (show false = (z2 && (acc.take (q + 1)).all (fun b => !sisB L n b)) by rw [HSN.out, ← Bool.and_assoc, ← HZ.out]; rfl)
          have HBn := Lib.hid (show Below wa.heap.size wa wdb from HBQ.out.trans (HD1.out.mono HBQ.out.size))
          try go_wp2
          go_roundw
          case rel => exact ⟨false, q + 1, by omega, rfl, by go_num, HZn, HBn⟩
          case measure => simp [intOf]; omega
         ·
          go_upto_region 19 with fail
          refine wp_region_held_drew (S := fun w' => BoxL w' w.heap.size [.slice A L.length c] ∧ w'.cell? ⟨b4, o4 + k, none⟩ = some (.int .i64 n) ∧ w'.cell? ⟨b6, o6 + q, none⟩ = some (.int .i64 x)) (by kernel_rfl) ⟨HTQb.out.drew, by show (World.drew wb).cell? _ = _; exact HCQb.out, by show (World.drew wb).cell? _ = _; exact HC6.out⟩ (fun hS0 => ?_)
          obtain ⟨wdb, hwdb⟩ : ∃ z, World.drew wb = z := ⟨_, rfl⟩
          rw [hwdb] at hS0 ⊢
          have hb_ : Below wb.heap.size wb wdb := by rw [← hwdb]; exact below_drewN_self _ _ 1
          have HD1 := Lib.hid hb_
          clear hwdb hS0
          have HBwdb := Lib.hid (HBWb.out.trans (hb_.mono HBWb.out.size))
          have twdb := Lib.hid (HTQb.out.kept (grown_none hb_) (fun e => by cases e))
          have HOwdb := Lib.hid (HOQb.out.below hb_)
          clear hb_
          have HSQ := Lib.hid (show BoxL wdb w.heap.size [.slice A L.length c] ∧ wdb.cell? ⟨b4, o4 + k, none⟩ = some (.int .i64 n) ∧ wdb.cell? ⟨b6, o6 + q, none⟩ = some (.int .i64 x) from ⟨(HTQb.out).kept (grown_none HD1.out) (fun e => by cases e), cell_on HD1.out (HCQb.out), cell_on HD1.out (HC6.out)⟩)
          refine wpAnyH_take (i := 0) (oi := ⟨some 90, _, _, _, _, _⟩) (v := .bool true) rfl (by kernel_rfl) (by kernel_rfl) (by kernel_rfl) (fun _ _ _ h => h) (Or.inl ⟨by rfl, fun w' hS => by go_simp⟩) HSQ.out ?_
          try simp only [Act.put, List.setIfInBounds_toArray, List.set_cons_zero, List.set_cons_succ]
          refine wpAnyH_take (i := 1) (oi := ⟨some 91, _, _, _, _, _⟩) (v := .bool true) rfl (by kernel_rfl) (by kernel_rfl) (by kernel_rfl) (fun _ _ _ h => h) (Or.inl ⟨by rfl, fun w' hS => by go_simp⟩) HSQ.out ?_
          try simp only [Act.put, List.setIfInBounds_toArray, List.set_cons_zero, List.set_cons_succ]
          refine wpAnyH_take (i := 2) (oi := ⟨some 92, _, _, _, _, _⟩) (v := .agg #[.slice A L.length c]) rfl (by kernel_rfl) (by kernel_rfl) (by kernel_rfl) (fun _ _ _ h => h) (Or.inl ⟨by rfl, fun w' hS => by (have u0_ := hS.1.1 0 _ rfl; have u1_ := hS.2.1; have u2_ := hS.2.2; go_simp)⟩) HSQ.out ?_
          try simp only [Act.put, List.setIfInBounds_toArray, List.set_cons_zero, List.set_cons_succ]
          refine wpAnyH_take (i := 3) (oi := ⟨some 93, _, _, _, _, _⟩) (v := .slice (some ⟨b4, o4, none⟩) l.length c4) rfl (by kernel_rfl) (by kernel_rfl) (by kernel_rfl) (fun _ _ _ h => h) (Or.inl ⟨by rfl, fun w' hS => by go_simp⟩) HSQ.out ?_
          try simp only [Act.put, List.setIfInBounds_toArray, List.set_cons_zero, List.set_cons_succ]
          refine wpAnyH_take (i := 4) (oi := ⟨some 94, _, _, _, _, _⟩) (v := .int .i64 k) rfl (by kernel_rfl) (by kernel_rfl) (by kernel_rfl) (fun _ _ _ h => h) (Or.inl ⟨by rfl, fun w' hS => by go_simp⟩) HSQ.out ?_
          try simp only [Act.put, List.setIfInBounds_toArray, List.set_cons_zero, List.set_cons_succ]
          refine wpAnyH_take (i := 5) (oi := ⟨some 95, _, _, _, _, _⟩) (v := .pointer (some ⟨b4, o4 + k, none⟩)) rfl (by kernel_rfl) (by kernel_rfl) (by kernel_rfl) (fun _ _ _ h => h) (Or.inl ⟨by rfl, fun w' hS => by go_simp⟩) HSQ.out ?_
          try simp only [Act.put, List.setIfInBounds_toArray, List.set_cons_zero, List.set_cons_succ]
          refine wpAnyH_take (i := 6) (oi := ⟨some 96, _, _, _, _, _⟩) (v := .int .i64 n) rfl (by kernel_rfl) (by kernel_rfl) (by kernel_rfl) (fun _ _ _ h => h) (Or.inl ⟨by rfl, fun w' hS => by (have u0_ := hS.1.1 0 _ rfl; have u1_ := hS.2.1; have u2_ := hS.2.2; go_simp)⟩) HSQ.out ?_
          try simp only [Act.put, List.setIfInBounds_toArray, List.set_cons_zero, List.set_cons_succ]
          refine wpAnyH_take (i := 7) (oi := ⟨some 97, _, _, _, _, _⟩) (v := .slice (some ⟨b6, o6, none⟩) acc.length c9) rfl (by kernel_rfl) (by kernel_rfl) (by kernel_rfl) (fun _ _ _ h => h) (Or.inl ⟨by rfl, fun w' hS => by go_simp⟩) HSQ.out ?_
          try simp only [Act.put, List.setIfInBounds_toArray, List.set_cons_zero, List.set_cons_succ]
          refine wpAnyH_take (i := 8) (oi := ⟨some 98, _, _, _, _, _⟩) (v := .int .i64 q) rfl (by kernel_rfl) (by kernel_rfl) (by kernel_rfl) (fun _ _ _ h => h) (Or.inl ⟨by rfl, fun w' hS => by go_simp⟩) HSQ.out ?_
          try simp only [Act.put, List.setIfInBounds_toArray, List.set_cons_zero, List.set_cons_succ]
          refine wpAnyH_take (i := 9) (oi := ⟨some 99, _, _, _, _, _⟩) (v := .pointer (some ⟨b6, o6 + q, none⟩)) rfl (by kernel_rfl) (by kernel_rfl) (by kernel_rfl) (fun _ _ _ h => h) (Or.inl ⟨by rfl, fun w' hS => by go_simp⟩) HSQ.out ?_
          try simp only [Act.put, List.setIfInBounds_toArray, List.set_cons_zero, List.set_cons_succ]
          refine wpAnyH_take (i := 10) (oi := ⟨some 100, _, _, _, _, _⟩) (v := .int .i64 x) rfl (by kernel_rfl) (by kernel_rfl) (by kernel_rfl) (fun _ _ _ h => h) (Or.inl ⟨by rfl, fun w' hS => by (have u0_ := hS.1.1 0 _ rfl; have u1_ := hS.2.1; have u2_ := hS.2.2; go_simp)⟩) HSQ.out ?_
          try simp only [Act.put, List.setIfInBounds_toArray, List.set_cons_zero, List.set_cons_succ]
          refine wpAnyH_ready (rs := [11]) (by kernel_rfl) (by simp) ?_
          refine AllReadyH.cons (o := ⟨some 101, .call ⟨_, _, _⟩, _, _, _, _⟩) rfl (fun K hK => ?_) AllReadyH.nil
          go_simp
          go_at_call 19
          refine (RSisters_any A c L n x _ B (Nat.le_trans HB.out (HBw2.out.trans (HBwdb.out.mono HBw2.out.size)).size) (HX.out.keep ((HBw2.out.trans (HBwdb.out.mono HBw2.out.size)).mono HB.out)) HV.out).mono ?_
          rintro e' wyb ⟨rfl, hb_⟩
          obtain ⟨r, hr⟩ : ∃ z, sisB L n x = z := ⟨_, rfl⟩
          rw [hr]
          have HR := Lib.hid hr; clear hr
          have HD2 := Lib.hid (HD1.out.trans (hb_.mono HD1.out.size)); have HSZ := Lib.hid (show BoxL wyb w.heap.size [.slice A L.length c] ∧ wyb.cell? ⟨b4, o4 + k, none⟩ = some (.int .i64 n) ∧ wyb.cell? ⟨b6, o6 + q, none⟩ = some (.int .i64 x) from ⟨(HSQ.out.1).kept (grown_none hb_) (fun e => by cases e), cell_on hb_ (HSQ.out.2.1), cell_on hb_ (HSQ.out.2.2)⟩)
          have HBwyb := Lib.hid (HBwdb.out.trans (hb_.mono HBwdb.out.size))
          have twyb := Lib.hid (twdb.out.kept (grown_none hb_) (fun e => by cases e))
          have HOwyb := Lib.hid (HOwdb.out.below hb_)
          clear hb_
          refine hK.out _ _ HSZ.out (fun _ => ?_)
          clear hK K
          try simp only [Act.put, List.setIfInBounds_toArray, List.set_cons_zero, List.set_cons_succ]
          refine wpAnyH_take (i := 12) (oi := ⟨some 102, _, _, _, _, _⟩) (v := .bool (!r)) rfl (by kernel_rfl) (by kernel_rfl) (by kernel_rfl) (fun _ _ _ h => h) (Or.inl ⟨by rfl, fun w' hS => by go_simp⟩) HSZ.out ?_
          try simp only [Act.put, List.setIfInBounds_toArray, List.set_cons_zero, List.set_cons_succ]
          refine wpAnyH_take (i := 13) (oi := ⟨some 103, _, _, _, _, _⟩) (v := .bool (!r)) rfl (by kernel_rfl) (by kernel_rfl) (by kernel_rfl) (fun _ _ _ h => h) (Or.inl ⟨by rfl, fun w' hS => by go_simp⟩) HSZ.out ?_
          try simp only [Act.put, List.setIfInBounds_toArray, List.set_cons_zero, List.set_cons_succ]
          refine wpAnyH_take (i := 14) (oi := ⟨some 10, _, _, _, _, _⟩) (v := .bool (!r)) rfl (by kernel_rfl) (by kernel_rfl) (by kernel_rfl) (fun _ _ _ h => h) (Or.inl ⟨by rfl, fun w' hS => by go_simp⟩) HSZ.out ?_
          try simp only [Act.put, List.setIfInBounds_toArray, List.set_cons_zero, List.set_cons_succ]
          refine wpAnyH_done (by kernel_rfl) ?_ _
          have HZn := Lib.hid (show (!r) = (z2 && (acc.take (q + 1)).all (fun b => !sisB L n b)) by rw [HSN.out, ← Bool.and_assoc, ← HZ.out]; rw [HR.out]; rfl)
          have HBn := Lib.hid (show Below wa.heap.size wa wyb from HBQ.out.trans (HD2.out.mono HBQ.out.size))
          try go_wp2
          go_roundw
          case rel => exact ⟨(!r), q + 1, by omega, rfl, by go_num, HZn, HBn⟩
          case measure => simp [intOf]; omega
        ·
         have i2 : ¬ (q : Int) < (acc.length : Int) := by omega
         obtain rfl : q = acc.length := by omega
         obtain ⟨z3, hz3⟩ : ∃ z', z = z' := ⟨_, rfl⟩
         have HZ3 := Lib.hid (show z3 = (z2 && acc.all (fun b => !sisB L n b)) by have h := HZ.out; rw [List.take_length] at h; rw [← hz3]; exact h)
         rw [hz3]
         clear hz3 HZ HBQ
         have HAL := Lib.hid (show okBat L dirty busy acc n = z3 by unfold okBat; rw [HKE.out, HZ3.out, HZ2.out, HZ1.out, ← HZ0.out]; rfl)
         rw [HAL.out] at HST
         go_upto_region 20 with fail
         rw [show (Value.slice A9 acc.length c9) = u7 from HV9.out.symm]
         cases z3
         ·
          try go_wp2
          go_roundw
          case rel => exact ⟨k + 1, acc, by omega, by omega, by go_num, Lib.hid (by rw [HST.out]; rfl), HBWb, HTQb, HOQb⟩
          case measure => simp [intOf]; omega
         ·
          have x4_ := HCQb.out
          obtain ⟨wa, hwa⟩ : ∃ z, wb.alloc (.cells #[.int .i64 n] 3) = z := ⟨_, rfl⟩
          have hba : Below wb.heap.size wb wa := by rw [← hwa]; exact (Below.refl _ _).alloc (Nat.le_refl _) _
          have hnew := lit_cells hwa (l := [.int .i64 n]) rfl
          have HNEW := Lib.hid hnew; clear hnew
          have HBwa := Lib.hid (HBWb.out.trans (hba.mono HBWb.out.size))
          have twa := Lib.hid (HTQb.out.kept (grown_none hba) (fun e => by cases e))
          have HOwa := Lib.hid (HOQb.out.below hba)
          clear hba
          have HRD := Lib.hid (show RepS.rdS wa (fun b => True ∧ b < wa.heap.size ∧ u7.ownBlock ≠ some b) n [.int .i64 n] from ⟨rfl, HOKN.out⟩)
          go_wp2_with (at_builtin; go_must (refine wpList_app1 E_int rfl _ _ rfl u7 _ rfl HOwa.out wb.heap.size rfl n [.int .i64 n] HNEW.out HRD.out HAM.out.1 HAM.out.2 (HBwa.out.size) ?_); intro v2 w9 hown_ hgrow_ hnew_; have HOWN9 := Lib.hid hown_; have HGROW9 := Lib.hid hgrow_; clear hown_ hgrow_ hnew_)
          have HB9 := Lib.hid (show Below w2.heap.size w2 w9 from below_own HBwa.out HGROW9.out HBwa.out.size (fun k hk => (HOwa.out.lt k hk).1))
          have HT9 := Lib.hid (twa.out.kept HGROW9.out (fun e => by have := (HOwa.out.lt _ e.symm).1; have := HTB.out; omega))
          try go_wp2
          go_roundw
          case rel => exact ⟨k + 1, acc ++ [n], by omega, by rw [List.length_append]; simp; omega, by go_num, Lib.hid (by rw [HST.out]; rfl), HB9, HT9, HOWN9⟩
          case measure => simp [intOf]; omega
  ·
   have i1 : ¬ (k : Int) < (l.length : Int) := by omega
   obtain rfl : k = l.length := by omega
   have HF := Lib.hid (show acc = batR L dirty busy (ordR L dirty) [] by rw [HLE.out, HR0.out, ← HBA.out, batR_end])
   have ct0 := HTR.out.1 0 _ rfl
   go_wp2
   go_ret
   exact ⟨(HBw2.out.trans (HBR.out.mono HBw2.out.size)), _, by first | rfl | exact rfl, by have h := HOWN.out; rw [HF.out] at h; exact h.low (by have := HTB.out; omega)⟩
end Go.Proofs.YtomcebcaendilaaGreatDoor
