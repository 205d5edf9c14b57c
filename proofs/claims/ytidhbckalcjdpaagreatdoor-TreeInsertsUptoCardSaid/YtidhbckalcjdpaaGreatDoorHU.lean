/-
  The walk of the reference's Remove.
-/
import Derived.Test.YtidhbckalcjdpaaGreatDoorHO
import Derived.Test.YtidhbckalcjdpaaGreatDoorHT
import Derived.Test.YtidhbckalcjdpaaGreatDoorHS
set_option linter.unusedSimpArgs false
set_option linter.unusedVariables false
namespace Go.Cold
open Go Go.RowKit
def remE (L : List Dev) (n : Int) : Int := if n ∈ idxs L then 0 else 45
def remX (L : List Dev) (n : Int) : List Dev := if n ∈ idxs L then remL L n else []
/-- The devices that stay. -/
def stayD (L : List Dev) (n : Int) (d : Dev) : Bool := !belowR L n d.idx

/-- Where the loop stands that gathers devices in a box. -/
def BoxSt (F : Nat → Prop) (T : TypeId) (w0 w1 : World) (go : Nat) (p : Dev → Bool) (L : List Dev) (k : Nat) (w : World) : Prop :=
 Below w0.heap.size w0 w ∧ w1.heap.size ≤ w.heap.size ∧ ∃ v, BoxL w go [v] ∧ OwnsS F w w1.heap.size T v ((L.take k).filter p)
end Go.Cold
namespace Go.Proofs.YtidhbckalcjdpaaGreatDoor
open Go.RowKit Go.Cold
/-- What a function answers that makes a tree: the error, and the tree. -/
def TreF (F : Nat → Prop) (z : Int) (l : List Dev) (w : World) (e : Ending) (w' : World) : Prop := Below w.heap.size w w' ∧ ∃ v, e = .returned (.tuple #[.agg #[v], .int .i64 z]) ∧ OwnsS F w' w.heap.size 34 v l
theorem TreF.mk {F : Nat → Prop} {z : Int} {l : List Dev} {w w' : World} {e : Ending} {v : Value} (h1 : Below w.heap.size w w') (h2 : e = .returned (.tuple #[.agg #[v], .int .i64 z])) (h3 : OwnsS F w' w.heap.size 34 v l) : TreF F z l w e w' := ⟨h1, v, h2, h3⟩
theorem TreF.err {F : Nat → Prop} {z : Int} {w w' : World} {e : Ending} (h1 : Below w.heap.size w w') (h2 : e = .returned (.tuple #[.agg #[.slice none 0 0], .int .i64 z])) : TreF F z [] w e w' := ⟨h1, _, h2, OwnsS.nil_ _ _ _ _⟩
set_option maxRecDepth 100000 in
set_option maxHeartbeats 2000000 in
/-- The reference's Remove. -/
theorem RRemove_any (A : Option Addr) (c : Nat) (L : List Dev) (n : Int) (w : World) (B : Nat) (hB : B ≤ w.heap.size) (hx : Sl w B A c L) (hl : L.length ≤ 1000) (hwf : WF L) (hn : okI n) :
  Calls Tryz.prog 45 #[.agg #[.slice A L.length c], .int .i64 n] w (TreF (fun x => x < B) (remE L n) (remX L n) w) := by
 have hx1 := hx.1; have hx2 := hx.2.1
 unfold maxLen at hx2
 have HX := Lib.hid hx; have HB := Lib.hid hB; have HL3 := Lib.hid hl; have HL := Lib.hid (show L.length ≤ 1000000 by omega); have HWF := Lib.hid hwf; have HN := Lib.hid hn; clear hx hB hl hwf hn
 go_enter Tryz.func45, Tryz.ntmps45
 go_upto_region 1 with fail
 obtain ⟨w1, hw1⟩ : ∃ w1, w.alloc (.cells #[.slice A L.length c] 29) = w1 := ⟨_, rfl⟩
 have hbw1 : Below w.heap.size w w1 := by rw [← hw1]; exact (Below.refl _ _).alloc (Nat.le_refl _) _
 have HGw1 := Lib.hid (show w1.heap.size = w.heap.size + 1 by rw [← hw1]; simp)
 have HXtw1 := Lib.hid (show BoxL w1 w.heap.size [.slice A L.length c] from box_mk hw1)
 try simp only [hw1]
 have HSTEPw1 := Lib.hid hbw1
 have HSw1 := Lib.hid (show w.heap.size ≤ w1.heap.size from hbw1.size)
 have HBw1 := Lib.hid hbw1
 clear hw1 hbw1
 try rw [show w.heap.size + 1 = w1.heap.size from HGw1.out.symm]
 obtain ⟨w2, hw2⟩ : ∃ w2, w1.alloc (.cells #[.slice none 0 0] 29) = w2 := ⟨_, rfl⟩
 have hbw2 : Below w1.heap.size w1 w2 := by rw [← hw2]; exact (Below.refl _ _).alloc (Nat.le_refl _) _
 have HGw2 := Lib.hid (show w2.heap.size = w1.heap.size + 1 by rw [← hw2]; simp)
 have HXrw2 := Lib.hid (show BoxL w2 w1.heap.size [.slice none 0 0] from box_mk hw2)
 try simp only [hw2]
 have HSTEPw2 := Lib.hid hbw2
 have HSw2 := Lib.hid (show w1.heap.size ≤ w2.heap.size from hbw2.size)
 have HBw2 := Lib.hid (HBw1.out.trans (hbw2.mono HBw1.out.size))
 have tw2 := Lib.hid (HXtw1.out.kept (grown_none hbw2) (fun e => by cases e))
 clear hw2 hbw2
 try rw [show w1.heap.size + 1 = w2.heap.size from HGw2.out.symm]
 have ct0 := tw2.out.1 0 _ rfl
 have cfr := HXrw2.out.2.1
 go_wp2_with fail
 refine (index_any2 A c L n _ B (HX.out.keep (HBw2.out.mono HB.out))).mono ?_
 rintro e w' ⟨rfl, rfl⟩
 have hcon := idx_contains n L
 obtain ⟨z, hz⟩ : ∃ z, idxInt (fun d : Dev => decide (d.idx = n)) L = z := ⟨_, rfl⟩
 rw [hz] at hcon ⊢
 clear hz
 cases hin : (idxs L).contains n with
 | false =>
  rw [hin] at hcon
  have i1 : z < 0 := by have := of_decide_eq_false hcon; omega
  have HNI := Lib.hid (show n ∉ idxs L from fun h => by rw [List.contains_iff_mem.2 h] at hin; cases hin); clear hin hcon
  clear ct0 cfr
  have cr0 := HXrw2.out.1 0 _ rfl
  have cfr := HXrw2.out.2.1
  go_wp2
  refine bodyPost_ret (v := .tuple #[.agg #[.slice none 0 0], .int .i64 45]) (by simp [results, Tryz.results45, go_sem, cr0, cfr]) rfl ?_
  rw [show remE L n = 45 from if_neg HNI.out, show remX L n = [] from if_neg HNI.out]
  exact TreF.err (HBw2.out.setCell (by have := HGw1.out; show w.heap.size ≤ w1.heap.size; omega) _) rfl
 | true =>
  rw [hin] at hcon
  have i1 : ¬ z < 0 := by have := of_decide_eq_true hcon; omega
  have HNI := Lib.hid (show n ∈ idxs L from List.contains_iff_mem.1 hin); clear hin hcon
  go_upto_region 4 with fail
  clear i1
  obtain ⟨w3, hw3⟩ : ∃ w3, w2.alloc (.cells #[.slice none 0 0] 29) = w3 := ⟨_, rfl⟩
  have hbw3 : Below w2.heap.size w2 w3 := by rw [← hw3]; exact (Below.refl _ _).alloc (Nat.le_refl _) _
  have HGw3 := Lib.hid (show w3.heap.size = w2.heap.size + 1 by rw [← hw3]; simp)
  have HXow3 := Lib.hid (show BoxL w3 w2.heap.size [.slice none 0 0] from box_mk hw3)
  try simp only [hw3]
  have HSTEPw3 := Lib.hid hbw3
  have HSw3 := Lib.hid (show w2.heap.size ≤ w3.heap.size from hbw3.size)
  have HBw3 := Lib.hid (HBw2.out.trans (hbw3.mono HBw2.out.size))
  have tw3 := Lib.hid (tw2.out.kept (grown_none hbw3) (fun e => by cases e))
  have rw3 := Lib.hid (HXrw2.out.kept (grown_none hbw3) (fun e => by cases e))
  clear hw3 hbw3
  try rw [show w2.heap.size + 1 = w3.heap.size from HGw3.out.symm]
  clear ct0 cfr
  have HST := Lib.hid (show BoxSt (fun x => x < B) 34 w w3 w2.heap.size (stayD L n) L 0 w3 from ⟨HBw3.out, Nat.le_refl _, _, HXow3.out, OwnsS.nil_ _ _ _ _⟩)
  have HTR := tw3; have HRR := rw3
  have HLT := Lib.hid (show w.heap.size < w1.heap.size ∧ w1.heap.size < w2.heap.size ∧ w2.heap.size < w3.heap.size from ⟨by have := HGw1.out; omega, by have := HGw2.out; omega, by have := HGw3.out; omega⟩)
  go_wp2_with fail
  go_loopw [7] (fun i wr => ∃ k : Nat, k ≤ L.length ∧ i = .int .i64 k ∧ Hid (BoxSt (fun x => x < B) 34 w w3 w2.heap.size (stayD L n) L k wr) ∧ Hid (BoxL wr w.heap.size [.slice A L.length c]) ∧ Hid (BoxL wr w1.heap.size [.slice none 0 0])) (fun i _ => L.length - (intOf i).toNat)
  case atStart => exact ⟨0, Nat.zero_le _, rfl, HST, HTR, HRR⟩
  case round =>
   clear HST HTR HRR
   obtain ⟨k, hk, rfl, HST, HTR, HRR⟩ := hrel
   obtain ⟨hbr_, hwr_, v, hbox_, hown_⟩ := HST.out
   have HBR := Lib.hid hbr_; have HWR := Lib.hid hwr_; have HOR := Lib.hid hbox_; have HOWN := Lib.hid hown_
   clear hbr_ hwr_ hbox_ hown_
   have HW0 := Lib.hid (Below.refl wr.heap.size wr)
   have ct0 := HTR.out.1 0 _ rfl
   by_cases hlt : k < L.length
   ·
    have i1 : (k : Int) < (L.length : Int) := by omega
    obtain ⟨b3, o3, rfl, hb3, A3, c3, hok3, hat3, hcs3⟩ := (HX.out.keep (HBR.out.mono HB.out)).dev hlt
    have hxk : L[k]? = some L[k] := List.getElem?_eq_getElem hlt
    obtain ⟨y, hy⟩ : ∃ y, L[k]'hlt = y := ⟨_, rfl⟩
    rw [hy] at hok3 hcs3 hxk hat3
    have HXK := Lib.hid hxk; have HOK3 := Lib.hid hok3; have HMEM := Lib.hid (List.mem_of_getElem? hxk)
    have HDC := Lib.hid hcs3
    have HAT := Lib.hid hat3; have HB3 := Lib.hid hb3
    clear hxk hok3 hat3 hy hcs3 hb3
    have hacl := filter_len (stayD L n) L k
    obtain ⟨acc, hacc⟩ : ∃ z, (L.take k).filter (stayD L n) = z := ⟨_, rfl⟩
    rw [hacc] at hacl HOWN
    have HACC := Lib.hid hacc; have HACL := Lib.hid (Nat.lt_of_le_of_lt hacl hlt); clear hacc hacl
    have HAM := Lib.hid (show acc.length + 1 ≤ maxLen ∧ (acc.length + 1) * 136 ≤ 140737488355328 by have := HACL.out; have := HL.out; constructor <;> first | (unfold maxLen; omega) | omega)
    have HLQ := Lib.hid (show w.heap.size < wr.heap.size ∧ w2.heap.size < wr.heap.size ∧ b3 < w.heap.size from ⟨by have := HWR.out; have := HLT.out; omega, by have := HWR.out; have := HLT.out; omega, by have := HB3.out; have := HB.out; omega⟩)
    clear ct0
    have ct0 := HTR.out.1 0 _ rfl
    obtain ⟨y0, -⟩ := HDC.out
    go_upto_region 7 with fail
    have hS_ : BoxL wr w.heap.size [.slice (some ⟨b3, o3, none⟩) L.length c] ∧ wr.cell? ⟨b3, o3 + k * 10, none⟩ = some (.int .i64 y.idx) := ⟨HTR.out, y0⟩
    have HS_ := Lib.hid hS_; clear hS_ y0
    refine wp_region_held_drew (S := fun w' => BoxL w' w.heap.size [.slice (some ⟨b3, o3, none⟩) L.length c] ∧ w'.cell? ⟨b3, o3 + k * 10, none⟩ = some (.int .i64 y.idx)) (by kernel_rfl) ⟨HS_.out.1.drew, HS_.out.2⟩ (fun hS0 => ?_)
    obtain ⟨wd, hwd⟩ : ∃ z, wr.drew = z := ⟨_, rfl⟩
    rw [hwd] at hS0 ⊢
    have hbd : Below wr.heap.size wr wd := by rw [← hwd]; exact below_drewN_self _ _ 1
    clear hwd
    clear ct0
    have HSW := Lib.hid hbd.size
    have HSwd := Lib.hid (show wr.heap.size ≤ wd.heap.size from hbd.size)
    have HBwd := Lib.hid (HBR.out.trans (hbd.mono HBR.out.size))
    have twd := Lib.hid (HTR.out.kept (grown_none hbd) (fun e => by cases e))
    have rwd := Lib.hid (HRR.out.kept (grown_none hbd) (fun e => by cases e))
    have owd := Lib.hid (HOR.out.kept (grown_none hbd) (fun e => by cases e))
    have HOwd := Lib.hid (HOWN.out.below hbd)
    have HSwd := Lib.hid (Nat.le_trans HWR.out hbd.size)
    have HWwd := Lib.hid (below_next HW0.out hbd)
    clear hbd
    have HS1 := Lib.hid hS0; clear hS0
    refine wpAnyH_take (i := 0) (oi := ⟨some 21, _, _, _, _, _⟩) (v := .agg #[.slice (some ⟨b3, o3, none⟩) L.length c]) rfl (by kernel_rfl) (by kernel_rfl) (by kernel_rfl) (fun _ _ _ h => h) (Or.inl ⟨by rfl, fun w' hS => by (have u0_ := hS.1.1 0 _ rfl; go_simp)⟩) HS1.out ?_
    try simp only [Act.put, List.setIfInBounds_toArray, List.set_cons_zero, List.set_cons_succ]
    refine wpAnyH_take (i := 1) (oi := ⟨some 22, _, _, _, _, _⟩) (v := .pointer (some ⟨w.heap.size, 0, none⟩)) rfl (by kernel_rfl) (by kernel_rfl) (by kernel_rfl) (fun _ _ _ h => h) (Or.inl ⟨by rfl, fun w' hS => by go_simp⟩) HS1.out ?_
    try simp only [Act.put, List.setIfInBounds_toArray, List.set_cons_zero, List.set_cons_succ]
    refine wpAnyH_take (i := 2) (oi := ⟨some 23, _, _, _, _, _⟩) (v := .slice (some ⟨b3, o3, none⟩) L.length c) rfl (by kernel_rfl) (by kernel_rfl) (by kernel_rfl) (fun _ _ _ h => h) (Or.inl ⟨by rfl, fun w' hS => by (have u0_ := hS.1.1 0 _ rfl; go_simp)⟩) HS1.out ?_
    try simp only [Act.put, List.setIfInBounds_toArray, List.set_cons_zero, List.set_cons_succ]
    refine wpAnyH_take (i := 3) (oi := ⟨some 24, _, _, _, _, _⟩) (v := .int .i64 k) rfl (by kernel_rfl) (by kernel_rfl) (by kernel_rfl) (fun _ _ _ h => h) (Or.inl ⟨by rfl, fun w' hS => by go_simp⟩) HS1.out ?_
    try simp only [Act.put, List.setIfInBounds_toArray, List.set_cons_zero, List.set_cons_succ]
    refine wpAnyH_take (i := 4) (oi := ⟨some 25, _, _, _, _, _⟩) (v := .pointer (some ⟨b3, o3 + k * 10, none⟩)) rfl (by kernel_rfl) (by kernel_rfl) (by kernel_rfl) (fun _ _ _ h => h) (Or.inl ⟨by rfl, fun w' hS => by go_simp⟩) HS1.out ?_
    try simp only [Act.put, List.setIfInBounds_toArray, List.set_cons_zero, List.set_cons_succ]
    refine wpAnyH_take (i := 5) (oi := ⟨some 26, _, _, _, _, _⟩) (v := .pointer (some ⟨b3, o3 + k * 10, none⟩)) rfl (by kernel_rfl) (by kernel_rfl) (by kernel_rfl) (fun _ _ _ h => h) (Or.inl ⟨by rfl, fun w' hS => by go_simp⟩) HS1.out ?_
    try simp only [Act.put, List.setIfInBounds_toArray, List.set_cons_zero, List.set_cons_succ]
    refine wpAnyH_take (i := 6) (oi := ⟨some 27, _, _, _, _, _⟩) (v := .int .i64 y.idx) rfl (by kernel_rfl) (by kernel_rfl) (by kernel_rfl) (fun _ _ _ h => h) (Or.inl ⟨by rfl, fun w' hS => by (have u0_ := hS.2; go_simp)⟩) HS1.out ?_
    try simp only [Act.put, List.setIfInBounds_toArray, List.set_cons_zero, List.set_cons_succ]
    refine wpAnyH_take (i := 7) (oi := ⟨some 28, _, _, _, _, _⟩) (v := .int .i64 n) rfl (by kernel_rfl) (by kernel_rfl) (by kernel_rfl) (fun _ _ _ h => h) (Or.inl ⟨by rfl, fun w' hS => by go_simp⟩) HS1.out ?_
    try simp only [Act.put, List.setIfInBounds_toArray, List.set_cons_zero, List.set_cons_succ]
    obtain ⟨q, hq⟩ : ∃ q, belowR L n y.idx = q := ⟨_, rfl⟩
    have HQ := Lib.hid hq; clear hq
    refine wpAnyH_ready (rs := [8]) (by kernel_rfl) (by simp) ?_
    refine AllReadyH.cons (o := ⟨some 29, .call ⟨_, _, _⟩, _, _, _, _⟩) rfl (fun K hK => ?_) AllReadyH.nil
    go_simp
    go_at_call 73
    refine (RBelow_any (some ⟨b3, o3, none⟩) c L y.idx n wd B (Nat.le_trans HB.out HBwd.out.size) (HX.out.keep (HBwd.out.mono HB.out)) HL3.out HOK3.out.1).mono ?_
    rintro e' q3 ⟨rfl, hb_⟩
    have HSQ := Lib.hid (show (BoxL q3 w.heap.size [.slice (some ⟨b3, o3, none⟩) L.length c] ∧ q3.cell? ⟨b3, o3 + k * 10, none⟩ = some (.int .i64 y.idx)) from ⟨HS1.out.1.kept (grown_none hb_) (fun e => by cases e), (hb_.cell (p := ⟨b3, o3 + k * 10, none⟩) (by have := HLQ.out; have := HSW.out; show b3 < wd.heap.size; omega)).trans HS1.out.2⟩)
    have hbq_ := hb_
    rw [HQ.out]
    refine hK.out _ _ HSQ.out (fun _ => ?_)
    clear hK K
    try simp only [Act.put, List.setIfInBounds_toArray, List.set_cons_zero, List.set_cons_succ]
    have HSq3 := Lib.hid (show wd.heap.size ≤ q3.heap.size from hbq_.size)
    have HBq3 := Lib.hid (HBwd.out.trans (hbq_.mono HBwd.out.size))
    have tq3 := Lib.hid (twd.out.kept (grown_none hbq_) (fun e => by cases e))
    have rq3 := Lib.hid (rwd.out.kept (grown_none hbq_) (fun e => by cases e))
    have oq3 := Lib.hid (owd.out.kept (grown_none hbq_) (fun e => by cases e))
    have HOq3 := Lib.hid (HOwd.out.below hbq_)
    have HSq3 := Lib.hid (Nat.le_trans HSwd.out hbq_.size)
    have HWq3 := Lib.hid (below_next HWwd.out hbq_)
    clear hbq_ hb_
    refine wpAnyH_take (i := 9) (oi := ⟨some 30, _, _, _, _, _⟩) (v := .bool (!q)) rfl (by kernel_rfl) (by kernel_rfl) (by kernel_rfl) (fun _ _ _ h => h) (Or.inl ⟨by rfl, fun w' hS => by go_simp⟩) HSQ.out ?_
    try simp only [Act.put, List.setIfInBounds_toArray, List.set_cons_zero, List.set_cons_succ]
    refine wpAnyH_done (by kernel_rfl) ?_ _
    cases q with
    | true =>
     have HP := Lib.hid (show stayD L n y = false from by unfold stayD; rw [HQ.out]; rfl)
     have HSTn := Lib.hid (show BoxSt (fun x => x < B) 34 w w3 w2.heap.size (stayD L n) L (k + 1) q3 from ⟨HBq3.out, HSq3.out, _, oq3.out, by rw [filter_step HXK.out, if_neg (by rw [HP.out]; decide), HACC.out]; exact HOq3.out⟩)
     go_wp2
     go_roundw
     case rel => exact ⟨k + 1, by omega, by go_num, HSTn, tq3, rq3⟩
     case measure => simp [intOf]; omega
    | false =>
     have HP := Lib.hid (show stayD L n y = true from by unfold stayD; rw [HQ.out]; rfl)
     go_upto_region 8 with fail
     have HDQ := Lib.hid (show DCells q3 b3 (o3 + k * 10) y A3 c3 from HDC.out.keep HWq3.out (by have := HLQ.out; omega))
     refine wp_region_held_drew (S := fun w' => BoxL w' w.heap.size [.slice (some ⟨b3, o3, none⟩) L.length c] ∧ DCells w' b3 (o3 + k * 10) y A3 c3) (by kernel_rfl) ⟨tq3.out.drew, HDQ.out.keep (below_drewN_self q3 q3.heap.size 1) (by have := HLQ.out; have := HWq3.out.size; omega)⟩ (fun hS0 => ?_)
     obtain ⟨we, hwe⟩ : ∃ z, q3.drew = z := ⟨_, rfl⟩
     rw [hwe] at hS0 ⊢
     have hbe : Below q3.heap.size q3 we := by rw [← hwe]; exact below_drewN_self _ _ 1
     clear hwe
     have HSwe := Lib.hid (show q3.heap.size ≤ we.heap.size from hbe.size)
     have HBwe := Lib.hid (HBq3.out.trans (hbe.mono HBq3.out.size))
     have twe := Lib.hid (tq3.out.kept (grown_none hbe) (fun e => by cases e))
     have rwe := Lib.hid (rq3.out.kept (grown_none hbe) (fun e => by cases e))
     have owe := Lib.hid (oq3.out.kept (grown_none hbe) (fun e => by cases e))
     have HOwe := Lib.hid (HOq3.out.below hbe)
     have HSwe := Lib.hid (Nat.le_trans HSq3.out hbe.size)
     have HWwe := Lib.hid (below_next HWq3.out hbe)
     clear hbe
     have HS8 := Lib.hid hS0; clear hS0
     refine wpAnyH_take (i := 0) (oi := ⟨some 31, _, _, _, _, _⟩) (v := .pointer (some ⟨w2.heap.size, 0, none⟩)) rfl (by kernel_rfl) (by kernel_rfl) (by kernel_rfl) (fun _ _ _ h => h) (Or.inl ⟨by rfl, fun w' hS => by go_simp⟩) HS8.out ?_
     try simp only [Act.put, List.setIfInBounds_toArray, List.set_cons_zero, List.set_cons_succ]
     refine wpAnyH_take (i := 2) (oi := ⟨some 33, _, _, _, _, _⟩) (v := .pointer (some ⟨w.heap.size, 0, none⟩)) rfl (by kernel_rfl) (by kernel_rfl) (by kernel_rfl) (fun _ _ _ h => h) (Or.inl ⟨by rfl, fun w' hS => by go_simp⟩) HS8.out ?_
     try simp only [Act.put, List.setIfInBounds_toArray, List.set_cons_zero, List.set_cons_succ]
     refine wpAnyH_take (i := 3) (oi := ⟨some 34, _, _, _, _, _⟩) (v := .slice (some ⟨b3, o3, none⟩) L.length c) rfl (by kernel_rfl) (by kernel_rfl) (by kernel_rfl) (fun _ _ _ h => h) (Or.inl ⟨by rfl, fun w' hS => by (have u0_ := hS.1.1 0 _ rfl; go_simp)⟩) HS8.out ?_
     try simp only [Act.put, List.setIfInBounds_toArray, List.set_cons_zero, List.set_cons_succ]
     refine wpAnyH_take (i := 4) (oi := ⟨some 35, _, _, _, _, _⟩) (v := .int .i64 k) rfl (by kernel_rfl) (by kernel_rfl) (by kernel_rfl) (fun _ _ _ h => h) (Or.inl ⟨by rfl, fun w' hS => by go_simp⟩) HS8.out ?_
     try simp only [Act.put, List.setIfInBounds_toArray, List.set_cons_zero, List.set_cons_succ]
     refine wpAnyH_take (i := 5) (oi := ⟨some 36, _, _, _, _, _⟩) (v := .pointer (some ⟨b3, o3 + k * 10, none⟩)) rfl (by kernel_rfl) (by kernel_rfl) (by kernel_rfl) (fun _ _ _ h => h) (Or.inl ⟨by rfl, fun w' hS => by go_simp⟩) HS8.out ?_
     try simp only [Act.put, List.setIfInBounds_toArray, List.set_cons_zero, List.set_cons_succ]
     refine wpAnyH_take (i := 6) (oi := ⟨some 37, _, _, _, _, _⟩) (v := .agg #[.int .i64 y.idx, .int .i64 y.par, .string y.nm, .string y.orig, .string y.sub, .string y.drv, .string y.ali, .int .i64 y.kind, .int .i64 y.num, .slice A3 y.attrs.length c3]) rfl (by kernel_rfl) (by kernel_rfl) (by kernel_rfl) (fun _ _ _ h => h) (Or.inl ⟨by rfl, fun w' hS => by (obtain ⟨u0, u1, u2, u3, u4, u5, u6, u7, u8, u9⟩ := hS.2; go_simp)⟩) HS8.out ?_
     try simp only [Act.put, List.setIfInBounds_toArray, List.set_cons_zero, List.set_cons_succ]
     refine wpAnyH_ready (rs := [1, 7]) (by kernel_rfl) (by simp) ?_
     refine AllReadyH.cons (o := ⟨some 32, .load _ _, _, _, _, _⟩) rfl (fun K hK => ?_) (AllReadyH.cons (o := ⟨some 38, .buildSlice _ _ _, _, _, _, _⟩) rfl (fun K hK => ?_) AllReadyH.nil)
     ·
      have cn0 := owe.out.1 0 _ rfl
      go_simp
      refine hK.out _ _ ⟨twe.out, HS8.out.2⟩ (fun _ => ?_)
      clear hK K cn0
      try simp only [Act.put, List.setIfInBounds_toArray, List.set_cons_zero, List.set_cons_succ]
      refine wpAnyH_ready (rs := [7]) (by kernel_rfl) (by simp) ?_
      refine AllReadyH.cons (o := ⟨some 38, .buildSlice _ _ _, _, _, _, _⟩) rfl (fun K hK => ?_) AllReadyH.nil
      go_simp
      obtain ⟨wa, hwa⟩ : ∃ z, we.alloc (.cells #[.int .i64 y.idx, .int .i64 y.par, .string y.nm, .string y.orig, .string y.sub, .string y.drv, .string y.ali, .int .i64 y.kind, .int .i64 y.num, .slice A3 y.attrs.length c3] 34) = z := ⟨_, rfl⟩
      have hba : Below we.heap.size we wa := by rw [← hwa]; exact (Below.refl _ _).alloc (Nat.le_refl _) _
      have HGA := Lib.hid (show wa.heap.size = we.heap.size + 1 by rw [← hwa]; simp)
      have hnew := lit_cells hwa (l := devCells y A3 c3) rfl
      have HNEW := Lib.hid hnew; clear hnew
      try rw [hwa]
      clear hwa
      have HDA := Lib.hid (show DCells wa b3 (o3 + k * 10) y A3 c3 from HS8.out.2.keep hba (by have := HLQ.out; have := HWwe.out.size; omega))
      have HSwa := Lib.hid (show we.heap.size ≤ wa.heap.size from hba.size)
      have HBwa := Lib.hid (HBwe.out.trans (hba.mono HBwe.out.size))
      have twa := Lib.hid (twe.out.kept (grown_none hba) (fun e => by cases e))
      have rwa := Lib.hid (rwe.out.kept (grown_none hba) (fun e => by cases e))
      have owa := Lib.hid (owe.out.kept (grown_none hba) (fun e => by cases e))
      have HOwa := Lib.hid (HOwe.out.below hba)
      have HSwa := Lib.hid (Nat.le_trans HSwe.out hba.size)
      have HWwa := Lib.hid (below_next HWwe.out hba)
      clear hba
      refine hK.out _ _ ⟨twa.out, HDA.out⟩ (fun _ => ?_)
      clear hK K
      try simp only [Act.put, List.setIfInBounds_toArray, List.set_cons_zero, List.set_cons_succ]
      refine wpAnyH_ready (rs := [8]) (by kernel_rfl) (by simp) ?_
      refine AllReadyH.cons (o := ⟨some 39, .call ⟨_, _, _⟩, _, _, _, _⟩) rfl (fun K hK => ?_) AllReadyH.nil
      have HRD := Lib.hid (show RepS.rdS wa (fun b => b < B ∧ b < wa.heap.size ∧ v.ownBlock ≠ some b) y (devCells y A3 c3) from ⟨A3, c3, rfl, HOK3.out, (SlS_iff.1 (HAT.out.keep (HWwa.out.mono (by have := HB.out; have := HLQ.out; omega)))).mono (fun b (hb : b < B) => ⟨hb, by have := HB.out; have := HBwa.out.size; omega, fun e => by have h5 := (HOWN.out.lt b e).1; have := HB.out; have := HLT.out; omega⟩) (fun _ _ _ _ hu => hu)⟩)
      have hlow : ∀ k, v.ownBlock = some k → w3.heap.size ≤ k := fun k hk => (HOWN.out.lt k hk).1
      refine step_app rfl _ _ rfl v (.slice (some ⟨we.heap.size, 0, none⟩) 1 1) (by simp [Act.eval, Act.put]) (by simp [Act.eval, Act.put]) (run_app1 E_dev _ v acc HOwa.out we.heap.size y (devCells y A3 c3) HNEW.out HRD.out HAM.out.1 HAM.out.2 HSwa.out) ?_
      rintro v2 q9 ⟨hown_, hg_, hnew_⟩
      have HB9 := Lib.hid (show Below w.heap.size w q9 from below_own HBwa.out hg_ HBwa.out.size (fun k hk => by have := hlow k hk; have := HLT.out; omega))
      have t9 := Lib.hid (twa.out.kept hg_ (fun e => by have := hlow _ e.symm; have := HLT.out; omega))
      have r9 := Lib.hid (rwa.out.kept hg_ (fun e => by have := hlow _ e.symm; have := HLT.out; omega))
      have o9 := Lib.hid (owa.out.kept hg_ (fun e => by have := hlow _ e.symm; have := HLT.out; omega))
      have HD9 := Lib.hid (show DCells q9 b3 (o3 + k * 10) y A3 c3 from HDA.out.keep (below_own (Below.refl w.heap.size wa) hg_ HBwa.out.size (fun k hk => by have := hlow k hk; have := HLT.out; omega)) HLQ.out.2.2)
      have HOW9 := Lib.hid hown_; have HSZ9 := Lib.hid (show w3.heap.size ≤ q9.heap.size from Nat.le_trans HSwa.out hg_.size)
      clear hown_ hg_ hnew_ hlow
      obtain ⟨A9, c9, hv9, -⟩ := HOW9.out.sl
      subst hv9
      rw [show (acc ++ [y]).length = acc.length + 1 by simp] at HOW9
      refine hK.out _ _ ⟨t9.out, HD9.out⟩ (fun _ => ?_)
      clear hK K
      try simp only [Act.put, List.setIfInBounds_toArray, List.set_cons_zero, List.set_cons_succ]
      refine wpAnyH_take (i := 9) (oi := ⟨some 40, _, _, _, _, _⟩) (v := .pointer (some ⟨w2.heap.size, 0, none⟩)) rfl (by kernel_rfl) (by kernel_rfl) (by kernel_rfl) (fun _ _ _ h => h) (Or.inl ⟨by rfl, fun w' hS => by go_simp⟩) ⟨t9.out, HD9.out⟩ ?_
      try simp only [Act.put, List.setIfInBounds_toArray, List.set_cons_zero, List.set_cons_succ]
      refine wpAnyH_ready (rs := [10]) (by kernel_rfl) (by simp) ?_
      refine AllReadyH.cons (o := ⟨none, .store _ _ _, _, _, _, _⟩) rfl (fun K hK => ?_) AllReadyH.nil
      have u0_ := o9.out.1 0 _ rfl; have uf_ := o9.out.2.1
      go_simp
      have hgs := grown_one q9 w2.heap.size 0 (.slice A9 (acc.length + 1) c9)
      obtain ⟨q10, hq10⟩ : ∃ z, q9.setCell ⟨w2.heap.size, 0, none⟩ (.slice A9 (acc.length + 1) c9) = z := ⟨_, rfl⟩
      have hbx := o9.out.set_ (j := 0) (by simp) (.slice A9 (acc.length + 1) c9)
      rw [hq10] at hgs hbx ⊢
      clear hq10
      have HO10 := Lib.hid (show BoxL q10 w2.heap.size [.slice A9 (acc.length + 1) c9] from hbx)
      have HT10 := Lib.hid (t9.out.kept hgs (fun e => by have := Option.some.inj e; have := HLT.out; omega)); have HR10 := Lib.hid (r9.out.kept hgs (fun e => by have := Option.some.inj e; have := HLT.out; omega))
      have HB10 := Lib.hid (HB9.out.grown hgs HB9.out.size (fun q hq => by have := Option.some.inj hq; have := HLT.out; omega))
      have HSZ10 := Lib.hid (Nat.le_trans HSZ9.out hgs.size)
      have HD10 := Lib.hid (HD9.out.keep ((Below.refl w.heap.size q9).grown hgs HB9.out.size (fun q hq => by have := Option.some.inj hq; have := HLT.out; omega)) HLQ.out.2.2)
      have HOW10 := Lib.hid (HOW9.out.grownb hgs (fun x (hx : x < B) => by have := HB.out; have := HLT.out; omega) HLT.out.2.2)
      clear hgs hbx
      have HST10 := Lib.hid (show BoxSt (fun x => x < B) 34 w w3 w2.heap.size (stayD L n) L (k + 1) q10 from ⟨HB10.out, HSZ10.out, _, HO10.out, by rw [filter_step HXK.out, if_pos HP.out, HACC.out]; exact HOW10.out⟩)
      refine hK.out _ _ ⟨HT10.out, HD10.out⟩ (fun _ => ?_)
      clear hK K
      try simp only [Act.put, List.setIfInBounds_toArray, List.set_cons_zero, List.set_cons_succ]
      refine wpAnyH_done (by kernel_rfl) ?_ _
      try go_wp2
      go_roundw
      case rel => exact ⟨k + 1, by omega, by go_num, HST10, HT10, HR10⟩
      case measure => simp [intOf]; omega
     ·
      go_simp
      obtain ⟨wa, hwa⟩ : ∃ z, we.alloc (.cells #[.int .i64 y.idx, .int .i64 y.par, .string y.nm, .string y.orig, .string y.sub, .string y.drv, .string y.ali, .int .i64 y.kind, .int .i64 y.num, .slice A3 y.attrs.length c3] 34) = z := ⟨_, rfl⟩
      have hba : Below we.heap.size we wa := by rw [← hwa]; exact (Below.refl _ _).alloc (Nat.le_refl _) _
      have HGA := Lib.hid (show wa.heap.size = we.heap.size + 1 by rw [← hwa]; simp)
      have hnew := lit_cells hwa (l := devCells y A3 c3) rfl
      have HNEW := Lib.hid hnew; clear hnew
      try rw [hwa]
      clear hwa
      have HDA := Lib.hid (show DCells wa b3 (o3 + k * 10) y A3 c3 from HS8.out.2.keep hba (by have := HLQ.out; have := HWwe.out.size; omega))
      have HSwa := Lib.hid (show we.heap.size ≤ wa.heap.size from hba.size)
      have HBwa := Lib.hid (HBwe.out.trans (hba.mono HBwe.out.size))
      have twa := Lib.hid (twe.out.kept (grown_none hba) (fun e => by cases e))
      have rwa := Lib.hid (rwe.out.kept (grown_none hba) (fun e => by cases e))
      have owa := Lib.hid (owe.out.kept (grown_none hba) (fun e => by cases e))
      have HOwa := Lib.hid (HOwe.out.below hba)
      have HSwa := Lib.hid (Nat.le_trans HSwe.out hba.size)
      have HWwa := Lib.hid (below_next HWwe.out hba)
      clear hba
      refine hK.out _ _ ⟨twa.out, HDA.out⟩ (fun _ => ?_)
      clear hK K
      try simp only [Act.put, List.setIfInBounds_toArray, List.set_cons_zero, List.set_cons_succ]
      refine wpAnyH_ready (rs := [1]) (by kernel_rfl) (by simp) ?_
      refine AllReadyH.cons (o := ⟨some 32, .load _ _, _, _, _, _⟩) rfl (fun K hK => ?_) AllReadyH.nil
      have cn0 := owa.out.1 0 _ rfl
      go_simp
      refine hK.out _ _ ⟨twa.out, HDA.out⟩ (fun _ => ?_)
      clear hK K cn0
      try simp only [Act.put, List.setIfInBounds_toArray, List.set_cons_zero, List.set_cons_succ]
      refine wpAnyH_ready (rs := [8]) (by kernel_rfl) (by simp) ?_
      refine AllReadyH.cons (o := ⟨some 39, .call ⟨_, _, _⟩, _, _, _, _⟩) rfl (fun K hK => ?_) AllReadyH.nil
      have HRD := Lib.hid (show RepS.rdS wa (fun b => b < B ∧ b < wa.heap.size ∧ v.ownBlock ≠ some b) y (devCells y A3 c3) from ⟨A3, c3, rfl, HOK3.out, (SlS_iff.1 (HAT.out.keep (HWwa.out.mono (by have := HB.out; have := HLQ.out; omega)))).mono (fun b (hb : b < B) => ⟨hb, by have := HB.out; have := HBwa.out.size; omega, fun e => by have h5 := (HOWN.out.lt b e).1; have := HB.out; have := HLT.out; omega⟩) (fun _ _ _ _ hu => hu)⟩)
      have hlow : ∀ k, v.ownBlock = some k → w3.heap.size ≤ k := fun k hk => (HOWN.out.lt k hk).1
      refine step_app rfl _ _ rfl v (.slice (some ⟨we.heap.size, 0, none⟩) 1 1) (by simp [Act.eval, Act.put]) (by simp [Act.eval, Act.put]) (run_app1 E_dev _ v acc HOwa.out we.heap.size y (devCells y A3 c3) HNEW.out HRD.out HAM.out.1 HAM.out.2 HSwa.out) ?_
      rintro v2 q9 ⟨hown_, hg_, hnew_⟩
      have HB9 := Lib.hid (show Below w.heap.size w q9 from below_own HBwa.out hg_ HBwa.out.size (fun k hk => by have := hlow k hk; have := HLT.out; omega))
      have t9 := Lib.hid (twa.out.kept hg_ (fun e => by have := hlow _ e.symm; have := HLT.out; omega))
      have r9 := Lib.hid (rwa.out.kept hg_ (fun e => by have := hlow _ e.symm; have := HLT.out; omega))
      have o9 := Lib.hid (owa.out.kept hg_ (fun e => by have := hlow _ e.symm; have := HLT.out; omega))
      have HD9 := Lib.hid (show DCells q9 b3 (o3 + k * 10) y A3 c3 from HDA.out.keep (below_own (Below.refl w.heap.size wa) hg_ HBwa.out.size (fun k hk => by have := hlow k hk; have := HLT.out; omega)) HLQ.out.2.2)
      have HOW9 := Lib.hid hown_; have HSZ9 := Lib.hid (show w3.heap.size ≤ q9.heap.size from Nat.le_trans HSwa.out hg_.size)
      clear hown_ hg_ hnew_ hlow
      obtain ⟨A9, c9, hv9, -⟩ := HOW9.out.sl
      subst hv9
      rw [show (acc ++ [y]).length = acc.length + 1 by simp] at HOW9
      refine hK.out _ _ ⟨t9.out, HD9.out⟩ (fun _ => ?_)
      clear hK K
      try simp only [Act.put, List.setIfInBounds_toArray, List.set_cons_zero, List.set_cons_succ]
      refine wpAnyH_take (i := 9) (oi := ⟨some 40, _, _, _, _, _⟩) (v := .pointer (some ⟨w2.heap.size, 0, none⟩)) rfl (by kernel_rfl) (by kernel_rfl) (by kernel_rfl) (fun _ _ _ h => h) (Or.inl ⟨by rfl, fun w' hS => by go_simp⟩) ⟨t9.out, HD9.out⟩ ?_
      try simp only [Act.put, List.setIfInBounds_toArray, List.set_cons_zero, List.set_cons_succ]
      refine wpAnyH_ready (rs := [10]) (by kernel_rfl) (by simp) ?_
      refine AllReadyH.cons (o := ⟨none, .store _ _ _, _, _, _, _⟩) rfl (fun K hK => ?_) AllReadyH.nil
      have u0_ := o9.out.1 0 _ rfl; have uf_ := o9.out.2.1
      go_simp
      have hgs := grown_one q9 w2.heap.size 0 (.slice A9 (acc.length + 1) c9)
      obtain ⟨q10, hq10⟩ : ∃ z, q9.setCell ⟨w2.heap.size, 0, none⟩ (.slice A9 (acc.length + 1) c9) = z := ⟨_, rfl⟩
      have hbx := o9.out.set_ (j := 0) (by simp) (.slice A9 (acc.length + 1) c9)
      rw [hq10] at hgs hbx ⊢
      clear hq10
      have HO10 := Lib.hid (show BoxL q10 w2.heap.size [.slice A9 (acc.length + 1) c9] from hbx)
      have HT10 := Lib.hid (t9.out.kept hgs (fun e => by have := Option.some.inj e; have := HLT.out; omega)); have HR10 := Lib.hid (r9.out.kept hgs (fun e => by have := Option.some.inj e; have := HLT.out; omega))
      have HB10 := Lib.hid (HB9.out.grown hgs HB9.out.size (fun q hq => by have := Option.some.inj hq; have := HLT.out; omega))
      have HSZ10 := Lib.hid (Nat.le_trans HSZ9.out hgs.size)
      have HD10 := Lib.hid (HD9.out.keep ((Below.refl w.heap.size q9).grown hgs HB9.out.size (fun q hq => by have := Option.some.inj hq; have := HLT.out; omega)) HLQ.out.2.2)
      have HOW10 := Lib.hid (HOW9.out.grownb hgs (fun x (hx : x < B) => by have := HB.out; have := HLT.out; omega) HLT.out.2.2)
      clear hgs hbx
      have HST10 := Lib.hid (show BoxSt (fun x => x < B) 34 w w3 w2.heap.size (stayD L n) L (k + 1) q10 from ⟨HB10.out, HSZ10.out, _, HO10.out, by rw [filter_step HXK.out, if_pos HP.out, HACC.out]; exact HOW10.out⟩)
      refine hK.out _ _ ⟨HT10.out, HD10.out⟩ (fun _ => ?_)
      clear hK K
      try simp only [Act.put, List.setIfInBounds_toArray, List.set_cons_zero, List.set_cons_succ]
      refine wpAnyH_done (by kernel_rfl) ?_ _
      try go_wp2
      go_roundw
      case rel => exact ⟨k + 1, by omega, by go_num, HST10, HT10, HR10⟩
      case measure => simp [intOf]; omega
   ·
    have i1 : ¬ (k : Int) < (L.length : Int) := by omega
    obtain rfl : k = L.length := by omega
    have HF := Lib.hid (filter_end (stayD L n) L)
    clear ct0
    have ct0 := HTR.out.1 0 _ rfl
    have cr0 := HRR.out.1 0 _ rfl
    have co0 := HOR.out.1 0 _ rfl
    have cfr := HRR.out.2.1
    obtain ⟨A9, c9, hv9, -⟩ := HOWN.out.sl
    subst hv9
    go_wp2
    refine bodyPost_ret (v := .tuple #[.agg #[.slice A9 ((L.take L.length).filter (stayD L n)).length c9], .int .i64 0]) (by simp [results, Tryz.results45, go_sem, cr0, cfr]) rfl ?_
    rw [show remE L n = 0 from if_pos HNI.out, show remX L n = remL L n from if_pos HNI.out]
    refine TreF.mk (HBR.out.setCell (by have := HLT.out; show w.heap.size ≤ w1.heap.size; omega) _) rfl ?_
    have h := HOWN.out
    rw [HF.out] at h ⊢
    exact (h.grownb (grown_one wr w1.heap.size 0 _) (fun x (hx : x < B) => by have := HB.out; have := HLT.out; omega) (by have := HLT.out; omega)).low (by have := HLT.out; omega)
end Go.Proofs.YtidhbckalcjdpaaGreatDoor
namespace Go.Proofs.YtidhbckalcjdpaaGreatDoor
open Go.RowKit Go.Cold
/-- tree.Insert. -/
theorem Insert_any (A : Option Addr) (c : Nat) (L : List Dev) (d : Dev) (A2 : Option Addr) (c2 : Nat) (w : World) (B : Nat) (hB : B ≤ w.heap.size) (hx : Sl w B A c L) (hd : devOk d) (ha : Sl w B A2 c2 d.attrs) (hsm : d.orig.size ≤ 2147483648) (hvt : VT L) (hok : Ok w) :
  Calls Tryz.prog 18 #[.agg #[.slice A L.length c], .agg #[.int .i64 d.idx, .int .i64 d.par, .string d.nm, .string d.orig, .string d.sub, .string d.drv, .string d.ali, .int .i64 d.kind, .int .i64 d.num, .slice A2 d.attrs.length c2]] w (TreF (fun b => w.heap.size ≤ b) (insE L d) (insR L d) w) := by
 by_cases he : progE L d = 0
 ·
  refine (Insert_new A c L d A2 c2 w B hB hx hd ha hsm hvt hok he).mono ?_
  rintro e w' ⟨h1, v, h2, h3⟩
  rw [prog_ins hvt] at he
  rw [he, show insR L d = insL L d by unfold insR; rw [if_pos he]]
  exact ⟨h1, v, h2, h3⟩
 ·
  refine (Insert_err A c L d A2 c2 w B hB hx hd ha hsm hvt hok he).mono ?_
  rintro e w' ⟨h1, h2⟩
  rw [prog_ins hvt] at he h2
  rw [show insR L d = [] by unfold insR; rw [if_neg he]]
  exact TreF.err h1 h2
end Go.Proofs.YtidhbckalcjdpaaGreatDoor
