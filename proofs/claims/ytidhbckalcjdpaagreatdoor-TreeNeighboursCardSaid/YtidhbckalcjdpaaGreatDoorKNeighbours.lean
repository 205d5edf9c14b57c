/-
  TreeNeighbours: row and card.
  Conditions: those of the given row and card (the listed variables of the library hold what the text lays), nothing else.
-/
import Derived.Test.YtidhbckalcjdpaaGreatDoorGP
import Derived.Test.YtidhbckalcjdpaaGreatDoorGQ
import Derived.Test.YtidhbckalcjdpaaGreatDoorGM
import Derived.ShutString
set_option linter.unusedSimpArgs false
set_option linter.unusedVariables false
namespace Go.Cold
open Go Go.RowKit
theorem take_more {α : Type} {l : List α} {k : Nat} {x : α} (h : l[k]? = some x) : l.take (k + 1) = l.take k ++ [x] := by
  rw [List.take_add_one, h]; rfl
/-- A row of a slice, as a slice. -/
theorem Sl.mid {w : World} {B c b o : Nat} {xs ys : List Dev} {k : Nat} (h : Sl w B (some ⟨b, o, none⟩) c xs) (hk : k < xs.length) (hy : (xs.drop k).take ys.length = ys) (hl : k + ys.length ≤ xs.length) : Sl w B (some ⟨b, o + k * 10, none⟩) (c - k) ys := by
  have hc := h.1
  have h1 := (SlS_iff.1 h).drop_ (m := k)
  rw [if_neg (by omega)] at h1
  rcases h1 with h1 | h1
  · have h2 := SlS_iff.2 (h1.take_ (n := ys.length) (by rw [List.length_drop]; omega))
    rw [hy] at h2
    have e : (some (⟨b, o, none⟩ : Addr)).map (·.add (k * Rep.size Dev)) = some ⟨b, o + k * 10, none⟩ := by rw [Option.map_some, add_mk]; rfl
    rw [e] at h2
    exact h2
  · have h3 : (xs.drop k).length = 0 := by rw [h1]; rfl
    rw [List.length_drop] at h3; omega
end Go.Cold
namespace Go.Proofs.YtidhbckalcjdpaaGreatDoor
open Go.RowKit Go.Cold
/-- name.Under of two origins of a tree. -/
theorem Under_row (L : List Dev) (n m : Int) (w : World) (hv : VT L) (hn : n ∈ idxs L) (hm : m ∈ idxs L) (hok : Ok w) : Calls Tryz.prog 35 #[.string (strF L n), .string (strF L m)] w fun e w' => e = .returned (.tuple #[.bool (underL (orgF L n) (orgF L m)), .int .i64 0]) ∧ Below w.heap.size w w' := by
  have hs := fun k => str_size (L := L) (fun d hd => (hv.small d hd).1) hv.size k
  have hp : ∀ k ∈ idxs L, pathOf (strF L k) = some (orgF L k) := fun k hk => by
    obtain ⟨d, hd, rfl⟩ := List.mem_map.1 hk
    rw [strF_eq]; exact pathOf_S (org_ne hv.wf hd) (org_valid hv _)
  refine (Under_any _ _ w (by have := hs n; omega) (by have := hs m; omega) hok).mono ?_
  rintro e w1 ⟨hb, h⟩
  rw [hp n hn, hp m hm] at h
  rcases h with ⟨xs, ys, h1, h2, h3⟩ | ⟨h1 | h1, h3⟩
  · rw [← Option.some.inj h1, ← Option.some.inj h2] at h3; exact ⟨h3, hb⟩
  · cases h1
  · cases h1
set_option maxHeartbeats 4000000 in
set_option maxRecDepth 100000 in
theorem lawNeighbours_any (A : Option Addr) (c : Nat) (xs : List Int) (w : World) (hok : Ok w) (hx : Sl w w.heap.size A c xs) : Calls Tryz.prog 8 #[.slice A xs.length c] w fun e w' => e = .returned (.bool true) ∧ Below w.heap.size w w' := by
  have HOK := Lib.hid hok; have HX := Lib.hid hx; clear hok hx
  go_enter Tryz.func8, Tryz.ntmps8
  go_upto_region 2 with fail
  have htape := tape_new HX.out
  have HNG := Lib.hid (notG_of HOK.out)
  obtain ⟨w1, hw1⟩ : ∃ z, w.alloc (.cells #[.slice A xs.length c, .int .i64 0] 27) = z := ⟨_, rfl⟩
  rw [hw1] at htape
  have hb1 : Below w.heap.size w w1 := by rw [← hw1]; exact (Below.refl _ _).alloc (Nat.le_refl _) _
  have HGw1 := Lib.hid (show w1.heap.size = w.heap.size + 1 by rw [← hw1]; simp)
  try simp only [hw1]
  have HTAPE := Lib.hid htape
  clear hw1 htape
  have HSw1 := Lib.hid (show w.heap.size ≤ w1.heap.size from hb1.size)
  have HBw1 := Lib.hid hb1
  clear hb1
  go_wp2_with fail
  refine (Tree_any xs 0 w.heap.size w.heap.size 10 w1 (by decide) HTAPE.out ⟨by decide, by decide⟩ (HOK.out.next HBw1.out) HNG.out).mono ?_
  rintro e w2 ⟨AT, cT, L, k1, rfl, hvt, hln, hsl, hk1, htp, hg2⟩
  have hb2 : Below w.heap.size w w2 := below_of_grown HBw1.out hg2 HBw1.out.size (Nat.le_refl _)
  have HSB2 := Lib.hid (show w1.heap.size ≤ w2.heap.size from hg2.size)
  have hx1 := hsl.1; have hx2 := hsl.2.1
  unfold maxLen at hx2
  have hin : TreeIn w2 w.heap.size (fun x => w1.heap.size ≤ x ∧ x < w2.heap.size) AT cT L := ⟨hsl, fun x hx => by have := HGw1.out; omega, fun x hx => hx.2⟩
  have HVT := Lib.hid hvt; have HLN := Lib.hid (show L.length ≤ 10 by omega); have HIN := Lib.hid hin; have HK1 := Lib.hid hk1; have HTP := Lib.hid htp
  clear HTAPE hvt hln hsl hk1 htp hg2 hin
  have HBw2 := Lib.hid hb2
  clear hb2
  go_upto_region 3 with fail
  obtain ⟨w3, hw3⟩ : ∃ w3, w2.alloc (.cells #[.slice AT L.length cT] 29) = w3 := ⟨_, rfl⟩
  have hbw3 : Below w2.heap.size w2 w3 := by rw [← hw3]; exact (Below.refl _ _).alloc (Nat.le_refl _) _
  have HGw3 := Lib.hid (show w3.heap.size = w2.heap.size + 1 by rw [← hw3]; simp)
  have HXtw3 := Lib.hid (show BoxL w3 w2.heap.size [.slice AT L.length cT] from box_mk hw3)
  try simp only [hw3]
  have HSTEPw3 := Lib.hid hbw3
  have HSw3 := Lib.hid (show w2.heap.size ≤ w3.heap.size from hbw3.size)
  have HBw3 := Lib.hid (HBw2.out.trans (hbw3.mono HBw2.out.size))
  clear hw3 hbw3
  try rw [show w2.heap.size + 1 = w3.heap.size from HGw3.out.symm]
  have HIN3 := Lib.hid (show TreeIn w3 w.heap.size (fun x => w1.heap.size ≤ x ∧ x < w2.heap.size) AT cT L from ⟨HIN.out.sl.below (HSTEPw3.out) (fun x hx => hx.2), HIN.out.ne, fun x hx => by have := HGw3.out; have := hx.2; omega⟩)
  have HTP3 := Lib.hid (HTP.out.kept (grown_none HSTEPw3.out) (fun e => by cases e) (fun g e => by cases e))
  clear HIN HTP
  have ct0 := HXtw3.out.1 0 _ rfl
  go_wp2_with fail
  refine (Some_any xs k1 w.heap.size w.heap.size AT cT L _ w3 (by have := HK1.out; omega) HTP3.out HIN3.out (fun d hd => (HVT.out.small d hd).2) (by have := HLN.out; omega)).mono ?_
  rintro e w4 ⟨n, k2, rfl, hn, hk2, htp, hg4⟩
  clear ct0
  have hb4 : Below w.heap.size w w4 := HBw3.out.grown hg4 HBw3.out.size (fun q hq => by have := Option.some.inj hq; omega)
  have HSw4 := Lib.hid hg4.size
  have HIN4 := Lib.hid (HIN3.out.tape hg4)
  have HTP4 := Lib.hid htp
  have HBw4 := Lib.hid hb4
  have HXtw4 := Lib.hid (HXtw3.out.kept hg4 (fun e => by have := Option.some.inj e; have := HGw1.out; have := HSB2.out; omega))
  have HN := Lib.hid (show okI n by unfold okI; omega)
  have HNR := Lib.hid hn
  have HK2 := Lib.hid hk2
  clear hb4 htp hg4 hn hk2 HIN3 HTP3
  have HSL := Lib.hid HIN4.out.out
  have ct0 := HXtw4.out.1 0 _ rfl
  have HL10 := Lib.hid (show L.length ≤ 10 by have := HLN.out; omega)
  have HVS := Lib.hid (show ∀ d ∈ L, d.orig.size ≤ 32 from fun d hd => (HVT.out.small d hd).1)
  obtain ⟨s, hs⟩ : ∃ z, subR L n = z := ⟨_, rfl⟩
  have HS_ := Lib.hid hs; clear hs
  go_wp2_with fail
  have hc_ := Subtree_any AT cT L n w4 _ (Nat.le_refl _) HSL.out HVT.out HN.out
  rw [HS_.out] at hc_
  refine hc_.mono ?_
  clear hc_
  rintro e w5 ⟨hb5, v, rfl, hown⟩
  obtain ⟨A1, c1, rfl, hsl_⟩ := hown.sl
  have hs2 := hsl_.2.1; have hs1 := hsl_.1
  unfold maxLen at hs2
  have HR1 := Lib.hid hsl_; clear hown hsl_
  clear ct0
  have HSw5 := Lib.hid (show w4.heap.size ≤ w5.heap.size from hb5.size)
  have HBw5 := Lib.hid (HBw4.out.trans (hb5.mono HBw4.out.size))
  have tw5 := Lib.hid (HXtw4.out.kept (grown_none hb5) (fun e => by cases e))
  have HSLw5 := Lib.hid (HSL.out.next (Nat.le_refl _) hb5)
  clear hb5
  have ct0 := tw5.out.1 0 _ rfl
  go_wp2_with fail
  refine (Origin_any AT cT L n _ _ (Nat.le_refl _) HSLw5.out HVS.out (by have := HL10.out; omega) HN.out).mono ?_
  rintro e w6 ⟨rfl, hbw6⟩
  clear ct0
  have HSw6 := Lib.hid (show w5.heap.size ≤ w6.heap.size from hbw6.size)
  have HBw6 := Lib.hid (HBw5.out.trans (hbw6.mono HBw5.out.size))
  have tw6 := Lib.hid (tw5.out.kept (grown_none hbw6) (fun e => by cases e))
  have HSLw6 := Lib.hid (HSLw5.out.next (Nat.le_refl _) hbw6)
  have HR1w6 := Lib.hid (HR1.out.next (Nat.le_refl _) hbw6)
  clear hbw6
  cases hc : (idxs L).contains n with
  | false =>
    have HNI := Lib.hid (show n ∉ idxs L from fun h => by rw [List.contains_iff_mem.2 h] at hc; cases hc)
    obtain rfl : s = [] := HS_.out.symm.trans (sub_none HNI.out HVT.out.wf)
    go_wp2_with fail
    refine (known_any _ (HOK.out.next HBw6.out)).mono ?_
    rintro e w7 ⟨rfl, hbw7⟩
    have HSw7 := Lib.hid (show w6.heap.size ≤ w7.heap.size from hbw7.size)
    have HBw7 := Lib.hid (HBw6.out.trans (hbw7.mono HBw6.out.size))
    have tw7 := Lib.hid (tw6.out.kept (grown_none hbw7) (fun e => by cases e))
    have HSLw7 := Lib.hid (HSLw6.out.next (Nat.le_refl _) hbw7)
    have HR1w7 := Lib.hid (HR1w6.out.next (Nat.le_refl _) hbw7)
    clear hbw7
    go_wp2
    go_ret
    exact ⟨by try rfl, HBw7.out⟩
  | true =>
    have HNI := Lib.hid (show n ∈ idxs L from List.contains_iff_mem.1 hc); clear hc
    have ct0 := tw6.out.1 0 _ rfl
    go_wp2_with fail
    go_loopw [9, 10, 11] (fun a b i wr => ∃ (z : Int) (m k : Nat), a = .int .i64 z ∧ b = .int .i64 m ∧ i = .int .i64 k ∧ k ≤ L.length ∧ m ≤ k ∧ Hid (AtR n (L.take k) z ∧ m = nbN L n (L.take k)) ∧ Hid (Below w6.heap.size w6 wr)) (fun _ _ i _ => L.length - (intOf i).toNat)
    case atStart => exact ⟨-1, 0, 0, rfl, rfl, rfl, Nat.zero_le _, Nat.zero_le _, Lib.hid ⟨AtR.nil n, rfl⟩, Lib.hid (Below.refl _ _)⟩
    case round =>
      clear ct0
      obtain ⟨z, m, k, rfl, rfl, rfl, hk, hmk, HAN, HBR⟩ := hrel
      have hbr := HBR.out
      have HSwr := Lib.hid (show w6.heap.size ≤ wr.heap.size from hbr.size)
      have HBwr := Lib.hid (HBw6.out.trans (hbr.mono HBw6.out.size))
      have twr := Lib.hid (tw6.out.kept (grown_none hbr) (fun e => by cases e))
      have HSLwr := Lib.hid (HSLw6.out.next (Nat.le_refl _) hbr)
      have HR1wr := Lib.hid (HR1w6.out.next (Nat.le_refl _) hbr)
      clear hbr
      have ct0 := twr.out.1 0 _ rfl
      by_cases hlt : k < L.length
      ·
        have i1 : (k : Int) < (L.length : Int) := by omega
        obtain ⟨b3, o3, rfl, hb3, A3, c3, hok3, hat3, hcs3⟩ := HSLwr.out.dev hlt
        have hxk : L[k]? = some L[k] := List.getElem?_eq_getElem hlt
        obtain ⟨y, hy⟩ : ∃ y, L[k]'hlt = y := ⟨_, rfl⟩
        rw [hy] at hok3 hcs3 hxk hat3
        have HTK := Lib.hid (take_more hxk); have HOK3 := Lib.hid hok3; have HMEM := Lib.hid (List.mem_of_getElem? hxk)
        have HY := Lib.hid hcs3.1
        have HB3 := Lib.hid hb3
        clear hxk hok3 hat3 hy hcs3 hb3
        have HIY := Lib.hid (mem_idxs HMEM.out)
        have ci := HY.out
        go_upto_region 12 with fail
        clear ct0
        clear ci
        refine wp_region_held_drew (S := fun w' => BoxL w' w2.heap.size [.slice (some ⟨b3, o3, none⟩) L.length cT] ∧ w'.cell? ⟨b3, o3 + k * 10, none⟩ = some (.int .i64 y.idx)) (by kernel_rfl) ⟨twr.out.drew, HY.out⟩ (fun hS0 => ?_)
        obtain ⟨wd, hwd⟩ : ∃ z, World.drew wr = z := ⟨_, rfl⟩
        rw [hwd] at hS0 ⊢
        have hbd : Below wr.heap.size wr wd := by rw [← hwd]; exact below_drewN_self _ _ 1
        clear hwd
        have HS1 := Lib.hid hS0; clear hS0
        have HBD := Lib.hid hbd
        have HSwd := Lib.hid (show wr.heap.size ≤ wd.heap.size from hbd.size)
        have HBwd := Lib.hid (HBwr.out.trans (hbd.mono HBwr.out.size))
        have twd := Lib.hid (twr.out.kept (grown_none hbd) (fun e => by cases e))
        have HSLwd := Lib.hid (HSLwr.out.next (Nat.le_refl _) hbd)
        have HR1wd := Lib.hid (HR1wr.out.next (Nat.le_refl _) hbd)
        clear hbd
        refine wpAnyH_take (i := 0) (oi := ⟨some 49, _, _, _, _, _⟩) (v := .agg #[.slice (some ⟨b3, o3, none⟩) L.length cT]) rfl (by kernel_rfl) (by kernel_rfl) (by kernel_rfl) (fun _ _ _ h => h) (Or.inl ⟨by rfl, fun w' hS => by (have u0_ := hS.1.1 0 _ rfl; go_simp)⟩) HS1.out ?_
        try simp only [Act.put, List.setIfInBounds_toArray, List.set_cons_zero, List.set_cons_succ]
        refine wpAnyH_take (i := 1) (oi := ⟨some 50, _, _, _, _, _⟩) (v := .pointer (some ⟨w2.heap.size, 0, none⟩)) rfl (by kernel_rfl) (by kernel_rfl) (by kernel_rfl) (fun _ _ _ h => h) (Or.inl ⟨by rfl, fun w' hS => by go_simp⟩) HS1.out ?_
        try simp only [Act.put, List.setIfInBounds_toArray, List.set_cons_zero, List.set_cons_succ]
        refine wpAnyH_take (i := 2) (oi := ⟨some 51, _, _, _, _, _⟩) (v := .slice (some ⟨b3, o3, none⟩) L.length cT) rfl (by kernel_rfl) (by kernel_rfl) (by kernel_rfl) (fun _ _ _ h => h) (Or.inl ⟨by rfl, fun w' hS => by (have u0_ := hS.1.1 0 _ rfl; go_simp)⟩) HS1.out ?_
        try simp only [Act.put, List.setIfInBounds_toArray, List.set_cons_zero, List.set_cons_succ]
        refine wpAnyH_take (i := 3) (oi := ⟨some 52, _, _, _, _, _⟩) (v := .int .i64 k) rfl (by kernel_rfl) (by kernel_rfl) (by kernel_rfl) (fun _ _ _ h => h) (Or.inl ⟨by rfl, fun w' hS => by go_simp⟩) HS1.out ?_
        try simp only [Act.put, List.setIfInBounds_toArray, List.set_cons_zero, List.set_cons_succ]
        refine wpAnyH_take (i := 4) (oi := ⟨some 53, _, _, _, _, _⟩) (v := .pointer (some ⟨b3, o3 + k * 10, none⟩)) rfl (by kernel_rfl) (by kernel_rfl) (by kernel_rfl) (fun _ _ _ h => h) (Or.inl ⟨by rfl, fun w' hS => by go_simp⟩) HS1.out ?_
        try simp only [Act.put, List.setIfInBounds_toArray, List.set_cons_zero, List.set_cons_succ]
        refine wpAnyH_take (i := 5) (oi := ⟨some 54, _, _, _, _, _⟩) (v := .pointer (some ⟨b3, o3 + k * 10, none⟩)) rfl (by kernel_rfl) (by kernel_rfl) (by kernel_rfl) (fun _ _ _ h => h) (Or.inl ⟨by rfl, fun w' hS => by go_simp⟩) HS1.out ?_
        try simp only [Act.put, List.setIfInBounds_toArray, List.set_cons_zero, List.set_cons_succ]
        refine wpAnyH_take (i := 6) (oi := ⟨some 55, _, _, _, _, _⟩) (v := .int .i64 y.idx) rfl (by kernel_rfl) (by kernel_rfl) (by kernel_rfl) (fun _ _ _ h => h) (Or.inl ⟨by rfl, fun w' hS => by (have u0_ := hS.2; go_simp)⟩) HS1.out ?_
        try simp only [Act.put, List.setIfInBounds_toArray, List.set_cons_zero, List.set_cons_succ]
        refine wpAnyH_ready (rs := [7]) (by kernel_rfl) (by simp) ?_
        refine AllReadyH.cons (o := ⟨some 56, .call ⟨_, _, _⟩, _, _, _, _⟩) rfl (fun K hK => ?_) AllReadyH.nil
        go_simp
        go_at_call 23
        have hc_ := Origin_any (some ⟨b3, o3, none⟩) cT L y.idx _ _ (Nat.le_refl _) HSLwd.out HVS.out (by have := HL10.out; omega) HOK3.out.1
        rw [List.contains_iff_mem.2 HIY.out] at hc_
        refine hc_.mono ?_
        clear hc_
        rintro e' q3 ⟨rfl, hb_⟩
        have HSQ := Lib.hid (show (BoxL q3 w2.heap.size [.slice (some ⟨b3, o3, none⟩) L.length cT] ∧ q3.cell? ⟨b3, o3 + k * 10, none⟩ = some (.int .i64 y.idx)) from ⟨HS1.out.1.kept (grown_none hb_) (fun e => by cases e), (hb_.cell (p := ⟨b3, o3 + k * 10, none⟩) (by have := HB3.out; have := HBD.out.size; show b3 < wd.heap.size; omega)).trans HS1.out.2⟩)
        obtain ⟨so, hso⟩ : ∃ z, strF L y.idx = z := ⟨_, rfl⟩
        rw [hso]
        have HSO := Lib.hid hso; clear hso
        have hbq_ := hb_
        have HBA := Lib.hid hb_
        refine hK.out _ _ HSQ.out (fun _ => ?_)
        clear hK K
        try simp only [Act.put, List.setIfInBounds_toArray, List.set_cons_zero, List.set_cons_succ]
        have HSq3 := Lib.hid (show wd.heap.size ≤ q3.heap.size from hbq_.size)
        have HBq3 := Lib.hid (HBwd.out.trans (hbq_.mono HBwd.out.size))
        have tq3 := Lib.hid (twd.out.kept (grown_none hbq_) (fun e => by cases e))
        have HSLq3 := Lib.hid (HSLwd.out.next (Nat.le_refl _) hbq_)
        have HR1q3 := Lib.hid (HR1wd.out.next (Nat.le_refl _) hbq_)
        clear hbq_ hb_
        refine wpAnyH_take (i := 8) (oi := ⟨some 48, _, _, _, _, _⟩) (v := .tuple #[.string so, .bool true]) rfl (by kernel_rfl) (by kernel_rfl) (by kernel_rfl) (fun _ _ _ h => h) (Or.inl ⟨by rfl, fun w' hS => by go_simp⟩) HSQ.out ?_
        try simp only [Act.put, List.setIfInBounds_toArray, List.set_cons_zero, List.set_cons_succ]
        refine wpAnyH_take (i := 9) (oi := ⟨some 57, _, _, _, _, _⟩) (v := .string so) rfl (by kernel_rfl) (by kernel_rfl) (by kernel_rfl) (fun _ _ _ h => h) (Or.inl ⟨by rfl, fun w' hS => by go_simp⟩) HSQ.out ?_
        try simp only [Act.put, List.setIfInBounds_toArray, List.set_cons_zero, List.set_cons_succ]
        refine wpAnyH_take (i := 10) (oi := ⟨some 58, _, _, _, _, _⟩) (v := .bool true) rfl (by kernel_rfl) (by kernel_rfl) (by kernel_rfl) (fun _ _ _ h => h) (Or.inl ⟨by rfl, fun w' hS => by go_simp⟩) HSQ.out ?_
        try simp only [Act.put, List.setIfInBounds_toArray, List.set_cons_zero, List.set_cons_succ]
        refine wpAnyH_take (i := 11) (oi := ⟨some 12, _, _, _, _, _⟩) (v := .string so) rfl (by kernel_rfl) (by kernel_rfl) (by kernel_rfl) (fun _ _ _ h => h) (Or.inl ⟨by rfl, fun w' hS => by go_simp⟩) HSQ.out ?_
        try simp only [Act.put, List.setIfInBounds_toArray, List.set_cons_zero, List.set_cons_succ]
        refine wpAnyH_take (i := 12) (oi := ⟨some 13, _, _, _, _, _⟩) (v := .bool true) rfl (by kernel_rfl) (by kernel_rfl) (by kernel_rfl) (fun _ _ _ h => h) (Or.inl ⟨by rfl, fun w' hS => by go_simp⟩) HSQ.out ?_
        try simp only [Act.put, List.setIfInBounds_toArray, List.set_cons_zero, List.set_cons_succ]
        refine wpAnyH_done (by kernel_rfl) ?_ _
        have HY3 := Lib.hid HSQ.out.2; clear HSQ HS1
        go_wp2_with fail
        have hc_ := Under_row L n y.idx q3 HVT.out HNI.out HIY.out (HOK.out.next HBq3.out)
        rw [HSO.out] at hc_
        refine hc_.mono ?_
        clear hc_
        rintro e' q4 ⟨rfl, hbq4⟩
        have HBB := Lib.hid hbq4
        have HY4 := Lib.hid (show q4.cell? ⟨b3, o3 + k * 10, none⟩ = some (.int .i64 y.idx) from (hbq4.cell (p := ⟨b3, o3 + k * 10, none⟩) (by have := HB3.out; have := HBD.out.size; have := HSq3.out; show b3 < q3.heap.size; omega)).trans HY3.out)
        have HSq4 := Lib.hid (show q3.heap.size ≤ q4.heap.size from hbq4.size)
        have HBq4 := Lib.hid (HBq3.out.trans (hbq4.mono HBq3.out.size))
        have tq4 := Lib.hid (tq3.out.kept (grown_none hbq4) (fun e => by cases e))
        have HSLq4 := Lib.hid (HSLq3.out.next (Nat.le_refl _) hbq4)
        have HR1q4 := Lib.hid (HR1q3.out.next (Nat.le_refl _) hbq4)
        clear hbq4
        have ct0 := tq4.out.1 0 _ rfl
        have ci := HY4.out
        have hwm : IntKind.i64.wrap ((m : Int) + 1) = ((m + 1 : Nat) : Int) := by have := HL10.out; rw [IntKind.wrap_i64]; omega
        have HBRq4 := Lib.hid (show Below w6.heap.size w6 q4 from HBR.out.trans ((HBD.out.trans ((HBA.out.trans (HBB.out.mono HBA.out.size)).mono HBD.out.size)).mono HBR.out.size))
        obtain ⟨u, hu⟩ : ∃ z, underL (orgF L n) (orgF L y.idx) = z := ⟨_, rfl⟩
        rw [hu]
        by_cases hyn : y.idx = n
        ·
          have ep : (y.idx == n) = true := by simpa using hyn
          obtain rfl : u = false := by rw [← hu, hyn]; exact under_self L n
          have HNB := Lib.hid (show nbB L n y = true by unfold nbB; rw [hyn]; simp)
          have HYN := Lib.hid hyn; clear hyn hu
          try go_wp2
          go_roundw
          case rel => exact ⟨((k : Nat) : Int), m + 1, k + 1, by first | rfl | go_num, by first | rfl | go_num, by go_num, by omega, by omega, Lib.hid ⟨by rw [HTK.out]; have h := AtR.hit (n := n) (pre := L.take k) (x := y) HYN.out; rw [List.length_take, Nat.min_eq_left (by omega)] at h; exact h, by rw [HTK.out]; rw [nbN_hit HNB.out, ← HAN.out.2]⟩, Lib.hid (HBRq4.out)⟩
          case measure => simp [intOf]; omega
        ·
          have ep : (y.idx == n) = false := by simpa using hyn
          have HNB := Lib.hid (show nbB L n y = u by unfold nbB; rw [hu, decide_eq_false hyn, Bool.or_false])
          have HYN := Lib.hid hyn; clear hyn hu
          cases u with
          | true =>
            try go_wp2
            go_roundw
            case rel => exact ⟨z, m + 1, k + 1, by first | rfl | go_num, by first | rfl | go_num, by go_num, by omega, by omega, Lib.hid ⟨by rw [HTK.out]; exact AtR.miss HYN.out HAN.out.1, by rw [HTK.out]; rw [nbN_hit HNB.out, ← HAN.out.2]⟩, Lib.hid (HBRq4.out)⟩
            case measure => simp [intOf]; omega
          | false =>
            try go_wp2
            go_roundw
            case rel => exact ⟨z, m, k + 1, by first | rfl | go_num, by first | rfl | go_num, by go_num, by omega, by omega, Lib.hid ⟨by rw [HTK.out]; exact AtR.miss HYN.out HAN.out.1, by rw [HTK.out]; rw [nbN_miss HNB.out]; exact HAN.out.2⟩, Lib.hid (HBRq4.out)⟩
            case measure => simp [intOf]; omega
      ·
        have i1 : ¬ (k : Int) < (L.length : Int) := by omega
        obtain rfl : k = L.length := by omega
        have HAZ := Lib.hid HAN.out.1; have hm := HAN.out.2
        rw [List.take_length] at HAZ hm
        obtain ⟨k0, d, rfl, hd, hdn⟩ := HAZ.out.found HNI.out
        have hk0 := (List.getElem?_eq_some_iff.1 hd).1
        obtain ⟨t, ht, htn⟩ := List.mem_map.1 HNI.out
        have hms : m = s.length := by rw [hm, ← HS_.out, ← htn]; exact nb_sub HVT.out ht
        have hrow := nb_row HVT.out hd
        rw [hdn, HS_.out] at hrow
        subst hms
        have HROW := Lib.hid hrow
        clear hm hd hdn ht htn hrow
        obtain ⟨b3, o3, rfl, hb3, -⟩ := HSLwr.out.dev hk0
        have hs3 := HROW.out.1
        have hwa : IntKind.i64.wrap ((k0 : Int) + (s.length : Int)) = ((k0 + s.length : Nat) : Int) := by have := HL10.out; rw [IntKind.wrap_i64]; omega
        have i2 : ((k0 + s.length : Nat) : Int) ≤ (L.length : Int) := by omega
        have i3 : (0 : Int) ≤ (k0 : Int) := by omega
        have i4 : ¬ cT = k0 := by omega
        have HMID := Lib.hid (HSLwr.out.mid hk0 HROW.out.2 HROW.out.1)
        go_wp2_with fail
        refine (same_same A1 (some ⟨b3, o3 + k0 * 10, none⟩) c1 (cT - k0) s _ _ _ (Nat.le_refl _) (Nat.le_refl _) HR1wr.out HMID.out).mono ?_
        rintro e' q9 ⟨rfl, hbq9⟩
        clear ct0
        have HSq9 := Lib.hid (show wr.heap.size ≤ q9.heap.size from hbq9.size)
        have HBq9 := Lib.hid (HBwr.out.trans (hbq9.mono HBwr.out.size))
        have tq9 := Lib.hid (twr.out.kept (grown_none hbq9) (fun e => by cases e))
        have HSLq9 := Lib.hid (HSLwr.out.next (Nat.le_refl _) hbq9)
        have HR1q9 := Lib.hid (HR1wr.out.next (Nat.le_refl _) hbq9)
        have HMIDq9 := Lib.hid (HMID.out.next (Nat.le_refl _) hbq9)
        clear hbq9
        go_wp2_with fail
        refine (known_any _ (HOK.out.next HBq9.out)).mono ?_
        rintro e w8 ⟨rfl, hbw8⟩
        have HSw8 := Lib.hid (show q9.heap.size ≤ w8.heap.size from hbw8.size)
        have HBw8 := Lib.hid (HBq9.out.trans (hbw8.mono HBq9.out.size))
        have tw8 := Lib.hid (tq9.out.kept (grown_none hbw8) (fun e => by cases e))
        have HSLw8 := Lib.hid (HSLq9.out.next (Nat.le_refl _) hbw8)
        have HR1w8 := Lib.hid (HR1q9.out.next (Nat.le_refl _) hbw8)
        have HMIDw8 := Lib.hid (HMIDq9.out.next (Nat.le_refl _) hbw8)
        clear hbw8
        go_wp2
        go_ret
        exact ⟨by try rfl, HBw8.out⟩
end Go.Proofs.YtidhbckalcjdpaaGreatDoor
namespace Go.Proofs.YtidhbckalcjdpaaGreatDoor
open Go.RowKit Go.Cold
namespace cTreeNeighbours
open Go.ChangeShapes Go.WideShapes Go.ChangeAt
open Go.ChangeMaps (open_string)
set_option maxRecDepth 100000
theorem reads (os : Os) {H : Type} (enc : TypeId × Value → H) : ∃ places, DataW.whole enc Tryz.prog ((World.laidAll Tryz.prog os Rows.treeNeighboursRow.laid).forCall (fun _ _ => 0) ⟨#[], #[.slice none 0 0], []⟩).memory Tryz.f8.params.toList Rows.treeNeighboursSpec.vars false (#[.slice none 0 0] : Array Value).toList 8 = some ([.nil], [], places) :=
  ⟨[], by kernel_rfl⟩
theorem lifted (os : Os) (started : os.Started) (H : Type) (enc : TypeId × Value → H) (F : Stop.Interp) :
    ReturnsInHanded {} Tryz.checked os 8 .any ((OpenSpec.ofChange Rows.treeNeighboursSpec).preRow enc Tryz.prog Tryz.f8 Rows.treeNeighboursRow.domain false Rows.treeNeighboursRow.laid) (((OpenSpec.ofChange Rows.treeNeighboursSpec).at F).post enc Tryz.prog Tryz.f8 false true false false) := by
  obtain ⟨places, hx⟩ := reads os enc
  refine law_lifted os started H enc F (by kernel_rfl) Tryz.func8 #[.slice none 0 0] (World.shaped_of_ZipB (by kernel_rfl) (by kernel_rfl)) (by kernel_rfl)
    (OpenSpec.preRow_of_cond 8 hx (by kernel_rfl) (fun k hk => by cases hk) (by kernel_rfl) (laidMet_laidAll _ (by kernel_rfl) (by kernel_rfl))) rfl rfl
    (fun ds hl => by
      rw [Tryz.params8] at hl
      match ds, hl with
      | [d0], _ => rfl) (by kernel_rfl) ?_
  intro W base args ds ps hval hA hlt hz hsh
  rw [Tryz.params8] at hA hval
  obtain ⟨v0, vs0, d0, ds0, p0, q0, hargs, rfl, rfl, h0, r0⟩ := trodAll_cons hA
  obtain ⟨rfl, rfl, rfl⟩ := trodAll_nil r0
  obtain rfl : args = #[v0] := by cases args; simp_all
  obtain ⟨A0, c0, xs0, rfl, s0⟩ := open_nums Tryz.underlying23 Tryz.underlying3 (by kernel_rfl) (hval 0 23 v0 rfl rfl) h0 (fun x hx => hlt x (List.mem_append_left _ hx))
  exact lawNeighbours_any A0 c0 xs0 W (ok_of_shape W hsh) s0
theorem said : Rows.TreeNeighboursSaid :=
  OpenClaim.holds_of_cond 8 Tryz.f8 rfl rfl rfl rfl rfl rfl rfl ⟨rfl, rfl, rfl, rfl, rfl⟩ rfl rfl rfl rfl rfl (by kernel_rfl) Tryz.func8 (by kernel_rfl)
    (of_decide_eq_true (by kernel_rfl)) (by unfold Func.isWrapper; first | (rw [if_pos (by decide +kernel)]; kernel_rfl) | (rw [if_neg (by decide +kernel)]; exact ⟨rfl, rfl⟩))
    (fun os started H enc _ F => by rw [OpenClaim.pre_eq_preRow]; exact lifted os started H enc F)
theorem plain (f : FuncId) (fn : Func) (hf : Tryz.pinned.checked.prog.funcNamed Rows.treeNeighboursRow.func = some f) (hfn : Tryz.pinned.checked.prog.funcs[f]? = some fn) :
    false = Tryz.pinned.checked.prog.looks [] ∧ ∀ (j : Nat) t, fn.params[j]? = some t → Tryz.pinned.checked.prog.wantsStandIn t = false := by
  obtain rfl : f = 8 := Option.some.inj ((show Tryz.prog.funcNamed Rows.treeNeighboursRow.func = some 8 by kernel_rfl).symm.trans hf) |>.symm
  obtain rfl : fn = Tryz.f8 := (Option.some.inj (Tryz.func8.symm.trans hfn)).symm
  refine ⟨by kernel_rfl, fun j t ht => ?_⟩
  rw [Tryz.params8] at ht
  have hm : t ∈ [23] := by simpa using Array.mem_of_getElem? ht
  have hall : ([23].all fun u => !Tryz.prog.wantsStandIn u) = true := by kernel_rfl
  exact (show Tryz.prog.wantsStandIn t = false by simpa using List.all_eq_true.1 hall t hm)
/-- The card. -/
theorem card : Rows.TreeNeighboursCardSaid :=
  Claim7.holds_tied_plain_at .later [] _ _ _ _ said (fun _ h => by cases h) (by kernel_rfl) (fun _ h => by cases h) treeNeighbours_row_tie rfl ⟨rfl, rfl⟩ (by kernel_rfl) rfl plain (by kernel_rfl)
end cTreeNeighbours
end Go.Proofs.YtidhbckalcjdpaaGreatDoor
