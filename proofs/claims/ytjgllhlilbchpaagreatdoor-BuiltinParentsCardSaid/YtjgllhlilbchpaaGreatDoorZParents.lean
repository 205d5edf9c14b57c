/-
  BuiltinParents: row and card.
 Conditions: those of the given row and card (the listed variables of the library hold what the text lays), nothing else.
-/
import Derived.Test.YtjgllhlilbchpaaGreatDoorIUF
import Derived.Test.YtjgllhlilbchpaaGreatDoorIW
import Derived.ShutString
set_option linter.unusedSimpArgs false
set_option linter.unusedVariables false
namespace Go.Cold
open Go Go.RowKit Go.Proofs.YtjgllhlilbchpaaGreatDoor
/-- What stands under ID_PATH. -/
theorem idpath_at {L : List Dev} {n : Int} {d : Dev} (h : findD L n = some d) : (getA (pathL L n) kIdPath).getD ByteArray.empty = cutT (rpT (chainO L n)) := by
 rw [path_some (by rw [h]; rfl)]
 unfold pathA
 simp [getA]
theorem find_self {L : List Dev} (h : VT L) {d : Dev} (hd : d ∈ L) : findD L d.idx = some d := find_of h.wf.uniq hd
theorem devpath_at {L : List Dev} (h : VT L) {d : Dev} (hd : d ∈ L) : (getA (baseL L d.idx) kDevpath).getD ByteArray.empty = strF L d.idx := by
 rw [base_path (find_self h hd) (str_full h.wf hd)]; rfl
/-- What the law computes of a device: its own part, behind its parent's path. -/
def ownP (L : List Dev) (d : Dev) : ByteArray := if d.par = 0 then partT d else (cutT (rpT (chainO L d.par)) ++ ⟨#[45]⟩) ++ partT d
theorem own_same {L : List Dev} (h : VT L) {d : Dev} (hd : d ∈ L) : ((ownP L d).size ≤ 256 → cutT (rpT (chainO L d.idx)) = ownP L d) ∧ Lib.hasPrefix (ownP L d).data.toList (cutT (rpT (chainO L d.idx))).data.toList = true ∧ (ownP L d).size ≤ 400 := by
 have hsz := (part_print (h.chk d hd)).2.2
 unfold ownP Lib.hasPrefix
 by_cases hp : d.par = 0
 ·
  rw [if_pos hp, path_root h.wf hd hp, cut_small (by omega)]
  exact ⟨fun _ => rfl, by rw [List.isPrefixOf_iff_prefix]; exact List.prefix_refl _, by omega⟩
 ·
  have hm : d.par ∈ idxs L := by
   rcases parA_mem h.wf.par hd with h0 | h0 | h0
   · exact absurd h0 hp
   · cases h0
   · exact h0
  rw [if_neg hp, path_child h.wf hd hm, app_assoc]
  obtain ⟨h1, h2⟩ := @cut_join (rpT (chainO L d.par)) (⟨#[45]⟩ ++ partT d)
  refine ⟨h1, by rw [List.isPrefixOf_iff_prefix]; exact h2, ?_⟩
  rw [ByteArray.size_append, ByteArray.size_append, cut_size]
  show _ + (1 + _) ≤ 400
  omega
theorem dev_ne {L : List Dev} (h : VT L) {i k : Nat} {x y : Dev} (hx : L[i]? = some x) (hy : L[k]? = some y) (hk : k < i) : x ≠ y := by
 intro he
 obtain ⟨h1, h2⟩ := List.getElem?_eq_some_iff.1 hx
 obtain ⟨h3, h4⟩ := List.getElem?_eq_some_iff.1 hy
 have hu := h.wf.uniq
 unfold idxs List.Nodup at hu
 have := List.pairwise_iff_getElem.1 hu k i (by rw [List.length_map]; exact h3) (by rw [List.length_map]; exact h1) hk
 apply this
 rw [List.getElem_map, List.getElem_map, h2, h4, he]
end Go.Cold
namespace Go.Proofs.YtjgllhlilbchpaaGreatDoor
open Go.RowKit Go.Cold
set_option maxRecDepth 100000 in
set_option maxHeartbeats 8000000 in
theorem lawParents11_any (A : Option Addr) (c : Nat) (xs : List Int) (w : World) (hok : Ok w) (h7 : Ok7 w) (hu : OkU w) (hx : Sl w w.heap.size A c xs) :
  Calls Tryz.prog 3 #[.slice A xs.length c] w fun e w' => e = .returned (.bool true) ∧ Below w.heap.size w w' := by
 have HOK := Lib.hid hok; have HX := Lib.hid hx; have H7 := Lib.hid h7; have HK8 := Lib.hid (show Ok8 w from hok); have HU := Lib.hid hu; clear hok hx h7 hu
 go_enter Tryz.func3, Tryz.ntmps3
 go_upto_region 2 with fail
 have htape := tape_new HX.out
 have HNG := Lib.hid (notG_of HOK.out)
 obtain ⟨w1, hw1⟩ : ∃ z, w.alloc (.cells #[.slice A xs.length c, .int .i64 0] 25) = z := ⟨_, rfl⟩
 rw [hw1] at htape
 have hb1 : Below w.heap.size w w1 := by rw [← hw1]; exact (Below.refl _ _).alloc (Nat.le_refl _) _
 have HGw1 := Lib.hid (show w1.heap.size = w.heap.size + 1 by rw [← hw1]; simp)
 try simp only [hw1]
 have HTAPE := Lib.hid htape
 clear hw1 htape
 have HSw1 := Lib.hid (show w.heap.size ≤ w1.heap.size from hb1.size)
 have HBw1 := Lib.hid hb1
 clear hb1
 go_wp2_with fail
 refine (Tree_any xs 0 w.heap.size w.heap.size 9 w1 (by decide) HTAPE.out ⟨by decide, by decide⟩ (HOK.out.next HBw1.out) HNG.out).mono ?_
 rintro e w2 ⟨AT, cT, L, k1, rfl, hvt, hln, hsl, hk1, htp, hg2⟩
 have hb2 : Below w.heap.size w w2 := below_of_grown HBw1.out hg2 HBw1.out.size (Nat.le_refl _)
 have HSB2 := Lib.hid (show w1.heap.size ≤ w2.heap.size from hg2.size)
 have hx1 := hsl.1; have hx2 := hsl.2.1
 unfold maxLen at hx2
 have hin : TreeIn w2 w.heap.size (fun x => w1.heap.size ≤ x ∧ x < w2.heap.size) AT cT L := ⟨hsl, fun x hx => by have := HGw1.out; omega, fun x hx => hx.2⟩
 have HVT := Lib.hid hvt; have HLN := Lib.hid (show L.length ≤ 9 by omega); have HIN := Lib.hid hin; have HK1 := Lib.hid hk1; have HTP := Lib.hid htp
 clear HTAPE hvt hln hsl hk1 htp hg2 hin
 have HBw2 := Lib.hid hb2
 clear hb2
 go_upto_region 3 with fail
 obtain ⟨w3, hw3⟩ : ∃ w3, w2.alloc (.cells #[.slice AT L.length cT] 28) = w3 := ⟨_, rfl⟩
 have hbw3 : Below w2.heap.size w2 w3 := by rw [← hw3]; exact (Below.refl _ _).alloc (Nat.le_refl _) _
 have HGw3 := Lib.hid (show w3.heap.size = w2.heap.size + 1 by rw [← hw3]; simp)
 have HXtw3 := Lib.hid (show BoxL w3 w2.heap.size [.slice AT L.length cT] from box_mk hw3)
 try simp only [hw3]
 have HSTEPw3 := Lib.hid hbw3
 have HSw3 := Lib.hid (show w2.heap.size ≤ w3.heap.size from hbw3.size)
 have HBw3 := Lib.hid (HBw2.out.trans (hbw3.mono HBw2.out.size))
 clear hw3 hbw3
 try rw [show w2.heap.size + 1 = w3.heap.size from HGw3.out.symm]
 have HIN3 := Lib.hid (show TreeIn w3 w.heap.size (fun x => w1.heap.size ≤ x ∧ x < w2.heap.size) AT cT L from ⟨HIN.out.sl.below (HSTEPw3.out) (fun x hx => hx.2), HIN.out.ne, fun x hx => by have := HGw3.out; have := hx.2; omega⟩)
 have HTP3 := Lib.hid (HTP.out.kept (grown_none HSTEPw3.out) (fun e => by cases e) (fun g e => by cases e))
 clear HIN HTP
 have ct0 := HXtw3.out.1 0 _ rfl
 clear ct0
 have HSL := Lib.hid (show Sl w3 w3.heap.size AT cT L from HIN3.out.out)
 have ct0 := HXtw3.out.1 0 _ rfl
 go_wp2_with fail
 go_loopw [5] (fun i wr => ∃ k : Nat, k ≤ L.length ∧ i = .int .i64 (k : Int) ∧ Hid (Below w3.heap.size w3 wr)) (fun i _ => L.length - (intOf i).toNat)
 case atStart => exact ⟨0, Nat.zero_le _, rfl, Below.refl _ _⟩
 case round =>
  clear ct0
  generalize hgg : wr = wo at *
  clear hgg
  obtain ⟨k, hk, rfl, HBR⟩ := hrel
  have HBwo := Lib.hid (HBw3.out.trans (HBR.out.mono HBw3.out.size)); have two := Lib.hid (HXtw3.out.kept (grown_none HBR.out) (fun e => by cases e)); have HSLo := Lib.hid (HSL.out.next (Nat.le_refl _) HBR.out)
  have ct0 := two.out.1 0 _ rfl
  by_cases hlt : k < L.length
  ·
   have i1 : (k : Int) < (L.length : Int) := by omega
   obtain ⟨b, o, rfl, -, A3, c3, hdok, -, hcs⟩ := HSLo.out.dev hlt
   have hmem := List.getElem_mem hlt
   have hdk : L[k]? = some (L[k]'hlt) := List.getElem?_eq_getElem hlt
   obtain ⟨d, hd⟩ : ∃ z, L[k]'hlt = z := ⟨_, rfl⟩
   rw [hd] at hdok hcs hmem hdk
   obtain ⟨a0, a1, a2, a3, a4, a5, a6, a7, a8, a9⟩ := hcs
   have HDK := Lib.hid hdk; have HLT_ := Lib.hid hlt; have HMEM := Lib.hid hmem; have HDO := Lib.hid hdok; clear hd hdk hlt hmem hdok
   go_upto_region 7 with fail
   obtain ⟨w4, hw4⟩ : ∃ w4, wo.alloc (.cells #[.int .i64 d.idx, .int .i64 d.par, .string d.nm, .string d.orig, .string d.sub, .string d.drv, .string d.ali, .int .i64 d.kind, .int .i64 d.num, .slice A3 d.attrs.length c3] 32) = w4 := ⟨_, rfl⟩
   have hbw4 : Below wo.heap.size wo w4 := by rw [← hw4]; exact (Below.refl _ _).alloc (Nat.le_refl _) _
   have HGw4 := Lib.hid (show w4.heap.size = wo.heap.size + 1 by rw [← hw4]; simp)
   have HXdw4 := Lib.hid (show BoxL w4 wo.heap.size [.int .i64 d.idx, .int .i64 d.par, .string d.nm, .string d.orig, .string d.sub, .string d.drv, .string d.ali, .int .i64 d.kind, .int .i64 d.num, .slice A3 d.attrs.length c3] from box_mk hw4)
   try simp only [hw4]
   have HSTEPw4 := Lib.hid hbw4
   have HSw4 := Lib.hid (show wo.heap.size ≤ w4.heap.size from hbw4.size)
   have HBw4 := Lib.hid (HBwo.out.trans (hbw4.mono HBwo.out.size))
   have tw4 := Lib.hid (two.out.kept (grown_none hbw4) (fun e => by cases e))
   have HBRw4 := Lib.hid (below_onto HBR.out hbw4)
   have HSLw4 := Lib.hid ((HSLo.out).next (Nat.le_refl _) hbw4)
   clear hw4 hbw4
   try rw [show wo.heap.size + 1 = w4.heap.size from HGw4.out.symm]
   clear a0 a1 a2 a3 a4 a5 a6 a7 a8 a9
   clear ct0
   have ct0 := tw4.out.1 0 _ rfl
   have cd0 := HXdw4.out.1 0 _ rfl
   have cd1 := HXdw4.out.1 1 _ rfl
   have cd2 := HXdw4.out.1 2 _ rfl
   have cd3 := HXdw4.out.1 3 _ rfl
   have cd4 := HXdw4.out.1 4 _ rfl
   have cd5 := HXdw4.out.1 5 _ rfl
   have cd6 := HXdw4.out.1 6 _ rfl
   have cd7 := HXdw4.out.1 7 _ rfl
   have cd8 := HXdw4.out.1 8 _ rfl
   have cd9 := HXdw4.out.1 9 _ rfl
   have HOS := Lib.hid (own_same HVT.out HMEM.out)
   obtain ⟨ow, how⟩ : ∃ z, ownP L d = z := ⟨_, rfl⟩
   obtain ⟨s, hs⟩ : ∃ z, cutT (rpT (chainO L d.idx)) = z := ⟨_, rfl⟩
   have HOW := Lib.hid how; have HS_ := Lib.hid hs
   have HOP := Lib.hid (show (ow.size ≤ 256 → s = ow) ∧ Lib.hasPrefix ow.data.toList s.data.toList = true ∧ ow.size ≤ 400 by have := HOS.out; rw [how, hs] at this; exact this)
   clear how hs HOS
   go_wp2_with fail
   refine (BPath_any (some ⟨b, o, none⟩) cT L d.idx _ _ (Nat.le_refl _) HSLw4.out HVT.out (H7.out.below HBw4.out) HDO.out.1 (HU.out.below HBw4.out)).mono ?_
   rintro e w5 ⟨hbw5, A5, c5, rfl, hs_⟩
   clear ct0 cd0 cd1 cd2 cd3 cd4 cd5 cd6 cd7 cd8 cd9
   have HSw5 := Lib.hid (show w4.heap.size ≤ w5.heap.size from hbw5.size)
   have HBw5 := Lib.hid (HBw4.out.trans (hbw5.mono HBw4.out.size))
   have tw5 := Lib.hid (tw4.out.kept (grown_none hbw5) (fun e => by cases e))
   have dw5 := Lib.hid (HXdw4.out.kept (grown_none hbw5) (fun e => by cases e))
   have HBRw5 := Lib.hid (below_onto HBRw4.out hbw5)
   have HSLw5 := Lib.hid ((HSLw4.out).next (Nat.le_refl _) hbw5)
   clear hbw5
   obtain ⟨ll, hll⟩ : ∃ z, pathL L d.idx = z := ⟨_, rfl⟩
   rw [hll] at hs_ ⊢
   have hl1 := hs_.1; have hl2 := hs_.2.1
   unfold maxLen at hl2
   have HLL := Lib.hid hll; have HS5 := Lib.hid hs_; clear hs_ hll
   have ct0 := tw5.out.1 0 _ rfl
   have cd0 := dw5.out.1 0 _ rfl
   have cd1 := dw5.out.1 1 _ rfl
   have cd2 := dw5.out.1 2 _ rfl
   have cd3 := dw5.out.1 3 _ rfl
   have cd4 := dw5.out.1 4 _ rfl
   have cd5 := dw5.out.1 5 _ rfl
   have cd6 := dw5.out.1 6 _ rfl
   have cd7 := dw5.out.1 7 _ rfl
   have cd8 := dw5.out.1 8 _ rfl
   have cd9 := dw5.out.1 9 _ rfl
   go_wp2_with fail
   refine (Get_any A5 c5 ll ⟨#[73, 68, 95, 80, 65, 84, 72]⟩ _ w5.heap.size (Nat.le_refl _) HS5.out).mono ?_
   rintro e w6 ⟨rfl, hbw6⟩
   clear ct0 cd0 cd1 cd2 cd3 cd4 cd5 cd6 cd7 cd8 cd9
   have HSw6 := Lib.hid (show w5.heap.size ≤ w6.heap.size from hbw6.size)
   have HBw6 := Lib.hid (HBw5.out.trans (hbw6.mono HBw5.out.size))
   have tw6 := Lib.hid (tw5.out.kept (grown_none hbw6) (fun e => by cases e))
   have dw6 := Lib.hid (dw5.out.kept (grown_none hbw6) (fun e => by cases e))
   have HBRw6 := Lib.hid (below_onto HBRw5.out hbw6)
   have HSLw6 := Lib.hid ((HSLw5.out).next (Nat.le_refl _) hbw6)
   have HS5w6 := Lib.hid ((HS5.out).next (Nat.le_refl _) hbw6)
   clear hbw6
   obtain ⟨qb, hqb⟩ : ∃ z, (getA ll ⟨#[73, 68, 95, 80, 65, 84, 72]⟩).isSome = z := ⟨_, rfl⟩
   rw [hqb, show (getA ll ⟨#[73, 68, 95, 80, 65, 84, 72]⟩).getD ByteArray.empty = s from by rw [← HLL.out]; exact (idpath_at (find_self HVT.out HMEM.out)).trans HS_.out]
   clear hqb HLL HS5
   clear hl1 hl2
   have ct0 := tw6.out.1 0 _ rfl
   have cd0 := dw6.out.1 0 _ rfl
   have cd1 := dw6.out.1 1 _ rfl
   have cd2 := dw6.out.1 2 _ rfl
   have cd3 := dw6.out.1 3 _ rfl
   have cd4 := dw6.out.1 4 _ rfl
   have cd5 := dw6.out.1 5 _ rfl
   have cd6 := dw6.out.1 6 _ rfl
   have cd7 := dw6.out.1 7 _ rfl
   have cd8 := dw6.out.1 8 _ rfl
   have cd9 := dw6.out.1 9 _ rfl
   have hp0 := HOP.out.2.2
   have hsz : (partT d).size ≤ 65 := (part_print (HVT.out.chk d HMEM.out)).2.2
   rw [part_size] at hsz
   have f1 : ¬ 9223372036854775807 < d.sub.size + 1 := by omega
   have f2 : ¬ 9223372036854775807 < d.sub.size + 1 + d.orig.size := by omega
   have HPZ := Lib.hid hsz; clear hsz hp0
   by_cases hpz : d.par = 0
   ·
    have hpb : (d.par != 0) = false := by simp [hpz]
    have hou : (d.sub ++ ⟨#[58]⟩) ++ d.orig = ow := by rw [← HOW.out]; unfold ownP; rw [if_pos hpz]; rfl
    clear hpz
    go_upto_region 12 with fail
    try rw [hou]
    have hox : ow.size = d.sub.size + 1 + d.orig.size := by rw [← hou, ByteArray.size_append, ByteArray.size_append]; rfl
    clear hou hox f1 f2
    by_cases h256 : ow.size ≤ 256
    ·
     have i5 : (ow.size : Int) ≤ 256 := by omega
     have he : (s.toList != ow.toList) = false := by rw [HOP.out.1 h256]; simp
     have he2 : (s.toList == ow.toList) = true := by rw [HOP.out.1 h256]; simp
     clear h256
     go_wp2_with fail
     refine (Tryz.strings_HasPrefix ow s _).mono ?_
     rintro e w9 ⟨rfl, hw_⟩
     rw [hw_, HOP.out.2.1]; clear hw_ w9
     go_wp2_with fail
     go_loopw [12] (fun i wr => ∃ m : Nat, m ≤ k ∧ i = .int .i64 (m : Int) ∧ Hid (Below w6.heap.size w6 wr)) (fun i _ => k - (intOf i).toNat)
     case atStart => exact ⟨0, Nat.zero_le _, rfl, Below.refl _ _⟩
     case round =>
      clear ct0 cd0 cd1 cd2 cd3 cd4 cd5 cd6 cd7 cd8 cd9
      obtain ⟨m, hm, rfl, HBI⟩ := hrel
      have HBwr := Lib.hid (HBw6.out.trans (HBI.out.mono HBw6.out.size)); have HBRr := Lib.hid (below_onto HBRw6.out HBI.out); have HSLr := Lib.hid (HSLw6.out.next (Nat.le_refl _) HBI.out)
      have twr := Lib.hid (tw6.out.kept (grown_none HBI.out) (fun e => by cases e))
      have dwr := Lib.hid (dw6.out.kept (grown_none HBI.out) (fun e => by cases e))
      have ct0 := twr.out.1 0 _ rfl
      have cd0 := dwr.out.1 0 _ rfl
      by_cases hmk : m < k
      ·
       have i6 : (m : Int) < (k : Int) := by omega
       obtain ⟨da, hda⟩ : ∃ z, strF L d.idx = z := ⟨_, rfl⟩
       have HDA := Lib.hid hda; clear hda
       have HMK := Lib.hid hmk; clear hmk
       go_wp2_with fail
       refine (Base_any (some ⟨b, o, none⟩) cT L d.idx _ _ (Nat.le_refl _) HSLr.out HVT.out (H7.out.below HBwr.out) (HOK.out.next HBwr.out) HDO.out.1).mono ?_
       rintro e w7 ⟨hbw7, A5, c5, rfl, hs_⟩
       clear ct0 cd0
       have HSw7 := Lib.hid (show wr.heap.size ≤ w7.heap.size from hbw7.size)
       have HBw7 := Lib.hid (HBwr.out.trans (hbw7.mono HBwr.out.size))
       have tw7 := Lib.hid (twr.out.kept (grown_none hbw7) (fun e => by cases e))
       have dw7 := Lib.hid (dwr.out.kept (grown_none hbw7) (fun e => by cases e))
       have HBIw7 := Lib.hid (below_onto HBI.out hbw7)
       have HBRw7 := Lib.hid (below_onto HBRr.out hbw7)
       have HSLw7 := Lib.hid ((HSLr.out).next (Nat.le_refl _) hbw7)
       clear hbw7
       obtain ⟨ll, hll⟩ : ∃ z, baseL L d.idx = z := ⟨_, rfl⟩
       rw [hll] at hs_ ⊢
       have hl1 := hs_.1; have hl2 := hs_.2.1
       unfold maxLen at hl2
       have HLL := Lib.hid hll; have HS5 := Lib.hid hs_; clear hs_ hll
       have ct0 := tw7.out.1 0 _ rfl
       have cd0 := dw7.out.1 0 _ rfl
       go_wp2_with fail
       refine (Get_any A5 c5 ll ⟨#[68, 69, 86, 80, 65, 84, 72]⟩ _ w7.heap.size (Nat.le_refl _) HS5.out).mono ?_
       rintro e w8 ⟨rfl, hbw8⟩
       clear ct0 cd0
       have HSw8 := Lib.hid (show w7.heap.size ≤ w8.heap.size from hbw8.size)
       have HBw8 := Lib.hid (HBw7.out.trans (hbw8.mono HBw7.out.size))
       have tw8 := Lib.hid (tw7.out.kept (grown_none hbw8) (fun e => by cases e))
       have dw8 := Lib.hid (dw7.out.kept (grown_none hbw8) (fun e => by cases e))
       have HBIw8 := Lib.hid (below_onto HBIw7.out hbw8)
       have HBRw8 := Lib.hid (below_onto HBRw7.out hbw8)
       have HSLw8 := Lib.hid ((HSLw7.out).next (Nat.le_refl _) hbw8)
       have HS5w8 := Lib.hid ((HS5.out).next (Nat.le_refl _) hbw8)
       clear hbw8
       obtain ⟨qb, hqb⟩ : ∃ z, (getA ll ⟨#[68, 69, 86, 80, 65, 84, 72]⟩).isSome = z := ⟨_, rfl⟩
       rw [hqb, show (getA ll ⟨#[68, 69, 86, 80, 65, 84, 72]⟩).getD ByteArray.empty = da from by rw [← HLL.out]; exact (devpath_at HVT.out HMEM.out).trans HDA.out]
       clear hqb HLL HS5
       clear hl1 hl2
       have ct0 := tw8.out.1 0 _ rfl
       have cd0 := dw8.out.1 0 _ rfl
       have hml : m < L.length := by have := HMK.out; have := HLT_.out; omega
       have i7 : (m : Int) < (L.length : Int) := by omega
       obtain ⟨b', o', e', -, A7, c7, hdok, -, hcs⟩ := HSLw8.out.dev hml
       obtain ⟨rfl, rfl⟩ : b = b' ∧ o = o' := by injection e' with e'; injection e' with h1 h2; exact ⟨h1, h2⟩
       clear e'
       have hmem2 := List.getElem_mem hml
       have hmk2 : L[m]? = some (L[m]'hml) := List.getElem?_eq_getElem hml
       obtain ⟨y, hy⟩ : ∃ z, L[m]'hml = z := ⟨_, rfl⟩
       rw [hy] at hdok hcs hmem2 hmk2
       have hne := dev_ne HVT.out HDK.out hmk2 HMK.out
       have HC0 := Lib.hid hcs.1; have HYO := Lib.hid hdok; have HYM := Lib.hid hmem2
       obtain ⟨db, hdb⟩ : ∃ z, strF L y.idx = z := ⟨_, rfl⟩
       have HDB := Lib.hid hdb; have HAB := Lib.hid (show da ≠ db by rw [← HDA.out, ← hdb]; exact devpath_ne HVT.out HMEM.out hmem2 hne)
       clear hy hdok hcs hmem2 hmk2 hne hdb
       go_upto_region 18 with fail
       clear ct0 cd0
       refine wp_region_held_drew (S := fun w' => BoxL w' (w2.heap.size) [.slice (some ⟨b, o, none⟩) L.length cT] ∧ w'.cell? ⟨b, o + m * 10, none⟩ = some (.int .i64 y.idx)) (by kernel_rfl) ⟨tw8.out.drew, cell_nx HC0.out (below_drewN_self _ _ 1)⟩ (fun hS0 => ?_)
       obtain ⟨wd, hwd⟩ : ∃ z, World.drew w8 = z := ⟨_, rfl⟩
       rw [hwd] at hS0 ⊢
       have hb_ : Below w8.heap.size w8 wd := by rw [← hwd]; exact below_drewN_self _ _ 1
       clear hwd hS0
       have HSwd := Lib.hid (show w8.heap.size ≤ wd.heap.size from hb_.size)
       have HBwd := Lib.hid (HBw8.out.trans (hb_.mono HBw8.out.size))
       have twd := Lib.hid (tw8.out.kept (grown_none hb_) (fun e => by cases e))
       have dwd := Lib.hid (dw8.out.kept (grown_none hb_) (fun e => by cases e))
       have HBIwd := Lib.hid (below_onto HBIw8.out hb_)
       have HBRwd := Lib.hid (below_onto HBRw8.out hb_)
       have HSLwd := Lib.hid ((HSLw8.out).next (Nat.le_refl _) hb_)
       have HC0wd := Lib.hid (cell_nx HC0.out hb_)
       clear hb_
       refine wpAnyH_take (i := 0) (oi := ⟨some 91, _, _, _, _, _⟩) (v := .agg #[.slice (some ⟨b, o, none⟩) L.length cT]) rfl (by kernel_rfl) (by kernel_rfl) (by kernel_rfl) (fun _ _ _ h => h) (Or.inl ⟨by rfl, fun w' hS => by (have u0_ := hS.1.1 0 _ rfl; go_simp)⟩) ⟨twd.out, HC0wd.out⟩ ?_
       try simp only [Act.put, List.setIfInBounds_toArray, List.set_cons_zero, List.set_cons_succ]
       refine wpAnyH_take (i := 1) (oi := ⟨some 92, _, _, _, _, _⟩) (v := .pointer (some ⟨w2.heap.size, 0, none⟩)) rfl (by kernel_rfl) (by kernel_rfl) (by kernel_rfl) (fun _ _ _ h => h) (Or.inl ⟨by rfl, fun w' hS => by go_simp⟩) ⟨twd.out, HC0wd.out⟩ ?_
       try simp only [Act.put, List.setIfInBounds_toArray, List.set_cons_zero, List.set_cons_succ]
       refine wpAnyH_take (i := 2) (oi := ⟨some 93, _, _, _, _, _⟩) (v := .slice (some ⟨b, o, none⟩) L.length cT) rfl (by kernel_rfl) (by kernel_rfl) (by kernel_rfl) (fun _ _ _ h => h) (Or.inl ⟨by rfl, fun w' hS => by (have u0_ := hS.1.1 0 _ rfl; go_simp)⟩) ⟨twd.out, HC0wd.out⟩ ?_
       try simp only [Act.put, List.setIfInBounds_toArray, List.set_cons_zero, List.set_cons_succ]
       refine wpAnyH_take (i := 3) (oi := ⟨some 94, _, _, _, _, _⟩) (v := .int .i64 m) rfl (by kernel_rfl) (by kernel_rfl) (by kernel_rfl) (fun _ _ _ h => h) (Or.inl ⟨by rfl, fun w' hS => by go_simp⟩) ⟨twd.out, HC0wd.out⟩ ?_
       try simp only [Act.put, List.setIfInBounds_toArray, List.set_cons_zero, List.set_cons_succ]
       refine wpAnyH_take (i := 4) (oi := ⟨some 95, _, _, _, _, _⟩) (v := .pointer (some ⟨b, o + m * 10, none⟩)) rfl (by kernel_rfl) (by kernel_rfl) (by kernel_rfl) (fun _ _ _ h => h) (Or.inl ⟨by rfl, fun w' hS => by go_simp⟩) ⟨twd.out, HC0wd.out⟩ ?_
       try simp only [Act.put, List.setIfInBounds_toArray, List.set_cons_zero, List.set_cons_succ]
       refine wpAnyH_take (i := 5) (oi := ⟨some 96, _, _, _, _, _⟩) (v := .pointer (some ⟨b, o + m * 10, none⟩)) rfl (by kernel_rfl) (by kernel_rfl) (by kernel_rfl) (fun _ _ _ h => h) (Or.inl ⟨by rfl, fun w' hS => by go_simp⟩) ⟨twd.out, HC0wd.out⟩ ?_
       try simp only [Act.put, List.setIfInBounds_toArray, List.set_cons_zero, List.set_cons_succ]
       refine wpAnyH_take (i := 6) (oi := ⟨some 97, _, _, _, _, _⟩) (v := .int .i64 y.idx) rfl (by kernel_rfl) (by kernel_rfl) (by kernel_rfl) (fun _ _ _ h => h) (Or.inl ⟨by rfl, fun w' hS => by (have u0_ := hS.2; go_simp)⟩) ⟨twd.out, HC0wd.out⟩ ?_
       try simp only [Act.put, List.setIfInBounds_toArray, List.set_cons_zero, List.set_cons_succ]
       refine wpAnyH_ready (rs := [7]) (by kernel_rfl) (by simp) ?_
       refine AllReadyH.cons (o := ⟨some 98, .call ⟨_, _, _⟩, _, _, _, _⟩) rfl (fun K hK => ?_) AllReadyH.nil
       go_simp
       go_at_call 14
       refine (Base_any (some ⟨b, o, none⟩) cT L y.idx _ _ (Nat.le_refl _) HSLwd.out HVT.out (H7.out.below HBwd.out) (HOK.out.next HBwd.out) HYO.out.1).mono ?_
       rintro e' q1 ⟨hb_, A5, c5, rfl, hs_⟩
       obtain ⟨ll, hll⟩ : ∃ z, baseL L y.idx = z := ⟨_, rfl⟩
       rw [hll] at hs_ ⊢
       have HLL := Lib.hid hll
       have HSq1 := Lib.hid (show wd.heap.size ≤ q1.heap.size from hb_.size)
       have HBq1 := Lib.hid (HBwd.out.trans (hb_.mono HBwd.out.size))
       have tq1 := Lib.hid (twd.out.kept (grown_none hb_) (fun e => by cases e))
       have dq1 := Lib.hid (dwd.out.kept (grown_none hb_) (fun e => by cases e))
       have HBIq1 := Lib.hid (below_onto HBIwd.out hb_)
       have HBRq1 := Lib.hid (below_onto HBRwd.out hb_)
       have HSLq1 := Lib.hid ((HSLwd.out).next (Nat.le_refl _) hb_)
       have HC0q1 := Lib.hid (cell_nx HC0wd.out hb_)
       have HS5 := Lib.hid hs_; clear hs_ hb_ hll
       refine hK.out _ _ ⟨tq1.out, HC0q1.out⟩ (fun _ => ?_)
       clear hK K
       try simp only [Act.put, List.setIfInBounds_toArray, List.set_cons_zero, List.set_cons_succ]
       refine wpAnyH_ready (rs := [8]) (by kernel_rfl) (by simp) ?_
       refine AllReadyH.cons (o := ⟨some 99, .call ⟨_, _, _⟩, _, _, _, _⟩) rfl (fun K hK => ?_) AllReadyH.nil
       go_simp
       go_at_call 11
       refine (Get_any A5 c5 ll ⟨#[68, 69, 86, 80, 65, 84, 72]⟩ _ q1.heap.size (Nat.le_refl _) HS5.out).mono ?_
       rintro e' q2 ⟨rfl, hb_⟩
       have HSq2 := Lib.hid (show q1.heap.size ≤ q2.heap.size from hb_.size)
       have HBq2 := Lib.hid (HBq1.out.trans (hb_.mono HBq1.out.size))
       have tq2 := Lib.hid (tq1.out.kept (grown_none hb_) (fun e => by cases e))
       have dq2 := Lib.hid (dq1.out.kept (grown_none hb_) (fun e => by cases e))
       have HBIq2 := Lib.hid (below_onto HBIq1.out hb_)
       have HBRq2 := Lib.hid (below_onto HBRq1.out hb_)
       have HSLq2 := Lib.hid ((HSLq1.out).next (Nat.le_refl _) hb_)
       have HC0q2 := Lib.hid (cell_nx HC0q1.out hb_)
       have HS5q2 := Lib.hid ((HS5.out).next (Nat.le_refl _) hb_)
       obtain ⟨qb, hqb⟩ : ∃ z, (getA ll ⟨#[68, 69, 86, 80, 65, 84, 72]⟩).isSome = z := ⟨_, rfl⟩
       rw [hqb, show (getA ll ⟨#[68, 69, 86, 80, 65, 84, 72]⟩).getD ByteArray.empty = db from by rw [← HLL.out]; exact (devpath_at HVT.out HYM.out).trans HDB.out]
       clear hqb
       clear hb_
       refine hK.out _ _ ⟨tq2.out, HC0q2.out⟩ (fun _ => ?_)
       clear hK K
       try simp only [Act.put, List.setIfInBounds_toArray, List.set_cons_zero, List.set_cons_succ]
       refine wpAnyH_take (i := 9) (oi := ⟨some 90, _, _, _, _, _⟩) (v := .tuple #[.string db, .bool qb]) rfl (by kernel_rfl) (by kernel_rfl) (by kernel_rfl) (fun _ _ _ h => h) (Or.inl ⟨by rfl, fun w' hS => by go_simp⟩) ⟨tq2.out, HC0q2.out⟩ ?_
       try simp only [Act.put, List.setIfInBounds_toArray, List.set_cons_zero, List.set_cons_succ]
       refine wpAnyH_take (i := 10) (oi := ⟨some 100, _, _, _, _, _⟩) (v := .string db) rfl (by kernel_rfl) (by kernel_rfl) (by kernel_rfl) (fun _ _ _ h => h) (Or.inl ⟨by rfl, fun w' hS => by go_simp⟩) ⟨tq2.out, HC0q2.out⟩ ?_
       try simp only [Act.put, List.setIfInBounds_toArray, List.set_cons_zero, List.set_cons_succ]
       refine wpAnyH_take (i := 11) (oi := ⟨some 101, _, _, _, _, _⟩) (v := .bool qb) rfl (by kernel_rfl) (by kernel_rfl) (by kernel_rfl) (fun _ _ _ h => h) (Or.inl ⟨by rfl, fun w' hS => by go_simp⟩) ⟨tq2.out, HC0q2.out⟩ ?_
       try simp only [Act.put, List.setIfInBounds_toArray, List.set_cons_zero, List.set_cons_succ]
       refine wpAnyH_take (i := 12) (oi := ⟨some 15, _, _, _, _, _⟩) (v := .string db) rfl (by kernel_rfl) (by kernel_rfl) (by kernel_rfl) (fun _ _ _ h => h) (Or.inl ⟨by rfl, fun w' hS => by go_simp⟩) ⟨tq2.out, HC0q2.out⟩ ?_
       try simp only [Act.put, List.setIfInBounds_toArray, List.set_cons_zero, List.set_cons_succ]
       refine wpAnyH_take (i := 13) (oi := ⟨some 16, _, _, _, _, _⟩) (v := .bool qb) rfl (by kernel_rfl) (by kernel_rfl) (by kernel_rfl) (fun _ _ _ h => h) (Or.inl ⟨by rfl, fun w' hS => by go_simp⟩) ⟨tq2.out, HC0q2.out⟩ ?_
       try simp only [Act.put, List.setIfInBounds_toArray, List.set_cons_zero, List.set_cons_succ]
       refine wpAnyH_done (by kernel_rfl) ?_ _
       have hab : (da.toList == db.toList) = false := by rw [ba_beq]; exact decide_eq_false HAB.out
       go_wp2
       go_roundw
       case rel => exact ⟨m + 1, by have := HMK.out; omega, by go_num, HBIq2⟩
       case measure => have := HMK.out; simp [intOf]; omega
      ·
       have i6 : ¬ (m : Int) < (k : Int) := by omega
       go_wp2
       go_roundw
       case rel => exact ⟨k + 1, by have := HLT_.out; omega, by go_num, HBRr⟩
       case measure => have := HLT_.out; simp [intOf]; omega
    ·
     have i5 : ¬ (ow.size : Int) ≤ 256 := by omega
     clear h256
     go_wp2_with fail
     refine (Tryz.strings_HasPrefix ow s _).mono ?_
     rintro e w9 ⟨rfl, hw_⟩
     rw [hw_, HOP.out.2.1]; clear hw_ w9
     go_wp2_with fail
     go_loopw [12] (fun i wr => ∃ m : Nat, m ≤ k ∧ i = .int .i64 (m : Int) ∧ Hid (Below w6.heap.size w6 wr)) (fun i _ => k - (intOf i).toNat)
     case atStart => exact ⟨0, Nat.zero_le _, rfl, Below.refl _ _⟩
     case round =>
      clear ct0 cd0 cd1 cd2 cd3 cd4 cd5 cd6 cd7 cd8 cd9
      obtain ⟨m, hm, rfl, HBI⟩ := hrel
      have HBwr := Lib.hid (HBw6.out.trans (HBI.out.mono HBw6.out.size)); have HBRr := Lib.hid (below_onto HBRw6.out HBI.out); have HSLr := Lib.hid (HSLw6.out.next (Nat.le_refl _) HBI.out)
      have twr := Lib.hid (tw6.out.kept (grown_none HBI.out) (fun e => by cases e))
      have dwr := Lib.hid (dw6.out.kept (grown_none HBI.out) (fun e => by cases e))
      have ct0 := twr.out.1 0 _ rfl
      have cd0 := dwr.out.1 0 _ rfl
      by_cases hmk : m < k
      ·
       have i6 : (m : Int) < (k : Int) := by omega
       obtain ⟨da, hda⟩ : ∃ z, strF L d.idx = z := ⟨_, rfl⟩
       have HDA := Lib.hid hda; clear hda
       have HMK := Lib.hid hmk; clear hmk
       go_wp2_with fail
       refine (Base_any (some ⟨b, o, none⟩) cT L d.idx _ _ (Nat.le_refl _) HSLr.out HVT.out (H7.out.below HBwr.out) (HOK.out.next HBwr.out) HDO.out.1).mono ?_
       rintro e w9 ⟨hbw9, A5, c5, rfl, hs_⟩
       clear ct0 cd0
       have HSw9 := Lib.hid (show wr.heap.size ≤ w9.heap.size from hbw9.size)
       have HBw9 := Lib.hid (HBwr.out.trans (hbw9.mono HBwr.out.size))
       have tw9 := Lib.hid (twr.out.kept (grown_none hbw9) (fun e => by cases e))
       have dw9 := Lib.hid (dwr.out.kept (grown_none hbw9) (fun e => by cases e))
       have HBIw9 := Lib.hid (below_onto HBI.out hbw9)
       have HBRw9 := Lib.hid (below_onto HBRr.out hbw9)
       have HSLw9 := Lib.hid ((HSLr.out).next (Nat.le_refl _) hbw9)
       clear hbw9
       obtain ⟨ll, hll⟩ : ∃ z, baseL L d.idx = z := ⟨_, rfl⟩
       rw [hll] at hs_ ⊢
       have hl1 := hs_.1; have hl2 := hs_.2.1
       unfold maxLen at hl2
       have HLL := Lib.hid hll; have HS5 := Lib.hid hs_; clear hs_ hll
       have ct0 := tw9.out.1 0 _ rfl
       have cd0 := dw9.out.1 0 _ rfl
       go_wp2_with fail
       refine (Get_any A5 c5 ll ⟨#[68, 69, 86, 80, 65, 84, 72]⟩ _ w9.heap.size (Nat.le_refl _) HS5.out).mono ?_
       rintro e w10 ⟨rfl, hbw10⟩
       clear ct0 cd0
       have HSw10 := Lib.hid (show w9.heap.size ≤ w10.heap.size from hbw10.size)
       have HBw10 := Lib.hid (HBw9.out.trans (hbw10.mono HBw9.out.size))
       have tw10 := Lib.hid (tw9.out.kept (grown_none hbw10) (fun e => by cases e))
       have dw10 := Lib.hid (dw9.out.kept (grown_none hbw10) (fun e => by cases e))
       have HBIw10 := Lib.hid (below_onto HBIw9.out hbw10)
       have HBRw10 := Lib.hid (below_onto HBRw9.out hbw10)
       have HSLw10 := Lib.hid ((HSLw9.out).next (Nat.le_refl _) hbw10)
       have HS5w10 := Lib.hid ((HS5.out).next (Nat.le_refl _) hbw10)
       clear hbw10
       obtain ⟨qb, hqb⟩ : ∃ z, (getA ll ⟨#[68, 69, 86, 80, 65, 84, 72]⟩).isSome = z := ⟨_, rfl⟩
       rw [hqb, show (getA ll ⟨#[68, 69, 86, 80, 65, 84, 72]⟩).getD ByteArray.empty = da from by rw [← HLL.out]; exact (devpath_at HVT.out HMEM.out).trans HDA.out]
       clear hqb HLL HS5
       clear hl1 hl2
       have ct0 := tw10.out.1 0 _ rfl
       have cd0 := dw10.out.1 0 _ rfl
       have hml : m < L.length := by have := HMK.out; have := HLT_.out; omega
       have i7 : (m : Int) < (L.length : Int) := by omega
       obtain ⟨b', o', e', -, A7, c7, hdok, -, hcs⟩ := HSLw10.out.dev hml
       obtain ⟨rfl, rfl⟩ : b = b' ∧ o = o' := by injection e' with e'; injection e' with h1 h2; exact ⟨h1, h2⟩
       clear e'
       have hmem2 := List.getElem_mem hml
       have hmk2 : L[m]? = some (L[m]'hml) := List.getElem?_eq_getElem hml
       obtain ⟨y, hy⟩ : ∃ z, L[m]'hml = z := ⟨_, rfl⟩
       rw [hy] at hdok hcs hmem2 hmk2
       have hne := dev_ne HVT.out HDK.out hmk2 HMK.out
       have HC0 := Lib.hid hcs.1; have HYO := Lib.hid hdok; have HYM := Lib.hid hmem2
       obtain ⟨db, hdb⟩ : ∃ z, strF L y.idx = z := ⟨_, rfl⟩
       have HDB := Lib.hid hdb; have HAB := Lib.hid (show da ≠ db by rw [← HDA.out, ← hdb]; exact devpath_ne HVT.out HMEM.out hmem2 hne)
       clear hy hdok hcs hmem2 hmk2 hne hdb
       go_upto_region 18 with fail
       clear ct0 cd0
       refine wp_region_held_drew (S := fun w' => BoxL w' (w2.heap.size) [.slice (some ⟨b, o, none⟩) L.length cT] ∧ w'.cell? ⟨b, o + m * 10, none⟩ = some (.int .i64 y.idx)) (by kernel_rfl) ⟨tw10.out.drew, cell_nx HC0.out (below_drewN_self _ _ 1)⟩ (fun hS0 => ?_)
       obtain ⟨wd, hwd⟩ : ∃ z, World.drew w10 = z := ⟨_, rfl⟩
       rw [hwd] at hS0 ⊢
       have hb_ : Below w10.heap.size w10 wd := by rw [← hwd]; exact below_drewN_self _ _ 1
       clear hwd hS0
       have HSwd := Lib.hid (show w10.heap.size ≤ wd.heap.size from hb_.size)
       have HBwd := Lib.hid (HBw10.out.trans (hb_.mono HBw10.out.size))
       have twd := Lib.hid (tw10.out.kept (grown_none hb_) (fun e => by cases e))
       have dwd := Lib.hid (dw10.out.kept (grown_none hb_) (fun e => by cases e))
       have HBIwd := Lib.hid (below_onto HBIw10.out hb_)
       have HBRwd := Lib.hid (below_onto HBRw10.out hb_)
       have HSLwd := Lib.hid ((HSLw10.out).next (Nat.le_refl _) hb_)
       have HC0wd := Lib.hid (cell_nx HC0.out hb_)
       clear hb_
       refine wpAnyH_take (i := 0) (oi := ⟨some 91, _, _, _, _, _⟩) (v := .agg #[.slice (some ⟨b, o, none⟩) L.length cT]) rfl (by kernel_rfl) (by kernel_rfl) (by kernel_rfl) (fun _ _ _ h => h) (Or.inl ⟨by rfl, fun w' hS => by (have u0_ := hS.1.1 0 _ rfl; go_simp)⟩) ⟨twd.out, HC0wd.out⟩ ?_
       try simp only [Act.put, List.setIfInBounds_toArray, List.set_cons_zero, List.set_cons_succ]
       refine wpAnyH_take (i := 1) (oi := ⟨some 92, _, _, _, _, _⟩) (v := .pointer (some ⟨w2.heap.size, 0, none⟩)) rfl (by kernel_rfl) (by kernel_rfl) (by kernel_rfl) (fun _ _ _ h => h) (Or.inl ⟨by rfl, fun w' hS => by go_simp⟩) ⟨twd.out, HC0wd.out⟩ ?_
       try simp only [Act.put, List.setIfInBounds_toArray, List.set_cons_zero, List.set_cons_succ]
       refine wpAnyH_take (i := 2) (oi := ⟨some 93, _, _, _, _, _⟩) (v := .slice (some ⟨b, o, none⟩) L.length cT) rfl (by kernel_rfl) (by kernel_rfl) (by kernel_rfl) (fun _ _ _ h => h) (Or.inl ⟨by rfl, fun w' hS => by (have u0_ := hS.1.1 0 _ rfl; go_simp)⟩) ⟨twd.out, HC0wd.out⟩ ?_
       try simp only [Act.put, List.setIfInBounds_toArray, List.set_cons_zero, List.set_cons_succ]
       refine wpAnyH_take (i := 3) (oi := ⟨some 94, _, _, _, _, _⟩) (v := .int .i64 m) rfl (by kernel_rfl) (by kernel_rfl) (by kernel_rfl) (fun _ _ _ h => h) (Or.inl ⟨by rfl, fun w' hS => by go_simp⟩) ⟨twd.out, HC0wd.out⟩ ?_
       try simp only [Act.put, List.setIfInBounds_toArray, List.set_cons_zero, List.set_cons_succ]
       refine wpAnyH_take (i := 4) (oi := ⟨some 95, _, _, _, _, _⟩) (v := .pointer (some ⟨b, o + m * 10, none⟩)) rfl (by kernel_rfl) (by kernel_rfl) (by kernel_rfl) (fun _ _ _ h => h) (Or.inl ⟨by rfl, fun w' hS => by go_simp⟩) ⟨twd.out, HC0wd.out⟩ ?_
       try simp only [Act.put, List.setIfInBounds_toArray, List.set_cons_zero, List.set_cons_succ]
       refine wpAnyH_take (i := 5) (oi := ⟨some 96, _, _, _, _, _⟩) (v := .pointer (some ⟨b, o + m * 10, none⟩)) rfl (by kernel_rfl) (by kernel_rfl) (by kernel_rfl) (fun _ _ _ h => h) (Or.inl ⟨by rfl, fun w' hS => by go_simp⟩) ⟨twd.out, HC0wd.out⟩ ?_
       try simp only [Act.put, List.setIfInBounds_toArray, List.set_cons_zero, List.set_cons_succ]
       refine wpAnyH_take (i := 6) (oi := ⟨some 97, _, _, _, _, _⟩) (v := .int .i64 y.idx) rfl (by kernel_rfl) (by kernel_rfl) (by kernel_rfl) (fun _ _ _ h => h) (Or.inl ⟨by rfl, fun w' hS => by (have u0_ := hS.2; go_simp)⟩) ⟨twd.out, HC0wd.out⟩ ?_
       try simp only [Act.put, List.setIfInBounds_toArray, List.set_cons_zero, List.set_cons_succ]
       refine wpAnyH_ready (rs := [7]) (by kernel_rfl) (by simp) ?_
       refine AllReadyH.cons (o := ⟨some 98, .call ⟨_, _, _⟩, _, _, _, _⟩) rfl (fun K hK => ?_) AllReadyH.nil
       go_simp
       go_at_call 14
       refine (Base_any (some ⟨b, o, none⟩) cT L y.idx _ _ (Nat.le_refl _) HSLwd.out HVT.out (H7.out.below HBwd.out) (HOK.out.next HBwd.out) HYO.out.1).mono ?_
       rintro e' q1 ⟨hb_, A5, c5, rfl, hs_⟩
       obtain ⟨ll, hll⟩ : ∃ z, baseL L y.idx = z := ⟨_, rfl⟩
       rw [hll] at hs_ ⊢
       have HLL := Lib.hid hll
       have HSq1 := Lib.hid (show wd.heap.size ≤ q1.heap.size from hb_.size)
       have HBq1 := Lib.hid (HBwd.out.trans (hb_.mono HBwd.out.size))
       have tq1 := Lib.hid (twd.out.kept (grown_none hb_) (fun e => by cases e))
       have dq1 := Lib.hid (dwd.out.kept (grown_none hb_) (fun e => by cases e))
       have HBIq1 := Lib.hid (below_onto HBIwd.out hb_)
       have HBRq1 := Lib.hid (below_onto HBRwd.out hb_)
       have HSLq1 := Lib.hid ((HSLwd.out).next (Nat.le_refl _) hb_)
       have HC0q1 := Lib.hid (cell_nx HC0wd.out hb_)
       have HS5 := Lib.hid hs_; clear hs_ hb_ hll
       refine hK.out _ _ ⟨tq1.out, HC0q1.out⟩ (fun _ => ?_)
       clear hK K
       try simp only [Act.put, List.setIfInBounds_toArray, List.set_cons_zero, List.set_cons_succ]
       refine wpAnyH_ready (rs := [8]) (by kernel_rfl) (by simp) ?_
       refine AllReadyH.cons (o := ⟨some 99, .call ⟨_, _, _⟩, _, _, _, _⟩) rfl (fun K hK => ?_) AllReadyH.nil
       go_simp
       go_at_call 11
       refine (Get_any A5 c5 ll ⟨#[68, 69, 86, 80, 65, 84, 72]⟩ _ q1.heap.size (Nat.le_refl _) HS5.out).mono ?_
       rintro e' q2 ⟨rfl, hb_⟩
       have HSq2 := Lib.hid (show q1.heap.size ≤ q2.heap.size from hb_.size)
       have HBq2 := Lib.hid (HBq1.out.trans (hb_.mono HBq1.out.size))
       have tq2 := Lib.hid (tq1.out.kept (grown_none hb_) (fun e => by cases e))
       have dq2 := Lib.hid (dq1.out.kept (grown_none hb_) (fun e => by cases e))
       have HBIq2 := Lib.hid (below_onto HBIq1.out hb_)
       have HBRq2 := Lib.hid (below_onto HBRq1.out hb_)
       have HSLq2 := Lib.hid ((HSLq1.out).next (Nat.le_refl _) hb_)
       have HC0q2 := Lib.hid (cell_nx HC0q1.out hb_)
       have HS5q2 := Lib.hid ((HS5.out).next (Nat.le_refl _) hb_)
       obtain ⟨qb, hqb⟩ : ∃ z, (getA ll ⟨#[68, 69, 86, 80, 65, 84, 72]⟩).isSome = z := ⟨_, rfl⟩
       rw [hqb, show (getA ll ⟨#[68, 69, 86, 80, 65, 84, 72]⟩).getD ByteArray.empty = db from by rw [← HLL.out]; exact (devpath_at HVT.out HYM.out).trans HDB.out]
       clear hqb
       clear hb_
       refine hK.out _ _ ⟨tq2.out, HC0q2.out⟩ (fun _ => ?_)
       clear hK K
       try simp only [Act.put, List.setIfInBounds_toArray, List.set_cons_zero, List.set_cons_succ]
       refine wpAnyH_take (i := 9) (oi := ⟨some 90, _, _, _, _, _⟩) (v := .tuple #[.string db, .bool qb]) rfl (by kernel_rfl) (by kernel_rfl) (by kernel_rfl) (fun _ _ _ h => h) (Or.inl ⟨by rfl, fun w' hS => by go_simp⟩) ⟨tq2.out, HC0q2.out⟩ ?_
       try simp only [Act.put, List.setIfInBounds_toArray, List.set_cons_zero, List.set_cons_succ]
       refine wpAnyH_take (i := 10) (oi := ⟨some 100, _, _, _, _, _⟩) (v := .string db) rfl (by kernel_rfl) (by kernel_rfl) (by kernel_rfl) (fun _ _ _ h => h) (Or.inl ⟨by rfl, fun w' hS => by go_simp⟩) ⟨tq2.out, HC0q2.out⟩ ?_
       try simp only [Act.put, List.setIfInBounds_toArray, List.set_cons_zero, List.set_cons_succ]
       refine wpAnyH_take (i := 11) (oi := ⟨some 101, _, _, _, _, _⟩) (v := .bool qb) rfl (by kernel_rfl) (by kernel_rfl) (by kernel_rfl) (fun _ _ _ h => h) (Or.inl ⟨by rfl, fun w' hS => by go_simp⟩) ⟨tq2.out, HC0q2.out⟩ ?_
       try simp only [Act.put, List.setIfInBounds_toArray, List.set_cons_zero, List.set_cons_succ]
       refine wpAnyH_take (i := 12) (oi := ⟨some 15, _, _, _, _, _⟩) (v := .string db) rfl (by kernel_rfl) (by kernel_rfl) (by kernel_rfl) (fun _ _ _ h => h) (Or.inl ⟨by rfl, fun w' hS => by go_simp⟩) ⟨tq2.out, HC0q2.out⟩ ?_
       try simp only [Act.put, List.setIfInBounds_toArray, List.set_cons_zero, List.set_cons_succ]
       refine wpAnyH_take (i := 13) (oi := ⟨some 16, _, _, _, _, _⟩) (v := .bool qb) rfl (by kernel_rfl) (by kernel_rfl) (by kernel_rfl) (fun _ _ _ h => h) (Or.inl ⟨by rfl, fun w' hS => by go_simp⟩) ⟨tq2.out, HC0q2.out⟩ ?_
       try simp only [Act.put, List.setIfInBounds_toArray, List.set_cons_zero, List.set_cons_succ]
       refine wpAnyH_done (by kernel_rfl) ?_ _
       have hab : (da.toList == db.toList) = false := by rw [ba_beq]; exact decide_eq_false HAB.out
       go_wp2
       go_roundw
       case rel => exact ⟨m + 1, by have := HMK.out; omega, by go_num, HBIq2⟩
       case measure => have := HMK.out; simp [intOf]; omega
      ·
       have i6 : ¬ (m : Int) < (k : Int) := by omega
       go_wp2
       go_roundw
       case rel => exact ⟨k + 1, by have := HLT_.out; omega, by go_num, HBRr⟩
       case measure => have := HLT_.out; simp [intOf]; omega
   ·
    have hpb : (d.par != 0) = true := by simp [hpz]
    have HMP := Lib.hid (show d.par ∈ idxs L from by rcases parA_mem HVT.out.wf.par HMEM.out with h0 | h0 | h0; exact absurd h0 hpz; cases h0; exact h0)
    have HHO := Lib.hid (show (cutT (rpT (chainO L d.par)) ++ ⟨#[45]⟩) ++ partT d = ow by rw [← HOW.out]; unfold ownP; rw [if_neg hpz])
    clear hpz
    obtain ⟨pp, hpp⟩ : ∃ z, cutT (rpT (chainO L d.par)) = z := ⟨_, rfl⟩
    have HPP := Lib.hid hpp; have HPS := Lib.hid (show pp.size ≤ 256 by rw [← hpp, cut_size]; omega); clear hpp
    obtain ⟨pd, hpdm, hpde⟩ : ∃ pd, pd ∈ L ∧ pd.idx = d.par := by obtain ⟨x, hx, he⟩ := List.mem_map.1 HMP.out; exact ⟨x, hx, he⟩
    have HFP := Lib.hid (show findD L d.par = some pd from by rw [← hpde]; exact find_self HVT.out hpdm); clear hpdm hpde
    go_wp2_with fail
    refine (BPath_any (some ⟨b, o, none⟩) cT L d.par _ _ (Nat.le_refl _) HSLw6.out HVT.out (H7.out.below HBw6.out) HDO.out.2.1 (HU.out.below HBw6.out)).mono ?_
    rintro e w11 ⟨hbw11, A5, c5, rfl, hs_⟩
    clear ct0 cd0 cd1 cd2 cd3 cd4 cd5 cd6 cd7 cd8 cd9
    have HSw11 := Lib.hid (show w6.heap.size ≤ w11.heap.size from hbw11.size)
    have HBw11 := Lib.hid (HBw6.out.trans (hbw11.mono HBw6.out.size))
    have tw11 := Lib.hid (tw6.out.kept (grown_none hbw11) (fun e => by cases e))
    have dw11 := Lib.hid (dw6.out.kept (grown_none hbw11) (fun e => by cases e))
    have HBRw11 := Lib.hid (below_onto HBRw6.out hbw11)
    have HSLw11 := Lib.hid ((HSLw6.out).next (Nat.le_refl _) hbw11)
    clear hbw11
    obtain ⟨ll, hll⟩ : ∃ z, pathL L d.par = z := ⟨_, rfl⟩
    rw [hll] at hs_ ⊢
    have hl1 := hs_.1; have hl2 := hs_.2.1
    unfold maxLen at hl2
    have HLL := Lib.hid hll; have HS5 := Lib.hid hs_; clear hs_ hll
    have ct0 := tw11.out.1 0 _ rfl
    have cd0 := dw11.out.1 0 _ rfl
    have cd1 := dw11.out.1 1 _ rfl
    have cd2 := dw11.out.1 2 _ rfl
    have cd3 := dw11.out.1 3 _ rfl
    have cd4 := dw11.out.1 4 _ rfl
    have cd5 := dw11.out.1 5 _ rfl
    have cd6 := dw11.out.1 6 _ rfl
    have cd7 := dw11.out.1 7 _ rfl
    have cd8 := dw11.out.1 8 _ rfl
    have cd9 := dw11.out.1 9 _ rfl
    go_wp2_with fail
    refine (Get_any A5 c5 ll ⟨#[73, 68, 95, 80, 65, 84, 72]⟩ _ w11.heap.size (Nat.le_refl _) HS5.out).mono ?_
    rintro e w12 ⟨rfl, hbw12⟩
    clear ct0 cd0 cd1 cd2 cd3 cd4 cd5 cd6 cd7 cd8 cd9
    have HSw12 := Lib.hid (show w11.heap.size ≤ w12.heap.size from hbw12.size)
    have HBw12 := Lib.hid (HBw11.out.trans (hbw12.mono HBw11.out.size))
    have tw12 := Lib.hid (tw11.out.kept (grown_none hbw12) (fun e => by cases e))
    have dw12 := Lib.hid (dw11.out.kept (grown_none hbw12) (fun e => by cases e))
    have HBRw12 := Lib.hid (below_onto HBRw11.out hbw12)
    have HSLw12 := Lib.hid ((HSLw11.out).next (Nat.le_refl _) hbw12)
    have HS5w12 := Lib.hid ((HS5.out).next (Nat.le_refl _) hbw12)
    clear hbw12
    obtain ⟨qb, hqb⟩ : ∃ z, (getA ll ⟨#[73, 68, 95, 80, 65, 84, 72]⟩).isSome = z := ⟨_, rfl⟩
    rw [hqb, show (getA ll ⟨#[73, 68, 95, 80, 65, 84, 72]⟩).getD ByteArray.empty = pp from by rw [← HLL.out]; exact (idpath_at HFP.out).trans HPP.out]
    clear hqb HLL HS5
    clear hl1 hl2
    have ct0 := tw12.out.1 0 _ rfl
    have cd0 := dw12.out.1 0 _ rfl
    have cd1 := dw12.out.1 1 _ rfl
    have cd2 := dw12.out.1 2 _ rfl
    have cd3 := dw12.out.1 3 _ rfl
    have cd4 := dw12.out.1 4 _ rfl
    have cd5 := dw12.out.1 5 _ rfl
    have cd6 := dw12.out.1 6 _ rfl
    have cd7 := dw12.out.1 7 _ rfl
    have cd8 := dw12.out.1 8 _ rfl
    have cd9 := dw12.out.1 9 _ rfl
    have f3 : ¬ 9223372036854775807 < pp.size + 1 := by have := HPS.out; omega
    have f4 : ¬ 9223372036854775807 < pp.size + 1 + (d.sub.size + 1 + d.orig.size) := by have := HPS.out; have := HPZ.out; omega
    have hou : (pp ++ ⟨#[45]⟩) ++ ((d.sub ++ ⟨#[58]⟩) ++ d.orig) = ow := by rw [← HHO.out, HPP.out]; rfl
    go_upto_region 12 with fail
    try rw [hou]
    clear hou f1 f2 f3 f4
    by_cases h256 : ow.size ≤ 256
    ·
     have i5 : (ow.size : Int) ≤ 256 := by omega
     have he : (s.toList != ow.toList) = false := by rw [HOP.out.1 h256]; simp
     have he2 : (s.toList == ow.toList) = true := by rw [HOP.out.1 h256]; simp
     clear h256
     go_wp2_with fail
     refine (Tryz.strings_HasPrefix ow s _).mono ?_
     rintro e w9 ⟨rfl, hw_⟩
     rw [hw_, HOP.out.2.1]; clear hw_ w9
     go_wp2_with fail
     go_loopw [12] (fun i wr => ∃ m : Nat, m ≤ k ∧ i = .int .i64 (m : Int) ∧ Hid (Below w12.heap.size w12 wr)) (fun i _ => k - (intOf i).toNat)
     case atStart => exact ⟨0, Nat.zero_le _, rfl, Below.refl _ _⟩
     case round =>
      clear ct0 cd0 cd1 cd2 cd3 cd4 cd5 cd6 cd7 cd8 cd9
      obtain ⟨m, hm, rfl, HBI⟩ := hrel
      have HBwr := Lib.hid (HBw12.out.trans (HBI.out.mono HBw12.out.size)); have HBRr := Lib.hid (below_onto HBRw12.out HBI.out); have HSLr := Lib.hid (HSLw12.out.next (Nat.le_refl _) HBI.out)
      have twr := Lib.hid (tw12.out.kept (grown_none HBI.out) (fun e => by cases e))
      have dwr := Lib.hid (dw12.out.kept (grown_none HBI.out) (fun e => by cases e))
      have ct0 := twr.out.1 0 _ rfl
      have cd0 := dwr.out.1 0 _ rfl
      by_cases hmk : m < k
      ·
       have i6 : (m : Int) < (k : Int) := by omega
       obtain ⟨da, hda⟩ : ∃ z, strF L d.idx = z := ⟨_, rfl⟩
       have HDA := Lib.hid hda; clear hda
       have HMK := Lib.hid hmk; clear hmk
       go_wp2_with fail
       refine (Base_any (some ⟨b, o, none⟩) cT L d.idx _ _ (Nat.le_refl _) HSLr.out HVT.out (H7.out.below HBwr.out) (HOK.out.next HBwr.out) HDO.out.1).mono ?_
       rintro e w13 ⟨hbw13, A5, c5, rfl, hs_⟩
       clear ct0 cd0
       have HSw13 := Lib.hid (show wr.heap.size ≤ w13.heap.size from hbw13.size)
       have HBw13 := Lib.hid (HBwr.out.trans (hbw13.mono HBwr.out.size))
       have tw13 := Lib.hid (twr.out.kept (grown_none hbw13) (fun e => by cases e))
       have dw13 := Lib.hid (dwr.out.kept (grown_none hbw13) (fun e => by cases e))
       have HBIw13 := Lib.hid (below_onto HBI.out hbw13)
       have HBRw13 := Lib.hid (below_onto HBRr.out hbw13)
       have HSLw13 := Lib.hid ((HSLr.out).next (Nat.le_refl _) hbw13)
       clear hbw13
       obtain ⟨ll, hll⟩ : ∃ z, baseL L d.idx = z := ⟨_, rfl⟩
       rw [hll] at hs_ ⊢
       have hl1 := hs_.1; have hl2 := hs_.2.1
       unfold maxLen at hl2
       have HLL := Lib.hid hll; have HS5 := Lib.hid hs_; clear hs_ hll
       have ct0 := tw13.out.1 0 _ rfl
       have cd0 := dw13.out.1 0 _ rfl
       go_wp2_with fail
       refine (Get_any A5 c5 ll ⟨#[68, 69, 86, 80, 65, 84, 72]⟩ _ w13.heap.size (Nat.le_refl _) HS5.out).mono ?_
       rintro e w14 ⟨rfl, hbw14⟩
       clear ct0 cd0
       have HSw14 := Lib.hid (show w13.heap.size ≤ w14.heap.size from hbw14.size)
       have HBw14 := Lib.hid (HBw13.out.trans (hbw14.mono HBw13.out.size))
       have tw14 := Lib.hid (tw13.out.kept (grown_none hbw14) (fun e => by cases e))
       have dw14 := Lib.hid (dw13.out.kept (grown_none hbw14) (fun e => by cases e))
       have HBIw14 := Lib.hid (below_onto HBIw13.out hbw14)
       have HBRw14 := Lib.hid (below_onto HBRw13.out hbw14)
       have HSLw14 := Lib.hid ((HSLw13.out).next (Nat.le_refl _) hbw14)
       have HS5w14 := Lib.hid ((HS5.out).next (Nat.le_refl _) hbw14)
       clear hbw14
       obtain ⟨qb, hqb⟩ : ∃ z, (getA ll ⟨#[68, 69, 86, 80, 65, 84, 72]⟩).isSome = z := ⟨_, rfl⟩
       rw [hqb, show (getA ll ⟨#[68, 69, 86, 80, 65, 84, 72]⟩).getD ByteArray.empty = da from by rw [← HLL.out]; exact (devpath_at HVT.out HMEM.out).trans HDA.out]
       clear hqb HLL HS5
       clear hl1 hl2
       have ct0 := tw14.out.1 0 _ rfl
       have cd0 := dw14.out.1 0 _ rfl
       have hml : m < L.length := by have := HMK.out; have := HLT_.out; omega
       have i7 : (m : Int) < (L.length : Int) := by omega
       obtain ⟨b', o', e', -, A7, c7, hdok, -, hcs⟩ := HSLw14.out.dev hml
       obtain ⟨rfl, rfl⟩ : b = b' ∧ o = o' := by injection e' with e'; injection e' with h1 h2; exact ⟨h1, h2⟩
       clear e'
       have hmem2 := List.getElem_mem hml
       have hmk2 : L[m]? = some (L[m]'hml) := List.getElem?_eq_getElem hml
       obtain ⟨y, hy⟩ : ∃ z, L[m]'hml = z := ⟨_, rfl⟩
       rw [hy] at hdok hcs hmem2 hmk2
       have hne := dev_ne HVT.out HDK.out hmk2 HMK.out
       have HC0 := Lib.hid hcs.1; have HYO := Lib.hid hdok; have HYM := Lib.hid hmem2
       obtain ⟨db, hdb⟩ : ∃ z, strF L y.idx = z := ⟨_, rfl⟩
       have HDB := Lib.hid hdb; have HAB := Lib.hid (show da ≠ db by rw [← HDA.out, ← hdb]; exact devpath_ne HVT.out HMEM.out hmem2 hne)
       clear hy hdok hcs hmem2 hmk2 hne hdb
       go_upto_region 18 with fail
       clear ct0 cd0
       refine wp_region_held_drew (S := fun w' => BoxL w' (w2.heap.size) [.slice (some ⟨b, o, none⟩) L.length cT] ∧ w'.cell? ⟨b, o + m * 10, none⟩ = some (.int .i64 y.idx)) (by kernel_rfl) ⟨tw14.out.drew, cell_nx HC0.out (below_drewN_self _ _ 1)⟩ (fun hS0 => ?_)
       obtain ⟨wd, hwd⟩ : ∃ z, World.drew w14 = z := ⟨_, rfl⟩
       rw [hwd] at hS0 ⊢
       have hb_ : Below w14.heap.size w14 wd := by rw [← hwd]; exact below_drewN_self _ _ 1
       clear hwd hS0
       have HSwd := Lib.hid (show w14.heap.size ≤ wd.heap.size from hb_.size)
       have HBwd := Lib.hid (HBw14.out.trans (hb_.mono HBw14.out.size))
       have twd := Lib.hid (tw14.out.kept (grown_none hb_) (fun e => by cases e))
       have dwd := Lib.hid (dw14.out.kept (grown_none hb_) (fun e => by cases e))
       have HBIwd := Lib.hid (below_onto HBIw14.out hb_)
       have HBRwd := Lib.hid (below_onto HBRw14.out hb_)
       have HSLwd := Lib.hid ((HSLw14.out).next (Nat.le_refl _) hb_)
       have HC0wd := Lib.hid (cell_nx HC0.out hb_)
       clear hb_
       refine wpAnyH_take (i := 0) (oi := ⟨some 91, _, _, _, _, _⟩) (v := .agg #[.slice (some ⟨b, o, none⟩) L.length cT]) rfl (by kernel_rfl) (by kernel_rfl) (by kernel_rfl) (fun _ _ _ h => h) (Or.inl ⟨by rfl, fun w' hS => by (have u0_ := hS.1.1 0 _ rfl; go_simp)⟩) ⟨twd.out, HC0wd.out⟩ ?_
       try simp only [Act.put, List.setIfInBounds_toArray, List.set_cons_zero, List.set_cons_succ]
       refine wpAnyH_take (i := 1) (oi := ⟨some 92, _, _, _, _, _⟩) (v := .pointer (some ⟨w2.heap.size, 0, none⟩)) rfl (by kernel_rfl) (by kernel_rfl) (by kernel_rfl) (fun _ _ _ h => h) (Or.inl ⟨by rfl, fun w' hS => by go_simp⟩) ⟨twd.out, HC0wd.out⟩ ?_
       try simp only [Act.put, List.setIfInBounds_toArray, List.set_cons_zero, List.set_cons_succ]
       refine wpAnyH_take (i := 2) (oi := ⟨some 93, _, _, _, _, _⟩) (v := .slice (some ⟨b, o, none⟩) L.length cT) rfl (by kernel_rfl) (by kernel_rfl) (by kernel_rfl) (fun _ _ _ h => h) (Or.inl ⟨by rfl, fun w' hS => by (have u0_ := hS.1.1 0 _ rfl; go_simp)⟩) ⟨twd.out, HC0wd.out⟩ ?_
       try simp only [Act.put, List.setIfInBounds_toArray, List.set_cons_zero, List.set_cons_succ]
       refine wpAnyH_take (i := 3) (oi := ⟨some 94, _, _, _, _, _⟩) (v := .int .i64 m) rfl (by kernel_rfl) (by kernel_rfl) (by kernel_rfl) (fun _ _ _ h => h) (Or.inl ⟨by rfl, fun w' hS => by go_simp⟩) ⟨twd.out, HC0wd.out⟩ ?_
       try simp only [Act.put, List.setIfInBounds_toArray, List.set_cons_zero, List.set_cons_succ]
       refine wpAnyH_take (i := 4) (oi := ⟨some 95, _, _, _, _, _⟩) (v := .pointer (some ⟨b, o + m * 10, none⟩)) rfl (by kernel_rfl) (by kernel_rfl) (by kernel_rfl) (fun _ _ _ h => h) (Or.inl ⟨by rfl, fun w' hS => by go_simp⟩) ⟨twd.out, HC0wd.out⟩ ?_
       try simp only [Act.put, List.setIfInBounds_toArray, List.set_cons_zero, List.set_cons_succ]
       refine wpAnyH_take (i := 5) (oi := ⟨some 96, _, _, _, _, _⟩) (v := .pointer (some ⟨b, o + m * 10, none⟩)) rfl (by kernel_rfl) (by kernel_rfl) (by kernel_rfl) (fun _ _ _ h => h) (Or.inl ⟨by rfl, fun w' hS => by go_simp⟩) ⟨twd.out, HC0wd.out⟩ ?_
       try simp only [Act.put, List.setIfInBounds_toArray, List.set_cons_zero, List.set_cons_succ]
       refine wpAnyH_take (i := 6) (oi := ⟨some 97, _, _, _, _, _⟩) (v := .int .i64 y.idx) rfl (by kernel_rfl) (by kernel_rfl) (by kernel_rfl) (fun _ _ _ h => h) (Or.inl ⟨by rfl, fun w' hS => by (have u0_ := hS.2; go_simp)⟩) ⟨twd.out, HC0wd.out⟩ ?_
       try simp only [Act.put, List.setIfInBounds_toArray, List.set_cons_zero, List.set_cons_succ]
       refine wpAnyH_ready (rs := [7]) (by kernel_rfl) (by simp) ?_
       refine AllReadyH.cons (o := ⟨some 98, .call ⟨_, _, _⟩, _, _, _, _⟩) rfl (fun K hK => ?_) AllReadyH.nil
       go_simp
       go_at_call 14
       refine (Base_any (some ⟨b, o, none⟩) cT L y.idx _ _ (Nat.le_refl _) HSLwd.out HVT.out (H7.out.below HBwd.out) (HOK.out.next HBwd.out) HYO.out.1).mono ?_
       rintro e' q1 ⟨hb_, A5, c5, rfl, hs_⟩
       obtain ⟨ll, hll⟩ : ∃ z, baseL L y.idx = z := ⟨_, rfl⟩
       rw [hll] at hs_ ⊢
       have HLL := Lib.hid hll
       have HSq1 := Lib.hid (show wd.heap.size ≤ q1.heap.size from hb_.size)
       have HBq1 := Lib.hid (HBwd.out.trans (hb_.mono HBwd.out.size))
       have tq1 := Lib.hid (twd.out.kept (grown_none hb_) (fun e => by cases e))
       have dq1 := Lib.hid (dwd.out.kept (grown_none hb_) (fun e => by cases e))
       have HBIq1 := Lib.hid (below_onto HBIwd.out hb_)
       have HBRq1 := Lib.hid (below_onto HBRwd.out hb_)
       have HSLq1 := Lib.hid ((HSLwd.out).next (Nat.le_refl _) hb_)
       have HC0q1 := Lib.hid (cell_nx HC0wd.out hb_)
       have HS5 := Lib.hid hs_; clear hs_ hb_ hll
       refine hK.out _ _ ⟨tq1.out, HC0q1.out⟩ (fun _ => ?_)
       clear hK K
       try simp only [Act.put, List.setIfInBounds_toArray, List.set_cons_zero, List.set_cons_succ]
       refine wpAnyH_ready (rs := [8]) (by kernel_rfl) (by simp) ?_
       refine AllReadyH.cons (o := ⟨some 99, .call ⟨_, _, _⟩, _, _, _, _⟩) rfl (fun K hK => ?_) AllReadyH.nil
       go_simp
       go_at_call 11
       refine (Get_any A5 c5 ll ⟨#[68, 69, 86, 80, 65, 84, 72]⟩ _ q1.heap.size (Nat.le_refl _) HS5.out).mono ?_
       rintro e' q2 ⟨rfl, hb_⟩
       have HSq2 := Lib.hid (show q1.heap.size ≤ q2.heap.size from hb_.size)
       have HBq2 := Lib.hid (HBq1.out.trans (hb_.mono HBq1.out.size))
       have tq2 := Lib.hid (tq1.out.kept (grown_none hb_) (fun e => by cases e))
       have dq2 := Lib.hid (dq1.out.kept (grown_none hb_) (fun e => by cases e))
       have HBIq2 := Lib.hid (below_onto HBIq1.out hb_)
       have HBRq2 := Lib.hid (below_onto HBRq1.out hb_)
       have HSLq2 := Lib.hid ((HSLq1.out).next (Nat.le_refl _) hb_)
       have HC0q2 := Lib.hid (cell_nx HC0q1.out hb_)
       have HS5q2 := Lib.hid ((HS5.out).next (Nat.le_refl _) hb_)
       obtain ⟨qb, hqb⟩ : ∃ z, (getA ll ⟨#[68, 69, 86, 80, 65, 84, 72]⟩).isSome = z := ⟨_, rfl⟩
       rw [hqb, show (getA ll ⟨#[68, 69, 86, 80, 65, 84, 72]⟩).getD ByteArray.empty = db from by rw [← HLL.out]; exact (devpath_at HVT.out HYM.out).trans HDB.out]
       clear hqb
       clear hb_
       refine hK.out _ _ ⟨tq2.out, HC0q2.out⟩ (fun _ => ?_)
       clear hK K
       try simp only [Act.put, List.setIfInBounds_toArray, List.set_cons_zero, List.set_cons_succ]
       refine wpAnyH_take (i := 9) (oi := ⟨some 90, _, _, _, _, _⟩) (v := .tuple #[.string db, .bool qb]) rfl (by kernel_rfl) (by kernel_rfl) (by kernel_rfl) (fun _ _ _ h => h) (Or.inl ⟨by rfl, fun w' hS => by go_simp⟩) ⟨tq2.out, HC0q2.out⟩ ?_
       try simp only [Act.put, List.setIfInBounds_toArray, List.set_cons_zero, List.set_cons_succ]
       refine wpAnyH_take (i := 10) (oi := ⟨some 100, _, _, _, _, _⟩) (v := .string db) rfl (by kernel_rfl) (by kernel_rfl) (by kernel_rfl) (fun _ _ _ h => h) (Or.inl ⟨by rfl, fun w' hS => by go_simp⟩) ⟨tq2.out, HC0q2.out⟩ ?_
       try simp only [Act.put, List.setIfInBounds_toArray, List.set_cons_zero, List.set_cons_succ]
       refine wpAnyH_take (i := 11) (oi := ⟨some 101, _, _, _, _, _⟩) (v := .bool qb) rfl (by kernel_rfl) (by kernel_rfl) (by kernel_rfl) (fun _ _ _ h => h) (Or.inl ⟨by rfl, fun w' hS => by go_simp⟩) ⟨tq2.out, HC0q2.out⟩ ?_
       try simp only [Act.put, List.setIfInBounds_toArray, List.set_cons_zero, List.set_cons_succ]
       refine wpAnyH_take (i := 12) (oi := ⟨some 15, _, _, _, _, _⟩) (v := .string db) rfl (by kernel_rfl) (by kernel_rfl) (by kernel_rfl) (fun _ _ _ h => h) (Or.inl ⟨by rfl, fun w' hS => by go_simp⟩) ⟨tq2.out, HC0q2.out⟩ ?_
       try simp only [Act.put, List.setIfInBounds_toArray, List.set_cons_zero, List.set_cons_succ]
       refine wpAnyH_take (i := 13) (oi := ⟨some 16, _, _, _, _, _⟩) (v := .bool qb) rfl (by kernel_rfl) (by kernel_rfl) (by kernel_rfl) (fun _ _ _ h => h) (Or.inl ⟨by rfl, fun w' hS => by go_simp⟩) ⟨tq2.out, HC0q2.out⟩ ?_
       try simp only [Act.put, List.setIfInBounds_toArray, List.set_cons_zero, List.set_cons_succ]
       refine wpAnyH_done (by kernel_rfl) ?_ _
       have hab : (da.toList == db.toList) = false := by rw [ba_beq]; exact decide_eq_false HAB.out
       go_wp2
       go_roundw
       case rel => exact ⟨m + 1, by have := HMK.out; omega, by go_num, HBIq2⟩
       case measure => have := HMK.out; simp [intOf]; omega
      ·
       have i6 : ¬ (m : Int) < (k : Int) := by omega
       go_wp2
       go_roundw
       case rel => exact ⟨k + 1, by have := HLT_.out; omega, by go_num, HBRr⟩
       case measure => have := HLT_.out; simp [intOf]; omega
    ·
     have i5 : ¬ (ow.size : Int) ≤ 256 := by omega
     clear h256
     go_wp2_with fail
     refine (Tryz.strings_HasPrefix ow s _).mono ?_
     rintro e w9 ⟨rfl, hw_⟩
     rw [hw_, HOP.out.2.1]; clear hw_ w9
     go_wp2_with fail
     go_loopw [12] (fun i wr => ∃ m : Nat, m ≤ k ∧ i = .int .i64 (m : Int) ∧ Hid (Below w12.heap.size w12 wr)) (fun i _ => k - (intOf i).toNat)
     case atStart => exact ⟨0, Nat.zero_le _, rfl, Below.refl _ _⟩
     case round =>
      clear ct0 cd0 cd1 cd2 cd3 cd4 cd5 cd6 cd7 cd8 cd9
      obtain ⟨m, hm, rfl, HBI⟩ := hrel
      have HBwr := Lib.hid (HBw12.out.trans (HBI.out.mono HBw12.out.size)); have HBRr := Lib.hid (below_onto HBRw12.out HBI.out); have HSLr := Lib.hid (HSLw12.out.next (Nat.le_refl _) HBI.out)
      have twr := Lib.hid (tw12.out.kept (grown_none HBI.out) (fun e => by cases e))
      have dwr := Lib.hid (dw12.out.kept (grown_none HBI.out) (fun e => by cases e))
      have ct0 := twr.out.1 0 _ rfl
      have cd0 := dwr.out.1 0 _ rfl
      by_cases hmk : m < k
      ·
       have i6 : (m : Int) < (k : Int) := by omega
       obtain ⟨da, hda⟩ : ∃ z, strF L d.idx = z := ⟨_, rfl⟩
       have HDA := Lib.hid hda; clear hda
       have HMK := Lib.hid hmk; clear hmk
       go_wp2_with fail
       refine (Base_any (some ⟨b, o, none⟩) cT L d.idx _ _ (Nat.le_refl _) HSLr.out HVT.out (H7.out.below HBwr.out) (HOK.out.next HBwr.out) HDO.out.1).mono ?_
       rintro e w15 ⟨hbw15, A5, c5, rfl, hs_⟩
       clear ct0 cd0
       have HSw15 := Lib.hid (show wr.heap.size ≤ w15.heap.size from hbw15.size)
       have HBw15 := Lib.hid (HBwr.out.trans (hbw15.mono HBwr.out.size))
       have tw15 := Lib.hid (twr.out.kept (grown_none hbw15) (fun e => by cases e))
       have dw15 := Lib.hid (dwr.out.kept (grown_none hbw15) (fun e => by cases e))
       have HBIw15 := Lib.hid (below_onto HBI.out hbw15)
       have HBRw15 := Lib.hid (below_onto HBRr.out hbw15)
       have HSLw15 := Lib.hid ((HSLr.out).next (Nat.le_refl _) hbw15)
       clear hbw15
       obtain ⟨ll, hll⟩ : ∃ z, baseL L d.idx = z := ⟨_, rfl⟩
       rw [hll] at hs_ ⊢
       have hl1 := hs_.1; have hl2 := hs_.2.1
       unfold maxLen at hl2
       have HLL := Lib.hid hll; have HS5 := Lib.hid hs_; clear hs_ hll
       have ct0 := tw15.out.1 0 _ rfl
       have cd0 := dw15.out.1 0 _ rfl
       go_wp2_with fail
       refine (Get_any A5 c5 ll ⟨#[68, 69, 86, 80, 65, 84, 72]⟩ _ w15.heap.size (Nat.le_refl _) HS5.out).mono ?_
       rintro e w16 ⟨rfl, hbw16⟩
       clear ct0 cd0
       have HSw16 := Lib.hid (show w15.heap.size ≤ w16.heap.size from hbw16.size)
       have HBw16 := Lib.hid (HBw15.out.trans (hbw16.mono HBw15.out.size))
       have tw16 := Lib.hid (tw15.out.kept (grown_none hbw16) (fun e => by cases e))
       have dw16 := Lib.hid (dw15.out.kept (grown_none hbw16) (fun e => by cases e))
       have HBIw16 := Lib.hid (below_onto HBIw15.out hbw16)
       have HBRw16 := Lib.hid (below_onto HBRw15.out hbw16)
       have HSLw16 := Lib.hid ((HSLw15.out).next (Nat.le_refl _) hbw16)
       have HS5w16 := Lib.hid ((HS5.out).next (Nat.le_refl _) hbw16)
       clear hbw16
       obtain ⟨qb, hqb⟩ : ∃ z, (getA ll ⟨#[68, 69, 86, 80, 65, 84, 72]⟩).isSome = z := ⟨_, rfl⟩
       rw [hqb, show (getA ll ⟨#[68, 69, 86, 80, 65, 84, 72]⟩).getD ByteArray.empty = da from by rw [← HLL.out]; exact (devpath_at HVT.out HMEM.out).trans HDA.out]
       clear hqb HLL HS5
       clear hl1 hl2
       have ct0 := tw16.out.1 0 _ rfl
       have cd0 := dw16.out.1 0 _ rfl
       have hml : m < L.length := by have := HMK.out; have := HLT_.out; omega
       have i7 : (m : Int) < (L.length : Int) := by omega
       obtain ⟨b', o', e', -, A7, c7, hdok, -, hcs⟩ := HSLw16.out.dev hml
       obtain ⟨rfl, rfl⟩ : b = b' ∧ o = o' := by injection e' with e'; injection e' with h1 h2; exact ⟨h1, h2⟩
       clear e'
       have hmem2 := List.getElem_mem hml
       have hmk2 : L[m]? = some (L[m]'hml) := List.getElem?_eq_getElem hml
       obtain ⟨y, hy⟩ : ∃ z, L[m]'hml = z := ⟨_, rfl⟩
       rw [hy] at hdok hcs hmem2 hmk2
       have hne := dev_ne HVT.out HDK.out hmk2 HMK.out
       have HC0 := Lib.hid hcs.1; have HYO := Lib.hid hdok; have HYM := Lib.hid hmem2
       obtain ⟨db, hdb⟩ : ∃ z, strF L y.idx = z := ⟨_, rfl⟩
       have HDB := Lib.hid hdb; have HAB := Lib.hid (show da ≠ db by rw [← HDA.out, ← hdb]; exact devpath_ne HVT.out HMEM.out hmem2 hne)
       clear hy hdok hcs hmem2 hmk2 hne hdb
       go_upto_region 18 with fail
       clear ct0 cd0
       refine wp_region_held_drew (S := fun w' => BoxL w' (w2.heap.size) [.slice (some ⟨b, o, none⟩) L.length cT] ∧ w'.cell? ⟨b, o + m * 10, none⟩ = some (.int .i64 y.idx)) (by kernel_rfl) ⟨tw16.out.drew, cell_nx HC0.out (below_drewN_self _ _ 1)⟩ (fun hS0 => ?_)
       obtain ⟨wd, hwd⟩ : ∃ z, World.drew w16 = z := ⟨_, rfl⟩
       rw [hwd] at hS0 ⊢
       have hb_ : Below w16.heap.size w16 wd := by rw [← hwd]; exact below_drewN_self _ _ 1
       clear hwd hS0
       have HSwd := Lib.hid (show w16.heap.size ≤ wd.heap.size from hb_.size)
       have HBwd := Lib.hid (HBw16.out.trans (hb_.mono HBw16.out.size))
       have twd := Lib.hid (tw16.out.kept (grown_none hb_) (fun e => by cases e))
       have dwd := Lib.hid (dw16.out.kept (grown_none hb_) (fun e => by cases e))
       have HBIwd := Lib.hid (below_onto HBIw16.out hb_)
       have HBRwd := Lib.hid (below_onto HBRw16.out hb_)
       have HSLwd := Lib.hid ((HSLw16.out).next (Nat.le_refl _) hb_)
       have HC0wd := Lib.hid (cell_nx HC0.out hb_)
       clear hb_
       refine wpAnyH_take (i := 0) (oi := ⟨some 91, _, _, _, _, _⟩) (v := .agg #[.slice (some ⟨b, o, none⟩) L.length cT]) rfl (by kernel_rfl) (by kernel_rfl) (by kernel_rfl) (fun _ _ _ h => h) (Or.inl ⟨by rfl, fun w' hS => by (have u0_ := hS.1.1 0 _ rfl; go_simp)⟩) ⟨twd.out, HC0wd.out⟩ ?_
       try simp only [Act.put, List.setIfInBounds_toArray, List.set_cons_zero, List.set_cons_succ]
       refine wpAnyH_take (i := 1) (oi := ⟨some 92, _, _, _, _, _⟩) (v := .pointer (some ⟨w2.heap.size, 0, none⟩)) rfl (by kernel_rfl) (by kernel_rfl) (by kernel_rfl) (fun _ _ _ h => h) (Or.inl ⟨by rfl, fun w' hS => by go_simp⟩) ⟨twd.out, HC0wd.out⟩ ?_
       try simp only [Act.put, List.setIfInBounds_toArray, List.set_cons_zero, List.set_cons_succ]
       refine wpAnyH_take (i := 2) (oi := ⟨some 93, _, _, _, _, _⟩) (v := .slice (some ⟨b, o, none⟩) L.length cT) rfl (by kernel_rfl) (by kernel_rfl) (by kernel_rfl) (fun _ _ _ h => h) (Or.inl ⟨by rfl, fun w' hS => by (have u0_ := hS.1.1 0 _ rfl; go_simp)⟩) ⟨twd.out, HC0wd.out⟩ ?_
       try simp only [Act.put, List.setIfInBounds_toArray, List.set_cons_zero, List.set_cons_succ]
       refine wpAnyH_take (i := 3) (oi := ⟨some 94, _, _, _, _, _⟩) (v := .int .i64 m) rfl (by kernel_rfl) (by kernel_rfl) (by kernel_rfl) (fun _ _ _ h => h) (Or.inl ⟨by rfl, fun w' hS => by go_simp⟩) ⟨twd.out, HC0wd.out⟩ ?_
       try simp only [Act.put, List.setIfInBounds_toArray, List.set_cons_zero, List.set_cons_succ]
       refine wpAnyH_take (i := 4) (oi := ⟨some 95, _, _, _, _, _⟩) (v := .pointer (some ⟨b, o + m * 10, none⟩)) rfl (by kernel_rfl) (by kernel_rfl) (by kernel_rfl) (fun _ _ _ h => h) (Or.inl ⟨by rfl, fun w' hS => by go_simp⟩) ⟨twd.out, HC0wd.out⟩ ?_
       try simp only [Act.put, List.setIfInBounds_toArray, List.set_cons_zero, List.set_cons_succ]
       refine wpAnyH_take (i := 5) (oi := ⟨some 96, _, _, _, _, _⟩) (v := .pointer (some ⟨b, o + m * 10, none⟩)) rfl (by kernel_rfl) (by kernel_rfl) (by kernel_rfl) (fun _ _ _ h => h) (Or.inl ⟨by rfl, fun w' hS => by go_simp⟩) ⟨twd.out, HC0wd.out⟩ ?_
       try simp only [Act.put, List.setIfInBounds_toArray, List.set_cons_zero, List.set_cons_succ]
       refine wpAnyH_take (i := 6) (oi := ⟨some 97, _, _, _, _, _⟩) (v := .int .i64 y.idx) rfl (by kernel_rfl) (by kernel_rfl) (by kernel_rfl) (fun _ _ _ h => h) (Or.inl ⟨by rfl, fun w' hS => by (have u0_ := hS.2; go_simp)⟩) ⟨twd.out, HC0wd.out⟩ ?_
       try simp only [Act.put, List.setIfInBounds_toArray, List.set_cons_zero, List.set_cons_succ]
       refine wpAnyH_ready (rs := [7]) (by kernel_rfl) (by simp) ?_
       refine AllReadyH.cons (o := ⟨some 98, .call ⟨_, _, _⟩, _, _, _, _⟩) rfl (fun K hK => ?_) AllReadyH.nil
       go_simp
       go_at_call 14
       refine (Base_any (some ⟨b, o, none⟩) cT L y.idx _ _ (Nat.le_refl _) HSLwd.out HVT.out (H7.out.below HBwd.out) (HOK.out.next HBwd.out) HYO.out.1).mono ?_
       rintro e' q1 ⟨hb_, A5, c5, rfl, hs_⟩
       obtain ⟨ll, hll⟩ : ∃ z, baseL L y.idx = z := ⟨_, rfl⟩
       rw [hll] at hs_ ⊢
       have HLL := Lib.hid hll
       have HSq1 := Lib.hid (show wd.heap.size ≤ q1.heap.size from hb_.size)
       have HBq1 := Lib.hid (HBwd.out.trans (hb_.mono HBwd.out.size))
       have tq1 := Lib.hid (twd.out.kept (grown_none hb_) (fun e => by cases e))
       have dq1 := Lib.hid (dwd.out.kept (grown_none hb_) (fun e => by cases e))
       have HBIq1 := Lib.hid (below_onto HBIwd.out hb_)
       have HBRq1 := Lib.hid (below_onto HBRwd.out hb_)
       have HSLq1 := Lib.hid ((HSLwd.out).next (Nat.le_refl _) hb_)
       have HC0q1 := Lib.hid (cell_nx HC0wd.out hb_)
       have HS5 := Lib.hid hs_; clear hs_ hb_ hll
       refine hK.out _ _ ⟨tq1.out, HC0q1.out⟩ (fun _ => ?_)
       clear hK K
       try simp only [Act.put, List.setIfInBounds_toArray, List.set_cons_zero, List.set_cons_succ]
       refine wpAnyH_ready (rs := [8]) (by kernel_rfl) (by simp) ?_
       refine AllReadyH.cons (o := ⟨some 99, .call ⟨_, _, _⟩, _, _, _, _⟩) rfl (fun K hK => ?_) AllReadyH.nil
       go_simp
       go_at_call 11
       refine (Get_any A5 c5 ll ⟨#[68, 69, 86, 80, 65, 84, 72]⟩ _ q1.heap.size (Nat.le_refl _) HS5.out).mono ?_
       rintro e' q2 ⟨rfl, hb_⟩
       have HSq2 := Lib.hid (show q1.heap.size ≤ q2.heap.size from hb_.size)
       have HBq2 := Lib.hid (HBq1.out.trans (hb_.mono HBq1.out.size))
       have tq2 := Lib.hid (tq1.out.kept (grown_none hb_) (fun e => by cases e))
       have dq2 := Lib.hid (dq1.out.kept (grown_none hb_) (fun e => by cases e))
       have HBIq2 := Lib.hid (below_onto HBIq1.out hb_)
       have HBRq2 := Lib.hid (below_onto HBRq1.out hb_)
       have HSLq2 := Lib.hid ((HSLq1.out).next (Nat.le_refl _) hb_)
       have HC0q2 := Lib.hid (cell_nx HC0q1.out hb_)
       have HS5q2 := Lib.hid ((HS5.out).next (Nat.le_refl _) hb_)
       obtain ⟨qb, hqb⟩ : ∃ z, (getA ll ⟨#[68, 69, 86, 80, 65, 84, 72]⟩).isSome = z := ⟨_, rfl⟩
       rw [hqb, show (getA ll ⟨#[68, 69, 86, 80, 65, 84, 72]⟩).getD ByteArray.empty = db from by rw [← HLL.out]; exact (devpath_at HVT.out HYM.out).trans HDB.out]
       clear hqb
       clear hb_
       refine hK.out _ _ ⟨tq2.out, HC0q2.out⟩ (fun _ => ?_)
       clear hK K
       try simp only [Act.put, List.setIfInBounds_toArray, List.set_cons_zero, List.set_cons_succ]
       refine wpAnyH_take (i := 9) (oi := ⟨some 90, _, _, _, _, _⟩) (v := .tuple #[.string db, .bool qb]) rfl (by kernel_rfl) (by kernel_rfl) (by kernel_rfl) (fun _ _ _ h => h) (Or.inl ⟨by rfl, fun w' hS => by go_simp⟩) ⟨tq2.out, HC0q2.out⟩ ?_
       try simp only [Act.put, List.setIfInBounds_toArray, List.set_cons_zero, List.set_cons_succ]
       refine wpAnyH_take (i := 10) (oi := ⟨some 100, _, _, _, _, _⟩) (v := .string db) rfl (by kernel_rfl) (by kernel_rfl) (by kernel_rfl) (fun _ _ _ h => h) (Or.inl ⟨by rfl, fun w' hS => by go_simp⟩) ⟨tq2.out, HC0q2.out⟩ ?_
       try simp only [Act.put, List.setIfInBounds_toArray, List.set_cons_zero, List.set_cons_succ]
       refine wpAnyH_take (i := 11) (oi := ⟨some 101, _, _, _, _, _⟩) (v := .bool qb) rfl (by kernel_rfl) (by kernel_rfl) (by kernel_rfl) (fun _ _ _ h => h) (Or.inl ⟨by rfl, fun w' hS => by go_simp⟩) ⟨tq2.out, HC0q2.out⟩ ?_
       try simp only [Act.put, List.setIfInBounds_toArray, List.set_cons_zero, List.set_cons_succ]
       refine wpAnyH_take (i := 12) (oi := ⟨some 15, _, _, _, _, _⟩) (v := .string db) rfl (by kernel_rfl) (by kernel_rfl) (by kernel_rfl) (fun _ _ _ h => h) (Or.inl ⟨by rfl, fun w' hS => by go_simp⟩) ⟨tq2.out, HC0q2.out⟩ ?_
       try simp only [Act.put, List.setIfInBounds_toArray, List.set_cons_zero, List.set_cons_succ]
       refine wpAnyH_take (i := 13) (oi := ⟨some 16, _, _, _, _, _⟩) (v := .bool qb) rfl (by kernel_rfl) (by kernel_rfl) (by kernel_rfl) (fun _ _ _ h => h) (Or.inl ⟨by rfl, fun w' hS => by go_simp⟩) ⟨tq2.out, HC0q2.out⟩ ?_
       try simp only [Act.put, List.setIfInBounds_toArray, List.set_cons_zero, List.set_cons_succ]
       refine wpAnyH_done (by kernel_rfl) ?_ _
       have hab : (da.toList == db.toList) = false := by rw [ba_beq]; exact decide_eq_false HAB.out
       go_wp2
       go_roundw
       case rel => exact ⟨m + 1, by have := HMK.out; omega, by go_num, HBIq2⟩
       case measure => have := HMK.out; simp [intOf]; omega
      ·
       have i6 : ¬ (m : Int) < (k : Int) := by omega
       go_wp2
       go_roundw
       case rel => exact ⟨k + 1, by have := HLT_.out; omega, by go_num, HBRr⟩
       case measure => have := HLT_.out; simp [intOf]; omega
  ·
   have i1 : ¬ (k : Int) < (L.length : Int) := by omega
   go_wp2_with fail
   refine (known_any _ (HOK.out.next HBwo.out) (H7.out.below HBwo.out) (Ok8.below HK8.out HBwo.out) (HU.out.below HBwo.out)).mono ?_
   rintro e w17 ⟨rfl, hbw17⟩
   clear ct0
   have HSw17 := Lib.hid (show wo.heap.size ≤ w17.heap.size from hbw17.size)
   have HBw17 := Lib.hid (HBwo.out.trans (hbw17.mono HBwo.out.size))
   have tw17 := Lib.hid (two.out.kept (grown_none hbw17) (fun e => by cases e))
   have HBRw17 := Lib.hid (below_onto HBR.out hbw17)
   have HSLw17 := Lib.hid ((HSLo.out).next (Nat.le_refl _) hbw17)
   clear hbw17
   go_wp2
   go_ret
   exact ⟨by try rfl, HBw17.out⟩
end Go.Proofs.YtjgllhlilbchpaaGreatDoor
namespace Go.Proofs.YtjgllhlilbchpaaGreatDoor
open Go.RowKit Go.Cold
namespace cBuiltinParents
open Go.ChangeShapes Go.WideShapes Go.ChangeAt
open Go.ChangeMaps (open_string)
set_option maxRecDepth 100000
theorem reads (os : Os) {H : Type} (enc : TypeId × Value → H) : ∃ places, DataW.whole enc Tryz.prog ((World.laidAll Tryz.prog os Rows.builtinParentsRow.laid).forCall (fun _ _ => 0) ⟨#[], #[.slice none 0 0], []⟩).memory Tryz.f3.params.toList Rows.builtinParentsSpec.vars false (#[.slice none 0 0] : Array Value).toList 8 = some ([.nil], [], places) :=
 ⟨[], by kernel_rfl⟩
theorem lifted (os : Os) (started : os.Started) (H : Type) (enc : TypeId × Value → H) (F : Stop.Interp) :
  ReturnsInHanded {} Tryz.checked os 3 .any ((OpenSpec.ofChange Rows.builtinParentsSpec).preRow enc Tryz.prog Tryz.f3 Rows.builtinParentsRow.domain false Rows.builtinParentsRow.laid) (((OpenSpec.ofChange Rows.builtinParentsSpec).at F).post enc Tryz.prog Tryz.f3 false true false false) := by
 obtain ⟨places, hx⟩ := reads os enc
 refine law_lifted os started H enc F (by kernel_rfl) Tryz.func3 #[.slice none 0 0] (World.shaped_of_ZipB (by kernel_rfl) (by kernel_rfl)) (by kernel_rfl)
  (OpenSpec.preRow_of_cond 8 hx (by kernel_rfl) (fun k hk => by cases hk) (by kernel_rfl) (laidMet_laidAll _ (by kernel_rfl) (by kernel_rfl))) rfl rfl
  (fun ds hl => by
   rw [Tryz.params3] at hl
   match ds, hl with
   | [d0], _ => rfl) (by kernel_rfl) ?_
 intro W base args ds ps hval hA hlt hz hsh hlaid
 rw [Tryz.params3] at hA hval
 obtain ⟨v0, vs0, d0, ds0, p0, q0, hargs, rfl, rfl, h0, r0⟩ := trodAll_cons hA
 obtain ⟨rfl, rfl, rfl⟩ := trodAll_nil r0
 obtain rfl : args = #[v0] := by cases args; simp_all
 obtain ⟨A0, c0, xs0, rfl, s0⟩ := open_nums Tryz.underlying22 Tryz.underlying3 (by kernel_rfl) (hval 0 22 v0 rfl rfl) h0 (fun x hx => hlt x (List.mem_append_left _ hx))
 exact lawParents11_any A0 c0 xs0 W (show Ok W from Tryz.laysM146.s1_3 W hsh) (okb7 hlaid).1 (okb7 hlaid).2 s0
theorem said : Rows.BuiltinParentsSaid :=
 OpenClaim.holds_of_cond 3 Tryz.f3 rfl rfl rfl rfl rfl rfl rfl ⟨rfl, rfl, rfl, rfl, rfl⟩ rfl rfl rfl rfl rfl (by kernel_rfl) Tryz.func3 (by kernel_rfl)
  (of_decide_eq_true (by kernel_rfl)) (by unfold Func.isWrapper; first | (rw [if_pos (by decide +kernel)]; kernel_rfl) | (rw [if_neg (by decide +kernel)]; exact ⟨rfl, rfl⟩))
  (fun os started H enc _ F => by rw [OpenClaim.pre_eq_preRow]; exact lifted os started H enc F)
theorem plain (f : FuncId) (fn : Func) (hf : Tryz.pinned.checked.prog.funcNamed Rows.builtinParentsRow.func = some f) (hfn : Tryz.pinned.checked.prog.funcs[f]? = some fn) :
  true = Tryz.pinned.checked.prog.looks [] ∧ ∀ (j : Nat) t, fn.params[j]? = some t → Tryz.pinned.checked.prog.wantsStandIn t = false := by
 obtain rfl : f = 3 := Option.some.inj ((show Tryz.prog.funcNamed Rows.builtinParentsRow.func = some 3 by kernel_rfl).symm.trans hf) |>.symm
 obtain rfl : fn = Tryz.f3 := (Option.some.inj (Tryz.func3.symm.trans hfn)).symm
 refine ⟨by kernel_rfl, fun j t ht => ?_⟩
 rw [Tryz.params3] at ht
 have hm : t ∈ [22] := by simpa using Array.mem_of_getElem? ht
 have hall : ([22].all fun u => !Tryz.prog.wantsStandIn u) = true := by kernel_rfl
 exact (show Tryz.prog.wantsStandIn t = false by simpa using List.all_eq_true.1 hall t hm)
/-- The card. -/
theorem card : Rows.BuiltinParentsCardSaid :=
 Claim7.holds_tied_plain_at .later [] _ _ _ _ said (fun _ h => by cases h) (by kernel_rfl) (fun _ h => by cases h) builtinParents_row_tie rfl ⟨rfl, rfl⟩ (by kernel_rfl) rfl plain (by kernel_rfl)
end cBuiltinParents
end Go.Proofs.YtjgllhlilbchpaaGreatDoor
