/-
  The walks of builtin.Path and of its function literal.
-/
import Derived.Test.YtjgllhlilbchpaaGreatDoorHUC
import Derived.Test.YtjgllhlilbchpaaGreatDoorHP
import Derived.Test.YtjgllhlilbchpaaGreatDoorHSJ
import Derived.Shelf.Strings.MapAny
import Derived.Test.YtjgllhlilbchpaaGreatDoorHC
import Derived.Test.YtjgllhlilbchpaaGreatDoorHSB
import Derived.Test.YtjgllhlilbchpaaGreatDoorHShf
import Derived.Shelf.Strings.IndexAnyAll
import Derived.Laws.RangeAny
import Derived.Laws.Runes
import Derived.Lib.MapLaws
import Derived.WalkMore
import Derived.Deep.DeepMust
import Derived.Lib.OthersKept
import Derived.Test.YtjgllhlilbchpaaGreatDoorHSC
import Derived.Deep.DeepCutAuto
import Derived.Lib.SplitLaws
import Derived.Lib.IndexBytes
import Derived.Test.YtjgllhlilbchpaaGreatDoorHA
import Derived.Test.YtjgllhlilbchpaaGreatDoorHD
import Derived.Deep.RegionHeld3
set_option linter.unusedSimpArgs false
set_option linter.unusedVariables false
namespace Go.Cold
open Go Go.RowKit Go.Proofs.YtjgllhlilbchpaaGreatDoor
theorem below_onto {a w w' : World} (h : Below a.heap.size a w) (hb : Below w.heap.size w w') : Below a.heap.size a w' := h.trans (hb.mono h.size)
theorem path_none {L : List Dev} {n : Int} (h : (findD L n).isSome = false) : pathL L n = [] := by
  unfold pathL
  cases hf : findD L n with
  | none => rfl
  | some d => rw [hf] at h; cases h
theorem path_some {L : List Dev} {n : Int} (h : (findD L n).isSome = true) : pathL L n = pathA (cutT (rpT (chainO L n))) := by
  unfold pathL
  cases hf : findD L n with
  | none => rw [hf] at h; cases h
  | some d => rfl
theorem find_is {L : List Dev} {n : Int} {d : Dev} (hq : (findD L n).isSome = true) (hd : d = (findD L n).getD zeroD) : findD L n = some d := by
  cases hf : findD L n with
  | none => rw [hf] at hq; cases hq
  | some e => rw [hf] at hd; rw [show d = e from hd]
theorem chain_head {L : List Dev} {n : Int} {d : Dev} (h : findD L n = some d) : ∃ r, chainO L n = d :: r := by
  unfold chainO
  have : 0 < L.length := List.length_pos_of_mem (find_some h).1
  obtain ⟨k, hk⟩ : ∃ k, L.length = k + 1 := ⟨L.length - 1, by omega⟩
  rw [hk, chainL, h]
  exact ⟨_, rfl⟩
theorem chain_rp {L : List Dev} {n : Int} {d : Dev} (h : findD L n = some d) : rpT (chainO L n) = preT ((chainO L n).drop 1) ++ partT d := by
  obtain ⟨r, hr⟩ := chain_head h
  rw [hr]; rfl
theorem part_size {d : Dev} : (partT d).size = d.sub.size + 1 + d.orig.size := by
  unfold partT
  rw [ByteArray.size_append, ByteArray.size_append]; rfl
/-- Two attributes laid as a literal. -/
theorem own_lit {w w' : World} {T : TypeId} {l : List Attr} {cs : Array Value} (h : w.alloc (.cells cs T) = w') (hc : cs.toList = rowA l) (hn : l.length ≤ maxLen) (hs : ∀ a ∈ l, a.name.size ≤ maxLen ∧ a.value.size ≤ maxLen) : OwnsS (fun _ => False) w' w.heap.size T (.slice (some ⟨w.heap.size, 0, none⟩) l.length l.length) l := by
  have hz : cs.size = l.length * 2 := by rw [← Array.length_toList, hc, rowA_len]
  have h1 := World.ownsRow_lit (base := w.heap.size) (e := T) (size := 2) w cs l.length (Nat.le_refl _) hn hz
  rw [h] at h1
  exact own_attrs (by rw [← hc]; exact h1) hs
theorem pathA_small {s : ByteArray} (h : s.size ≤ 256) : ∀ a ∈ pathA s, a.name.size ≤ maxLen ∧ a.value.size ≤ maxLen := by
  intro a ha
  unfold pathA at ha
  simp only [List.mem_cons, List.not_mem_nil, or_false] at ha
  have ht : (tagT s).size = s.size := by
    unfold tagT
    show (List.map _ _).toArray.size = _
    rw [List.size_toArray, List.length_map, ba_size]
  rcases ha with rfl | rfl
  · exact ⟨by show kIdPath.size ≤ maxLen; decide, by show s.size ≤ maxLen; unfold maxLen; omega⟩
  · exact ⟨by show kIdTag.size ≤ maxLen; decide, by show (tagT s).size ≤ maxLen; rw [ht]; unfold maxLen; omega⟩
theorem pre_pos {r : List Dev} {j : Nat} {y : Dev} (h : r[j]? = some y) (x : ByteArray) : preT (r.drop j) ++ x = preT (r.drop (j + 1)) ++ ((partT y ++ ⟨#[45]⟩) ++ x) := by
  obtain ⟨h1, h2⟩ := List.getElem?_eq_some_iff.1 h
  rw [pre_step h1, h2]
end Go.Cold
namespace Go.Proofs.YtjgllhlilbchpaaGreatDoor
open Go.RowKit Go.Cold
/-- What Path makes of a rune. -/
theorem tag1_any (r : Int) (w : World) : Calls Tryz.prog 43 #[.int .i32 r] w fun e w' => e = .returned (.int .i32 (tagR r)) ∧ w' = w := by
  obtain ⟨z, hz⟩ : ∃ z, tagR r = z := ⟨_, rfl⟩
  rw [hz]
  have HZ := Lib.hid hz; clear hz
  go_enter Tryz.func43, Tryz.ntmps43
  by_cases a0 : (65 : Int) ≤ r
  ·
    by_cases b0 : r ≤ 90
    ·
      obtain rfl : z = r := by rw [← HZ.out]; unfold tagR; exact if_pos (by omega)
      clear HZ
      go_wp2
      go_ret
      exact ⟨by try rfl, by try rfl⟩
    ·
      by_cases a1 : (97 : Int) ≤ r
      ·
        by_cases b1 : r ≤ 122
        ·
          obtain rfl : z = r := by rw [← HZ.out]; unfold tagR; exact if_pos (by omega)
          clear HZ
          go_wp2
          go_ret
          exact ⟨by try rfl, by try rfl⟩
        ·
          by_cases a2 : (48 : Int) ≤ r
          ·
            by_cases b2 : r ≤ 57
            ·
              obtain rfl : z = r := by rw [← HZ.out]; unfold tagR; exact if_pos (by omega)
              clear HZ
              go_wp2
              go_ret
              exact ⟨by try rfl, by try rfl⟩
            ·
              obtain rfl : z = 95 := by rw [← HZ.out]; unfold tagR; exact if_neg (by omega)
              clear HZ
              go_wp2
              go_ret
              exact ⟨by try rfl, by try rfl⟩
          ·
            obtain rfl : z = 95 := by rw [← HZ.out]; unfold tagR; exact if_neg (by omega)
            clear HZ
            go_wp2
            go_ret
            exact ⟨by try rfl, by try rfl⟩
      ·
        by_cases a2 : (48 : Int) ≤ r
        ·
          by_cases b2 : r ≤ 57
          ·
            obtain rfl : z = r := by rw [← HZ.out]; unfold tagR; exact if_pos (by omega)
            clear HZ
            go_wp2
            go_ret
            exact ⟨by try rfl, by try rfl⟩
          ·
            obtain rfl : z = 95 := by rw [← HZ.out]; unfold tagR; exact if_neg (by omega)
            clear HZ
            go_wp2
            go_ret
            exact ⟨by try rfl, by try rfl⟩
        ·
          obtain rfl : z = 95 := by rw [← HZ.out]; unfold tagR; exact if_neg (by omega)
          clear HZ
          go_wp2
          go_ret
          exact ⟨by try rfl, by try rfl⟩
  ·
    by_cases a1 : (97 : Int) ≤ r
    ·
      by_cases b1 : r ≤ 122
      ·
        obtain rfl : z = r := by rw [← HZ.out]; unfold tagR; exact if_pos (by omega)
        clear HZ
        go_wp2
        go_ret
        exact ⟨by try rfl, by try rfl⟩
      ·
        by_cases a2 : (48 : Int) ≤ r
        ·
          by_cases b2 : r ≤ 57
          ·
            obtain rfl : z = r := by rw [← HZ.out]; unfold tagR; exact if_pos (by omega)
            clear HZ
            go_wp2
            go_ret
            exact ⟨by try rfl, by try rfl⟩
          ·
            obtain rfl : z = 95 := by rw [← HZ.out]; unfold tagR; exact if_neg (by omega)
            clear HZ
            go_wp2
            go_ret
            exact ⟨by try rfl, by try rfl⟩
        ·
          obtain rfl : z = 95 := by rw [← HZ.out]; unfold tagR; exact if_neg (by omega)
          clear HZ
          go_wp2
          go_ret
          exact ⟨by try rfl, by try rfl⟩
    ·
      by_cases a2 : (48 : Int) ≤ r
      ·
        by_cases b2 : r ≤ 57
        ·
          obtain rfl : z = r := by rw [← HZ.out]; unfold tagR; exact if_pos (by omega)
          clear HZ
          go_wp2
          go_ret
          exact ⟨by try rfl, by try rfl⟩
        ·
          obtain rfl : z = 95 := by rw [← HZ.out]; unfold tagR; exact if_neg (by omega)
          clear HZ
          go_wp2
          go_ret
          exact ⟨by try rfl, by try rfl⟩
      ·
        obtain rfl : z = 95 := by rw [← HZ.out]; unfold tagR; exact if_neg (by omega)
        clear HZ
        go_wp2
        go_ret
        exact ⟨by try rfl, by try rfl⟩
theorem tag1_runes (w : World) : MapAtRunes Tryz.prog 43 #[] tagR w := fun W x _ _ => (tag1_any (x : Int) W).mono (by rintro e w' ⟨rfl, rfl⟩; exact ⟨rfl, 0, rfl⟩)
/-- The tables of unicode/utf8, as they are laid. -/
def OkU (w : World) : Prop := Lib.Utf8Tabs 1 2 w
theorem OkU.below {w w' : World} (h : OkU w) (hb : Below w.heap.size w w') : OkU w' :=
  ⟨fun c hc => (hb.cell (p := ⟨1, c, none⟩) (block_lt_of_cell (h.1 c hc))).trans (h.1 c hc),
   fun i hi => ⟨(hb.cell (p := ⟨2, 2 * i, none⟩) (block_lt_of_cell (h.2 i hi).1)).trans (h.2 i hi).1, (hb.cell (p := ⟨2, 2 * i + 1, none⟩) (block_lt_of_cell (h.2 i hi).2)).trans (h.2 i hi).2⟩⟩
set_option maxRecDepth 100000 in
set_option maxHeartbeats 4000000 in
/-- builtin.Path. -/
theorem BPath_any (A : Option Addr) (c : Nat) (L : List Dev) (n : Int) (w : World) (B : Nat) (hB : B ≤ w.heap.size) (hx : Sl w B A c L) (hv : VT L) (hok : Ok7 w) (hn : okI n) (hu : OkU w) :
    Calls Tryz.prog 12 #[.agg #[.slice A L.length c], .int .i64 n] w (SlPost (pathL L n) w) := by
  have hx1 := hx.1; have hx2 := hx.2.1
  unfold maxLen at hx2
  have HX := Lib.hid hx; have HB := Lib.hid hB; have HV := Lib.hid hv; have HOK := Lib.hid hok; clear hx hB hv hok
  have HN := Lib.hid hn; have HU := Lib.hid hu; clear hn hu
  have HLA := Lib.hid (show ∀ d ∈ L, d.attrs.length ≤ 1000000 from fun d hd => attrs_le (HV.out.chk d hd))
  go_enter Tryz.func12, Tryz.ntmps12
  go_upto_region 1 with fail
  obtain ⟨w1, hw1⟩ : ∃ w1, w.alloc (.cells #[.slice A L.length c] 28) = w1 := ⟨_, rfl⟩
  have hbw1 : Below w.heap.size w w1 := by rw [← hw1]; exact (Below.refl _ _).alloc (Nat.le_refl _) _
  have HGw1 := Lib.hid (show w1.heap.size = w.heap.size + 1 by rw [← hw1]; simp)
  have HXtw1 := Lib.hid (show BoxL w1 w.heap.size [.slice A L.length c] from box_mk hw1)
  try simp only [hw1]
  have HBw1 := Lib.hid hbw1
  clear hw1 hbw1
  try rw [show w.heap.size + 1 = w1.heap.size from HGw1.out.symm]
  have ct0 := HXtw1.out.1 0 _ rfl
  obtain ⟨q, hq⟩ : ∃ z, (findD L n).isSome = z := ⟨_, rfl⟩
  have HQ := Lib.hid hq; clear hq
  go_wp2_with fail
  refine (TFind_any A c L n _ B (Nat.le_trans HB.out HBw1.out.size) (HX.out.keep (HBw1.out.mono HB.out)) HLA.out).mono ?_
  rintro e w2 ⟨hbw2, d, A3, c3, hd, rfl, hod, hsd⟩
  clear ct0
  have HBw2 := Lib.hid (HBw1.out.trans (hbw2.mono HBw1.out.size))
  have tw2 := Lib.hid (HXtw1.out.kept (grown_none hbw2) (fun e => by cases e))
  clear hbw2
  have ct0 := tw2.out.1 0 _ rfl
  rw [show (L.find? (byIdx n)).isSome = q from HQ.out]
  have Hd := Lib.hid (show d = (findD L n).getD zeroD from hd); have HOd := Lib.hid hod
  clear hd hod hsd
  go_upto_region 2 with fail
  obtain ⟨w3, hw3⟩ : ∃ w3, w2.alloc (.cells #[.int .i64 d.idx, .int .i64 d.par, .string d.nm, .string d.orig, .string d.sub, .string d.drv, .string d.ali, .int .i64 d.kind, .int .i64 d.num, .slice A3 d.attrs.length c3] 32) = w3 := ⟨_, rfl⟩
  have hbw3 : Below w2.heap.size w2 w3 := by rw [← hw3]; exact (Below.refl _ _).alloc (Nat.le_refl _) _
  have HGw3 := Lib.hid (show w3.heap.size = w2.heap.size + 1 by rw [← hw3]; simp)
  have HXaw3 := Lib.hid (show BoxL w3 w2.heap.size [.int .i64 d.idx, .int .i64 d.par, .string d.nm, .string d.orig, .string d.sub, .string d.drv, .string d.ali, .int .i64 d.kind, .int .i64 d.num, .slice A3 d.attrs.length c3] from box_mk hw3)
  try simp only [hw3]
  have HBw3 := Lib.hid (HBw2.out.trans (hbw3.mono HBw2.out.size))
  have tw3 := Lib.hid (tw2.out.kept (grown_none hbw3) (fun e => by cases e))
  clear hw3 hbw3
  try rw [show w2.heap.size + 1 = w3.heap.size from HGw3.out.symm]
  clear ct0
  have ct0 := tw3.out.1 0 _ rfl
  have ca0 := HXaw3.out.1 0 _ rfl
  have ca1 := HXaw3.out.1 1 _ rfl
  have ca2 := HXaw3.out.1 2 _ rfl
  have ca3 := HXaw3.out.1 3 _ rfl
  have ca4 := HXaw3.out.1 4 _ rfl
  have ca5 := HXaw3.out.1 5 _ rfl
  have ca6 := HXaw3.out.1 6 _ rfl
  have ca7 := HXaw3.out.1 7 _ rfl
  have ca8 := HXaw3.out.1 8 _ rfl
  have ca9 := HXaw3.out.1 9 _ rfl
  cases q
  ·
    have HE := Lib.hid (path_none HQ.out)
    go_wp2
    go_ret
    exact ⟨HBw3.out, none, 0, by rw [HE.out]; rfl, by rw [HE.out]; exact Sl.nil_⟩
  ·
    have HF := Lib.hid (find_is HQ.out Hd.out)
    have HE := Lib.hid (path_some HQ.out)
    have HRP := Lib.hid (chain_rp HF.out)
    have HGD := Lib.hid (rp_print (chain_chk HV.out n) (chain_full HV.out HF.out))
    have HCL := Lib.hid (show (chainO L n).length ≤ 256 from Nat.le_trans (chain_len L _ n) HV.out.size)
    have HPC := Lib.hid (show ∀ y ∈ (chainO L n).drop 1, (partT y).size ≤ 65 from fun y hy => (part_print (chain_chk HV.out n y (List.mem_of_mem_drop hy))).2.2)
    have HPD := Lib.hid (show (partT d).size ≤ 65 from (part_print (HV.out.chk d (find_some HF.out).1)).2.2)
    go_wp2_with fail
    refine (part_any d A3 c3 _ (by have := HPD.out; rw [part_size] at this; omega) (by have := HPD.out; rw [part_size] at this; omega)).mono ?_
    rintro e w4 ⟨rfl, hbw4⟩
    clear ct0 ca0 ca1 ca2 ca3 ca4 ca5 ca6 ca7 ca8 ca9
    have HBw4 := Lib.hid (HBw3.out.trans (hbw4.mono HBw3.out.size))
    have tw4 := Lib.hid (tw3.out.kept (grown_none hbw4) (fun e => by cases e))
    have aw4 := Lib.hid (HXaw3.out.kept (grown_none hbw4) (fun e => by cases e))
    clear hbw4
    have ct0 := tw4.out.1 0 _ rfl
    have ca0 := aw4.out.1 0 _ rfl
    have ca1 := aw4.out.1 1 _ rfl
    have ca2 := aw4.out.1 2 _ rfl
    have ca3 := aw4.out.1 3 _ rfl
    have ca4 := aw4.out.1 4 _ rfl
    have ca5 := aw4.out.1 5 _ rfl
    have ca6 := aw4.out.1 6 _ rfl
    have ca7 := aw4.out.1 7 _ rfl
    have ca8 := aw4.out.1 8 _ rfl
    have ca9 := aw4.out.1 9 _ rfl
    obtain ⟨s0, hs0⟩ : ∃ z, partT d = z := ⟨_, rfl⟩
    rw [hs0]
    have HRP2 := Lib.hid (show rpT (chainO L n) = preT ((chainO L n).drop 1) ++ s0 by rw [← hs0]; exact HRP.out); clear hs0 HRP
    obtain ⟨ch, hch⟩ : ∃ z, (chainO L n).drop 1 = z := ⟨_, rfl⟩
    obtain ⟨full, hfull⟩ : ∃ z, rpT (chainO L n) = z := ⟨_, rfl⟩
    have HRP3 := Lib.hid (show full = preT ch ++ s0 by rw [← hfull, ← hch]; exact HRP2.out)
    have HPC2 := Lib.hid (show ∀ y ∈ ch, (partT y).size ≤ 65 by rw [← hch]; exact HPC.out)
    have HE2 := Lib.hid (show pathL L n = pathA (cutT full) by rw [← hfull]; exact HE.out)
    have HGD2 := Lib.hid (show printB full = true ∧ full.toList.isEmpty = false ∧ full.size ≤ 256 * 66 by have := HGD.out; rw [hfull] at this; exact ⟨this.1, this.2.1, Nat.le_trans this.2.2 (Nat.mul_le_mul_right _ HCL.out)⟩)
    have HCH := Lib.hid hch
    clear hch hfull HRP2 HPC HE HGD HPD HF Hd HOd
    go_wp2_with fail
    refine (Ancestors_any A c L n _ B (Nat.le_trans HB.out HBw4.out.size) (HX.out.keep (HBw4.out.mono HB.out)) HV.out HN.out).mono ?_
    rintro e w20 ⟨hb_, v, rfl, hown_⟩
    rw [HCH.out] at hown_
    obtain ⟨A5, c5, rfl, hs_⟩ := hown_.sl
    have hs1 := hs_.1; have hs2 := hs_.2.1
    unfold maxLen at hs2
    clear ct0 ca0 ca1 ca2 ca3 ca4 ca5 ca6 ca7 ca8 ca9
    have HBw20 := Lib.hid (HBw4.out.trans (hb_.mono HBw4.out.size))
    have tw20 := Lib.hid (tw4.out.kept (grown_none hb_) (fun e => by cases e))
    have aw20 := Lib.hid (aw4.out.kept (grown_none hb_) (fun e => by cases e))
    have HSL := Lib.hid hs_; clear hs_ hown_ hb_
    go_wp2_with fail
    have HI0 := Lib.hid (show full = preT (ch.drop 0) ++ s0 by rw [List.drop_zero]; exact HRP3.out)
    go_loopw [7, 25] (fun v i wr => ∃ (s : ByteArray) (k : Nat), k ≤ ch.length ∧ v = .string s ∧ i = .int .i64 (k : Int) ∧ Hid (Below w20.heap.size w20 wr) ∧ Hid (full = preT (ch.drop k) ++ s)) (fun _ i _ => ch.length - (intOf i).toNat)
    case atStart => exact ⟨_, 0, Nat.zero_le _, rfl, rfl, Below.refl _ _, HI0⟩
    case round =>
      clear HI0
      obtain ⟨s, k, hk, rfl, rfl, HBR, HA⟩ := hrel
      have HBwr := Lib.hid (HBw20.out.trans (HBR.out.mono HBw20.out.size))
      have HSS := Lib.hid (show s.size ≤ 16896 by have h := HGD2.out.2.2; rw [HA.out, ByteArray.size_append] at h; omega)
      by_cases hlt : k < ch.length
      ·
        have i1 : (k : Int) < (ch.length : Int) := by omega
        obtain ⟨b, o, rfl, -, A6, c6, -, -, hcs⟩ := (HSL.out.next (Nat.le_refl _) HBR.out).dev hlt
        have hky : ch[k]? = some ch[k] := List.getElem?_eq_getElem hlt
        have hpy := HPC2.out _ (List.getElem_mem hlt)
        obtain ⟨y, hy⟩ : ∃ y, ch[k]'hlt = y := ⟨_, rfl⟩
        rw [hy] at hcs hky hpy
        obtain ⟨a0, a1, a2, a3, a4, a5, a6, a7, a8, a9⟩ := hcs
        have HLT := Lib.hid hlt; have HKY := Lib.hid hky; have HPY := Lib.hid hpy; clear hy hky hpy
        go_upto_region 8 with fail
        obtain ⟨w5, hw5⟩ : ∃ w5, wr.alloc (.cells #[.int .i64 y.idx, .int .i64 y.par, .string y.nm, .string y.orig, .string y.sub, .string y.drv, .string y.ali, .int .i64 y.kind, .int .i64 y.num, .slice A6 y.attrs.length c6] 32) = w5 := ⟨_, rfl⟩
        have hbw5 : Below wr.heap.size wr w5 := by rw [← hw5]; exact (Below.refl _ _).alloc (Nat.le_refl _) _
        have HGw5 := Lib.hid (show w5.heap.size = wr.heap.size + 1 by rw [← hw5]; simp)
        have HXvw5 := Lib.hid (show BoxL w5 wr.heap.size [.int .i64 y.idx, .int .i64 y.par, .string y.nm, .string y.orig, .string y.sub, .string y.drv, .string y.ali, .int .i64 y.kind, .int .i64 y.num, .slice A6 y.attrs.length c6] from box_mk hw5)
        try simp only [hw5]
        have HBw5 := Lib.hid (HBwr.out.trans (hbw5.mono HBwr.out.size))
        have HBRw5 := Lib.hid (below_onto HBR.out hbw5)
        clear hw5 hbw5
        try rw [show wr.heap.size + 1 = w5.heap.size from HGw5.out.symm]
        clear a0 a1 a2 a3 a4 a5 a6 a7 a8 a9
        have cv0 := HXvw5.out.1 0 _ rfl
        have cv1 := HXvw5.out.1 1 _ rfl
        have cv2 := HXvw5.out.1 2 _ rfl
        have cv3 := HXvw5.out.1 3 _ rfl
        have cv4 := HXvw5.out.1 4 _ rfl
        have cv5 := HXvw5.out.1 5 _ rfl
        have cv6 := HXvw5.out.1 6 _ rfl
        have cv7 := HXvw5.out.1 7 _ rfl
        have cv8 := HXvw5.out.1 8 _ rfl
        have cv9 := HXvw5.out.1 9 _ rfl
        go_wp2_with fail
        refine (part_any y A6 c6 _ (by have := HPY.out; rw [part_size] at this; omega) (by have := HPY.out; rw [part_size] at this; omega)).mono ?_
        rintro e w6 ⟨rfl, hbw6⟩
        clear cv0 cv1 cv2 cv3 cv4 cv5 cv6 cv7 cv8 cv9
        have HBw6 := Lib.hid (HBw5.out.trans (hbw6.mono HBw5.out.size))
        have vw6 := Lib.hid (HXvw5.out.kept (grown_none hbw6) (fun e => by cases e))
        have HBRw6 := Lib.hid (below_onto HBRw5.out hbw6)
        clear hbw6
        have HSTEP := Lib.hid (pre_pos HKY.out s)
        obtain ⟨p, hp⟩ : ∃ z, partT y = z := ⟨_, rfl⟩
        have HPZ := Lib.hid hp
        rw [hp]
        have f0 : p.size ≤ 65 := by rw [← hp]; exact HPY.out
        have f9 := HSS.out
        have f1 : ¬ 9223372036854775807 < p.size + 1 := by omega
        have f2 : ¬ 9223372036854775807 < p.size + 1 + s.size := by omega
        have HNX := Lib.hid (show full = preT (ch.drop (k + 1)) ++ ((p ++ ⟨#[45]⟩) ++ s) by rw [HA.out, HSTEP.out, HPZ.out])
        clear hp f0 f9
        go_wp2
        go_roundw
        case rel => exact ⟨_, k + 1, by have := HLT.out; omega, rfl, by go_num, HBRw6, HNX⟩
        case measure => have := HLT.out; simp [intOf]; omega
      ·
        have i1 : ¬ (k : Int) < (ch.length : Int) := by omega
        have hfs : full = s := by rw [HA.out, show k = ch.length by omega, List.drop_length, preT, app_empty]
        have HFS := Lib.hid hfs; clear hfs
        have hmin : min (s.size : Int) 256 = ((min s.size 256 : Nat) : Int) := by omega
        go_upto_region 11 with fail
        obtain ⟨t, ht⟩ : ∃ z, s.extract 0 (min s.size 256) = z := ⟨_, rfl⟩
        try rw [ht]
        have HT := Lib.hid (show cutT full = t by rw [HFS.out]; exact ht)
        have HTX := Lib.hid (show textB t = true by rw [← HT.out]; exact (cut_text HGD2.out.1 HGD2.out.2.1).1)
        have HTS := Lib.hid (show t.size ≤ 256 by rw [← HT.out, cut_size]; omega)
        clear ht hmin
        go_wp2_with fail
        refine (Tryz.strings_Map_runes 43 #[] (enters_of Tryz.func43 (by kernel_rfl) rfl) tagR t _ (by have := HTS.out; omega) (tag1_runes _) tagR_range (HU.out.below HBwr.out)).mono ?_
        rintro e w7 ⟨rfl, hbw7⟩
        have HBw7 := Lib.hid (HBwr.out.trans (hbw7.mono HBwr.out.size))
        have HBRw7 := Lib.hid (below_onto HBR.out hbw7)
        clear hbw7
        rw [map_tag HTX.out]
        obtain ⟨wz, hwz⟩ : ∃ z, w7.alloc (.cells #[.string kIdPath, .string t, .string kIdTag, .string (tagT t)] 42) = z := ⟨_, rfl⟩
        have HOWN := Lib.hid (own_lit (l := pathA t) hwz rfl (by show 2 ≤ maxLen; decide) (pathA_small HTS.out))
        have HBZ := Lib.hid (show Below w7.heap.size w7 wz by rw [← hwz]; exact (Below.refl _ _).alloc (Nat.le_refl _) _)
        have HE3 := Lib.hid (show pathL L n = pathA t by rw [HE2.out, HT.out])
        go_wp2
        simp only [show (⟨#[73, 68, 95, 80, 65, 84, 72]⟩ : ByteArray) = kIdPath from rfl, show (⟨#[73, 68, 95, 80, 65, 84, 72, 95, 84, 65, 71]⟩ : ByteArray) = kIdTag from rfl, hwz]
        go_ret
        rw [HE3.out]
        exact SlPost.of_own (HBw7.out.trans (HBZ.out.mono HBw7.out.size)) rfl (HOWN.out.low HBw7.out.size)
end Go.Proofs.YtjgllhlilbchpaaGreatDoor
namespace Go.Cold
open Go Go.RowKit Go.Proofs.YtjgllhlilbchpaaGreatDoor
end Go.Cold
namespace Go.Proofs.YtjgllhlilbchpaaGreatDoor
open Go.RowKit Go.Cold
end Go.Proofs.YtjgllhlilbchpaaGreatDoor
namespace Go.Proofs.YtjgllhlilbchpaaGreatDoor
open Go.RowKit Go.Lib Go.Shelf

theorem quiet_sameX {P : Program} {f : FuncId} {args : Array Value} {w : World} {n : Nat} {v : Value}
  (h : Calls P f args (w.drewN n) fun e w' => e = .returned v ∧ w' = w.drewN n) : Calls P f args (w.drewN n) fun e w'' => e = .returned v ∧ ∃ m, w'' = w.drewN m :=
 h.mono fun _ _ ⟨he, hm⟩ => ⟨he, n, hm⟩
theorem byte_none (c : UInt8) : ∀ l : List UInt8, (∀ b ∈ l, b ≠ c) → Lib.indexByte l c = -1
 | [], _ => rfl
 | b :: l, h => by
  have h2 : (b == c) = false := by simpa using h b List.mem_cons_self
  rw [Lib.indexByte, h2, byte_none c l (fun x hx => h x (List.mem_cons_of_mem _ hx))]
  rfl
theorem ascii_mem {s : ByteArray} (h : ∀ (j : Nat) b, s.data.toList[j]? = some b → b.toNat < 128) : ∀ b ∈ s.data.toList, b.toNat < 128 := fun b hb => by
 obtain ⟨j, hj, e⟩ := List.getElem_of_mem hb
 exact h j b (by rw [List.getElem?_eq_getElem hj, e])

set_option maxHeartbeats 4000000 in
set_option maxRecDepth 1000000 in
theorem IndexRune_bad (s : ByteArray) (w : World) (hascii : ∀ (j : Nat) b, s.data.toList[j]? = some b → b.toNat < 128) :
  Calls Tryz.prog 185 #[.string s, .int .i32 65533] w fun e w' => e = .returned (.int .i64 (-1)) ∧ ∃ pos, w' = w.iter s pos := by
 have HA := Lib.hid hascii
 clear hascii
 go_enter Tryz.func185, Tryz.ntmps185
 go_wp2_with fail
 go_loopg [5, 6] s.size (fun g _ _ wx => ∃ i : Nat, i + g = s.size ∧ wx = w.iter s i)
 case atStart => exact ⟨0, by omega, rfl⟩
 case round =>
  obtain ⟨i, hig, rfl⟩ := hrel
  cases gk with
  | zero =>
   obtain rfl : i = s.size := by omega
   have hnx := fun ty => run_next_end (P := Tryz.prog) w s s.size ty (by omega)
   go_wp2
   go_ret
   exact ⟨rfl, _, rfl⟩
  | succ g =>
   have hi : i < s.size := by omega
   obtain ⟨x, hx⟩ : ∃ x : UInt8, s[i]'hi = x := ⟨_, rfl⟩
   have hxl : s.data.toList[i]? = some x := by rw [← hx]; exact Lib.data_getElem? s i hi
   have hx128 : x.toNat < 128 := HA.out i x hxl
   have hnx := fun ty => run_next_ascii (P := Tryz.prog) w s i ty hi (by rw [hx]; exact hx128)
   rw [hx] at hnx
   have hne : ((x.toNat : Int) == 65533) = false := beq_eq_false_iff_ne.2 (by omega)
   clear hxl hx hx128
   go_wp2_with fail
   go_roundg g
   case measure => omega
   case rel => exact ⟨i + 1, by omega, rfl⟩

set_option maxHeartbeats 4000000 in
set_option maxRecDepth 1000000 in
theorem IndexRune_wide (s : ByteArray) (r : Int) (w : World) (hs : s.size ≤ 1000) (hascii : ∀ (j : Nat) b, s.data.toList[j]? = some b → b.toNat < 128) (hr : 128 ≤ r) (hne : r ≠ 65533) (hv : Utf8.valid r = true) :
  Calls Tryz.prog 185 #[.string s, .int .i32 r] w fun e w' => e = .returned (.int .i64 (-1)) ∧ Below w.heap.size w w' := by
 obtain ⟨z1, z2, z3⟩ := encode_facts r hv hr
 obtain ⟨rs, hrs⟩ : ∃ rs, Utf8.encode r = rs := ⟨_, rfl⟩
 rw [hrs] at z1 z2 z3
 have hvr : Lib.validRune r = true := by
  have h := (Go.validRune_eq r).symm.trans hv
  unfold Go.validRune at h
  unfold Lib.validRune
  simpa using h
 have hne2 : (r == 65533) = false := beq_eq_false_iff_ne.2 hne
 have hr0 : (0 : Int) ≤ r := by omega
 have hr1 : ¬ r < (128 : Int) := by omega
 have u21 := Tryz.underlying21
 have u9 := Tryz.underlying9
 have HA := Lib.hid hascii
 clear hascii
 go_enter Tryz.func185, Tryz.ntmps185
 go_wp2_with fail
 refine (Tryz.utf8_ValidRune r _).mono ?_
 rintro e w1 ⟨rfl, hw1⟩
 subst hw1
 rw [hvr]
 go_wp2_with fail
 go_step3
 go_wp2_with fail
 obtain ⟨n, hn⟩ : ∃ n, rs.size = n + 1 := ⟨rs.size - 1, by omega⟩
 have hn2 : (rs.size : Int) - 1 = (n : Int) := by omega
 simp only [hn2]
 apply wp_loop_once
 by_cases hlt : s.size ≤ n
 ·
  have i1 : (s.size : Int) ≤ (n : Int) := by omega
  go_wp2_with fail
  rw [Exit.noGoto_ret]
  go_ret
  exact ⟨rfl, Below.refl _ _⟩
 ·
  have hi : n < s.size := by omega
  have hi2 : n < rs.size := by omega
  have i1 : (n : Int) < (s.size : Int) := by omega
  have i2 : (n : Int) < (rs.size : Int) := by omega
  obtain ⟨m, hm⟩ : ∃ m, n + 1 = m := ⟨_, rfl⟩
  have i3 : (m : Int) ≤ (s.size : Int) := by omega
  have hwr : IntKind.i64.wrap ((n : Int) + 1) = (m : Int) := by rw [wrap_small _ (by omega) (by omega)]; omega
  obtain ⟨x, hx⟩ : ∃ x : UInt8, s[n]'hi = x := ⟨_, rfl⟩
  obtain ⟨y, hy⟩ : ∃ y : UInt8, rs[n]'hi2 = y := ⟨_, rfl⟩
  have hxl : s.data.toList[n]? = some x := by rw [← hx]; exact Lib.data_getElem? s n hi
  have hx128 : x.toNat < 128 := HA.out n x hxl
  have hy128 : 128 ≤ y.toNat := by
   have h := z3 (by omega)
   have e : rs.size - 1 = n := by omega
   simp only [e, hy] at h
   exact h
  have hneq : ((x.toNat : Int) != (y.toNat : Int)) = true := by
   rw [bne_iff_ne]; omega
  have hnone : Lib.indexByte (s.extract m s.size).data.toList y = -1 := byte_none _ _ fun b hb e => by
   have h1 := ascii_mem HA.out b (by rw [Lib.extract_data] at hb; exact List.mem_of_mem_drop (List.mem_of_mem_take hb))
   rw [e] at h1; omega
  have hback : ((y.toNat : Int)).toNat.toUInt8 = y := by simp
  have hib : ∀ W : World, Calls Tryz.prog 63 #[.string (s.extract m s.size), .int .u8 (y.toNat : Int)] W fun e w' => e = .returned (.int .i64 (-1)) ∧ w' = W := fun W => (Tryz.strings_IndexByte (s.extract m s.size) (y.toNat : Int) W).mono fun e w' ⟨h1, h2⟩ => ⟨by rw [h1, hback, hnone], h2⟩
  clear hxl hx128 hnone hback z3 hn hn2 hv hrs
  go_wp2_with fail
  go_step3
  go_wp2_with fail
  go_quiet (fail)
  obtain ⟨w2, hw2⟩ : ∃ w2, w1.drewN nq = w2 := ⟨_, rfl⟩
  rw [hw2]
  go_wp2_with fail
  go_quiet ((go_at_call 63; go_must (exact quiet_sameX (hib _))))
  go_wp2_with fail
  rw [Exit.noGoto_ret]
  go_wp2_with fail
  all_goals rw [Exit.noGoto_ret]
  go_ret
  subst hw2
  exact ⟨rfl, rfl, rfl, rfl, Nat.le_refl _, fun _ _ => rfl⟩
end Go.Proofs.YtjgllhlilbchpaaGreatDoor
namespace Go.Cold
open Go Go.RowKit
theorem get_of_list {s : ByteArray} {j : Nat} {b : UInt8} (h : s.data.toList[j]? = some b) : s.get! j = b := by
 obtain ⟨d⟩ := s
 have hj : j < d.toList.length := (List.getElem?_eq_some_iff.1 h).1
 have h1 : d.toList[j]? = some b := h
 rw [List.getElem?_eq_getElem hj] at h1
 have h2 : d[j]'(by simpa using hj) = b := by simpa using h1
 show d[j]! = b
 rw [getElem!_pos d j (by simpa using hj), h2]
/-- What decoding at a place that is no ASCII gives. -/
theorem wide_step (s : ByteArray) (pos : Nat) (h : pos < s.size) (ha : 128 ≤ (s[pos]'h).toNat) :
  128 ≤ (Utf8.decode s pos).1 ∧ Utf8.valid ((Utf8.decode s pos).1 : Int) = true ∧ 1 ≤ (Utf8.decode s pos).2 ∧ pos + (Utf8.decode s pos).2 ≤ s.size ∧
  ∀ j, pos ≤ j → j < pos + (Utf8.decode s pos).2 → ∀ b, s.data.toList[j]? = some b → 128 ≤ b.toNat := by
 have hg : s.get! pos = s[pos]'h := by have := get_at s pos h; simpa using this
 have hb : ∀ k, (s.get! (pos + k)).toNat < 256 := fun k => (s.get! (pos + k)).toNat_lt
 have h0 := hb 0; have h1 := hb 1; have h2 := hb 2; have h3 := hb 3
 rw [Nat.add_zero] at h0
 rw [← hg] at ha
 have hval : ∀ n : Nat, (n < 55296 ∨ (57344 ≤ n ∧ n ≤ 1114111)) → Utf8.valid (n : Int) = true := fun n hn => by
  unfold Utf8.valid
  rcases hn with hn | hn
  ·
   have e1 : decide ((0 : Int) ≤ n) = true := decide_eq_true (by omega)
   have e2 : decide ((n : Int) < 55296) = true := decide_eq_true (by omega)
   rw [e1, e2]; rfl
  ·
   have e1 : decide ((57344 : Int) ≤ n) = true := decide_eq_true (by omega)
   have e2 : decide ((n : Int) ≤ 1114111) = true := decide_eq_true (by omega)
   rw [e1, e2]; simp
 rw [Lib.decode_at]
 have hj : ∀ j b, s.data.toList[j]? = some b → s.get! j = b := fun j b hb => get_of_list hb
 rcases Lib.decodeN_shape (s.size - pos) (s.get! pos).toNat (s.get! (pos + 1)).toNat (s.get! (pos + 2)).toNat (s.get! (pos + 3)).toNat with ⟨c1, e⟩ | ⟨c1, c2, c3, c4, e⟩ | ⟨c1, c2, c3, c4, c5, c6, e⟩ | ⟨c1, c2, c3, c4, c5, c6, c7, e⟩ | e
 · omega
 ·
  rw [e]
  refine ⟨c4, hval _ (by omega), by simp, by simp; omega, fun j hj1 hj2 b hb => ?_⟩
  have := hj j b hb
  simp only at hj2
  have hc : j = pos ∨ j = pos + 1 := by omega
  rcases hc with rfl | rfl <;> (rw [← this]; omega)
 ·
  rw [e]
  refine ⟨by simp only; omega, hval _ (by omega), by simp, by simp; omega, fun j hj1 hj2 b hb => ?_⟩
  have := hj j b hb
  simp only at hj2
  have hc : j = pos ∨ j = pos + 1 ∨ j = pos + 2 := by omega
  rcases hc with rfl | rfl | rfl <;> (rw [← this]; omega)
 ·
  rw [e]
  refine ⟨by simp only; omega, hval _ (by omega), by simp, by simp; omega, fun j hj1 hj2 b hb => ?_⟩
  have := hj j b hb
  simp only at hj2
  have hc : j = pos ∨ j = pos + 1 ∨ j = pos + 2 ∨ j = pos + 3 := by omega
  rcases hc with rfl | rfl | rfl | rfl <;> (rw [← this]; omega)
 ·
  rw [e]
  refine ⟨by simp, hval _ (by omega), by simp, by simp; omega, fun j hj1 hj2 b hb => ?_⟩
  have := hj j b hb
  simp only at hj2
  have hc : j = pos := by omega
  subst hc
  rw [← this]; omega
end Go.Cold
namespace Go.Proofs.YtjgllhlilbchpaaGreatDoor
open Go.RowKit Go.Lib Go.Cold

/-- What strings.IndexRune gives at the rune that stands at a place. -/
def runeAt (chars : ByteArray) (x : UInt8) : Int := if x.toNat < 128 then Lib.indexByte chars.data.toList x else -1
theorem IndexRune_dec (chars s : ByteArray) (pos : Nat) (hp : pos < s.size) (W : World) (hcs : chars.size ≤ 1000) (hac : ∀ (j : Nat) b, chars.data.toList[j]? = some b → b.toNat < 128) :
  Calls Tryz.prog 185 #[.string chars, .int .i32 ((Utf8.decode s pos).1 : Int)] W fun e w' => e = .returned (.int .i64 (runeAt chars (s[pos]'hp))) ∧ Below W.heap.size W w' := by
 unfold runeAt
 by_cases hx : (s[pos]'hp).toNat < 128
 ·
  rw [if_pos hx, decode_ascii s pos hp hx]
  refine (Tryz.strings_IndexRune_ascii chars _ W (by simp) (by simp; omega)).mono fun e w' ⟨h1, h2⟩ => ⟨?_, by rw [h2]; exact Below.refl _ _⟩
  rw [h1]; simp
 ·
  rw [if_neg hx]
  obtain ⟨h1, h2, -⟩ := wide_step s pos hp (by omega)
  by_cases hb : (Utf8.decode s pos).1 = 65533
  ·
   rw [hb]
   exact (IndexRune_bad chars W hac).mono fun e w' ⟨h1, p, h2⟩ => ⟨h1, by rw [h2]; exact (Below.refl _ _).alloc (Nat.le_refl _) _⟩
  · exact IndexRune_wide chars _ W hcs hac (by omega) (by omega) h2

theorem NoAny_wide {s : ByteArray} {chars : List UInt8} {i n : Nat} (h : Lib.NoAny s.data.toList chars i) (hc : ∀ b ∈ chars, b.toNat < 128)
  (hw : ∀ j, i ≤ j → j < i + n → ∀ b, s.data.toList[j]? = some b → 128 ≤ b.toNat) : Lib.NoAny s.data.toList chars (i + n) := fun j b hj hb => by
 by_cases hji : j < i
 · exact h j b hji hb
 ·
  have h1 := hw j (by omega) hj b hb
  cases hcc : chars.contains b with
  | false => rfl
  | true => have := hc b (List.contains_iff_mem.1 hcc); omega

theorem next_no {s chars : ByteArray} {i : Nat} (hi : i < s.size) (hm : ∀ b ∈ chars.data.toList, b.toNat < 128) (hno : Lib.NoAny s.data.toList chars.data.toList i) :
  1 ≤ (Utf8.decode s i).2 ∧ i + (Utf8.decode s i).2 ≤ s.size ∧ (¬ 0 ≤ runeAt chars (s[i]'hi) → Lib.NoAny s.data.toList chars.data.toList (i + (Utf8.decode s i).2)) := by
 by_cases hx : (s[i]'hi).toNat < 128
 ·
  rw [decode_ascii s i hi hx]
  refine ⟨Nat.le_refl _, hi, fun hr => ?_⟩
  unfold runeAt at hr
  rw [if_pos hx] at hr
  exact hno.succ (Lib.data_getElem? s i hi) (by rw [Lib.contains_iff_indexByte]; exact decide_eq_false hr)
 ·
  obtain ⟨-, -, h1, h2, h3⟩ := wide_step s i hi (by omega)
  exact ⟨h1, h2, fun _ => NoAny_wide hno hm h3⟩
theorem next_hit {s chars : ByteArray} {i : Nat} (hi : i < s.size) (hno : Lib.NoAny s.data.toList chars.data.toList i) (hr : 0 ≤ runeAt chars (s[i]'hi)) :
  Lib.indexAny s.data.toList chars.data.toList = i := by
 unfold runeAt at hr
 by_cases hx : (s[i]'hi).toNat < 128
 ·
  rw [if_pos hx] at hr
  exact Lib.indexAny_hit hno (Lib.data_getElem? s i hi) (by rw [Lib.contains_iff_indexByte]; exact decide_eq_true hr)
 · rw [if_neg hx] at hr; omega

set_option maxHeartbeats 8000000 in
set_option maxRecDepth 1000000 in
theorem IndexAny_short (s chars : ByteArray) (w : World) (h2 : 2 ≤ chars.size) (h8 : s.size ≤ 8) (hcs : chars.size ≤ 1000) (hac : ∀ (j : Nat) b, chars.data.toList[j]? = some b → b.toNat < 128) :
  Calls Tryz.prog 153 #[.string s, .string chars] w fun e w' => e = .returned (.int .i64 (Lib.indexAny s.data.toList chars.data.toList)) ∧ Below w.heap.size w w' := by
 have HA := Lib.hid hac
 have HM := Lib.hid (ascii_mem hac)
 have HD := Lib.hid fun pos hp W => IndexRune_dec chars s pos hp W hcs hac
 clear hac
 have hemp : chars.toList.isEmpty = false := by
  rw [Lib.toList_data]
  cases h : chars.data.toList with
  | nil => have := Lib.size_eq chars; rw [h, List.length_nil] at this; omega
  | cons _ _ => rfl
 have hn1 : ((chars.size : Int) == 1) = false := beq_eq_false_iff_ne.2 (by omega)
 have h8z : decide ((8 : Int) < (s.size : Int)) = false := decide_eq_false (by omega)
 have hk0 : (w.iter s 0).heap[w.heap.size]? = some (.stringIter s 0) := World.iter_heap w s 0
 have hb0 : Below w.heap.size w (w.iter s 0) := (Below.refl _ w).alloc (Nat.le_refl _) _
 have HK0 := Lib.hid hk0; have HB0 := Lib.hid hb0
 clear hk0 hb0
 have hsu := Tryz.strings_shouldUseASCIISet (s.size : Int) w
 go_enter Tryz.func153, Tryz.ntmps153
 go_wp2_with (go_at_call 186; refine hsu.mono ?_; rintro e w' ⟨rfl, hw⟩; rw [hw, h8z])
 clear hsu
 go_loopg [9, 10] s.size (fun g _ _ wx => ∃ i : Nat, i + g ≤ s.size ∧ s.size ≤ i + g ∧ wx.heap[w.heap.size]? = some (.stringIter s i) ∧ Below w.heap.size w wx ∧ Lib.NoAny s.data.toList chars.data.toList i)
 case atStart => exact ⟨0, by omega, by omega, HK0.out, HB0.out, Lib.NoAny.zero _ _⟩
 case round =>
  obtain ⟨i, hig, hig2, hk, hb, hno⟩ := hrel
  by_cases hi : i < s.size
  ·
   obtain ⟨n1, n2, n3⟩ := next_no hi HM.out hno
   have n4 := next_hit hi hno
   have hnx := fun ty => Lib.run_next_any_at (P := Tryz.prog) wr w.heap.size s i ty hk hi
   have hk1 := Lib.iterAt_heap wr w.heap.size s i (i + (Utf8.decode s i).2) hk
   have hb1 : Below w.heap.size w (wr.iterAt w.heap.size s (i + (Utf8.decode s i).2)) := Lib.below_iterAt hb (Nat.le_refl _) s _
   have hlt : w.heap.size < (wr.iterAt w.heap.size s (i + (Utf8.decode s i).2)).heap.size := (Array.getElem?_eq_some_iff.1 hk1).1
   have hc := HD.out i hi (wr.iterAt w.heap.size s (i + (Utf8.decode s i).2))
   obtain ⟨W1, hW1⟩ : ∃ W1, wr.iterAt w.heap.size s (i + (Utf8.decode s i).2) = W1 := ⟨_, rfl⟩
   obtain ⟨d, hd⟩ : ∃ d, (Utf8.decode s i).2 = d := ⟨_, rfl⟩
   obtain ⟨c, hcc⟩ : ∃ c : Int, ((Utf8.decode s i).1 : Int) = c := ⟨_, rfl⟩
   obtain ⟨z, hz⟩ : ∃ z, runeAt chars (s[i]'hi) = z := ⟨_, rfl⟩
   rw [hW1] at hk1 hb1 hlt hc hnx
   simp only [hcc] at hc hnx
   rw [hd] at n1 n2 n3 hk1
   rw [hz] at n3 n4 hc
   have HK1 := Lib.hid hk1; have HB1 := Lib.hid hb1; have HLT := Lib.hid hlt; have N3 := Lib.hid n3; have N4 := Lib.hid n4
   clear hk hb hno hk1 hb1 hlt n3 n4 hW1 hd hcc hz
   by_cases hz0 : 0 ≤ z
   ·
    go_wp2_with (go_at_call 185; refine hc.mono ?_; rintro e W2 ⟨rfl, hb2⟩)
    go_ret
    exact ⟨by rw [N4.out hz0]; rfl, HB1.out.trans (hb2.mono (Nat.le_of_lt HLT.out))⟩
   ·
    go_wp2_with (go_at_call 185; refine hc.mono ?_; rintro e W2 ⟨rfl, hb2⟩)
    go_roundg (gk - d)
    case measure => omega
    case rel => exact ⟨i + d, by omega, by omega, (hb2.block _ HLT.out).trans HK1.out, HB1.out.trans (hb2.mono (Nat.le_of_lt HLT.out)), N3.out hz0⟩
  ·
   have hnx := fun ty => Lib.run_next_end_at (P := Tryz.prog) wr w.heap.size s i ty hk hi
   have HNO := Lib.hid hno; have HB := Lib.hid hb
   clear hno hb hk
   have hie : i = s.size := by omega
   go_wp2
   go_ret
   exact ⟨by rw [Lib.indexAny_none (by rw [← Lib.size_eq, ← hie]; exact HNO.out)]; rfl, HB.out⟩

theorem IndexAny_any (s chars : ByteArray) (w : World) (h2 : 2 ≤ chars.size) (hs : s.size < 4294967281) (hcs : chars.size ≤ 1000) (hac : ∀ (j : Nat) b, chars.data.toList[j]? = some b → b.toNat < 128) :
  Calls Tryz.prog 153 #[.string s, .string chars] w fun e w' => e = .returned (.int .i64 (Lib.indexAny s.data.toList chars.data.toList)) ∧ Below w.heap.size w w' := by
 by_cases h8 : s.size ≤ 8
 · exact IndexAny_short s chars w h2 h8 hcs hac
 ·
  refine (Tryz.strings_IndexAny_long (zero_of_info (P := Tryz.prog) (t := 190) (v := .agg (Array.replicate 256 (.bool false))) (n := 256) (by kernel_rfl)).1 s chars w h2 (by omega) hs (by omega) hac).mono fun e w' ⟨h1, h2⟩ => ⟨h1, ?_⟩
  rw [h2]
  exact ((Below.refl _ _).alloc (Nat.le_refl _) _).alloc (by simp) _
end Go.Proofs.YtjgllhlilbchpaaGreatDoor
namespace Go.Proofs.YtjgllhlilbchpaaGreatDoor
open Go.RowKit Go.Cold
theorem IxOk_any (s : ByteArray) (hs : s.size ≤ 1000) : IxOk s := by
 intro ends he k hk W
 have hall : ∀ e ∈ [slashE, (⟨#[58, 44, 41]⟩ : ByteArray), ⟨#[58, 40, 44, 41]⟩, ⟨#[44, 41]⟩], (2 ≤ e.size ∧ e.size ≤ 1000) ∧ ∀ b ∈ e.data.toList, b.toNat < 128 := by decide +kernel
 obtain ⟨⟨h1, h2⟩, h3⟩ := hall ends he
 exact IndexAny_any (s.extract k s.size) ends W h1 (by rw [ByteArray.size_extract]; omega) h2 (fun j b hb => h3 b (List.mem_of_getElem? hb))
end Go.Proofs.YtjgllhlilbchpaaGreatDoor
namespace Go.Proofs.YtjgllhlilbchpaaGreatDoor
open Go.RowKit Go.Cold

end Go.Proofs.YtjgllhlilbchpaaGreatDoor
namespace Go.Proofs.YtjgllhlilbchpaaGreatDoor
open Go.RowKit Go.Cold

end Go.Proofs.YtjgllhlilbchpaaGreatDoor
namespace Go.Proofs.YtjgllhlilbchpaaGreatDoor
open Go.RowKit Go.Cold

end Go.Proofs.YtjgllhlilbchpaaGreatDoor
namespace Go.Cold
open Go Go.RowKit Go.Proofs.YtjgllhlilbchpaaGreatDoor
section
variable {p0 p1 p2 : ByteArray} {Q : List ByteArray}
end
end Go.Cold
namespace Go.Cold
open Go Go.RowKit Go.Proofs.YtjgllhlilbchpaaGreatDoor
end Go.Cold
namespace Go.Cold
open Go Go.RowKit
end Go.Cold
namespace Go.Proofs.YtjgllhlilbchpaaGreatDoor
open Go.RowKit Go.Cold

end Go.Proofs.YtjgllhlilbchpaaGreatDoor
namespace Go.Cold
open Go Go.RowKit Go.Proofs.YtjgllhlilbchpaaGreatDoor
section
variable {w0 w w' : World} {gr gc : Nat} {cs : List Value}
end
end Go.Cold
namespace Go.Proofs.YtjgllhlilbchpaaGreatDoor
open Go.RowKit Go.Cold

/-- The variable of the library that Split reads. -/
def Ok8 (w : World) : Prop := ∃ m, w.cell? ⟨0, 0, none⟩ = some (.int .i64 m)
theorem Ok8.below {w w' : World} (h : Ok8 w) (hb : Below w.heap.size w w') : Ok8 w' := by
 obtain ⟨m, hm⟩ := h
 exact ⟨m, (hb.cell (p := ⟨_, 0, none⟩) (by exact block_lt_of_cell hm)).trans hm⟩
end Go.Proofs.YtjgllhlilbchpaaGreatDoor
namespace Go.Proofs.YtjgllhlilbchpaaGreatDoor
open Go.RowKit Go.Cold

end Go.Proofs.YtjgllhlilbchpaaGreatDoor
namespace Go.Proofs.YtjgllhlilbchpaaGreatDoor
open Go.RowKit Go.Cold

end Go.Proofs.YtjgllhlilbchpaaGreatDoor
