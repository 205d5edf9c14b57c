/-
  The walks of package relate: Related, Order; of the reference: Above, Related, Order.
-/
import Derived.Test.YtomcebcaendilaaGreatDoorIRB
import Derived.Test.YtomcebcaendilaaGreatDoorIP
set_option linter.unusedSimpArgs false
set_option linter.unusedVariables false
namespace Go.Cold
open Go Go.RowKit
theorem under_str {L : List Dev} (h : VT L) {x y : Dev} (hx : x ∈ L) (hy : y ∈ L) : underP (strF L x.idx) (strF L y.idx) = underL (orgF L x.idx) (orgF L y.idx) := by
 unfold underP
 rw [strF_eq, strF_eq, pathOf_S (org_ne h.wf hx) (org_valid h _), pathOf_S (org_ne h.wf hy) (org_valid h _)]
theorem mem_of_has {L : List Dev} {n : Int} (h : (idxs L).contains n = true) : ∃ d ∈ L, d.idx = n := by
 rw [List.contains_iff_mem] at h
 unfold idxs at h
 rw [List.mem_map] at h
 exact h
theorem rel_no1 {L : List Dev} {i j : Int} (h : (idxs L).contains i = false) : relB L i j = false := by unfold relB; rw [h]; rfl
theorem rel_no2 {L : List Dev} {i j : Int} (h : (idxs L).contains j = false) : relB L i j = false := by unfold relB; rw [h]; simp
theorem rel_str {L : List Dev} (h : VT L) {i j : Int} (hi : (idxs L).contains i = true) (hj : (idxs L).contains j = true) : relB L i j = ((i == j) || underP (strF L i) (strF L j) || underP (strF L j) (strF L i) || sisB L i j) := by
 obtain ⟨x, hx, rfl⟩ := mem_of_has hi
 obtain ⟨y, hy, rfl⟩ := mem_of_has hj
 rw [rel_under h hx hy, under_str h hx hy, under_str h hy hx]
 rfl
theorem ord_snoc {L : List Dev} {l : List Int} {k : Nat} {y : Dev} (h : L[k]? = some y) : idxs ((L.take (k + 1)).filter fun d => l.contains d.idx) = if hasL l y.idx then idxs ((L.take k).filter fun d => l.contains d.idx) ++ [y.idx] else idxs ((L.take k).filter fun d => l.contains d.idx) := by
 rw [List.take_add_one, h, List.filter_append]
 unfold hasL idxs
 rw [List.map_append, show (some y).toList = [y] from rfl]
 cases hc : l.contains y.idx
 · rw [List.filter_cons_of_neg (by rw [hc]; decide)]; simp
 · rw [List.filter_cons_of_pos (by exact hc)]; simp
theorem ord_len {L : List Dev} {p : Dev → Bool} (k : Nat) : (idxs ((L.take k).filter p)).length ≤ k := by
 unfold idxs
 rw [List.length_map]
 exact Nat.le_trans (List.length_filter_le _ _) (by rw [List.length_take]; exact Nat.min_le_left _ _)
end Go.Cold
namespace Go.Proofs.YtomcebcaendilaaGreatDoor
open Go.RowKit Go.Cold
theorem E_int : ElemT Tryz.prog 1 3 24 8 := ⟨Tryz.underlying24, by
 have h : (Tryz.prog.info? 3).map (fun i => (i.zero, i.size, i.bytes)) = some (some (.int .i64 0), 1, 8) := by kernel_rfl
 cases h0 : Tryz.prog.info? 3 with
 | none => rw [h0] at h; cases h
 | some i =>
  rw [h0] at h
  simp only [Option.map_some, Option.some.injEq, Prod.mk.injEq] at h
  exact ⟨i, .int .i64 0, rfl, h.1, h.2.1, h.2.2, rfl⟩⟩
/-- What gathers numbers answers: a row of its own. -/
def GotI (l : List Int) (w : World) (e : Ending) (w' : World) : Prop := Below w.heap.size w w' ∧ ∃ v, e = .returned v ∧ OwnsS (fun _ => True) w' w.heap.size 3 v l
theorem GotI.sl {l : List Int} {w w' : World} {e : Ending} (h : GotI l w e w') : Below w.heap.size w w' ∧ ∃ A c, e = .returned (.slice A l.length c) ∧ Sl w' w'.heap.size A c l := by
 obtain ⟨hb, v, rfl, ho⟩ := h
 obtain ⟨A, c, rfl, hs⟩ := ho.ints
 exact ⟨hb, A, c, rfl, hs⟩
set_option maxRecDepth 100000 in
set_option maxHeartbeats 1000000 in
/-- relate.Related. -/
theorem Related_any (A : Option Addr) (c : Nat) (L : List Dev) (i j : Int) (w : World) (B : Nat) (hB : B ≤ w.heap.size) (hx : Sl w B A c L) (hv : VT L) (hi : okI i) (hj : okI j) (hok : Ok w) (hoa : OkA w) :
  Calls Tryz.prog 20 #[.agg #[.slice A L.length c], .int .i64 i, .int .i64 j] w fun e w' => e = .returned (.bool (relB L i j)) ∧ Below w.heap.size w w' := by
 have hx1 := hx.1; have hx2 := hx.2.1
 unfold maxLen at hx2
 have HX := Lib.hid hx; have HB := Lib.hid hB; have HV := Lib.hid hv; have HI := Lib.hid hi; have HJ := Lib.hid hj; have HOK := Lib.hid hok; have HOA := Lib.hid hoa; clear hx hB hv hi hj hok hoa
 have HLA := Lib.hid (show ∀ d ∈ L, d.attrs.length ≤ 1000000 from fun d hd => attrs_le (HV.out.chk d hd)); have HLN := Lib.hid HV.out.size
 go_enter Tryz.func20, Tryz.ntmps20
 go_upto_region 1 with fail
 obtain ⟨w1, hw1⟩ : ∃ w1, w.alloc (.cells #[.slice A L.length c] 27) = w1 := ⟨_, rfl⟩
 have hbw1 : Below w.heap.size w w1 := by rw [← hw1]; exact (Below.refl _ _).alloc (Nat.le_refl _) _
 have HGw1 := Lib.hid (show w1.heap.size = w.heap.size + 1 by rw [← hw1]; simp)
 have HXtw1 := Lib.hid (show BoxL w1 w.heap.size [.slice A L.length c] from box_mk hw1)
 try simp only [hw1]
 have HSw1 := Lib.hid (show w.heap.size ≤ w1.heap.size from hbw1.size)
 have HBw1 := Lib.hid hbw1
 clear hw1 hbw1
 try rw [show w.heap.size + 1 = w1.heap.size from HGw1.out.symm]
 have ct0 := HXtw1.out.1 0 _ rfl
 go_wp2_with fail
 refine (Origin_any A c L i _ B (Nat.le_trans HB.out HBw1.out.size) (HX.out.keep (HBw1.out.mono HB.out)) (fun d hd => (HV.out.small d hd).1) HLN.out HI.out).mono ?_
 rintro e w2 ⟨rfl, hbw2⟩
 clear ct0
 have HSw2 := Lib.hid (show w1.heap.size ≤ w2.heap.size from hbw2.size)
 have HBw2 := Lib.hid (HBw1.out.trans (hbw2.mono HBw1.out.size))
 have tw2 := Lib.hid (HXtw1.out.kept (grown_none hbw2) (fun e => by cases e))
 clear hbw2
 have ct0 := tw2.out.1 0 _ rfl
 obtain ⟨q, hq⟩ : ∃ q, (idxs L).contains i = q := ⟨_, rfl⟩
 rw [hq]
 have Hq := Lib.hid hq; clear hq
 have hsa := str_size (fun d hd => (HV.out.small d hd).1) HLN.out i
 obtain ⟨sa, hsa'⟩ : ∃ s, strF L i = s := ⟨_, rfl⟩
 rw [hsa'] at hsa ⊢
 have HSA := Lib.hid hsa; have HSAE := Lib.hid hsa'; clear hsa hsa'
 go_wp2_with fail
 refine (Origin_any A c L j _ B (Nat.le_trans HB.out HBw2.out.size) (HX.out.keep (HBw2.out.mono HB.out)) (fun d hd => (HV.out.small d hd).1) HLN.out HJ.out).mono ?_
 rintro e w3 ⟨rfl, hbw3⟩
 clear ct0
 have HSw3 := Lib.hid (show w2.heap.size ≤ w3.heap.size from hbw3.size)
 have HBw3 := Lib.hid (HBw2.out.trans (hbw3.mono HBw2.out.size))
 have tw3 := Lib.hid (tw2.out.kept (grown_none hbw3) (fun e => by cases e))
 clear hbw3
 have ct0 := tw3.out.1 0 _ rfl
 obtain ⟨r, hr⟩ : ∃ q, (idxs L).contains j = q := ⟨_, rfl⟩
 rw [hr]
 have Hr := Lib.hid hr; clear hr
 have hsb := str_size (fun d hd => (HV.out.small d hd).1) HLN.out j
 obtain ⟨sb, hsb'⟩ : ∃ s, strF L j = s := ⟨_, rfl⟩
 rw [hsb'] at hsb ⊢
 have HSB := Lib.hid hsb; have HSBE := Lib.hid hsb'; clear hsb hsb'
 cases q
 ·
  cases r
  ·
   have HR := Lib.hid (show relB L i j = false from rel_no1 Hq.out)
   go_wp2
   go_ret
   exact ⟨ret_bool HR.out.symm, HBw3.out⟩
  ·
   have HR := Lib.hid (show relB L i j = false from rel_no1 Hq.out)
   go_wp2
   go_ret
   exact ⟨ret_bool HR.out.symm, HBw3.out⟩
 ·
  cases r
  ·
   have HR := Lib.hid (show relB L i j = false from rel_no2 Hr.out)
   go_wp2
   go_ret
   exact ⟨ret_bool HR.out.symm, HBw3.out⟩
  ·
   have HL4 := Lib.hid (show relB L i j = ((i == j) || underP sa sb || underP sb sa || sisB L i j) by rw [rel_str HV.out Hq.out Hr.out, HSAE.out, HSBE.out])
   by_cases hij : i = j
   ·
    have e1 : (i == j) = true := beq_iff_eq.2 hij
    have HE := Lib.hid e1; clear hij
    have HR := Lib.hid (show relB L i j = true by rw [HL4.out, HE.out]; rfl)
    go_wp2
    go_ret
    exact ⟨ret_bool HR.out.symm, HBw3.out⟩
   ·
    have e1 : (i == j) = false := beq_eq_false_iff_ne.2 hij
    have HE := Lib.hid e1; clear hij
    go_wp2_with fail
    refine (Ancestor_any sa sb _ (by have := HSA.out; omega) (by have := HSB.out; omega) (HOK.out.next HBw3.out)).mono ?_
    rintro e w4 ⟨rfl, hbw4⟩
    clear ct0
    have HSw4 := Lib.hid (show w3.heap.size ≤ w4.heap.size from hbw4.size)
    have HBw4 := Lib.hid (HBw3.out.trans (hbw4.mono HBw3.out.size))
    have tw4 := Lib.hid (tw3.out.kept (grown_none hbw4) (fun e => by cases e))
    clear hbw4
    have ct0 := tw4.out.1 0 _ rfl
    obtain ⟨a1, h1⟩ : ∃ z, underP sa sb = z := ⟨_, rfl⟩
    rw [h1]
    have H1 := Lib.hid h1; clear h1
    cases a1
    ·
     go_wp2_with fail
     refine (Ancestor_any sb sa _ (by have := HSB.out; omega) (by have := HSA.out; omega) (HOK.out.next HBw4.out)).mono ?_
     rintro e w5 ⟨rfl, hbw5⟩
     clear ct0
     have HSw5 := Lib.hid (show w4.heap.size ≤ w5.heap.size from hbw5.size)
     have HBw5 := Lib.hid (HBw4.out.trans (hbw5.mono HBw4.out.size))
     have tw5 := Lib.hid (tw4.out.kept (grown_none hbw5) (fun e => by cases e))
     clear hbw5
     have ct0 := tw5.out.1 0 _ rfl
     obtain ⟨a2, h2⟩ : ∃ z, underP sb sa = z := ⟨_, rfl⟩
     rw [h2]
     have H2 := Lib.hid h2; clear h2
     cases a2
     ·
      go_wp2_with fail
      refine (Sisters_any A c L i j _ B (Nat.le_trans HB.out HBw5.out.size) (HX.out.keep (HBw5.out.mono HB.out)) HV.out (HOA.out.next HBw5.out)).mono ?_
      rintro e w6 ⟨rfl, hbw6⟩
      clear ct0
      have HSw6 := Lib.hid (show w5.heap.size ≤ w6.heap.size from hbw6.size)
      have HBw6 := Lib.hid (HBw5.out.trans (hbw6.mono HBw5.out.size))
      have tw6 := Lib.hid (tw5.out.kept (grown_none hbw6) (fun e => by cases e))
      clear hbw6
      have ct0 := tw6.out.1 0 _ rfl
      obtain ⟨a3, h3⟩ : ∃ z, sisB L i j = z := ⟨_, rfl⟩
      rw [h3]
      have H3 := Lib.hid h3; clear h3
      have HR := Lib.hid (show relB L i j = a3 by rw [HL4.out, HE.out, H1.out, H2.out, H3.out]; rfl)
      go_wp2
      go_ret
      exact ⟨ret_bool HR.out.symm, HBw6.out⟩
     ·
      have HR := Lib.hid (show relB L i j = true by rw [HL4.out, HE.out, H1.out, H2.out]; rfl)
      go_wp2
      go_ret
      exact ⟨ret_bool HR.out.symm, HBw5.out⟩
    ·
     have HR := Lib.hid (show relB L i j = true by rw [HL4.out, HE.out, H1.out]; rfl)
     go_wp2
     go_ret
     exact ⟨ret_bool HR.out.symm, HBw4.out⟩
set_option maxRecDepth 100000 in
set_option maxHeartbeats 1000000 in
/-- relate.Order. -/
theorem Order_any (A : Option Addr) (c : Nat) (L : List Dev) (w : World) (B : Nat) (hB : B ≤ w.heap.size) (hx : Sl w B A c L) (hv : VT L) (A2 : Option Addr) (c2 : Nat) (xs : List Int) (B2 : Nat) (hB2 : B2 ≤ w.heap.size) (hy : Sl w B2 A2 c2 xs) :
  Calls Tryz.prog 23 #[.agg #[.slice A L.length c], .slice A2 xs.length c2] w (GotI (ordR L xs) w) := by
 have hx1 := hx.1; have hx2 := hx.2.1
 unfold maxLen at hx2
 have HX := Lib.hid hx; have HB := Lib.hid hB; have HV := Lib.hid hv; have HY := Lib.hid hy; clear hx hB hv hy
 have HLA := Lib.hid (show ∀ d ∈ L, d.attrs.length ≤ 1000000 from fun d hd => attrs_le (HV.out.chk d hd)); have HLN := Lib.hid HV.out.size
 go_enter Tryz.func23, Tryz.ntmps23
 go_upto_region 1 with fail
 obtain ⟨w1, hw1⟩ : ∃ w1, w.alloc (.cells #[.slice A L.length c] 27) = w1 := ⟨_, rfl⟩
 have hbw1 : Below w.heap.size w w1 := by rw [← hw1]; exact (Below.refl _ _).alloc (Nat.le_refl _) _
 have HGw1 := Lib.hid (show w1.heap.size = w.heap.size + 1 by rw [← hw1]; simp)
 have HXtw1 := Lib.hid (show BoxL w1 w.heap.size [.slice A L.length c] from box_mk hw1)
 try simp only [hw1]
 have HSw1 := Lib.hid (show w.heap.size ≤ w1.heap.size from hbw1.size)
 have HBw1 := Lib.hid hbw1
 clear hw1 hbw1
 try rw [show w.heap.size + 1 = w1.heap.size from HGw1.out.symm]
 have ct0 := HXtw1.out.1 0 _ rfl
 have HYB := Lib.hid (show B2 ≤ w.heap.size from hB2); clear hB2
 have HOW := Lib.hid (show OwnsS (fun _ => True) w1 w1.heap.size 3 (.slice none 0 0) (idxs ((L.take 0).filter fun d => xs.contains d.idx)) from OwnsS.nil_ _ _ _ _)
 go_wp2_with fail
 refine (setOf_any A2 c2 xs _ B2 (Nat.le_trans HYB.out HBw1.out.size) (HY.out.keep (HBw1.out.mono HYB.out))).mono ?_
 rintro e w2 ⟨hbw2, bm, rfl, hq_, hsm⟩
 clear ct0
 have HSw2 := Lib.hid (show w1.heap.size ≤ w2.heap.size from hbw2.size)
 have HBw2 := Lib.hid (HBw1.out.trans (hbw2.mono HBw1.out.size))
 have tw2 := Lib.hid (HXtw1.out.kept (grown_none hbw2) (fun e => by cases e))
 clear hbw2
 have ct0 := tw2.out.1 0 _ rfl
 have HBM := Lib.hid hq_; have HSM := Lib.hid hsm; have HNB := Lib.hid (SetV.lt hsm); clear hq_ hsm
 have HOW2 := Lib.hid (show OwnsS (fun _ => True) w2 w2.heap.size 3 (.slice none 0 0) (idxs ((L.take 0).filter fun d => xs.contains d.idx)) from OwnsS.nil_ _ _ _ _)
 go_wp2_with fail
 clear ct0
 go_loopw [6, 14] (fun v i wr => ∃ k : Nat, k ≤ L.length ∧ i = .int .i64 k ∧ Hid (Below w.heap.size w wr) ∧ Hid (w2.heap.size ≤ wr.heap.size) ∧ Hid (BoxL wr w.heap.size [.slice A L.length c]) ∧ Hid (SetR wr bm xs.length (hasL xs)) ∧ Hid (OwnsS (fun _ => True) wr w2.heap.size 3 v (idxs ((L.take (k)).filter fun d => xs.contains d.idx)))) (fun _ i _ => L.length - (intOf i).toNat)
 case atStart => exact ⟨0, Nat.zero_le _, rfl, Lib.hid HBw2.out, Lib.hid (by exact Nat.le_refl _), tw2, HSM, HOW2⟩
 case round =>
  clear HOW HOW2 HSM
  obtain ⟨k, hk, rfl, HBR, HWR, HTR, HSR, HOWN⟩ := hrel
  by_cases hlt : k < L.length
  ·
   have i1 : (k : Int) < (L.length : Int) := by omega
   obtain ⟨b3, o3, rfl, hb3, A3, c3, hok3, hat3, hcs3⟩ := (HX.out.keep (HBR.out.mono HB.out)).dev hlt
   have hxk : L[k]? = some L[k] := List.getElem?_eq_getElem hlt
   obtain ⟨y, hy⟩ : ∃ y, L[k]'hlt = y := ⟨_, rfl⟩
   rw [hy] at hok3 hcs3 hxk
   have HXK := Lib.hid hxk; have HOK3 := Lib.hid hok3
   obtain ⟨y0, y1, y2, y3, y4, y5, y6, y7, y8, y9⟩ := hcs3
   clear hxk hok3 hat3 hy hb3
   have hst := ord_snoc (l := xs) HXK.out
   have hacl := ord_len (L := L) (p := fun d => xs.contains d.idx) k
   obtain ⟨acc, hacc⟩ : ∃ z, idxs ((L.take (k)).filter fun d => xs.contains d.idx) = z := ⟨_, rfl⟩
   rw [hacc] at hacl HOWN hst
   have HST := Lib.hid hst; clear hacc hst
   have HAM := Lib.hid (show acc.length + 1 ≤ maxLen ∧ (acc.length + 1) * 8 ≤ 140737488355328 by have := HLN.out; constructor <;> first | (unfold maxLen; omega) | omega); clear hacl
   go_upto_region 6 with fail
   clear y0 y1 y2 y3 y4 y5 y6 y7 y8 y9
   obtain ⟨w6, hw6⟩ : ∃ w6, wr.alloc (.cells #[.int .i64 y.idx, .int .i64 y.par, .string y.nm, .string y.orig, .string y.sub, .string y.drv, .string y.ali, .int .i64 y.kind, .int .i64 y.num, .slice A3 y.attrs.length c3] 34) = w6 := ⟨_, rfl⟩
   have hbw6 : Below wr.heap.size wr w6 := by rw [← hw6]; exact (Below.refl _ _).alloc (Nat.le_refl _) _
   have HGw6 := Lib.hid (show w6.heap.size = wr.heap.size + 1 by rw [← hw6]; simp)
   have HXyw6 := Lib.hid (show BoxL w6 wr.heap.size [.int .i64 y.idx, .int .i64 y.par, .string y.nm, .string y.orig, .string y.sub, .string y.drv, .string y.ali, .int .i64 y.kind, .int .i64 y.num, .slice A3 y.attrs.length c3] from box_mk hw6)
   try simp only [hw6]
   have HSw6 := Lib.hid (show wr.heap.size ≤ w6.heap.size from hbw6.size)
   have HBw6 := Lib.hid (HBR.out.trans (hbw6.mono HBR.out.size))
   have tw6 := Lib.hid (HTR.out.kept (grown_none hbw6) (fun e => by cases e))
   have HOw6 := Lib.hid (HOWN.out.below hbw6)
   have HSRw6 := Lib.hid (HSR.out.next hbw6)
   clear hw6 hbw6
   try rw [show wr.heap.size + 1 = w6.heap.size from HGw6.out.symm]
   have ct0 := tw6.out.1 0 _ rfl
   have cy0 := HXyw6.out.1 0 _ rfl
   have cy1 := HXyw6.out.1 1 _ rfl
   have cy2 := HXyw6.out.1 2 _ rfl
   have cy3 := HXyw6.out.1 3 _ rfl
   have cy4 := HXyw6.out.1 4 _ rfl
   have cy5 := HXyw6.out.1 5 _ rfl
   have cy6 := HXyw6.out.1 6 _ rfl
   have cy7 := HXyw6.out.1 7 _ rfl
   have cy8 := HXyw6.out.1 8 _ rfl
   have cy9 := HXyw6.out.1 9 _ rfl
   go_wp2_with fail
   refine (setHas_any bm _ _ y.idx _ HSRw6.out HOK3.out.1).mono ?_
   rintro e w7 ⟨rfl, hbw7⟩
   clear ct0 cy0 cy1 cy2 cy3 cy4 cy5 cy6 cy7 cy8 cy9
   have HSw7 := Lib.hid (show w6.heap.size ≤ w7.heap.size from hbw7.size)
   have HBw7 := Lib.hid (HBw6.out.trans (hbw7.mono HBw6.out.size))
   have tw7 := Lib.hid (tw6.out.kept (grown_none hbw7) (fun e => by cases e))
   have yw7 := Lib.hid (HXyw6.out.kept (grown_none hbw7) (fun e => by cases e))
   have HOw7 := Lib.hid (HOw6.out.below hbw7)
   have HSRw7 := Lib.hid (HSRw6.out.next hbw7)
   clear hbw7
   have ct0 := tw7.out.1 0 _ rfl
   have cy0 := yw7.out.1 0 _ rfl
   have cy1 := yw7.out.1 1 _ rfl
   have cy2 := yw7.out.1 2 _ rfl
   have cy3 := yw7.out.1 3 _ rfl
   have cy4 := yw7.out.1 4 _ rfl
   have cy5 := yw7.out.1 5 _ rfl
   have cy6 := yw7.out.1 6 _ rfl
   have cy7 := yw7.out.1 7 _ rfl
   have cy8 := yw7.out.1 8 _ rfl
   have cy9 := yw7.out.1 9 _ rfl
   obtain ⟨z, hz⟩ : ∃ z, hasL xs y.idx = z := ⟨_, rfl⟩
   rw [hz] at HST ⊢
   clear hz
   cases z
   ·
    have HOn := Lib.hid (show OwnsS (fun _ => True) w7 w2.heap.size 3 u6 (idxs ((L.take (k + 1)).filter fun d => xs.contains d.idx)) from by rw [HST.out]; exact HOw7.out)
    try go_wp2
    go_roundw
    case rel => exact ⟨k + 1, by omega, by go_num, Lib.hid HBw7.out, Lib.hid (by have := HWR.out; have := (show wr.heap.size ≤ w7.heap.size from by have := HSw6.out; have := HSw7.out; omega); omega), tw7, HSRw7, HOn⟩
    case measure => simp [intOf]; omega
   ·
    obtain ⟨wa, hwa⟩ : ∃ z, w7.alloc (.cells #[.int .i64 y.idx] 3) = z := ⟨_, rfl⟩
    have hba : Below w7.heap.size w7 wa := by rw [← hwa]; exact (Below.refl _ _).alloc (Nat.le_refl _) _
    have HGA := Lib.hid (show wa.heap.size = w7.heap.size + 1 by rw [← hwa]; simp)
    have hnew := lit_cells hwa (l := [.int .i64 y.idx]) rfl
    have HNEW := Lib.hid hnew; clear hnew
    have HSwa := Lib.hid (show w7.heap.size ≤ wa.heap.size from hba.size)
    have HBwa := Lib.hid (HBw7.out.trans (hba.mono HBw7.out.size))
    have twa := Lib.hid (tw7.out.kept (grown_none hba) (fun e => by cases e))
    have ywa := Lib.hid (yw7.out.kept (grown_none hba) (fun e => by cases e))
    have HOwa := Lib.hid (HOw7.out.below hba)
    have HSRwa := Lib.hid (HSRw7.out.next hba)
    clear hba
    have HRD := Lib.hid (show RepS.rdS wa (fun b => True ∧ b < wa.heap.size ∧ u6.ownBlock ≠ some b) y.idx [.int .i64 y.idx] from ⟨rfl, HOK3.out.1⟩)
    go_wp2_with (at_builtin; go_must (refine wpList_app1 E_int rfl _ _ rfl u6 _ rfl HOwa.out w7.heap.size rfl y.idx [.int .i64 y.idx] HNEW.out HRD.out HAM.out.1 HAM.out.2 (by have := HWR.out; have := (show wr.heap.size ≤ wa.heap.size from by have := HSw6.out; have := HSw7.out; have := HSwa.out; omega); omega) ?_); intro v2 w9 hown_ hgrow_ hnew_; have HOWN9 := Lib.hid hown_; have HGROW9 := Lib.hid hgrow_; clear hown_ hgrow_ hnew_)
    have HB9 := Lib.hid (show Below w.heap.size w w9 from below_own HBwa.out HGROW9.out HBwa.out.size (fun k hk => by have := (HOwa.out.lt k hk).1; have := HGw1.out; have := HSw2.out; omega))
    have HT9 := Lib.hid (twa.out.kept HGROW9.out (fun e => by have := (HOwa.out.lt _ e.symm).1; have := HGw1.out; have := HSw2.out; omega))
    have HS9 := Lib.hid (SetV.kept HSRwa.out HGROW9.out (fun e => by have := (HOwa.out.lt _ e.symm).1; have := HNB.out; omega))
    have HOn := Lib.hid (show OwnsS (fun _ => True) w9 w2.heap.size 3 v2 (idxs ((L.take (k + 1)).filter fun d => xs.contains d.idx)) from by rw [HST.out]; exact HOWN9.out)
    try go_wp2
    go_roundw
    case rel => exact ⟨k + 1, by omega, by go_num, HB9, Lib.hid (by have := HWR.out; have := HGROW9.out.size; have := (show wr.heap.size ≤ wa.heap.size from by have := HSw6.out; have := HSw7.out; have := HSwa.out; omega); omega), HT9, HS9, HOn⟩
    case measure => simp [intOf]; omega
  ·
   have i1 : ¬ (k : Int) < (L.length : Int) := by omega
   obtain rfl : k = L.length := by omega
   have ct0 := HTR.out.1 0 _ rfl
   go_wp2
   go_ret
   exact ⟨HBR.out, _, by first | rfl | exact rfl, by have h := HOWN.out; rw [List.take_length] at h; exact h.low (by have := HGw1.out; have := HSw2.out; omega)⟩
end Go.Proofs.YtomcebcaendilaaGreatDoor
namespace Go.Cold
open Go Go.RowKit
/-- Where below's iterator stands: the tree's box gt, the set's box gi with the map bi, its own map bm. -/
def BeSt (P : Program) (tI tB : TypeId) (gt gi bi n bm : Nat) (s : Int → Bool) (A : Option Addr) (c N B : Nat) (L : List Dev) (ins : List Int) (W : World) : Prop :=
 BoxL W gt [.slice A L.length c] ∧ BoxL W gi [.map (some bi)] ∧ SetV P tI tB W bi n s ∧ SetV P tI tB W bm N (hasL ins) ∧ Sl W B A c L ∧ B ≤ W.heap.size
def beZ (gt gi bi bm B : Nat) (k : Nat) : Prop := k < B ∨ k = gt ∨ k = gi ∨ k = bi ∨ k = bm
section
variable {P : Program} {tI tB : TypeId} {gt gi bi n bm c N B : Nat} {s : Int → Bool} {A : Option Addr} {L : List Dev} {ins : List Int} {W W' : World}
theorem SetV.kpz {Z : Nat → Prop} {b n : Nat} {s : Int → Bool} (h : SetV P tI tB W b n s) (hk : KpZ Z W W') (hz : Z b) : SetV P tI tB W' b n s := by
 obtain ⟨D, ⟨es, clock, h1, h2⟩, h3⟩ := h
 have hlt : b < W.heap.size := by
  apply Classical.byContradiction
  intro hge
  rw [Array.getElem?_eq_none (by omega)] at h1
  cases h1
 exact ⟨D, ⟨es, clock, (hk.2 b hlt hz).trans h1, h2⟩, h3⟩
theorem BeSt.below (h : BeSt P tI tB gt gi bi n bm s A c N B L ins W) (hb : Below W.heap.size W W') : BeSt P tI tB gt gi bi n bm s A c N B L ins W' := by
 obtain ⟨h1, h2, h3, h4, h5, h6⟩ := h
 exact ⟨h1.kept (grown_none hb) (fun e => by cases e), h2.kept (grown_none hb) (fun e => by cases e), h3.next hb, h4.next hb, h5.keep (hb.mono h6), Nat.le_trans h6 hb.size⟩
theorem BeSt.kpz {Z : Nat → Prop} (h : BeSt P tI tB gt gi bi n bm s A c N B L ins W) (hk : KpZ Z W W') (hz : ∀ k, beZ gt gi bi bm B k → Z k) : BeSt P tI tB gt gi bi n bm s A c N B L ins W' := by
 obtain ⟨h1, h2, h3, h4, h5, h6⟩ := h
 exact ⟨h1.kpz hk (hz _ (.inr (.inl rfl))), h2.kpz hk (hz _ (.inr (.inr (.inl rfl)))), SetV.kpz h3 hk (hz _ (.inr (.inr (.inr (.inl rfl))))), SetV.kpz h4 hk (hz _ (.inr (.inr (.inr (.inr rfl))))), h5.kpz hk h6 (fun k hkb => hz _ (.inl hkb)), Nat.le_trans h6 hk.1⟩
theorem BeSt.add {i : Int} (h : BeSt P tI tB gt gi bi n bm s A c N B L ins W) (hg : W.grownBy W' (some bm)) (hm : SetV P tI tB W' bm (N + 1) (addS (hasL ins) i)) (h1 : gt ≠ bm) (h2 : gi ≠ bm) (h3 : bi ≠ bm) (h4 : B ≤ bm) : BeSt P tI tB gt gi bi n bm s A c (N + 1) B L (i :: ins) W' := by
 obtain ⟨a1, a2, a3, a4, a5, a6⟩ := h
 exact ⟨a1.kept hg (fun e => h1 (Option.some.inj e)), a2.kept hg (fun e => h2 (Option.some.inj e)), a3.kept hg (fun e => h3 (Option.some.inj e)), by rw [← addS_hasL]; exact hm, SlS_iff.2 ((SlS_iff.1 a5).tape hg (fun x (hx : x < B) => by omega)), Nat.le_trans a6 hg.size⟩
theorem goS_cond {s : Int → Bool} {d : Dev} {ins : List Int} : (s d.idx || hasL ins d.par) = true ↔ s d.idx = true ∨ d.par ∈ ins := by unfold hasL; simp
theorem goS_yes {s : Int → Bool} {d : Dev} {L : List Dev} {ins : List Int} (h : (s d.idx || hasL ins d.par) = true) : goS s (d :: L) ins = d :: goS s L (d.idx :: ins) := by rw [goS, if_pos (goS_cond.1 h)]
theorem goS_no {s : Int → Bool} {d : Dev} {L : List Dev} {ins : List Int} (h : (s d.idx || hasL ins d.par) = false) : goS s (d :: L) ins = goS s L ins := by rw [goS, if_neg (fun h2 => by rw [goS_cond.2 h2] at h; cases h)]
end
end Go.Cold
namespace Go.Proofs.YtomcebcaendilaaGreatDoor
open Go.RowKit Go.Cold Go.Shelf
attribute [local go_sem] Oper.semAt_some
/-- relate.below: the iterator's value. -/
theorem below_any (x : Value) (b : Nat) (w : World) : Calls Tryz.prog 48 #[.agg #[x], .map (some b)] w fun e w' => e = .returned (.func (.func 82) #[] #[.pointer (some ⟨w.heap.size, 0, none⟩), .pointer (some ⟨w.heap.size + 1, 0, none⟩)]) ∧ w' = (w.alloc (.cells #[x] 27)).alloc (.cells #[.map (some b)] 65) := by
 go_enter Tryz.func48, Tryz.ntmps48
 go_wp2
 go_ret
 exact ⟨rfl, rfl⟩
set_option maxRecDepth 100000 in
set_option maxHeartbeats 4000000 in
/-- The iterator of below: what is in the set, and all below it. -/
theorem below1_seq (n gt gi bi nb : Nat) (s : Int → Bool) (A : Option Addr) (c B : Nat) (L : List Dev) (w : World) (hB : B ≤ w.heap.size) (ht : BoxL w gt [.slice A L.length c]) (hi : BoxL w gi [.map (some bi)]) (hs : SetR w bi nb s) (hsl : Sl w B A c L) (hlen : L.length ≤ 1000) (hk : B ≤ gt ∧ B ≤ gi) :
  SeqT Fence.wide n Tryz.prog 82 #[.pointer (some ⟨gt, 0, none⟩), .pointer (some ⟨gi, 0, none⟩)] (fun x => #[encV x]) (fun xs => xs.map (·.1) = goS s L []) (nxX B (goS s L [])) (fun k => k = w.heap.size + 2) (beZ gt gi bi (w.heap.size + 2) B) w := fun l JJ W hW hsz hA hY h0 => by
 refine callsIn_of_wp Tryz.func82 rfl trivial ?_ rfl
 simp only [Tryz.ntmps82, List.size_toArray, List.length_cons, List.length_nil, Nat.reduceAdd, Nat.reduceSub, Array.replicate_succ, Array.replicate_zero, List.push_toArray, List.append_toArray, List.nil_append, List.cons_append]
 have HA := Lib.hid hA; have HY := Lib.hid hY; have HK := Lib.hid hk; have HLN := Lib.hid hlen; have HJ := Lib.hid h0
 have hx2 := hsl.2.1; have hx1 := hsl.1
 unfold maxLen at hx2
 have HT := Lib.hid (ht.kept (grown_none hW) (fun e => by cases e)); have HI := Lib.hid (hi.kept (grown_none hW) (fun e => by cases e)); have HSET := Lib.hid (SetV.next hs hW); have HSL := Lib.hid (hsl.keep (hW.mono hB)); have HLT := Lib.hid (show (gt < w.heap.size ∧ gi < w.heap.size ∧ bi < w.heap.size) ∧ B ≤ w.heap.size from ⟨⟨ht.2.2, hi.2.2, SetV.lt hs⟩, hB⟩); have HWS := Lib.hid (show B ≤ W.heap.size from Nat.le_trans hB hW.size)
 obtain ⟨w1, hw1⟩ : ∃ z, W.alloc (.map #[] 0) = z := ⟨_, rfl⟩
 have hb1 : Below W.heap.size W w1 := by rw [← hw1]; exact (Below.refl _ _).alloc (Nat.le_refl _) _
 have hm1 : SetR w1 W.heap.size 0 (hasL []) := by rw [← hw1]; exact SetV.made W _ _ _
 rw [hsz] at hm1
 have HST := Lib.hid (show BeSt Tryz.prog 3 71 gt gi bi nb (w.heap.size + 2) s A c 0 B L [] w1 from ⟨HT.out.kept (grown_none hb1) (fun e => by cases e), HI.out.kept (grown_none hb1) (fun e => by cases e), SetV.next HSET.out hb1, hm1, HSL.out.keep (hb1.mono HWS.out), Nat.le_trans HWS.out hb1.size⟩)
 have HJ1 := Lib.hid (HA.out _ _ _ _ HJ.out (.inl hb1)); have HS1 := Lib.hid (show W.heap.size ≤ w1.heap.size from hb1.size)
 have hmk1 := fun z => run_makeMap (P := Tryz.prog) 65 z
 have t0 := HST.out.1.1 0 _ rfl
 clear hA hY hk hlen h0 ht hi hs hsl hB hb1 hm1 HT HI HSET HSL
 gi_wp2
 clear t0 hmk1
 gi_loopw [11] (fun i wr => ∃ (k : Nat) (pre : List DevX) (ins : List Int) (M : Nat), k ≤ L.length ∧ i = .int .i64 k ∧ Hid (pre.map (·.1) ++ goS s (L.drop k) ins = goS s L []) ∧ Hid (JJ pre M wr) ∧ Hid (M ≤ wr.heap.size) ∧ Hid (W.heap.size ≤ wr.heap.size) ∧ Hid (BeSt Tryz.prog 3 71 gt gi bi nb (w.heap.size + 2) s A c k B L ins wr)) (fun i _ => L.length - (intOf i).toNat)
 case atStart => exact ⟨0, [], [], W.heap.size, Nat.zero_le _, rfl, Lib.hid rfl, HJ1, HS1, HS1, HST⟩
 case round =>
  clear HST HJ1 HS1
  obtain ⟨k, pre, ins, M, hk, rfl, HSP, HJW, HMW, HWW, HST⟩ := hrel
  by_cases hlt : k < L.length
  ·
   have i1 : (k : Int) < (L.length : Int) := by omega
   obtain ⟨b3, o3, rfl, hb3, A3, c3, hok3, hat3, hcs3⟩ := HST.out.2.2.2.2.1.dev hlt
   obtain ⟨y, hy0⟩ : ∃ y, L[k]'hlt = y := ⟨_, rfl⟩
   have hdr : L.drop k = y :: L.drop (k + 1) := by rw [List.drop_eq_getElem_cons hlt, hy0]
   rw [hy0] at hok3 hcs3 hat3
   have hsp := HSP.out
   rw [hdr] at hsp
   have HSP2 := Lib.hid hsp; have HOK3 := Lib.hid hok3; have HAT := Lib.hid hat3
   obtain ⟨z0, z1, z2, z3, z4, z5, z6, z7, z8, z9⟩ := hcs3
   clear hsp hdr hy0 hok3 hat3 hb3 HSP
   obtain ⟨w4, hw4⟩ : ∃ z, wr.alloc (.cells #[.int .i64 y.idx, .int .i64 y.par, .string y.nm, .string y.orig, .string y.sub, .string y.drv, .string y.ali, .int .i64 y.kind, .int .i64 y.num, .slice A3 y.attrs.length c3] 34) = z := ⟨_, rfl⟩
   have hb4 : Below wr.heap.size wr w4 := by rw [← hw4]; exact (Below.refl _ _).alloc (Nat.le_refl _) _
   have HX4 := Lib.hid (show BoxL w4 wr.heap.size [.int .i64 y.idx, .int .i64 y.par, .string y.nm, .string y.orig, .string y.sub, .string y.drv, .string y.ali, .int .i64 y.kind, .int .i64 y.num, .slice A3 y.attrs.length c3] from box_mk hw4)
   have HST4 := Lib.hid (HST.out.below hb4); have HJ4 := Lib.hid (HA.out _ _ _ _ HJW.out (.inl hb4)); have HS4 := Lib.hid hb4.size; have HAT4 := Lib.hid (HAT.out.keep (hb4.mono HST.out.2.2.2.2.2))
   clear hb4
   try clear y0 y1 x0
   have y0 := HX4.out.1 0 _ rfl; have y1 := HX4.out.1 1 _ rfl; have x0 := HST4.out.2.1.1 0 _ rfl
   gi_wp2_with fail
   refine ⟨trivial, (fun h => by cases h), ?_⟩
   refine (callsIn_wide.2 (setHas_any _ _ _ (y.idx) _ HST4.out.2.2.1 HOK3.out.1)).mono ?_
   rintro e w5 ⟨rfl, hb_⟩
   have HST5 := Lib.hid (HST4.out.below hb_); have HJ5 := Lib.hid (HA.out _ _ _ _ HJ4.out (.inl hb_)); have HS5 := Lib.hid (Nat.le_trans HS4.out hb_.size); have HAT5 := Lib.hid (HAT4.out.keep (hb_.mono HST4.out.2.2.2.2.2)); have HX5 := Lib.hid (HX4.out.kept (grown_none hb_) (fun e => by cases e)); clear hb_
   try clear y0 y1 x0
   have y0 := HX5.out.1 0 _ rfl; have y1 := HX5.out.1 1 _ rfl; have x0 := HST5.out.2.1.1 0 _ rfl
   clear z0 z1 z2 z3 z4 z5 z6 z7 z8 z9
   obtain ⟨q, hq⟩ : ∃ q, s y.idx = q := ⟨_, rfl⟩
   rw [hq]
   have HQ := Lib.hid hq; clear hq
   cases q
   ·
    gi_wp2_with fail
    refine ⟨trivial, (fun h => by cases h), ?_⟩
    refine (callsIn_wide.2 (setHas_any _ _ _ (y.par) _ HST5.out.2.2.2.1 HOK3.out.2.1)).mono ?_
    rintro e w7 ⟨rfl, hb_⟩
    have HST7 := Lib.hid (HST5.out.below hb_); have HJ7 := Lib.hid (HA.out _ _ _ _ HJ5.out (.inl hb_)); have HS7 := Lib.hid (Nat.le_trans HS5.out hb_.size); have HAT7 := Lib.hid (HAT5.out.keep (hb_.mono HST5.out.2.2.2.2.2)); have HX7 := Lib.hid (HX5.out.kept (grown_none hb_) (fun e => by cases e)); clear hb_
    try clear y0 y1 x0
    have y0 := HX7.out.1 0 _ rfl; have y1 := HX7.out.1 1 _ rfl; have x0 := HST7.out.2.1.1 0 _ rfl
    obtain ⟨r, hr⟩ : ∃ q, hasL ins y.par = q := ⟨_, rfl⟩
    rw [hr]
    have HIN := Lib.hid (show (s y.idx || hasL ins y.par) = r by rw [HQ.out, hr]; rfl); clear hr
    cases r
    ·
     have HSP3 := Lib.hid (show pre.map (·.1) ++ goS s (L.drop (k + 1)) ins = goS s L [] by have h := HSP2.out; rw [goS_no HIN.out] at h; exact h)
     gi_wp2
     go_roundw
     case rel => exact ⟨k + 1, pre, ins, M, by omega, by go_num, HSP3, HJ7, Lib.hid (Nat.le_trans HMW.out HS7.out), Lib.hid (Nat.le_trans HWW.out HS7.out), Lib.hid ⟨HST7.out.1, HST7.out.2.1, HST7.out.2.2.1, HST7.out.2.2.2.1.mono (Nat.le_succ _), HST7.out.2.2.2.2⟩⟩
     case measure => simp [intOf]; omega
    ·
     have HSP3 := Lib.hid (show (pre ++ [(y, A3, c3)]).map (·.1) ++ goS s (L.drop (k + 1)) (y.idx :: ins) = goS s L [] by have h := HSP2.out; rw [goS_yes HIN.out] at h; rw [List.map_append, List.append_assoc]; exact h)
     have HDUE := Lib.hid (show ∃ t, pre.map (·.1) ++ y :: t = goS s L [] from ⟨_, by have h := HSP2.out; rw [goS_yes HIN.out] at h; exact h⟩)
     have HNB := Lib.hid (show (gt ≠ (w.heap.size + 2) ∧ gi ≠ (w.heap.size + 2) ∧ bi ≠ (w.heap.size + 2)) ∧ wr.heap.size ≠ (w.heap.size + 2) by have h1 := HLT.out; have h2 := SetV.lt HST.out.2.2.2.1; omega)
     have HKM := Lib.hid (show k < maxLen by have := HLN.out; unfold maxLen; omega)
     gi_wp2_with (gi_at_mapUpdate; refine wpListIn_add rfl _ _ _ _ rfl HST7.out.2.2.2.1 Tryz.underlying65 Tryz.underlying3 rfl y.idx HOK3.out.1 HKM.out rfl rfl ?_; intro w9 hm_ hg_; have HST9 := Lib.hid (show BeSt Tryz.prog 3 71 gt gi bi nb (w.heap.size + 2) s (some ⟨b3, o3, none⟩) c (k + 1) B L (y.idx :: ins) w9 from BeSt.add HST7.out hg_ hm_ HNB.out.1.1 HNB.out.1.2.1 HNB.out.1.2.2 (by have := HLT.out; omega)); have HX9 := Lib.hid (HX7.out.kept hg_ (fun e => HNB.out.2 (Option.some.inj e))); have HJ9 := Lib.hid (HA.out _ _ _ _ HJ7.out (.inr ⟨_, rfl, hg_⟩)); have HNX := Lib.hid (show nxX B (goS s L []) pre (y, A3, c3) w9 from ⟨HDUE.out, HOK3.out, SlS_iff.2 ((SlS_iff.1 HAT7.out).tape hg_ (fun x (hx : x < B) => by have := HLT.out; omega))⟩); have HS9 := Lib.hid (show wr.heap.size ≤ w9.heap.size from Nat.le_trans HS7.out hg_.size); obtain ⟨fn', tmps', assign', body', hy, hR⟩ := HY.out pre (y, A3, c3) M w9 HJ9.out (by have := HMW.out; have := HS9.out; omega) HNX.out; dsimp only [encV] at hy; have HR := Lib.hid hR; clear hR hm_ hg_ y0 y1 x0; have v0 := HX9.out.1 0 _ rfl; have v1 := HX9.out.1 1 _ rfl; have v2 := HX9.out.1 2 _ rfl; have v3 := HX9.out.1 3 _ rfl; have v4 := HX9.out.1 4 _ rfl; have v5 := HX9.out.1 5 _ rfl; have v6 := HX9.out.1 6 _ rfl; have v7 := HX9.out.1 7 _ rfl; have v8 := HX9.out.1 8 _ rfl; have v9 := HX9.out.1 9 _ rfl)
     refine ⟨(fun h => by cases h), ?_⟩
     refine HR.out.mono ?_
     rintro e w6 ⟨rfl, hj6, hk6⟩
     have HST6 := Lib.hid (HST9.out.kpz hk6 (fun k hk => .inl hk)); have HJ6 := Lib.hid hj6; have HS6 := Lib.hid (show W.heap.size ≤ w6.heap.size by have := HWW.out; have := HS9.out; have := hk6.1; omega)
     clear hj6 hk6 hy v0 v1 v2 v3 v4 v5 v6 v7 v8 v9
     gi_wp2
     go_roundw
     case rel => exact ⟨k + 1, pre ++ [(y, A3, c3)], y.idx :: ins, w6.heap.size, by omega, by go_num, HSP3, HJ6, Lib.hid (Nat.le_refl _), HS6, HST6⟩
     case measure => simp [intOf]; omega
   ·
    have HIN := Lib.hid (show (s y.idx || hasL ins y.par) = true by rw [HQ.out]; rfl)
    gi_wp2_with fail
    refine ⟨trivial, ?_⟩
    have HSP3 := Lib.hid (show (pre ++ [(y, A3, c3)]).map (·.1) ++ goS s (L.drop (k + 1)) (y.idx :: ins) = goS s L [] by have h := HSP2.out; rw [goS_yes HIN.out] at h; rw [List.map_append, List.append_assoc]; exact h)
    have HDUE := Lib.hid (show ∃ t, pre.map (·.1) ++ y :: t = goS s L [] from ⟨_, by have h := HSP2.out; rw [goS_yes HIN.out] at h; exact h⟩)
    have HNB := Lib.hid (show (gt ≠ (w.heap.size + 2) ∧ gi ≠ (w.heap.size + 2) ∧ bi ≠ (w.heap.size + 2)) ∧ wr.heap.size ≠ (w.heap.size + 2) by have h1 := HLT.out; have h2 := SetV.lt HST.out.2.2.2.1; omega)
    have HKM := Lib.hid (show k < maxLen by have := HLN.out; unfold maxLen; omega)
    gi_wp2_with (gi_at_mapUpdate; refine wpListIn_add rfl _ _ _ _ rfl HST5.out.2.2.2.1 Tryz.underlying65 Tryz.underlying3 rfl y.idx HOK3.out.1 HKM.out rfl rfl ?_; intro w9 hm_ hg_; have HST9 := Lib.hid (show BeSt Tryz.prog 3 71 gt gi bi nb (w.heap.size + 2) s (some ⟨b3, o3, none⟩) c (k + 1) B L (y.idx :: ins) w9 from BeSt.add HST5.out hg_ hm_ HNB.out.1.1 HNB.out.1.2.1 HNB.out.1.2.2 (by have := HLT.out; omega)); have HX9 := Lib.hid (HX5.out.kept hg_ (fun e => HNB.out.2 (Option.some.inj e))); have HJ9 := Lib.hid (HA.out _ _ _ _ HJ5.out (.inr ⟨_, rfl, hg_⟩)); have HNX := Lib.hid (show nxX B (goS s L []) pre (y, A3, c3) w9 from ⟨HDUE.out, HOK3.out, SlS_iff.2 ((SlS_iff.1 HAT5.out).tape hg_ (fun x (hx : x < B) => by have := HLT.out; omega))⟩); have HS9 := Lib.hid (show wr.heap.size ≤ w9.heap.size from Nat.le_trans HS5.out hg_.size); obtain ⟨fn', tmps', assign', body', hy, hR⟩ := HY.out pre (y, A3, c3) M w9 HJ9.out (by have := HMW.out; have := HS9.out; omega) HNX.out; dsimp only [encV] at hy; have HR := Lib.hid hR; clear hR hm_ hg_ y0 y1 x0; have v0 := HX9.out.1 0 _ rfl; have v1 := HX9.out.1 1 _ rfl; have v2 := HX9.out.1 2 _ rfl; have v3 := HX9.out.1 3 _ rfl; have v4 := HX9.out.1 4 _ rfl; have v5 := HX9.out.1 5 _ rfl; have v6 := HX9.out.1 6 _ rfl; have v7 := HX9.out.1 7 _ rfl; have v8 := HX9.out.1 8 _ rfl; have v9 := HX9.out.1 9 _ rfl)
    refine ⟨(fun h => by cases h), ?_⟩
    refine HR.out.mono ?_
    rintro e w6 ⟨rfl, hj6, hk6⟩
    have HST6 := Lib.hid (HST9.out.kpz hk6 (fun k hk => .inl hk)); have HJ6 := Lib.hid hj6; have HS6 := Lib.hid (show W.heap.size ≤ w6.heap.size by have := HWW.out; have := HS9.out; have := hk6.1; omega)
    clear hj6 hk6 hy v0 v1 v2 v3 v4 v5 v6 v7 v8 v9
    gi_wp2
    go_roundw
    case rel => exact ⟨k + 1, pre ++ [(y, A3, c3)], y.idx :: ins, w6.heap.size, by omega, by go_num, HSP3, HJ6, Lib.hid (Nat.le_refl _), HS6, HST6⟩
    case measure => simp [intOf]; omega
  ·
   have i1 : ¬ (k : Int) < (L.length : Int) := by omega
   have HFIN := Lib.hid (show pre.map (·.1) = goS s L [] by have h := HSP.out; rw [List.drop_of_length_le (by omega), goS, List.append_nil] at h; exact h)
   gi_wp2
   go_end0
   exact ⟨⟨_, rfl⟩, pre, HFIN.out, M, HJW.out⟩
end Go.Proofs.YtomcebcaendilaaGreatDoor
namespace Go.Cold
open Go Go.RowKit
/-- What a range keeps that gathers values: the row in the box g5; all that it reaches was made behind 'bs'. -/
def SubG {α : Type} [RepS α] (T : TypeId) (w : World) (g5 bs : Nat) (f : List DevX → List α) (pre : List DevX) (N : Nat) (W : World) : Prop :=
 Below w.heap.size w W ∧ g5 < N ∧ ∃ v, BoxL W g5 [v] ∧ (∀ k, v.ownBlock = some k → bs ≤ k ∧ k < N) ∧ OwnsS (fun b => bs ≤ b) W bs T v (f pre)
section
variable {α : Type} [RepS α] {T : TypeId} {w : World} {g5 bs : Nat} {f : List DevX → List α}
theorem SubG.grown {k N : Nat} {pre : List DevX} {X Y : World} (h : SubG T w g5 bs f pre N X) (hg : X.grownBy Y (some k)) (h1 : w.heap.size ≤ k) (h2 : g5 ≠ k) (h3 : k < bs) : SubG T w g5 bs f pre N Y := by
 obtain ⟨a1, a2, v, a3, a5, a4⟩ := h
 exact ⟨a1.grown hg a1.size (fun q hq => by have := Option.some.inj hq; omega), a2, v, a3.kept hg (fun e => h2 (Option.some.inj e)), a5, a4.grownb hg (fun x (hx : bs ≤ x) => by omega) h3⟩
theorem SubG.below {N : Nat} {pre : List DevX} {X Y : World} (h : SubG T w g5 bs f pre N X) (hb : Below X.heap.size X Y) : SubG T w g5 bs f pre N Y := by
 obtain ⟨a1, a2, v, a3, a5, a4⟩ := h
 exact ⟨a1.trans (hb.mono a1.size), a2, v, a3.kept (grown_none hb) (fun e => by cases e), a5, a4.below hb⟩
theorem SubG.abid {k0 : Nat} (h1 : w.heap.size ≤ k0) (h2 : g5 ≠ k0) (h3 : k0 < bs) : Abid (fun k => k = k0) (SubG T w g5 bs f) := fun pre N X Y h hst => by
 rcases hst with hb | ⟨k, rfl, hg⟩
 · exact h.below hb
 · exact h.grown hg h1 h2 h3
theorem SubG.putl {l : Nat} (h1 : w.heap.size ≤ l) (h2 : g5 ≠ l) (h3 : l < bs) : ∀ pre N X o, SubG T w g5 bs f pre N X → SubG T w g5 bs f pre N (X.putObj l o) := fun pre N X o h => h.grown (grownBy_putObj' X l o) h1 h2 h3
/-- A round that appended. -/
theorem subG_round {N l D : Nat} {Z : Nat → Prop} {pre : List DevX} {x : DevX} {W q2 q3 : World} {v v' : Value} {a : Act}
  (hJ : Below w.heap.size w W) (hN : g5 < N) (hbox : BoxL W g5 [v]) (hv : ∀ k, v.ownBlock = some k → bs ≤ k ∧ k < N) (h2 : Below W.heap.size W q2) (h3 : q2.grownBy q3 v.ownBlock)
  (hown : OwnsS (fun b => bs ≤ b) q3 bs T v' (f (pre ++ [x]))) (hg5 : w.heap.size ≤ g5 ∧ g5 < bs ∧ w.heap.size ≤ bs) (hZ : ¬ Z g5) (hZv : ∀ k, bs ≤ k → ¬ Z k) (hl : l < bs ∧ D < bs ∧ l ≠ g5 ∧ D ≠ g5) (hlt : l < W.heap.size ∧ D < W.heap.size) :
  roundP (SubG T w g5 bs f) Z l D (pre ++ [x]) N W .normal a (q3.setCell ⟨g5, 0, none⟩ v') := by
 have hg4 := grown_one q3 g5 0 v'
 have hne : some g5 ≠ v.ownBlock := fun e => by have := (hv g5 e.symm).1; omega
 have b2 : BoxL q3 g5 [v] := (hbox.kept (grown_none h2) (fun e => by cases e)).kept h3 hne
 have hs2 := h2.size; have hs3 := h3.size; have hs4 := hg4.size
 have hw2 : Below w.heap.size w q2 := hJ.trans (h2.mono hJ.size)
 have hw3 : Below w.heap.size w q3 := hw2.grown h3 hw2.size (fun k hk => by have := (hv k hk).1; omega)
 have blk : ∀ k, k < W.heap.size → k ≠ g5 → v.ownBlock ≠ some k → (q3.setCell ⟨g5, 0, none⟩ v').heap[k]? = W.heap[k]? := fun k hk h5 hvk =>
  ((hg4.block k (by omega) (fun e => h5 (Option.some.inj e))).trans (h3.block k (by omega) (fun e => hvk e.symm))).trans (h2.block k hk)
 refine ⟨⟨hw3.grown hg4 hw3.size (fun q hq => by have := Option.some.inj hq; omega), ?_, v', b2.set_ (j := 0) (by simp) v', fun k hk => ?_, hown.grownb hg4 (fun x (hx : bs ≤ x) => by omega) hg5.2.1⟩, ⟨by omega, fun k hk hz => blk k hk (fun e => ?_) (fun e => ?_)⟩, blk l hlt.1 hl.2.2.1 (fun e => by have := (hv l e).1; omega), blk D hlt.2 hl.2.2.2 (fun e => by have := (hv D e).1; omega)⟩
 · have := b2.2.2; omega
 · have := hown.lt k hk; omega
 ·
  rcases hz with hz | hz
  · exact hZ (e ▸ hz)
  · omega
 ·
  have := hv k e
  rcases hz with hz | hz
  · exact hZv k this.1 hz
  · omega
theorem SubG.done {N : Nat} {pre : List DevX} {X : World} (h : SubG T w g5 bs f pre N X) {l : List α} (hl : f pre = l) (hbs : w.heap.size ≤ bs) :
  ∃ v A c, v = .slice A l.length c ∧ BoxL X g5 [v] ∧ ∀ D o, w.heap.size ≤ D → D < bs → Below w.heap.size w (X.putObj D o) ∧ OwnsS (fun _ => True) (X.putObj D o) w.heap.size T v l := by
 subst hl
 obtain ⟨a1, a2, v, a3, a5, a4⟩ := h
 obtain ⟨A, c, rfl, -⟩ := a4.cs
 refine ⟨_, A, c, rfl, a3, fun D o hD hb => ?_⟩
 have hg := grownBy_putObj' X D o
 exact ⟨a1.grown hg a1.size (fun q hq => by have := Option.some.inj hq; omega), ((a4.grownb hg (fun x (hx : bs ≤ x) => by omega) hb).wide (fun _ _ => trivial)).low hbs⟩
end
section
variable {P : Program} {F : Fence} {n : Nat} {TS : TypeId} {ops : Array Oper} {rest : List Oper} {o : Oper} {a : Act} {Q : Exit → Act → World → Prop} {w : World}
/-- An append that is known to run so, in a fenced walk. -/
theorem wpListIn_app {R : Value → World → Prop} (hgd : o.guard = none) (s x : Operand) (ho : o.op = .call { callee := .builtin .append, args := #[s, x], argTypes := #[TS, TS] }) (v u : Value) (hs : a.eval s = v) (hx : a.eval x = u)
  (hrun : ∃ v' w', (Builtin.append_ #[TS, TS] o.type #[v, u]).run P w = .ok v' w' ∧ R v' w') (hK : ∀ v' w', R v' w' → wpListIn F n P ops Q rest (a.put o.dst v') w') : wpListIn F n P ops Q (o :: rest) a w := by
 refine wpListIn_plain hgd fun K hK' => ?_
 obtain ⟨v', w', hr, hR⟩ := hrun
 unfold Oper.wpIn
 refine ⟨?_, ?_⟩
 · simp [Oper.about, ho, resolve, Target.leads, Sem.run_pure]
 ·
  rw [Oper.semAt_plain F _ _ (by rw [ho]; intro c hc'; cases hc')]
  simp [execOp, ho, resolve, invoke, builtin, hs, hx, hr, Result.andThen]
  exact hK' _ _ (hK _ _ hR)
end
def idxX (pre : List DevX) : List Int := pre.map (fun x => x.1.idx)
theorem idxX_snoc (pre : List DevX) (x : DevX) : idxX (pre ++ [x]) = idxX pre ++ [x.1.idx] := by unfold idxX; simp
theorem idxX_fst (pre : List DevX) : idxX pre = idxs (pre.map (·.1)) := by unfold idxX idxs; simp
theorem goS_len (s : Int → Bool) : ∀ (L : List Dev) (ins : List Int), (goS s L ins).length ≤ L.length
 | [], _ => Nat.le_refl _
 | d :: L, ins => by
  rw [goS]
  split
  · have := goS_len s L (d.idx :: ins); simp; omega
  · have := goS_len s L ins; simp; omega
theorem goS_mem (s : Int → Bool) : ∀ (L : List Dev) (ins : List Int) (y : Dev), y ∈ goS s L ins → y ∈ L
 | [], _, y, h => by simp [goS] at h
 | d :: L, ins, y, h => by
  rw [goS] at h
  split at h
  ·
   rcases List.mem_cons.1 h with rfl | h
   · exact List.mem_cons_self
   · exact List.mem_cons_of_mem _ (goS_mem s L _ y h)
  · exact List.mem_cons_of_mem _ (goS_mem s L _ y h)
end Go.Cold
namespace Go.Proofs.YtomcebcaendilaaGreatDoor
open Go.RowKit Go.Cold Go.Shelf
attribute [local go_sem] Oper.semAt_some
set_option maxRecDepth 100000 in
set_option maxHeartbeats 4000000 in
/-- relate.Closed. -/
theorem Closed_any (A : Option Addr) (c : Nat) (L : List Dev) (w : World) (B : Nat) (hB : B ≤ w.heap.size) (hx : Sl w B A c L) (hv : VT L) (A2 : Option Addr) (c2 : Nat) (xs : List Int) (B2 : Nat) (hB2 : B2 ≤ w.heap.size) (hy : Sl w B2 A2 c2 xs) :
  Calls Tryz.prog 25 #[.agg #[.slice A L.length c], .slice A2 xs.length c2] w (GotI (closR L xs) w) := by
 have hx1 := hx.1; have hx2 := hx.2.1
 unfold maxLen at hx2
 have HX := Lib.hid hx; have HB := Lib.hid hB; have HV := Lib.hid hv; have HY := Lib.hid hy; have HYB := Lib.hid hB2; have HLN := Lib.hid hv.size
 clear hx hB hv hy hB2
 refine callsIn_wide.1 (callsIn_of_wp_marks (n := 3) Tryz.func25 rfl trivial ?_ rfl)
 simp only [Tryz.ntmps25, List.size_toArray, List.length_cons, List.length_nil, Nat.reduceAdd, Nat.reduceSub, Array.replicate_succ, Array.replicate_zero, List.push_toArray, List.append_toArray, List.nil_append, List.cons_append]
 rw [wpIn_wide]
 go_upto_region 2 with fail
 obtain ⟨w1, hw1⟩ : ∃ w1, w.alloc (.cells #[.slice A L.length c] 27) = w1 := ⟨_, rfl⟩
 have hbw1 : Below w.heap.size w w1 := by rw [← hw1]; exact (Below.refl _ _).alloc (Nat.le_refl _) _
 have HGw1 := Lib.hid (show w1.heap.size = w.heap.size + 1 by rw [← hw1]; simp)
 have HXtw1 := Lib.hid (show BoxL w1 w.heap.size [.slice A L.length c] from box_mk hw1)
 try simp only [hw1]
 have HSw1 := Lib.hid (show w.heap.size ≤ w1.heap.size from hbw1.size)
 have HBw1 := Lib.hid hbw1
 clear hw1 hbw1
 try rw [show w.heap.size + 1 = w1.heap.size from HGw1.out.symm]
 obtain ⟨w2, hw2⟩ : ∃ w2, w1.alloc (.cells #[.slice none 0 0] 24) = w2 := ⟨_, rfl⟩
 have hbw2 : Below w1.heap.size w1 w2 := by rw [← hw2]; exact (Below.refl _ _).alloc (Nat.le_refl _) _
 have HGw2 := Lib.hid (show w2.heap.size = w1.heap.size + 1 by rw [← hw2]; simp)
 have HXlw2 := Lib.hid (show BoxL w2 w1.heap.size [.slice none 0 0] from box_mk hw2)
 try simp only [hw2]
 have HSw2 := Lib.hid (show w1.heap.size ≤ w2.heap.size from hbw2.size)
 have HBw2 := Lib.hid (HBw1.out.trans (hbw2.mono HBw1.out.size))
 have tw2 := Lib.hid (HXtw1.out.kept (grown_none hbw2) (fun e => by cases e))
 clear hw2 hbw2
 try rw [show w1.heap.size + 1 = w2.heap.size from HGw2.out.symm]
 refine wp_nopanic ?_
 refine wp_region_held_drew (S := fun w' => BoxL w' w.heap.size [.slice A L.length c]) (by kernel_rfl) tw2.out.drew (fun hS0 => ?_)
 obtain ⟨wd, hwd⟩ : ∃ z, World.drew w2 = z := ⟨_, rfl⟩
 rw [hwd] at hS0 ⊢
 have hbd : Below w2.heap.size w2 wd := by rw [← hwd]; exact below_drewN_self _ _ 1
 clear hwd
 have HSwd := Lib.hid (show w2.heap.size ≤ wd.heap.size from hbd.size)
 have HBwd := Lib.hid (HBw2.out.trans (hbd.mono HBw2.out.size))
 have twd := Lib.hid (tw2.out.kept (grown_none hbd) (fun e => by cases e))
 have lwd := Lib.hid (HXlw2.out.kept (grown_none hbd) (fun e => by cases e))
 clear hbd
 have HS1 := Lib.hid hS0; clear hS0
 refine wpAnyH_take (i := 0) (oi := ⟨some 7, _, _, _, _, _⟩) (v := .agg #[.slice A L.length c]) rfl (by kernel_rfl) (by kernel_rfl) (by kernel_rfl) (fun _ _ _ h => h) (Or.inl ⟨by rfl, fun w' hS => by (have u0_ := hS.1 0 _ rfl; go_simp)⟩) HS1.out ?_
 try simp only [Act.put, List.setIfInBounds_toArray, List.set_cons_zero, List.set_cons_succ]
 refine wpAnyH_take (i := 1) (oi := ⟨some 8, _, _, _, _, _⟩) (v := .slice A2 xs.length c2) rfl (by kernel_rfl) (by kernel_rfl) (by kernel_rfl) (fun _ _ _ h => h) (Or.inl ⟨by rfl, fun w' hS => by (have u0_ := hS.1 0 _ rfl; go_simp)⟩) HS1.out ?_
 try simp only [Act.put, List.setIfInBounds_toArray, List.set_cons_zero, List.set_cons_succ]
 refine wpAnyH_ready (rs := [2]) (by kernel_rfl) (by simp) ?_
 refine AllReadyH.cons (o := ⟨some 9, .call ⟨_, _, _⟩, _, _, _, _⟩) rfl (fun K hK => ?_) AllReadyH.nil
 go_simp
 go_at_call 46
 refine (setOf_any A2 c2 xs wd B2 (Nat.le_trans HYB.out HBwd.out.size) (HY.out.keep (HBwd.out.mono HYB.out))).mono ?_
 rintro e' q1 ⟨hb_, bm, rfl, hq_, hsm_⟩
 have HSQ := Lib.hid (show (BoxL q1 w.heap.size [.slice A L.length c]) from HS1.out.kept (grown_none hb_) (fun e => by cases e))
 have HSM := Lib.hid hsm_; have HBM := Lib.hid (show wd.heap.size ≤ bm ∧ bm < q1.heap.size from ⟨hq_, SetV.lt hsm_⟩); clear hsm_ hq_
 refine hK.out _ _ HSQ.out (fun _ => ?_)
 clear hK K
 try simp only [Act.put, List.setIfInBounds_toArray, List.set_cons_zero, List.set_cons_succ]
 have HSq1 := Lib.hid (show wd.heap.size ≤ q1.heap.size from hb_.size)
 have HBq1 := Lib.hid (HBwd.out.trans (hb_.mono HBwd.out.size))
 have tq1 := Lib.hid (twd.out.kept (grown_none hb_) (fun e => by cases e))
 have lq1 := Lib.hid (lwd.out.kept (grown_none hb_) (fun e => by cases e))
 clear hb_
 refine wpAnyH_ready (rs := [3]) (by kernel_rfl) (by simp) ?_
 refine AllReadyH.cons (o := ⟨some 10, .call ⟨_, _, _⟩, _, _, _, _⟩) rfl (fun K hK => ?_) AllReadyH.nil
 go_simp
 go_at_call 48
 refine (below_any _ _ _).mono ?_
 rintro e' u2 ⟨rfl, hw_⟩
 obtain ⟨u1, hu1⟩ : ∃ z, q1.alloc (.cells #[.slice A L.length c] 27) = z := ⟨_, rfl⟩
 have hb_ : Below q1.heap.size q1 u1 := by rw [← hu1]; exact (Below.refl _ _).alloc (Nat.le_refl _) _
 have HGu1 := Lib.hid (show u1.heap.size = q1.heap.size + 1 by rw [← hu1]; simp)
 have HXv := Lib.hid (show BoxL u1 q1.heap.size [.slice A L.length c] from box_mk hu1)
 have HSM1 := Lib.hid (SetV.next HSM.out hb_)
 rw [hu1] at hw_
 try rw [show q1.heap.size + 1 = u1.heap.size from HGu1.out.symm]
 clear hu1
 have HSu1 := Lib.hid (show q1.heap.size ≤ u1.heap.size from hb_.size)
 have HBu1 := Lib.hid (HBq1.out.trans (hb_.mono HBq1.out.size))
 have tu1 := Lib.hid (tq1.out.kept (grown_none hb_) (fun e => by cases e))
 have lu1 := Lib.hid (lq1.out.kept (grown_none hb_) (fun e => by cases e))
 clear hb_
 have hb_ : Below u1.heap.size u1 u2 := by rw [hw_]; exact (Below.refl _ _).alloc (Nat.le_refl _) _
 have HGu2 := Lib.hid (show u2.heap.size = u1.heap.size + 1 by rw [hw_]; simp)
 have HXi := Lib.hid (show BoxL u2 u1.heap.size [.map (some bm)] from box_mk hw_.symm)
 have HSM2 := Lib.hid (SetV.next HSM1.out hb_)
 clear hw_
 have HSu2 := Lib.hid (show u1.heap.size ≤ u2.heap.size from hb_.size)
 have HBu2 := Lib.hid (HBu1.out.trans (hb_.mono HBu1.out.size))
 have tu2 := Lib.hid (tu1.out.kept (grown_none hb_) (fun e => by cases e))
 have lu2 := Lib.hid (lu1.out.kept (grown_none hb_) (fun e => by cases e))
 have vu2 := Lib.hid (HXv.out.kept (grown_none hb_) (fun e => by cases e))
 clear hb_
 refine hK.out _ _ tu2.out (fun _ => ?_)
 clear hK K
 try simp only [Act.put, List.setIfInBounds_toArray, List.set_cons_zero, List.set_cons_succ]
 refine wpAnyH_done (by kernel_rfl) ?_ _
 dsimp only [nOnly]
 have HNUM := Lib.hid (show ((B ≤ w.heap.size ∧ w.heap.size < w1.heap.size ∧ w1.heap.size < w2.heap.size ∧ w2.heap.size ≤ wd.heap.size) ∧ wd.heap.size ≤ bm ∧ bm < q1.heap.size) ∧ q1.heap.size < u1.heap.size ∧ u1.heap.size < u2.heap.size from ⟨⟨⟨HB.out, by have := HGw1.out; omega, by have := HGw2.out; omega, by have := HSwd.out; omega⟩, HBM.out⟩, by have := HGu1.out; omega, by have := HGu2.out; omega⟩)
 have HDL := Lib.hid (show ∀ (pre : List DevX) (y : Dev) t, pre.map (·.1) ++ y :: t = goS (hasL xs) L [] → y ∈ L ∧ pre.length + 1 ≤ 256 from fun pre y t h => ⟨goS_mem _ _ _ y (by rw [← h]; simp), by have h1 := goS_len (hasL xs) L []; rw [← h] at h1; simp at h1; have := HLN.out; omega⟩)
 go_wp2_with fail
 refine wpIn_wide.1 (wpIn_rangeB (n := 3) 11 6 rfl (by omega) rfl trivial (enters_of Tryz.func82 (by kernel_rfl) rfl) (below1_seq 2 (q1.heap.size) (u1.heap.size) bm xs.length (hasL xs) A c B L u2 (Nat.le_trans HB.out HBu2.out.size) vu2.out HXi.out HSM2.out (HX.out.keep (HBu2.out.mono HB.out)) (by have := HLN.out; omega) (by have := HNUM.out; omega)) (fun k hk => by have hk : k = u2.heap.size + 2 := hk; show k ≠ _ ∧ k ≠ _; omega) (fun h => by have := HNUM.out; unfold beZ at h; omega) (SubG 3 w (w1.heap.size) (u2.heap.size + 3) idxX) (SubG.abid (by have := HNUM.out; omega) (by have := HNUM.out; omega) (by omega)) (SubG.putl (by have := HNUM.out; omega) (by have := HNUM.out; omega) (by omega)) (fun W0 hW0 hs0 => ⟨HBu2.out.trans (hW0.mono HBu2.out.size), by have := HNUM.out; omega, .slice none 0 0, lu2.out.kept (grown_none hW0) (fun e => by cases e), (fun k hk => by cases hk), OwnsS.nil_ _ _ _ _⟩) (nxX_keep (by have := HNUM.out; omega)) (fun x => #[.int .i64 x.1.idx, .int .i64 x.1.par, .string x.1.nm, .string x.1.orig, .string x.1.sub, .string x.1.drv, .string x.1.ali, .int .i64 x.1.kind, .int .i64 x.1.num, .slice x.2.1 x.1.attrs.length x.2.2]) 34 ?assign ?body ?done)
 case assign =>
  intro l x W0 K hK
  simp only [encV] at hK ⊢
  gi_wp2
  exact hK
 case body =>
  rintro pre ⟨y, A3, c3⟩ N W0 g7 hJ hN hNg hNx hbox hsz
  obtain ⟨hjb, hjN, v, hjx, hjv, hjo⟩ := hJ
  obtain ⟨⟨t, ht⟩, hok, hat⟩ := hNx
  obtain ⟨hym, hpl⟩ := HDL.out pre y t ht
  have HNW := Lib.hid (show N ≤ W0.heap.size ∧ g7 < W0.heap.size from ⟨Nat.le_trans hNg (Nat.le_of_lt hbox.2.2), hbox.2.2⟩)
  have HWB := Lib.hid (show (u2.heap.size + 3) ≤ W0.heap.size by have := hbox.2.2; omega)
  have HJB := Lib.hid hjb; have HJX := Lib.hid hjx; have HJV := Lib.hid hjv; have HJO := Lib.hid hjo; have HJN := Lib.hid hjN; have HNG := Lib.hid hNg; have HNN := Lib.hid hN; have HSZ := Lib.hid hsz; have HOK := Lib.hid hok
  have hfl : (idxX pre).length = pre.length := by unfold idxX; simp
  have HAM := Lib.hid (show (idxX pre).length + 1 ≤ maxLen ∧ ((idxX pre).length + 1) * 8 ≤ 140737488355328 by constructor <;> first | (unfold maxLen; omega) | omega)
  simp only [encV]
  have y0 := hbox.1 0 _ rfl; have x0 := hjx.1 0 _ rfl
  obtain ⟨q2, hq2⟩ : ∃ z, W0.alloc (.cells #[.int .i64 y.idx] 3) = z := ⟨_, rfl⟩
  have hb2 : Below W0.heap.size W0 q2 := by rw [← hq2]; exact (Below.refl _ _).alloc (Nat.le_refl _) _
  have HGA := Lib.hid (show q2.heap.size = W0.heap.size + 1 by rw [← hq2]; simp)
  have HNEW := Lib.hid (lit_cells hq2 (l := [.int .i64 y.idx]) rfl)
  have HB2 := Lib.hid hb2; have HX2 := Lib.hid (hjx.kept (grown_none hb2) (fun e => by cases e))
  have HRD := Lib.hid (show RepS.rdS q2 (fun b => (u2.heap.size + 3) ≤ b ∧ b < q2.heap.size ∧ v.ownBlock ≠ some b) y.idx [.int .i64 y.idx] from ⟨rfl, HOK.out.1⟩)
  clear hjb hjN hjx hjv hjo ht hok hat hbox hsz hNg hN hpl hfl hym hb2
  gi_wp2_with (gi_at_builtin; go_must (refine wpListIn_app rfl _ _ rfl v (.slice (some ⟨W0.heap.size, 0, none⟩) 1 1) rfl rfl (run_app1 E_int _ v _ (HJO.out.below HB2.out) W0.heap.size y.idx [.int .i64 y.idx] HNEW.out HRD.out HAM.out.1 HAM.out.2 (by have := HB2.out.size; have := HWB.out; omega)) ?_); rintro v2 q3 ⟨ho, hg, -⟩; obtain ⟨A9, c9, rfl, -⟩ := ho.cs; have HO3 := Lib.hid ho; have HG3 := Lib.hid hg; clear x0 y0; have hx3_ := HX2.out.kept hg (fun e => by have := (HJV.out _ e.symm).1; have := HNUM.out; omega); have x0 := hx3_.1 0 _ rfl; have xf := hx3_.2.1; clear hx3_ ho hg)
  exact subG_round (x := (y, A3, c3)) (a := { tmps := #[], defers := [] }) HJB.out HJN.out HJX.out HJV.out HB2.out HG3.out (by have h := HO3.out; rw [List.length_append] at h; rw [idxX_snoc]; exact h) (by have := HNUM.out; omega) (fun h => by have := HNUM.out; unfold beZ at h; omega) (fun k hk h => by have := HNUM.out; unfold beZ at h; omega) (by have := HNUM.out; omega) (by have := HSZ.out; omega)
 case done =>
  intro zs N W0 hS hJ hD
  have hl : idxX zs = closR L xs := by rw [idxX_fst, hS]; exact clos_go HV.out.wf xs
  obtain ⟨v, A9, c9, rfl, hbx, hend⟩ := hJ.done hl (by have := HNUM.out; omega)
  have HD := Lib.hid hD; have HE := Lib.hid hend; clear hS hJ hD hend hl
  have s0 := hbx.1 0 _ rfl; clear hbx
  go_wp2
  refine ⟨by simp, .inl ⟨_, _, rfl, run_takeDeferred HD.out, ?_⟩⟩
  obtain ⟨h1, h2⟩ := HE.out u2.heap.size (.deferred none) (by have := HNUM.out; omega) (by omega)
  exact ⟨_, results_tmp rfl _ _ _, h1, _, rfl, by exact h2⟩
end Go.Proofs.YtomcebcaendilaaGreatDoor
