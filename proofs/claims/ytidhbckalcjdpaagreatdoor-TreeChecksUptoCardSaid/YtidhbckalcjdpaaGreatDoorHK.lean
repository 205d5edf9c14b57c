/-
  The walk of package tree's Check.
-/
import Derived.Test.YtidhbckalcjdpaaGreatDoorHJ
set_option linter.unusedSimpArgs false
set_option linter.unusedVariables false
namespace Go.Cold
open Go Go.RowKit
def chkAll (L : List Dev) : Int := if 256 < L.length then 40 else chkGo chkP [] L
theorem chk_step {L : List Dev} {k : Nat} {y : Dev} (hk : L[k]? = some y) : chkGo chkP (L.take k) (L.drop k) = if chkP (L.take k) y ≠ 0 then chkP (L.take k) y else chkGo chkP (L.take (k + 1)) (L.drop (k + 1)) := by
 obtain ⟨h1, h2⟩ := List.getElem?_eq_some_iff.1 hk
 rw [List.drop_eq_getElem_cons h1, h2, chkGo, List.take_add_one, hk]
 rfl
/-- Where Check stands, in plain. -/
def ChkAt (L : List Dev) (k : Nat) : Prop := chkGo chkP [] L = chkGo chkP (L.take k) (L.drop k) ∧ ∀ d ∈ L.take k, d.orig.size ≤ 32
theorem ChkAt.err {L : List Dev} {k : Nat} {y : Dev} {c : Int} (h : ChkAt L k) (hl : ¬ 256 < L.length) (hk : L[k]? = some y) (hc : chkP (L.take k) y = c) (h0 : c ≠ 0) : chkAll L = c := by
 unfold chkAll
 rw [if_neg hl, h.1, chk_step hk, hc, if_pos h0]
theorem ChkAt.next {L : List Dev} {k : Nat} {y : Dev} (h : ChkAt L k) (hk : L[k]? = some y) (hc : chkP (L.take k) y = 0) (hs : y.orig.size ≤ 32) : ChkAt L (k + 1) := by
 refine ⟨by rw [h.1, chk_step hk, if_neg (by simp [hc])], fun d hd => ?_⟩
 rw [List.take_add_one, hk] at hd
 rcases List.mem_append.1 hd with hd | hd
 · exact h.2 d hd
 · simp at hd; subst hd; exact hs
theorem ChkAt.end_ {L : List Dev} (h : ChkAt L L.length) (hl : ¬ 256 < L.length) : chkAll L = 0 := by
 unfold chkAll
 rw [if_neg hl, h.1, List.take_length, List.drop_length]; rfl
theorem last_take {L : List Dev} {m : Nat} {y : Dev} (hm : L[m]? = some y) : (L.take (m + 1)).getLast? = some y := by
 rw [List.take_add_one, hm]
 simp
def ChSt (P : Program) (tI tS : TypeId) (w0 : World) (g1 bo : Nat) (A : Option Addr) (c : Nat) (L : List Dev) (k : Nat) (w : World) : Prop :=
 Below w0.heap.size w0 w ∧ BoxL w g1 [.slice A L.length c] ∧ MapV P tI tS w bo k (orgM (L.take k))
end Go.Cold
namespace Go.Proofs.YtidhbckalcjdpaaGreatDoor
open Go.RowKit Go.Cold
set_option maxRecDepth 100000 in
set_option maxHeartbeats 8000000 in
/-- tree.Check. -/
theorem TCheck_any (A : Option Addr) (c : Nat) (L : List Dev) (w : World) (B : Nat) (hB : B ≤ w.heap.size) (hx : Sl w B A c L) (hsm : ∀ d ∈ L, d.orig.size ≤ 2147483648) (hok : Ok w) :
  Calls Tryz.prog 16 #[.agg #[.slice A L.length c]] w fun e w' => e = .returned (.int .i64 (chkAll L)) ∧ Below w.heap.size w w' := by
 have hx1 := hx.1; have hx2 := hx.2.1
 unfold maxLen at hx2
 have HX := Lib.hid hx; have HB := Lib.hid hB; have HOK := Lib.hid hok; have HSM := Lib.hid hsm
 clear hx hB hok hsm
 go_enter Tryz.func16, Tryz.ntmps16
 go_upto_region 1 with fail
 obtain ⟨w1, hw1⟩ : ∃ w1, w.alloc (.cells #[.slice A L.length c] 29) = w1 := ⟨_, rfl⟩
 have hbw1 : Below w.heap.size w w1 := by rw [← hw1]; exact (Below.refl _ _).alloc (Nat.le_refl _) _
 have HGw1 := Lib.hid (show w1.heap.size = w.heap.size + 1 by rw [← hw1]; simp)
 have HXtw1 := Lib.hid (show BoxL w1 w.heap.size [.slice A L.length c] from box_mk hw1)
 try simp only [hw1]
 have HSw1 := Lib.hid (show w.heap.size ≤ w1.heap.size from hbw1.size)
 have HBw1 := Lib.hid hbw1
 clear hw1 hbw1
 try rw [show w.heap.size + 1 = w1.heap.size from HGw1.out.symm]
 have ct0 := HXtw1.out.1 0 _ rfl
 by_cases hl : 256 < L.length
 ·
  have i4 : (256 : Int) < (L.length : Int) := by omega
  have HE := Lib.hid (show chkAll L = 40 by unfold chkAll; rw [if_pos hl]); clear hl
  go_wp2
  go_ret
  exact ⟨by rw [HE.out]; try rfl, HBw1.out⟩
 ·
  have i4 : ¬ (256 : Int) < (L.length : Int) := by omega
  have HL := Lib.hid hl; clear hl
  have hmk1 := fun z => run_makeMap (P := Tryz.prog) 64 z
  go_upto_region 4 with fail
  clear hmk1
  obtain ⟨w2, hw2⟩ : ∃ z, w1.alloc (.map #[] 0) = z := ⟨_, rfl⟩
  have hb2 : Below w1.heap.size w1 w2 := by rw [← hw2]; exact (Below.refl _ _).alloc (Nat.le_refl _) _
  have hm2 : MapV Tryz.prog 3 9 w2 w1.heap.size 0 (fun _ => (none : Option ByteArray)) := by rw [← hw2]; exact MapV.made w1 _ _ _
  simp only [hw2]
  have HSw2 := Lib.hid (show w1.heap.size ≤ w2.heap.size from hb2.size)
  have HBw2 := Lib.hid (HBw1.out.trans (hb2.mono HBw1.out.size))
  have tw2 := Lib.hid (HXtw1.out.kept (grown_none hb2) (fun e => by cases e))
  have HST := Lib.hid (show ChSt Tryz.prog 3 9 w w.heap.size w1.heap.size A c L 0 w2 from ⟨HBw2.out, tw2.out, hm2⟩)
  clear hw2 hb2 hm2
  clear ct0
  have ct0 := tw2.out.1 0 _ rfl
  go_wp2_with fail
  clear ct0
  have HCA := Lib.hid (show ChkAt L 0 from ⟨rfl, fun d hd => by simp at hd⟩)
  go_loopw [19] (fun i wr => ∃ k : Nat, k ≤ L.length ∧ i = .int .i64 k ∧ Hid (ChkAt L k) ∧ Hid (ChSt Tryz.prog 3 9 w w.heap.size w1.heap.size A c L k wr)) (fun i _ => L.length - (intOf i).toNat)
  case atStart => exact ⟨0, Nat.zero_le _, rfl, HCA, HST⟩
  case round =>
   clear HST HCA
   obtain ⟨k, hk, rfl, HCA, HST⟩ := hrel
   have HBR := Lib.hid HST.out.1; have HTR := Lib.hid HST.out.2.1; have HMO := Lib.hid HST.out.2.2
   by_cases hlt : k < L.length
   ·
    have i1 : (k : Int) < (L.length : Int) := by omega
    have i2 : L.length ≤ 256 := by have := HL.out; omega
    have HI2 := Lib.hid i2; clear i2
    obtain ⟨b3, o3, rfl, hb3, A3, c3, hok3, hat3, hcs3⟩ := (HX.out.keep (HST.out.1.mono HB.out)).dev hlt
    have hxk : L[k]? = some L[k] := List.getElem?_eq_getElem hlt
    have hsk := HSM.out _ (List.getElem_mem hlt)
    obtain ⟨y, hy⟩ : ∃ y, L[k]'hlt = y := ⟨_, rfl⟩
    rw [hy] at hok3 hcs3 hxk hat3 hsk
    have HXK := Lib.hid hxk; have HOK3 := Lib.hid hok3; have HAT := Lib.hid (hat3.more (Nat.le_trans HB.out HST.out.1.size)); have HSK := Lib.hid hsk
    clear hxk hok3 hb3 hy hat3 hsk
    obtain ⟨y0, y1, y2, y3, y4, y5, y6, y7, y8, y9⟩ := hcs3
    go_upto_region 7 with fail
    clear y0 y1 y2 y3 y4 y5 y6 y7 y8 y9
    obtain ⟨w3, hw3⟩ : ∃ w3, wr.alloc (.cells #[.int .i64 y.idx, .int .i64 y.par, .string y.nm, .string y.orig, .string y.sub, .string y.drv, .string y.ali, .int .i64 y.kind, .int .i64 y.num, .slice A3 y.attrs.length c3] 34) = w3 := ⟨_, rfl⟩
    have hbw3 : Below wr.heap.size wr w3 := by rw [← hw3]; exact (Below.refl _ _).alloc (Nat.le_refl _) _
    have HGw3 := Lib.hid (show w3.heap.size = wr.heap.size + 1 by rw [← hw3]; simp)
    have HXdw3 := Lib.hid (show BoxL w3 wr.heap.size [.int .i64 y.idx, .int .i64 y.par, .string y.nm, .string y.orig, .string y.sub, .string y.drv, .string y.ali, .int .i64 y.kind, .int .i64 y.num, .slice A3 y.attrs.length c3] from box_mk hw3)
    try simp only [hw3]
    have HSw3 := Lib.hid (show wr.heap.size ≤ w3.heap.size from hbw3.size)
    have HBw3 := Lib.hid (HBR.out.trans (hbw3.mono HBR.out.size))
    have tw3 := Lib.hid (HTR.out.kept (grown_none hbw3) (fun e => by cases e))
    have HMOw3 := Lib.hid (HMO.out.next hbw3)
    have HATw3 := Lib.hid (HAT.out.next (Nat.le_refl _) hbw3)
    clear hw3 hbw3
    try rw [show wr.heap.size + 1 = w3.heap.size from HGw3.out.symm]
    have ct0 := tw3.out.1 0 _ rfl
    have cd0 := HXdw3.out.1 0 _ rfl
    have cd1 := HXdw3.out.1 1 _ rfl
    have cd3 := HXdw3.out.1 3 _ rfl
    have hl1 := look_str_ok HMOw3.out HOK3.out.2.1
    have hl2 := look_str_ok HMOw3.out HOK3.out.1
    rw [orgM_str, orgM_some] at hl1 hl2
    obtain ⟨a, ha⟩ : ∃ z, strF (L.take k) y.par = z := ⟨_, rfl⟩
    obtain ⟨b2, hb2⟩ : ∃ z, strF (L.take k) y.idx = z := ⟨_, rfl⟩
    obtain ⟨there, hth⟩ : ∃ z, (idxs (L.take k)).contains y.par = z := ⟨_, rfl⟩
    obtain ⟨taken, htk⟩ : ∃ z, (idxs (L.take k)).contains y.idx = z := ⟨_, rfl⟩
    rw [ha, hth] at hl1
    rw [hb2, htk] at hl2
    have hstr : ∀ n, (strF (L.take k) n).size ≤ 8448 := str_size HCA.out.2 (by rw [List.length_take]; have := HI2.out; omega)
    have hasz : a.size ≤ 8448 := by rw [← ha]; exact hstr _
    have HSTR := Lib.hid hstr; have HAS := Lib.hid hasz; have HAE := Lib.hid ha; have HTH := Lib.hid hth; have HTK := Lib.hid htk; clear ha hb2 hth htk hasz hstr
    have f1 : ¬ 9223372036854775807 < a.size + 1 := by have := HAS.out; omega
    have f2 : ¬ 9223372036854775807 < a.size + 1 + y.orig.size := by have := HAS.out; have := HSK.out; omega
    go_upto_region 10 with fail
    clear hl1 hl2 f1 f2
    obtain ⟨s, hs⟩ : ∃ s, a ++ ⟨#[47]⟩ ++ y.orig = s := ⟨_, rfl⟩
    have hssz : s.size < 4294967281 := by rw [← hs, ByteArray.size_append, ByteArray.size_append]; have h5 : (⟨#[47]⟩ : ByteArray).size = 1 := rfl; have := HAS.out; have := HSK.out; omega
    try simp only [hs]
    have HSO := Lib.hid (show (strF (L.take k) y.par ++ ⟨#[47]⟩) ++ y.orig = s by rw [HAE.out]; exact hs); have HSS := Lib.hid hssz; clear hssz hs
    clear ct0 cd0 cd1 cd3
    have cd0 := HXdw3.out.1 0 _ rfl
    have cd1 := HXdw3.out.1 1 _ rfl
    have cd2 := HXdw3.out.1 2 _ rfl
    have cd3 := HXdw3.out.1 3 _ rfl
    have cd4 := HXdw3.out.1 4 _ rfl
    have cd5 := HXdw3.out.1 5 _ rfl
    have cd6 := HXdw3.out.1 6 _ rfl
    have cd7 := HXdw3.out.1 7 _ rfl
    have cd8 := HXdw3.out.1 8 _ rfl
    have cd9 := HXdw3.out.1 9 _ rfl
    go_wp2_with fail
    refine (Check_any y A3 c3 _ _ (Nat.le_refl _) HOK3.out HATw3.out (HOK.out.next HBw3.out)).mono ?_
    rintro e w4 ⟨rfl, hbw4⟩
    clear cd0 cd1 cd2 cd3 cd4 cd5 cd6 cd7 cd8 cd9
    have HSw4 := Lib.hid (show w3.heap.size ≤ w4.heap.size from hbw4.size)
    have HBw4 := Lib.hid (HBw3.out.trans (hbw4.mono HBw3.out.size))
    have tw4 := Lib.hid (tw3.out.kept (grown_none hbw4) (fun e => by cases e))
    have dw4 := Lib.hid (HXdw3.out.kept (grown_none hbw4) (fun e => by cases e))
    have HMOw4 := Lib.hid (HMOw3.out.next hbw4)
    have HATw4 := Lib.hid (HATw3.out.next (Nat.le_refl _) hbw4)
    clear hbw4
    have cd1 := dw4.out.1 1 _ rfl
    by_cases hc : checkD y = 0
    ·
     have HDS := Lib.hid (show validB y.orig = true from (check_names hc).2.1)
     have ec : (checkD y != 0) = false := by rw [hc]; rfl
     have HC := Lib.hid hc; try rw [hc]
     clear hc
     cases taken with
     | true =>
      have HE := Lib.hid (HCA.out.err HL.out HXK.out (c := 44) (by unfold chkP; rw [if_neg (by rw [HC.out]; decide), if_pos HTK.out]) (by decide))
      go_wp2
      go_ret
      exact ⟨by rw [HE.out]; try rfl, HBw4.out⟩
     | false =>
      by_cases hp : y.par = 0
      ·
       have ep : (y.par != 0) = false := by rw [hp]; rfl
       have HP := Lib.hid (show ¬ (y.par ≠ 0 ∧ (idxs (L.take k)).contains y.par = false) from fun h => h.1 hp); clear hp
       go_wp2_with fail
       refine (depth_any s _ HSS.out (HOK.out.next HBw4.out)).mono ?_
       rintro e w5 ⟨rfl, hbw5⟩
       clear cd1
       have HSw5 := Lib.hid (show w4.heap.size ≤ w5.heap.size from hbw5.size)
       have HBw5 := Lib.hid (HBw4.out.trans (hbw5.mono HBw4.out.size))
       have tw5 := Lib.hid (tw4.out.kept (grown_none hbw5) (fun e => by cases e))
       have dw5 := Lib.hid (dw4.out.kept (grown_none hbw5) (fun e => by cases e))
       have HMOw5 := Lib.hid (HMOw4.out.next hbw5)
       clear hbw5
       have ct0 := tw5.out.1 0 _ rfl
       obtain ⟨dp, hdp⟩ : ∃ z, depthS s = z := ⟨_, rfl⟩
       rw [hdp]
       have HDP := Lib.hid hdp; clear hdp
       by_cases h7 : 7 < dp
       ·
        have H7 := Lib.hid h7
        have HE := Lib.hid (HCA.out.err HL.out HXK.out (c := 46) (by unfold chkP; rw [if_neg (by rw [HC.out]; decide), if_neg (by rw [HTK.out]; decide), if_neg HP.out, HSO.out, if_pos (by rw [HDP.out]; have := H7.out; omega)]) (by decide))
        go_wp2
        go_ret
        exact ⟨by rw [HE.out]; try rfl, HBw5.out⟩
       ·
        have H7 := Lib.hid h7
        go_upto_region 18 with fail
        go_cut [61] (fun s61 wx => s61 = .bool (lastP (L.take k) s) ∧ Hid (Below w5.heap.size w5 wx))
        case first =>
         by_cases hk0 : 0 < k
         ·
          have i5 : (0 : Int) < (k : Int) := by omega
          obtain ⟨m, hm⟩ : ∃ m, k = m + 1 := ⟨k - 1, by omega⟩
          have hml : m < L.length := by omega
          have i6 : (k : Int) - 1 = (m : Int) := by omega
          have i7 : m ≤ 256 := by have := HI2.out; omega
          obtain ⟨b4, o4, he4, -, A4, c4, hok4, -, hcs4⟩ := (HX.out.keep (HBw5.out.mono HB.out)).dev hml
          cases he4
          have hxm : L[m]? = some L[m] := List.getElem?_eq_getElem hml
          obtain ⟨y4, hy4⟩ : ∃ y, L[m]'hml = y := ⟨_, rfl⟩
          rw [hy4] at hok4 hcs4 hxm
          have x0 := hcs4.1
          have hlk := look_str HMOw5.out hok4.1
          rw [orgM_str] at hlk
          have hLP : lastP (L.take k) s = decide (0 ≤ cmpV (strF (L.take k) y4.idx) s) := by unfold lastP; rw [show (L.take k).getLast? = some y4 by rw [hm]; exact last_take hxm]
          have husz := HSTR.out y4.idx
          obtain ⟨u, hu⟩ : ∃ u, strF (L.take k) y4.idx = u := ⟨_, rfl⟩
          rw [hu] at hlk hLP husz
          have HLP := Lib.hid hLP; have HUS := Lib.hid husz
          clear hok4 hcs4 hxm hy4 hLP husz hu hm hk0
          go_wp2_with fail
          refine (order_any u s _ (by have := HUS.out; omega) HSS.out (HOK.out.next HBw5.out)).mono ?_
          rintro e w6 ⟨rfl, hbw6⟩
          clear ct0
          have HSw6 := Lib.hid (show w5.heap.size ≤ w6.heap.size from hbw6.size)
          have HBw6 := Lib.hid (HBw5.out.trans (hbw6.mono HBw5.out.size))
          have tw6 := Lib.hid (tw5.out.kept (grown_none hbw6) (fun e => by cases e))
          have dw6 := Lib.hid (dw5.out.kept (grown_none hbw6) (fun e => by cases e))
          have HMOw6 := Lib.hid (HMOw5.out.next hbw6)
          have HTT := Lib.hid hbw6; clear hbw6
          clear hlk x0
          obtain ⟨z, hz⟩ : ∃ z, cmpV u s = z := ⟨_, rfl⟩
          rw [hz] at HLP ⊢
          clear hz
          go_wp2_with fail
          go_meet
          exact ⟨by rw [HLP.out], HTT⟩
         ·
          have i5 : ¬ (0 : Int) < (k : Int) := by omega
          have HLP := Lib.hid (show false = lastP (L.take k) s by rw [show k = 0 by omega]; rfl)
          clear hk0
          go_wp2_with fail
          go_meet
          exact ⟨by rw [HLP.out], Below.refl _ _⟩
        case rest =>
        obtain ⟨rfl, hq⟩ := hcut
        have hbq := hq.out
        clear hq
        obtain ⟨wk, hwk⟩ : ∃ z, z = wc := ⟨_, rfl⟩
        subst hwk
        clear ct0
        have HSwk := Lib.hid (show w5.heap.size ≤ wk.heap.size from hbq.size)
        have HBwk := Lib.hid (HBw5.out.trans (hbq.mono HBw5.out.size))
        have twk := Lib.hid (tw5.out.kept (grown_none hbq) (fun e => by cases e))
        have dwk := Lib.hid (dw5.out.kept (grown_none hbq) (fun e => by cases e))
        have HMOwk := Lib.hid (HMOw5.out.next hbq)
        clear hbq
        cases hsa : lastP (L.take k) s with
        | true =>
         have HSA := Lib.hid hsa; clear hsa
         have HE := Lib.hid (HCA.out.err HL.out HXK.out (c := 43) (by unfold chkP; rw [if_neg (by rw [HC.out]; decide), if_neg (by rw [HTK.out]; decide), if_neg HP.out, HSO.out, if_neg (by rw [HDP.out]; have := H7.out; omega), if_pos HSA.out]) (by decide))
         go_wp2
         go_ret
         exact ⟨by rw [HE.out]; try rfl, HBwk.out⟩
        | false =>
         have HSA := Lib.hid hsa; clear hsa
         go_upto_region 20 with fail
         go_cut [78] (fun s78 wx => s78 = .bool (clashesB (L.take k) y) ∧ Hid (Below wk.heap.size wk wx))
         case first =>
          refine wp_region_held_drew (S := fun w' => BoxL w' w.heap.size [.slice (some ⟨b3, o3, none⟩) L.length c] ∧ BoxL w' wr.heap.size [.int .i64 y.idx, .int .i64 y.par, .string y.nm, .string y.orig, .string y.sub, .string y.drv, .string y.ali, .int .i64 y.kind, .int .i64 y.num, .slice A3 y.attrs.length c3]) (by kernel_rfl) ⟨twk.out.drew, dwk.out.drew⟩ (fun hS0 => ?_)
          obtain ⟨wd, hwd⟩ : ∃ z, wk.drew = z := ⟨_, rfl⟩
          rw [hwd] at hS0 ⊢
          have hbd : Below wk.heap.size wk wd := by rw [← hwd]; exact below_drewN_self _ _ 1
          clear hwd
          have HBD0 := Lib.hid hbd
          have HSwd := Lib.hid (show wk.heap.size ≤ wd.heap.size from hbd.size)
          have HBwd := Lib.hid (HBwk.out.trans (hbd.mono HBwk.out.size))
          have twd := Lib.hid (twk.out.kept (grown_none hbd) (fun e => by cases e))
          have dwd := Lib.hid (dwk.out.kept (grown_none hbd) (fun e => by cases e))
          have HMOwd := Lib.hid (HMOwk.out.next hbd)
          clear hbd
          have HS1 := Lib.hid hS0; clear hS0
          refine wpAnyH_take (i := 0) (oi := ⟨some 79, _, _, _, _, _⟩) (v := .pointer (some ⟨w.heap.size, 0, none⟩)) rfl (by kernel_rfl) (by kernel_rfl) (by kernel_rfl) (fun _ _ _ h => h) (Or.inl ⟨by rfl, fun w' hS => by go_simp⟩) HS1.out ?_
          try simp only [Act.put, List.setIfInBounds_toArray, List.set_cons_zero, List.set_cons_succ]
          refine wpAnyH_take (i := 1) (oi := ⟨some 80, _, _, _, _, _⟩) (v := .slice (some ⟨b3, o3, none⟩) L.length c) rfl (by kernel_rfl) (by kernel_rfl) (by kernel_rfl) (fun _ _ _ h => h) (Or.inl ⟨by rfl, fun w' hS => by (have u0_ := hS.1.1 0 _ rfl; go_simp)⟩) HS1.out ?_
          try simp only [Act.put, List.setIfInBounds_toArray, List.set_cons_zero, List.set_cons_succ]
          refine wpAnyH_take (i := 2) (oi := ⟨some 81, _, _, _, _, _⟩) (v := .int .i64 k) rfl (by kernel_rfl) (by kernel_rfl) (by kernel_rfl) (fun _ _ _ h => h) (Or.inl ⟨by rfl, fun w' hS => by go_simp⟩) HS1.out ?_
          try simp only [Act.put, List.setIfInBounds_toArray, List.set_cons_zero, List.set_cons_succ]
          have hkl : k ≤ L.length := by omega
          have hkc : k ≤ c := by omega
          refine wpAnyH_take (i := 3) (oi := ⟨some 82, _, _, _, _, _⟩) (v := .slice (some ⟨b3, o3, none⟩) k c) rfl (by kernel_rfl) (by kernel_rfl) (by kernel_rfl) (fun _ _ _ h => h) (Or.inl ⟨by rfl, fun w' hS => by go_simp⟩) HS1.out ?_
          try simp only [Act.put, List.setIfInBounds_toArray, List.set_cons_zero, List.set_cons_succ]
          refine wpAnyH_take (i := 4) (oi := ⟨some 83, _, _, _, _, _⟩) (v := .agg #[.int .i64 y.idx, .int .i64 y.par, .string y.nm, .string y.orig, .string y.sub, .string y.drv, .string y.ali, .int .i64 y.kind, .int .i64 y.num, .slice A3 y.attrs.length c3]) rfl (by kernel_rfl) (by kernel_rfl) (by kernel_rfl) (fun _ _ _ h => h) (Or.inl ⟨by rfl, fun w' hS => by (have u0_ := hS.2.1 0 _ rfl; have u1_ := hS.2.1 1 _ rfl; have u2_ := hS.2.1 2 _ rfl; have u3_ := hS.2.1 3 _ rfl; have u4_ := hS.2.1 4 _ rfl; have u5_ := hS.2.1 5 _ rfl; have u6_ := hS.2.1 6 _ rfl; have u7_ := hS.2.1 7 _ rfl; have u8_ := hS.2.1 8 _ rfl; have u9_ := hS.2.1 9 _ rfl; go_simp)⟩) HS1.out ?_
          try simp only [Act.put, List.setIfInBounds_toArray, List.set_cons_zero, List.set_cons_succ]
          have hcl := clashes_any (some ⟨b3, o3, none⟩) c (L.take k) y A3 c3 wd B (Nat.le_trans HB.out HBwd.out.size) ((HX.out.keep (HBwd.out.mono HB.out)).take hkl) (fun x hx => by have := HCA.out.2 x hx; omega) (by have := HSK.out; omega) (HOK.out.next HBwd.out)
          rw [List.length_take, Nat.min_eq_left hkl] at hcl
          have HCALL := Lib.hid hcl; clear hcl hkl hkc
          refine wpAnyH_ready (rs := [5]) (by kernel_rfl) (by simp) ?_
          refine AllReadyH.cons (o := ⟨some 84, .call ⟨_, _, _⟩, _, _, _, _⟩) rfl (fun K hK => ?_) AllReadyH.nil
          go_simp
          go_at_call 55
          refine (HCALL.out).mono ?_
          rintro e' q7 ⟨rfl, hb_⟩
          have HBQ := Lib.hid (HBD0.out.trans (hb_.mono HBD0.out.size))
          have HSQ := Lib.hid (show (BoxL q7 w.heap.size [.slice (some ⟨b3, o3, none⟩) L.length c] ∧ BoxL q7 wr.heap.size [.int .i64 y.idx, .int .i64 y.par, .string y.nm, .string y.orig, .string y.sub, .string y.drv, .string y.ali, .int .i64 y.kind, .int .i64 y.num, .slice A3 y.attrs.length c3]) from ⟨HS1.out.1.kept (grown_none hb_) (fun e => by cases e), HS1.out.2.kept (grown_none hb_) (fun e => by cases e)⟩)
          clear hb_
          refine hK.out _ _ HSQ.out (fun _ => ?_)
          clear hK K
          try simp only [Act.put, List.setIfInBounds_toArray, List.set_cons_zero, List.set_cons_succ]
          refine wpAnyH_take (i := 6) (oi := ⟨some 78, _, _, _, _, _⟩) (v := .bool (clashesB (L.take k) y)) rfl (by kernel_rfl) (by kernel_rfl) (by kernel_rfl) (fun _ _ _ h => h) (Or.inl ⟨by rfl, fun w' hS => by go_simp⟩) HSQ.out ?_
          try simp only [Act.put, List.setIfInBounds_toArray, List.set_cons_zero, List.set_cons_succ]
          refine wpAnyH_done (by kernel_rfl) ?_ _
          go_wp2_with fail
          go_meet
          exact ⟨rfl, HBQ⟩
         case rest =>
         obtain ⟨rfl, hq⟩ := hcut
         have hbq := hq.out
         clear hq
         have HSwc := Lib.hid (show wk.heap.size ≤ wc.heap.size from hbq.size)
         have HBwc := Lib.hid (HBwk.out.trans (hbq.mono HBwk.out.size))
         have twc := Lib.hid (twk.out.kept (grown_none hbq) (fun e => by cases e))
         have dwc := Lib.hid (dwk.out.kept (grown_none hbq) (fun e => by cases e))
         have HMOwc := Lib.hid (HMOwk.out.next hbq)
         clear hbq
         have cd0 := dwc.out.1 0 _ rfl
         cases hcl : clashesB (L.take k) y with
         | true =>
          have HCL := Lib.hid hcl; clear hcl
          have HE := Lib.hid (HCA.out.err HL.out HXK.out (c := 44) (by unfold chkP; rw [if_neg (by rw [HC.out]; decide), if_neg (by rw [HTK.out]; decide), if_neg HP.out, HSO.out, if_neg (by rw [HDP.out]; have := H7.out; omega), if_neg (by rw [HSA.out]; decide), if_pos HCL.out]) (by decide))
          go_wp2
          go_ret
          exact ⟨by rw [HE.out]; try rfl, HBwc.out⟩
         | false =>
          have HCL := Lib.hid hcl; clear hcl
          have HNX := Lib.hid (HCA.out.next HXK.out (by unfold chkP; rw [if_neg (by rw [HC.out]; decide), if_neg (by rw [HTK.out]; decide), if_neg HP.out, HSO.out, if_neg (by rw [HDP.out]; have := H7.out; omega), if_neg (by rw [HSA.out]; decide), if_neg (by rw [HCL.out]; decide)]) (valid_size HDS.out))
          have HNE := Lib.hid (show w1.heap.size ≠ w.heap.size by have := HGw1.out; omega)
          have HMS := Lib.hid (show s.size ≤ maxLen by have := HSS.out; unfold maxLen; omega)
          have HKM := Lib.hid (show k < maxLen by have := HI2.out; unfold maxLen; omega)
          have hf2 := orgM_step HXK.out
          have hos := orgM_str (L.take k) y.par
          rw [hos, HSO.out] at hf2
          have HF2 := Lib.hid hf2; clear hf2 hos
          go_wp2_with (at_mapUpdate; refine wpList_put rfl _ _ _ _ rfl HMOwc.out Tryz.underlying64 Tryz.underlying3 Tryz.underlying9 rfl y.idx s HOK3.out.1 HMS.out HKM.out rfl rfl ?_; intro w9 hm_ hg_; have HM9 := Lib.hid hm_; have HB9 := Lib.hid (HBwc.out.grown hg_ HBwc.out.size (fun q hq => by have := Option.some.inj hq; have := HGw1.out; omega)); have HT9 := Lib.hid (twc.out.kept hg_ (fun e => HNE.out (Option.some.inj e).symm)); clear hm_ hg_)
          have HSTn := Lib.hid (show ChSt Tryz.prog 3 9 w w.heap.size w1.heap.size (some ⟨b3, o3, none⟩) c L (k + 1) w9 from ⟨HB9.out, HT9.out, by rw [HF2.out]; exact HM9.out⟩)
          try go_wp2
          go_roundw
          case rel => exact ⟨k + 1, by omega, by go_num, HNX, HSTn⟩
          case measure => simp [intOf]; omega
      ·
       have ep : (y.par != 0) = true := by simpa using hp
       cases there with
       | false =>
        have HP := Lib.hid (show y.par ≠ 0 ∧ (idxs (L.take k)).contains y.par = false from ⟨hp, HTH.out⟩); clear hp
        have HE := Lib.hid (HCA.out.err HL.out HXK.out (c := 42) (by unfold chkP; rw [if_neg (by rw [HC.out]; decide), if_neg (by rw [HTK.out]; decide), if_pos HP.out]) (by decide))
        go_wp2
        go_ret
        exact ⟨by rw [HE.out]; try rfl, HBw4.out⟩
       | true =>
        have HP := Lib.hid (show ¬ (y.par ≠ 0 ∧ (idxs (L.take k)).contains y.par = false) from fun h => by rw [HTH.out] at h; exact absurd h.2 (by decide)); clear hp
        go_wp2_with fail
        refine (depth_any s _ HSS.out (HOK.out.next HBw4.out)).mono ?_
        rintro e w8 ⟨rfl, hbw8⟩
        clear cd1
        have HSw8 := Lib.hid (show w4.heap.size ≤ w8.heap.size from hbw8.size)
        have HBw8 := Lib.hid (HBw4.out.trans (hbw8.mono HBw4.out.size))
        have tw8 := Lib.hid (tw4.out.kept (grown_none hbw8) (fun e => by cases e))
        have dw8 := Lib.hid (dw4.out.kept (grown_none hbw8) (fun e => by cases e))
        have HMOw8 := Lib.hid (HMOw4.out.next hbw8)
        clear hbw8
        have ct0 := tw8.out.1 0 _ rfl
        obtain ⟨dp, hdp⟩ : ∃ z, depthS s = z := ⟨_, rfl⟩
        rw [hdp]
        have HDP := Lib.hid hdp; clear hdp
        by_cases h7 : 7 < dp
        ·
         have H7 := Lib.hid h7
         have HE := Lib.hid (HCA.out.err HL.out HXK.out (c := 46) (by unfold chkP; rw [if_neg (by rw [HC.out]; decide), if_neg (by rw [HTK.out]; decide), if_neg HP.out, HSO.out, if_pos (by rw [HDP.out]; have := H7.out; omega)]) (by decide))
         go_wp2
         go_ret
         exact ⟨by rw [HE.out]; try rfl, HBw8.out⟩
        ·
         have H7 := Lib.hid h7
         go_upto_region 18 with fail
         go_cut [61] (fun s61 wx => s61 = .bool (lastP (L.take k) s) ∧ Hid (Below w8.heap.size w8 wx))
         case first =>
          by_cases hk0 : 0 < k
          ·
           have i5 : (0 : Int) < (k : Int) := by omega
           obtain ⟨m, hm⟩ : ∃ m, k = m + 1 := ⟨k - 1, by omega⟩
           have hml : m < L.length := by omega
           have i6 : (k : Int) - 1 = (m : Int) := by omega
           have i7 : m ≤ 256 := by have := HI2.out; omega
           obtain ⟨b4, o4, he4, -, A4, c4, hok4, -, hcs4⟩ := (HX.out.keep (HBw8.out.mono HB.out)).dev hml
           cases he4
           have hxm : L[m]? = some L[m] := List.getElem?_eq_getElem hml
           obtain ⟨y4, hy4⟩ : ∃ y, L[m]'hml = y := ⟨_, rfl⟩
           rw [hy4] at hok4 hcs4 hxm
           have x0 := hcs4.1
           have hlk := look_str HMOw8.out hok4.1
           rw [orgM_str] at hlk
           have hLP : lastP (L.take k) s = decide (0 ≤ cmpV (strF (L.take k) y4.idx) s) := by unfold lastP; rw [show (L.take k).getLast? = some y4 by rw [hm]; exact last_take hxm]
           have husz := HSTR.out y4.idx
           obtain ⟨u, hu⟩ : ∃ u, strF (L.take k) y4.idx = u := ⟨_, rfl⟩
           rw [hu] at hlk hLP husz
           have HLP := Lib.hid hLP; have HUS := Lib.hid husz
           clear hok4 hcs4 hxm hy4 hLP husz hu hm hk0
           go_wp2_with fail
           refine (order_any u s _ (by have := HUS.out; omega) HSS.out (HOK.out.next HBw8.out)).mono ?_
           rintro e w9 ⟨rfl, hbw9⟩
           clear ct0
           have HSw9 := Lib.hid (show w8.heap.size ≤ w9.heap.size from hbw9.size)
           have HBw9 := Lib.hid (HBw8.out.trans (hbw9.mono HBw8.out.size))
           have tw9 := Lib.hid (tw8.out.kept (grown_none hbw9) (fun e => by cases e))
           have dw9 := Lib.hid (dw8.out.kept (grown_none hbw9) (fun e => by cases e))
           have HMOw9 := Lib.hid (HMOw8.out.next hbw9)
           have HTT := Lib.hid hbw9; clear hbw9
           clear hlk x0
           obtain ⟨z, hz⟩ : ∃ z, cmpV u s = z := ⟨_, rfl⟩
           rw [hz] at HLP ⊢
           clear hz
           go_wp2_with fail
           go_meet
           exact ⟨by rw [HLP.out], HTT⟩
          ·
           have i5 : ¬ (0 : Int) < (k : Int) := by omega
           have HLP := Lib.hid (show false = lastP (L.take k) s by rw [show k = 0 by omega]; rfl)
           clear hk0
           go_wp2_with fail
           go_meet
           exact ⟨by rw [HLP.out], Below.refl _ _⟩
         case rest =>
         obtain ⟨rfl, hq⟩ := hcut
         have hbq := hq.out
         clear hq
         obtain ⟨wk, hwk⟩ : ∃ z, z = wc := ⟨_, rfl⟩
         subst hwk
         clear ct0
         have HSwk := Lib.hid (show w8.heap.size ≤ wk.heap.size from hbq.size)
         have HBwk := Lib.hid (HBw8.out.trans (hbq.mono HBw8.out.size))
         have twk := Lib.hid (tw8.out.kept (grown_none hbq) (fun e => by cases e))
         have dwk := Lib.hid (dw8.out.kept (grown_none hbq) (fun e => by cases e))
         have HMOwk := Lib.hid (HMOw8.out.next hbq)
         clear hbq
         cases hsa : lastP (L.take k) s with
         | true =>
          have HSA := Lib.hid hsa; clear hsa
          have HE := Lib.hid (HCA.out.err HL.out HXK.out (c := 43) (by unfold chkP; rw [if_neg (by rw [HC.out]; decide), if_neg (by rw [HTK.out]; decide), if_neg HP.out, HSO.out, if_neg (by rw [HDP.out]; have := H7.out; omega), if_pos HSA.out]) (by decide))
          go_wp2
          go_ret
          exact ⟨by rw [HE.out]; try rfl, HBwk.out⟩
         | false =>
          have HSA := Lib.hid hsa; clear hsa
          go_upto_region 20 with fail
          go_cut [78] (fun s78 wx => s78 = .bool (clashesB (L.take k) y) ∧ Hid (Below wk.heap.size wk wx))
          case first =>
           refine wp_region_held_drew (S := fun w' => BoxL w' w.heap.size [.slice (some ⟨b3, o3, none⟩) L.length c] ∧ BoxL w' wr.heap.size [.int .i64 y.idx, .int .i64 y.par, .string y.nm, .string y.orig, .string y.sub, .string y.drv, .string y.ali, .int .i64 y.kind, .int .i64 y.num, .slice A3 y.attrs.length c3]) (by kernel_rfl) ⟨twk.out.drew, dwk.out.drew⟩ (fun hS0 => ?_)
           obtain ⟨wd, hwd⟩ : ∃ z, wk.drew = z := ⟨_, rfl⟩
           rw [hwd] at hS0 ⊢
           have hbd : Below wk.heap.size wk wd := by rw [← hwd]; exact below_drewN_self _ _ 1
           clear hwd
           have HBD0 := Lib.hid hbd
           have HSwd := Lib.hid (show wk.heap.size ≤ wd.heap.size from hbd.size)
           have HBwd := Lib.hid (HBwk.out.trans (hbd.mono HBwk.out.size))
           have twd := Lib.hid (twk.out.kept (grown_none hbd) (fun e => by cases e))
           have dwd := Lib.hid (dwk.out.kept (grown_none hbd) (fun e => by cases e))
           have HMOwd := Lib.hid (HMOwk.out.next hbd)
           clear hbd
           have HS1 := Lib.hid hS0; clear hS0
           refine wpAnyH_take (i := 0) (oi := ⟨some 79, _, _, _, _, _⟩) (v := .pointer (some ⟨w.heap.size, 0, none⟩)) rfl (by kernel_rfl) (by kernel_rfl) (by kernel_rfl) (fun _ _ _ h => h) (Or.inl ⟨by rfl, fun w' hS => by go_simp⟩) HS1.out ?_
           try simp only [Act.put, List.setIfInBounds_toArray, List.set_cons_zero, List.set_cons_succ]
           refine wpAnyH_take (i := 1) (oi := ⟨some 80, _, _, _, _, _⟩) (v := .slice (some ⟨b3, o3, none⟩) L.length c) rfl (by kernel_rfl) (by kernel_rfl) (by kernel_rfl) (fun _ _ _ h => h) (Or.inl ⟨by rfl, fun w' hS => by (have u0_ := hS.1.1 0 _ rfl; go_simp)⟩) HS1.out ?_
           try simp only [Act.put, List.setIfInBounds_toArray, List.set_cons_zero, List.set_cons_succ]
           refine wpAnyH_take (i := 2) (oi := ⟨some 81, _, _, _, _, _⟩) (v := .int .i64 k) rfl (by kernel_rfl) (by kernel_rfl) (by kernel_rfl) (fun _ _ _ h => h) (Or.inl ⟨by rfl, fun w' hS => by go_simp⟩) HS1.out ?_
           try simp only [Act.put, List.setIfInBounds_toArray, List.set_cons_zero, List.set_cons_succ]
           have hkl : k ≤ L.length := by omega
           have hkc : k ≤ c := by omega
           refine wpAnyH_take (i := 3) (oi := ⟨some 82, _, _, _, _, _⟩) (v := .slice (some ⟨b3, o3, none⟩) k c) rfl (by kernel_rfl) (by kernel_rfl) (by kernel_rfl) (fun _ _ _ h => h) (Or.inl ⟨by rfl, fun w' hS => by go_simp⟩) HS1.out ?_
           try simp only [Act.put, List.setIfInBounds_toArray, List.set_cons_zero, List.set_cons_succ]
           refine wpAnyH_take (i := 4) (oi := ⟨some 83, _, _, _, _, _⟩) (v := .agg #[.int .i64 y.idx, .int .i64 y.par, .string y.nm, .string y.orig, .string y.sub, .string y.drv, .string y.ali, .int .i64 y.kind, .int .i64 y.num, .slice A3 y.attrs.length c3]) rfl (by kernel_rfl) (by kernel_rfl) (by kernel_rfl) (fun _ _ _ h => h) (Or.inl ⟨by rfl, fun w' hS => by (have u0_ := hS.2.1 0 _ rfl; have u1_ := hS.2.1 1 _ rfl; have u2_ := hS.2.1 2 _ rfl; have u3_ := hS.2.1 3 _ rfl; have u4_ := hS.2.1 4 _ rfl; have u5_ := hS.2.1 5 _ rfl; have u6_ := hS.2.1 6 _ rfl; have u7_ := hS.2.1 7 _ rfl; have u8_ := hS.2.1 8 _ rfl; have u9_ := hS.2.1 9 _ rfl; go_simp)⟩) HS1.out ?_
           try simp only [Act.put, List.setIfInBounds_toArray, List.set_cons_zero, List.set_cons_succ]
           have hcl := clashes_any (some ⟨b3, o3, none⟩) c (L.take k) y A3 c3 wd B (Nat.le_trans HB.out HBwd.out.size) ((HX.out.keep (HBwd.out.mono HB.out)).take hkl) (fun x hx => by have := HCA.out.2 x hx; omega) (by have := HSK.out; omega) (HOK.out.next HBwd.out)
           rw [List.length_take, Nat.min_eq_left hkl] at hcl
           have HCALL := Lib.hid hcl; clear hcl hkl hkc
           refine wpAnyH_ready (rs := [5]) (by kernel_rfl) (by simp) ?_
           refine AllReadyH.cons (o := ⟨some 84, .call ⟨_, _, _⟩, _, _, _, _⟩) rfl (fun K hK => ?_) AllReadyH.nil
           go_simp
           go_at_call 55
           refine (HCALL.out).mono ?_
           rintro e' q10 ⟨rfl, hb_⟩
           have HBQ := Lib.hid (HBD0.out.trans (hb_.mono HBD0.out.size))
           have HSQ := Lib.hid (show (BoxL q10 w.heap.size [.slice (some ⟨b3, o3, none⟩) L.length c] ∧ BoxL q10 wr.heap.size [.int .i64 y.idx, .int .i64 y.par, .string y.nm, .string y.orig, .string y.sub, .string y.drv, .string y.ali, .int .i64 y.kind, .int .i64 y.num, .slice A3 y.attrs.length c3]) from ⟨HS1.out.1.kept (grown_none hb_) (fun e => by cases e), HS1.out.2.kept (grown_none hb_) (fun e => by cases e)⟩)
           clear hb_
           refine hK.out _ _ HSQ.out (fun _ => ?_)
           clear hK K
           try simp only [Act.put, List.setIfInBounds_toArray, List.set_cons_zero, List.set_cons_succ]
           refine wpAnyH_take (i := 6) (oi := ⟨some 78, _, _, _, _, _⟩) (v := .bool (clashesB (L.take k) y)) rfl (by kernel_rfl) (by kernel_rfl) (by kernel_rfl) (fun _ _ _ h => h) (Or.inl ⟨by rfl, fun w' hS => by go_simp⟩) HSQ.out ?_
           try simp only [Act.put, List.setIfInBounds_toArray, List.set_cons_zero, List.set_cons_succ]
           refine wpAnyH_done (by kernel_rfl) ?_ _
           go_wp2_with fail
           go_meet
           exact ⟨rfl, HBQ⟩
          case rest =>
          obtain ⟨rfl, hq⟩ := hcut
          have hbq := hq.out
          clear hq
          have HSwc := Lib.hid (show wk.heap.size ≤ wc.heap.size from hbq.size)
          have HBwc := Lib.hid (HBwk.out.trans (hbq.mono HBwk.out.size))
          have twc := Lib.hid (twk.out.kept (grown_none hbq) (fun e => by cases e))
          have dwc := Lib.hid (dwk.out.kept (grown_none hbq) (fun e => by cases e))
          have HMOwc := Lib.hid (HMOwk.out.next hbq)
          clear hbq
          have cd0 := dwc.out.1 0 _ rfl
          cases hcl : clashesB (L.take k) y with
          | true =>
           have HCL := Lib.hid hcl; clear hcl
           have HE := Lib.hid (HCA.out.err HL.out HXK.out (c := 44) (by unfold chkP; rw [if_neg (by rw [HC.out]; decide), if_neg (by rw [HTK.out]; decide), if_neg HP.out, HSO.out, if_neg (by rw [HDP.out]; have := H7.out; omega), if_neg (by rw [HSA.out]; decide), if_pos HCL.out]) (by decide))
           go_wp2
           go_ret
           exact ⟨by rw [HE.out]; try rfl, HBwc.out⟩
          | false =>
           have HCL := Lib.hid hcl; clear hcl
           have HNX := Lib.hid (HCA.out.next HXK.out (by unfold chkP; rw [if_neg (by rw [HC.out]; decide), if_neg (by rw [HTK.out]; decide), if_neg HP.out, HSO.out, if_neg (by rw [HDP.out]; have := H7.out; omega), if_neg (by rw [HSA.out]; decide), if_neg (by rw [HCL.out]; decide)]) (valid_size HDS.out))
           have HNE := Lib.hid (show w1.heap.size ≠ w.heap.size by have := HGw1.out; omega)
           have HMS := Lib.hid (show s.size ≤ maxLen by have := HSS.out; unfold maxLen; omega)
           have HKM := Lib.hid (show k < maxLen by have := HI2.out; unfold maxLen; omega)
           have hf2 := orgM_step HXK.out
           have hos := orgM_str (L.take k) y.par
           rw [hos, HSO.out] at hf2
           have HF2 := Lib.hid hf2; clear hf2 hos
           go_wp2_with (at_mapUpdate; refine wpList_put rfl _ _ _ _ rfl HMOwc.out Tryz.underlying64 Tryz.underlying3 Tryz.underlying9 rfl y.idx s HOK3.out.1 HMS.out HKM.out rfl rfl ?_; intro w9 hm_ hg_; have HM9 := Lib.hid hm_; have HB9 := Lib.hid (HBwc.out.grown hg_ HBwc.out.size (fun q hq => by have := Option.some.inj hq; have := HGw1.out; omega)); have HT9 := Lib.hid (twc.out.kept hg_ (fun e => HNE.out (Option.some.inj e).symm)); clear hm_ hg_)
           have HSTn := Lib.hid (show ChSt Tryz.prog 3 9 w w.heap.size w1.heap.size (some ⟨b3, o3, none⟩) c L (k + 1) w9 from ⟨HB9.out, HT9.out, by rw [HF2.out]; exact HM9.out⟩)
           try go_wp2
           go_roundw
           case rel => exact ⟨k + 1, by omega, by go_num, HNX, HSTn⟩
           case measure => simp [intOf]; omega
    ·
     have ec : (checkD y != 0) = true := by simpa using hc
     have HC := Lib.hid hc; clear hc
     have HE := Lib.hid (HCA.out.err HL.out HXK.out (c := 41) (by unfold chkP; rw [if_pos HC.out]) (by decide))
     go_wp2
     go_ret
     exact ⟨by rw [HE.out]; try rfl, HBw4.out⟩
   ·
    have i1 : ¬ (k : Int) < (L.length : Int) := by omega
    obtain rfl : k = L.length := by omega
    have HE := Lib.hid (HCA.out.end_ HL.out)
    go_wp2
    go_ret
    exact ⟨by rw [HE.out]; try rfl, HBR.out⟩
end Go.Proofs.YtidhbckalcjdpaaGreatDoor
