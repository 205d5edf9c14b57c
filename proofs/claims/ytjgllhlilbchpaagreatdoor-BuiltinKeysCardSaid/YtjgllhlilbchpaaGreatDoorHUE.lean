/-
  The walks of builtin.usages, builtin.Content and the reference's Content.
-/
import Derived.Test.YtjgllhlilbchpaaGreatDoorHUC
import Derived.Test.YtjgllhlilbchpaaGreatDoorHSJ
import Derived.Test.YtjgllhlilbchpaaGreatDoorHUD
import Derived.Test.YtjgllhlilbchpaaGreatDoorHD
import Derived.Test.YtjgllhlilbchpaaGreatDoorHL
import Derived.Test.YtjgllhlilbchpaaGreatDoorHC
import Derived.Test.YtjgllhlilbchpaaGreatDoorHM
import Derived.Test.YtjgllhlilbchpaaGreatDoorHSC
import Derived.Lib.LaidU8T
import Derived.PinnedBridge
set_option linter.unusedSimpArgs false
set_option linter.unusedVariables false
namespace Go.Cold
open Go Go.RowKit Go.Proofs.YtjgllhlilbchpaaGreatDoor
section
variable {α : Type} [El α] {P : Program} {k e t : TypeId} {w w' : World} {b n : Nat} {f : Int → Option α}
theorem MapV.put_run (h : MapV P k e w b n f) (ht : P.underlying t = some (.map k e)) (hk : P.underlying k = some (.int .i64)) (he : P.underlying e = some (El.desc (α := α))) (i : Int) (c : α) (hi : okI i) (hc : El.ok c) (hn : n < maxLen) :
  ∃ w', (Instr.mapUpdate t (.map (some b)) (.int .i64 i) (El.val c)).run P w = .ok () w' ∧ MapV P k e w' b (n + 1) (updF f i c) ∧ w.grownBy w' (some b) := by
 obtain ⟨D, h1, h2⟩ := h
 obtain ⟨w', hrun, r1, r2⟩ := h1.update (Maps.int_keyed hk) ht hn (Maps.keyOf_int_mk hk (wf_i64.2 hi)) (El.rd he hc)
 refine ⟨w', hrun, ⟨_, r1, fun j hj => ?_⟩, r2⟩
 have hM := h1.isMap
 have hK1 : WideAt.IsKeyLit (.int .i64 i) := (Maps.int_keyed hk).key (Maps.keyOf_int_mk hk (wf_i64.2 hi))
 unfold updF
 by_cases hji : j = i
 ·
  subst hji
  rw [if_pos rfl]
  exact ⟨Maps.has_put_same hM hK1 _, (fun z a ha => by obtain rfl := Option.some.inj ha; exact Maps.atKey_put_same hM hK1 _ z), (fun z h => by cases h)⟩
 ·
  rw [if_neg hji]
  have hne : (Lit.int .i64 j : Lit) ≠ .int .i64 i := fun h => hji (by injection h)
  obtain ⟨e1, e2, e3⟩ := h2 j hj
  exact ⟨(Maps.has_put_other hne _).trans e1, fun z a ha => (Maps.atKey_put_other hne _ z).trans (e2 z a ha), fun z hz => (Maps.atKey_put_other hne _ z).trans (e3 z hz)⟩
/-- An entry of a map's literal. -/
theorem wpList_lit {ops : Array Oper} {rest : List Oper} {o : Oper} {a : Act} {Q : Exit → Act → World → Prop}
  (hg : o.guard = none) (m x v : Operand) (t : TypeId) (hop : o.op = Op.insert t m x v) (h : MapV P k e w b n f) (ht : P.underlying t = some (.map k e)) (hk : P.underlying k = some (.int .i64)) (he : P.underlying e = some (El.desc (α := α)))
  (hm : a.eval m = .map (some b)) (i : Int) (c : α) (hi : okI i) (hc : El.ok c) (hn : n < maxLen) (hx : a.eval x = .int .i64 i) (hv : a.eval v = El.val c)
  (hK : ∀ w', MapV P k e w' b (n + 1) (updF f i c) → w.grownBy w' (some b) → wpList P ops Q rest (a.put o.dst undef) w') : wpList P ops Q (o :: rest) a w := by
 refine wpList_plain hg fun K' hK' => ?_
 obtain ⟨w', hrun, r1, r2⟩ := h.put_run ht hk he i c hi hc hn
 unfold Oper.wp
 simp [execOp, hop, hm, hx, hv, hrun, Result.andThen]
 exact hK' _ _ (hK w' r1 r2)
end
/-- What the usages are. -/
def useF : Int → Option ByteArray := updF (updF (updF (updF (updF (fun _ => none) 1 tFile) 2 tRaid) 3 tCrypto) 4 tMember) 5 tTable
theorem useF_at {k : Int} (h : 1 ≤ k ∧ k ≤ 5) : useF k = some (usageT k) := by
 have : k = 1 ∨ k = 2 ∨ k = 3 ∨ k = 4 ∨ k = 5 := by omega
 rcases this with rfl | rfl | rfl | rfl | rfl <;> rfl
theorem parse_kind {s : ByteArray} {c : Cont} (h : parseC s = some c) : c.kind = 0 ∨ (1 ≤ c.kind ∧ c.kind ≤ 5) := by
 obtain ⟨hall, -, -, -⟩ := AllOk_parse h
 obtain ⟨k, i, l, s, t, e, xs⟩ := c
 have ho := (AllOk_mk.1 hall).1
 simp only [ownB] at ho
 show k = 0 ∨ (1 ≤ k ∧ k ≤ 5)
 by_cases h0 : k = 0
 · exact .inl h0
 rw [if_neg h0, Bool.and_eq_true] at ho
 have h2 := ho.2
 by_cases k1 : k = 1
 · exact .inr (by omega)
 rw [if_neg k1] at h2
 by_cases k2 : k = 2
 · exact .inr (by omega)
 rw [if_neg k2] at h2
 by_cases k3 : k = 3
 · exact .inr (by omega)
 rw [if_neg k3] at h2
 by_cases k4 : k = 4
 · exact .inr (by omega)
 rw [if_neg k4] at h2
 by_cases k5 : k = 5
 · exact .inr (by omega)
 rw [if_neg k5] at h2; cases h2
theorem usage_small (k : Int) : (usageT k).size ≤ maxLen := by
 unfold usageT
 split
 · decide
 split
 · decide
 split
 · decide
 split <;> decide
theorem contL_kind {L : List Dev} {n : Int} {d : Dev} (hd : d = (findD L n).getD zeroD) (h : ¬ d.kind = 2) : contL L n = [] := by
 unfold contL contAt
 rw [← hd, if_neg h]
theorem contL_none {L : List Dev} {n : Int} {d : Dev} (hd : d = (findD L n).getD zeroD) (h : parseC (contD d) = none) : contL L n = [] := by
 unfold contL contAt
 rw [← hd, h]
 split <;> rfl
theorem contL_some {L : List Dev} {n : Int} {d : Dev} {c : Cont} (hd : d = (findD L n).getD zeroD) (hk : d.kind = 2) (h : parseC (contD d) = some c) : contL L n = contA c := by
 unfold contL contAt
 rw [← hd, h, if_pos hk]
theorem contA_zero {c : Cont} (h : c.kind = 0) : contA c = [] := by unfold contA; rw [if_pos h]
theorem contA_prog {c : Cont} (h : ¬ c.kind = 0) : putAll [(kFsUsage, usageT c.kind), (kFsUuid, c.id), (kFsLabel, c.label)] = contA c := by
 have e1 : putAll [(kFsUsage, usageT c.kind)] = putA [] kFsUsage (usageT c.kind) := put_next (ps := []) putAll_nil (by simp)
 have e2 : putAll [(kFsUsage, usageT c.kind), (kFsUuid, c.id)] = putA (putA [] kFsUsage (usageT c.kind)) kFsUuid c.id := put_next (ps := [(kFsUsage, usageT c.kind)]) e1 (by simp; decide +kernel)
 have e3 : putAll [(kFsUsage, usageT c.kind), (kFsUuid, c.id), (kFsLabel, c.label)] = _ := put_next (ps := [(kFsUsage, usageT c.kind), (kFsUuid, c.id)]) e2 (by simp; decide +kernel)
 exact e3.trans (cont_order c h)
theorem contD_small {d : Dev} {w : World} {B c : Nat} {A : Option Addr} (h : Sl w B A c d.attrs) : (contD d).size ≤ maxLen := by
 unfold contD
 cases hg : getA d.attrs nmContent with
 | none => exact Nat.zero_le _
 | some v => exact ((attr_okS (SlS_iff.1 h)) _ (getA_mem hg)).2
end Go.Cold
namespace Go.Proofs.YtjgllhlilbchpaaGreatDoor
open Go.RowKit Go.Cold
set_option maxRecDepth 100000 in
/-- builtin.usages. -/
theorem usages_any (w : World) : Calls Tryz.prog 55 #[] w fun e w' => ∃ b, e = .returned (.map (some b)) ∧ MapV Tryz.prog 3 9 w' b 5 useF ∧ Below w.heap.size w w' := by
 have hmk := fun z => run_makeMap (P := Tryz.prog) 75 z
 go_enter Tryz.func55, Tryz.ntmps55
 have hm0 := MapV.made (α := ByteArray) w Tryz.prog 3 9
 obtain ⟨w1, hw1⟩ : ∃ z, w.alloc (.map #[] 0) = z := ⟨_, rfl⟩
 rw [hw1] at hm0
 have hb1 : Below w.heap.size w w1 := by rw [← hw1]; exact (Below.refl _ _).alloc (Nat.le_refl _) _
 have HM := Lib.hid hm0; have HG := Lib.hid hb1; clear hm0 hb1
 go_wp2_with (refine wpList_lit (α := ByteArray) rfl _ _ _ _ rfl HM.out Tryz.underlying75 Tryz.underlying3 Tryz.underlying9 rfl _ _ (by unfold okI; omega) (by show _ ≤ maxLen; decide) (by decide) rfl rfl ?_; intro wn_ hm_ hg_; have HG := Lib.hid (HG.out.grown hg_ HG.out.size (fun q hq => by have := Option.some.inj hq; omega)); have HM := Lib.hid hm_; clear hm_ hg_)
 go_ret
 exact ⟨_, rfl, HM.out, HG.out⟩
set_option maxRecDepth 100000 in
set_option maxHeartbeats 4000000 in
/-- builtin.Content. -/
theorem Content_any (A : Option Addr) (c : Nat) (L : List Dev) (n : Int) (w : World) (B : Nat) (hB : B ≤ w.heap.size) (hx : Sl w B A c L) (hv : VT L) (hok : Ok7 w) (hko : Ok w) (hn : okI n) :
  Calls Tryz.prog 21 #[.agg #[.slice A L.length c], .int .i64 n] w (SlPost (Go.Cold.contL L n) w) := by
 have hx1 := hx.1; have hx2 := hx.2.1
 unfold maxLen at hx2
 have HX := Lib.hid hx; have HB := Lib.hid hB; have HV := Lib.hid hv; have HOK := Lib.hid hok; clear hx hB hv hok
 have HKO := Lib.hid hko; have HN := Lib.hid hn; clear hko hn
 have HLA := Lib.hid (show ∀ d ∈ L, d.attrs.length ≤ 1000000 from fun d hd => attrs_le (HV.out.chk d hd))
 go_enter Tryz.func21, Tryz.ntmps21
 go_upto_region 1 with fail
 obtain ⟨w1, hw1⟩ : ∃ w1, w.alloc (.cells #[.slice A L.length c] 28) = w1 := ⟨_, rfl⟩
 have hbw1 : Below w.heap.size w w1 := by rw [← hw1]; exact (Below.refl _ _).alloc (Nat.le_refl _) _
 have HGw1 := Lib.hid (show w1.heap.size = w.heap.size + 1 by rw [← hw1]; simp)
 have HXtw1 := Lib.hid (show BoxL w1 w.heap.size [.slice A L.length c] from box_mk hw1)
 try simp only [hw1]
 have HBw1 := Lib.hid hbw1
 clear hw1 hbw1
 try rw [show w.heap.size + 1 = w1.heap.size from HGw1.out.symm]
 have ct0 := HXtw1.out.1 0 _ rfl
 go_wp2_with fail
 refine (TFind_any A c L (n) _ B (Nat.le_trans HB.out HBw1.out.size) (HX.out.keep (HBw1.out.mono HB.out)) HLA.out).mono ?_
 rintro e w2 ⟨hbw2, d, A3, c3, hd, rfl, hod, hsd⟩
 clear ct0
 have HBw2 := Lib.hid (HBw1.out.trans (hbw2.mono HBw1.out.size))
 have tw2 := Lib.hid (HXtw1.out.kept (grown_none hbw2) (fun e => by cases e))
 clear hbw2
 have ct0 := tw2.out.1 0 _ rfl
 have Hd := Lib.hid (show d = (findD L (n)).getD zeroD from hd); have HOd := Lib.hid hod
 have HSd := Lib.hid (show Sl w2 w2.heap.size A3 c3 d.attrs from hsd.sl (fun x hx => hx.2))
 clear hd hod hsd
 obtain ⟨qd, hqd⟩ : ∃ q, (L.find? (byIdx (n))).isSome = q := ⟨_, rfl⟩
 rw [hqd]
 clear hqd
 go_upto_region 2 with fail
 obtain ⟨w3, hw3⟩ : ∃ w3, w2.alloc (.cells #[.int .i64 d.idx, .int .i64 d.par, .string d.nm, .string d.orig, .string d.sub, .string d.drv, .string d.ali, .int .i64 d.kind, .int .i64 d.num, .slice A3 d.attrs.length c3] 32) = w3 := ⟨_, rfl⟩
 have hbw3 : Below w2.heap.size w2 w3 := by rw [← hw3]; exact (Below.refl _ _).alloc (Nat.le_refl _) _
 have HGw3 := Lib.hid (show w3.heap.size = w2.heap.size + 1 by rw [← hw3]; simp)
 have HXaw3 := Lib.hid (show BoxL w3 w2.heap.size [.int .i64 d.idx, .int .i64 d.par, .string d.nm, .string d.orig, .string d.sub, .string d.drv, .string d.ali, .int .i64 d.kind, .int .i64 d.num, .slice A3 d.attrs.length c3] from box_mk hw3)
 try simp only [hw3]
 have HBw3 := Lib.hid (HBw2.out.trans (hbw3.mono HBw2.out.size))
 have tw3 := Lib.hid (tw2.out.kept (grown_none hbw3) (fun e => by cases e))
 have HSdw3 := Lib.hid ((HSd.out).next (Nat.le_refl _) hbw3)
 clear hw3 hbw3
 try rw [show w2.heap.size + 1 = w3.heap.size from HGw3.out.symm]
 clear ct0
 have ct0 := tw3.out.1 0 _ rfl
 have ca0 := HXaw3.out.1 0 _ rfl
 have ca1 := HXaw3.out.1 1 _ rfl
 have ca2 := HXaw3.out.1 2 _ rfl
 have ca3 := HXaw3.out.1 3 _ rfl
 have ca4 := HXaw3.out.1 4 _ rfl
 have ca5 := HXaw3.out.1 5 _ rfl
 have ca6 := HXaw3.out.1 6 _ rfl
 have ca7 := HXaw3.out.1 7 _ rfl
 have ca8 := HXaw3.out.1 8 _ rfl
 have ca9 := HXaw3.out.1 9 _ rfl
 go_wp2_with fail
 refine (Get_any A3 c3 d.attrs ⟨#[99, 111, 110, 116, 101, 110, 116]⟩ _ w3.heap.size (Nat.le_refl _) HSdw3.out).mono ?_
 rintro e wt ⟨rfl, hbwt⟩
 clear ct0 ca0 ca1 ca2 ca3 ca4 ca5 ca6 ca7 ca8 ca9
 have HBwt := Lib.hid (HBw3.out.trans (hbwt.mono HBw3.out.size))
 have twt := Lib.hid (tw3.out.kept (grown_none hbwt) (fun e => by cases e))
 have awt := Lib.hid (HXaw3.out.kept (grown_none hbwt) (fun e => by cases e))
 have HSdwt := Lib.hid ((HSdw3.out).next (Nat.le_refl _) hbwt)
 clear hbwt
 have ct0 := twt.out.1 0 _ rfl
 have ca0 := awt.out.1 0 _ rfl
 have ca1 := awt.out.1 1 _ rfl
 have ca2 := awt.out.1 2 _ rfl
 have ca3 := awt.out.1 3 _ rfl
 have ca4 := awt.out.1 4 _ rfl
 have ca5 := awt.out.1 5 _ rfl
 have ca6 := awt.out.1 6 _ rfl
 have ca7 := awt.out.1 7 _ rfl
 have ca8 := awt.out.1 8 _ rfl
 have ca9 := awt.out.1 9 _ rfl
 obtain ⟨t, ht⟩ : ∃ z, contD d = z := ⟨_, rfl⟩
 rw [show (getA d.attrs ⟨#[99, 111, 110, 116, 101, 110, 116]⟩).getD ByteArray.empty = t from ht]
 obtain ⟨qb, hqb⟩ : ∃ z, (getA d.attrs ⟨#[99, 111, 110, 116, 101, 110, 116]⟩).isSome = z := ⟨_, rfl⟩
 rw [hqb]
 clear hqb
 have HT := Lib.hid ht; have HTS := Lib.hid (show t.size ≤ maxLen from ht ▸ contD_small HSdwt.out); clear ht
 go_wp2_with fail
 refine (Parse_any t (fun h => IxOk_any _ (by omega)) _ HTS.out (HOK.out.below HBwt.out)).mono ?_
 rintro e w4 ⟨hbw4, hor⟩
 clear ct0 ca0 ca1 ca2 ca3 ca4 ca5 ca6 ca7 ca8 ca9
 have HBw4 := Lib.hid (HBwt.out.trans (hbw4.mono HBwt.out.size))
 have tw4 := Lib.hid (twt.out.kept (grown_none hbw4) (fun e => by cases e))
 have aw4 := Lib.hid (awt.out.kept (grown_none hbw4) (fun e => by cases e))
 have HSdw4 := Lib.hid ((HSdwt.out).next (Nat.le_refl _) hbw4)
 clear hbw4
 have ct0 := tw4.out.1 0 _ rfl
 have ca0 := aw4.out.1 0 _ rfl
 have ca1 := aw4.out.1 1 _ rfl
 have ca2 := aw4.out.1 2 _ rfl
 have ca3 := aw4.out.1 3 _ rfl
 have ca4 := aw4.out.1 4 _ rfl
 have ca5 := aw4.out.1 5 _ rfl
 have ca6 := aw4.out.1 6 _ rfl
 have ca7 := aw4.out.1 7 _ rfl
 have ca8 := aw4.out.1 8 _ rfl
 have ca9 := aw4.out.1 9 _ rfl
 rcases hor with ⟨C, cs, hC, rfl, hnew, hnod⟩ | ⟨hC, rfl⟩
 case inr =>
  obtain ⟨y, hy1, hy2, hy3⟩ : ∃ y : Int, (if 256 < t.size then (71 : Int) else 70) = y ∧ (y != 0) = true ∧ ¬ y = 0 := by
   split
   · exact ⟨71, rfl, rfl, by omega⟩
   · exact ⟨70, rfl, rfl, by omega⟩
  rw [hy1]
  unfold zeroA
  have HE := Lib.hid (contL_none Hd.out (by rw [HT.out]; exact hC))
  clear hC hy1
  go_upto_region 4 with fail
  obtain ⟨w5, hw5⟩ : ∃ w5, w4.alloc (.cells #[.int .i64 0, .string ByteArray.empty, .string ByteArray.empty, .int .i64 0, .int .i64 0, .int .i64 0, .slice none 0 0] 72) = w5 := ⟨_, rfl⟩
  have hbw5 : Below w4.heap.size w4 w5 := by rw [← hw5]; exact (Below.refl _ _).alloc (Nat.le_refl _) _
  have HGw5 := Lib.hid (show w5.heap.size = w4.heap.size + 1 by rw [← hw5]; simp)
  have HXkw5 := Lib.hid (show BoxL w5 w4.heap.size [.int .i64 0, .string ByteArray.empty, .string ByteArray.empty, .int .i64 0, .int .i64 0, .int .i64 0, .slice none 0 0] from box_mk hw5)
  try simp only [hw5]
  have HBw5 := Lib.hid (HBw4.out.trans (hbw5.mono HBw4.out.size))
  have tw5 := Lib.hid (tw4.out.kept (grown_none hbw5) (fun e => by cases e))
  have aw5 := Lib.hid (aw4.out.kept (grown_none hbw5) (fun e => by cases e))
  have HSdw5 := Lib.hid ((HSdw4.out).next (Nat.le_refl _) hbw5)
  clear hw5 hbw5
  try rw [show w4.heap.size + 1 = w5.heap.size from HGw5.out.symm]
  clear ct0 ca0 ca1 ca2 ca3 ca4 ca5 ca6 ca7 ca8 ca9
  have ct0 := tw5.out.1 0 _ rfl
  have ca0 := aw5.out.1 0 _ rfl
  have ca1 := aw5.out.1 1 _ rfl
  have ca2 := aw5.out.1 2 _ rfl
  have ca3 := aw5.out.1 3 _ rfl
  have ca4 := aw5.out.1 4 _ rfl
  have ca5 := aw5.out.1 5 _ rfl
  have ca6 := aw5.out.1 6 _ rfl
  have ca7 := aw5.out.1 7 _ rfl
  have ca8 := aw5.out.1 8 _ rfl
  have ca9 := aw5.out.1 9 _ rfl
  have ck0 := HXkw5.out.1 0 _ rfl
  have ck1 := HXkw5.out.1 1 _ rfl
  have ck2 := HXkw5.out.1 2 _ rfl
  have ck3 := HXkw5.out.1 3 _ rfl
  have ck4 := HXkw5.out.1 4 _ rfl
  have ck5 := HXkw5.out.1 5 _ rfl
  have ck6 := HXkw5.out.1 6 _ rfl
  by_cases hk : d.kind = 2
  ·
   have hkb : (d.kind != 2) = false := by simp [hk]
   clear hk
   go_wp2
   go_ret
   exact ⟨HBw5.out, none, 0, by rw [HE.out]; rfl, by rw [HE.out]; exact Sl.nil_⟩
  ·
   have hkb : (d.kind != 2) = true := by simp [hk]
   clear hk
   go_wp2
   go_ret
   exact ⟨HBw5.out, none, 0, by rw [HE.out]; rfl, by rw [HE.out]; exact Sl.nil_⟩
 obtain ⟨k, i, l, s2, t2, le, xs⟩ := C
 have hcz : i.size ≤ maxLen ∧ l.size ≤ maxLen ∧ okI k := by obtain ⟨_, _, _, h3, _⟩ := CRd_iff.1 hnew.crd; exact ⟨h3.2.1, h3.2.2.1, h3.1⟩
 obtain ⟨A5, c5, rfl⟩ := CRdS_cells hnew
 simp only [contCells]
 have HCZ := Lib.hid hcz; have HC := Lib.hid (show parseC (contD d) = some (.mk k i l s2 t2 le xs) by rw [HT.out]; exact hC)
 have HKI := Lib.hid (show k = 0 ∨ (1 ≤ k ∧ k ≤ 5) from parse_kind hC)
 clear hcz hnew hnod hC
 go_upto_region 4 with fail
 obtain ⟨w6, hw6⟩ : ∃ w6, w4.alloc (.cells #[.int .i64 k, .string i, .string l, .int .i64 s2, .int .i64 t2, .int .i64 le, .slice A5 xs.length c5] 72) = w6 := ⟨_, rfl⟩
 have hbw6 : Below w4.heap.size w4 w6 := by rw [← hw6]; exact (Below.refl _ _).alloc (Nat.le_refl _) _
 have HGw6 := Lib.hid (show w6.heap.size = w4.heap.size + 1 by rw [← hw6]; simp)
 have HXkw6 := Lib.hid (show BoxL w6 w4.heap.size [.int .i64 k, .string i, .string l, .int .i64 s2, .int .i64 t2, .int .i64 le, .slice A5 xs.length c5] from box_mk hw6)
 try simp only [hw6]
 have HBw6 := Lib.hid (HBw4.out.trans (hbw6.mono HBw4.out.size))
 have tw6 := Lib.hid (tw4.out.kept (grown_none hbw6) (fun e => by cases e))
 have aw6 := Lib.hid (aw4.out.kept (grown_none hbw6) (fun e => by cases e))
 have HSdw6 := Lib.hid ((HSdw4.out).next (Nat.le_refl _) hbw6)
 clear hw6 hbw6
 try rw [show w4.heap.size + 1 = w6.heap.size from HGw6.out.symm]
 clear ct0 ca0 ca1 ca2 ca3 ca4 ca5 ca6 ca7 ca8 ca9
 have ct0 := tw6.out.1 0 _ rfl
 have ca0 := aw6.out.1 0 _ rfl
 have ca1 := aw6.out.1 1 _ rfl
 have ca2 := aw6.out.1 2 _ rfl
 have ca3 := aw6.out.1 3 _ rfl
 have ca4 := aw6.out.1 4 _ rfl
 have ca5 := aw6.out.1 5 _ rfl
 have ca6 := aw6.out.1 6 _ rfl
 have ca7 := aw6.out.1 7 _ rfl
 have ca8 := aw6.out.1 8 _ rfl
 have ca9 := aw6.out.1 9 _ rfl
 have ck0 := HXkw6.out.1 0 _ rfl
 have ck1 := HXkw6.out.1 1 _ rfl
 have ck2 := HXkw6.out.1 2 _ rfl
 have ck3 := HXkw6.out.1 3 _ rfl
 have ck4 := HXkw6.out.1 4 _ rfl
 have ck5 := HXkw6.out.1 5 _ rfl
 have ck6 := HXkw6.out.1 6 _ rfl
 by_cases hk : d.kind = 2
 case neg =>
  have hkb : (d.kind != 2) = true := by simp [hk]
  have HE := Lib.hid (contL_kind Hd.out hk)
  clear hk
  go_wp2
  go_ret
  exact ⟨HBw6.out, none, 0, by rw [HE.out]; rfl, by rw [HE.out]; exact Sl.nil_⟩
 have hkb : (d.kind != 2) = false := by simp [hk]
 by_cases h0 : k = 0
 case pos =>
  subst h0
  have HE := Lib.hid (show Go.Cold.contL L n = [] by rw [contL_some Hd.out hk HC.out]; exact contA_zero rfl)
  clear hk
  go_wp2
  go_ret
  exact ⟨HBw6.out, none, 0, by rw [HE.out]; rfl, by rw [HE.out]; exact Sl.nil_⟩
 have h0b : (k == 0) = false := by simpa using h0
 have HE := Lib.hid (contL_some Hd.out hk HC.out)
 have HK := Lib.hid h0; have HK5 := Lib.hid (show 1 ≤ k ∧ k ≤ 5 by have := HKI.out; omega)
 clear hk h0 HKI
 have HCA := Lib.hid (contA_prog (c := .mk k i l s2 t2 le xs) HK.out)
 obtain ⟨us, hus⟩ : ∃ z, usageT k = z := ⟨_, rfl⟩
 have HUS := Lib.hid hus; have HUZ := Lib.hid (show us.size ≤ maxLen from hus ▸ usage_small k); clear hus
 go_upto_region 6 with fail
 refine wp_region_held_drew (S := fun w' => BoxL w' (w4.heap.size) [.int .i64 k, .string i, .string l, .int .i64 s2, .int .i64 t2, .int .i64 le, .slice A5 xs.length c5]) (by kernel_rfl) HXkw6.out.drew (fun hS0 => ?_)
 obtain ⟨wd, hwd⟩ : ∃ z, World.drew w6 = z := ⟨_, rfl⟩
 rw [hwd] at hS0 ⊢
 have hb_ : Below w6.heap.size w6 wd := by rw [← hwd]; exact below_drewN_self _ _ 1
 clear hwd hS0
 clear ct0 ca0 ca1 ca2 ca3 ca4 ca5 ca6 ca7 ca8 ca9 ck0 ck1 ck2 ck3 ck4 ck5 ck6
 have HBwd := Lib.hid (HBw6.out.trans (hb_.mono HBw6.out.size))
 have twd := Lib.hid (tw6.out.kept (grown_none hb_) (fun e => by cases e))
 have awd := Lib.hid (aw6.out.kept (grown_none hb_) (fun e => by cases e))
 have kwd := Lib.hid (HXkw6.out.kept (grown_none hb_) (fun e => by cases e))
 have HSdwd := Lib.hid ((HSdw6.out).next (Nat.le_refl _) hb_)
 clear hb_
 refine wpAnyH_take (i := 1) (oi := ⟨some 41, _, _, _, _, _⟩) (v := .pointer (some ⟨w4.heap.size, 0, none⟩)) rfl (by kernel_rfl) (by kernel_rfl) (by kernel_rfl) (fun _ _ _ h => h) (Or.inl ⟨by rfl, fun w' hS => by go_simp⟩) kwd.out ?_
 try simp only [Act.put, List.setIfInBounds_toArray, List.set_cons_zero, List.set_cons_succ]
 refine wpAnyH_take (i := 2) (oi := ⟨some 42, _, _, _, _, _⟩) (v := .int .i64 k) rfl (by kernel_rfl) (by kernel_rfl) (by kernel_rfl) (fun _ _ _ h => h) (Or.inl ⟨by rfl, fun w' hS => by (have u0_ := hS.1 0 _ rfl; go_simp)⟩) kwd.out ?_
 try simp only [Act.put, List.setIfInBounds_toArray, List.set_cons_zero, List.set_cons_succ]
 refine wpAnyH_take (i := 5) (oi := ⟨some 45, _, _, _, _, _⟩) (v := .pointer (some ⟨w4.heap.size, 1, none⟩)) rfl (by kernel_rfl) (by kernel_rfl) (by kernel_rfl) (fun _ _ _ h => h) (Or.inl ⟨by rfl, fun w' hS => by go_simp⟩) kwd.out ?_
 try simp only [Act.put, List.setIfInBounds_toArray, List.set_cons_zero, List.set_cons_succ]
 refine wpAnyH_take (i := 6) (oi := ⟨some 46, _, _, _, _, _⟩) (v := .string i) rfl (by kernel_rfl) (by kernel_rfl) (by kernel_rfl) (fun _ _ _ h => h) (Or.inl ⟨by rfl, fun w' hS => by (have u0_ := hS.1 1 _ rfl; go_simp)⟩) kwd.out ?_
 try simp only [Act.put, List.setIfInBounds_toArray, List.set_cons_zero, List.set_cons_succ]
 refine wpAnyH_take (i := 8) (oi := ⟨some 48, _, _, _, _, _⟩) (v := .pointer (some ⟨w4.heap.size, 2, none⟩)) rfl (by kernel_rfl) (by kernel_rfl) (by kernel_rfl) (fun _ _ _ h => h) (Or.inl ⟨by rfl, fun w' hS => by go_simp⟩) kwd.out ?_
 try simp only [Act.put, List.setIfInBounds_toArray, List.set_cons_zero, List.set_cons_succ]
 refine wpAnyH_take (i := 9) (oi := ⟨some 49, _, _, _, _, _⟩) (v := .string l) rfl (by kernel_rfl) (by kernel_rfl) (by kernel_rfl) (fun _ _ _ h => h) (Or.inl ⟨by rfl, fun w' hS => by (have u0_ := hS.1 2 _ rfl; go_simp)⟩) kwd.out ?_
 try simp only [Act.put, List.setIfInBounds_toArray, List.set_cons_zero, List.set_cons_succ]
 refine wpAnyH_ready (rs := [0]) (by kernel_rfl) (by simp) ?_
 refine AllReadyH.cons (o := ⟨some 40, .call ⟨_, _, _⟩, _, _, _, _⟩) rfl (fun K hK => ?_) AllReadyH.nil
 go_simp
 go_at_call 55
 refine (usages_any _).mono ?_
 rintro e' q0 ⟨bm, rfl, hmap, hb_⟩
 have HBq0 := Lib.hid (HBwd.out.trans (hb_.mono HBwd.out.size))
 have tq0 := Lib.hid (twd.out.kept (grown_none hb_) (fun e => by cases e))
 have aq0 := Lib.hid (awd.out.kept (grown_none hb_) (fun e => by cases e))
 have kq0 := Lib.hid (kwd.out.kept (grown_none hb_) (fun e => by cases e))
 have HSdq0 := Lib.hid ((HSdwd.out).next (Nat.le_refl _) hb_)
 have HMP := Lib.hid hmap; clear hmap hb_
 refine hK.out _ _ kq0.out (fun _ => ?_)
 clear hK K
 try simp only [Act.put, List.setIfInBounds_toArray, List.set_cons_zero, List.set_cons_succ]
 refine wpAnyH_ready (rs := [3]) (by kernel_rfl) (by simp) ?_
 refine AllReadyH.cons (o := ⟨some 43, .lookup _ _ _ _, _, _, _, _⟩) rfl (fun K hK => ?_) AllReadyH.nil
 have hlk := look_str HMP.out (i := k) HCZ.out.2.2
 rw [useF_at HK5.out, Option.getD_some, HUS.out] at hlk
 go_simp
 refine hK.out _ _ kq0.out (fun _ => ?_)
 clear hK K
 try simp only [Act.put, List.setIfInBounds_toArray, List.set_cons_zero, List.set_cons_succ]
 clear hlk
 refine wpAnyH_ready (rs := [4]) (by kernel_rfl) (by simp) ?_
 refine AllReadyH.cons (o := ⟨some 44, .call ⟨_, _, _⟩, _, _, _, _⟩) rfl (fun K hK => ?_) AllReadyH.nil
 go_simp
 go_at_call 46
 refine (Put_any none 0 [] kFsUsage us _ q0.heap.size (Nat.le_refl _) Sl.nil_ (put_srt putAll_nil) (put_len putAll_nil (by simp)) (by decide) HUZ.out).mono ?_
 rintro e' q1 ⟨hb_, A1_, c1_, rfl, hs_⟩
 have HBq1 := Lib.hid (HBq0.out.trans (hb_.mono HBq0.out.size))
 have tq1 := Lib.hid (tq0.out.kept (grown_none hb_) (fun e => by cases e))
 have aq1 := Lib.hid (aq0.out.kept (grown_none hb_) (fun e => by cases e))
 have kq1 := Lib.hid (kq0.out.kept (grown_none hb_) (fun e => by cases e))
 have HSdq1 := Lib.hid ((HSdq0.out).next (Nat.le_refl _) hb_)
 obtain ⟨l1, hl_⟩ : ∃ z, putA [] kFsUsage us = z := ⟨_, rfl⟩
 rw [hl_] at hs_ ⊢
 have HL1 := Lib.hid (show putAll [(kFsUsage, us)] = l1 from (put_next (ps := []) putAll_nil (by simp)).trans hl_); have HS1 := Lib.hid hs_; clear hs_ hl_
 clear hb_
 refine hK.out _ _ kq1.out (fun _ => ?_)
 clear hK K
 try simp only [Act.put, List.setIfInBounds_toArray, List.set_cons_zero, List.set_cons_succ]
 refine wpAnyH_ready (rs := [7]) (by kernel_rfl) (by simp) ?_
 refine AllReadyH.cons (o := ⟨some 47, .call ⟨_, _, _⟩, _, _, _, _⟩) rfl (fun K hK => ?_) AllReadyH.nil
 go_simp
 go_at_call 46
 refine (Put_any A1_ c1_ l1 kFsUuid i _ q1.heap.size (Nat.le_refl _) HS1.out (put_srt HL1.out) (put_len HL1.out (by simp)) (by decide) HCZ.out.1).mono ?_
 rintro e' q2 ⟨hb_, A2_, c2_, rfl, hs_⟩
 have HBq2 := Lib.hid (HBq1.out.trans (hb_.mono HBq1.out.size))
 have tq2 := Lib.hid (tq1.out.kept (grown_none hb_) (fun e => by cases e))
 have aq2 := Lib.hid (aq1.out.kept (grown_none hb_) (fun e => by cases e))
 have kq2 := Lib.hid (kq1.out.kept (grown_none hb_) (fun e => by cases e))
 have HSdq2 := Lib.hid ((HSdq1.out).next (Nat.le_refl _) hb_)
 have HS1q2 := Lib.hid ((HS1.out).next (Nat.le_refl _) hb_)
 obtain ⟨l2, hl_⟩ : ∃ z, putA l1 kFsUuid i = z := ⟨_, rfl⟩
 rw [hl_] at hs_ ⊢
 have HL2 := Lib.hid (show putAll [(kFsUsage, us), (kFsUuid, i)] = l2 from (put_next (ps := [(kFsUsage, us)]) HL1.out (by simp; decide +kernel)).trans hl_); have HS2 := Lib.hid hs_; clear hs_ hl_
 clear hb_
 refine hK.out _ _ kq2.out (fun _ => ?_)
 clear hK K
 try simp only [Act.put, List.setIfInBounds_toArray, List.set_cons_zero, List.set_cons_succ]
 refine wpAnyH_ready (rs := [10]) (by kernel_rfl) (by simp) ?_
 refine AllReadyH.cons (o := ⟨some 50, .call ⟨_, _, _⟩, _, _, _, _⟩) rfl (fun K hK => ?_) AllReadyH.nil
 go_simp
 go_at_call 46
 refine (Put_any A2_ c2_ l2 kFsLabel l _ q2.heap.size (Nat.le_refl _) HS2.out (put_srt HL2.out) (put_len HL2.out (by simp)) (by decide) HCZ.out.2.1).mono ?_
 rintro e' q3 ⟨hb_, A3_, c3_, rfl, hs_⟩
 have HBq3 := Lib.hid (HBq2.out.trans (hb_.mono HBq2.out.size))
 have tq3 := Lib.hid (tq2.out.kept (grown_none hb_) (fun e => by cases e))
 have aq3 := Lib.hid (aq2.out.kept (grown_none hb_) (fun e => by cases e))
 have kq3 := Lib.hid (kq2.out.kept (grown_none hb_) (fun e => by cases e))
 have HSdq3 := Lib.hid ((HSdq2.out).next (Nat.le_refl _) hb_)
 have HS1q3 := Lib.hid ((HS1q2.out).next (Nat.le_refl _) hb_)
 have HS2q3 := Lib.hid ((HS2.out).next (Nat.le_refl _) hb_)
 obtain ⟨l3, hl_⟩ : ∃ z, putA l2 kFsLabel l = z := ⟨_, rfl⟩
 rw [hl_] at hs_ ⊢
 have HL3 := Lib.hid (show putAll [(kFsUsage, us), (kFsUuid, i), (kFsLabel, l)] = l3 from (put_next (ps := [(kFsUsage, us), (kFsUuid, i)]) HL2.out (by simp; decide +kernel)).trans hl_); have HS3 := Lib.hid hs_; clear hs_ hl_
 clear hb_
 refine hK.out _ _ kq3.out (fun _ => ?_)
 clear hK K
 try simp only [Act.put, List.setIfInBounds_toArray, List.set_cons_zero, List.set_cons_succ]
 refine wpAnyH_take (i := 11) (oi := ⟨some 4, _, _, _, _, _⟩) (v := .slice A3_ l3.length c3_) rfl (by kernel_rfl) (by kernel_rfl) (by kernel_rfl) (fun _ _ _ h => h) (Or.inl ⟨by rfl, fun w' hS => by go_simp⟩) kq3.out ?_
 try simp only [Act.put, List.setIfInBounds_toArray, List.set_cons_zero, List.set_cons_succ]
 refine wpAnyH_done (by kernel_rfl) ?_ _
 have HE2 := Lib.hid (show Go.Cold.contL L n = l3 by rw [HE.out, ← HL3.out, ← HUS.out]; exact HCA.out.symm)
 go_wp2
 go_ret
 exact ⟨HBq3.out, A3_, c3_, by rw [HE2.out]; rfl, by rw [HE2.out]; exact HS3.out⟩
end Go.Proofs.YtjgllhlilbchpaaGreatDoor
namespace Go.Cold
open Go Go.RowKit Go.Proofs.YtjgllhlilbchpaaGreatDoor
end Go.Cold
namespace Go.Proofs.YtjgllhlilbchpaaGreatDoor
open Go.RowKit Go.Cold
end Go.Proofs.YtjgllhlilbchpaaGreatDoor
namespace Go.Cold
open Go Go.RowKit Go.Proofs.YtjgllhlilbchpaaGreatDoor
section
variable {P : Program} {w : World} {kt et t : TypeId} {b clock : Nat} {es : Array MapEntry}
end
end Go.Cold
namespace Go.Proofs.YtjgllhlilbchpaaGreatDoor
open Go.RowKit Go.Cold
end Go.Proofs.YtjgllhlilbchpaaGreatDoor
namespace Go.Cold
open Go Go.RowKit Go.Proofs.YtjgllhlilbchpaaGreatDoor
/-- A list of attributes, looked at. -/
def obsA (l : List Attr) : List (List UInt8 × List UInt8) := l.map fun a => (a.name.data.toList, a.value.data.toList)
theorem obsA_inj : ∀ {l r : List Attr}, obsA l = obsA r → l = r
 | [], [], _ => rfl
 | [], _ :: _, h => by cases h
 | _ :: _, [], h => by cases h
 | a :: l, b :: r, h => by
  unfold obsA at h
  rw [List.map_cons, List.map_cons] at h
  injection h with h1 h2
  injection h1 with h3 h4
  have e : a = b := by
   obtain ⟨a1, a2⟩ := a; obtain ⟨b1, b2⟩ := b
   rw [show a1 = b1 from ba_ext h3, show a2 = b2 from ba_ext h4]
  rw [e, obsA_inj (show obsA l = obsA r from h2)]
def uC : Attr := ⟨⟨#[99, 111, 110, 116, 101, 110, 116]⟩, ⟨#[102, 115, 58, 117, 49, 58, 114, 111, 111, 116]⟩⟩
def u1D : Dev := ⟨1, 0, ⟨#[112, 99, 105, 48]⟩, ⟨#[112, 99, 105, 48]⟩, ⟨#[112, 99, 105]⟩, ⟨#[]⟩, ⟨#[]⟩, 1, 0, []⟩
def u2D : Dev := ⟨2, 1, ⟨#[115, 100, 97, 49]⟩, ⟨#[115, 100, 97, 49]⟩, ⟨#[98, 108, 111, 99, 107]⟩, ⟨#[]⟩, ⟨#[]⟩, 2, 9, [uC]⟩
/-- The tree of the example. -/
def uL : List Dev := [u1D, u2D]
theorem uL_VT : VT uL := (check_VT (by decide)).1 (by decide +kernel)
def uBase : List Attr := [⟨⟨#[68, 69, 86, 78, 65, 77, 69]⟩, ⟨#[115, 100, 97, 49]⟩⟩, ⟨⟨#[68, 69, 86, 80, 65, 84, 72]⟩, ⟨#[47, 112, 99, 105, 48, 47, 115, 100, 97, 49]⟩⟩, ⟨⟨#[78, 85, 77, 66, 69, 82]⟩, ⟨#[57]⟩⟩, ⟨⟨#[83, 85, 66, 83, 89, 83, 84, 69, 77]⟩, ⟨#[98, 108, 111, 99, 107]⟩⟩]
def uPath : List Attr := [⟨⟨#[73, 68, 95, 80, 65, 84, 72]⟩, ⟨#[112, 99, 105, 58, 112, 99, 105, 48, 45, 98, 108, 111, 99, 107, 58, 115, 100, 97, 49]⟩⟩, ⟨⟨#[73, 68, 95, 80, 65, 84, 72, 95, 84, 65, 71]⟩, ⟨#[112, 99, 105, 95, 112, 99, 105, 48, 95, 98, 108, 111, 99, 107, 95, 115, 100, 97, 49]⟩⟩]
def uCont : List Attr := [⟨⟨#[73, 68, 95, 70, 83, 95, 76, 65, 66, 69, 76]⟩, ⟨#[114, 111, 111, 116]⟩⟩, ⟨⟨#[73, 68, 95, 70, 83, 95, 85, 83, 65, 71, 69]⟩, ⟨#[102, 105, 108, 101, 115, 121, 115, 116, 101, 109]⟩⟩, ⟨⟨#[73, 68, 95, 70, 83, 95, 85, 85, 73, 68]⟩, ⟨#[117, 49]⟩⟩]
theorem uL_base : baseL uL 2 = uBase := obsA_inj (by decide +kernel)
theorem uL_path : pathL uL 2 = uPath := obsA_inj (by decide +kernel)
def uT : ByteArray := ⟨#[102, 115, 58, 117, 49, 58, 114, 111, 111, 116]⟩
def uTC : Cont := .mk 1 ⟨#[117, 49]⟩ ⟨#[114, 111, 111, 116]⟩ 0 0 0 []
theorem cont_uT : contP uT 11 0 = some (uTC, 10) := by kernel_rfl
theorem ok_uTC : AllOk uTC := AllOk_mk.2 ⟨by decide +kernel, fun x hx => by cases hx⟩
theorem depth_uTC : depthC uTC ≤ 6 := by unfold uTC; rw [depthC, depthL]; decide
theorem parse_uT : parseC uT = some uTC := by
 have h1 : uT.size = 10 := by decide +kernel
 unfold parseC
 rw [if_neg (by omega), h1, cont_uT]
 simp [bad_of ok_uTC depth_uTC]
theorem uL_cont : Go.Cold.contL uL 2 = uCont := by
 have h : Go.Cold.contL uL 2 = contA uTC := contL_some (d := u2D) rfl rfl (show parseC (contD u2D) = some uTC from by rw [show contD u2D = uT by rfl]; exact parse_uT)
 rw [h]
 exact obsA_inj (by decide +kernel)
theorem uL_sl {w : World} {gx gl B : Nat} (hx : BoxL w gx [.string ⟨#[99, 111, 110, 116, 101, 110, 116]⟩, .string ⟨#[102, 115, 58, 117, 49, 58, 114, 111, 111, 116]⟩]) (h : BoxL w gl [.int .i64 1, .int .i64 0, .string ⟨#[112, 99, 105, 48]⟩, .string ⟨#[112, 99, 105, 48]⟩, .string ⟨#[112, 99, 105]⟩, .string ⟨#[]⟩, .string ⟨#[]⟩, .int .i64 1, .int .i64 0, .slice none 0 0, .int .i64 2, .int .i64 1, .string ⟨#[115, 100, 97, 49]⟩, .string ⟨#[115, 100, 97, 49]⟩, .string ⟨#[98, 108, 111, 99, 107]⟩, .string ⟨#[]⟩, .string ⟨#[]⟩, .int .i64 2, .int .i64 9, .slice (some ⟨gx, 0, none⟩) 1 1]) (hB1 : gx < B) (hB : gl < B) : Sl w B (some ⟨gl, 0, none⟩) 2 uL := by
 have hsx : SlS w (fun b => b < B) (some ⟨gx, 0, none⟩) 1 [uC] := by
  refine ⟨by decide, by decide, fun _ => ⟨gx, 0, rfl, hB1, fun i x hi => ?_⟩⟩
  have h0 : i = 0 := by have := (List.getElem?_eq_some_iff.1 hi).1; simp at this; exact this
  subst h0
  obtain rfl := Option.some.inj hi
  exact ⟨attrCells uC, ⟨rfl, by decide, by decide⟩, fun j u hu => by rw [Nat.zero_mul, Nat.zero_add, Nat.zero_add]; exact hx.1 j u hu⟩
 refine ⟨by decide, by decide, fun _ => ⟨gl, 0, rfl, hB, fun i x hi => ?_⟩⟩
 have hi2 : i < 2 := (List.getElem?_eq_some_iff.1 hi).1
 have hcase : i = 0 ∨ i = 1 := by omega
 rcases hcase with rfl | rfl
 ·
  obtain rfl := Option.some.inj hi
  refine ⟨devCells u1D none 0, ⟨none, 0, rfl, ?_, SlS.nil_⟩, fun j u hu => ?_⟩
  · refine ⟨?_, ?_, ?_, ?_, ?_, ?_, ?_, ?_, ?_⟩ <;> first | (unfold okI; decide +kernel) | decide +kernel
  ·
   rw [Nat.zero_mul, Nat.zero_add, Nat.zero_add]
   have hj : j < 10 := by have := (List.getElem?_eq_some_iff.1 hu).1; simpa [devCells] using this
   refine h.1 j u ?_
   show (devCells u1D none 0 ++ devCells u2D (some ⟨gx, 0, none⟩) 1)[j]? = some u
   rw [List.getElem?_append_left (by simpa [devCells] using hj)]
   exact hu
 ·
  obtain rfl := Option.some.inj hi
  refine ⟨devCells u2D (some ⟨gx, 0, none⟩) 1, ⟨some ⟨gx, 0, none⟩, 1, rfl, ?_, hsx⟩, fun j u hu => ?_⟩
  · refine ⟨?_, ?_, ?_, ?_, ?_, ?_, ?_, ?_, ?_⟩ <;> first | (unfold okI; decide +kernel) | decide +kernel
  ·
   rw [Nat.zero_add, show 1 * Rep.size Dev + j = 10 + j from rfl]
   refine h.1 (10 + j) u ?_
   show (devCells u1D none 0 ++ devCells u2D (some ⟨gx, 0, none⟩) 1)[10 + j]? = some u
   rw [List.getElem?_append_right (by simp [devCells]), show 10 + j - (devCells u1D none 0).length = j by simp [devCells]]
   exact hu
end Go.Cold
namespace Go.Proofs.YtjgllhlilbchpaaGreatDoor
open Go.RowKit Go.Cold
set_option maxRecDepth 100000 in
set_option maxHeartbeats 4000000 in
/-- known answers true. -/
theorem known_any (w : World) (hko : Ok w) (h7 : Ok7 w) (hk8 : Ok8 w) (hu : OkU w) : Calls Tryz.prog 15 #[] w fun e w' => e = .returned (.bool true) ∧ Below w.heap.size w w' := by
 have HKO := Lib.hid hko; have H7 := Lib.hid h7; have HK8 := Lib.hid hk8; have HU := Lib.hid hu; clear hko h7 hk8 hu
 go_enter Tryz.func15, Tryz.ntmps15
 go_upto_region 2 with fail
 obtain ⟨w1, hw1⟩ : ∃ w1, w.alloc (.cells #[.string ⟨#[99, 111, 110, 116, 101, 110, 116]⟩, .string ⟨#[102, 115, 58, 117, 49, 58, 114, 111, 111, 116]⟩] 42) = w1 := ⟨_, rfl⟩
 have hbw1 : Below w.heap.size w w1 := by rw [← hw1]; exact (Below.refl _ _).alloc (Nat.le_refl _) _
 have HGw1 := Lib.hid (show w1.heap.size = w.heap.size + 1 by rw [← hw1]; simp)
 have HXxw1 := Lib.hid (show BoxL w1 w.heap.size [.string ⟨#[99, 111, 110, 116, 101, 110, 116]⟩, .string ⟨#[102, 115, 58, 117, 49, 58, 114, 111, 111, 116]⟩] from box_mk hw1)
 try simp only [hw1]
 have HSw1 := Lib.hid (show w.heap.size ≤ w1.heap.size from hbw1.size)
 have HBw1 := Lib.hid hbw1
 clear hw1 hbw1
 try rw [show w.heap.size + 1 = w1.heap.size from HGw1.out.symm]
 obtain ⟨w2, hw2⟩ : ∃ w2, w1.alloc (.cells #[.int .i64 1, .int .i64 0, .string ⟨#[112, 99, 105, 48]⟩, .string ⟨#[112, 99, 105, 48]⟩, .string ⟨#[112, 99, 105]⟩, .string ⟨#[]⟩, .string ⟨#[]⟩, .int .i64 1, .int .i64 0, .slice none 0 0, .int .i64 2, .int .i64 1, .string ⟨#[115, 100, 97, 49]⟩, .string ⟨#[115, 100, 97, 49]⟩, .string ⟨#[98, 108, 111, 99, 107]⟩, .string ⟨#[]⟩, .string ⟨#[]⟩, .int .i64 2, .int .i64 9, .slice (some ⟨w.heap.size, 0, none⟩) 1 1] 32) = w2 := ⟨_, rfl⟩
 have hbw2 : Below w1.heap.size w1 w2 := by rw [← hw2]; exact (Below.refl _ _).alloc (Nat.le_refl _) _
 have HGw2 := Lib.hid (show w2.heap.size = w1.heap.size + 1 by rw [← hw2]; simp)
 have HXlw2 := Lib.hid (show BoxL w2 w1.heap.size [.int .i64 1, .int .i64 0, .string ⟨#[112, 99, 105, 48]⟩, .string ⟨#[112, 99, 105, 48]⟩, .string ⟨#[112, 99, 105]⟩, .string ⟨#[]⟩, .string ⟨#[]⟩, .int .i64 1, .int .i64 0, .slice none 0 0, .int .i64 2, .int .i64 1, .string ⟨#[115, 100, 97, 49]⟩, .string ⟨#[115, 100, 97, 49]⟩, .string ⟨#[98, 108, 111, 99, 107]⟩, .string ⟨#[]⟩, .string ⟨#[]⟩, .int .i64 2, .int .i64 9, .slice (some ⟨w.heap.size, 0, none⟩) 1 1] from box_mk hw2)
 try simp only [hw2]
 have HSw2 := Lib.hid (show w1.heap.size ≤ w2.heap.size from hbw2.size)
 have HBw2 := Lib.hid (HBw1.out.trans (hbw2.mono HBw1.out.size))
 have xw2 := Lib.hid (HXxw1.out.kept (grown_none hbw2) (fun e => by cases e))
 clear hw2 hbw2
 try rw [show w1.heap.size + 1 = w2.heap.size from HGw2.out.symm]
 have HSL := Lib.hid (uL_sl xw2.out HXlw2.out xw2.out.2.2 HXlw2.out.2.2)
 obtain ⟨w3, hw3⟩ : ∃ w3, w2.alloc (.cells #[.slice (some ⟨w1.heap.size, 0, none⟩) 2 2] 28) = w3 := ⟨_, rfl⟩
 have hbw3 : Below w2.heap.size w2 w3 := by rw [← hw3]; exact (Below.refl _ _).alloc (Nat.le_refl _) _
 have HGw3 := Lib.hid (show w3.heap.size = w2.heap.size + 1 by rw [← hw3]; simp)
 have HXtw3 := Lib.hid (show BoxL w3 w2.heap.size [.slice (some ⟨w1.heap.size, 0, none⟩) 2 2] from box_mk hw3)
 try simp only [hw3]
 have HSw3 := Lib.hid (show w2.heap.size ≤ w3.heap.size from hbw3.size)
 have HBw3 := Lib.hid (HBw2.out.trans (hbw3.mono HBw2.out.size))
 have xw3 := Lib.hid (xw2.out.kept (grown_none hbw3) (fun e => by cases e))
 have lw3 := Lib.hid (HXlw2.out.kept (grown_none hbw3) (fun e => by cases e))
 have HSLw3 := Lib.hid (HSL.out.next (Nat.le_refl _) hbw3)
 clear hw3 hbw3
 try rw [show w2.heap.size + 1 = w3.heap.size from HGw3.out.symm]
 have HN := Lib.hid (show okI 2 from ⟨by decide, by decide⟩)
 refine wp_region_held_drew (S := fun w' => BoxL w' (w2.heap.size) [.slice (some ⟨w1.heap.size, 0, none⟩) 2 2]) (by kernel_rfl) HXtw3.out.drew (fun hS0 => ?_)
 obtain ⟨wd, hwd⟩ : ∃ z, World.drew w3 = z := ⟨_, rfl⟩
 rw [hwd] at hS0 ⊢
 have hb_ : Below w3.heap.size w3 wd := by rw [← hwd]; exact below_drewN_self _ _ 1
 clear hwd hS0
 have HSwd := Lib.hid (show w3.heap.size ≤ wd.heap.size from hb_.size)
 have HBwd := Lib.hid (HBw3.out.trans (hb_.mono HBw3.out.size))
 have xwd := Lib.hid (xw3.out.kept (grown_none hb_) (fun e => by cases e))
 have lwd := Lib.hid (lw3.out.kept (grown_none hb_) (fun e => by cases e))
 have twd := Lib.hid (HXtw3.out.kept (grown_none hb_) (fun e => by cases e))
 have HSLwd := Lib.hid (HSLw3.out.next (Nat.le_refl _) hb_)
 clear hb_
 refine wpAnyH_take (i := 0) (oi := ⟨some 11, _, _, _, _, _⟩) (v := .agg #[.slice (some ⟨w1.heap.size, 0, none⟩) 2 2]) rfl (by kernel_rfl) (by kernel_rfl) (by kernel_rfl) (fun _ _ _ h => h) (Or.inl ⟨by rfl, fun w' hS => by (have u0_ := hS.1 0 _ rfl; go_simp)⟩) twd.out ?_
 try simp only [Act.put, List.setIfInBounds_toArray, List.set_cons_zero, List.set_cons_succ]
 refine wpAnyH_take (i := 2) (oi := ⟨some 13, _, _, _, _, _⟩) (v := .agg #[.slice (some ⟨w1.heap.size, 0, none⟩) 2 2]) rfl (by kernel_rfl) (by kernel_rfl) (by kernel_rfl) (fun _ _ _ h => h) (Or.inl ⟨by rfl, fun w' hS => by (have u0_ := hS.1 0 _ rfl; go_simp)⟩) twd.out ?_
 try simp only [Act.put, List.setIfInBounds_toArray, List.set_cons_zero, List.set_cons_succ]
 refine wpAnyH_take (i := 4) (oi := ⟨some 15, _, _, _, _, _⟩) (v := .agg #[.slice (some ⟨w1.heap.size, 0, none⟩) 2 2]) rfl (by kernel_rfl) (by kernel_rfl) (by kernel_rfl) (fun _ _ _ h => h) (Or.inl ⟨by rfl, fun w' hS => by (have u0_ := hS.1 0 _ rfl; go_simp)⟩) twd.out ?_
 try simp only [Act.put, List.setIfInBounds_toArray, List.set_cons_zero, List.set_cons_succ]
 refine wpAnyH_ready (rs := [1]) (by kernel_rfl) (by simp) ?_
 refine AllReadyH.cons (o := ⟨some 12, .call ⟨_, _, _⟩, _, _, _, _⟩) rfl (fun K hK => ?_) AllReadyH.nil
 go_simp
 go_at_call 14
 refine (Base_any (some ⟨w1.heap.size, 0, none⟩) 2 uL 2 _ _ (Nat.le_refl _) HSLwd.out uL_VT (H7.out.below HBwd.out) (HKO.out.next HBwd.out) HN.out).mono ?_
 rintro e' qB ⟨hb_, AB, cB, rfl, hs_⟩
 rw [uL_base] at hs_ ⊢
 have HSqB := Lib.hid (show wd.heap.size ≤ qB.heap.size from hb_.size)
 have HBqB := Lib.hid (HBwd.out.trans (hb_.mono HBwd.out.size))
 have xqB := Lib.hid (xwd.out.kept (grown_none hb_) (fun e => by cases e))
 have lqB := Lib.hid (lwd.out.kept (grown_none hb_) (fun e => by cases e))
 have tqB := Lib.hid (twd.out.kept (grown_none hb_) (fun e => by cases e))
 have HSLqB := Lib.hid (HSLwd.out.next (Nat.le_refl _) hb_)
 have HSB := Lib.hid hs_; clear hs_ hb_
 refine hK.out _ _ tqB.out (fun _ => ?_)
 clear hK K
 try simp only [Act.put, List.setIfInBounds_toArray, List.set_cons_zero, List.set_cons_succ]
 refine wpAnyH_ready (rs := [3]) (by kernel_rfl) (by simp) ?_
 refine AllReadyH.cons (o := ⟨some 14, .call ⟨_, _, _⟩, _, _, _, _⟩) rfl (fun K hK => ?_) AllReadyH.nil
 go_simp
 go_at_call 12
 refine (BPath_any (some ⟨w1.heap.size, 0, none⟩) 2 uL 2 _ _ (Nat.le_refl _) HSLqB.out uL_VT (H7.out.below HBqB.out) HN.out (HU.out.below HBqB.out)).mono ?_
 rintro e' qP ⟨hb_, AP, cP, rfl, hs_⟩
 rw [uL_path] at hs_ ⊢
 have HSqP := Lib.hid (show qB.heap.size ≤ qP.heap.size from hb_.size)
 have HBqP := Lib.hid (HBqB.out.trans (hb_.mono HBqB.out.size))
 have xqP := Lib.hid (xqB.out.kept (grown_none hb_) (fun e => by cases e))
 have lqP := Lib.hid (lqB.out.kept (grown_none hb_) (fun e => by cases e))
 have tqP := Lib.hid (tqB.out.kept (grown_none hb_) (fun e => by cases e))
 have HSLqP := Lib.hid (HSLqB.out.next (Nat.le_refl _) hb_)
 have HSBqP := Lib.hid ((HSB.out).next (Nat.le_refl _) hb_)
 have HSP := Lib.hid hs_; clear hs_ hb_
 refine hK.out _ _ tqP.out (fun _ => ?_)
 clear hK K
 try simp only [Act.put, List.setIfInBounds_toArray, List.set_cons_zero, List.set_cons_succ]
 refine wpAnyH_ready (rs := [5]) (by kernel_rfl) (by simp) ?_
 refine AllReadyH.cons (o := ⟨some 16, .call ⟨_, _, _⟩, _, _, _, _⟩) rfl (fun K hK => ?_) AllReadyH.nil
 go_simp
 go_at_call 21
 refine (Content_any (some ⟨w1.heap.size, 0, none⟩) 2 uL 2 _ _ (Nat.le_refl _) HSLqP.out uL_VT (H7.out.below HBqP.out) (HKO.out.next HBqP.out) HN.out).mono ?_
 rintro e' qC ⟨hb_, AC, cC, rfl, hs_⟩
 rw [uL_cont] at hs_ ⊢
 have HSqC := Lib.hid (show qP.heap.size ≤ qC.heap.size from hb_.size)
 have HBqC := Lib.hid (HBqP.out.trans (hb_.mono HBqP.out.size))
 have xqC := Lib.hid (xqP.out.kept (grown_none hb_) (fun e => by cases e))
 have lqC := Lib.hid (lqP.out.kept (grown_none hb_) (fun e => by cases e))
 have tqC := Lib.hid (tqP.out.kept (grown_none hb_) (fun e => by cases e))
 have HSLqC := Lib.hid (HSLqP.out.next (Nat.le_refl _) hb_)
 have HSBqC := Lib.hid ((HSBqP.out).next (Nat.le_refl _) hb_)
 have HSPqC := Lib.hid ((HSP.out).next (Nat.le_refl _) hb_)
 have HSC := Lib.hid hs_; clear hs_ hb_
 refine hK.out _ _ tqC.out (fun _ => ?_)
 clear hK K
 try simp only [Act.put, List.setIfInBounds_toArray, List.set_cons_zero, List.set_cons_succ]
 refine wpAnyH_take (i := 6) (oi := ⟨some 2, _, _, _, _, _⟩) (v := .slice AB uBase.length cB) rfl (by kernel_rfl) (by kernel_rfl) (by kernel_rfl) (fun _ _ _ h => h) (Or.inl ⟨by rfl, fun w' hS => by go_simp⟩) tqC.out ?_
 try simp only [Act.put, List.setIfInBounds_toArray, List.set_cons_zero, List.set_cons_succ]
 refine wpAnyH_take (i := 7) (oi := ⟨some 3, _, _, _, _, _⟩) (v := .slice AP uPath.length cP) rfl (by kernel_rfl) (by kernel_rfl) (by kernel_rfl) (fun _ _ _ h => h) (Or.inl ⟨by rfl, fun w' hS => by go_simp⟩) tqC.out ?_
 try simp only [Act.put, List.setIfInBounds_toArray, List.set_cons_zero, List.set_cons_succ]
 refine wpAnyH_take (i := 8) (oi := ⟨some 4, _, _, _, _, _⟩) (v := .slice AC uCont.length cC) rfl (by kernel_rfl) (by kernel_rfl) (by kernel_rfl) (fun _ _ _ h => h) (Or.inl ⟨by rfl, fun w' hS => by go_simp⟩) tqC.out ?_
 try simp only [Act.put, List.setIfInBounds_toArray, List.set_cons_zero, List.set_cons_succ]
 refine wpAnyH_done (by kernel_rfl) ?_ _
 obtain ⟨bB, oB, rfl, -, -, nB, vB⟩ := Sl.attr HSBqC.out (i := 0) (by decide)
 obtain ⟨bP, oP, eP, -, -, -, vP0⟩ := Sl.attr HSPqC.out (i := 0) (by decide)
 obtain ⟨bP', oP', eP', -, -, -, vP1⟩ := Sl.attr HSPqC.out (i := 1) (by decide)
 obtain ⟨rfl, rfl⟩ : bP = bP' ∧ oP = oP' := by rw [eP] at eP'; injection eP' with h; injection h with h1 h2; exact ⟨h1, h2⟩
 subst eP
 clear eP'
 obtain ⟨bC, oC, rfl, -, -, -, vC⟩ := Sl.attr HSC.out (i := 1) (by decide)
 rw [show uBase.length = 4 from rfl, show uPath.length = 2 from rfl, show uCont.length = 3 from rfl]
 have hcB := HSBqC.out.1; have hcB2 := HSBqC.out.2.1; have hcP := HSPqC.out.1; have hcP2 := HSPqC.out.2.1; have hcC := HSC.out.1; have hcC2 := HSC.out.2.1
 unfold maxLen at hcB2 hcP2 hcC2
 rw [show uBase.length = 4 from rfl] at hcB
 rw [show uPath.length = 2 from rfl] at hcP
 rw [show uCont.length = 3 from rfl] at hcC
 rw [show (uBase[0]'(by decide)).name = ⟨#[68, 69, 86, 78, 65, 77, 69]⟩ from rfl] at nB
 rw [show (uBase[0]'(by decide)).value = ⟨#[115, 100, 97, 49]⟩ from rfl] at vB
 rw [show (uPath[0]'(by decide)).value = ⟨#[112, 99, 105, 58, 112, 99, 105, 48, 45, 98, 108, 111, 99, 107, 58, 115, 100, 97, 49]⟩ from rfl] at vP0
 rw [show (uPath[1]'(by decide)).value = ⟨#[112, 99, 105, 95, 112, 99, 105, 48, 95, 98, 108, 111, 99, 107, 95, 115, 100, 97, 49]⟩ from rfl] at vP1
 rw [show (uCont[1]'(by decide)).value = ⟨#[102, 105, 108, 101, 115, 121, 115, 116, 101, 109]⟩ from rfl] at vC
 rw [show oB + 0 * 2 = oB by omega] at nB
 rw [show oB + 0 * 2 + 1 = oB + 1 by omega] at vB
 rw [show oP + 0 * 2 + 1 = oP + 1 by omega] at vP0
 rw [show oP + 1 * 2 + 1 = oP + 3 by omega] at vP1
 rw [show oC + 1 * 2 + 1 = oC + 3 by omega] at vC
 have vP3 := vP1
 rw [show oP + 3 = oP + 2 + 1 from rfl] at vP3
 have vC3 := vC
 rw [show oC + 3 = oC + 2 + 1 from rfl] at vC3
 go_wp2_with fail
 go_ret
 exact ⟨by try rfl, HBqC.out⟩
end Go.Proofs.YtjgllhlilbchpaaGreatDoor
namespace Go.Proofs.YtjgllhlilbchpaaGreatDoor
open Go.ChangeShapes Go.WideShapes Go.ChangeAt Go.RowKit Go.Cold
theorem gTabType : (Tryz.prog.globals[3]?).map (·.type) = some 197 := by kernel_rfl
/-- What the listed variables hold when the law is called. -/
theorem ok7_of_laid {W : World} (h : laidMetH Tryz.prog [("math/bits.deBruijn32tab", Rows.laid_math_bits_deBruijn32tab), ("math/bits.deBruijn64tab", Rows.laid_math_bits_deBruijn64tab), ("internal/strconv.uint64pow10", Rows.laid_internal_strconv_uint64pow10), ("unicode/utf8.acceptRanges", Rows.laid_unicode_utf8_acceptRanges), ("strconv.ErrRange", Rows.laid_strconv_ErrRange), ("strconv.ErrSyntax", Rows.laid_strconv_ErrSyntax), ("unicode.CaseRanges", Rows.laid_unicode_CaseRanges), ("unicode/utf8.first", Rows.laid_unicode_utf8_first)] W) : Ok7 W := by
 have h0 : laidMet Tryz.prog [("math/bits.deBruijn32tab", Rows.laid_math_bits_deBruijn32tab), ("math/bits.deBruijn64tab", Rows.laid_math_bits_deBruijn64tab), ("internal/strconv.uint64pow10", Rows.laid_internal_strconv_uint64pow10), ("unicode/utf8.acceptRanges", Rows.laid_unicode_utf8_acceptRanges), ("strconv.ErrRange", Rows.laid_strconv_ErrRange), ("strconv.ErrSyntax", Rows.laid_strconv_ErrSyntax), ("unicode.CaseRanges", Rows.laid_unicode_CaseRanges), ("unicode/utf8.first", Rows.laid_unicode_utf8_first)] W := h
 have ht := Lib.tabIs_of_head (k := .u64) (zs := Lib.pow10Tab) tab_named gTabType Tryz.underlying197 Tryz.underlying179 (by kernel_rfl) (by kernel_rfl) h0.tail.tail
 obtain ⟨⟨ev, h1, h2⟩, ⟨ev2, h3, h4⟩⟩ := oka_of_laid h
 exact ⟨⟨ev, h1, h2⟩, ⟨ev2, h3, h4⟩, ht⟩
end Go.Proofs.YtjgllhlilbchpaaGreatDoor
namespace Go.Proofs.YtjgllhlilbchpaaGreatDoor
open Go.ChangeShapes Go.WideShapes Go.ChangeAt Go.RowKit Go.Cold
theorem accept_is : (Rows.laid_unicode_utf8_acceptRanges : DataW Unit) = Lib.acceptData := by kernel_rfl
theorem first_is : (Rows.laid_unicode_utf8_first : DataW Unit) = Lib.firstData := by kernel_rfl
theorem okb_of {W : World} {rest : List (String × DataW Unit)} (h0 : laidMet Tryz.prog (("math/bits.deBruijn32tab", Rows.laid_math_bits_deBruijn32tab) :: ("math/bits.deBruijn64tab", Rows.laid_math_bits_deBruijn64tab) :: ("internal/strconv.uint64pow10", Rows.laid_internal_strconv_uint64pow10) :: ("unicode/utf8.acceptRanges", Rows.laid_unicode_utf8_acceptRanges) :: ("strconv.ErrRange", Rows.laid_strconv_ErrRange) :: ("strconv.ErrSyntax", Rows.laid_strconv_ErrSyntax) :: rest) W) (hf : ("unicode/utf8.first", Rows.laid_unicode_utf8_first) ∈ rest) : Ok7 W ∧ OkU W := by
 have ht := Lib.tabIs_of_head (k := .u64) (zs := Lib.pow10Tab) tab_named gTabType Tryz.underlying197 Tryz.underlying179 (by kernel_rfl) (by kernel_rfl) h0.tail.tail
 have h2 := h0.tail.tail.tail.tail
 obtain ⟨a1, s1, hv1, -, -, -⟩ := laid_sentinel h2 gER gERType Tryz.underlying123 rowErr Tryz.underlying225 Tryz.underlying227 rfl rfl Tryz.underlying9 (by kernel_rfl) (by kernel_rfl)
 obtain ⟨a0, s0, hv0, -, -, -⟩ := laid_sentinel h2.tail gES gESType Tryz.underlying123 rowErr Tryz.underlying225 Tryz.underlying227 rfl rfl Tryz.underlying9 (by kernel_rfl) (by kernel_rfl)
 have hr1 : Lib.VarReads Tryz.prog W "unicode/utf8.first" Lib.firstData := by rw [← first_is]; exact Lib.laidMet.reads h0 (by simp only [List.mem_cons]; exact .inr (.inr (.inr (.inr (.inr (.inr hf))))))
 have hr2 : Lib.VarReads Tryz.prog W "unicode/utf8.acceptRanges" Lib.acceptData := by rw [← accept_is]; exact Lib.laidMet.reads h0 (.tail _ (.tail _ (.tail _ (.head _))))
 have hu := utf8Tabs_of_readsT (U8Types.of260 Tryz.lays260) ⟨by kernel_rfl, by kernel_rfl, by kernel_rfl, by kernel_rfl, by kernel_rfl, by kernel_rfl, by kernel_rfl⟩ hr1 hr2
 exact ⟨⟨⟨_, by have h0 := World.var?_cell gES hv0 0; simpa using h0, .inr ⟨_, _, rfl⟩⟩, ⟨_, by have h0 := World.var?_cell gER hv1 0; simpa using h0, .inr ⟨_, _, rfl⟩⟩, ht⟩, hu⟩
theorem okb7 {W : World} (h : laidMetH Tryz.prog [("math/bits.deBruijn32tab", Rows.laid_math_bits_deBruijn32tab), ("math/bits.deBruijn64tab", Rows.laid_math_bits_deBruijn64tab), ("internal/strconv.uint64pow10", Rows.laid_internal_strconv_uint64pow10), ("unicode/utf8.acceptRanges", Rows.laid_unicode_utf8_acceptRanges), ("strconv.ErrRange", Rows.laid_strconv_ErrRange), ("strconv.ErrSyntax", Rows.laid_strconv_ErrSyntax), ("unicode/utf8.first", Rows.laid_unicode_utf8_first)] W) : Ok7 W ∧ OkU W := by
 have h0 : laidMet Tryz.prog [("math/bits.deBruijn32tab", Rows.laid_math_bits_deBruijn32tab), ("math/bits.deBruijn64tab", Rows.laid_math_bits_deBruijn64tab), ("internal/strconv.uint64pow10", Rows.laid_internal_strconv_uint64pow10), ("unicode/utf8.acceptRanges", Rows.laid_unicode_utf8_acceptRanges), ("strconv.ErrRange", Rows.laid_strconv_ErrRange), ("strconv.ErrSyntax", Rows.laid_strconv_ErrSyntax), ("unicode/utf8.first", Rows.laid_unicode_utf8_first)] W := h
 exact okb_of h0 (by simp)
theorem okb8 {W : World} (h : laidMetH Tryz.prog [("math/bits.deBruijn32tab", Rows.laid_math_bits_deBruijn32tab), ("math/bits.deBruijn64tab", Rows.laid_math_bits_deBruijn64tab), ("internal/strconv.uint64pow10", Rows.laid_internal_strconv_uint64pow10), ("unicode/utf8.acceptRanges", Rows.laid_unicode_utf8_acceptRanges), ("strconv.ErrRange", Rows.laid_strconv_ErrRange), ("strconv.ErrSyntax", Rows.laid_strconv_ErrSyntax), ("unicode.CaseRanges", Rows.laid_unicode_CaseRanges), ("unicode/utf8.first", Rows.laid_unicode_utf8_first)] W) : Ok7 W ∧ OkU W := by
 have h0 : laidMet Tryz.prog [("math/bits.deBruijn32tab", Rows.laid_math_bits_deBruijn32tab), ("math/bits.deBruijn64tab", Rows.laid_math_bits_deBruijn64tab), ("internal/strconv.uint64pow10", Rows.laid_internal_strconv_uint64pow10), ("unicode/utf8.acceptRanges", Rows.laid_unicode_utf8_acceptRanges), ("strconv.ErrRange", Rows.laid_strconv_ErrRange), ("strconv.ErrSyntax", Rows.laid_strconv_ErrSyntax), ("unicode.CaseRanges", Rows.laid_unicode_CaseRanges), ("unicode/utf8.first", Rows.laid_unicode_utf8_first)] W := h
 exact okb_of h0 (by simp)
end Go.Proofs.YtjgllhlilbchpaaGreatDoor
