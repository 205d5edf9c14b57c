/-
  Layer 7: Format, and the law's own examples.
-/
import Derived.Test.YtnlocdhhecockaaGreatDoorCpD
import Derived.Test.YtnlocdhhecockaaGreatDoorCnS
import Derived.Test.YtnlocdhhecockaaGreatDoorCnU
set_option linter.unusedSimpArgs false
set_option linter.unusedVariables false
namespace Go.Cold
open Go Go.RowKit
def T1 : ByteArray := ⟨#[114, 97, 105, 100, 58, 114, 49, 58, 49, 47, 50, 47, 49, 40, 102, 115, 58, 117, 51, 58, 100, 97, 116, 97, 41]⟩
def T2 : ByteArray := ⟨#[114, 97, 105, 100, 58, 114, 58, 48, 49, 47, 50, 47, 49, 40, 41]⟩
def C1 : Cont := .mk 2 ⟨#[114, 49]⟩ ⟨#[]⟩ 1 2 1 [.mk 1 ⟨#[117, 51]⟩ ⟨#[100, 97, 116, 97]⟩ 0 0 0 []]
theorem cont_T1 : contP T1 26 0 = some (C1, 25) := by kernel_rfl
theorem cont_T2 : contP T2 16 0 = none := by kernel_rfl
theorem text_C1 : textC C1 = T1 := by kernel_rfl
theorem ok_C1 : AllOk C1 := by
  unfold C1
  refine AllOk_mk.2 ⟨by decide +kernel, fun x hx => ?_⟩
  simp at hx
  subst hx
  exact AllOk_mk.2 ⟨by decide +kernel, fun x hx => by cases hx⟩
theorem depth_C1 : depthC C1 = 2 := by
  unfold C1; rw [depthC, depthL, depthL, depthC, depthL]; decide
theorem bad_C1 : badC C1 = false := bad_of ok_C1 (by rw [depth_C1]; decide)
theorem parse_T1 : parseC T1 = some C1 := by
  have h1 : T1.size = 25 := by decide +kernel
  unfold parseC
  rw [if_neg (by omega), h1, cont_T1]
  simp [bad_C1]
theorem parse_T2 : parseC T2 = none := by
  have h1 : T2.size = 15 := by decide +kernel
  unfold parseC
  rw [if_neg (by omega), h1, cont_T2]
end Go.Cold
namespace Go.Proofs.YtnlocdhhecockaaGreatDoor
open Go.RowKit Go.Cold

theorem IxOk_ascii (s : ByteArray) (hs : s.size ≤ 1000) (h : ∀ (j : Nat) b, s.data.toList[j]? = some b → b.toNat < 128) : IxOk s := by
  intro ends he k hk W
  refine Tryz.strings_IndexAny_laid (s.extract k s.size) ends W (by rw [ByteArray.size_extract]; omega) ?_ ?_ ?_
  · simp only [List.mem_cons, List.not_mem_nil, or_false] at he
    rcases he with rfl | rfl | rfl | rfl <;> decide
  · intro j b hb
    rw [Lib.extract_data] at hb
    rw [List.getElem?_take] at hb
    split at hb
    · rw [List.getElem?_drop] at hb
      exact h (k + j) b hb
    · cases hb
  · have hall : ∀ e ∈ [slashE, (⟨#[58, 44, 41]⟩ : ByteArray), ⟨#[58, 40, 44, 41]⟩, ⟨#[44, 41]⟩], ∀ b ∈ e.data.toList, b.toNat < 128 := by decide +kernel
    intro j b hb
    exact hall ends he b (List.mem_of_getElem? hb)

/-- content.Format. -/
theorem Format2_any (a : Cont) (cs : List Value) (w : World) (h : CRd w w.heap.size a cs) (hn : nodesC a ≤ 2 ^ 40) : Calls Tryz.prog 9 #[.agg cs.toArray] w (FormatPost a (textC a) w) :=
  Format_any a cs w h hn (textC a) fun hbad W ds hd => text_any a ds W hd (ok_of_bad hbad).1 hn

set_option maxHeartbeats 4000000 in
set_option maxRecDepth 100000 in
theorem known_any (w : World) (hok : Ok7 w) : Calls Tryz.prog 4 #[] w fun e w' => e = .returned (.bool true) ∧ Below w.heap.size w w' := by
  have hasc1 : ∀ b ∈ T1.data.toList, b.toNat < 128 := by decide +kernel
  have hasc2 : ∀ b ∈ T2.data.toList, b.toNat < 128 := by decide +kernel
  have hs1 : T1.size = 25 := by decide +kernel
  have hs2 : T2.size = 15 := by decide +kernel
  have hp1 := Parse_any T1 (fun _ => IxOk_ascii T1 (by omega) (fun j b hb => hasc1 b (List.mem_of_getElem? hb))) w (by unfold maxLen; omega) hok
  have hp2 := fun W (hW : Ok7 W) => Parse_any T2 (fun _ => IxOk_ascii T2 (by omega) (fun j b hb => hasc2 b (List.mem_of_getElem? hb))) W (by unfold maxLen; omega) hW
  have HP1 := Lib.hid hp1; have HP2 := Lib.hid hp2; have HOK := Lib.hid hok; have HS2 := Lib.hid hs2
  clear hp1 hp2 hok hasc1 hasc2 hs1 hs2
  go_enter Tryz.func4, Tryz.ntmps4
  go_wp2_with fail
  refine HP1.out.mono ?_
  rintro e w1 ⟨hb1, hor⟩
  rcases hor.symm with ⟨hc, -⟩ | ⟨c, cs, hc, rfl, hnew, -⟩
  · rw [parse_T1] at hc; cases hc
  rw [parse_T1] at hc
  obtain rfl := Option.some.inj hc; clear hc
  have hrd := hnew.crd
  unfold C1 at hrd
  obtain ⟨A, cp, rfl, -, hsl⟩ := CRd_iff.1 hrd
  clear hnew
  obtain ⟨bb, o, rfl, hbb, ds, hds, hdc⟩ := hsl.cont (i := 0) (by simp)
  simp only [List.getElem_cons_zero] at hds
  obtain ⟨A2, cp2, rfl, -, -⟩ := CRd_iff.1 hds
  have hcx := cells7 hdc
  rw [Nat.zero_mul, Nat.add_zero] at hcx
  have HX := Lib.hid hcx; have HRD := Lib.hid hrd; have HOK1 := Lib.hid (HOK.out.below hb1); have HB1 := Lib.hid hb1
  have hcap := hsl.1; have hcap2 := hsl.2.1
  unfold maxLen at hcap2
  simp only [List.length_cons, List.length_nil] at hcap
  clear hcx hrd hsl hds hdc hb1
  simp only [contCells, List.length_cons, List.length_nil]
  have HRD2 := Lib.hid HRD.out
  unfold contCells at HRD2
  simp only [List.length_cons, List.length_nil] at HRD2
  obtain ⟨w2, hw2⟩ : ∃ w2, w1.alloc (.cells #[.int .i64 2, .string ⟨#[114, 49]⟩, .string ⟨#[]⟩, .int .i64 1, .int .i64 2, .int .i64 1, .slice (some ⟨bb, o, none⟩) (0 + 1) cp] 31) = w2 := ⟨_, rfl⟩
  obtain ⟨hb2, hg2, hbox2⟩ := box7 hw2
  go_upto_region 2 with fail
  simp only [Nat.zero_add] at hw2 ⊢
  try rw [hw2]
  have HBOX2 := Lib.hid hbox2; have HB2 := Lib.hid hb2; have HG2 := Lib.hid hg2
  clear hw2 hbox2 hb2 hg2
  go_wp2_with fail
  refine (HP2.out w2 (HOK1.out.below HB2.out)).mono ?_
  rintro e w3 ⟨hb3, hor⟩
  rcases hor with ⟨c, cs, hc, -⟩ | ⟨-, rfl⟩
  · rw [parse_T2] at hc; cases hc
  rw [if_neg (by have := HS2.out; omega)]
  unfold zeroA
  have HB3 := Lib.hid hb3; clear hb3
  go_upto_region 3 with fail
  have hb3 := HB3.out
  obtain ⟨w4, hw4⟩ : ∃ w4, w3.alloc (.cells #[.int .i64 0, .string ByteArray.empty, .string ByteArray.empty, .int .i64 0, .int .i64 0, .int .i64 0, .slice none 0 0] 31) = w4 := ⟨_, rfl⟩
  obtain ⟨hb4, hg4, -⟩ := box7 hw4
  have hb24 : Below w2.heap.size w2 w4 := hb3.trans (hb4.mono hb3.size)
  try rw [hw4]
  clear hw4
  obtain ⟨d0, d1, d2, d3, d4, d5, d6⟩ := (HBOX2.out.keep hb24 (by have := HG2.out; omega)).zero
  have HB24 := Lib.hid hb24
  clear hb3 hb4 hg4 hb24
  have hrd4 : CRd w4 w4.heap.size C1 [.int .i64 2, .string ⟨#[114, 49]⟩, .string ⟨#[]⟩, .int .i64 1, .int .i64 2, .int .i64 1, .slice (some ⟨bb, o, none⟩) (0 + 1) cp] := by
    have hle : w1.heap.size ≤ w4.heap.size := Nat.le_trans HB2.out.size HB24.out.size
    exact CRd_more hle _ _ (CRd_keep (HB2.out.trans (HB24.out.mono HB2.out.size)) _ _ HRD2.out)
  have hform := Format2_any C1 _ w4 hrd4 (by unfold C1; rw [nodesC, nodesL, nodesL, nodesC, nodesL]; decide)
  simp only [Nat.zero_add] at hform hrd4
  have HFORM := Lib.hid hform; have HRD4 := Lib.hid hrd4; clear hform hrd4
  go_wp2_with fail
  refine HFORM.out.mono ?_
  rintro e w5 ⟨hb5, hor⟩
  have hT : (textC C1).size ≤ 256 := by rw [text_C1]; decide
  rcases hor with ⟨h, -⟩ | ⟨-, h, -⟩ | ⟨-, -, rfl⟩
  · rw [bad_C1] at h; cases h
  · omega
  rw [text_C1]
  have HB5 := Lib.hid hb5
  have hb25 : Below w2.heap.size w2 w5 := HB24.out.trans (hb5.mono HB24.out.size)
  clear d0 d1 d2 d3 d4 d5 d6
  obtain ⟨d0, d1, d2, d3, d4, d5, d6⟩ := (HBOX2.out.keep hb25 (by have := HG2.out; omega)).zero
  have hb15 : Below w1.heap.size w1 w5 := HB2.out.trans (hb25.mono HB2.out.size)
  obtain ⟨e0, e1, e2, e3, e4, e5, e6⟩ := HX.out.keep hb15 hbb
  have hdep := Depth_any C1 _ w5 (CRd_more hb5.size _ _ (CRd_keep hb5 _ _ HRD4.out)) (by rw [depth_C1]; decide)
  have HDEP := Lib.hid hdep; have HB25 := Lib.hid hb25
  clear hdep hb5 hb25 hb15 hT
  have ht1 : T1.toList = [114, 97, 105, 100, 58, 114, 49, 58, 49, 47, 50, 47, 49, 40, 102, 115, 58, 117, 51, 58, 100, 97, 116, 97, 41] := by decide +kernel
  go_wp2_with fail
  refine HDEP.out.mono ?_
  rintro e w6 ⟨rfl, hb6⟩
  rw [depth_C1]
  have hbe : Below w.heap.size w w6 := HB1.out.trans ((HB2.out.trans ((HB25.out.trans (hb6.mono HB25.out.size)).mono HB2.out.size)).mono HB1.out.size)
  have HBE := Lib.hid hbe; clear hbe hb6
  go_wp2
  go_ret
  exact ⟨rfl, HBE.out⟩
end Go.Proofs.YtnlocdhhecockaaGreatDoor
