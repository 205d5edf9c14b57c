/-
  The walks of builtin.set, builtin.Key and the reference's Key.
-/
import Derived.Test.YtjgllhlilbchpaaGreatDoorHUB
import Derived.Test.YtjgllhlilbchpaaGreatDoorHSJ
import Derived.Lib.SlicesS
import Derived.Test.YtjgllhlilbchpaaGreatDoorHL
import Derived.Lib.ItoaLen
import Derived.Deep.RegionHeld3
import Derived.Test.YtjgllhlilbchpaaGreatDoorHD
set_option linter.unusedSimpArgs false
set_option linter.unusedVariables false
namespace Go.Cold
open Go Go.RowKit Go.Proofs.YtjgllhlilbchpaaGreatDoor
/-- A list is returned; what was there stands. -/
def SlPost (l : List Attr) (w : World) (e : Ending) (w' : World) : Prop := Below w.heap.size w w' ∧ ∃ A c, e = .returned (.slice A l.length c) ∧ Sl w' w'.heap.size A c l
theorem SlPost.of_own {l : List Attr} {w w' : World} {e : Ending} {v : Value} {T : TypeId} (hb : Below w.heap.size w w') (he : e = .returned v) (h : OwnsS (fun _ => False) w' w.heap.size T v l) : SlPost l w e w' := by
 obtain ⟨A, c, hv, hs⟩ := h.sl
 exact ⟨hb, A, c, by rw [he, hv], hs⟩
/-- Whether a text is one of the keys of builtin.Base. -/
def baseK (x : ByteArray) : Bool := baseKeys.any fun k => decide (x = k)
theorem baseK_contains (x : ByteArray) : Lib.containsS (baseKeys.take 7) x = baseK x := by
 rw [show baseKeys.take 7 = baseKeys from rfl, Bool.eq_iff_iff, Lib.containsS_iff]
 unfold baseK; rw [List.any_eq_true]
 constructor
 · intro h; exact ⟨x, h, decide_eq_true rfl⟩
 · rintro ⟨k, hk, e⟩; rw [of_decide_eq_true e]; exact hk
theorem str_eq {x : ByteArray} {l : List UInt8} {a : Array UInt8} (ha : (⟨a⟩ : ByteArray).toList = l) : (x.toList == l) = decide (x = ⟨a⟩) := by
 rw [← ha]; exact ba_beq x ⟨a⟩
end Go.Cold
namespace Go.Proofs.YtjgllhlilbchpaaGreatDoor
open Go.RowKit Go.Cold
set_option maxRecDepth 100000 in
/-- builtin.set: nothing is set to the empty text. -/
theorem Put_any (A : Option Addr) (c : Nat) (xs : List Attr) (n x : ByteArray) (w : World) (B : Nat) (hB : B ≤ w.heap.size) (hx : Sl w B A c xs) (hs : sortedA xs = true) (hl : xs.length ≤ 1000) (h1 : n.size ≤ maxLen) (h2 : x.size ≤ maxLen) :
  Calls Tryz.prog 46 #[.slice A xs.length c, .string n, .string x] w (SlPost (putA xs n x) w) := by
 have hx1 := hx.1; have hx2 := hx.2.1
 unfold maxLen at hx2
 have HX := Lib.hid hx; have HB := Lib.hid hB; have HS := Lib.hid hs; have HL := Lib.hid hl; have H1 := Lib.hid h1; have H2 := Lib.hid h2
 clear hx hB hs hl h1 h2
 go_enter Tryz.func46, Tryz.ntmps46
 by_cases hv : x.toList.isEmpty = true
 ·
  have hv2 : (x.toList == (⟨#[]⟩ : ByteArray).toList) = true := by rw [show (⟨#[]⟩ : ByteArray).toList = [] by decide +kernel]; cases hq : x.toList with | nil => rfl | cons a r => rw [hq] at hv; cases hv
  have hv3 : (x.toList == []) = true := by cases hq : x.toList with | nil => rfl | cons a r => rw [hq] at hv; cases hv
  have HV := Lib.hid hv; clear hv
  go_wp2
  go_ret
  have he : putA xs n x = xs := by unfold putA; rw [if_pos HV.out]
  rw [he]
  exact ⟨Below.refl _ _, A, c, rfl, HX.out.more HB.out⟩
 ·
  have hv1 : x.toList.isEmpty = false := by simpa using hv
  have hv2 : (x.toList == (⟨#[]⟩ : ByteArray).toList) = false := by rw [show (⟨#[]⟩ : ByteArray).toList = [] by decide +kernel]; cases hq : x.toList with | nil => rw [hq] at hv1; cases hv1 | cons a r => rfl
  have hv3 : (x.toList == []) = false := by cases hq : x.toList with | nil => rw [hq] at hv1; cases hv1 | cons a r => rfl
  have HV := Lib.hid hv; clear hv hv1
  go_wp2_with fail
  refine (DSet_any A c xs n x _ B HB.out HX.out HS.out HL.out H1.out H2.out).mono ?_
  rintro e w1 ⟨hb1, v, rfl, hown⟩
  have HP := Lib.hid (show SlPost (putA xs n x) w (.returned v) w1 from by rw [show putA xs n x = setA xs n x by unfold putA; rw [if_neg HV.out]]; exact SlPost.of_own hb1 rfl hown); clear hb1 hown
  go_wp2
  go_ret
  exact HP.out
/-- builtin.Key. -/
theorem BKey_any (x : ByteArray) (w : World) : Calls Tryz.prog 17 #[.string x] w fun e w' => e = .returned (.bool (baseK x)) ∧ Below w.heap.size w w' := by
 go_enter Tryz.func17, Tryz.ntmps17
 obtain ⟨wa, hwa⟩ : ∃ z, w.alloc (.cells #[.string ⟨#[68, 69, 86, 78, 65, 77, 69]⟩, .string ⟨#[68, 69, 86, 80, 65, 84, 72]⟩, .string ⟨#[68, 82, 73, 86, 69, 82]⟩, .string ⟨#[73, 78, 84, 69, 82, 70, 65, 67, 69]⟩, .string ⟨#[77, 79, 68, 65, 76, 73, 65, 83]⟩, .string ⟨#[78, 85, 77, 66, 69, 82]⟩, .string ⟨#[83, 85, 66, 83, 89, 83, 84, 69, 77]⟩] 9) = z := ⟨_, rfl⟩
 have hba : Below w.heap.size w wa := by rw [← hwa]; exact (Below.refl _ _).alloc (Nat.le_refl _) _
 have hbx : BoxL wa w.heap.size [.string ⟨#[68, 69, 86, 78, 65, 77, 69]⟩, .string ⟨#[68, 69, 86, 80, 65, 84, 72]⟩, .string ⟨#[68, 82, 73, 86, 69, 82]⟩, .string ⟨#[73, 78, 84, 69, 82, 70, 65, 67, 69]⟩, .string ⟨#[77, 79, 68, 65, 76, 73, 65, 83]⟩, .string ⟨#[78, 85, 77, 66, 69, 82]⟩, .string ⟨#[83, 85, 66, 83, 89, 83, 84, 69, 77]⟩] := box_mk hwa
 have HBA := Lib.hid hba; have HBX := Lib.hid hbx; clear hba hbx
 go_wp2_with fail
 try rw [hwa]
 refine (Tryz.slices_Contains_string w.heap.size 0 7 7 baseKeys x _ (by decide) (by decide) (fun j hj => ?_)).mono ?_
 ·
  have hj7 : j < 7 := hj
  rw [Nat.zero_add]
  refine HBX.out.1 j _ ?_
  rcases j with _ | _ | _ | _ | _ | _ | _ | j <;> first | rfl | omega
 rintro e w9 ⟨rfl, hw_⟩
 rw [hw_]; clear hw_ w9
 rw [baseK_contains]
 clear hwa
 go_wp2
 go_ret
 exact ⟨rfl, HBA.out⟩
/-- The reference's Key. -/
theorem RBKey_any (x : ByteArray) (w : World) : Calls Tryz.prog 18 #[.string x] w fun e w' => e = .returned (.bool (baseK x)) ∧ w' = w := by
 have eDEVNAME := str_eq (x := x) (a := #[68, 69, 86, 78, 65, 77, 69]) (l := [68, 69, 86, 78, 65, 77, 69]) (by decide +kernel)
 have eDEVPATH := str_eq (x := x) (a := #[68, 69, 86, 80, 65, 84, 72]) (l := [68, 69, 86, 80, 65, 84, 72]) (by decide +kernel)
 have eDRIVER := str_eq (x := x) (a := #[68, 82, 73, 86, 69, 82]) (l := [68, 82, 73, 86, 69, 82]) (by decide +kernel)
 have eINTERFACE := str_eq (x := x) (a := #[73, 78, 84, 69, 82, 70, 65, 67, 69]) (l := [73, 78, 84, 69, 82, 70, 65, 67, 69]) (by decide +kernel)
 have eMODALIAS := str_eq (x := x) (a := #[77, 79, 68, 65, 76, 73, 65, 83]) (l := [77, 79, 68, 65, 76, 73, 65, 83]) (by decide +kernel)
 have eNUMBER := str_eq (x := x) (a := #[78, 85, 77, 66, 69, 82]) (l := [78, 85, 77, 66, 69, 82]) (by decide +kernel)
 have eSUBSYSTEM := str_eq (x := x) (a := #[83, 85, 66, 83, 89, 83, 84, 69, 77]) (l := [83, 85, 66, 83, 89, 83, 84, 69, 77]) (by decide +kernel)
 have HK := Lib.hid (show baseK x = ((x.toList == [68, 69, 86, 78, 65, 77, 69]) || (x.toList == [68, 69, 86, 80, 65, 84, 72]) || (x.toList == [68, 82, 73, 86, 69, 82]) || (x.toList == [73, 78, 84, 69, 82, 70, 65, 67, 69]) || (x.toList == [77, 79, 68, 65, 76, 73, 65, 83]) || (x.toList == [78, 85, 77, 66, 69, 82]) || (x.toList == [83, 85, 66, 83, 89, 83, 84, 69, 77])) by rw [Bool.eq_iff_iff]; simp only [baseK, baseKeys, List.any_cons, List.any_nil, Bool.or_false, Bool.or_eq_true, eDEVNAME, eDEVPATH, eDRIVER, eINTERFACE, eMODALIAS, eNUMBER, eSUBSYSTEM, decide_eq_true_eq, or_assoc]; exact Iff.rfl)
 clear eDEVNAME eDEVPATH eDRIVER eINTERFACE eMODALIAS eNUMBER eSUBSYSTEM
 go_enter Tryz.func18, Tryz.ntmps18
 cases c0 : (x.toList == [68, 69, 86, 78, 65, 77, 69])
 ·
  have d0 : (x.toList == (⟨#[68, 69, 86, 78, 65, 77, 69]⟩ : ByteArray).toList) = false := by rw [show (⟨#[68, 69, 86, 78, 65, 77, 69]⟩ : ByteArray).toList = [68, 69, 86, 78, 65, 77, 69] by decide +kernel]; exact c0
  cases c1 : (x.toList == [68, 69, 86, 80, 65, 84, 72])
  ·
   have d1 : (x.toList == (⟨#[68, 69, 86, 80, 65, 84, 72]⟩ : ByteArray).toList) = false := by rw [show (⟨#[68, 69, 86, 80, 65, 84, 72]⟩ : ByteArray).toList = [68, 69, 86, 80, 65, 84, 72] by decide +kernel]; exact c1
   cases c2 : (x.toList == [68, 82, 73, 86, 69, 82])
   ·
    have d2 : (x.toList == (⟨#[68, 82, 73, 86, 69, 82]⟩ : ByteArray).toList) = false := by rw [show (⟨#[68, 82, 73, 86, 69, 82]⟩ : ByteArray).toList = [68, 82, 73, 86, 69, 82] by decide +kernel]; exact c2
    cases c3 : (x.toList == [73, 78, 84, 69, 82, 70, 65, 67, 69])
    ·
     have d3 : (x.toList == (⟨#[73, 78, 84, 69, 82, 70, 65, 67, 69]⟩ : ByteArray).toList) = false := by rw [show (⟨#[73, 78, 84, 69, 82, 70, 65, 67, 69]⟩ : ByteArray).toList = [73, 78, 84, 69, 82, 70, 65, 67, 69] by decide +kernel]; exact c3
     cases c4 : (x.toList == [77, 79, 68, 65, 76, 73, 65, 83])
     ·
      have d4 : (x.toList == (⟨#[77, 79, 68, 65, 76, 73, 65, 83]⟩ : ByteArray).toList) = false := by rw [show (⟨#[77, 79, 68, 65, 76, 73, 65, 83]⟩ : ByteArray).toList = [77, 79, 68, 65, 76, 73, 65, 83] by decide +kernel]; exact c4
      cases c5 : (x.toList == [78, 85, 77, 66, 69, 82])
      ·
       have d5 : (x.toList == (⟨#[78, 85, 77, 66, 69, 82]⟩ : ByteArray).toList) = false := by rw [show (⟨#[78, 85, 77, 66, 69, 82]⟩ : ByteArray).toList = [78, 85, 77, 66, 69, 82] by decide +kernel]; exact c5
       cases c6 : (x.toList == [83, 85, 66, 83, 89, 83, 84, 69, 77])
       ·
        have d6 : (x.toList == (⟨#[83, 85, 66, 83, 89, 83, 84, 69, 77]⟩ : ByteArray).toList) = false := by rw [show (⟨#[83, 85, 66, 83, 89, 83, 84, 69, 77]⟩ : ByteArray).toList = [83, 85, 66, 83, 89, 83, 84, 69, 77] by decide +kernel]; exact c6
        have hb : baseK x = false := by rw [HK.out]; simp only [c0, c1, c2, c3, c4, c5, c6, Bool.or_false, Bool.false_or]
        clear HK
        go_wp2
        go_ret
        exact ⟨by rw [hb]; rfl, rfl⟩
       ·
        have d6 : (x.toList == (⟨#[83, 85, 66, 83, 89, 83, 84, 69, 77]⟩ : ByteArray).toList) = true := by rw [show (⟨#[83, 85, 66, 83, 89, 83, 84, 69, 77]⟩ : ByteArray).toList = [83, 85, 66, 83, 89, 83, 84, 69, 77] by decide +kernel]; exact c6
        have hb : baseK x = true := by rw [HK.out]; simp only [c0, c1, c2, c3, c4, c5, c6, Bool.or_true, Bool.true_or, Bool.or_false, Bool.false_or]
        clear HK
        go_wp2
        go_ret
        exact ⟨by rw [hb]; rfl, rfl⟩
      ·
       have d5 : (x.toList == (⟨#[78, 85, 77, 66, 69, 82]⟩ : ByteArray).toList) = true := by rw [show (⟨#[78, 85, 77, 66, 69, 82]⟩ : ByteArray).toList = [78, 85, 77, 66, 69, 82] by decide +kernel]; exact c5
       have hb : baseK x = true := by rw [HK.out]; simp only [c0, c1, c2, c3, c4, c5, Bool.or_true, Bool.true_or, Bool.or_false, Bool.false_or]
       clear HK
       go_wp2
       go_ret
       exact ⟨by rw [hb]; rfl, rfl⟩
     ·
      have d4 : (x.toList == (⟨#[77, 79, 68, 65, 76, 73, 65, 83]⟩ : ByteArray).toList) = true := by rw [show (⟨#[77, 79, 68, 65, 76, 73, 65, 83]⟩ : ByteArray).toList = [77, 79, 68, 65, 76, 73, 65, 83] by decide +kernel]; exact c4
      have hb : baseK x = true := by rw [HK.out]; simp only [c0, c1, c2, c3, c4, Bool.or_true, Bool.true_or, Bool.or_false, Bool.false_or]
      clear HK
      go_wp2
      go_ret
      exact ⟨by rw [hb]; rfl, rfl⟩
    ·
     have d3 : (x.toList == (⟨#[73, 78, 84, 69, 82, 70, 65, 67, 69]⟩ : ByteArray).toList) = true := by rw [show (⟨#[73, 78, 84, 69, 82, 70, 65, 67, 69]⟩ : ByteArray).toList = [73, 78, 84, 69, 82, 70, 65, 67, 69] by decide +kernel]; exact c3
     have hb : baseK x = true := by rw [HK.out]; simp only [c0, c1, c2, c3, Bool.or_true, Bool.true_or, Bool.or_false, Bool.false_or]
     clear HK
     go_wp2
     go_ret
     exact ⟨by rw [hb]; rfl, rfl⟩
   ·
    have d2 : (x.toList == (⟨#[68, 82, 73, 86, 69, 82]⟩ : ByteArray).toList) = true := by rw [show (⟨#[68, 82, 73, 86, 69, 82]⟩ : ByteArray).toList = [68, 82, 73, 86, 69, 82] by decide +kernel]; exact c2
    have hb : baseK x = true := by rw [HK.out]; simp only [c0, c1, c2, Bool.or_true, Bool.true_or, Bool.or_false, Bool.false_or]
    clear HK
    go_wp2
    go_ret
    exact ⟨by rw [hb]; rfl, rfl⟩
  ·
   have d1 : (x.toList == (⟨#[68, 69, 86, 80, 65, 84, 72]⟩ : ByteArray).toList) = true := by rw [show (⟨#[68, 69, 86, 80, 65, 84, 72]⟩ : ByteArray).toList = [68, 69, 86, 80, 65, 84, 72] by decide +kernel]; exact c1
   have hb : baseK x = true := by rw [HK.out]; simp only [c0, c1, Bool.or_true, Bool.true_or, Bool.or_false, Bool.false_or]
   clear HK
   go_wp2
   go_ret
   exact ⟨by rw [hb]; rfl, rfl⟩
 ·
  have d0 : (x.toList == (⟨#[68, 69, 86, 78, 65, 77, 69]⟩ : ByteArray).toList) = true := by rw [show (⟨#[68, 69, 86, 78, 65, 77, 69]⟩ : ByteArray).toList = [68, 69, 86, 78, 65, 77, 69] by decide +kernel]; exact c0
  have hb : baseK x = true := by rw [HK.out]; simp only [c0, Bool.or_true, Bool.true_or, Bool.or_false, Bool.false_or]
  clear HK
  go_wp2
  go_ret
  exact ⟨by rw [hb]; rfl, rfl⟩
end Go.Proofs.YtjgllhlilbchpaaGreatDoor
namespace Go.Cold
open Go Go.RowKit Go.Proofs.YtjgllhlilbchpaaGreatDoor
theorem base_none {L : List Dev} {n : Int} (h : (findD L n).isSome = false) : baseL L n = [] := by
 unfold baseL
 cases hf : findD L n with
 | none => rfl
 | some d => rw [hf] at h; cases h
/-- A path's text is short. -/
theorem strF_small {L : List Dev} (h : VT L) (n : Int) : (strF L n).size ≤ maxLen := by
 have := str_size (fun d hd => (h.small d hd).1) h.size n
 unfold maxLen; omega
theorem itoaT_small {n : Int} (h : okI n) : (itoaT n).size ≤ maxLen := by
 have h1 := Go.Lib.itoa_length_le n h.1 h.2
 show (Lib.itoa n).toArray.size ≤ maxLen
 rw [List.size_toArray]
 unfold maxLen; omega
theorem set_len {l : List Attr} {k v : ByteArray} {m : Nat} (h : l.length ≤ m) : (setA l k v).length ≤ m + 1 := by
 have := setA_len l k v; omega
theorem base_some {L : List Dev} {n : Int} {d : Dev} (hq : (findD L n).isSome = true) (hd : d = (findD L n).getD zeroD) : baseL L n = putAll (baseP (strF L n) d) := by
 unfold baseL
 cases hf : findD L n with
 | none => rw [hf] at hq; cases hq
 | some e => rw [hf] at hd; rw [show d = e from hd]
end Go.Cold
namespace Go.Proofs.YtjgllhlilbchpaaGreatDoor
open Go.RowKit Go.Cold
set_option maxRecDepth 100000 in
set_option maxHeartbeats 4000000 in
/-- The reference's Base. -/
theorem RBase_any (A : Option Addr) (c : Nat) (L : List Dev) (n : Int) (w : World) (B : Nat) (hB : B ≤ w.heap.size) (hx : Sl w B A c L) (hv : VT L) (hok : Ok7 w) (hko : Ok w) (hn : okI n) :
  Calls Tryz.prog 20 #[.agg #[.slice A L.length c], .int .i64 n] w (SlPost (baseL L n) w) := by
 have hx1 := hx.1; have hx2 := hx.2.1
 unfold maxLen at hx2
 have HX := Lib.hid hx; have HB := Lib.hid hB; have HV := Lib.hid hv; have HOK := Lib.hid hok; clear hx hB hv hok
 have HKO := Lib.hid hko; clear hko
 have HLA := Lib.hid (show ∀ d ∈ L, d.attrs.length ≤ 1000000 from fun d hd => attrs_le (HV.out.chk d hd))
 go_enter Tryz.func20, Tryz.ntmps20
 go_upto_region 1 with fail
 obtain ⟨w1, hw1⟩ : ∃ w1, w.alloc (.cells #[.slice A L.length c] 28) = w1 := ⟨_, rfl⟩
 have hbw1 : Below w.heap.size w w1 := by rw [← hw1]; exact (Below.refl _ _).alloc (Nat.le_refl _) _
 have HGw1 := Lib.hid (show w1.heap.size = w.heap.size + 1 by rw [← hw1]; simp)
 have HXtw1 := Lib.hid (show BoxL w1 w.heap.size [.slice A L.length c] from box_mk hw1)
 try simp only [hw1]
 have HBw1 := Lib.hid hbw1
 clear hw1 hbw1
 try rw [show w.heap.size + 1 = w1.heap.size from HGw1.out.symm]
 have ct0 := HXtw1.out.1 0 _ rfl
 obtain ⟨q, hq⟩ : ∃ z, (findD L n).isSome = z := ⟨_, rfl⟩
 have HQ := Lib.hid hq; clear hq
 go_wp2_with fail
 refine (RFind_any A c L n _ B (Nat.le_trans HB.out HBw1.out.size) (HX.out.keep (HBw1.out.mono HB.out))).mono ?_
 rintro e w2 ⟨hbw2, d, A3, c3, hd, rfl, hod, hsd⟩
 clear ct0
 have HBw2 := Lib.hid (HBw1.out.trans (hbw2.mono HBw1.out.size))
 have tw2 := Lib.hid (HXtw1.out.kept (grown_none hbw2) (fun e => by cases e))
 clear hbw2
 have ct0 := tw2.out.1 0 _ rfl
 rw [HQ.out]
 have Hd := Lib.hid (show d = (findD L n).getD zeroD from hd); have HOd := Lib.hid hod
 have HSd := Lib.hid ((show Sl w2 B A3 c3 d.attrs from hsd).more (Nat.le_trans HB.out HBw2.out.size))
 clear hd hod hsd
 go_upto_region 2 with fail
 obtain ⟨w3, hw3⟩ : ∃ w3, w2.alloc (.cells #[.int .i64 d.idx, .int .i64 d.par, .string d.nm, .string d.orig, .string d.sub, .string d.drv, .string d.ali, .int .i64 d.kind, .int .i64 d.num, .slice A3 d.attrs.length c3] 32) = w3 := ⟨_, rfl⟩
 have hbw3 : Below w2.heap.size w2 w3 := by rw [← hw3]; exact (Below.refl _ _).alloc (Nat.le_refl _) _
 have HGw3 := Lib.hid (show w3.heap.size = w2.heap.size + 1 by rw [← hw3]; simp)
 have HXaw3 := Lib.hid (show BoxL w3 w2.heap.size [.int .i64 d.idx, .int .i64 d.par, .string d.nm, .string d.orig, .string d.sub, .string d.drv, .string d.ali, .int .i64 d.kind, .int .i64 d.num, .slice A3 d.attrs.length c3] from box_mk hw3)
 try simp only [hw3]
 have HBw3 := Lib.hid (HBw2.out.trans (hbw3.mono HBw2.out.size))
 have tw3 := Lib.hid (tw2.out.kept (grown_none hbw3) (fun e => by cases e))
 have HSdw3 := Lib.hid ((HSd.out).next (Nat.le_refl _) hbw3)
 clear hw3 hbw3
 try rw [show w2.heap.size + 1 = w3.heap.size from HGw3.out.symm]
 clear ct0
 have ct0 := tw3.out.1 0 _ rfl
 have ca0 := HXaw3.out.1 0 _ rfl
 have ca1 := HXaw3.out.1 1 _ rfl
 have ca2 := HXaw3.out.1 2 _ rfl
 have ca3 := HXaw3.out.1 3 _ rfl
 have ca4 := HXaw3.out.1 4 _ rfl
 have ca5 := HXaw3.out.1 5 _ rfl
 have ca6 := HXaw3.out.1 6 _ rfl
 have ca7 := HXaw3.out.1 7 _ rfl
 have ca8 := HXaw3.out.1 8 _ rfl
 have ca9 := HXaw3.out.1 9 _ rfl
 cases q
 ·
  have HE := Lib.hid (base_none HQ.out)
  go_wp2
  go_ret
  exact ⟨HBw3.out, none, 0, by rw [HE.out]; rfl, by rw [HE.out]; exact Sl.nil_⟩
 ·
  have HSZ := Lib.hid (strF_small HV.out n)
  obtain ⟨l0, hl0⟩ : ∃ z : List Attr, [] = z := ⟨_, rfl⟩
  have HL0 := Lib.hid hl0.symm; clear hl0
  go_wp2_with fail
  refine (RPlace_any A c L n _ B (Nat.le_trans HB.out HBw3.out.size) (HX.out.keep (HBw3.out.mono HB.out)) HV.out hn).mono ?_
  rintro e w4 ⟨rfl, hbw4⟩
  clear ct0 ca0 ca1 ca2 ca3 ca4 ca5 ca6 ca7 ca8 ca9
  have HBw4 := Lib.hid (HBw3.out.trans (hbw4.mono HBw3.out.size))
  have tw4 := Lib.hid (tw3.out.kept (grown_none hbw4) (fun e => by cases e))
  have aw4 := Lib.hid (HXaw3.out.kept (grown_none hbw4) (fun e => by cases e))
  have HSdw4 := Lib.hid ((HSdw3.out).next (Nat.le_refl _) hbw4)
  clear hbw4
  have ct0 := tw4.out.1 0 _ rfl
  have ca0 := aw4.out.1 0 _ rfl
  have ca1 := aw4.out.1 1 _ rfl
  have ca2 := aw4.out.1 2 _ rfl
  have ca3 := aw4.out.1 3 _ rfl
  have ca4 := aw4.out.1 4 _ rfl
  have ca5 := aw4.out.1 5 _ rfl
  have ca6 := aw4.out.1 6 _ rfl
  have ca7 := aw4.out.1 7 _ rfl
  have ca8 := aw4.out.1 8 _ rfl
  have ca9 := aw4.out.1 9 _ rfl
  go_wp2_with fail
  refine (Set_any none 0 [] kDevpath (strF L n) _ w4.heap.size (Nat.le_refl _) Sl.nil_ (by decide) (by decide) HSZ.out).mono ?_
  rintro e w5 ⟨hbw5, v1_, rfl, hown⟩
  clear ct0 ca0 ca1 ca2 ca3 ca4 ca5 ca6 ca7 ca8 ca9
  have HBw5 := Lib.hid (HBw4.out.trans (hbw5.mono HBw4.out.size))
  have tw5 := Lib.hid (tw4.out.kept (grown_none hbw5) (fun e => by cases e))
  have aw5 := Lib.hid (aw4.out.kept (grown_none hbw5) (fun e => by cases e))
  have HSdw5 := Lib.hid ((HSdw4.out).next (Nat.le_refl _) hbw5)
  clear hbw5
  have ct0 := tw5.out.1 0 _ rfl
  have ca0 := aw5.out.1 0 _ rfl
  have ca1 := aw5.out.1 1 _ rfl
  have ca2 := aw5.out.1 2 _ rfl
  have ca3 := aw5.out.1 3 _ rfl
  have ca4 := aw5.out.1 4 _ rfl
  have ca5 := aw5.out.1 5 _ rfl
  have ca6 := aw5.out.1 6 _ rfl
  have ca7 := aw5.out.1 7 _ rfl
  have ca8 := aw5.out.1 8 _ rfl
  have ca9 := aw5.out.1 9 _ rfl
  obtain ⟨A1_, c1_, rfl, hs_⟩ := hown.sl
  obtain ⟨l1, hl_⟩ : ∃ z, setA [] kDevpath (strF L n) = z := ⟨_, rfl⟩
  rw [hl_] at hs_ ⊢
  have HS1 := Lib.hid hs_; have HL1 := Lib.hid hl_; clear hs_ hl_ hown
  have HN1 := Lib.hid (show l1.length ≤ 1 from by rw [← HL1.out]; exact set_len (by simp))
  go_wp2_with fail
  refine (Set_any A1_ c1_ l1 kSubsystem d.sub _ w5.heap.size (Nat.le_refl _) HS1.out (by have := HN1.out; omega) (by decide) HOd.out.2.2.2.2.1).mono ?_
  rintro e w6 ⟨hbw6, v2_, rfl, hown⟩
  clear ct0 ca0 ca1 ca2 ca3 ca4 ca5 ca6 ca7 ca8 ca9
  have HBw6 := Lib.hid (HBw5.out.trans (hbw6.mono HBw5.out.size))
  have tw6 := Lib.hid (tw5.out.kept (grown_none hbw6) (fun e => by cases e))
  have aw6 := Lib.hid (aw5.out.kept (grown_none hbw6) (fun e => by cases e))
  have HSdw6 := Lib.hid ((HSdw5.out).next (Nat.le_refl _) hbw6)
  have HS1w6 := Lib.hid ((HS1.out).next (Nat.le_refl _) hbw6)
  clear hbw6
  have ct0 := tw6.out.1 0 _ rfl
  have ca0 := aw6.out.1 0 _ rfl
  have ca1 := aw6.out.1 1 _ rfl
  have ca2 := aw6.out.1 2 _ rfl
  have ca3 := aw6.out.1 3 _ rfl
  have ca4 := aw6.out.1 4 _ rfl
  have ca5 := aw6.out.1 5 _ rfl
  have ca6 := aw6.out.1 6 _ rfl
  have ca7 := aw6.out.1 7 _ rfl
  have ca8 := aw6.out.1 8 _ rfl
  have ca9 := aw6.out.1 9 _ rfl
  obtain ⟨A2_, c2_, rfl, hs_⟩ := hown.sl
  obtain ⟨l2, hl_⟩ : ∃ z, setA l1 kSubsystem d.sub = z := ⟨_, rfl⟩
  rw [hl_] at hs_ ⊢
  have HS2 := Lib.hid hs_; have HL2 := Lib.hid hl_; clear hs_ hl_ hown
  have HN2 := Lib.hid (show l2.length ≤ 2 from by rw [← HL2.out]; exact set_len HN1.out)
  go_wp2_with fail
  refine (Set_any A2_ c2_ l2 kDriver d.drv _ w6.heap.size (Nat.le_refl _) HS2.out (by have := HN2.out; omega) (by decide) HOd.out.2.2.2.2.2.1).mono ?_
  rintro e w7 ⟨hbw7, v3_, rfl, hown⟩
  clear ct0 ca0 ca1 ca2 ca3 ca4 ca5 ca6 ca7 ca8 ca9
  have HBw7 := Lib.hid (HBw6.out.trans (hbw7.mono HBw6.out.size))
  have tw7 := Lib.hid (tw6.out.kept (grown_none hbw7) (fun e => by cases e))
  have aw7 := Lib.hid (aw6.out.kept (grown_none hbw7) (fun e => by cases e))
  have HSdw7 := Lib.hid ((HSdw6.out).next (Nat.le_refl _) hbw7)
  have HS1w7 := Lib.hid ((HS1w6.out).next (Nat.le_refl _) hbw7)
  have HS2w7 := Lib.hid ((HS2.out).next (Nat.le_refl _) hbw7)
  clear hbw7
  have ct0 := tw7.out.1 0 _ rfl
  have ca0 := aw7.out.1 0 _ rfl
  have ca1 := aw7.out.1 1 _ rfl
  have ca2 := aw7.out.1 2 _ rfl
  have ca3 := aw7.out.1 3 _ rfl
  have ca4 := aw7.out.1 4 _ rfl
  have ca5 := aw7.out.1 5 _ rfl
  have ca6 := aw7.out.1 6 _ rfl
  have ca7 := aw7.out.1 7 _ rfl
  have ca8 := aw7.out.1 8 _ rfl
  have ca9 := aw7.out.1 9 _ rfl
  obtain ⟨A3_, c3_, rfl, hs_⟩ := hown.sl
  obtain ⟨l3, hl_⟩ : ∃ z, setA l2 kDriver d.drv = z := ⟨_, rfl⟩
  rw [hl_] at hs_ ⊢
  have HS3 := Lib.hid hs_; have HL3 := Lib.hid hl_; clear hs_ hl_ hown
  have HN3 := Lib.hid (show l3.length ≤ 3 from by rw [← HL3.out]; exact set_len HN2.out)
  go_wp2_with fail
  refine (Set_any A3_ c3_ l3 kModalias d.ali _ w7.heap.size (Nat.le_refl _) HS3.out (by have := HN3.out; omega) (by decide) HOd.out.2.2.2.2.2.2.1).mono ?_
  rintro e w8 ⟨hbw8, v4_, rfl, hown⟩
  clear ct0 ca0 ca1 ca2 ca3 ca4 ca5 ca6 ca7 ca8 ca9
  have HBw8 := Lib.hid (HBw7.out.trans (hbw8.mono HBw7.out.size))
  have tw8 := Lib.hid (tw7.out.kept (grown_none hbw8) (fun e => by cases e))
  have aw8 := Lib.hid (aw7.out.kept (grown_none hbw8) (fun e => by cases e))
  have HSdw8 := Lib.hid ((HSdw7.out).next (Nat.le_refl _) hbw8)
  have HS1w8 := Lib.hid ((HS1w7.out).next (Nat.le_refl _) hbw8)
  have HS2w8 := Lib.hid ((HS2w7.out).next (Nat.le_refl _) hbw8)
  have HS3w8 := Lib.hid ((HS3.out).next (Nat.le_refl _) hbw8)
  clear hbw8
  have ct0 := tw8.out.1 0 _ rfl
  have ca0 := aw8.out.1 0 _ rfl
  have ca1 := aw8.out.1 1 _ rfl
  have ca2 := aw8.out.1 2 _ rfl
  have ca3 := aw8.out.1 3 _ rfl
  have ca4 := aw8.out.1 4 _ rfl
  have ca5 := aw8.out.1 5 _ rfl
  have ca6 := aw8.out.1 6 _ rfl
  have ca7 := aw8.out.1 7 _ rfl
  have ca8 := aw8.out.1 8 _ rfl
  have ca9 := aw8.out.1 9 _ rfl
  obtain ⟨A4_, c4_, rfl, hs_⟩ := hown.sl
  obtain ⟨l4, hl_⟩ : ∃ z, setA l3 kModalias d.ali = z := ⟨_, rfl⟩
  rw [hl_] at hs_ ⊢
  have HS4 := Lib.hid hs_; have HL4 := Lib.hid hl_; clear hs_ hl_ hown
  have HN4 := Lib.hid (show l4.length ≤ 4 from by rw [← HL4.out]; exact set_len HN3.out)
  have HSO := Lib.hid (show d.orig.size ≤ 32 by have := findD_small HV.out n; rw [← Hd.out] at this; exact this)
  obtain ⟨nd, hnd⟩ : ∃ z, (nodeD d).isSome = z := ⟨_, rfl⟩
  have HND := Lib.hid hnd; clear hnd
  go_wp2_with fail
  refine (RNode_any d A3 c3 _ (by have := HSO.out; omega) (HKO.out.next HBw8.out)).mono ?_
  rintro e w9 ⟨rfl, hbw9⟩
  clear ct0 ca0 ca1 ca2 ca3 ca4 ca5 ca6 ca7 ca8 ca9
  have HBw9 := Lib.hid (HBw8.out.trans (hbw9.mono HBw8.out.size))
  have tw9 := Lib.hid (tw8.out.kept (grown_none hbw9) (fun e => by cases e))
  have aw9 := Lib.hid (aw8.out.kept (grown_none hbw9) (fun e => by cases e))
  have HSdw9 := Lib.hid ((HSdw8.out).next (Nat.le_refl _) hbw9)
  have HS1w9 := Lib.hid ((HS1w8.out).next (Nat.le_refl _) hbw9)
  have HS2w9 := Lib.hid ((HS2w8.out).next (Nat.le_refl _) hbw9)
  have HS3w9 := Lib.hid ((HS3w8.out).next (Nat.le_refl _) hbw9)
  have HS4w9 := Lib.hid ((HS4.out).next (Nat.le_refl _) hbw9)
  clear hbw9
  have ct0 := tw9.out.1 0 _ rfl
  have ca0 := aw9.out.1 0 _ rfl
  have ca1 := aw9.out.1 1 _ rfl
  have ca2 := aw9.out.1 2 _ rfl
  have ca3 := aw9.out.1 3 _ rfl
  have ca4 := aw9.out.1 4 _ rfl
  have ca5 := aw9.out.1 5 _ rfl
  have ca6 := aw9.out.1 6 _ rfl
  have ca7 := aw9.out.1 7 _ rfl
  have ca8 := aw9.out.1 8 _ rfl
  have ca9 := aw9.out.1 9 _ rfl
  rw [HND.out]
  cases nd
  ·
   by_cases hk : d.kind = 4
   ·
    have HK := Lib.hid hk
    have hkb : (d.kind == 4) = true := by rw [hk]; rfl
    go_wp2_with fail
    refine (Set_any A4_ c4_ l4 kInterface d.orig _ w9.heap.size (Nat.le_refl _) HS4w9.out (by have := HN4.out; omega) (by decide) HOd.out.2.2.2.1).mono ?_
    rintro e w10 ⟨hbw10, v5_, rfl, hown⟩
    clear ct0 ca0 ca1 ca2 ca3 ca4 ca5 ca6 ca7 ca8 ca9
    have HBw10 := Lib.hid (HBw9.out.trans (hbw10.mono HBw9.out.size))
    have tw10 := Lib.hid (tw9.out.kept (grown_none hbw10) (fun e => by cases e))
    have aw10 := Lib.hid (aw9.out.kept (grown_none hbw10) (fun e => by cases e))
    have HSdw10 := Lib.hid ((HSdw9.out).next (Nat.le_refl _) hbw10)
    have HS1w10 := Lib.hid ((HS1w9.out).next (Nat.le_refl _) hbw10)
    have HS2w10 := Lib.hid ((HS2w9.out).next (Nat.le_refl _) hbw10)
    have HS3w10 := Lib.hid ((HS3w9.out).next (Nat.le_refl _) hbw10)
    have HS4w10 := Lib.hid ((HS4w9.out).next (Nat.le_refl _) hbw10)
    clear hbw10
    have ct0 := tw10.out.1 0 _ rfl
    have ca0 := aw10.out.1 0 _ rfl
    have ca1 := aw10.out.1 1 _ rfl
    have ca2 := aw10.out.1 2 _ rfl
    have ca3 := aw10.out.1 3 _ rfl
    have ca4 := aw10.out.1 4 _ rfl
    have ca5 := aw10.out.1 5 _ rfl
    have ca6 := aw10.out.1 6 _ rfl
    have ca7 := aw10.out.1 7 _ rfl
    have ca8 := aw10.out.1 8 _ rfl
    have ca9 := aw10.out.1 9 _ rfl
    obtain ⟨A5_, c5_, rfl, hs_⟩ := hown.sl
    obtain ⟨l5, hl_⟩ : ∃ z, setA l4 kInterface d.orig = z := ⟨_, rfl⟩
    rw [hl_] at hs_ ⊢
    have HS5 := Lib.hid hs_; have HL5 := Lib.hid hl_; clear hs_ hl_ hown
    have HN5 := Lib.hid (show l5.length ≤ 5 from by rw [← HL5.out]; exact set_len HN4.out)
    have HE := Lib.hid (show baseL L n = l5 from by rw [base_some HQ.out Hd.out]; unfold baseP; rw [if_neg (by rw [HND.out]; decide), if_pos HK.out]; simp only [List.append_nil, List.cons_append, List.nil_append, putAll, List.foldl_cons, List.foldl_nil]; rw [HL1.out, HL2.out, HL3.out, HL4.out, HL5.out])
    go_wp2
    go_ret
    exact ⟨HBw10.out, A5_, c5_, by rw [HE.out]; rfl, by rw [HE.out]; exact HS5.out⟩
   ·
    have HK := Lib.hid hk
    have hkb : (d.kind == 4) = false := by simpa using hk
    have HE := Lib.hid (show baseL L n = l4 from by rw [base_some HQ.out Hd.out]; unfold baseP; rw [if_neg (by rw [HND.out]; decide), if_neg HK.out]; simp only [List.append_nil, List.cons_append, List.nil_append, putAll, List.foldl_cons, List.foldl_nil]; rw [HL1.out, HL2.out, HL3.out, HL4.out])
    go_wp2
    go_ret
    exact ⟨HBw9.out, A4_, c4_, by rw [HE.out]; rfl, by rw [HE.out]; exact HS4w9.out⟩
  ·
   go_wp2_with fail
   refine (Set_any A4_ c4_ l4 kDevname (nodeV d) _ w9.heap.size (Nat.le_refl _) HS4w9.out (by have := HN4.out; omega) (by decide) (by have := node_small HSO.out; unfold maxLen; omega)).mono ?_
   rintro e w11 ⟨hbw11, v5_, rfl, hown⟩
   clear ct0 ca0 ca1 ca2 ca3 ca4 ca5 ca6 ca7 ca8 ca9
   have HBw11 := Lib.hid (HBw9.out.trans (hbw11.mono HBw9.out.size))
   have tw11 := Lib.hid (tw9.out.kept (grown_none hbw11) (fun e => by cases e))
   have aw11 := Lib.hid (aw9.out.kept (grown_none hbw11) (fun e => by cases e))
   have HSdw11 := Lib.hid ((HSdw9.out).next (Nat.le_refl _) hbw11)
   have HS1w11 := Lib.hid ((HS1w9.out).next (Nat.le_refl _) hbw11)
   have HS2w11 := Lib.hid ((HS2w9.out).next (Nat.le_refl _) hbw11)
   have HS3w11 := Lib.hid ((HS3w9.out).next (Nat.le_refl _) hbw11)
   have HS4w11 := Lib.hid ((HS4w9.out).next (Nat.le_refl _) hbw11)
   clear hbw11
   have ct0 := tw11.out.1 0 _ rfl
   have ca0 := aw11.out.1 0 _ rfl
   have ca1 := aw11.out.1 1 _ rfl
   have ca2 := aw11.out.1 2 _ rfl
   have ca3 := aw11.out.1 3 _ rfl
   have ca4 := aw11.out.1 4 _ rfl
   have ca5 := aw11.out.1 5 _ rfl
   have ca6 := aw11.out.1 6 _ rfl
   have ca7 := aw11.out.1 7 _ rfl
   have ca8 := aw11.out.1 8 _ rfl
   have ca9 := aw11.out.1 9 _ rfl
   obtain ⟨A5_, c5_, rfl, hs_⟩ := hown.sl
   obtain ⟨l5, hl_⟩ : ∃ z, setA l4 kDevname (nodeV d) = z := ⟨_, rfl⟩
   rw [hl_] at hs_ ⊢
   have HS5 := Lib.hid hs_; have HL5 := Lib.hid hl_; clear hs_ hl_ hown
   have HN5 := Lib.hid (show l5.length ≤ 5 from by rw [← HL5.out]; exact set_len HN4.out)
   go_wp2_with fail
   refine (Itoa_any d.num _ (HOK.out.below HBw11.out) HOd.out.2.2.2.2.2.2.2.2).mono ?_
   rintro e w12 ⟨rfl, hbw12⟩
   clear ct0 ca0 ca1 ca2 ca3 ca4 ca5 ca6 ca7 ca8 ca9
   have HBw12 := Lib.hid (HBw11.out.trans (hbw12.mono HBw11.out.size))
   have tw12 := Lib.hid (tw11.out.kept (grown_none hbw12) (fun e => by cases e))
   have aw12 := Lib.hid (aw11.out.kept (grown_none hbw12) (fun e => by cases e))
   have HSdw12 := Lib.hid ((HSdw11.out).next (Nat.le_refl _) hbw12)
   have HS1w12 := Lib.hid ((HS1w11.out).next (Nat.le_refl _) hbw12)
   have HS2w12 := Lib.hid ((HS2w11.out).next (Nat.le_refl _) hbw12)
   have HS3w12 := Lib.hid ((HS3w11.out).next (Nat.le_refl _) hbw12)
   have HS4w12 := Lib.hid ((HS4w11.out).next (Nat.le_refl _) hbw12)
   have HS5w12 := Lib.hid ((HS5.out).next (Nat.le_refl _) hbw12)
   clear hbw12
   have ct0 := tw12.out.1 0 _ rfl
   have ca0 := aw12.out.1 0 _ rfl
   have ca1 := aw12.out.1 1 _ rfl
   have ca2 := aw12.out.1 2 _ rfl
   have ca3 := aw12.out.1 3 _ rfl
   have ca4 := aw12.out.1 4 _ rfl
   have ca5 := aw12.out.1 5 _ rfl
   have ca6 := aw12.out.1 6 _ rfl
   have ca7 := aw12.out.1 7 _ rfl
   have ca8 := aw12.out.1 8 _ rfl
   have ca9 := aw12.out.1 9 _ rfl
   go_wp2_with fail
   refine (Set_any A5_ c5_ l5 kNumber (itoaT d.num) _ w12.heap.size (Nat.le_refl _) HS5w12.out (by have := HN5.out; omega) (by decide) (itoaT_small HOd.out.2.2.2.2.2.2.2.2)).mono ?_
   rintro e w13 ⟨hbw13, v6_, rfl, hown⟩
   clear ct0 ca0 ca1 ca2 ca3 ca4 ca5 ca6 ca7 ca8 ca9
   have HBw13 := Lib.hid (HBw12.out.trans (hbw13.mono HBw12.out.size))
   have tw13 := Lib.hid (tw12.out.kept (grown_none hbw13) (fun e => by cases e))
   have aw13 := Lib.hid (aw12.out.kept (grown_none hbw13) (fun e => by cases e))
   have HSdw13 := Lib.hid ((HSdw12.out).next (Nat.le_refl _) hbw13)
   have HS1w13 := Lib.hid ((HS1w12.out).next (Nat.le_refl _) hbw13)
   have HS2w13 := Lib.hid ((HS2w12.out).next (Nat.le_refl _) hbw13)
   have HS3w13 := Lib.hid ((HS3w12.out).next (Nat.le_refl _) hbw13)
   have HS4w13 := Lib.hid ((HS4w12.out).next (Nat.le_refl _) hbw13)
   have HS5w13 := Lib.hid ((HS5w12.out).next (Nat.le_refl _) hbw13)
   clear hbw13
   have ct0 := tw13.out.1 0 _ rfl
   have ca0 := aw13.out.1 0 _ rfl
   have ca1 := aw13.out.1 1 _ rfl
   have ca2 := aw13.out.1 2 _ rfl
   have ca3 := aw13.out.1 3 _ rfl
   have ca4 := aw13.out.1 4 _ rfl
   have ca5 := aw13.out.1 5 _ rfl
   have ca6 := aw13.out.1 6 _ rfl
   have ca7 := aw13.out.1 7 _ rfl
   have ca8 := aw13.out.1 8 _ rfl
   have ca9 := aw13.out.1 9 _ rfl
   obtain ⟨A6_, c6_, rfl, hs_⟩ := hown.sl
   obtain ⟨l6, hl_⟩ : ∃ z, setA l5 kNumber (itoaT d.num) = z := ⟨_, rfl⟩
   rw [hl_] at hs_ ⊢
   have HS6 := Lib.hid hs_; have HL6 := Lib.hid hl_; clear hs_ hl_ hown
   have HN6 := Lib.hid (show l6.length ≤ 6 from by rw [← HL6.out]; exact set_len HN5.out)
   by_cases hk : d.kind = 4
   ·
    have HK := Lib.hid hk
    have hkb : (d.kind == 4) = true := by rw [hk]; rfl
    go_wp2_with fail
    refine (Set_any A6_ c6_ l6 kInterface d.orig _ w13.heap.size (Nat.le_refl _) HS6.out (by have := HN6.out; omega) (by decide) HOd.out.2.2.2.1).mono ?_
    rintro e w14 ⟨hbw14, v7_, rfl, hown⟩
    clear ct0 ca0 ca1 ca2 ca3 ca4 ca5 ca6 ca7 ca8 ca9
    have HBw14 := Lib.hid (HBw13.out.trans (hbw14.mono HBw13.out.size))
    have tw14 := Lib.hid (tw13.out.kept (grown_none hbw14) (fun e => by cases e))
    have aw14 := Lib.hid (aw13.out.kept (grown_none hbw14) (fun e => by cases e))
    have HSdw14 := Lib.hid ((HSdw13.out).next (Nat.le_refl _) hbw14)
    have HS1w14 := Lib.hid ((HS1w13.out).next (Nat.le_refl _) hbw14)
    have HS2w14 := Lib.hid ((HS2w13.out).next (Nat.le_refl _) hbw14)
    have HS3w14 := Lib.hid ((HS3w13.out).next (Nat.le_refl _) hbw14)
    have HS4w14 := Lib.hid ((HS4w13.out).next (Nat.le_refl _) hbw14)
    have HS5w14 := Lib.hid ((HS5w13.out).next (Nat.le_refl _) hbw14)
    have HS6w14 := Lib.hid ((HS6.out).next (Nat.le_refl _) hbw14)
    clear hbw14
    have ct0 := tw14.out.1 0 _ rfl
    have ca0 := aw14.out.1 0 _ rfl
    have ca1 := aw14.out.1 1 _ rfl
    have ca2 := aw14.out.1 2 _ rfl
    have ca3 := aw14.out.1 3 _ rfl
    have ca4 := aw14.out.1 4 _ rfl
    have ca5 := aw14.out.1 5 _ rfl
    have ca6 := aw14.out.1 6 _ rfl
    have ca7 := aw14.out.1 7 _ rfl
    have ca8 := aw14.out.1 8 _ rfl
    have ca9 := aw14.out.1 9 _ rfl
    obtain ⟨A7_, c7_, rfl, hs_⟩ := hown.sl
    obtain ⟨l7, hl_⟩ : ∃ z, setA l6 kInterface d.orig = z := ⟨_, rfl⟩
    rw [hl_] at hs_ ⊢
    have HS7 := Lib.hid hs_; have HL7 := Lib.hid hl_; clear hs_ hl_ hown
    have HN7 := Lib.hid (show l7.length ≤ 7 from by rw [← HL7.out]; exact set_len HN6.out)
    have HE := Lib.hid (show baseL L n = l7 from by rw [base_some HQ.out Hd.out]; unfold baseP; rw [if_pos HND.out, if_pos HK.out]; simp only [List.append_nil, List.cons_append, List.nil_append, putAll, List.foldl_cons, List.foldl_nil]; rw [HL1.out, HL2.out, HL3.out, HL4.out, HL5.out, HL6.out, HL7.out])
    go_wp2
    go_ret
    exact ⟨HBw14.out, A7_, c7_, by rw [HE.out]; rfl, by rw [HE.out]; exact HS7.out⟩
   ·
    have HK := Lib.hid hk
    have hkb : (d.kind == 4) = false := by simpa using hk
    have HE := Lib.hid (show baseL L n = l6 from by rw [base_some HQ.out Hd.out]; unfold baseP; rw [if_pos HND.out, if_neg HK.out]; simp only [List.append_nil, List.cons_append, List.nil_append, putAll, List.foldl_cons, List.foldl_nil]; rw [HL1.out, HL2.out, HL3.out, HL4.out, HL5.out, HL6.out])
    go_wp2
    go_ret
    exact ⟨HBw13.out, A6_, c6_, by rw [HE.out]; rfl, by rw [HE.out]; exact HS6.out⟩
end Go.Proofs.YtjgllhlilbchpaaGreatDoor
namespace Go.Cold
open Go Go.RowKit Go.Proofs.YtjgllhlilbchpaaGreatDoor
theorem put_next {ps : List (ByteArray × ByteArray)} {l : List Attr} {k v : ByteArray} (h : putAll ps = l) (hk : k ∉ ps.map (·.1)) : putAll (ps ++ [(k, v)]) = putA l k v := by rw [← h]; exact (putA_set hk).symm
theorem put_srt {ps : List (ByteArray × ByteArray)} {l : List Attr} (h : putAll ps = l) : sortedA l = true := by rw [← h]; exact putAll_sorted _
theorem put_len {ps : List (ByteArray × ByteArray)} {l : List Attr} (h : putAll ps = l) (hn : ps.length ≤ 1000) : l.length ≤ 1000 := by rw [← h]; exact Nat.le_trans (putAll_len ps) hn
theorem putAll_nil : putAll [] = [] := rfl
end Go.Cold
namespace Go.Proofs.YtjgllhlilbchpaaGreatDoor
open Go.RowKit Go.Cold
/-- builtin.part. -/
theorem part_any (d : Dev) (A : Option Addr) (c : Nat) (w : World) (hs : d.sub.size ≤ 1000) (ho : d.orig.size ≤ 1000) : Calls Tryz.prog 40 #[.agg #[.int .i64 d.idx, .int .i64 d.par, .string d.nm, .string d.orig, .string d.sub, .string d.drv, .string d.ali, .int .i64 d.kind, .int .i64 d.num, .slice A d.attrs.length c]] w fun e w' => e = .returned (.string (partT d)) ∧ Below w.heap.size w w' := by
 have f1 : ¬ 9223372036854775807 < d.sub.size + 1 := by omega
 have f2 : ¬ 9223372036854775807 < d.sub.size + 1 + d.orig.size := by omega
 clear hs ho
 go_enter Tryz.func40, Tryz.ntmps40
 go_upto_region 1 with fail
 obtain ⟨w1, hw1⟩ : ∃ w1, w.alloc (.cells #[.int .i64 d.idx, .int .i64 d.par, .string d.nm, .string d.orig, .string d.sub, .string d.drv, .string d.ali, .int .i64 d.kind, .int .i64 d.num, .slice A d.attrs.length c] 32) = w1 := ⟨_, rfl⟩
 have hbw1 : Below w.heap.size w w1 := by rw [← hw1]; exact (Below.refl _ _).alloc (Nat.le_refl _) _
 have HGw1 := Lib.hid (show w1.heap.size = w.heap.size + 1 by rw [← hw1]; simp)
 have HXpw1 := Lib.hid (show BoxL w1 w.heap.size [.int .i64 d.idx, .int .i64 d.par, .string d.nm, .string d.orig, .string d.sub, .string d.drv, .string d.ali, .int .i64 d.kind, .int .i64 d.num, .slice A d.attrs.length c] from box_mk hw1)
 try simp only [hw1]
 have HBw1 := Lib.hid hbw1
 clear hw1 hbw1
 try rw [show w.heap.size + 1 = w1.heap.size from HGw1.out.symm]
 have cp0 := HXpw1.out.1 0 _ rfl
 have cp1 := HXpw1.out.1 1 _ rfl
 have cp2 := HXpw1.out.1 2 _ rfl
 have cp3 := HXpw1.out.1 3 _ rfl
 have cp4 := HXpw1.out.1 4 _ rfl
 have cp5 := HXpw1.out.1 5 _ rfl
 have cp6 := HXpw1.out.1 6 _ rfl
 have cp7 := HXpw1.out.1 7 _ rfl
 have cp8 := HXpw1.out.1 8 _ rfl
 have cp9 := HXpw1.out.1 9 _ rfl
 go_wp2
 go_ret
 exact ⟨by try rfl, HBw1.out⟩
set_option maxRecDepth 100000 in
set_option maxHeartbeats 4000000 in
/-- builtin.Base. -/
theorem Base_any (A : Option Addr) (c : Nat) (L : List Dev) (n : Int) (w : World) (B : Nat) (hB : B ≤ w.heap.size) (hx : Sl w B A c L) (hv : VT L) (hok : Ok7 w) (hko : Ok w) (hn : okI n) :
  Calls Tryz.prog 14 #[.agg #[.slice A L.length c], .int .i64 n] w (SlPost (baseL L n) w) := by
 have hx1 := hx.1; have hx2 := hx.2.1
 unfold maxLen at hx2
 have HX := Lib.hid hx; have HB := Lib.hid hB; have HV := Lib.hid hv; have HOK := Lib.hid hok; clear hx hB hv hok
 have HKO := Lib.hid hko; have HN := Lib.hid hn; clear hko hn
 have HLA := Lib.hid (show ∀ d ∈ L, d.attrs.length ≤ 1000000 from fun d hd => attrs_le (HV.out.chk d hd))
 go_enter Tryz.func14, Tryz.ntmps14
 go_upto_region 1 with fail
 obtain ⟨w1, hw1⟩ : ∃ w1, w.alloc (.cells #[.slice A L.length c] 28) = w1 := ⟨_, rfl⟩
 have hbw1 : Below w.heap.size w w1 := by rw [← hw1]; exact (Below.refl _ _).alloc (Nat.le_refl _) _
 have HGw1 := Lib.hid (show w1.heap.size = w.heap.size + 1 by rw [← hw1]; simp)
 have HXtw1 := Lib.hid (show BoxL w1 w.heap.size [.slice A L.length c] from box_mk hw1)
 try simp only [hw1]
 have HBw1 := Lib.hid hbw1
 clear hw1 hbw1
 try rw [show w.heap.size + 1 = w1.heap.size from HGw1.out.symm]
 have ct0 := HXtw1.out.1 0 _ rfl
 obtain ⟨q, hq⟩ : ∃ z, (findD L n).isSome = z := ⟨_, rfl⟩
 have HQ := Lib.hid hq; clear hq
 go_wp2_with fail
 refine (TFind_any A c L n _ B (Nat.le_trans HB.out HBw1.out.size) (HX.out.keep (HBw1.out.mono HB.out)) HLA.out).mono ?_
 rintro e w2 ⟨hbw2, d, A3, c3, hd, rfl, hod, hsd⟩
 clear ct0
 have HBw2 := Lib.hid (HBw1.out.trans (hbw2.mono HBw1.out.size))
 have tw2 := Lib.hid (HXtw1.out.kept (grown_none hbw2) (fun e => by cases e))
 clear hbw2
 have ct0 := tw2.out.1 0 _ rfl
 rw [show (L.find? (byIdx n)).isSome = q from HQ.out]
 have Hd := Lib.hid (show d = (findD L n).getD zeroD from hd); have HOd := Lib.hid hod
 clear hd hod hsd
 go_upto_region 2 with fail
 obtain ⟨w3, hw3⟩ : ∃ w3, w2.alloc (.cells #[.int .i64 d.idx, .int .i64 d.par, .string d.nm, .string d.orig, .string d.sub, .string d.drv, .string d.ali, .int .i64 d.kind, .int .i64 d.num, .slice A3 d.attrs.length c3] 32) = w3 := ⟨_, rfl⟩
 have hbw3 : Below w2.heap.size w2 w3 := by rw [← hw3]; exact (Below.refl _ _).alloc (Nat.le_refl _) _
 have HGw3 := Lib.hid (show w3.heap.size = w2.heap.size + 1 by rw [← hw3]; simp)
 have HXaw3 := Lib.hid (show BoxL w3 w2.heap.size [.int .i64 d.idx, .int .i64 d.par, .string d.nm, .string d.orig, .string d.sub, .string d.drv, .string d.ali, .int .i64 d.kind, .int .i64 d.num, .slice A3 d.attrs.length c3] from box_mk hw3)
 try simp only [hw3]
 have HBw3 := Lib.hid (HBw2.out.trans (hbw3.mono HBw2.out.size))
 have tw3 := Lib.hid (tw2.out.kept (grown_none hbw3) (fun e => by cases e))
 clear hw3 hbw3
 try rw [show w2.heap.size + 1 = w3.heap.size from HGw3.out.symm]
 clear ct0
 have ct0 := tw3.out.1 0 _ rfl
 have ca0 := HXaw3.out.1 0 _ rfl
 have ca1 := HXaw3.out.1 1 _ rfl
 have ca2 := HXaw3.out.1 2 _ rfl
 have ca3 := HXaw3.out.1 3 _ rfl
 have ca4 := HXaw3.out.1 4 _ rfl
 have ca5 := HXaw3.out.1 5 _ rfl
 have ca6 := HXaw3.out.1 6 _ rfl
 have ca7 := HXaw3.out.1 7 _ rfl
 have ca8 := HXaw3.out.1 8 _ rfl
 have ca9 := HXaw3.out.1 9 _ rfl
 cases q
 ·
  have HE := Lib.hid (base_none HQ.out)
  go_wp2
  go_ret
  exact ⟨HBw3.out, none, 0, by rw [HE.out]; rfl, by rw [HE.out]; exact Sl.nil_⟩
 ·
  obtain ⟨so, hso⟩ : ∃ z, strF L n = z := ⟨_, rfl⟩
  obtain ⟨bc, hbc⟩ : ∃ z, (idxs L).contains n = z := ⟨_, rfl⟩
  have HSO := Lib.hid hso; have HSZ := Lib.hid (show so.size ≤ maxLen from hso ▸ strF_small HV.out n); have HBC := Lib.hid hbc; clear hso hbc
  have HBE := Lib.hid (show baseL L n = putAll (baseP so d) by rw [← HSO.out]; exact base_some HQ.out Hd.out)
  have HSR := Lib.hid (show d.orig.size ≤ 32 by have := findD_small HV.out n; rw [← Hd.out] at this; exact this)
  obtain ⟨nd, hnd⟩ : ∃ z, (nodeD d).isSome = z := ⟨_, rfl⟩
  have HND := Lib.hid hnd; clear hnd
  go_wp2_with fail
  refine (Origin_any A c L n _ B (Nat.le_trans HB.out HBw3.out.size) (HX.out.keep (HBw3.out.mono HB.out)) (fun d hd => (HV.out.small d hd).1) HV.out.size HN.out).mono ?_
  rintro e w4 ⟨rfl, hbw4⟩
  clear ct0 ca0 ca1 ca2 ca3 ca4 ca5 ca6 ca7 ca8 ca9
  have HBw4 := Lib.hid (HBw3.out.trans (hbw4.mono HBw3.out.size))
  have tw4 := Lib.hid (tw3.out.kept (grown_none hbw4) (fun e => by cases e))
  have aw4 := Lib.hid (HXaw3.out.kept (grown_none hbw4) (fun e => by cases e))
  clear hbw4
  rw [HSO.out, HBC.out]
  clear HBC
  go_upto_region 5 with fail
  refine wp_region_held_drew (S := fun w' => BoxL w' (w2.heap.size) [.int .i64 d.idx, .int .i64 d.par, .string d.nm, .string d.orig, .string d.sub, .string d.drv, .string d.ali, .int .i64 d.kind, .int .i64 d.num, .slice A3 d.attrs.length c3]) (by kernel_rfl) aw4.out.drew (fun hS0 => ?_)
  obtain ⟨wd, hwd⟩ : ∃ z, World.drew w4 = z := ⟨_, rfl⟩
  rw [hwd] at hS0 ⊢
  have hb_ : Below w4.heap.size w4 wd := by rw [← hwd]; exact below_drewN_self _ _ 1
  clear hwd hS0
  have HBwd := Lib.hid (HBw4.out.trans (hb_.mono HBw4.out.size))
  have twd := Lib.hid (tw4.out.kept (grown_none hb_) (fun e => by cases e))
  have awd := Lib.hid (aw4.out.kept (grown_none hb_) (fun e => by cases e))
  clear hb_
  refine wpAnyH_take (i := 0) (oi := ⟨some 26, _, _, _, _, _⟩) (v := .string so) rfl (by kernel_rfl) (by kernel_rfl) (by kernel_rfl) (fun _ _ _ h => h) (Or.inl ⟨by rfl, fun w' hS => by go_simp⟩) awd.out ?_
  try simp only [Act.put, List.setIfInBounds_toArray, List.set_cons_zero, List.set_cons_succ]
  refine wpAnyH_take (i := 2) (oi := ⟨some 28, _, _, _, _, _⟩) (v := .pointer (some ⟨w2.heap.size, 4, none⟩)) rfl (by kernel_rfl) (by kernel_rfl) (by kernel_rfl) (fun _ _ _ h => h) (Or.inl ⟨by rfl, fun w' hS => by go_simp⟩) awd.out ?_
  try simp only [Act.put, List.setIfInBounds_toArray, List.set_cons_zero, List.set_cons_succ]
  refine wpAnyH_take (i := 3) (oi := ⟨some 29, _, _, _, _, _⟩) (v := .string d.sub) rfl (by kernel_rfl) (by kernel_rfl) (by kernel_rfl) (fun _ _ _ h => h) (Or.inl ⟨by rfl, fun w' hS => by (have u0_ := hS.1 4 _ rfl; go_simp)⟩) awd.out ?_
  try simp only [Act.put, List.setIfInBounds_toArray, List.set_cons_zero, List.set_cons_succ]
  refine wpAnyH_take (i := 5) (oi := ⟨some 31, _, _, _, _, _⟩) (v := .pointer (some ⟨w2.heap.size, 5, none⟩)) rfl (by kernel_rfl) (by kernel_rfl) (by kernel_rfl) (fun _ _ _ h => h) (Or.inl ⟨by rfl, fun w' hS => by go_simp⟩) awd.out ?_
  try simp only [Act.put, List.setIfInBounds_toArray, List.set_cons_zero, List.set_cons_succ]
  refine wpAnyH_take (i := 6) (oi := ⟨some 32, _, _, _, _, _⟩) (v := .string d.drv) rfl (by kernel_rfl) (by kernel_rfl) (by kernel_rfl) (fun _ _ _ h => h) (Or.inl ⟨by rfl, fun w' hS => by (have u0_ := hS.1 5 _ rfl; go_simp)⟩) awd.out ?_
  try simp only [Act.put, List.setIfInBounds_toArray, List.set_cons_zero, List.set_cons_succ]
  refine wpAnyH_take (i := 8) (oi := ⟨some 34, _, _, _, _, _⟩) (v := .pointer (some ⟨w2.heap.size, 6, none⟩)) rfl (by kernel_rfl) (by kernel_rfl) (by kernel_rfl) (fun _ _ _ h => h) (Or.inl ⟨by rfl, fun w' hS => by go_simp⟩) awd.out ?_
  try simp only [Act.put, List.setIfInBounds_toArray, List.set_cons_zero, List.set_cons_succ]
  refine wpAnyH_take (i := 9) (oi := ⟨some 35, _, _, _, _, _⟩) (v := .string d.ali) rfl (by kernel_rfl) (by kernel_rfl) (by kernel_rfl) (fun _ _ _ h => h) (Or.inl ⟨by rfl, fun w' hS => by (have u0_ := hS.1 6 _ rfl; go_simp)⟩) awd.out ?_
  try simp only [Act.put, List.setIfInBounds_toArray, List.set_cons_zero, List.set_cons_succ]
  refine wpAnyH_ready (rs := [1]) (by kernel_rfl) (by simp) ?_
  refine AllReadyH.cons (o := ⟨some 27, .call ⟨_, _, _⟩, _, _, _, _⟩) rfl (fun K hK => ?_) AllReadyH.nil
  go_simp
  go_at_call 46
  refine (Put_any none 0 [] kDevpath so _ wd.heap.size (Nat.le_refl _) Sl.nil_ (put_srt putAll_nil) (put_len putAll_nil (by simp)) (by decide) HSZ.out).mono ?_
  rintro e' q1 ⟨hb_, A1_, c1_, rfl, hs_⟩
  have HBq1 := Lib.hid (HBwd.out.trans (hb_.mono HBwd.out.size))
  have tq1 := Lib.hid (twd.out.kept (grown_none hb_) (fun e => by cases e))
  have aq1 := Lib.hid (awd.out.kept (grown_none hb_) (fun e => by cases e))
  obtain ⟨l1, hl_⟩ : ∃ z, putA [] kDevpath so = z := ⟨_, rfl⟩
  rw [hl_] at hs_ ⊢
  have HL1 := Lib.hid (show putAll [(kDevpath, so)] = l1 from (put_next (ps := []) putAll_nil (by simp)).trans hl_); have HS1 := Lib.hid hs_; clear hs_ hl_
  clear hb_
  refine hK.out _ _ aq1.out (fun _ => ?_)
  clear hK K
  try simp only [Act.put, List.setIfInBounds_toArray, List.set_cons_zero, List.set_cons_succ]
  refine wpAnyH_ready (rs := [4]) (by kernel_rfl) (by simp) ?_
  refine AllReadyH.cons (o := ⟨some 30, .call ⟨_, _, _⟩, _, _, _, _⟩) rfl (fun K hK => ?_) AllReadyH.nil
  go_simp
  go_at_call 46
  refine (Put_any A1_ c1_ l1 kSubsystem d.sub _ q1.heap.size (Nat.le_refl _) HS1.out (put_srt HL1.out) (put_len HL1.out (by simp)) (by decide) HOd.out.2.2.2.2.1).mono ?_
  rintro e' q2 ⟨hb_, A2_, c2_, rfl, hs_⟩
  have HBq2 := Lib.hid (HBq1.out.trans (hb_.mono HBq1.out.size))
  have tq2 := Lib.hid (tq1.out.kept (grown_none hb_) (fun e => by cases e))
  have aq2 := Lib.hid (aq1.out.kept (grown_none hb_) (fun e => by cases e))
  have HS1q2 := Lib.hid ((HS1.out).next (Nat.le_refl _) hb_)
  obtain ⟨l2, hl_⟩ : ∃ z, putA l1 kSubsystem d.sub = z := ⟨_, rfl⟩
  rw [hl_] at hs_ ⊢
  have HL2 := Lib.hid (show putAll [(kDevpath, so), (kSubsystem, d.sub)] = l2 from (put_next (ps := [(kDevpath, so)]) HL1.out (by simp; decide +kernel)).trans hl_); have HS2 := Lib.hid hs_; clear hs_ hl_
  clear hb_
  refine hK.out _ _ aq2.out (fun _ => ?_)
  clear hK K
  try simp only [Act.put, List.setIfInBounds_toArray, List.set_cons_zero, List.set_cons_succ]
  refine wpAnyH_ready (rs := [7]) (by kernel_rfl) (by simp) ?_
  refine AllReadyH.cons (o := ⟨some 33, .call ⟨_, _, _⟩, _, _, _, _⟩) rfl (fun K hK => ?_) AllReadyH.nil
  go_simp
  go_at_call 46
  refine (Put_any A2_ c2_ l2 kDriver d.drv _ q2.heap.size (Nat.le_refl _) HS2.out (put_srt HL2.out) (put_len HL2.out (by simp)) (by decide) HOd.out.2.2.2.2.2.1).mono ?_
  rintro e' q3 ⟨hb_, A3_, c3_, rfl, hs_⟩
  have HBq3 := Lib.hid (HBq2.out.trans (hb_.mono HBq2.out.size))
  have tq3 := Lib.hid (tq2.out.kept (grown_none hb_) (fun e => by cases e))
  have aq3 := Lib.hid (aq2.out.kept (grown_none hb_) (fun e => by cases e))
  have HS1q3 := Lib.hid ((HS1q2.out).next (Nat.le_refl _) hb_)
  have HS2q3 := Lib.hid ((HS2.out).next (Nat.le_refl _) hb_)
  obtain ⟨l3, hl_⟩ : ∃ z, putA l2 kDriver d.drv = z := ⟨_, rfl⟩
  rw [hl_] at hs_ ⊢
  have HL3 := Lib.hid (show putAll [(kDevpath, so), (kSubsystem, d.sub), (kDriver, d.drv)] = l3 from (put_next (ps := [(kDevpath, so), (kSubsystem, d.sub)]) HL2.out (by simp; decide +kernel)).trans hl_); have HS3 := Lib.hid hs_; clear hs_ hl_
  clear hb_
  refine hK.out _ _ aq3.out (fun _ => ?_)
  clear hK K
  try simp only [Act.put, List.setIfInBounds_toArray, List.set_cons_zero, List.set_cons_succ]
  refine wpAnyH_ready (rs := [10]) (by kernel_rfl) (by simp) ?_
  refine AllReadyH.cons (o := ⟨some 36, .call ⟨_, _, _⟩, _, _, _, _⟩) rfl (fun K hK => ?_) AllReadyH.nil
  go_simp
  go_at_call 46
  refine (Put_any A3_ c3_ l3 kModalias d.ali _ q3.heap.size (Nat.le_refl _) HS3.out (put_srt HL3.out) (put_len HL3.out (by simp)) (by decide) HOd.out.2.2.2.2.2.2.1).mono ?_
  rintro e' q4 ⟨hb_, A4_, c4_, rfl, hs_⟩
  have HBq4 := Lib.hid (HBq3.out.trans (hb_.mono HBq3.out.size))
  have tq4 := Lib.hid (tq3.out.kept (grown_none hb_) (fun e => by cases e))
  have aq4 := Lib.hid (aq3.out.kept (grown_none hb_) (fun e => by cases e))
  have HS1q4 := Lib.hid ((HS1q3.out).next (Nat.le_refl _) hb_)
  have HS2q4 := Lib.hid ((HS2q3.out).next (Nat.le_refl _) hb_)
  have HS3q4 := Lib.hid ((HS3.out).next (Nat.le_refl _) hb_)
  obtain ⟨l4, hl_⟩ : ∃ z, putA l3 kModalias d.ali = z := ⟨_, rfl⟩
  rw [hl_] at hs_ ⊢
  have HL4 := Lib.hid (show putAll [(kDevpath, so), (kSubsystem, d.sub), (kDriver, d.drv), (kModalias, d.ali)] = l4 from (put_next (ps := [(kDevpath, so), (kSubsystem, d.sub), (kDriver, d.drv)]) HL3.out (by simp; decide +kernel)).trans hl_); have HS4 := Lib.hid hs_; clear hs_ hl_
  clear hb_
  refine hK.out _ _ aq4.out (fun _ => ?_)
  clear hK K
  try simp only [Act.put, List.setIfInBounds_toArray, List.set_cons_zero, List.set_cons_succ]
  refine wpAnyH_take (i := 11) (oi := ⟨some 9, _, _, _, _, _⟩) (v := .slice A4_ l4.length c4_) rfl (by kernel_rfl) (by kernel_rfl) (by kernel_rfl) (fun _ _ _ h => h) (Or.inl ⟨by rfl, fun w' hS => by go_simp⟩) aq4.out ?_
  try simp only [Act.put, List.setIfInBounds_toArray, List.set_cons_zero, List.set_cons_succ]
  refine wpAnyH_done (by kernel_rfl) ?_ _
  have ct0 := tq4.out.1 0 _ rfl
  have ca0 := aq4.out.1 0 _ rfl
  have ca1 := aq4.out.1 1 _ rfl
  have ca2 := aq4.out.1 2 _ rfl
  have ca3 := aq4.out.1 3 _ rfl
  have ca4 := aq4.out.1 4 _ rfl
  have ca5 := aq4.out.1 5 _ rfl
  have ca6 := aq4.out.1 6 _ rfl
  have ca7 := aq4.out.1 7 _ rfl
  have ca8 := aq4.out.1 8 _ rfl
  have ca9 := aq4.out.1 9 _ rfl
  go_wp2_with fail
  refine (Node_any d A3 c3 _ (by have := HSR.out; omega) (HKO.out.next HBq4.out)).mono ?_
  rintro e w5 ⟨rfl, hbw5⟩
  clear ct0 ca0 ca1 ca2 ca3 ca4 ca5 ca6 ca7 ca8 ca9
  have HBw5 := Lib.hid (HBq4.out.trans (hbw5.mono HBq4.out.size))
  have tw5 := Lib.hid (tq4.out.kept (grown_none hbw5) (fun e => by cases e))
  have aw5 := Lib.hid (aq4.out.kept (grown_none hbw5) (fun e => by cases e))
  have HS1w5 := Lib.hid ((HS1q4.out).next (Nat.le_refl _) hbw5)
  have HS2w5 := Lib.hid ((HS2q4.out).next (Nat.le_refl _) hbw5)
  have HS3w5 := Lib.hid ((HS3q4.out).next (Nat.le_refl _) hbw5)
  have HS4w5 := Lib.hid ((HS4.out).next (Nat.le_refl _) hbw5)
  clear hbw5
  have ct0 := tw5.out.1 0 _ rfl
  have ca0 := aw5.out.1 0 _ rfl
  have ca1 := aw5.out.1 1 _ rfl
  have ca2 := aw5.out.1 2 _ rfl
  have ca3 := aw5.out.1 3 _ rfl
  have ca4 := aw5.out.1 4 _ rfl
  have ca5 := aw5.out.1 5 _ rfl
  have ca6 := aw5.out.1 6 _ rfl
  have ca7 := aw5.out.1 7 _ rfl
  have ca8 := aw5.out.1 8 _ rfl
  have ca9 := aw5.out.1 9 _ rfl
  rw [HND.out]
  cases nd
  ·
   clear ct0 ca0 ca1 ca2 ca3 ca4 ca5 ca6 ca7 ca8 ca9
   have ct0 := tw5.out.1 0 _ rfl
   have ca0 := aw5.out.1 0 _ rfl
   have ca1 := aw5.out.1 1 _ rfl
   have ca2 := aw5.out.1 2 _ rfl
   have ca3 := aw5.out.1 3 _ rfl
   have ca4 := aw5.out.1 4 _ rfl
   have ca5 := aw5.out.1 5 _ rfl
   have ca6 := aw5.out.1 6 _ rfl
   have ca7 := aw5.out.1 7 _ rfl
   have ca8 := aw5.out.1 8 _ rfl
   have ca9 := aw5.out.1 9 _ rfl
   by_cases hk : d.kind = 4
   ·
    have HK := Lib.hid hk
    have hkb : (d.kind == 4) = true := by rw [hk]; rfl
    go_wp2_with fail
    refine (Put_any A4_ c4_ l4 kInterface d.orig _ w5.heap.size (Nat.le_refl _) HS4w5.out (put_srt HL4.out) (put_len HL4.out (by simp)) (by decide) HOd.out.2.2.2.1).mono ?_
    rintro e w6 ⟨hbw6, A5_, c5_, rfl, hs_⟩
    clear ct0 ca0 ca1 ca2 ca3 ca4 ca5 ca6 ca7 ca8 ca9
    have HBw6 := Lib.hid (HBw5.out.trans (hbw6.mono HBw5.out.size))
    have tw6 := Lib.hid (tw5.out.kept (grown_none hbw6) (fun e => by cases e))
    have aw6 := Lib.hid (aw5.out.kept (grown_none hbw6) (fun e => by cases e))
    have HS1w6 := Lib.hid ((HS1w5.out).next (Nat.le_refl _) hbw6)
    have HS2w6 := Lib.hid ((HS2w5.out).next (Nat.le_refl _) hbw6)
    have HS3w6 := Lib.hid ((HS3w5.out).next (Nat.le_refl _) hbw6)
    have HS4w6 := Lib.hid ((HS4w5.out).next (Nat.le_refl _) hbw6)
    clear hbw6
    have ct0 := tw6.out.1 0 _ rfl
    have ca0 := aw6.out.1 0 _ rfl
    have ca1 := aw6.out.1 1 _ rfl
    have ca2 := aw6.out.1 2 _ rfl
    have ca3 := aw6.out.1 3 _ rfl
    have ca4 := aw6.out.1 4 _ rfl
    have ca5 := aw6.out.1 5 _ rfl
    have ca6 := aw6.out.1 6 _ rfl
    have ca7 := aw6.out.1 7 _ rfl
    have ca8 := aw6.out.1 8 _ rfl
    have ca9 := aw6.out.1 9 _ rfl
    obtain ⟨l5, hl_⟩ : ∃ z, putA l4 kInterface d.orig = z := ⟨_, rfl⟩
    rw [hl_] at hs_ ⊢
    have HL5 := Lib.hid (show putAll [(kDevpath, so), (kSubsystem, d.sub), (kDriver, d.drv), (kModalias, d.ali), (kInterface, d.orig)] = l5 from (put_next (ps := [(kDevpath, so), (kSubsystem, d.sub), (kDriver, d.drv), (kModalias, d.ali)]) HL4.out (by simp; decide +kernel)).trans hl_); have HS5 := Lib.hid hs_; clear hs_ hl_
    have HE := Lib.hid (show baseL L n = l5 from by rw [HBE.out, ← HL5.out]; unfold baseP; rw [if_neg (by rw [HND.out]; decide), if_pos HK.out]; rfl)
    go_wp2
    go_ret
    exact ⟨HBw6.out, A5_, c5_, by rw [HE.out]; rfl, by rw [HE.out]; exact HS5.out⟩
   ·
    have HK := Lib.hid hk
    have hkb : (d.kind == 4) = false := by simpa using hk
    have HE := Lib.hid (show baseL L n = l4 from by rw [HBE.out, ← HL4.out]; unfold baseP; rw [if_neg (by rw [HND.out]; decide), if_neg HK.out]; rfl)
    go_wp2
    go_ret
    exact ⟨HBw5.out, A4_, c4_, by rw [HE.out]; rfl, by rw [HE.out]; exact HS4w5.out⟩
  ·
   go_upto_region 8 with fail
   refine wp_region_held_drew (S := fun w' => BoxL w' (w2.heap.size) [.int .i64 d.idx, .int .i64 d.par, .string d.nm, .string d.orig, .string d.sub, .string d.drv, .string d.ali, .int .i64 d.kind, .int .i64 d.num, .slice A3 d.attrs.length c3]) (by kernel_rfl) aw5.out.drew (fun hS0 => ?_)
   obtain ⟨we, hwe⟩ : ∃ z, World.drew w5 = z := ⟨_, rfl⟩
   rw [hwe] at hS0 ⊢
   have hb_ : Below w5.heap.size w5 we := by rw [← hwe]; exact below_drewN_self _ _ 1
   clear hwe hS0
   clear ct0 ca0 ca1 ca2 ca3 ca4 ca5 ca6 ca7 ca8 ca9
   have HBwe := Lib.hid (HBw5.out.trans (hb_.mono HBw5.out.size))
   have twe := Lib.hid (tw5.out.kept (grown_none hb_) (fun e => by cases e))
   have awe := Lib.hid (aw5.out.kept (grown_none hb_) (fun e => by cases e))
   have HS1we := Lib.hid ((HS1w5.out).next (Nat.le_refl _) hb_)
   have HS2we := Lib.hid ((HS2w5.out).next (Nat.le_refl _) hb_)
   have HS3we := Lib.hid ((HS3w5.out).next (Nat.le_refl _) hb_)
   have HS4we := Lib.hid ((HS4w5.out).next (Nat.le_refl _) hb_)
   clear hb_
   refine wpAnyH_take (i := 0) (oi := ⟨some 43, _, _, _, _, _⟩) (v := .slice A4_ l4.length c4_) rfl (by kernel_rfl) (by kernel_rfl) (by kernel_rfl) (fun _ _ _ h => h) (Or.inl ⟨by rfl, fun w' hS => by go_simp⟩) awe.out ?_
   try simp only [Act.put, List.setIfInBounds_toArray, List.set_cons_zero, List.set_cons_succ]
   refine wpAnyH_take (i := 1) (oi := ⟨some 44, _, _, _, _, _⟩) (v := .string (nodeV d)) rfl (by kernel_rfl) (by kernel_rfl) (by kernel_rfl) (fun _ _ _ h => h) (Or.inl ⟨by rfl, fun w' hS => by go_simp⟩) awe.out ?_
   try simp only [Act.put, List.setIfInBounds_toArray, List.set_cons_zero, List.set_cons_succ]
   refine wpAnyH_take (i := 3) (oi := ⟨some 46, _, _, _, _, _⟩) (v := .pointer (some ⟨w2.heap.size, 8, none⟩)) rfl (by kernel_rfl) (by kernel_rfl) (by kernel_rfl) (fun _ _ _ h => h) (Or.inl ⟨by rfl, fun w' hS => by go_simp⟩) awe.out ?_
   try simp only [Act.put, List.setIfInBounds_toArray, List.set_cons_zero, List.set_cons_succ]
   refine wpAnyH_take (i := 4) (oi := ⟨some 47, _, _, _, _, _⟩) (v := .int .i64 d.num) rfl (by kernel_rfl) (by kernel_rfl) (by kernel_rfl) (fun _ _ _ h => h) (Or.inl ⟨by rfl, fun w' hS => by (have u0_ := hS.1 8 _ rfl; go_simp)⟩) awe.out ?_
   try simp only [Act.put, List.setIfInBounds_toArray, List.set_cons_zero, List.set_cons_succ]
   refine wpAnyH_ready (rs := [2]) (by kernel_rfl) (by simp) ?_
   refine AllReadyH.cons (o := ⟨some 45, .call ⟨_, _, _⟩, _, _, _, _⟩) rfl (fun K hK => ?_) (AllReadyH.nil)
   go_simp
   go_at_call 46
   refine (Put_any A4_ c4_ l4 kDevname (nodeV d) _ we.heap.size (Nat.le_refl _) HS4we.out (put_srt HL4.out) (put_len HL4.out (by simp)) (by decide) (by have := node_small HSR.out; unfold maxLen; omega)).mono ?_
   rintro e' q7 ⟨hb_, A5_, c5_, rfl, hs_⟩
   have HBq7 := Lib.hid (HBwe.out.trans (hb_.mono HBwe.out.size))
   have tq7 := Lib.hid (twe.out.kept (grown_none hb_) (fun e => by cases e))
   have aq7 := Lib.hid (awe.out.kept (grown_none hb_) (fun e => by cases e))
   have HS1q7 := Lib.hid ((HS1we.out).next (Nat.le_refl _) hb_)
   have HS2q7 := Lib.hid ((HS2we.out).next (Nat.le_refl _) hb_)
   have HS3q7 := Lib.hid ((HS3we.out).next (Nat.le_refl _) hb_)
   have HS4q7 := Lib.hid ((HS4we.out).next (Nat.le_refl _) hb_)
   obtain ⟨l5, hl_⟩ : ∃ z, putA l4 kDevname (nodeV d) = z := ⟨_, rfl⟩
   rw [hl_] at hs_ ⊢
   have HL5 := Lib.hid (show putAll [(kDevpath, so), (kSubsystem, d.sub), (kDriver, d.drv), (kModalias, d.ali), (kDevname, (nodeV d))] = l5 from (put_next (ps := [(kDevpath, so), (kSubsystem, d.sub), (kDriver, d.drv), (kModalias, d.ali)]) HL4.out (by simp; decide +kernel)).trans hl_); have HS5 := Lib.hid hs_; clear hs_ hl_
   clear hb_
   refine hK.out _ _ aq7.out (fun _ => ?_)
   clear hK K
   try simp only [Act.put, List.setIfInBounds_toArray, List.set_cons_zero, List.set_cons_succ]
   refine wpAnyH_ready (rs := [5]) (by kernel_rfl) (by simp) ?_
   refine AllReadyH.cons (o := ⟨some 48, .call ⟨_, _, _⟩, _, _, _, _⟩) rfl (fun K hK => ?_) (AllReadyH.nil)
   go_simp
   go_at_call 48
   refine (Itoa_any d.num _ (HOK.out.below HBq7.out) HOd.out.2.2.2.2.2.2.2.2).mono ?_
   rintro e' q8 ⟨rfl, hb_⟩
   have HBq8 := Lib.hid (HBq7.out.trans (hb_.mono HBq7.out.size))
   have tq8 := Lib.hid (tq7.out.kept (grown_none hb_) (fun e => by cases e))
   have aq8 := Lib.hid (aq7.out.kept (grown_none hb_) (fun e => by cases e))
   have HS1q8 := Lib.hid ((HS1q7.out).next (Nat.le_refl _) hb_)
   have HS2q8 := Lib.hid ((HS2q7.out).next (Nat.le_refl _) hb_)
   have HS3q8 := Lib.hid ((HS3q7.out).next (Nat.le_refl _) hb_)
   have HS4q8 := Lib.hid ((HS4q7.out).next (Nat.le_refl _) hb_)
   have HS5q8 := Lib.hid ((HS5.out).next (Nat.le_refl _) hb_)
   clear hb_
   refine hK.out _ _ aq8.out (fun _ => ?_)
   clear hK K
   try simp only [Act.put, List.setIfInBounds_toArray, List.set_cons_zero, List.set_cons_succ]
   refine wpAnyH_ready (rs := [6]) (by kernel_rfl) (by simp) ?_
   refine AllReadyH.cons (o := ⟨some 49, .call ⟨_, _, _⟩, _, _, _, _⟩) rfl (fun K hK => ?_) (AllReadyH.nil)
   go_simp
   go_at_call 46
   refine (Put_any A5_ c5_ l5 kNumber (itoaT d.num) _ q8.heap.size (Nat.le_refl _) HS5q8.out (put_srt HL5.out) (put_len HL5.out (by simp)) (by decide) (itoaT_small HOd.out.2.2.2.2.2.2.2.2)).mono ?_
   rintro e' q9 ⟨hb_, A6_, c6_, rfl, hs_⟩
   have HBq9 := Lib.hid (HBq8.out.trans (hb_.mono HBq8.out.size))
   have tq9 := Lib.hid (tq8.out.kept (grown_none hb_) (fun e => by cases e))
   have aq9 := Lib.hid (aq8.out.kept (grown_none hb_) (fun e => by cases e))
   have HS1q9 := Lib.hid ((HS1q8.out).next (Nat.le_refl _) hb_)
   have HS2q9 := Lib.hid ((HS2q8.out).next (Nat.le_refl _) hb_)
   have HS3q9 := Lib.hid ((HS3q8.out).next (Nat.le_refl _) hb_)
   have HS4q9 := Lib.hid ((HS4q8.out).next (Nat.le_refl _) hb_)
   have HS5q9 := Lib.hid ((HS5q8.out).next (Nat.le_refl _) hb_)
   obtain ⟨l6, hl_⟩ : ∃ z, putA l5 kNumber (itoaT d.num) = z := ⟨_, rfl⟩
   rw [hl_] at hs_ ⊢
   have HL6 := Lib.hid (show putAll [(kDevpath, so), (kSubsystem, d.sub), (kDriver, d.drv), (kModalias, d.ali), (kDevname, (nodeV d)), (kNumber, (itoaT d.num))] = l6 from (put_next (ps := [(kDevpath, so), (kSubsystem, d.sub), (kDriver, d.drv), (kModalias, d.ali), (kDevname, (nodeV d))]) HL5.out (by simp; decide +kernel)).trans hl_); have HS6 := Lib.hid hs_; clear hs_ hl_
   clear hb_
   refine hK.out _ _ aq9.out (fun _ => ?_)
   clear hK K
   try simp only [Act.put, List.setIfInBounds_toArray, List.set_cons_zero, List.set_cons_succ]
   refine wpAnyH_take (i := 7) (oi := ⟨some 9, _, _, _, _, _⟩) (v := .slice A6_ l6.length c6_) rfl (by kernel_rfl) (by kernel_rfl) (by kernel_rfl) (fun _ _ _ h => h) (Or.inl ⟨by rfl, fun w' hS => by go_simp⟩) aq9.out ?_
   try simp only [Act.put, List.setIfInBounds_toArray, List.set_cons_zero, List.set_cons_succ]
   refine wpAnyH_done (by kernel_rfl) ?_ _
   have ct0 := tq9.out.1 0 _ rfl
   have ca0 := aq9.out.1 0 _ rfl
   have ca1 := aq9.out.1 1 _ rfl
   have ca2 := aq9.out.1 2 _ rfl
   have ca3 := aq9.out.1 3 _ rfl
   have ca4 := aq9.out.1 4 _ rfl
   have ca5 := aq9.out.1 5 _ rfl
   have ca6 := aq9.out.1 6 _ rfl
   have ca7 := aq9.out.1 7 _ rfl
   have ca8 := aq9.out.1 8 _ rfl
   have ca9 := aq9.out.1 9 _ rfl
   by_cases hk : d.kind = 4
   ·
    have HK := Lib.hid hk
    have hkb : (d.kind == 4) = true := by rw [hk]; rfl
    go_wp2_with fail
    refine (Put_any A6_ c6_ l6 kInterface d.orig _ q9.heap.size (Nat.le_refl _) HS6.out (put_srt HL6.out) (put_len HL6.out (by simp)) (by decide) HOd.out.2.2.2.1).mono ?_
    rintro e w10 ⟨hbw10, A7_, c7_, rfl, hs_⟩
    clear ct0 ca0 ca1 ca2 ca3 ca4 ca5 ca6 ca7 ca8 ca9
    have HBw10 := Lib.hid (HBq9.out.trans (hbw10.mono HBq9.out.size))
    have tw10 := Lib.hid (tq9.out.kept (grown_none hbw10) (fun e => by cases e))
    have aw10 := Lib.hid (aq9.out.kept (grown_none hbw10) (fun e => by cases e))
    have HS1w10 := Lib.hid ((HS1q9.out).next (Nat.le_refl _) hbw10)
    have HS2w10 := Lib.hid ((HS2q9.out).next (Nat.le_refl _) hbw10)
    have HS3w10 := Lib.hid ((HS3q9.out).next (Nat.le_refl _) hbw10)
    have HS4w10 := Lib.hid ((HS4q9.out).next (Nat.le_refl _) hbw10)
    have HS5w10 := Lib.hid ((HS5q9.out).next (Nat.le_refl _) hbw10)
    have HS6w10 := Lib.hid ((HS6.out).next (Nat.le_refl _) hbw10)
    clear hbw10
    have ct0 := tw10.out.1 0 _ rfl
    have ca0 := aw10.out.1 0 _ rfl
    have ca1 := aw10.out.1 1 _ rfl
    have ca2 := aw10.out.1 2 _ rfl
    have ca3 := aw10.out.1 3 _ rfl
    have ca4 := aw10.out.1 4 _ rfl
    have ca5 := aw10.out.1 5 _ rfl
    have ca6 := aw10.out.1 6 _ rfl
    have ca7 := aw10.out.1 7 _ rfl
    have ca8 := aw10.out.1 8 _ rfl
    have ca9 := aw10.out.1 9 _ rfl
    obtain ⟨l7, hl_⟩ : ∃ z, putA l6 kInterface d.orig = z := ⟨_, rfl⟩
    rw [hl_] at hs_ ⊢
    have HL7 := Lib.hid (show putAll [(kDevpath, so), (kSubsystem, d.sub), (kDriver, d.drv), (kModalias, d.ali), (kDevname, (nodeV d)), (kNumber, (itoaT d.num)), (kInterface, d.orig)] = l7 from (put_next (ps := [(kDevpath, so), (kSubsystem, d.sub), (kDriver, d.drv), (kModalias, d.ali), (kDevname, (nodeV d)), (kNumber, (itoaT d.num))]) HL6.out (by simp; decide +kernel)).trans hl_); have HS7 := Lib.hid hs_; clear hs_ hl_
    have HE := Lib.hid (show baseL L n = l7 from by rw [HBE.out, ← HL7.out]; unfold baseP; rw [if_pos HND.out, if_pos HK.out]; rfl)
    go_wp2
    go_ret
    exact ⟨HBw10.out, A7_, c7_, by rw [HE.out]; rfl, by rw [HE.out]; exact HS7.out⟩
   ·
    have HK := Lib.hid hk
    have hkb : (d.kind == 4) = false := by simpa using hk
    have HE := Lib.hid (show baseL L n = l6 from by rw [HBE.out, ← HL6.out]; unfold baseP; rw [if_pos HND.out, if_neg HK.out]; rfl)
    go_wp2
    go_ret
    exact ⟨HBq9.out, A6_, c6_, by rw [HE.out]; rfl, by rw [HE.out]; exact HS6.out⟩
end Go.Proofs.YtjgllhlilbchpaaGreatDoor
