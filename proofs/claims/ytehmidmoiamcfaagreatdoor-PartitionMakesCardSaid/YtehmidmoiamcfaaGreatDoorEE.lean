/-
  The walks of device.Check and of the reference's Check of devices.
-/
import Derived.Test.YtehmidmoiamcfaaGreatDoorED
import Derived.Deep.RegionHeld3
import Derived.Deep.DeepCutAuto
import Derived.StillTailTactics
import Derived.Test.YtehmidmoiamcfaaGreatDoorEB
set_option linter.unusedSimpArgs false
set_option linter.unusedVariables false
namespace Go.Cold
open Go Go.RowKit
theorem valid_size {s : ByteArray} (h : validB s = true) : s.size ≤ 32 := by
 unfold validB at h
 simp only [Bool.and_eq_true, decide_eq_true_eq] at h
 have := h.2.1; omega
theorem named_orig {d : Dev} (h : namedB d = true) : d.orig.size ≤ 32 := by
 unfold namedB at h
 simp only [Bool.and_eq_true] at h
 exact valid_size h.2.1
theorem node_small {d : Dev} (h : d.orig.size ≤ 32) : (nodeV d).size ≤ 32 := by
 unfold nodeV nodeD
 split
 ·
  show (nodeS d.orig).size ≤ 32
  rw [nodeS_size]; exact h
 ·
  show (0 : Nat) ≤ 32
  omega
theorem linkD_yes {d : Dev} (h : (nodeD d).isSome = true) : linkD d = linkB (nodeV d) := by
 unfold linkD nodeV
 cases hn : nodeD d with
 | none => rw [hn] at h; cases h
 | some s => rfl
theorem linkD_no {d : Dev} (h : (nodeD d).isSome = false) : linkD d = true := by
 unfold linkD
 cases hn : nodeD d with
 | none => rfl
 | some s => rw [hn] at h; cases h
end Go.Cold
namespace Go.Proofs.YtehmidmoiamcfaaGreatDoor
open Go.RowKit Go.Cold
set_option maxRecDepth 100000 in
set_option maxHeartbeats 2000000 in
/-- device.Check. -/
theorem Check_any (d : Dev) (A : Option Addr) (c : Nat) (w : World) (B : Nat) (hB : B ≤ w.heap.size) (hd : devOk d) (hx : Sl w B A c d.attrs) (hok : Ok w) : Calls Tryz.prog 55 #[.agg #[.int .i64 d.idx, .int .i64 d.par, .string d.nm, .string d.orig, .string d.sub, .string d.drv, .string d.ali, .int .i64 d.kind, .int .i64 d.num, .slice A d.attrs.length c]] w fun e w' => e = .returned (.int .i64 (checkD d)) ∧ Below w.heap.size w w' := by
 have HOK := Lib.hid hok; have HX := Lib.hid hx; have HB := Lib.hid hB; have HD := Lib.hid hd; clear hok hx hB hd
 have hl := HX.out.1; have hl2 := HX.out.2.1; unfold maxLen at hl2
 go_enter Tryz.func55, Tryz.ntmps55
 go_upto_region 1 with fail
 obtain ⟨w1, hw1⟩ : ∃ w1, w.alloc (.cells #[.int .i64 d.idx, .int .i64 d.par, .string d.nm, .string d.orig, .string d.sub, .string d.drv, .string d.ali, .int .i64 d.kind, .int .i64 d.num, .slice A d.attrs.length c] 43) = w1 := ⟨_, rfl⟩
 have hbw1 : Below w.heap.size w w1 := by rw [← hw1]; exact (Below.refl _ _).alloc (Nat.le_refl _) _
 have HGw1 := Lib.hid (show w1.heap.size = w.heap.size + 1 by rw [← hw1]; simp)
 have HXpw1 := Lib.hid (show BoxL w1 w.heap.size [.int .i64 d.idx, .int .i64 d.par, .string d.nm, .string d.orig, .string d.sub, .string d.drv, .string d.ali, .int .i64 d.kind, .int .i64 d.num, .slice A d.attrs.length c] from box_mk hw1)
 try simp only [hw1]
 have HBw1 := Lib.hid hbw1
 clear hw1 hbw1
 try rw [show w.heap.size + 1 = w1.heap.size from HGw1.out.symm]
 have cp0 := HXpw1.out.1 0 _ rfl
 have cp1 := HXpw1.out.1 1 _ rfl
 have cp2 := HXpw1.out.1 2 _ rfl
 have cp3 := HXpw1.out.1 3 _ rfl
 have cp4 := HXpw1.out.1 4 _ rfl
 have cp5 := HXpw1.out.1 5 _ rfl
 have cp6 := HXpw1.out.1 6 _ rfl
 have cp7 := HXpw1.out.1 7 _ rfl
 have cp8 := HXpw1.out.1 8 _ rfl
 have cp9 := HXpw1.out.1 9 _ rfl
 go_wp2_with fail
 refine (within_any d.idx 1 1073741824 _).mono ?_
 rintro e w' ⟨rfl, rfl⟩
 cases h1 : withinB d.idx 1 1073741824 with
 | false =>
  have HR := Lib.hid (show rangeB d = false by unfold rangeB; rw [h1]; rfl); clear h1
  go_wp2
  go_ret
  exact ⟨ret_int (by rw [checkD_eq]; simp [HR.out]), HBw1.out⟩
 | true =>
  have H1 := Lib.hid h1; clear h1
  go_wp2_with fail
  refine (within_any d.par 0 1073741824 _).mono ?_
  rintro e w' ⟨rfl, rfl⟩
  cases h2 : withinB d.par 0 1073741824 with
  | false =>
   have HR := Lib.hid (show rangeB d = false by unfold rangeB; rw [H1.out, h2]; rfl); clear h2
   go_wp2
   go_ret
   exact ⟨ret_int (by rw [checkD_eq]; simp [HR.out]), HBw1.out⟩
  | true =>
   have H2 := Lib.hid h2; clear h2
   by_cases h3 : d.par = d.idx
   ·
    have e3 : (d.par == d.idx) = true := beq_iff_eq.2 h3
    have HR := Lib.hid (show rangeB d = false by unfold rangeB; simp [h3]); clear h3
    go_wp2
    go_ret
    exact ⟨ret_int (by rw [checkD_eq]; simp [HR.out]), HBw1.out⟩
   ·
    have e3 : (d.par == d.idx) = false := beq_eq_false_iff_ne.2 h3
    have HR := Lib.hid (show rangeB d = true by unfold rangeB; rw [H1.out, H2.out]; simp [h3]); clear h3
    go_wp2_with fail
    refine (named_any d A c _ HD.out).mono ?_
    rintro e w2 ⟨rfl, hbw2⟩
    clear cp0 cp1 cp2 cp3 cp4 cp5 cp6 cp7 cp8 cp9
    have HBw2 := Lib.hid (HBw1.out.trans (hbw2.mono HBw1.out.size))
    have pw2 := Lib.hid (HXpw1.out.kept (grown_none hbw2) (fun e => by cases e))
    clear hbw2
    have cp0 := pw2.out.1 0 _ rfl
    have cp1 := pw2.out.1 1 _ rfl
    have cp2 := pw2.out.1 2 _ rfl
    have cp3 := pw2.out.1 3 _ rfl
    have cp4 := pw2.out.1 4 _ rfl
    have cp5 := pw2.out.1 5 _ rfl
    have cp6 := pw2.out.1 6 _ rfl
    have cp7 := pw2.out.1 7 _ rfl
    have cp8 := pw2.out.1 8 _ rfl
    have cp9 := pw2.out.1 9 _ rfl
    cases h4 : namedB d with
    | false =>
     have HN := Lib.hid h4; clear h4
     go_wp2
     go_ret
     exact ⟨ret_int (by rw [checkD_eq]; simp [HR.out, HN.out]), HBw2.out⟩
    | true =>
     have HN := Lib.hid h4; clear h4
     go_wp2_with fail
     refine (kind_any d A c _ HD.out).mono ?_
     rintro e w3 ⟨rfl, hbw3⟩
     clear cp0 cp1 cp2 cp3 cp4 cp5 cp6 cp7 cp8 cp9
     have HBw3 := Lib.hid (HBw2.out.trans (hbw3.mono HBw2.out.size))
     have pw3 := Lib.hid (pw2.out.kept (grown_none hbw3) (fun e => by cases e))
     clear hbw3
     have cp0 := pw3.out.1 0 _ rfl
     have cp1 := pw3.out.1 1 _ rfl
     have cp2 := pw3.out.1 2 _ rfl
     have cp3 := pw3.out.1 3 _ rfl
     have cp4 := pw3.out.1 4 _ rfl
     have cp5 := pw3.out.1 5 _ rfl
     have cp6 := pw3.out.1 6 _ rfl
     have cp7 := pw3.out.1 7 _ rfl
     have cp8 := pw3.out.1 8 _ rfl
     have cp9 := pw3.out.1 9 _ rfl
     cases h5 : kindB d with
     | false =>
      have HK := Lib.hid h5; clear h5
      go_wp2
      go_ret
      exact ⟨ret_int (by rw [checkD_eq]; simp [HR.out, HN.out, HK.out]), HBw3.out⟩
     | true =>
      have HK := Lib.hid h5; clear h5
      go_wp2_with fail
      refine (number_any d A c _).mono ?_
      rintro e w4 ⟨rfl, hbw4⟩
      clear cp0 cp1 cp2 cp3 cp4 cp5 cp6 cp7 cp8 cp9
      have HBw4 := Lib.hid (HBw3.out.trans (hbw4.mono HBw3.out.size))
      have pw4 := Lib.hid (pw3.out.kept (grown_none hbw4) (fun e => by cases e))
      clear hbw4
      have cp0 := pw4.out.1 0 _ rfl
      have cp1 := pw4.out.1 1 _ rfl
      have cp2 := pw4.out.1 2 _ rfl
      have cp3 := pw4.out.1 3 _ rfl
      have cp4 := pw4.out.1 4 _ rfl
      have cp5 := pw4.out.1 5 _ rfl
      have cp6 := pw4.out.1 6 _ rfl
      have cp7 := pw4.out.1 7 _ rfl
      have cp8 := pw4.out.1 8 _ rfl
      have cp9 := pw4.out.1 9 _ rfl
      cases h6 : numberB d with
      | false =>
       have HU := Lib.hid h6; clear h6
       go_wp2
       go_ret
       exact ⟨ret_int (by rw [checkD_eq]; simp [HR.out, HN.out, HK.out, HU.out]), HBw4.out⟩
      | true =>
       have HU := Lib.hid h6; clear h6
       by_cases h7 : d.attrs.length ≤ 24
       ·
        have i7 : ¬ (24 : Int) < (d.attrs.length : Int) := by omega
        have HL := Lib.hid h7; clear h7
        go_wp2_with fail
        refine (attributes_any A c d.attrs _ B (Nat.le_trans HB.out HBw4.out.size) (HX.out.keep (HBw4.out.mono HB.out))).mono ?_
        rintro e w5 ⟨rfl, hbw5⟩
        clear cp0 cp1 cp2 cp3 cp4 cp5 cp6 cp7 cp8 cp9
        have HBw5 := Lib.hid (HBw4.out.trans (hbw5.mono HBw4.out.size))
        have pw5 := Lib.hid (pw4.out.kept (grown_none hbw5) (fun e => by cases e))
        clear hbw5
        have cp0 := pw5.out.1 0 _ rfl
        have cp1 := pw5.out.1 1 _ rfl
        have cp2 := pw5.out.1 2 _ rfl
        have cp3 := pw5.out.1 3 _ rfl
        have cp4 := pw5.out.1 4 _ rfl
        have cp5 := pw5.out.1 5 _ rfl
        have cp6 := pw5.out.1 6 _ rfl
        have cp7 := pw5.out.1 7 _ rfl
        have cp8 := pw5.out.1 8 _ rfl
        have cp9 := pw5.out.1 9 _ rfl
        cases h8 : attrsB d.attrs with
        | false =>
         have HA := Lib.hid h8; clear h8
         go_wp2
         go_ret
         exact ⟨ret_int (by rw [checkD_eq]; simp [HR.out, HN.out, HK.out, HU.out, HL.out, HA.out]), HBw5.out⟩
        | true =>
         have HA := Lib.hid h8; clear h8
         go_wp2_with fail
         refine (Node_any d A c _ (by have := named_orig HN.out; omega) (HOK.out.next HBw5.out)).mono ?_
         rintro e w6 ⟨rfl, hbw6⟩
         clear cp0 cp1 cp2 cp3 cp4 cp5 cp6 cp7 cp8 cp9
         have HBw6 := Lib.hid (HBw5.out.trans (hbw6.mono HBw5.out.size))
         have pw6 := Lib.hid (pw5.out.kept (grown_none hbw6) (fun e => by cases e))
         clear hbw6
         have cp0 := pw6.out.1 0 _ rfl
         have cp1 := pw6.out.1 1 _ rfl
         have cp2 := pw6.out.1 2 _ rfl
         have cp3 := pw6.out.1 3 _ rfl
         have cp4 := pw6.out.1 4 _ rfl
         have cp5 := pw6.out.1 5 _ rfl
         have cp6 := pw6.out.1 6 _ rfl
         have cp7 := pw6.out.1 7 _ rfl
         have cp8 := pw6.out.1 8 _ rfl
         have cp9 := pw6.out.1 9 _ rfl
         cases h9 : (nodeD d).isSome with
         | false =>
          have HZ := Lib.hid (linkD_no h9); clear h9
          go_wp2
          go_ret
          exact ⟨ret_int (by rw [checkD_eq]; simp [HR.out, HN.out, HK.out, HU.out, HL.out, HA.out, HZ.out]), HBw6.out⟩
         | true =>
          have HZ := Lib.hid (linkD_yes h9); clear h9
          go_wp2_with fail
          refine (Link_any (nodeV d) _ (by have := node_small (named_orig HN.out); omega) (HOK.out.next HBw6.out)).mono ?_
          rintro e w7 ⟨rfl, hbw7⟩
          clear cp0 cp1 cp2 cp3 cp4 cp5 cp6 cp7 cp8 cp9
          have HBw7 := Lib.hid (HBw6.out.trans (hbw7.mono HBw6.out.size))
          have pw7 := Lib.hid (pw6.out.kept (grown_none hbw7) (fun e => by cases e))
          clear hbw7
          have cp0 := pw7.out.1 0 _ rfl
          have cp1 := pw7.out.1 1 _ rfl
          have cp2 := pw7.out.1 2 _ rfl
          have cp3 := pw7.out.1 3 _ rfl
          have cp4 := pw7.out.1 4 _ rfl
          have cp5 := pw7.out.1 5 _ rfl
          have cp6 := pw7.out.1 6 _ rfl
          have cp7 := pw7.out.1 7 _ rfl
          have cp8 := pw7.out.1 8 _ rfl
          have cp9 := pw7.out.1 9 _ rfl
          cases h10 : linkB (nodeV d) with
          | false =>
           have HZ2 := Lib.hid (HZ.out.trans h10); clear h10
           go_wp2
           go_ret
           exact ⟨ret_int (by rw [checkD_eq]; simp [HR.out, HN.out, HK.out, HU.out, HL.out, HA.out, HZ2.out]), HBw7.out⟩
          | true =>
           have HZ2 := Lib.hid (HZ.out.trans h10); clear h10
           go_wp2
           go_ret
           exact ⟨ret_int (by rw [checkD_eq]; simp [HR.out, HN.out, HK.out, HU.out, HL.out, HA.out, HZ2.out]), HBw7.out⟩
       ·
        have i7 : (24 : Int) < (d.attrs.length : Int) := by omega
        have HL := Lib.hid h7; clear h7
        go_wp2
        go_ret
        exact ⟨ret_int (by rw [checkD_eq]; simp [HR.out, HN.out, HK.out, HU.out, HL.out]), HBw4.out⟩
end Go.Proofs.YtehmidmoiamcfaaGreatDoor
namespace Go.Proofs.YtehmidmoiamcfaaGreatDoor
open Go.RowKit Go.Cold
theorem info_attr : (Tryz.prog.info? 63).map (fun i => (i.zero, i.size, i.bytes)) = some (some (.agg #[.string ByteArray.empty, .string ByteArray.empty]), 2, 32) := by kernel_rfl
theorem E_attr : ElemT Tryz.prog (Rep.size Attr) 63 41 32 := ⟨Tryz.underlying41, by obtain ⟨i, hi, hz, h1, h2⟩ := info_parts info_attr; exact ⟨i, _, hi, hz, h1, h2, rfl⟩⟩
theorem E_dev : ElemT Tryz.prog (Rep.size Dev) 43 55 136 := ⟨Tryz.underlying55, by obtain ⟨i, hi, hz, h1, h2⟩ := info_parts info_dev; exact ⟨i, _, hi, hz, h1, h2, rfl⟩⟩
end Go.Proofs.YtehmidmoiamcfaaGreatDoor
namespace Go.Cold
open Go Go.RowKit
end Go.Cold
namespace Go.Proofs.YtehmidmoiamcfaaGreatDoor
open Go.RowKit Go.Cold
def NextL (lo hi : Int) (xs : List Int) (k B b : Nat) (w : World) (e : Ending) (w' : World) : Prop := ∃ n : Int, lo ≤ n ∧ n < hi ∧ e = .returned (.int .i64 n) ∧ TapeAt w' B b xs (k + 1) ∧ w.grownBy w' (some b)
theorem Next_lit (n : Int) (xs : List Int) (k B b : Nat) (w : World) (hk : k ≤ 2 ^ 40) (ht : TapeAt w B b xs k) (h1 : 1 ≤ n) (h2 : n ≤ 1000000) : Calls Tryz.prog 23 #[.pointer (some ⟨b, 0, none⟩), .int .i64 n] w (NextL 0 n xs k B b w) :=
 (Next_any xs k B b n w (by unfold okI; omega) hk ht).mono fun e w' ⟨h3, h4, h5⟩ => ⟨_, (foldI_pos h1).1, (foldI_pos h1).2, h3, h4, h5⟩
end Go.Proofs.YtehmidmoiamcfaaGreatDoor
namespace Go.Cold
open Go Go.RowKit
theorem BoxL.set10 {w : World} {g : Nat} {c0 c1 c2 c3 c4 c5 c6 c7 c8 c9 : Value} (h : BoxL w g [c0, c1, c2, c3, c4, c5, c6, c7, c8, c9]) (v0 v1 v2 v3 v4 v5 v6 v7 v8 v9 : Value) : BoxL ((((((((((w.setCell ⟨g, 0, none⟩ (v0)).setCell ⟨g, 1, none⟩ (v1)).setCell ⟨g, 2, none⟩ (v2)).setCell ⟨g, 3, none⟩ (v3)).setCell ⟨g, 4, none⟩ (v4)).setCell ⟨g, 5, none⟩ (v5)).setCell ⟨g, 6, none⟩ (v6)).setCell ⟨g, 7, none⟩ (v7)).setCell ⟨g, 8, none⟩ (v8)).setCell ⟨g, 9, none⟩ (v9)) g [v0, v1, v2, v3, v4, v5, v6, v7, v8, v9] :=
 ((((((((((h.set_ (j := 0) (by simp) v0).set_ (j := 1) (by simp) v1).set_ (j := 2) (by simp) v2).set_ (j := 3) (by simp) v3).set_ (j := 4) (by simp) v4).set_ (j := 5) (by simp) v5).set_ (j := 6) (by simp) v6).set_ (j := 7) (by simp) v7).set_ (j := 8) (by simp) v8).set_ (j := 9) (by simp) v9)
theorem grown_any {w w' : World} {row : Option Nat} (hb : Below w.heap.size w w') : w.grownBy w' row := ⟨hb.os, hb.tape, hb.output, hb.size, fun k hk _ => hb.block k hk⟩
theorem SlS.set_ {α : Type} [RepS α] {w : World} {A : Option Addr} {c g j : Nat} {xs : List α} {S : Nat → Prop} (h : SlS w S A c xs) (hS : ∀ x, S x → x ≠ g) (v : Value) : SlS (w.setCell ⟨g, j, none⟩ v) S A c xs :=
 h.mono (fun _ hb => hb) (fun x o u hx hu => (cell_set_far w ⟨g, j, none⟩ v x o (fun e => hS x hx e.symm)).trans hu)
theorem SlS.below {α : Type} [RepS α] {w w' : World} {A : Option Addr} {c : Nat} {xs : List α} {S : Nat → Prop} (h : SlS w S A c xs) (hb : Below w.heap.size w w') (hS : ∀ x, S x → x < w.heap.size) : SlS w' S A c xs :=
 h.mono (fun _ hb => hb) (fun x o u hx hu => (hb.cell (p := ⟨x, o, none⟩) (hS x hx)).trans hu)
theorem SlS.sl {α : Type} [RepS α] {w : World} {A : Option Addr} {c B : Nat} {xs : List α} {S : Nat → Prop} (h : SlS w S A c xs) (hS : ∀ x, S x → x < B) : Sl w B A c xs := SlS_iff.2 (h.mono hS (fun _ _ _ _ hu => hu))
section
variable {w0 w w' : World} {B b k k' g3 g4 g5 c : Nat} {xs : List Int} {t3 : Value} {cs : List Value} {S : Nat → Prop} {A : Option Addr} {l : List Attr}
end
end Go.Cold
namespace Go.Proofs.YtehmidmoiamcfaaGreatDoor
open Go.RowKit Go.Cold
end Go.Proofs.YtehmidmoiamcfaaGreatDoor
namespace Go.Cold
open Go Go.RowKit
def insR (L : List Dev) (d : Dev) : List Dev := if insE L d = 0 then insL L d else []
theorem VT.small {L : List Dev} (h : VT L) : ∀ d ∈ L, d.orig.size ≤ 32 ∧ (0 ≤ d.idx ∧ d.idx ≤ 1073741824) := fun d hd =>
 ⟨valid_size (check_names (h.chk d hd)).2.1, by have := check_range (h.chk d hd); omega⟩
end Go.Cold
namespace Go.Proofs.YtehmidmoiamcfaaGreatDoor
open Go.RowKit Go.Cold
theorem E_txt : ElemT Tryz.prog (Rep.size ByteArray) 9 72 16 := ⟨Tryz.underlying72, by obtain ⟨i, hi, hz, h1, h2⟩ := info_parts info_txt; exact ⟨i, _, hi, hz, h1, h2, rfl⟩⟩
end Go.Proofs.YtehmidmoiamcfaaGreatDoor
namespace Go.Cold
open Go Go.RowKit
section
variable {w0 w w' : World} {B b k k' g4 g5 c : Nat} {xs : List Int} {A : Option Addr} {L : List Dev}
end
end Go.Cold
namespace Go.Proofs.YtehmidmoiamcfaaGreatDoor
open Go.RowKit Go.Cold
theorem info_tree2 : (Tryz.prog.info? 57).map (fun i => (i.zero, i.size)) = some (some (.agg #[.slice none 0 0]), 1) := by kernel_rfl
end Go.Proofs.YtehmidmoiamcfaaGreatDoor
