/-
  The walks of package tree: slices.Clone of attributes, copied, first, Find.
-/
import Derived.Test.YtehmidmoiamcfaaGreatDoorEK
import Derived.Lib.BufferMore
import Derived.Test.YtehmidmoiamcfaaGreatDoorEE
import Derived.Deep.DeepCutAuto
import Derived.StillTailTactics
import Derived.Test.YtehmidmoiamcfaaGreatDoorESC
set_option linter.unusedSimpArgs false
set_option linter.unusedVariables false
namespace Go.Cold
open Go Go.RowKit
theorem OwnsS.attr {F F' : Nat → Prop} {w : World} {base : Nat} {e : TypeId} {v : Value} {xs : List Attr} (h : OwnsS F w base e v xs) : OwnsS F' w base e v xs := by
 obtain ⟨css, h1, h2, h3⟩ := h
 exact ⟨css, h1, h2, fun i x cs hx hcs => h3 i x cs hx hcs⟩
theorem owns_made (F : Nat → Prop) (w : World) {base : Nat} (T : TypeId) (α : Type) [RepS α] (hb : base ≤ w.heap.size) : OwnsS F (w.alloc (.cells #[] T)) base T (.slice (some ⟨w.heap.size, 0, none⟩) 0 0) ([] : List α) := by
 refine ⟨[], ⟨by simp, .inr ⟨w.heap.size, 0, #[], rfl, hb, ?_, Nat.le_refl _, by unfold maxLen; omega, by simp, by simp⟩⟩, rfl, fun i x cs h => by simp at h⟩
 show (w.heap.push _)[w.heap.size]? = _
 exact Array.getElem?_push_size
theorem SlS.set10 {α : Type} [RepS α] {w : World} {A : Option Addr} {c g : Nat} {xs : List α} {S : Nat → Prop} (h : SlS w S A c xs) (hS : ∀ x, S x → x ≠ g) (v0 v1 v2 v3 v4 v5 v6 v7 v8 v9 : Value) :
  SlS ((((((((((w.setCell ⟨g, 0, none⟩ v0).setCell ⟨g, 1, none⟩ v1).setCell ⟨g, 2, none⟩ v2).setCell ⟨g, 3, none⟩ v3).setCell ⟨g, 4, none⟩ v4).setCell ⟨g, 5, none⟩ v5).setCell ⟨g, 6, none⟩ v6).setCell ⟨g, 7, none⟩ v7).setCell ⟨g, 8, none⟩ v8).setCell ⟨g, 9, none⟩ v9) S A c xs :=
 (((((((((h.set_ hS v0).set_ hS v1).set_ hS v2).set_ hS v3).set_ hS v4).set_ hS v5).set_ hS v6).set_ hS v7).set_ hS v8).set_ hS v9
end Go.Cold
namespace Go.Proofs.YtehmidmoiamcfaaGreatDoor
open Go.RowKit Go.Cold
set_option maxRecDepth 100000 in
/-- slices.Clone of attributes. -/
theorem Clone_any (A : Option Addr) (c : Nat) (ys : List Attr) (w : World) (B : Nat) (hB : B ≤ w.heap.size) (hx : Sl w B A c ys) (hl : ys.length ≤ 1000000) : Calls Tryz.prog 101 #[.slice A ys.length c] w fun e w' => Below w.heap.size w w' ∧ ∃ v, e = .returned v ∧ OwnsS (fun _ => False) w' w.heap.size 63 v ys := by
 have hx1 := hx.1; have hx2 := hx.2.1
 unfold maxLen at hx2
 have HX := Lib.hid hx; have HB := Lib.hid hB; have HL := Lib.hid hl; clear hx hB hl
 rcases A with _ | A
 ·
  have h0 : ys = [] := by
    rcases ys with _ | ⟨y, r⟩
    · rfl
    ·
     obtain ⟨b, o, e, _⟩ := HX.out.2.2 (by simp)
     cases e
  subst h0
  go_enter Tryz.func101, Tryz.ntmps101
  have hn := fun W => Lib.run_eql_slice_nil_nil (P := Tryz.prog) W 0 c Tryz.underlying41
  go_wp2
  go_ret
  exact ⟨Below.refl _ _, .slice none 0 0, by try rfl, OwnsS.nil_ _ _ _ _⟩
 ·
  go_enter Tryz.func101, Tryz.ntmps101
  have hn := fun W => Lib.run_eql_slice_some_nil (P := Tryz.prog) W A ys.length c Tryz.underlying41
  go_upto_region 3 with fail
  have HOWN0 := Lib.hid (owns_made (fun x => x < B) w (base := w.heap.size) 63 Attr (Nat.le_refl _))
  have hb1 : Below w.heap.size w (w.alloc (.cells #[] 63)) := (Below.refl _ _).alloc (Nat.le_refl _) _
  have HB1 := Lib.hid hb1; clear hb1
  have HSRC := Lib.hid (show SlS (w.alloc (.cells #[] 63)) (fun b => b < B ∧ b < (w.alloc (.cells #[] 63)).heap.size ∧ (Value.slice (some ⟨w.heap.size, 0, none⟩) 0 0).ownBlock ≠ some b) (some A) c ys from (SlS_iff.1 (HX.out.keep (HB1.out.mono HB.out))).mono (fun b hb => ⟨hb, by have := HB.out; have := HB1.out.size; omega, fun e => by have h1 : w.heap.size = b := Option.some.inj e; have := HB.out; have h2 : b < B := hb; omega⟩) (fun _ _ _ _ hu => hu))
  clear hx1 hx2 hn
  go_wp2_with (at_builtin; go_must (refine wpList_app rfl _ _ rfl (.slice (some ⟨w.heap.size, 0, none⟩) 0 0) _ rfl rfl (run_appL E_attr _ _ [] HOWN0.out (some A) c ys (.inl HSRC.out) (by have := HL.out; simp; unfold maxLen; omega) (by have := HL.out; simp; omega) HB1.out.size) ?_); intro v1 w1 hR_; have HR1 := Lib.hid hR_; clear hR_)
  obtain ⟨ho, hg, -⟩ := HR1.out
  rw [List.nil_append] at ho
  go_ret
  exact ⟨HB1.out.grown hg HB1.out.size (fun q hq => by have h1 : w.heap.size = q := Option.some.inj hq; omega), v1, by try rfl, ho.attr⟩
set_option maxRecDepth 100000 in
set_option maxHeartbeats 4000000 in
/-- tree.copied. -/
theorem copied_any (d : Dev) (A2 : Option Addr) (c2 : Nat) (w : World) (B : Nat) (hB : B ≤ w.heap.size) (hx : Sl w B A2 c2 d.attrs) (hl : d.attrs.length ≤ 1000000) : Calls Tryz.prog 58 #[.agg #[.int .i64 d.idx, .int .i64 d.par, .string d.nm, .string d.orig, .string d.sub, .string d.drv, .string d.ali, .int .i64 d.kind, .int .i64 d.num, .slice A2 d.attrs.length c2]] w fun e w' => Below w.heap.size w w' ∧ ∃ (A3 : Option Addr) (c3 : Nat), e = .returned (.agg #[.int .i64 d.idx, .int .i64 d.par, .string d.nm, .string d.orig, .string d.sub, .string d.drv, .string d.ali, .int .i64 d.kind, .int .i64 d.num, .slice A3 d.attrs.length c3]) ∧ SlS w' (fun b => w.heap.size ≤ b ∧ b < w'.heap.size) A3 c3 d.attrs := by
 have hzv := (zero_of_info (P := Tryz.prog) (t := 43) info_dev2).1
 have HX := Lib.hid hx; have HB := Lib.hid hB; have HL := Lib.hid hl; clear hx hB hl
 go_enter Tryz.func58, Tryz.ntmps58
 go_upto_region 1 with fail
 obtain ⟨w1, hw1⟩ : ∃ w1, w.alloc (.cells #[.int .i64 d.idx, .int .i64 d.par, .string d.nm, .string d.orig, .string d.sub, .string d.drv, .string d.ali, .int .i64 d.kind, .int .i64 d.num, .slice A2 d.attrs.length c2] 43) = w1 := ⟨_, rfl⟩
 have hbw1 : Below w.heap.size w w1 := by rw [← hw1]; exact (Below.refl _ _).alloc (Nat.le_refl _) _
 have HGw1 := Lib.hid (show w1.heap.size = w.heap.size + 1 by rw [← hw1]; simp)
 have HXdw1 := Lib.hid (show BoxL w1 w.heap.size [.int .i64 d.idx, .int .i64 d.par, .string d.nm, .string d.orig, .string d.sub, .string d.drv, .string d.ali, .int .i64 d.kind, .int .i64 d.num, .slice A2 d.attrs.length c2] from box_mk hw1)
 try simp only [hw1]
 have HSw1 := Lib.hid (show w.heap.size ≤ w1.heap.size from hbw1.size)
 have HBw1 := Lib.hid hbw1
 clear hw1 hbw1
 try rw [show w.heap.size + 1 = w1.heap.size from HGw1.out.symm]
 obtain ⟨w2, hw2⟩ : ∃ w2, w1.alloc (.cells #[.int .i64 0, .int .i64 0, .string ByteArray.empty, .string ByteArray.empty, .string ByteArray.empty, .string ByteArray.empty, .string ByteArray.empty, .int .i64 0, .int .i64 0, .slice none 0 0] 43) = w2 := ⟨_, rfl⟩
 have hbw2 : Below w1.heap.size w1 w2 := by rw [← hw2]; exact (Below.refl _ _).alloc (Nat.le_refl _) _
 have HGw2 := Lib.hid (show w2.heap.size = w1.heap.size + 1 by rw [← hw2]; simp)
 have HXrw2 := Lib.hid (show BoxL w2 w1.heap.size [.int .i64 0, .int .i64 0, .string ByteArray.empty, .string ByteArray.empty, .string ByteArray.empty, .string ByteArray.empty, .string ByteArray.empty, .int .i64 0, .int .i64 0, .slice none 0 0] from box_mk hw2)
 try simp only [hw2]
 have HSw2 := Lib.hid (show w1.heap.size ≤ w2.heap.size from hbw2.size)
 have HBw2 := Lib.hid (HBw1.out.trans (hbw2.mono HBw1.out.size))
 have dw2 := Lib.hid (HXdw1.out.kept (grown_none hbw2) (fun e => by cases e))
 clear hw2 hbw2
 try rw [show w1.heap.size + 1 = w2.heap.size from HGw2.out.symm]
 have cd0 := dw2.out.1 0 _ rfl
 have cd1 := dw2.out.1 1 _ rfl
 have cd2 := dw2.out.1 2 _ rfl
 have cd3 := dw2.out.1 3 _ rfl
 have cd4 := dw2.out.1 4 _ rfl
 have cd5 := dw2.out.1 5 _ rfl
 have cd6 := dw2.out.1 6 _ rfl
 have cd7 := dw2.out.1 7 _ rfl
 have cd8 := dw2.out.1 8 _ rfl
 have cd9 := dw2.out.1 9 _ rfl
 have cfd := dw2.out.2.1
 have cr0 := HXrw2.out.1 0 _ rfl
 have cr1 := HXrw2.out.1 1 _ rfl
 have cr2 := HXrw2.out.1 2 _ rfl
 have cr3 := HXrw2.out.1 3 _ rfl
 have cr4 := HXrw2.out.1 4 _ rfl
 have cr5 := HXrw2.out.1 5 _ rfl
 have cr6 := HXrw2.out.1 6 _ rfl
 have cr7 := HXrw2.out.1 7 _ rfl
 have cr8 := HXrw2.out.1 8 _ rfl
 have cr9 := HXrw2.out.1 9 _ rfl
 have cfr := HXrw2.out.2.1
 go_wp2_with fail
 refine (Clone_any A2 c2 d.attrs _ B (Nat.le_trans HB.out HBw2.out.size) (HX.out.keep (HBw2.out.mono HB.out)) HL.out).mono ?_
 rintro e w3 ⟨hbw3, v, rfl, hown⟩
 clear cd0 cd1 cd2 cd3 cd4 cd5 cd6 cd7 cd8 cd9 cfd cr0 cr1 cr2 cr3 cr4 cr5 cr6 cr7 cr8 cr9 cfr
 have HSw3 := Lib.hid (show w2.heap.size ≤ w3.heap.size from hbw3.size)
 have HBw3 := Lib.hid (HBw2.out.trans (hbw3.mono HBw2.out.size))
 have dw3 := Lib.hid (dw2.out.kept (grown_none hbw3) (fun e => by cases e))
 have rw3 := Lib.hid (HXrw2.out.kept (grown_none hbw3) (fun e => by cases e))
 clear hbw3
 have cd0 := dw3.out.1 0 _ rfl
 have cd1 := dw3.out.1 1 _ rfl
 have cd2 := dw3.out.1 2 _ rfl
 have cd3 := dw3.out.1 3 _ rfl
 have cd4 := dw3.out.1 4 _ rfl
 have cd5 := dw3.out.1 5 _ rfl
 have cd6 := dw3.out.1 6 _ rfl
 have cd7 := dw3.out.1 7 _ rfl
 have cd8 := dw3.out.1 8 _ rfl
 have cd9 := dw3.out.1 9 _ rfl
 have cfd := dw3.out.2.1
 have cr0 := rw3.out.1 0 _ rfl
 have cr1 := rw3.out.1 1 _ rfl
 have cr2 := rw3.out.1 2 _ rfl
 have cr3 := rw3.out.1 3 _ rfl
 have cr4 := rw3.out.1 4 _ rfl
 have cr5 := rw3.out.1 5 _ rfl
 have cr6 := rw3.out.1 6 _ rfl
 have cr7 := rw3.out.1 7 _ rfl
 have cr8 := rw3.out.1 8 _ rfl
 have cr9 := rw3.out.1 9 _ rfl
 have cfr := rw3.out.2.1
 obtain ⟨A3, c3, rfl, hsl⟩ := hown.cs
 have HSL := Lib.hid (show SlS w3 (fun b => w2.heap.size ≤ b ∧ b < w3.heap.size) A3 c3 d.attrs from hsl.mono (fun b hb => ⟨hb.1.elim (fun h => h.elim) id, hb.2⟩) (fun _ _ _ _ hu => hu))
 clear hown hsl
 have HN1 := Lib.hid (show ∀ x, (w2.heap.size ≤ x ∧ x < w3.heap.size) → x ≠ w.heap.size from fun x hx => by have := HGw1.out; have := HGw2.out; omega)
 have HN2 := Lib.hid (show ∀ x, (w2.heap.size ≤ x ∧ x < w3.heap.size) → x ≠ w1.heap.size from fun x hx => by have := HGw2.out; omega)
 have hne : w.heap.size ≠ w1.heap.size := by have := HGw1.out; omega
 go_wp2
 refine bodyPost_ret (v := .agg #[.int .i64 d.idx, .int .i64 d.par, .string d.nm, .string d.orig, .string d.sub, .string d.drv, .string d.ali, .int .i64 d.kind, .int .i64 d.num, .slice A3 d.attrs.length c3]) (by simp [results, Tryz.results58, go_sem, cr0, cr1, cr2, cr3, cr4, cr5, cr6, cr7, cr8, cr9, cfr, hne]) rfl ⟨below10 (HBw3.out.setCell (Nat.le_refl _) _) (by have := HGw1.out; omega) _ _ _ _ _ _ _ _ _ _, A3, c3, rfl, ((HSL.out.set_ HN1.out _).set10 HN2.out _ _ _ _ _ _ _ _ _ _).mono (fun b hb => ⟨by have := HGw1.out; have := HGw2.out; omega, by simpa using hb.2⟩) (fun _ _ _ _ hu => hu)⟩
end Go.Proofs.YtehmidmoiamcfaaGreatDoor
namespace Go.Cold
open Go Go.RowKit
theorem find_idx2 {p : Dev → Bool} : ∀ L : List Dev, (idxInt p L = -1 ∧ L.find? p = none) ∨ ∃ (k : Nat) (y : Dev), idxInt p L = (k : Int) ∧ L[k]? = some y ∧ L.find? p = some y
 | [] => .inl ⟨rfl, rfl⟩
 | d :: r => by
  by_cases hd : p d = true
  · exact .inr ⟨0, d, by unfold idxInt; rw [List.findIdx?_cons, if_pos hd], rfl, by rw [List.find?_cons_of_pos hd]⟩
  ·
   have hd2 : p d = false := by simpa using hd
   have hi : ∀ i, r.findIdx? p = i → idxInt p (d :: r) = match i with | some j => ((j + 1 : Nat) : Int) | none => -1 := by
    intro i hri
    unfold idxInt
    rw [List.findIdx?_cons, if_neg (by simp [hd2]), hri]
    cases i <;> rfl
   rcases find_idx2 r with ⟨h1, h2⟩ | ⟨k, y, h1, h2, h3⟩
   ·
    left
    refine ⟨?_, by rw [List.find?_cons_of_neg (by simp [hd2]), h2]⟩
    cases hri : r.findIdx? p with
    | none => rw [hi _ hri]
    | some j => unfold idxInt at h1; rw [hri] at h1; simp only at h1; omega
   ·
    right
    refine ⟨k + 1, y, ?_, by simpa using h2, by rw [List.find?_cons_of_neg (by simp [hd2]), h3]⟩
    cases hri : r.findIdx? p with
    | none => unfold idxInt at h1; rw [hri] at h1; simp only at h1; omega
    | some j =>
     rw [hi _ hri]
     unfold idxInt at h1; rw [hri] at h1
     simp only at h1 ⊢
     omega
/-- What the finders of package tree answer: nothing that the tree shares. -/
def FirstP (p : Dev → Bool) (L : List Dev) (w : World) (e : Ending) (w' : World) : Prop := Below w.heap.size w w' ∧ ∃ (d : Dev) (A3 : Option Addr) (c3 : Nat), d = (L.find? p).getD zeroD ∧ e = .returned (.tuple #[.agg #[.int .i64 d.idx, .int .i64 d.par, .string d.nm, .string d.orig, .string d.sub, .string d.drv, .string d.ali, .int .i64 d.kind, .int .i64 d.num, .slice A3 d.attrs.length c3], .bool (L.find? p).isSome]) ∧ devOk d ∧ SlS w' (fun b => w.heap.size ≤ b ∧ b < w'.heap.size) A3 c3 d.attrs
def byIdx (n : Int) (d : Dev) : Bool := decide (d.idx = n)
end Go.Cold
namespace Go.Proofs.YtehmidmoiamcfaaGreatDoor
open Go.RowKit Go.Cold
set_option maxRecDepth 100000 in
set_option maxHeartbeats 4000000 in
/-- tree.first. -/
theorem first_any (A : Option Addr) (c : Nat) (L : List Dev) (f : FuncId) (caps : Array Value) (Q : Dev → Prop) (p : Dev → Bool) (w : World) (B : Nat) (hB : B ≤ w.heap.size) (hx : Sl w B A c L) (hp : PredD f caps w B Q p) (hq : ∀ d ∈ L, Q d) (hl : ∀ d ∈ L, d.attrs.length ≤ 1000000) :
  Calls Tryz.prog 88 #[.agg #[.slice A L.length c], .func (.func f) #[] caps] w (FirstP p L w) := by
 have hzv := (zero_of_info (P := Tryz.prog) (t := 43) info_dev2).1
 have hx1 := hx.1; have hx2 := hx.2.1
 unfold maxLen at hx2
 have HX := Lib.hid hx; have HB := Lib.hid hB; have HP := Lib.hid hp; have HQ := Lib.hid hq; have HL := Lib.hid hl; clear hx hB hp hq hl
 go_enter Tryz.func88, Tryz.ntmps88
 go_upto_region 1 with fail
 obtain ⟨w1, hw1⟩ : ∃ w1, w.alloc (.cells #[.slice A L.length c] 57) = w1 := ⟨_, rfl⟩
 have hbw1 : Below w.heap.size w w1 := by rw [← hw1]; exact (Below.refl _ _).alloc (Nat.le_refl _) _
 have HGw1 := Lib.hid (show w1.heap.size = w.heap.size + 1 by rw [← hw1]; simp)
 have HXtw1 := Lib.hid (show BoxL w1 w.heap.size [.slice A L.length c] from box_mk hw1)
 try simp only [hw1]
 have HSw1 := Lib.hid (show w.heap.size ≤ w1.heap.size from hbw1.size)
 have HBw1 := Lib.hid hbw1
 clear hw1 hbw1
 try rw [show w.heap.size + 1 = w1.heap.size from HGw1.out.symm]
 obtain ⟨w2, hw2⟩ : ∃ w2, w1.alloc (.cells #[.int .i64 0, .int .i64 0, .string ByteArray.empty, .string ByteArray.empty, .string ByteArray.empty, .string ByteArray.empty, .string ByteArray.empty, .int .i64 0, .int .i64 0, .slice none 0 0] 43) = w2 := ⟨_, rfl⟩
 have hbw2 : Below w1.heap.size w1 w2 := by rw [← hw2]; exact (Below.refl _ _).alloc (Nat.le_refl _) _
 have HGw2 := Lib.hid (show w2.heap.size = w1.heap.size + 1 by rw [← hw2]; simp)
 have HXrw2 := Lib.hid (show BoxL w2 w1.heap.size [.int .i64 0, .int .i64 0, .string ByteArray.empty, .string ByteArray.empty, .string ByteArray.empty, .string ByteArray.empty, .string ByteArray.empty, .int .i64 0, .int .i64 0, .slice none 0 0] from box_mk hw2)
 try simp only [hw2]
 have HSw2 := Lib.hid (show w1.heap.size ≤ w2.heap.size from hbw2.size)
 have HBw2 := Lib.hid (HBw1.out.trans (hbw2.mono HBw1.out.size))
 have tw2 := Lib.hid (HXtw1.out.kept (grown_none hbw2) (fun e => by cases e))
 clear hw2 hbw2
 try rw [show w1.heap.size + 1 = w2.heap.size from HGw2.out.symm]
 have ct0 := tw2.out.1 0 _ rfl
 have cr0 := HXrw2.out.1 0 _ rfl
 have cr1 := HXrw2.out.1 1 _ rfl
 have cr2 := HXrw2.out.1 2 _ rfl
 have cr3 := HXrw2.out.1 3 _ rfl
 have cr4 := HXrw2.out.1 4 _ rfl
 have cr5 := HXrw2.out.1 5 _ rfl
 have cr6 := HXrw2.out.1 6 _ rfl
 have cr7 := HXrw2.out.1 7 _ rfl
 have cr8 := HXrw2.out.1 8 _ rfl
 have cr9 := HXrw2.out.1 9 _ rfl
 have cfr := HXrw2.out.2.1
 go_wp2_with fail
 refine (IndexFuncD_any A c L f caps Q p _ B (Nat.le_trans HB.out HBw2.out.size) (HX.out.keep (HBw2.out.mono HB.out)) (HP.out.next HBw2.out) HQ.out).mono ?_
 rintro e w3 ⟨rfl, hbw3⟩
 clear ct0 cr0 cr1 cr2 cr3 cr4 cr5 cr6 cr7 cr8 cr9 cfr
 have HSw3 := Lib.hid (show w2.heap.size ≤ w3.heap.size from hbw3.size)
 have HBw3 := Lib.hid (HBw2.out.trans (hbw3.mono HBw2.out.size))
 have tw3 := Lib.hid (tw2.out.kept (grown_none hbw3) (fun e => by cases e))
 have rw3 := Lib.hid (HXrw2.out.kept (grown_none hbw3) (fun e => by cases e))
 clear hbw3
 have ct0 := tw3.out.1 0 _ rfl
 have cr0 := rw3.out.1 0 _ rfl
 have cr1 := rw3.out.1 1 _ rfl
 have cr2 := rw3.out.1 2 _ rfl
 have cr3 := rw3.out.1 3 _ rfl
 have cr4 := rw3.out.1 4 _ rfl
 have cr5 := rw3.out.1 5 _ rfl
 have cr6 := rw3.out.1 6 _ rfl
 have cr7 := rw3.out.1 7 _ rfl
 have cr8 := rw3.out.1 8 _ rfl
 have cr9 := rw3.out.1 9 _ rfl
 have cfr := rw3.out.2.1
 have hzv := (zero_of_info (P := Tryz.prog) (t := 43) info_dev2).1
 rcases find_idx2 (p := p) L with ⟨h1, h2⟩ | ⟨k, y, h1, h2, h3⟩
 ·
  rw [h1]
  have HF := Lib.hid h2
  clear h1 h2
  go_wp2
  refine bodyPost_ret (v := .tuple #[.agg #[.int .i64 0, .int .i64 0, .string ByteArray.empty, .string ByteArray.empty, .string ByteArray.empty, .string ByteArray.empty, .string ByteArray.empty, .int .i64 0, .int .i64 0, .slice none 0 0], .bool false]) (by simp [results, Tryz.results88, go_sem, cr0, cr1, cr2, cr3, cr4, cr5, cr6, cr7, cr8, cr9, cfr]) rfl ⟨below10 HBw3.out (by have := HGw1.out; omega) _ _ _ _ _ _ _ _ _ _, zeroD, none, 0, by rw [HF.out]; rfl, by rw [HF.out]; rfl, zero_ok, SlS.nil_⟩
 ·
  have hk : k < L.length := (List.getElem?_eq_some_iff.1 h2).1
  have hky : L[k]'hk = y := (List.getElem?_eq_some_iff.1 h2).2
  rw [h1]
  have HF := Lib.hid h3; have HM := Lib.hid (List.mem_of_getElem? h2)
  clear h1 h2 h3
  have i1 : (k : Int) < (L.length : Int) := by omega
  have i2 : (0 : Int) ≤ (k : Int) := by omega
  have i3 : ¬ (k : Int) < 0 := by omega
  obtain ⟨b3, o3, rfl, hb3, A2, c2, hok3, hat3, hdc⟩ := (HX.out.keep (HBw3.out.mono HB.out)).dev hk
  rw [hky] at hok3 hat3 hdc
  have HOK := Lib.hid hok3; have HAT := Lib.hid hat3
  obtain ⟨d0, d1, d2, d3, d4, d5, d6, d7, d8, d9⟩ := hdc
  clear hok3 hat3 hky hb3
  go_wp2_with fail
  refine (copied_any y A2 c2 _ B (Nat.le_trans HB.out HBw3.out.size) HAT.out (HL.out y HM.out)).mono ?_
  rintro e w4 ⟨hbw4, A3, c3, rfl, hsl⟩
  clear ct0 cr0 cr1 cr2 cr3 cr4 cr5 cr6 cr7 cr8 cr9 cfr
  have HSw4 := Lib.hid (show w3.heap.size ≤ w4.heap.size from hbw4.size)
  have HBw4 := Lib.hid (HBw3.out.trans (hbw4.mono HBw3.out.size))
  have tw4 := Lib.hid (tw3.out.kept (grown_none hbw4) (fun e => by cases e))
  have rw4 := Lib.hid (rw3.out.kept (grown_none hbw4) (fun e => by cases e))
  clear hbw4
  clear d0 d1 d2 d3 d4 d5 d6 d7 d8 d9
  have ct0 := tw4.out.1 0 _ rfl
  have cr0 := rw4.out.1 0 _ rfl
  have cr1 := rw4.out.1 1 _ rfl
  have cr2 := rw4.out.1 2 _ rfl
  have cr3 := rw4.out.1 3 _ rfl
  have cr4 := rw4.out.1 4 _ rfl
  have cr5 := rw4.out.1 5 _ rfl
  have cr6 := rw4.out.1 6 _ rfl
  have cr7 := rw4.out.1 7 _ rfl
  have cr8 := rw4.out.1 8 _ rfl
  have cr9 := rw4.out.1 9 _ rfl
  have cfr := rw4.out.2.1
  have HSL := Lib.hid hsl; clear hsl
  have HN2 := Lib.hid (show ∀ x, (w3.heap.size ≤ x ∧ x < w4.heap.size) → x ≠ w1.heap.size from fun x hx => by have := HGw2.out; have := HSw3.out; omega)
  go_wp2
  refine bodyPost_ret (v := .tuple #[.agg #[.int .i64 y.idx, .int .i64 y.par, .string y.nm, .string y.orig, .string y.sub, .string y.drv, .string y.ali, .int .i64 y.kind, .int .i64 y.num, .slice A3 y.attrs.length c3], .bool true]) (by simp [results, Tryz.results88, go_sem, cr0, cr1, cr2, cr3, cr4, cr5, cr6, cr7, cr8, cr9, cfr]) rfl ⟨below10 HBw4.out (by have := HGw1.out; omega) _ _ _ _ _ _ _ _ _ _, y, A3, c3, by rw [HF.out]; rfl, by rw [HF.out]; rfl, HOK.out, ((HSL.out.set10 HN2.out _ _ _ _ _ _ _ _ _ _).mono (fun b hb => ⟨by have := HGw1.out; have := HGw2.out; have := HSw3.out; omega, by simpa using hb.2⟩) (fun _ _ _ _ hu => hu))⟩
set_option maxRecDepth 100000 in
theorem find1_pred (g : Nat) (n : Int) (w : World) (B : Nat) (hv : BoxL w g [.int .i64 n]) :
  PredD 89 #[.pointer (some ⟨g, 0, none⟩)] w B (fun _ => True) (byIdx n) := by
 refine ⟨enters_of Tryz.func89 (by kernel_rfl) rfl, fun x A2 c2 W hxo hat hq hW => ?_⟩
 have HV := Lib.hid (hv.kept (grown_none hW) (fun e => by cases e)); clear hv hxo hat hq hW
 go_enter Tryz.func89, Tryz.ntmps89
 go_upto_region 1 with fail
 obtain ⟨w1, hw1⟩ : ∃ w1, W.alloc (.cells #[.int .i64 x.idx, .int .i64 x.par, .string x.nm, .string x.orig, .string x.sub, .string x.drv, .string x.ali, .int .i64 x.kind, .int .i64 x.num, .slice A2 x.attrs.length c2] 43) = w1 := ⟨_, rfl⟩
 have hbw1 : Below W.heap.size W w1 := by rw [← hw1]; exact (Below.refl _ _).alloc (Nat.le_refl _) _
 have HGw1 := Lib.hid (show w1.heap.size = W.heap.size + 1 by rw [← hw1]; simp)
 have HXxw1 := Lib.hid (show BoxL w1 W.heap.size [.int .i64 x.idx, .int .i64 x.par, .string x.nm, .string x.orig, .string x.sub, .string x.drv, .string x.ali, .int .i64 x.kind, .int .i64 x.num, .slice A2 x.attrs.length c2] from box_mk hw1)
 try simp only [hw1]
 have HSw1 := Lib.hid (show W.heap.size ≤ w1.heap.size from hbw1.size)
 have HBw1 := Lib.hid hbw1
 have vw1 := Lib.hid (HV.out.kept (grown_none hbw1) (fun e => by cases e))
 clear hw1 hbw1
 try rw [show W.heap.size + 1 = w1.heap.size from HGw1.out.symm]
 have cv0 := vw1.out.1 0 _ rfl
 have cx0 := HXxw1.out.1 0 _ rfl
 go_wp2
 go_ret
 exact ⟨by try rfl, HBw1.out⟩
set_option maxRecDepth 100000 in
set_option maxHeartbeats 4000000 in
/-- coldplug/tree.Find. -/
theorem TFind_any (A : Option Addr) (c : Nat) (L : List Dev) (n : Int) (w : World) (B : Nat) (hB : B ≤ w.heap.size) (hx : Sl w B A c L) (hl : ∀ d ∈ L, d.attrs.length ≤ 1000000) :
  Calls Tryz.prog 50 #[.agg #[.slice A L.length c], .int .i64 n] w (FirstP (byIdx n) L w) := by
 have hzv := (zero_of_info (P := Tryz.prog) (t := 43) info_dev2).1
 have HX := Lib.hid hx; have HB := Lib.hid hB; have HL := Lib.hid hl; clear hx hB hl
 go_enter Tryz.func50, Tryz.ntmps50
 go_upto_region 1 with fail
 obtain ⟨w1, hw1⟩ : ∃ w1, w.alloc (.cells #[.slice A L.length c] 57) = w1 := ⟨_, rfl⟩
 have hbw1 : Below w.heap.size w w1 := by rw [← hw1]; exact (Below.refl _ _).alloc (Nat.le_refl _) _
 have HGw1 := Lib.hid (show w1.heap.size = w.heap.size + 1 by rw [← hw1]; simp)
 have HXtw1 := Lib.hid (show BoxL w1 w.heap.size [.slice A L.length c] from box_mk hw1)
 try simp only [hw1]
 have HSw1 := Lib.hid (show w.heap.size ≤ w1.heap.size from hbw1.size)
 have HBw1 := Lib.hid hbw1
 clear hw1 hbw1
 try rw [show w.heap.size + 1 = w1.heap.size from HGw1.out.symm]
 obtain ⟨w2, hw2⟩ : ∃ w2, w1.alloc (.cells #[.int .i64 n] 3) = w2 := ⟨_, rfl⟩
 have hbw2 : Below w1.heap.size w1 w2 := by rw [← hw2]; exact (Below.refl _ _).alloc (Nat.le_refl _) _
 have HGw2 := Lib.hid (show w2.heap.size = w1.heap.size + 1 by rw [← hw2]; simp)
 have HXaw2 := Lib.hid (show BoxL w2 w1.heap.size [.int .i64 n] from box_mk hw2)
 try simp only [hw2]
 have HSw2 := Lib.hid (show w1.heap.size ≤ w2.heap.size from hbw2.size)
 have HBw2 := Lib.hid (HBw1.out.trans (hbw2.mono HBw1.out.size))
 have tw2 := Lib.hid (HXtw1.out.kept (grown_none hbw2) (fun e => by cases e))
 clear hw2 hbw2
 try rw [show w1.heap.size + 1 = w2.heap.size from HGw2.out.symm]
 obtain ⟨w3, hw3⟩ : ∃ w3, w2.alloc (.cells #[.int .i64 0, .int .i64 0, .string ByteArray.empty, .string ByteArray.empty, .string ByteArray.empty, .string ByteArray.empty, .string ByteArray.empty, .int .i64 0, .int .i64 0, .slice none 0 0] 43) = w3 := ⟨_, rfl⟩
 have hbw3 : Below w2.heap.size w2 w3 := by rw [← hw3]; exact (Below.refl _ _).alloc (Nat.le_refl _) _
 have HGw3 := Lib.hid (show w3.heap.size = w2.heap.size + 1 by rw [← hw3]; simp)
 have HXrw3 := Lib.hid (show BoxL w3 w2.heap.size [.int .i64 0, .int .i64 0, .string ByteArray.empty, .string ByteArray.empty, .string ByteArray.empty, .string ByteArray.empty, .string ByteArray.empty, .int .i64 0, .int .i64 0, .slice none 0 0] from box_mk hw3)
 try simp only [hw3]
 have HSw3 := Lib.hid (show w2.heap.size ≤ w3.heap.size from hbw3.size)
 have HBw3 := Lib.hid (HBw2.out.trans (hbw3.mono HBw2.out.size))
 have tw3 := Lib.hid (tw2.out.kept (grown_none hbw3) (fun e => by cases e))
 have aw3 := Lib.hid (HXaw2.out.kept (grown_none hbw3) (fun e => by cases e))
 clear hw3 hbw3
 try rw [show w2.heap.size + 1 = w3.heap.size from HGw3.out.symm]
 have ct0 := tw3.out.1 0 _ rfl
 have ca0 := aw3.out.1 0 _ rfl
 have cfr := HXrw3.out.2.1
 go_wp2_with fail
 refine (first_any A c L _ _ (fun _ => True) _ _ B (Nat.le_trans HB.out HBw3.out.size) (HX.out.keep (HBw3.out.mono HB.out)) (find1_pred _ n _ B aw3.out) (fun _ _ => trivial) HL.out).mono ?_
 rintro e w4 ⟨hbw4, d, A3, c3, hd, rfl, hok3, hsl⟩
 clear ct0 ca0 cfr
 have HSw4 := Lib.hid (show w3.heap.size ≤ w4.heap.size from hbw4.size)
 have HBw4 := Lib.hid (HBw3.out.trans (hbw4.mono HBw3.out.size))
 have tw4 := Lib.hid (tw3.out.kept (grown_none hbw4) (fun e => by cases e))
 have aw4 := Lib.hid (aw3.out.kept (grown_none hbw4) (fun e => by cases e))
 have rw4 := Lib.hid (HXrw3.out.kept (grown_none hbw4) (fun e => by cases e))
 clear hbw4
 have HD := Lib.hid hd; have HDO := Lib.hid hok3; have HSL := Lib.hid hsl; clear hd hok3 hsl
 have cr0 := rw4.out.1 0 _ rfl
 have cr1 := rw4.out.1 1 _ rfl
 have cr2 := rw4.out.1 2 _ rfl
 have cr3 := rw4.out.1 3 _ rfl
 have cr4 := rw4.out.1 4 _ rfl
 have cr5 := rw4.out.1 5 _ rfl
 have cr6 := rw4.out.1 6 _ rfl
 have cr7 := rw4.out.1 7 _ rfl
 have cr8 := rw4.out.1 8 _ rfl
 have cr9 := rw4.out.1 9 _ rfl
 have cfr := rw4.out.2.1
 have HN2 := Lib.hid (show ∀ x, (w3.heap.size ≤ x ∧ x < w4.heap.size) → x ≠ w2.heap.size from fun x hx => by have := HGw3.out; omega)
 obtain ⟨q, hq⟩ : ∃ q, (L.find? (byIdx n)).isSome = q := ⟨_, rfl⟩
 rw [hq]
 have HQ_ := Lib.hid hq; clear hq
 go_wp2
 refine bodyPost_ret (v := .tuple #[.agg #[.int .i64 d.idx, .int .i64 d.par, .string d.nm, .string d.orig, .string d.sub, .string d.drv, .string d.ali, .int .i64 d.kind, .int .i64 d.num, .slice A3 d.attrs.length c3], .bool q]) (by simp [results, Tryz.results50, go_sem, cr0, cr1, cr2, cr3, cr4, cr5, cr6, cr7, cr8, cr9, cfr]) rfl ⟨below10 HBw4.out (by have := HGw1.out; have := HGw2.out; omega) _ _ _ _ _ _ _ _ _ _, d, A3, c3, HD.out, by rw [HQ_.out], HDO.out, ((HSL.out.set10 HN2.out _ _ _ _ _ _ _ _ _ _).mono (fun b hb => ⟨by have := HGw1.out; have := HGw2.out; have := HGw3.out; omega, by simpa using hb.2⟩) (fun _ _ _ _ hu => hu))⟩
end Go.Proofs.YtehmidmoiamcfaaGreatDoor
namespace Go.Cold
open Go Go.RowKit
end Go.Cold
namespace Go.Proofs.YtehmidmoiamcfaaGreatDoor
open Go.RowKit Go.Cold
end Go.Proofs.YtehmidmoiamcfaaGreatDoor
namespace Go.Cold
open Go Go.RowKit
def contM : List ByteArray := [⟨#[]⟩, ⟨#[102, 115, 58, 102, 58]⟩, ⟨#[102, 115, 58, 103, 58, 76]⟩, ⟨#[114, 97, 105, 100, 58, 114, 58, 49, 47, 50, 47, 49, 40, 102, 115, 58, 102, 58, 41]⟩, ⟨#[114, 97, 105, 100, 58, 114, 58, 50, 47, 50, 47, 49, 40, 102, 115, 58, 102, 58, 41]⟩, ⟨#[99, 114, 121, 112, 116, 58, 99, 40, 102, 115, 58, 103, 58, 41]⟩, ⟨#[112, 118, 58, 118, 58, 49, 47, 49, 40, 102, 115, 58, 102, 58, 44, 99, 114, 121, 112, 116, 58, 99, 40, 102, 115, 58, 104, 58, 41, 41]⟩, ⟨#[116, 97, 98, 108, 101, 58, 116, 40, 102, 115, 58, 102, 58, 44, 99, 114, 121, 112, 116, 58, 99, 40, 114, 97, 105, 100, 58, 114, 58, 49, 47, 50, 47, 49, 40, 102, 115, 58, 120, 58, 41, 41, 41]⟩, ⟨#[116, 97, 98, 108, 101, 58, 116, 40, 114, 97, 105, 100, 58, 114, 58, 49, 47, 50, 47, 49, 40, 116, 97, 98, 108, 101, 58, 117, 40, 102, 115, 58, 102, 58, 41, 41, 44, 114, 97, 105, 100, 58, 114, 58, 50, 47, 50, 47, 49, 40, 116, 97, 98, 108, 101, 58, 117, 40, 102, 115, 58, 102, 58, 41, 41, 41]⟩, ⟨#[114, 97, 105, 100, 58, 114, 58, 49, 47, 49, 47, 49, 40, 114, 97, 105, 100, 58, 114, 58, 49, 47, 49, 47, 49, 40, 102, 115, 58, 102, 58, 41, 41]⟩, ⟨#[112, 118, 58, 118, 58, 49, 47, 50, 40, 102, 115, 58, 102, 58, 41]⟩, ⟨#[112, 118, 58, 118, 58, 50, 47, 50, 40, 102, 115, 58, 102, 58, 41]⟩, ⟨#[99, 114, 121, 112, 116, 58, 100, 40, 112, 118, 58, 118, 58, 49, 47, 49, 40, 114, 97, 105, 100, 58, 115, 58, 49, 47, 51, 47, 50, 40, 102, 115, 58, 121, 58, 41, 41, 41]⟩, ⟨#[114, 97, 105, 100, 58, 115, 58, 50, 47, 51, 47, 50, 40, 102, 115, 58, 121, 58, 41]⟩, ⟨#[114, 97, 105, 100, 58, 115, 58, 51, 47, 51, 47, 50, 40, 102, 115, 58, 121, 58, 41]⟩, ⟨#[110, 111, 110, 115, 101, 110, 115, 101]⟩]
theorem sls_one {w : World} {g : Nat} {n v : ByteArray} (h : BoxL w g [.string n, .string v]) (hn : n.size ≤ maxLen) (hv : v.size ≤ maxLen) : SlS w (fun x => x = g) (some ⟨g, 0, none⟩) 1 [(⟨n, v⟩ : Attr)] :=
 ⟨Nat.le_refl _, by unfold maxLen; omega, fun _ => ⟨g, 0, rfl, rfl, fun i x hx => by
  rcases i with _ | i
  ·
   simp at hx
   subst hx
   exact ⟨_, ⟨rfl, hn, hv⟩, fun j u hu => by rw [show 0 + (0 * Rep.size Attr + j) = j by omega]; exact h.1 j u hu⟩
  · simp at hx⟩⟩
end Go.Cold
namespace Go.Proofs.YtehmidmoiamcfaaGreatDoor
open Go.RowKit Go.Cold
theorem contM_cells : contM.map Value.string = [.string ⟨#[]⟩, .string ⟨#[102, 115, 58, 102, 58]⟩, .string ⟨#[102, 115, 58, 103, 58, 76]⟩, .string ⟨#[114, 97, 105, 100, 58, 114, 58, 49, 47, 50, 47, 49, 40, 102, 115, 58, 102, 58, 41]⟩, .string ⟨#[114, 97, 105, 100, 58, 114, 58, 50, 47, 50, 47, 49, 40, 102, 115, 58, 102, 58, 41]⟩, .string ⟨#[99, 114, 121, 112, 116, 58, 99, 40, 102, 115, 58, 103, 58, 41]⟩, .string ⟨#[112, 118, 58, 118, 58, 49, 47, 49, 40, 102, 115, 58, 102, 58, 44, 99, 114, 121, 112, 116, 58, 99, 40, 102, 115, 58, 104, 58, 41, 41]⟩, .string ⟨#[116, 97, 98, 108, 101, 58, 116, 40, 102, 115, 58, 102, 58, 44, 99, 114, 121, 112, 116, 58, 99, 40, 114, 97, 105, 100, 58, 114, 58, 49, 47, 50, 47, 49, 40, 102, 115, 58, 120, 58, 41, 41, 41]⟩, .string ⟨#[116, 97, 98, 108, 101, 58, 116, 40, 114, 97, 105, 100, 58, 114, 58, 49, 47, 50, 47, 49, 40, 116, 97, 98, 108, 101, 58, 117, 40, 102, 115, 58, 102, 58, 41, 41, 44, 114, 97, 105, 100, 58, 114, 58, 50, 47, 50, 47, 49, 40, 116, 97, 98, 108, 101, 58, 117, 40, 102, 115, 58, 102, 58, 41, 41, 41]⟩, .string ⟨#[114, 97, 105, 100, 58, 114, 58, 49, 47, 49, 47, 49, 40, 114, 97, 105, 100, 58, 114, 58, 49, 47, 49, 47, 49, 40, 102, 115, 58, 102, 58, 41, 41]⟩, .string ⟨#[112, 118, 58, 118, 58, 49, 47, 50, 40, 102, 115, 58, 102, 58, 41]⟩, .string ⟨#[112, 118, 58, 118, 58, 50, 47, 50, 40, 102, 115, 58, 102, 58, 41]⟩, .string ⟨#[99, 114, 121, 112, 116, 58, 100, 40, 112, 118, 58, 118, 58, 49, 47, 49, 40, 114, 97, 105, 100, 58, 115, 58, 49, 47, 51, 47, 50, 40, 102, 115, 58, 121, 58, 41, 41, 41]⟩, .string ⟨#[114, 97, 105, 100, 58, 115, 58, 50, 47, 51, 47, 50, 40, 102, 115, 58, 121, 58, 41]⟩, .string ⟨#[114, 97, 105, 100, 58, 115, 58, 51, 47, 51, 47, 50, 40, 102, 115, 58, 121, 58, 41]⟩, .string ⟨#[110, 111, 110, 115, 101, 110, 115, 101]⟩] := by kernel_rfl
theorem ContentsM_any (w : World) : Calls Tryz.prog 38 #[] w fun e w' => e = .returned (.slice (some ⟨w.heap.size, 0, none⟩) 16 16) ∧ Below w.heap.size w w' ∧ BoxL w' w.heap.size (contM.map Value.string) := by
 go_enter Tryz.func38, Tryz.ntmps38
 go_wp2
 go_ret
 refine ⟨rfl, (Below.refl _ _).alloc (Nat.le_refl _) _, ?_⟩
 rw [contM_cells]
 exact box_mk rfl
end Go.Proofs.YtehmidmoiamcfaaGreatDoor
namespace Go.Proofs.YtehmidmoiamcfaaGreatDoor
open Go.RowKit Go.Cold

end Go.Proofs.YtehmidmoiamcfaaGreatDoor
