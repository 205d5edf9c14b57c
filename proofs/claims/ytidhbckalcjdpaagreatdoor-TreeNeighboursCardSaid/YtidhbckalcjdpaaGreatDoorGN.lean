/-
  The walks of package tree: slices.Clone of attributes, copied, first, Find.
-/
import Derived.Test.YtidhbckalcjdpaaGreatDoorGL
import Derived.Lib.BufferMore
set_option linter.unusedSimpArgs false
set_option linter.unusedVariables false
namespace Go.Cold
open Go Go.RowKit
theorem OwnsS.attr {F F' : Nat → Prop} {w : World} {base : Nat} {e : TypeId} {v : Value} {xs : List Attr} (h : OwnsS F w base e v xs) : OwnsS F' w base e v xs := by
  obtain ⟨css, h1, h2, h3⟩ := h
  exact ⟨css, h1, h2, fun i x cs hx hcs => h3 i x cs hx hcs⟩
theorem owns_made (F : Nat → Prop) (w : World) {base : Nat} (T : TypeId) (α : Type) [RepS α] (hb : base ≤ w.heap.size) : OwnsS F (w.alloc (.cells #[] T)) base T (.slice (some ⟨w.heap.size, 0, none⟩) 0 0) ([] : List α) := by
  refine ⟨[], ⟨by simp, .inr ⟨w.heap.size, 0, #[], rfl, hb, ?_, Nat.le_refl _, by unfold maxLen; omega, by simp, by simp⟩⟩, rfl, fun i x cs h => by simp at h⟩
  show (w.heap.push _)[w.heap.size]? = _
  exact Array.getElem?_push_size
theorem SlS.set10 {α : Type} [RepS α] {w : World} {A : Option Addr} {c g : Nat} {xs : List α} {S : Nat → Prop} (h : SlS w S A c xs) (hS : ∀ x, S x → x ≠ g) (v0 v1 v2 v3 v4 v5 v6 v7 v8 v9 : Value) :
    SlS ((((((((((w.setCell ⟨g, 0, none⟩ v0).setCell ⟨g, 1, none⟩ v1).setCell ⟨g, 2, none⟩ v2).setCell ⟨g, 3, none⟩ v3).setCell ⟨g, 4, none⟩ v4).setCell ⟨g, 5, none⟩ v5).setCell ⟨g, 6, none⟩ v6).setCell ⟨g, 7, none⟩ v7).setCell ⟨g, 8, none⟩ v8).setCell ⟨g, 9, none⟩ v9) S A c xs :=
  (((((((((h.set_ hS v0).set_ hS v1).set_ hS v2).set_ hS v3).set_ hS v4).set_ hS v5).set_ hS v6).set_ hS v7).set_ hS v8).set_ hS v9
end Go.Cold
namespace Go.Proofs.YtidhbckalcjdpaaGreatDoor
open Go.RowKit Go.Cold
set_option maxRecDepth 100000 in
/-- slices.Clone of attributes. -/
theorem Clone_any (A : Option Addr) (c : Nat) (ys : List Attr) (w : World) (B : Nat) (hB : B ≤ w.heap.size) (hx : Sl w B A c ys) (hl : ys.length ≤ 1000000) : Calls Tryz.prog 104 #[.slice A ys.length c] w fun e w' => Below w.heap.size w w' ∧ ∃ v, e = .returned v ∧ OwnsS (fun _ => False) w' w.heap.size 96 v ys := by
  have hx1 := hx.1; have hx2 := hx.2.1
  unfold maxLen at hx2
  have HX := Lib.hid hx; have HB := Lib.hid hB; have HL := Lib.hid hl; clear hx hB hl
  rcases A with _ | A
  ·
    have h0 : ys = [] := by
        rcases ys with _ | ⟨y, r⟩
        · rfl
        · obtain ⟨b, o, e, _⟩ := HX.out.2.2 (by simp)
          cases e
    subst h0
    go_enter Tryz.func104, Tryz.ntmps104
    have hn := fun W => Lib.run_eql_slice_nil_nil (P := Tryz.prog) W 0 c Tryz.underlying32
    go_wp2
    go_ret
    exact ⟨Below.refl _ _, .slice none 0 0, by try rfl, OwnsS.nil_ _ _ _ _⟩
  ·
    go_enter Tryz.func104, Tryz.ntmps104
    have hn := fun W => Lib.run_eql_slice_some_nil (P := Tryz.prog) W A ys.length c Tryz.underlying32
    go_upto_region 3 with fail
    have HOWN0 := Lib.hid (owns_made (fun x => x < B) w (base := w.heap.size) 96 Attr (Nat.le_refl _))
    have hb1 : Below w.heap.size w (w.alloc (.cells #[] 96)) := (Below.refl _ _).alloc (Nat.le_refl _) _
    have HB1 := Lib.hid hb1; clear hb1
    have HSRC := Lib.hid (show SlS (w.alloc (.cells #[] 96)) (fun b => b < B ∧ b < (w.alloc (.cells #[] 96)).heap.size ∧ (Value.slice (some ⟨w.heap.size, 0, none⟩) 0 0).ownBlock ≠ some b) (some A) c ys from (SlS_iff.1 (HX.out.keep (HB1.out.mono HB.out))).mono (fun b hb => ⟨hb, by have := HB.out; have := HB1.out.size; omega, fun e => by have h1 : w.heap.size = b := Option.some.inj e; have := HB.out; have h2 : b < B := hb; omega⟩) (fun _ _ _ _ hu => hu))
    clear hx1 hx2 hn
    go_wp2_with (at_builtin; go_must (refine wpList_app rfl _ _ rfl (.slice (some ⟨w.heap.size, 0, none⟩) 0 0) _ rfl rfl (run_appL E_attr _ _ [] HOWN0.out (some A) c ys (.inl HSRC.out) (by have := HL.out; simp; unfold maxLen; omega) (by have := HL.out; simp; omega) HB1.out.size) ?_); intro v1 w1 hR_; have HR1 := Lib.hid hR_; clear hR_)
    obtain ⟨ho, hg, -⟩ := HR1.out
    rw [List.nil_append] at ho
    go_ret
    exact ⟨HB1.out.grown hg HB1.out.size (fun q hq => by have h1 : w.heap.size = q := Option.some.inj hq; omega), v1, by try rfl, ho.attr⟩
set_option maxRecDepth 100000 in
set_option maxHeartbeats 4000000 in
/-- tree.copied. -/
theorem copied_any (d : Dev) (A2 : Option Addr) (c2 : Nat) (w : World) (B : Nat) (hB : B ≤ w.heap.size) (hx : Sl w B A2 c2 d.attrs) (hl : d.attrs.length ≤ 1000000) : Calls Tryz.prog 66 #[.agg #[.int .i64 d.idx, .int .i64 d.par, .string d.nm, .string d.orig, .string d.sub, .string d.drv, .string d.ali, .int .i64 d.kind, .int .i64 d.num, .slice A2 d.attrs.length c2]] w fun e w' => Below w.heap.size w w' ∧ ∃ (A3 : Option Addr) (c3 : Nat), e = .returned (.agg #[.int .i64 d.idx, .int .i64 d.par, .string d.nm, .string d.orig, .string d.sub, .string d.drv, .string d.ali, .int .i64 d.kind, .int .i64 d.num, .slice A3 d.attrs.length c3]) ∧ SlS w' (fun b => w.heap.size ≤ b ∧ b < w'.heap.size) A3 c3 d.attrs := by
  have hzv := (zero_of_info (P := Tryz.prog) (t := 34) info_dev2).1
  have HX := Lib.hid hx; have HB := Lib.hid hB; have HL := Lib.hid hl; clear hx hB hl
  go_enter Tryz.func66, Tryz.ntmps66
  go_upto_region 1 with fail
  obtain ⟨w1, hw1⟩ : ∃ w1, w.alloc (.cells #[.int .i64 d.idx, .int .i64 d.par, .string d.nm, .string d.orig, .string d.sub, .string d.drv, .string d.ali, .int .i64 d.kind, .int .i64 d.num, .slice A2 d.attrs.length c2] 34) = w1 := ⟨_, rfl⟩
  have hbw1 : Below w.heap.size w w1 := by rw [← hw1]; exact (Below.refl _ _).alloc (Nat.le_refl _) _
  have HGw1 := Lib.hid (show w1.heap.size = w.heap.size + 1 by rw [← hw1]; simp)
  have HXdw1 := Lib.hid (show BoxL w1 w.heap.size [.int .i64 d.idx, .int .i64 d.par, .string d.nm, .string d.orig, .string d.sub, .string d.drv, .string d.ali, .int .i64 d.kind, .int .i64 d.num, .slice A2 d.attrs.length c2] from box_mk hw1)
  try simp only [hw1]
  have HSw1 := Lib.hid (show w.heap.size ≤ w1.heap.size from hbw1.size)
  have HBw1 := Lib.hid hbw1
  clear hw1 hbw1
  try rw [show w.heap.size + 1 = w1.heap.size from HGw1.out.symm]
  obtain ⟨w2, hw2⟩ : ∃ w2, w1.alloc (.cells #[.int .i64 0, .int .i64 0, .string ByteArray.empty, .string ByteArray.empty, .string ByteArray.empty, .string ByteArray.empty, .string ByteArray.empty, .int .i64 0, .int .i64 0, .slice none 0 0] 34) = w2 := ⟨_, rfl⟩
  have hbw2 : Below w1.heap.size w1 w2 := by rw [← hw2]; exact (Below.refl _ _).alloc (Nat.le_refl _) _
  have HGw2 := Lib.hid (show w2.heap.size = w1.heap.size + 1 by rw [← hw2]; simp)
  have HXrw2 := Lib.hid (show BoxL w2 w1.heap.size [.int .i64 0, .int .i64 0, .string ByteArray.empty, .string ByteArray.empty, .string ByteArray.empty, .string ByteArray.empty, .string ByteArray.empty, .int .i64 0, .int .i64 0, .slice none 0 0] from box_mk hw2)
  try simp only [hw2]
  have HSw2 := Lib.hid (show w1.heap.size ≤ w2.heap.size from hbw2.size)
  have HBw2 := Lib.hid (HBw1.out.trans (hbw2.mono HBw1.out.size))
  have dw2 := Lib.hid (HXdw1.out.kept (grown_none hbw2) (fun e => by cases e))
  clear hw2 hbw2
  try rw [show w1.heap.size + 1 = w2.heap.size from HGw2.out.symm]
  have cd0 := dw2.out.1 0 _ rfl
  have cd1 := dw2.out.1 1 _ rfl
  have cd2 := dw2.out.1 2 _ rfl
  have cd3 := dw2.out.1 3 _ rfl
  have cd4 := dw2.out.1 4 _ rfl
  have cd5 := dw2.out.1 5 _ rfl
  have cd6 := dw2.out.1 6 _ rfl
  have cd7 := dw2.out.1 7 _ rfl
  have cd8 := dw2.out.1 8 _ rfl
  have cd9 := dw2.out.1 9 _ rfl
  have cfd := dw2.out.2.1
  have cr0 := HXrw2.out.1 0 _ rfl
  have cr1 := HXrw2.out.1 1 _ rfl
  have cr2 := HXrw2.out.1 2 _ rfl
  have cr3 := HXrw2.out.1 3 _ rfl
  have cr4 := HXrw2.out.1 4 _ rfl
  have cr5 := HXrw2.out.1 5 _ rfl
  have cr6 := HXrw2.out.1 6 _ rfl
  have cr7 := HXrw2.out.1 7 _ rfl
  have cr8 := HXrw2.out.1 8 _ rfl
  have cr9 := HXrw2.out.1 9 _ rfl
  have cfr := HXrw2.out.2.1
  go_wp2_with fail
  refine (Clone_any A2 c2 d.attrs _ B (Nat.le_trans HB.out HBw2.out.size) (HX.out.keep (HBw2.out.mono HB.out)) HL.out).mono ?_
  rintro e w3 ⟨hbw3, v, rfl, hown⟩
  clear cd0 cd1 cd2 cd3 cd4 cd5 cd6 cd7 cd8 cd9 cfd cr0 cr1 cr2 cr3 cr4 cr5 cr6 cr7 cr8 cr9 cfr
  have HSw3 := Lib.hid (show w2.heap.size ≤ w3.heap.size from hbw3.size)
  have HBw3 := Lib.hid (HBw2.out.trans (hbw3.mono HBw2.out.size))
  have dw3 := Lib.hid (dw2.out.kept (grown_none hbw3) (fun e => by cases e))
  have rw3 := Lib.hid (HXrw2.out.kept (grown_none hbw3) (fun e => by cases e))
  clear hbw3
  have cd0 := dw3.out.1 0 _ rfl
  have cd1 := dw3.out.1 1 _ rfl
  have cd2 := dw3.out.1 2 _ rfl
  have cd3 := dw3.out.1 3 _ rfl
  have cd4 := dw3.out.1 4 _ rfl
  have cd5 := dw3.out.1 5 _ rfl
  have cd6 := dw3.out.1 6 _ rfl
  have cd7 := dw3.out.1 7 _ rfl
  have cd8 := dw3.out.1 8 _ rfl
  have cd9 := dw3.out.1 9 _ rfl
  have cfd := dw3.out.2.1
  have cr0 := rw3.out.1 0 _ rfl
  have cr1 := rw3.out.1 1 _ rfl
  have cr2 := rw3.out.1 2 _ rfl
  have cr3 := rw3.out.1 3 _ rfl
  have cr4 := rw3.out.1 4 _ rfl
  have cr5 := rw3.out.1 5 _ rfl
  have cr6 := rw3.out.1 6 _ rfl
  have cr7 := rw3.out.1 7 _ rfl
  have cr8 := rw3.out.1 8 _ rfl
  have cr9 := rw3.out.1 9 _ rfl
  have cfr := rw3.out.2.1
  obtain ⟨A3, c3, rfl, hsl⟩ := hown.cs
  have HSL := Lib.hid (show SlS w3 (fun b => w2.heap.size ≤ b ∧ b < w3.heap.size) A3 c3 d.attrs from hsl.mono (fun b hb => ⟨hb.1.elim (fun h => h.elim) id, hb.2⟩) (fun _ _ _ _ hu => hu))
  clear hown hsl
  have HN1 := Lib.hid (show ∀ x, (w2.heap.size ≤ x ∧ x < w3.heap.size) → x ≠ w.heap.size from fun x hx => by have := HGw1.out; have := HGw2.out; omega)
  have HN2 := Lib.hid (show ∀ x, (w2.heap.size ≤ x ∧ x < w3.heap.size) → x ≠ w1.heap.size from fun x hx => by have := HGw2.out; omega)
  have hne : w.heap.size ≠ w1.heap.size := by have := HGw1.out; omega
  go_wp2
  refine bodyPost_ret (v := .agg #[.int .i64 d.idx, .int .i64 d.par, .string d.nm, .string d.orig, .string d.sub, .string d.drv, .string d.ali, .int .i64 d.kind, .int .i64 d.num, .slice A3 d.attrs.length c3]) (by simp [results, Tryz.results66, go_sem, cr0, cr1, cr2, cr3, cr4, cr5, cr6, cr7, cr8, cr9, cfr, hne]) rfl ⟨below10 (HBw3.out.setCell (Nat.le_refl _) _) (by have := HGw1.out; omega) _ _ _ _ _ _ _ _ _ _, A3, c3, rfl, ((HSL.out.set_ HN1.out _).set10 HN2.out _ _ _ _ _ _ _ _ _ _).mono (fun b hb => ⟨by have := HGw1.out; have := HGw2.out; omega, by simpa using hb.2⟩) (fun _ _ _ _ hu => hu)⟩
end Go.Proofs.YtidhbckalcjdpaaGreatDoor
namespace Go.Cold
open Go Go.RowKit
theorem find_idx2 {p : Dev → Bool} : ∀ L : List Dev, (idxInt p L = -1 ∧ L.find? p = none) ∨ ∃ (k : Nat) (y : Dev), idxInt p L = (k : Int) ∧ L[k]? = some y ∧ L.find? p = some y
  | [] => .inl ⟨rfl, rfl⟩
  | d :: r => by
    by_cases hd : p d = true
    · exact .inr ⟨0, d, by unfold idxInt; rw [List.findIdx?_cons, if_pos hd], rfl, by rw [List.find?_cons_of_pos hd]⟩
    · have hd2 : p d = false := by simpa using hd
      have hi : ∀ i, r.findIdx? p = i → idxInt p (d :: r) = match i with | some j => ((j + 1 : Nat) : Int) | none => -1 := by
        intro i hri
        unfold idxInt
        rw [List.findIdx?_cons, if_neg (by simp [hd2]), hri]
        cases i <;> rfl
      rcases find_idx2 r with ⟨h1, h2⟩ | ⟨k, y, h1, h2, h3⟩
      · left
        refine ⟨?_, by rw [List.find?_cons_of_neg (by simp [hd2]), h2]⟩
        cases hri : r.findIdx? p with
        | none => rw [hi _ hri]
        | some j => unfold idxInt at h1; rw [hri] at h1; simp only at h1; omega
      · right
        refine ⟨k + 1, y, ?_, by simpa using h2, by rw [List.find?_cons_of_neg (by simp [hd2]), h3]⟩
        cases hri : r.findIdx? p with
        | none => unfold idxInt at h1; rw [hri] at h1; simp only at h1; omega
        | some j =>
          rw [hi _ hri]
          unfold idxInt at h1; rw [hri] at h1
          simp only at h1 ⊢
          omega
/-- What the finders of package tree answer: nothing that the tree shares. -/
def FirstP (p : Dev → Bool) (L : List Dev) (w : World) (e : Ending) (w' : World) : Prop := Below w.heap.size w w' ∧ ∃ (d : Dev) (A3 : Option Addr) (c3 : Nat), d = (L.find? p).getD zeroD ∧ e = .returned (.tuple #[.agg #[.int .i64 d.idx, .int .i64 d.par, .string d.nm, .string d.orig, .string d.sub, .string d.drv, .string d.ali, .int .i64 d.kind, .int .i64 d.num, .slice A3 d.attrs.length c3], .bool (L.find? p).isSome]) ∧ devOk d ∧ SlS w' (fun b => w.heap.size ≤ b ∧ b < w'.heap.size) A3 c3 d.attrs
/-- What the reference's finders answer. -/
def FirstR (p : Dev → Bool) (L : List Dev) (B : Nat) (w : World) (e : Ending) (w' : World) : Prop := Below w.heap.size w w' ∧ ∃ (d : Dev) (A3 : Option Addr) (c3 : Nat), d = (L.find? p).getD zeroD ∧ e = .returned (.tuple #[.agg #[.int .i64 d.idx, .int .i64 d.par, .string d.nm, .string d.orig, .string d.sub, .string d.drv, .string d.ali, .int .i64 d.kind, .int .i64 d.num, .slice A3 d.attrs.length c3], .bool (L.find? p).isSome]) ∧ devOk d ∧ Sl w' B A3 c3 d.attrs
def byIdx (n : Int) (d : Dev) : Bool := decide (d.idx = n)
def byOrg (L : List Dev) (s : ByteArray) (d : Dev) : Bool := decide (strF L d.idx = s)
def byNet (s : ByteArray) (d : Dev) : Bool := decide (d.kind = 4) && decide (d.nm = s)
def byNode (s : ByteArray) (d : Dev) : Bool := (nodeD d).isSome && decide (nodeV d = s)
end Go.Cold
namespace Go.Proofs.YtidhbckalcjdpaaGreatDoor
open Go.RowKit Go.Cold
set_option maxRecDepth 100000 in
set_option maxHeartbeats 4000000 in
/-- tree.first. -/
theorem first_any (A : Option Addr) (c : Nat) (L : List Dev) (f : FuncId) (caps : Array Value) (Q : Dev → Prop) (p : Dev → Bool) (w : World) (B : Nat) (hB : B ≤ w.heap.size) (hx : Sl w B A c L) (hp : PredD f caps w B Q p) (hq : ∀ d ∈ L, Q d) (hl : ∀ d ∈ L, d.attrs.length ≤ 1000000) :
    Calls Tryz.prog 67 #[.agg #[.slice A L.length c], .func (.func f) #[] caps] w (FirstP p L w) := by
  have hzv := (zero_of_info (P := Tryz.prog) (t := 34) info_dev2).1
  have hx1 := hx.1; have hx2 := hx.2.1
  unfold maxLen at hx2
  have HX := Lib.hid hx; have HB := Lib.hid hB; have HP := Lib.hid hp; have HQ := Lib.hid hq; have HL := Lib.hid hl; clear hx hB hp hq hl
  go_enter Tryz.func67, Tryz.ntmps67
  go_upto_region 1 with fail
  obtain ⟨w1, hw1⟩ : ∃ w1, w.alloc (.cells #[.slice A L.length c] 29) = w1 := ⟨_, rfl⟩
  have hbw1 : Below w.heap.size w w1 := by rw [← hw1]; exact (Below.refl _ _).alloc (Nat.le_refl _) _
  have HGw1 := Lib.hid (show w1.heap.size = w.heap.size + 1 by rw [← hw1]; simp)
  have HXtw1 := Lib.hid (show BoxL w1 w.heap.size [.slice A L.length c] from box_mk hw1)
  try simp only [hw1]
  have HSw1 := Lib.hid (show w.heap.size ≤ w1.heap.size from hbw1.size)
  have HBw1 := Lib.hid hbw1
  clear hw1 hbw1
  try rw [show w.heap.size + 1 = w1.heap.size from HGw1.out.symm]
  obtain ⟨w2, hw2⟩ : ∃ w2, w1.alloc (.cells #[.int .i64 0, .int .i64 0, .string ByteArray.empty, .string ByteArray.empty, .string ByteArray.empty, .string ByteArray.empty, .string ByteArray.empty, .int .i64 0, .int .i64 0, .slice none 0 0] 34) = w2 := ⟨_, rfl⟩
  have hbw2 : Below w1.heap.size w1 w2 := by rw [← hw2]; exact (Below.refl _ _).alloc (Nat.le_refl _) _
  have HGw2 := Lib.hid (show w2.heap.size = w1.heap.size + 1 by rw [← hw2]; simp)
  have HXrw2 := Lib.hid (show BoxL w2 w1.heap.size [.int .i64 0, .int .i64 0, .string ByteArray.empty, .string ByteArray.empty, .string ByteArray.empty, .string ByteArray.empty, .string ByteArray.empty, .int .i64 0, .int .i64 0, .slice none 0 0] from box_mk hw2)
  try simp only [hw2]
  have HSw2 := Lib.hid (show w1.heap.size ≤ w2.heap.size from hbw2.size)
  have HBw2 := Lib.hid (HBw1.out.trans (hbw2.mono HBw1.out.size))
  have tw2 := Lib.hid (HXtw1.out.kept (grown_none hbw2) (fun e => by cases e))
  clear hw2 hbw2
  try rw [show w1.heap.size + 1 = w2.heap.size from HGw2.out.symm]
  have ct0 := tw2.out.1 0 _ rfl
  have cr0 := HXrw2.out.1 0 _ rfl
  have cr1 := HXrw2.out.1 1 _ rfl
  have cr2 := HXrw2.out.1 2 _ rfl
  have cr3 := HXrw2.out.1 3 _ rfl
  have cr4 := HXrw2.out.1 4 _ rfl
  have cr5 := HXrw2.out.1 5 _ rfl
  have cr6 := HXrw2.out.1 6 _ rfl
  have cr7 := HXrw2.out.1 7 _ rfl
  have cr8 := HXrw2.out.1 8 _ rfl
  have cr9 := HXrw2.out.1 9 _ rfl
  have cfr := HXrw2.out.2.1
  go_wp2_with fail
  refine (IndexFuncD_any A c L f caps Q p _ B (Nat.le_trans HB.out HBw2.out.size) (HX.out.keep (HBw2.out.mono HB.out)) (HP.out.next HBw2.out) HQ.out).mono ?_
  rintro e w3 ⟨rfl, hbw3⟩
  clear ct0 cr0 cr1 cr2 cr3 cr4 cr5 cr6 cr7 cr8 cr9 cfr
  have HSw3 := Lib.hid (show w2.heap.size ≤ w3.heap.size from hbw3.size)
  have HBw3 := Lib.hid (HBw2.out.trans (hbw3.mono HBw2.out.size))
  have tw3 := Lib.hid (tw2.out.kept (grown_none hbw3) (fun e => by cases e))
  have rw3 := Lib.hid (HXrw2.out.kept (grown_none hbw3) (fun e => by cases e))
  clear hbw3
  have ct0 := tw3.out.1 0 _ rfl
  have cr0 := rw3.out.1 0 _ rfl
  have cr1 := rw3.out.1 1 _ rfl
  have cr2 := rw3.out.1 2 _ rfl
  have cr3 := rw3.out.1 3 _ rfl
  have cr4 := rw3.out.1 4 _ rfl
  have cr5 := rw3.out.1 5 _ rfl
  have cr6 := rw3.out.1 6 _ rfl
  have cr7 := rw3.out.1 7 _ rfl
  have cr8 := rw3.out.1 8 _ rfl
  have cr9 := rw3.out.1 9 _ rfl
  have cfr := rw3.out.2.1
  have hzv := (zero_of_info (P := Tryz.prog) (t := 34) info_dev2).1
  rcases find_idx2 (p := p) L with ⟨h1, h2⟩ | ⟨k, y, h1, h2, h3⟩
  ·
    rw [h1]
    have HF := Lib.hid h2
    clear h1 h2
    go_wp2
    refine bodyPost_ret (v := .tuple #[.agg #[.int .i64 0, .int .i64 0, .string ByteArray.empty, .string ByteArray.empty, .string ByteArray.empty, .string ByteArray.empty, .string ByteArray.empty, .int .i64 0, .int .i64 0, .slice none 0 0], .bool false]) (by simp [results, Tryz.results67, go_sem, cr0, cr1, cr2, cr3, cr4, cr5, cr6, cr7, cr8, cr9, cfr]) rfl ⟨below10 HBw3.out (by have := HGw1.out; omega) _ _ _ _ _ _ _ _ _ _, zeroD, none, 0, by rw [HF.out]; rfl, by rw [HF.out]; rfl, zero_ok, SlS.nil_⟩
  ·
    have hk : k < L.length := (List.getElem?_eq_some_iff.1 h2).1
    have hky : L[k]'hk = y := (List.getElem?_eq_some_iff.1 h2).2
    rw [h1]
    have HF := Lib.hid h3; have HM := Lib.hid (List.mem_of_getElem? h2)
    clear h1 h2 h3
    have i1 : (k : Int) < (L.length : Int) := by omega
    have i2 : (0 : Int) ≤ (k : Int) := by omega
    have i3 : ¬ (k : Int) < 0 := by omega
    obtain ⟨b3, o3, rfl, hb3, A2, c2, hok3, hat3, hdc⟩ := (HX.out.keep (HBw3.out.mono HB.out)).dev hk
    rw [hky] at hok3 hat3 hdc
    have HOK := Lib.hid hok3; have HAT := Lib.hid hat3
    obtain ⟨d0, d1, d2, d3, d4, d5, d6, d7, d8, d9⟩ := hdc
    clear hok3 hat3 hky hb3
    go_wp2_with fail
    refine (copied_any y A2 c2 _ B (Nat.le_trans HB.out HBw3.out.size) HAT.out (HL.out y HM.out)).mono ?_
    rintro e w4 ⟨hbw4, A3, c3, rfl, hsl⟩
    clear ct0 cr0 cr1 cr2 cr3 cr4 cr5 cr6 cr7 cr8 cr9 cfr
    have HSw4 := Lib.hid (show w3.heap.size ≤ w4.heap.size from hbw4.size)
    have HBw4 := Lib.hid (HBw3.out.trans (hbw4.mono HBw3.out.size))
    have tw4 := Lib.hid (tw3.out.kept (grown_none hbw4) (fun e => by cases e))
    have rw4 := Lib.hid (rw3.out.kept (grown_none hbw4) (fun e => by cases e))
    clear hbw4
    clear d0 d1 d2 d3 d4 d5 d6 d7 d8 d9
    have ct0 := tw4.out.1 0 _ rfl
    have cr0 := rw4.out.1 0 _ rfl
    have cr1 := rw4.out.1 1 _ rfl
    have cr2 := rw4.out.1 2 _ rfl
    have cr3 := rw4.out.1 3 _ rfl
    have cr4 := rw4.out.1 4 _ rfl
    have cr5 := rw4.out.1 5 _ rfl
    have cr6 := rw4.out.1 6 _ rfl
    have cr7 := rw4.out.1 7 _ rfl
    have cr8 := rw4.out.1 8 _ rfl
    have cr9 := rw4.out.1 9 _ rfl
    have cfr := rw4.out.2.1
    have HSL := Lib.hid hsl; clear hsl
    have HN2 := Lib.hid (show ∀ x, (w3.heap.size ≤ x ∧ x < w4.heap.size) → x ≠ w1.heap.size from fun x hx => by have := HGw2.out; have := HSw3.out; omega)
    go_wp2
    refine bodyPost_ret (v := .tuple #[.agg #[.int .i64 y.idx, .int .i64 y.par, .string y.nm, .string y.orig, .string y.sub, .string y.drv, .string y.ali, .int .i64 y.kind, .int .i64 y.num, .slice A3 y.attrs.length c3], .bool true]) (by simp [results, Tryz.results67, go_sem, cr0, cr1, cr2, cr3, cr4, cr5, cr6, cr7, cr8, cr9, cfr]) rfl ⟨below10 HBw4.out (by have := HGw1.out; omega) _ _ _ _ _ _ _ _ _ _, y, A3, c3, by rw [HF.out]; rfl, by rw [HF.out]; rfl, HOK.out, ((HSL.out.set10 HN2.out _ _ _ _ _ _ _ _ _ _).mono (fun b hb => ⟨by have := HGw1.out; have := HGw2.out; have := HSw3.out; omega, by simpa using hb.2⟩) (fun _ _ _ _ hu => hu))⟩
set_option maxRecDepth 100000 in
theorem find1_pred (g : Nat) (n : Int) (w : World) (B : Nat) (hv : BoxL w g [.int .i64 n]) :
    PredD 68 #[.pointer (some ⟨g, 0, none⟩)] w B (fun _ => True) (byIdx n) := by
  refine ⟨enters_of Tryz.func68 (by kernel_rfl) rfl, fun x A2 c2 W hxo hat hq hW => ?_⟩
  have HV := Lib.hid (hv.kept (grown_none hW) (fun e => by cases e)); clear hv hxo hat hq hW
  go_enter Tryz.func68, Tryz.ntmps68
  go_upto_region 1 with fail
  obtain ⟨w1, hw1⟩ : ∃ w1, W.alloc (.cells #[.int .i64 x.idx, .int .i64 x.par, .string x.nm, .string x.orig, .string x.sub, .string x.drv, .string x.ali, .int .i64 x.kind, .int .i64 x.num, .slice A2 x.attrs.length c2] 34) = w1 := ⟨_, rfl⟩
  have hbw1 : Below W.heap.size W w1 := by rw [← hw1]; exact (Below.refl _ _).alloc (Nat.le_refl _) _
  have HGw1 := Lib.hid (show w1.heap.size = W.heap.size + 1 by rw [← hw1]; simp)
  have HXxw1 := Lib.hid (show BoxL w1 W.heap.size [.int .i64 x.idx, .int .i64 x.par, .string x.nm, .string x.orig, .string x.sub, .string x.drv, .string x.ali, .int .i64 x.kind, .int .i64 x.num, .slice A2 x.attrs.length c2] from box_mk hw1)
  try simp only [hw1]
  have HSw1 := Lib.hid (show W.heap.size ≤ w1.heap.size from hbw1.size)
  have HBw1 := Lib.hid hbw1
  have vw1 := Lib.hid (HV.out.kept (grown_none hbw1) (fun e => by cases e))
  clear hw1 hbw1
  try rw [show W.heap.size + 1 = w1.heap.size from HGw1.out.symm]
  have cv0 := vw1.out.1 0 _ rfl
  have cx0 := HXxw1.out.1 0 _ rfl
  go_wp2
  go_ret
  exact ⟨by try rfl, HBw1.out⟩
set_option maxRecDepth 100000 in
theorem interface1_pred (g : Nat) (s : ByteArray) (w : World) (B : Nat) (hv : BoxL w g [.string s]) :
    PredD 78 #[.pointer (some ⟨g, 0, none⟩)] w B (fun _ => True) (byNet s) := by
  refine ⟨enters_of Tryz.func78 (by kernel_rfl) rfl, fun x A2 c2 W hxo hat hq hW => ?_⟩
  have HV := Lib.hid (hv.kept (grown_none hW) (fun e => by cases e)); clear hv hxo hat hq hW
  go_enter Tryz.func78, Tryz.ntmps78
  go_upto_region 1 with fail
  obtain ⟨w1, hw1⟩ : ∃ w1, W.alloc (.cells #[.int .i64 x.idx, .int .i64 x.par, .string x.nm, .string x.orig, .string x.sub, .string x.drv, .string x.ali, .int .i64 x.kind, .int .i64 x.num, .slice A2 x.attrs.length c2] 34) = w1 := ⟨_, rfl⟩
  have hbw1 : Below W.heap.size W w1 := by rw [← hw1]; exact (Below.refl _ _).alloc (Nat.le_refl _) _
  have HGw1 := Lib.hid (show w1.heap.size = W.heap.size + 1 by rw [← hw1]; simp)
  have HXxw1 := Lib.hid (show BoxL w1 W.heap.size [.int .i64 x.idx, .int .i64 x.par, .string x.nm, .string x.orig, .string x.sub, .string x.drv, .string x.ali, .int .i64 x.kind, .int .i64 x.num, .slice A2 x.attrs.length c2] from box_mk hw1)
  try simp only [hw1]
  have HSw1 := Lib.hid (show W.heap.size ≤ w1.heap.size from hbw1.size)
  have HBw1 := Lib.hid hbw1
  have vw1 := Lib.hid (HV.out.kept (grown_none hbw1) (fun e => by cases e))
  clear hw1 hbw1
  try rw [show W.heap.size + 1 = w1.heap.size from HGw1.out.symm]
  have cv0 := vw1.out.1 0 _ rfl
  have cx2 := HXxw1.out.1 2 _ rfl
  have cx7 := HXxw1.out.1 7 _ rfl
  by_cases hk : x.kind = 4
  ·
    have ek : (x.kind == 4) = true := by rw [hk]; rfl
    have HR := Lib.hid (show byNet s x = (x.nm.toList == s.toList) by unfold byNet; rw [ba_beq, hk]; rfl)
    clear hk
    go_wp2
    go_ret
    exact ⟨by rw [HR.out]; try rfl, HBw1.out⟩
  ·
    have ek : (x.kind == 4) = false := by simpa using hk
    have HR := Lib.hid (show byNet s x = false by unfold byNet; rw [decide_eq_false hk]; rfl)
    clear hk
    go_wp2
    go_ret
    exact ⟨by rw [HR.out]; try rfl, HBw1.out⟩
set_option maxRecDepth 100000 in
theorem node1_pred (g : Nat) (s : ByteArray) (w : World) (B : Nat) (hv : BoxL w g [.string s]) (hok : Ok w) :
    PredD 79 #[.pointer (some ⟨g, 0, none⟩)] w B (fun x => x.orig.size ≤ 4294967280) (byNode s) := by
  refine ⟨enters_of Tryz.func79 (by kernel_rfl) rfl, fun x A2 c2 W hxo hat hq hW => ?_⟩
  have hok2 := hok.next hW; have HOK := Lib.hid hok2; have HQ := Lib.hid hq; clear hok hok2
  have HV := Lib.hid (hv.kept (grown_none hW) (fun e => by cases e)); clear hv hxo hat hq hW
  go_enter Tryz.func79, Tryz.ntmps79
  go_upto_region 1 with fail
  obtain ⟨w1, hw1⟩ : ∃ w1, W.alloc (.cells #[.int .i64 x.idx, .int .i64 x.par, .string x.nm, .string x.orig, .string x.sub, .string x.drv, .string x.ali, .int .i64 x.kind, .int .i64 x.num, .slice A2 x.attrs.length c2] 34) = w1 := ⟨_, rfl⟩
  have hbw1 : Below W.heap.size W w1 := by rw [← hw1]; exact (Below.refl _ _).alloc (Nat.le_refl _) _
  have HGw1 := Lib.hid (show w1.heap.size = W.heap.size + 1 by rw [← hw1]; simp)
  have HXxw1 := Lib.hid (show BoxL w1 W.heap.size [.int .i64 x.idx, .int .i64 x.par, .string x.nm, .string x.orig, .string x.sub, .string x.drv, .string x.ali, .int .i64 x.kind, .int .i64 x.num, .slice A2 x.attrs.length c2] from box_mk hw1)
  try simp only [hw1]
  have HSw1 := Lib.hid (show W.heap.size ≤ w1.heap.size from hbw1.size)
  have HBw1 := Lib.hid hbw1
  have vw1 := Lib.hid (HV.out.kept (grown_none hbw1) (fun e => by cases e))
  clear hw1 hbw1
  try rw [show W.heap.size + 1 = w1.heap.size from HGw1.out.symm]
  have cv0 := vw1.out.1 0 _ rfl
  have cx0 := HXxw1.out.1 0 _ rfl
  have cx1 := HXxw1.out.1 1 _ rfl
  have cx2 := HXxw1.out.1 2 _ rfl
  have cx3 := HXxw1.out.1 3 _ rfl
  have cx4 := HXxw1.out.1 4 _ rfl
  have cx5 := HXxw1.out.1 5 _ rfl
  have cx6 := HXxw1.out.1 6 _ rfl
  have cx7 := HXxw1.out.1 7 _ rfl
  have cx8 := HXxw1.out.1 8 _ rfl
  have cx9 := HXxw1.out.1 9 _ rfl
  go_wp2_with fail
  refine (Node_any x A2 c2 _ (by have := HQ.out; omega) (HOK.out.next HBw1.out)).mono ?_
  rintro e w2 ⟨rfl, hbw2⟩
  clear cv0 cx0 cx1 cx2 cx3 cx4 cx5 cx6 cx7 cx8 cx9
  have HSw2 := Lib.hid (show w1.heap.size ≤ w2.heap.size from hbw2.size)
  have HBw2 := Lib.hid (HBw1.out.trans (hbw2.mono HBw1.out.size))
  have vw2 := Lib.hid (vw1.out.kept (grown_none hbw2) (fun e => by cases e))
  have xw2 := Lib.hid (HXxw1.out.kept (grown_none hbw2) (fun e => by cases e))
  clear hbw2
  have cv0 := vw2.out.1 0 _ rfl
  have HR := Lib.hid (show byNode s x = ((nodeD x).isSome && (nodeV x).toList == s.toList) by unfold byNode; rw [ba_beq])
  obtain ⟨u, hu⟩ : ∃ u, nodeV x = u := ⟨_, rfl⟩
  obtain ⟨q, hq⟩ : ∃ q, (nodeD x).isSome = q := ⟨_, rfl⟩
  rw [hu, hq] at HR ⊢
  clear hu hq
  cases q with
  | true =>
    go_wp2
    go_ret
    exact ⟨by rw [HR.out]; try rfl, HBw2.out⟩
  | false =>
    go_wp2
    go_ret
    exact ⟨by rw [HR.out]; try rfl, HBw2.out⟩
set_option maxRecDepth 100000 in
theorem at1_pred (A : Option Addr) (c bp bo N g go : Nat) (L : List Dev) (s : ByteArray) (w : World) (B : Nat) (hv : BoxL w g [.slice A L.length c, .map (some bp), .map (some bo)]) (ho : BoxL w go [.string s]) (hm : MapV Tryz.prog 3 9 w bo N (orgM L)) :
    PredD 77 #[.pointer (some ⟨g, 0, none⟩), .pointer (some ⟨go, 0, none⟩)] w B (fun _ => True) (byOrg L s) := by
  refine ⟨enters_of Tryz.func77 (by kernel_rfl) rfl, fun x A2 c2 W hxo hat hq hW => ?_⟩
  have HO := Lib.hid hxo; have HM := Lib.hid (hm.next hW); have HV := Lib.hid (hv.kept (grown_none hW) (fun e => by cases e)); have HG := Lib.hid (ho.kept (grown_none hW) (fun e => by cases e)); clear hv ho hm hxo hat hq hW
  go_enter Tryz.func77, Tryz.ntmps77
  go_upto_region 1 with fail
  obtain ⟨w1, hw1⟩ : ∃ w1, W.alloc (.cells #[.int .i64 x.idx, .int .i64 x.par, .string x.nm, .string x.orig, .string x.sub, .string x.drv, .string x.ali, .int .i64 x.kind, .int .i64 x.num, .slice A2 x.attrs.length c2] 34) = w1 := ⟨_, rfl⟩
  have hbw1 : Below W.heap.size W w1 := by rw [← hw1]; exact (Below.refl _ _).alloc (Nat.le_refl _) _
  have HGw1 := Lib.hid (show w1.heap.size = W.heap.size + 1 by rw [← hw1]; simp)
  have HXxw1 := Lib.hid (show BoxL w1 W.heap.size [.int .i64 x.idx, .int .i64 x.par, .string x.nm, .string x.orig, .string x.sub, .string x.drv, .string x.ali, .int .i64 x.kind, .int .i64 x.num, .slice A2 x.attrs.length c2] from box_mk hw1)
  try simp only [hw1]
  have HSw1 := Lib.hid (show W.heap.size ≤ w1.heap.size from hbw1.size)
  have HBw1 := Lib.hid hbw1
  have vw1 := Lib.hid (HV.out.kept (grown_none hbw1) (fun e => by cases e))
  have ow1 := Lib.hid (HG.out.kept (grown_none hbw1) (fun e => by cases e))
  have HMw1 := Lib.hid (HM.out.next hbw1)
  clear hw1 hbw1
  try rw [show W.heap.size + 1 = w1.heap.size from HGw1.out.symm]
  have cv2 := vw1.out.1 2 _ rfl
  have co0 := ow1.out.1 0 _ rfl
  have cx0 := HXxw1.out.1 0 _ rfl
  have hlk := look_str HMw1.out HO.out.1
  rw [orgM_str] at hlk
  have HR := Lib.hid (show byOrg L s x = ((strF L x.idx).toList == s.toList) by unfold byOrg; rw [ba_beq])
  obtain ⟨u, hu⟩ : ∃ u, strF L x.idx = u := ⟨_, rfl⟩
  rw [hu] at hlk HR
  clear hu
  go_wp2
  go_ret
  exact ⟨by rw [HR.out]; try rfl, HBw1.out⟩
set_option maxRecDepth 100000 in
set_option maxHeartbeats 4000000 in
/-- coldplug/tree.Find. -/
theorem TFind_any (A : Option Addr) (c : Nat) (L : List Dev) (n : Int) (w : World) (B : Nat) (hB : B ≤ w.heap.size) (hx : Sl w B A c L) (hl : ∀ d ∈ L, d.attrs.length ≤ 1000000) :
    Calls Tryz.prog 21 #[.agg #[.slice A L.length c], .int .i64 n] w (FirstP (byIdx n) L w) := by
  have hzv := (zero_of_info (P := Tryz.prog) (t := 34) info_dev2).1
  have HX := Lib.hid hx; have HB := Lib.hid hB; have HL := Lib.hid hl; clear hx hB hl
  go_enter Tryz.func21, Tryz.ntmps21
  go_upto_region 1 with fail
  obtain ⟨w1, hw1⟩ : ∃ w1, w.alloc (.cells #[.slice A L.length c] 29) = w1 := ⟨_, rfl⟩
  have hbw1 : Below w.heap.size w w1 := by rw [← hw1]; exact (Below.refl _ _).alloc (Nat.le_refl _) _
  have HGw1 := Lib.hid (show w1.heap.size = w.heap.size + 1 by rw [← hw1]; simp)
  have HXtw1 := Lib.hid (show BoxL w1 w.heap.size [.slice A L.length c] from box_mk hw1)
  try simp only [hw1]
  have HSw1 := Lib.hid (show w.heap.size ≤ w1.heap.size from hbw1.size)
  have HBw1 := Lib.hid hbw1
  clear hw1 hbw1
  try rw [show w.heap.size + 1 = w1.heap.size from HGw1.out.symm]
  obtain ⟨w2, hw2⟩ : ∃ w2, w1.alloc (.cells #[.int .i64 n] 3) = w2 := ⟨_, rfl⟩
  have hbw2 : Below w1.heap.size w1 w2 := by rw [← hw2]; exact (Below.refl _ _).alloc (Nat.le_refl _) _
  have HGw2 := Lib.hid (show w2.heap.size = w1.heap.size + 1 by rw [← hw2]; simp)
  have HXaw2 := Lib.hid (show BoxL w2 w1.heap.size [.int .i64 n] from box_mk hw2)
  try simp only [hw2]
  have HSw2 := Lib.hid (show w1.heap.size ≤ w2.heap.size from hbw2.size)
  have HBw2 := Lib.hid (HBw1.out.trans (hbw2.mono HBw1.out.size))
  have tw2 := Lib.hid (HXtw1.out.kept (grown_none hbw2) (fun e => by cases e))
  clear hw2 hbw2
  try rw [show w1.heap.size + 1 = w2.heap.size from HGw2.out.symm]
  obtain ⟨w3, hw3⟩ : ∃ w3, w2.alloc (.cells #[.int .i64 0, .int .i64 0, .string ByteArray.empty, .string ByteArray.empty, .string ByteArray.empty, .string ByteArray.empty, .string ByteArray.empty, .int .i64 0, .int .i64 0, .slice none 0 0] 34) = w3 := ⟨_, rfl⟩
  have hbw3 : Below w2.heap.size w2 w3 := by rw [← hw3]; exact (Below.refl _ _).alloc (Nat.le_refl _) _
  have HGw3 := Lib.hid (show w3.heap.size = w2.heap.size + 1 by rw [← hw3]; simp)
  have HXrw3 := Lib.hid (show BoxL w3 w2.heap.size [.int .i64 0, .int .i64 0, .string ByteArray.empty, .string ByteArray.empty, .string ByteArray.empty, .string ByteArray.empty, .string ByteArray.empty, .int .i64 0, .int .i64 0, .slice none 0 0] from box_mk hw3)
  try simp only [hw3]
  have HSw3 := Lib.hid (show w2.heap.size ≤ w3.heap.size from hbw3.size)
  have HBw3 := Lib.hid (HBw2.out.trans (hbw3.mono HBw2.out.size))
  have tw3 := Lib.hid (tw2.out.kept (grown_none hbw3) (fun e => by cases e))
  have aw3 := Lib.hid (HXaw2.out.kept (grown_none hbw3) (fun e => by cases e))
  clear hw3 hbw3
  try rw [show w2.heap.size + 1 = w3.heap.size from HGw3.out.symm]
  have ct0 := tw3.out.1 0 _ rfl
  have ca0 := aw3.out.1 0 _ rfl
  have cfr := HXrw3.out.2.1
  go_wp2_with fail
  refine (first_any A c L _ _ (fun _ => True) _ _ B (Nat.le_trans HB.out HBw3.out.size) (HX.out.keep (HBw3.out.mono HB.out)) (find1_pred _ n _ B aw3.out) (fun _ _ => trivial) HL.out).mono ?_
  rintro e w4 ⟨hbw4, d, A3, c3, hd, rfl, hok3, hsl⟩
  clear ct0 ca0 cfr
  have HSw4 := Lib.hid (show w3.heap.size ≤ w4.heap.size from hbw4.size)
  have HBw4 := Lib.hid (HBw3.out.trans (hbw4.mono HBw3.out.size))
  have tw4 := Lib.hid (tw3.out.kept (grown_none hbw4) (fun e => by cases e))
  have aw4 := Lib.hid (aw3.out.kept (grown_none hbw4) (fun e => by cases e))
  have rw4 := Lib.hid (HXrw3.out.kept (grown_none hbw4) (fun e => by cases e))
  clear hbw4
  have HD := Lib.hid hd; have HDO := Lib.hid hok3; have HSL := Lib.hid hsl; clear hd hok3 hsl
  have cr0 := rw4.out.1 0 _ rfl
  have cr1 := rw4.out.1 1 _ rfl
  have cr2 := rw4.out.1 2 _ rfl
  have cr3 := rw4.out.1 3 _ rfl
  have cr4 := rw4.out.1 4 _ rfl
  have cr5 := rw4.out.1 5 _ rfl
  have cr6 := rw4.out.1 6 _ rfl
  have cr7 := rw4.out.1 7 _ rfl
  have cr8 := rw4.out.1 8 _ rfl
  have cr9 := rw4.out.1 9 _ rfl
  have cfr := rw4.out.2.1
  have HN2 := Lib.hid (show ∀ x, (w3.heap.size ≤ x ∧ x < w4.heap.size) → x ≠ w2.heap.size from fun x hx => by have := HGw3.out; omega)
  obtain ⟨q, hq⟩ : ∃ q, (L.find? (byIdx n)).isSome = q := ⟨_, rfl⟩
  rw [hq]
  have HQ_ := Lib.hid hq; clear hq
  go_wp2
  refine bodyPost_ret (v := .tuple #[.agg #[.int .i64 d.idx, .int .i64 d.par, .string d.nm, .string d.orig, .string d.sub, .string d.drv, .string d.ali, .int .i64 d.kind, .int .i64 d.num, .slice A3 d.attrs.length c3], .bool q]) (by simp [results, Tryz.results21, go_sem, cr0, cr1, cr2, cr3, cr4, cr5, cr6, cr7, cr8, cr9, cfr]) rfl ⟨below10 HBw4.out (by have := HGw1.out; have := HGw2.out; omega) _ _ _ _ _ _ _ _ _ _, d, A3, c3, HD.out, by rw [HQ_.out], HDO.out, ((HSL.out.set10 HN2.out _ _ _ _ _ _ _ _ _ _).mono (fun b hb => ⟨by have := HGw1.out; have := HGw2.out; have := HGw3.out; omega, by simpa using hb.2⟩) (fun _ _ _ _ hu => hu))⟩
set_option maxRecDepth 100000 in
set_option maxHeartbeats 4000000 in
/-- coldplug/tree.Interface. -/
theorem TInterface_any (A : Option Addr) (c : Nat) (L : List Dev) (s : ByteArray) (w : World) (B : Nat) (hB : B ≤ w.heap.size) (hx : Sl w B A c L) (hl : ∀ d ∈ L, d.attrs.length ≤ 1000000) :
    Calls Tryz.prog 40 #[.agg #[.slice A L.length c], .string s] w (FirstP (byNet s) L w) := by
  have hzv := (zero_of_info (P := Tryz.prog) (t := 34) info_dev2).1
  have HX := Lib.hid hx; have HB := Lib.hid hB; have HL := Lib.hid hl; clear hx hB hl
  go_enter Tryz.func40, Tryz.ntmps40
  go_upto_region 1 with fail
  obtain ⟨w1, hw1⟩ : ∃ w1, w.alloc (.cells #[.slice A L.length c] 29) = w1 := ⟨_, rfl⟩
  have hbw1 : Below w.heap.size w w1 := by rw [← hw1]; exact (Below.refl _ _).alloc (Nat.le_refl _) _
  have HGw1 := Lib.hid (show w1.heap.size = w.heap.size + 1 by rw [← hw1]; simp)
  have HXtw1 := Lib.hid (show BoxL w1 w.heap.size [.slice A L.length c] from box_mk hw1)
  try simp only [hw1]
  have HSw1 := Lib.hid (show w.heap.size ≤ w1.heap.size from hbw1.size)
  have HBw1 := Lib.hid hbw1
  clear hw1 hbw1
  try rw [show w.heap.size + 1 = w1.heap.size from HGw1.out.symm]
  obtain ⟨w2, hw2⟩ : ∃ w2, w1.alloc (.cells #[.string s] 9) = w2 := ⟨_, rfl⟩
  have hbw2 : Below w1.heap.size w1 w2 := by rw [← hw2]; exact (Below.refl _ _).alloc (Nat.le_refl _) _
  have HGw2 := Lib.hid (show w2.heap.size = w1.heap.size + 1 by rw [← hw2]; simp)
  have HXaw2 := Lib.hid (show BoxL w2 w1.heap.size [.string s] from box_mk hw2)
  try simp only [hw2]
  have HSw2 := Lib.hid (show w1.heap.size ≤ w2.heap.size from hbw2.size)
  have HBw2 := Lib.hid (HBw1.out.trans (hbw2.mono HBw1.out.size))
  have tw2 := Lib.hid (HXtw1.out.kept (grown_none hbw2) (fun e => by cases e))
  clear hw2 hbw2
  try rw [show w1.heap.size + 1 = w2.heap.size from HGw2.out.symm]
  obtain ⟨w3, hw3⟩ : ∃ w3, w2.alloc (.cells #[.int .i64 0, .int .i64 0, .string ByteArray.empty, .string ByteArray.empty, .string ByteArray.empty, .string ByteArray.empty, .string ByteArray.empty, .int .i64 0, .int .i64 0, .slice none 0 0] 34) = w3 := ⟨_, rfl⟩
  have hbw3 : Below w2.heap.size w2 w3 := by rw [← hw3]; exact (Below.refl _ _).alloc (Nat.le_refl _) _
  have HGw3 := Lib.hid (show w3.heap.size = w2.heap.size + 1 by rw [← hw3]; simp)
  have HXrw3 := Lib.hid (show BoxL w3 w2.heap.size [.int .i64 0, .int .i64 0, .string ByteArray.empty, .string ByteArray.empty, .string ByteArray.empty, .string ByteArray.empty, .string ByteArray.empty, .int .i64 0, .int .i64 0, .slice none 0 0] from box_mk hw3)
  try simp only [hw3]
  have HSw3 := Lib.hid (show w2.heap.size ≤ w3.heap.size from hbw3.size)
  have HBw3 := Lib.hid (HBw2.out.trans (hbw3.mono HBw2.out.size))
  have tw3 := Lib.hid (tw2.out.kept (grown_none hbw3) (fun e => by cases e))
  have aw3 := Lib.hid (HXaw2.out.kept (grown_none hbw3) (fun e => by cases e))
  clear hw3 hbw3
  try rw [show w2.heap.size + 1 = w3.heap.size from HGw3.out.symm]
  have ct0 := tw3.out.1 0 _ rfl
  have ca0 := aw3.out.1 0 _ rfl
  have cfr := HXrw3.out.2.1
  go_wp2_with fail
  refine (first_any A c L _ _ (fun _ => True) _ _ B (Nat.le_trans HB.out HBw3.out.size) (HX.out.keep (HBw3.out.mono HB.out)) (interface1_pred _ s _ B aw3.out) (fun _ _ => trivial) HL.out).mono ?_
  rintro e w4 ⟨hbw4, d, A3, c3, hd, rfl, hok3, hsl⟩
  clear ct0 ca0 cfr
  have HSw4 := Lib.hid (show w3.heap.size ≤ w4.heap.size from hbw4.size)
  have HBw4 := Lib.hid (HBw3.out.trans (hbw4.mono HBw3.out.size))
  have tw4 := Lib.hid (tw3.out.kept (grown_none hbw4) (fun e => by cases e))
  have aw4 := Lib.hid (aw3.out.kept (grown_none hbw4) (fun e => by cases e))
  have rw4 := Lib.hid (HXrw3.out.kept (grown_none hbw4) (fun e => by cases e))
  clear hbw4
  have HD := Lib.hid hd; have HDO := Lib.hid hok3; have HSL := Lib.hid hsl; clear hd hok3 hsl
  have cr0 := rw4.out.1 0 _ rfl
  have cr1 := rw4.out.1 1 _ rfl
  have cr2 := rw4.out.1 2 _ rfl
  have cr3 := rw4.out.1 3 _ rfl
  have cr4 := rw4.out.1 4 _ rfl
  have cr5 := rw4.out.1 5 _ rfl
  have cr6 := rw4.out.1 6 _ rfl
  have cr7 := rw4.out.1 7 _ rfl
  have cr8 := rw4.out.1 8 _ rfl
  have cr9 := rw4.out.1 9 _ rfl
  have cfr := rw4.out.2.1
  have HN2 := Lib.hid (show ∀ x, (w3.heap.size ≤ x ∧ x < w4.heap.size) → x ≠ w2.heap.size from fun x hx => by have := HGw3.out; omega)
  obtain ⟨q, hq⟩ : ∃ q, (L.find? (byNet s)).isSome = q := ⟨_, rfl⟩
  rw [hq]
  have HQ_ := Lib.hid hq; clear hq
  go_wp2
  refine bodyPost_ret (v := .tuple #[.agg #[.int .i64 d.idx, .int .i64 d.par, .string d.nm, .string d.orig, .string d.sub, .string d.drv, .string d.ali, .int .i64 d.kind, .int .i64 d.num, .slice A3 d.attrs.length c3], .bool q]) (by simp [results, Tryz.results40, go_sem, cr0, cr1, cr2, cr3, cr4, cr5, cr6, cr7, cr8, cr9, cfr]) rfl ⟨below10 HBw4.out (by have := HGw1.out; have := HGw2.out; omega) _ _ _ _ _ _ _ _ _ _, d, A3, c3, HD.out, by rw [HQ_.out], HDO.out, ((HSL.out.set10 HN2.out _ _ _ _ _ _ _ _ _ _).mono (fun b hb => ⟨by have := HGw1.out; have := HGw2.out; have := HGw3.out; omega, by simpa using hb.2⟩) (fun _ _ _ _ hu => hu))⟩
set_option maxRecDepth 100000 in
set_option maxHeartbeats 4000000 in
/-- coldplug/tree.Node. -/
theorem TNode_any (A : Option Addr) (c : Nat) (L : List Dev) (s : ByteArray) (w : World) (B : Nat) (hB : B ≤ w.heap.size) (hx : Sl w B A c L) (hl : ∀ d ∈ L, d.attrs.length ≤ 1000000) (hsm : ∀ d ∈ L, d.orig.size ≤ 4294967280) (hok : Ok w) :
    Calls Tryz.prog 42 #[.agg #[.slice A L.length c], .string s] w (FirstP (byNode s) L w) := by
  have hzv := (zero_of_info (P := Tryz.prog) (t := 34) info_dev2).1
  have HX := Lib.hid hx; have HB := Lib.hid hB; have HL := Lib.hid hl; have HSM := Lib.hid hsm; have HOK := Lib.hid hok; clear hsm hok; clear hx hB hl
  go_enter Tryz.func42, Tryz.ntmps42
  go_upto_region 1 with fail
  obtain ⟨w1, hw1⟩ : ∃ w1, w.alloc (.cells #[.slice A L.length c] 29) = w1 := ⟨_, rfl⟩
  have hbw1 : Below w.heap.size w w1 := by rw [← hw1]; exact (Below.refl _ _).alloc (Nat.le_refl _) _
  have HGw1 := Lib.hid (show w1.heap.size = w.heap.size + 1 by rw [← hw1]; simp)
  have HXtw1 := Lib.hid (show BoxL w1 w.heap.size [.slice A L.length c] from box_mk hw1)
  try simp only [hw1]
  have HSw1 := Lib.hid (show w.heap.size ≤ w1.heap.size from hbw1.size)
  have HBw1 := Lib.hid hbw1
  clear hw1 hbw1
  try rw [show w.heap.size + 1 = w1.heap.size from HGw1.out.symm]
  obtain ⟨w2, hw2⟩ : ∃ w2, w1.alloc (.cells #[.string s] 9) = w2 := ⟨_, rfl⟩
  have hbw2 : Below w1.heap.size w1 w2 := by rw [← hw2]; exact (Below.refl _ _).alloc (Nat.le_refl _) _
  have HGw2 := Lib.hid (show w2.heap.size = w1.heap.size + 1 by rw [← hw2]; simp)
  have HXaw2 := Lib.hid (show BoxL w2 w1.heap.size [.string s] from box_mk hw2)
  try simp only [hw2]
  have HSw2 := Lib.hid (show w1.heap.size ≤ w2.heap.size from hbw2.size)
  have HBw2 := Lib.hid (HBw1.out.trans (hbw2.mono HBw1.out.size))
  have tw2 := Lib.hid (HXtw1.out.kept (grown_none hbw2) (fun e => by cases e))
  clear hw2 hbw2
  try rw [show w1.heap.size + 1 = w2.heap.size from HGw2.out.symm]
  obtain ⟨w3, hw3⟩ : ∃ w3, w2.alloc (.cells #[.int .i64 0, .int .i64 0, .string ByteArray.empty, .string ByteArray.empty, .string ByteArray.empty, .string ByteArray.empty, .string ByteArray.empty, .int .i64 0, .int .i64 0, .slice none 0 0] 34) = w3 := ⟨_, rfl⟩
  have hbw3 : Below w2.heap.size w2 w3 := by rw [← hw3]; exact (Below.refl _ _).alloc (Nat.le_refl _) _
  have HGw3 := Lib.hid (show w3.heap.size = w2.heap.size + 1 by rw [← hw3]; simp)
  have HXrw3 := Lib.hid (show BoxL w3 w2.heap.size [.int .i64 0, .int .i64 0, .string ByteArray.empty, .string ByteArray.empty, .string ByteArray.empty, .string ByteArray.empty, .string ByteArray.empty, .int .i64 0, .int .i64 0, .slice none 0 0] from box_mk hw3)
  try simp only [hw3]
  have HSw3 := Lib.hid (show w2.heap.size ≤ w3.heap.size from hbw3.size)
  have HBw3 := Lib.hid (HBw2.out.trans (hbw3.mono HBw2.out.size))
  have tw3 := Lib.hid (tw2.out.kept (grown_none hbw3) (fun e => by cases e))
  have aw3 := Lib.hid (HXaw2.out.kept (grown_none hbw3) (fun e => by cases e))
  clear hw3 hbw3
  try rw [show w2.heap.size + 1 = w3.heap.size from HGw3.out.symm]
  have ct0 := tw3.out.1 0 _ rfl
  have ca0 := aw3.out.1 0 _ rfl
  have cfr := HXrw3.out.2.1
  go_wp2_with fail
  refine (first_any A c L _ _ (fun x => x.orig.size ≤ 4294967280) _ _ B (Nat.le_trans HB.out HBw3.out.size) (HX.out.keep (HBw3.out.mono HB.out)) (node1_pred _ s _ B aw3.out (HOK.out.next HBw3.out)) HSM.out HL.out).mono ?_
  rintro e w4 ⟨hbw4, d, A3, c3, hd, rfl, hok3, hsl⟩
  clear ct0 ca0 cfr
  have HSw4 := Lib.hid (show w3.heap.size ≤ w4.heap.size from hbw4.size)
  have HBw4 := Lib.hid (HBw3.out.trans (hbw4.mono HBw3.out.size))
  have tw4 := Lib.hid (tw3.out.kept (grown_none hbw4) (fun e => by cases e))
  have aw4 := Lib.hid (aw3.out.kept (grown_none hbw4) (fun e => by cases e))
  have rw4 := Lib.hid (HXrw3.out.kept (grown_none hbw4) (fun e => by cases e))
  clear hbw4
  have HD := Lib.hid hd; have HDO := Lib.hid hok3; have HSL := Lib.hid hsl; clear hd hok3 hsl
  have cr0 := rw4.out.1 0 _ rfl
  have cr1 := rw4.out.1 1 _ rfl
  have cr2 := rw4.out.1 2 _ rfl
  have cr3 := rw4.out.1 3 _ rfl
  have cr4 := rw4.out.1 4 _ rfl
  have cr5 := rw4.out.1 5 _ rfl
  have cr6 := rw4.out.1 6 _ rfl
  have cr7 := rw4.out.1 7 _ rfl
  have cr8 := rw4.out.1 8 _ rfl
  have cr9 := rw4.out.1 9 _ rfl
  have cfr := rw4.out.2.1
  have HN2 := Lib.hid (show ∀ x, (w3.heap.size ≤ x ∧ x < w4.heap.size) → x ≠ w2.heap.size from fun x hx => by have := HGw3.out; omega)
  obtain ⟨q, hq⟩ : ∃ q, (L.find? (byNode s)).isSome = q := ⟨_, rfl⟩
  rw [hq]
  have HQ_ := Lib.hid hq; clear hq
  go_wp2
  refine bodyPost_ret (v := .tuple #[.agg #[.int .i64 d.idx, .int .i64 d.par, .string d.nm, .string d.orig, .string d.sub, .string d.drv, .string d.ali, .int .i64 d.kind, .int .i64 d.num, .slice A3 d.attrs.length c3], .bool q]) (by simp [results, Tryz.results42, go_sem, cr0, cr1, cr2, cr3, cr4, cr5, cr6, cr7, cr8, cr9, cfr]) rfl ⟨below10 HBw4.out (by have := HGw1.out; have := HGw2.out; omega) _ _ _ _ _ _ _ _ _ _, d, A3, c3, HD.out, by rw [HQ_.out], HDO.out, ((HSL.out.set10 HN2.out _ _ _ _ _ _ _ _ _ _).mono (fun b hb => ⟨by have := HGw1.out; have := HGw2.out; have := HGw3.out; omega, by simpa using hb.2⟩) (fun _ _ _ _ hu => hu))⟩
set_option maxRecDepth 100000 in
set_option maxHeartbeats 4000000 in
/-- coldplug/tree.At. -/
theorem TAt_any (A : Option Addr) (c : Nat) (L : List Dev) (s : ByteArray) (w : World) (B : Nat) (hB : B ≤ w.heap.size) (hx : Sl w B A c L) (hl : ∀ d ∈ L, d.attrs.length ≤ 1000000) (hsm : ∀ d ∈ L, d.orig.size ≤ 32) (hll : L.length ≤ 256) :
    Calls Tryz.prog 38 #[.agg #[.slice A L.length c], .string s] w (FirstP (byOrg L s) L w) := by
  have hzv := (zero_of_info (P := Tryz.prog) (t := 34) info_dev2).1
  have HX := Lib.hid hx; have HB := Lib.hid hB; have HL := Lib.hid hl; have HSM := Lib.hid hsm; have HLL := Lib.hid hll; clear hsm hll; clear hx hB hl
  go_enter Tryz.func38, Tryz.ntmps38
  go_upto_region 1 with fail
  obtain ⟨w1, hw1⟩ : ∃ w1, w.alloc (.cells #[.slice A L.length c] 29) = w1 := ⟨_, rfl⟩
  have hbw1 : Below w.heap.size w w1 := by rw [← hw1]; exact (Below.refl _ _).alloc (Nat.le_refl _) _
  have HGw1 := Lib.hid (show w1.heap.size = w.heap.size + 1 by rw [← hw1]; simp)
  have HXtw1 := Lib.hid (show BoxL w1 w.heap.size [.slice A L.length c] from box_mk hw1)
  try simp only [hw1]
  have HSw1 := Lib.hid (show w.heap.size ≤ w1.heap.size from hbw1.size)
  have HBw1 := Lib.hid hbw1
  clear hw1 hbw1
  try rw [show w.heap.size + 1 = w1.heap.size from HGw1.out.symm]
  obtain ⟨w2, hw2⟩ : ∃ w2, w1.alloc (.cells #[.string s] 9) = w2 := ⟨_, rfl⟩
  have hbw2 : Below w1.heap.size w1 w2 := by rw [← hw2]; exact (Below.refl _ _).alloc (Nat.le_refl _) _
  have HGw2 := Lib.hid (show w2.heap.size = w1.heap.size + 1 by rw [← hw2]; simp)
  have HXaw2 := Lib.hid (show BoxL w2 w1.heap.size [.string s] from box_mk hw2)
  try simp only [hw2]
  have HSw2 := Lib.hid (show w1.heap.size ≤ w2.heap.size from hbw2.size)
  have HBw2 := Lib.hid (HBw1.out.trans (hbw2.mono HBw1.out.size))
  have tw2 := Lib.hid (HXtw1.out.kept (grown_none hbw2) (fun e => by cases e))
  clear hw2 hbw2
  try rw [show w1.heap.size + 1 = w2.heap.size from HGw2.out.symm]
  obtain ⟨w3, hw3⟩ : ∃ w3, w2.alloc (.cells #[.int .i64 0, .int .i64 0, .string ByteArray.empty, .string ByteArray.empty, .string ByteArray.empty, .string ByteArray.empty, .string ByteArray.empty, .int .i64 0, .int .i64 0, .slice none 0 0] 34) = w3 := ⟨_, rfl⟩
  have hbw3 : Below w2.heap.size w2 w3 := by rw [← hw3]; exact (Below.refl _ _).alloc (Nat.le_refl _) _
  have HGw3 := Lib.hid (show w3.heap.size = w2.heap.size + 1 by rw [← hw3]; simp)
  have HXrw3 := Lib.hid (show BoxL w3 w2.heap.size [.int .i64 0, .int .i64 0, .string ByteArray.empty, .string ByteArray.empty, .string ByteArray.empty, .string ByteArray.empty, .string ByteArray.empty, .int .i64 0, .int .i64 0, .slice none 0 0] from box_mk hw3)
  try simp only [hw3]
  have HSw3 := Lib.hid (show w2.heap.size ≤ w3.heap.size from hbw3.size)
  have HBw3 := Lib.hid (HBw2.out.trans (hbw3.mono HBw2.out.size))
  have tw3 := Lib.hid (tw2.out.kept (grown_none hbw3) (fun e => by cases e))
  have aw3 := Lib.hid (HXaw2.out.kept (grown_none hbw3) (fun e => by cases e))
  clear hw3 hbw3
  try rw [show w2.heap.size + 1 = w3.heap.size from HGw3.out.symm]
  have ct0 := tw3.out.1 0 _ rfl
  have ca0 := aw3.out.1 0 _ rfl
  have cfr := HXrw3.out.2.1
  go_wp2_with fail
  refine (look_any A c L _ B (Nat.le_trans HB.out HBw3.out.size) (HX.out.keep (HBw3.out.mono HB.out)) HSM.out HLL.out).mono ?_
  rintro e w4 ⟨hbw4, bp, bo, rfl, -, hmo, -⟩
  clear ct0 ca0 cfr
  have HSw4 := Lib.hid (show w3.heap.size ≤ w4.heap.size from hbw4.size)
  have HBw4 := Lib.hid (HBw3.out.trans (hbw4.mono HBw3.out.size))
  have tw4 := Lib.hid (tw3.out.kept (grown_none hbw4) (fun e => by cases e))
  have aw4 := Lib.hid (aw3.out.kept (grown_none hbw4) (fun e => by cases e))
  have rw4 := Lib.hid (HXrw3.out.kept (grown_none hbw4) (fun e => by cases e))
  clear hbw4
  have HMO := Lib.hid hmo; clear hmo
  have ct0 := tw4.out.1 0 _ rfl
  have ca0 := aw4.out.1 0 _ rfl
  have cfr := rw4.out.2.1
  go_upto_region 2 with fail
  obtain ⟨w5, hw5⟩ : ∃ w5, w4.alloc (.cells #[.slice A L.length c, .map (some bp), .map (some bo)] 74) = w5 := ⟨_, rfl⟩
  have hbw5 : Below w4.heap.size w4 w5 := by rw [← hw5]; exact (Below.refl _ _).alloc (Nat.le_refl _) _
  have HGw5 := Lib.hid (show w5.heap.size = w4.heap.size + 1 by rw [← hw5]; simp)
  have HXvw5 := Lib.hid (show BoxL w5 w4.heap.size [.slice A L.length c, .map (some bp), .map (some bo)] from box_mk hw5)
  try simp only [hw5]
  have HSw5 := Lib.hid (show w4.heap.size ≤ w5.heap.size from hbw5.size)
  have HBw5 := Lib.hid (HBw4.out.trans (hbw5.mono HBw4.out.size))
  have tw5 := Lib.hid (tw4.out.kept (grown_none hbw5) (fun e => by cases e))
  have aw5 := Lib.hid (aw4.out.kept (grown_none hbw5) (fun e => by cases e))
  have rw5 := Lib.hid (rw4.out.kept (grown_none hbw5) (fun e => by cases e))
  have HMOw5 := Lib.hid (HMO.out.next hbw5)
  clear hw5 hbw5
  try rw [show w4.heap.size + 1 = w5.heap.size from HGw5.out.symm]
  clear ct0 ca0 cfr
  have ct0 := tw5.out.1 0 _ rfl
  have ca0 := aw5.out.1 0 _ rfl
  have cfr := rw5.out.2.1
  go_wp2_with fail
  refine (first_any A c L _ _ (fun _ => True) _ _ B (Nat.le_trans HB.out HBw5.out.size) (HX.out.keep (HBw5.out.mono HB.out)) (at1_pred A c bp bo _ _ _ L s _ B HXvw5.out aw5.out HMOw5.out) (fun _ _ => trivial) HL.out).mono ?_
  rintro e w6 ⟨hbw6, d, A3, c3, hd, rfl, hok3, hsl⟩
  clear ct0 ca0 cfr
  have HSw6 := Lib.hid (show w5.heap.size ≤ w6.heap.size from hbw6.size)
  have HBw6 := Lib.hid (HBw5.out.trans (hbw6.mono HBw5.out.size))
  have tw6 := Lib.hid (tw5.out.kept (grown_none hbw6) (fun e => by cases e))
  have aw6 := Lib.hid (aw5.out.kept (grown_none hbw6) (fun e => by cases e))
  have rw6 := Lib.hid (rw5.out.kept (grown_none hbw6) (fun e => by cases e))
  have vw6 := Lib.hid (HXvw5.out.kept (grown_none hbw6) (fun e => by cases e))
  have HMOw6 := Lib.hid (HMOw5.out.next hbw6)
  clear hbw6
  have HD := Lib.hid hd; have HDO := Lib.hid hok3; have HSL := Lib.hid hsl; clear hd hok3 hsl
  have cr0 := rw6.out.1 0 _ rfl
  have cr1 := rw6.out.1 1 _ rfl
  have cr2 := rw6.out.1 2 _ rfl
  have cr3 := rw6.out.1 3 _ rfl
  have cr4 := rw6.out.1 4 _ rfl
  have cr5 := rw6.out.1 5 _ rfl
  have cr6 := rw6.out.1 6 _ rfl
  have cr7 := rw6.out.1 7 _ rfl
  have cr8 := rw6.out.1 8 _ rfl
  have cr9 := rw6.out.1 9 _ rfl
  have cfr := rw6.out.2.1
  have HN2 := Lib.hid (show ∀ x, (w5.heap.size ≤ x ∧ x < w6.heap.size) → x ≠ w2.heap.size from fun x hx => by have := HGw3.out; have := HSw4.out; have := HSw5.out; omega)
  obtain ⟨q, hq⟩ : ∃ q, (L.find? (byOrg L s)).isSome = q := ⟨_, rfl⟩
  rw [hq]
  have HQ_ := Lib.hid hq; clear hq
  go_wp2
  refine bodyPost_ret (v := .tuple #[.agg #[.int .i64 d.idx, .int .i64 d.par, .string d.nm, .string d.orig, .string d.sub, .string d.drv, .string d.ali, .int .i64 d.kind, .int .i64 d.num, .slice A3 d.attrs.length c3], .bool q]) (by simp [results, Tryz.results38, go_sem, cr0, cr1, cr2, cr3, cr4, cr5, cr6, cr7, cr8, cr9, cfr]) rfl ⟨below10 HBw6.out (by have := HGw1.out; have := HGw2.out; omega) _ _ _ _ _ _ _ _ _ _, d, A3, c3, HD.out, by rw [HQ_.out], HDO.out, ((HSL.out.set10 HN2.out _ _ _ _ _ _ _ _ _ _).mono (fun b hb => ⟨by have := HGw1.out; have := HGw2.out; have := HGw3.out; have := HSw4.out; have := HSw5.out; omega, by simpa using hb.2⟩) (fun _ _ _ _ hu => hu))⟩
end Go.Proofs.YtidhbckalcjdpaaGreatDoor
namespace Go.Cold
open Go Go.RowKit
def NoYet (p : Dev → Bool) (L : List Dev) (k : Nat) : Prop := ∀ d ∈ L.take k, p d = false
theorem NoYet.step {p : Dev → Bool} {L : List Dev} {k : Nat} {y : Dev} (h : NoYet p L k) (hk : L[k]? = some y) (hp : p y = false) : NoYet p L (k + 1) := fun d hd => by
  rw [List.take_add_one, hk] at hd
  rcases List.mem_append.1 hd with hd | hd
  · exact h d hd
  · simp at hd; subst hd; exact hp
theorem NoYet.found {p : Dev → Bool} {L : List Dev} {k : Nat} {y : Dev} (h : NoYet p L k) (hk : L[k]? = some y) (hp : p y = true) : L.find? p = some y := by
  obtain ⟨h1, h2⟩ := List.getElem?_eq_some_iff.1 hk
  have e : L = L.take k ++ y :: L.drop (k + 1) := by rw [← h2, ← List.drop_eq_getElem_cons h1, List.take_append_drop]
  rw [e, List.find?_append, List.find?_eq_none.2 (fun d hd => by simp [h d hd]), List.find?_cons_of_pos hp]
  rfl
theorem NoYet.end_ {p : Dev → Bool} {L : List Dev} (h : NoYet p L L.length) : L.find? p = none := List.find?_eq_none.2 (fun d hd => by
  have h2 := h d (by rw [List.take_length]; exact hd)
  simp [h2])
end Go.Cold
namespace Go.Proofs.YtidhbckalcjdpaaGreatDoor
open Go.RowKit Go.Cold
set_option maxRecDepth 100000 in
set_option maxHeartbeats 4000000 in
/-- The reference's coldplug/coldplugref04.At. -/
theorem RAt_any (A : Option Addr) (c : Nat) (L : List Dev) (s : ByteArray) (w : World) (B : Nat) (hB : B ≤ w.heap.size) (hx : Sl w B A c L) (hv : VT L) :
    Calls Tryz.prog 39 #[.agg #[.slice A L.length c], .string s] w (FirstR (byOrg L s) L B w) := by
  have hzv := (zero_of_info (P := Tryz.prog) (t := 34) info_dev2).1
  have hx1 := hx.1; have hx2 := hx.2.1
  unfold maxLen at hx2
  have HX := Lib.hid hx; have HB := Lib.hid hB; have HVT := Lib.hid hv; clear hv; clear hx hB
  go_enter Tryz.func39, Tryz.ntmps39
  go_upto_region 1 with fail
  obtain ⟨w1, hw1⟩ : ∃ w1, w.alloc (.cells #[.slice A L.length c] 29) = w1 := ⟨_, rfl⟩
  have hbw1 : Below w.heap.size w w1 := by rw [← hw1]; exact (Below.refl _ _).alloc (Nat.le_refl _) _
  have HGw1 := Lib.hid (show w1.heap.size = w.heap.size + 1 by rw [← hw1]; simp)
  have HXtw1 := Lib.hid (show BoxL w1 w.heap.size [.slice A L.length c] from box_mk hw1)
  try simp only [hw1]
  have HSw1 := Lib.hid (show w.heap.size ≤ w1.heap.size from hbw1.size)
  have HBw1 := Lib.hid hbw1
  clear hw1 hbw1
  try rw [show w.heap.size + 1 = w1.heap.size from HGw1.out.symm]
  obtain ⟨w2, hw2⟩ : ∃ w2, w1.alloc (.cells #[.int .i64 0, .int .i64 0, .string ByteArray.empty, .string ByteArray.empty, .string ByteArray.empty, .string ByteArray.empty, .string ByteArray.empty, .int .i64 0, .int .i64 0, .slice none 0 0] 34) = w2 := ⟨_, rfl⟩
  have hbw2 : Below w1.heap.size w1 w2 := by rw [← hw2]; exact (Below.refl _ _).alloc (Nat.le_refl _) _
  have HGw2 := Lib.hid (show w2.heap.size = w1.heap.size + 1 by rw [← hw2]; simp)
  have HXrw2 := Lib.hid (show BoxL w2 w1.heap.size [.int .i64 0, .int .i64 0, .string ByteArray.empty, .string ByteArray.empty, .string ByteArray.empty, .string ByteArray.empty, .string ByteArray.empty, .int .i64 0, .int .i64 0, .slice none 0 0] from box_mk hw2)
  try simp only [hw2]
  have HSw2 := Lib.hid (show w1.heap.size ≤ w2.heap.size from hbw2.size)
  have HBw2 := Lib.hid (HBw1.out.trans (hbw2.mono HBw1.out.size))
  have tw2 := Lib.hid (HXtw1.out.kept (grown_none hbw2) (fun e => by cases e))
  clear hw2 hbw2
  try rw [show w1.heap.size + 1 = w2.heap.size from HGw2.out.symm]
  have ct0 := tw2.out.1 0 _ rfl
  have cfr := HXrw2.out.2.1
  have HST := Lib.hid (show Below w.heap.size w w2 ∧ BoxL w2 w.heap.size [.slice A L.length c] ∧ BoxL w2 w1.heap.size [.int .i64 0, .int .i64 0, .string ByteArray.empty, .string ByteArray.empty, .string ByteArray.empty, .string ByteArray.empty, .string ByteArray.empty, .int .i64 0, .int .i64 0, .slice none 0 0] from ⟨HBw2.out, tw2.out, HXrw2.out⟩)
  have HNO := Lib.hid (show NoYet (byOrg L s) L 0 from fun d hd => by simp at hd)
  go_wp2_with fail
  clear ct0 cfr
  go_loopw [6] (fun i wr => ∃ k : Nat, k ≤ L.length ∧ i = .int .i64 k ∧ Hid (NoYet (byOrg L s) L k) ∧ Hid (Below w.heap.size w wr ∧ BoxL wr w.heap.size [.slice A L.length c] ∧ BoxL wr w1.heap.size [.int .i64 0, .int .i64 0, .string ByteArray.empty, .string ByteArray.empty, .string ByteArray.empty, .string ByteArray.empty, .string ByteArray.empty, .int .i64 0, .int .i64 0, .slice none 0 0])) (fun i _ => L.length - (intOf i).toNat)
  case atStart => exact ⟨0, Nat.zero_le _, rfl, HNO, HST⟩
  case round =>
    clear HST HNO
    obtain ⟨k, hk, rfl, HNO, HST⟩ := hrel
    have HBR := Lib.hid HST.out.1; have HTR := Lib.hid HST.out.2.1; have HRR := Lib.hid HST.out.2.2
    by_cases hlt : k < L.length
    ·
      have i1 : (k : Int) < (L.length : Int) := by omega
      obtain ⟨b3, o3, rfl, hb3, A3, c3, hok3, hat3, hcs3⟩ := (HX.out.keep (HBR.out.mono HB.out)).dev hlt
      have hxk : L[k]? = some L[k] := List.getElem?_eq_getElem hlt
      obtain ⟨y, hy⟩ : ∃ y, L[k]'hlt = y := ⟨_, rfl⟩
      rw [hy] at hok3 hcs3 hxk hat3
      have HXK := Lib.hid hxk; have HOK3 := Lib.hid hok3; have HMEM := Lib.hid (List.mem_of_getElem? hxk)
      have HDC := Lib.hid hcs3
      have HAT := Lib.hid hat3; have HB3 := Lib.hid hb3
      clear hxk hok3 hat3 hy hcs3 hb3
      have ct0 := HTR.out.1 0 _ rfl
      have cfr := HRR.out.2.1
      have HBQ0 := Lib.hid (Below.refl wr.heap.size wr)
      obtain ⟨y0, -⟩ := HDC.out
      go_upto_region 4 with fail
      have hS_ : BoxL wr w.heap.size [.slice (some ⟨b3, o3, none⟩) L.length c] ∧ wr.cell? ⟨b3, o3 + k * 10, none⟩ = some (.int .i64 y.idx) := ⟨HTR.out, y0⟩
      have HS_ := Lib.hid hS_; clear hS_ y0
      refine wp_region_held_drew (S := fun w' => BoxL w' w.heap.size [.slice (some ⟨b3, o3, none⟩) L.length c] ∧ w'.cell? ⟨b3, o3 + k * 10, none⟩ = some (.int .i64 y.idx)) (by kernel_rfl) ⟨HS_.out.1.drew, HS_.out.2⟩ (fun hS0 => ?_)
      obtain ⟨wd, hwd⟩ : ∃ z, wr.drew = z := ⟨_, rfl⟩
      rw [hwd] at hS0 ⊢
      have hbd : Below wr.heap.size wr wd := by rw [← hwd]; exact below_drewN_self _ _ 1
      clear hwd
      have HBD0 := Lib.hid hbd
      clear ct0 cfr
      have HSwd := Lib.hid (show wr.heap.size ≤ wd.heap.size from hbd.size)
      have HBwd := Lib.hid (HBR.out.trans (hbd.mono HBR.out.size))
      have twd := Lib.hid (HTR.out.kept (grown_none hbd) (fun e => by cases e))
      have rwd := Lib.hid (HRR.out.kept (grown_none hbd) (fun e => by cases e))
      clear hbd
      have HS1 := Lib.hid hS0; clear hS0
      refine wpAnyH_take (i := 0) (oi := ⟨some 14, _, _, _, _, _⟩) (v := .agg #[.slice (some ⟨b3, o3, none⟩) L.length c]) rfl (by kernel_rfl) (by kernel_rfl) (by kernel_rfl) (fun _ _ _ h => h) (Or.inl ⟨by rfl, fun w' hS => by (have u0_ := hS.1.1 0 _ rfl; go_simp)⟩) HS1.out ?_
      try simp only [Act.put, List.setIfInBounds_toArray, List.set_cons_zero, List.set_cons_succ]
      refine wpAnyH_take (i := 1) (oi := ⟨some 15, _, _, _, _, _⟩) (v := .pointer (some ⟨w.heap.size, 0, none⟩)) rfl (by kernel_rfl) (by kernel_rfl) (by kernel_rfl) (fun _ _ _ h => h) (Or.inl ⟨by rfl, fun w' hS => by go_simp⟩) HS1.out ?_
      try simp only [Act.put, List.setIfInBounds_toArray, List.set_cons_zero, List.set_cons_succ]
      refine wpAnyH_take (i := 2) (oi := ⟨some 16, _, _, _, _, _⟩) (v := .slice (some ⟨b3, o3, none⟩) L.length c) rfl (by kernel_rfl) (by kernel_rfl) (by kernel_rfl) (fun _ _ _ h => h) (Or.inl ⟨by rfl, fun w' hS => by (have u0_ := hS.1.1 0 _ rfl; go_simp)⟩) HS1.out ?_
      try simp only [Act.put, List.setIfInBounds_toArray, List.set_cons_zero, List.set_cons_succ]
      refine wpAnyH_take (i := 3) (oi := ⟨some 17, _, _, _, _, _⟩) (v := .int .i64 k) rfl (by kernel_rfl) (by kernel_rfl) (by kernel_rfl) (fun _ _ _ h => h) (Or.inl ⟨by rfl, fun w' hS => by go_simp⟩) HS1.out ?_
      try simp only [Act.put, List.setIfInBounds_toArray, List.set_cons_zero, List.set_cons_succ]
      refine wpAnyH_take (i := 4) (oi := ⟨some 18, _, _, _, _, _⟩) (v := .pointer (some ⟨b3, o3 + k * 10, none⟩)) rfl (by kernel_rfl) (by kernel_rfl) (by kernel_rfl) (fun _ _ _ h => h) (Or.inl ⟨by rfl, fun w' hS => by go_simp⟩) HS1.out ?_
      try simp only [Act.put, List.setIfInBounds_toArray, List.set_cons_zero, List.set_cons_succ]
      refine wpAnyH_take (i := 5) (oi := ⟨some 19, _, _, _, _, _⟩) (v := .pointer (some ⟨b3, o3 + k * 10, none⟩)) rfl (by kernel_rfl) (by kernel_rfl) (by kernel_rfl) (fun _ _ _ h => h) (Or.inl ⟨by rfl, fun w' hS => by go_simp⟩) HS1.out ?_
      try simp only [Act.put, List.setIfInBounds_toArray, List.set_cons_zero, List.set_cons_succ]
      refine wpAnyH_take (i := 6) (oi := ⟨some 20, _, _, _, _, _⟩) (v := .int .i64 y.idx) rfl (by kernel_rfl) (by kernel_rfl) (by kernel_rfl) (fun _ _ _ h => h) (Or.inl ⟨by rfl, fun w' hS => by (have u0_ := hS.2; go_simp)⟩) HS1.out ?_
      try simp only [Act.put, List.setIfInBounds_toArray, List.set_cons_zero, List.set_cons_succ]
      refine wpAnyH_take (i := 8) (oi := ⟨some 22, _, _, _, _, _⟩) (v := .string s) rfl (by kernel_rfl) (by kernel_rfl) (by kernel_rfl) (fun _ _ _ h => h) (Or.inl ⟨by rfl, fun w' hS => by go_simp⟩) HS1.out ?_
      try simp only [Act.put, List.setIfInBounds_toArray, List.set_cons_zero, List.set_cons_succ]
      refine wpAnyH_ready (rs := [7]) (by kernel_rfl) (by simp) ?_
      refine AllReadyH.cons (o := ⟨some 21, .call ⟨_, _, _⟩, _, _, _, _⟩) rfl (fun K hK => ?_) AllReadyH.nil
      go_simp
      go_at_call 26
      refine (RPlace_any (some ⟨b3, o3, none⟩) c L y.idx wd B (Nat.le_trans HB.out HBwd.out.size) (HX.out.keep (HBwd.out.mono HB.out)) HVT.out HOK3.out.1).mono ?_
      rintro e' q3 ⟨rfl, hb_⟩
      have HBQ := Lib.hid (HBD0.out.trans (hb_.mono HBD0.out.size))
      have HSQ := Lib.hid (show (BoxL q3 w.heap.size [.slice (some ⟨b3, o3, none⟩) L.length c] ∧ q3.cell? ⟨b3, o3 + k * 10, none⟩ = some (.int .i64 y.idx)) from ⟨HS1.out.1.kept (grown_none hb_) (fun e => by cases e), (hb_.cell (p := ⟨b3, o3 + k * 10, none⟩) (by have := HB3.out; have := HB.out; have := HBR.out.size; have := HBD0.out.size; show b3 < wd.heap.size; omega)).trans HS1.out.2⟩)
      have hbq_ := hb_
      refine hK.out _ _ HSQ.out (fun _ => ?_)
      clear hK K
      try simp only [Act.put, List.setIfInBounds_toArray, List.set_cons_zero, List.set_cons_succ]
      have HSq3 := Lib.hid (show wd.heap.size ≤ q3.heap.size from hbq_.size)
      have HBq3 := Lib.hid (HBwd.out.trans (hbq_.mono HBwd.out.size))
      have tq3 := Lib.hid (twd.out.kept (grown_none hbq_) (fun e => by cases e))
      have rq3 := Lib.hid (rwd.out.kept (grown_none hbq_) (fun e => by cases e))
      clear hbq_ hb_
      have HPU := Lib.hid (show byOrg L s y = ((strF L y.idx).toList == s.toList) by unfold byOrg; rw [ba_beq])
      obtain ⟨u, hu⟩ : ∃ u, strF L y.idx = u := ⟨_, rfl⟩
      rw [hu] at HPU ⊢
      clear hu
      refine wpAnyH_take (i := 9) (oi := ⟨some 23, _, _, _, _, _⟩) (v := .bool (u.toList == s.toList)) rfl (by kernel_rfl) (by kernel_rfl) (by kernel_rfl) (fun _ _ _ h => h) (Or.inl ⟨by rfl, fun w' hS => by go_simp⟩) HSQ.out ?_
      try simp only [Act.put, List.setIfInBounds_toArray, List.set_cons_zero, List.set_cons_succ]
      refine wpAnyH_done (by kernel_rfl) ?_ _
      cases hus : (u.toList == s.toList) with
      | true =>
        have HP := Lib.hid (show byOrg L s y = true by rw [HPU.out, hus]); clear hus
        have ct0 := tq3.out.1 0 _ rfl
        have cr0 := rq3.out.1 0 _ rfl
        have cr1 := rq3.out.1 1 _ rfl
        have cr2 := rq3.out.1 2 _ rfl
        have cr3 := rq3.out.1 3 _ rfl
        have cr4 := rq3.out.1 4 _ rfl
        have cr5 := rq3.out.1 5 _ rfl
        have cr6 := rq3.out.1 6 _ rfl
        have cr7 := rq3.out.1 7 _ rfl
        have cr8 := rq3.out.1 8 _ rfl
        have cr9 := rq3.out.1 9 _ rfl
        have cfr := rq3.out.2.1
        obtain ⟨y0, y1, y2, y3, y4, y5, y6, y7, y8, y9⟩ := HDC.out.keep HBQ.out (by have := HB3.out; have := HB.out; have := HBR.out.size; omega)
        have HFD := Lib.hid (HNO.out.found HXK.out HP.out)
        go_wp2
        refine bodyPost_ret (v := .tuple #[.agg #[.int .i64 y.idx, .int .i64 y.par, .string y.nm, .string y.orig, .string y.sub, .string y.drv, .string y.ali, .int .i64 y.kind, .int .i64 y.num, .slice A3 y.attrs.length c3], .bool true]) (by simp [results, Tryz.results39, go_sem, cr0, cr1, cr2, cr3, cr4, cr5, cr6, cr7, cr8, cr9, cfr]) rfl ⟨below10 HBq3.out (by have := HGw1.out; omega) _ _ _ _ _ _ _ _ _ _, y, A3, c3, by rw [HFD.out]; rfl, by rw [HFD.out]; rfl, HOK3.out, HAT.out.keep (below10 (HBQ.out.mono (Nat.le_trans HB.out HBR.out.size)) (by have := HGw1.out; have := HB.out; omega) _ _ _ _ _ _ _ _ _ _)⟩
      | false =>
        have HP := Lib.hid (show byOrg L s y = false by rw [HPU.out, hus]); clear hus
        have cfr := rq3.out.2.1
        have HN1 := Lib.hid (HNO.out.step HXK.out HP.out)
        have HSTn := Lib.hid (show Below w.heap.size w q3 ∧ BoxL q3 w.heap.size [.slice (some ⟨b3, o3, none⟩) L.length c] ∧ BoxL q3 w1.heap.size [.int .i64 0, .int .i64 0, .string ByteArray.empty, .string ByteArray.empty, .string ByteArray.empty, .string ByteArray.empty, .string ByteArray.empty, .int .i64 0, .int .i64 0, .slice none 0 0] from ⟨HBq3.out, tq3.out, rq3.out⟩)
        go_wp2
        go_roundw
        case rel => exact ⟨k + 1, by omega, by go_num, HN1, HSTn⟩
        case measure => simp [intOf]; omega
    ·
      have i1 : ¬ (k : Int) < (L.length : Int) := by omega
      obtain rfl : k = L.length := by omega
      have HF := Lib.hid HNO.out.end_
      have ct0 := HTR.out.1 0 _ rfl
      have cr0 := HRR.out.1 0 _ rfl
      have cr1 := HRR.out.1 1 _ rfl
      have cr2 := HRR.out.1 2 _ rfl
      have cr3 := HRR.out.1 3 _ rfl
      have cr4 := HRR.out.1 4 _ rfl
      have cr5 := HRR.out.1 5 _ rfl
      have cr6 := HRR.out.1 6 _ rfl
      have cr7 := HRR.out.1 7 _ rfl
      have cr8 := HRR.out.1 8 _ rfl
      have cr9 := HRR.out.1 9 _ rfl
      have cfr := HRR.out.2.1
      go_wp2
      refine bodyPost_ret (v := .tuple #[.agg #[.int .i64 0, .int .i64 0, .string ByteArray.empty, .string ByteArray.empty, .string ByteArray.empty, .string ByteArray.empty, .string ByteArray.empty, .int .i64 0, .int .i64 0, .slice none 0 0], .bool false]) (by simp [results, Tryz.results39, go_sem, cr0, cr1, cr2, cr3, cr4, cr5, cr6, cr7, cr8, cr9, cfr]) rfl ⟨below10 HBR.out (by have := HGw1.out; omega) _ _ _ _ _ _ _ _ _ _, zeroD, none, 0, by rw [HF.out]; rfl, by rw [HF.out]; rfl, zero_ok, Sl.nil_⟩
set_option maxRecDepth 100000 in
set_option maxHeartbeats 4000000 in
/-- The reference's coldplug/coldplugref04.Interface. -/
theorem RInterfaceF_any (A : Option Addr) (c : Nat) (L : List Dev) (s : ByteArray) (w : World) (B : Nat) (hB : B ≤ w.heap.size) (hx : Sl w B A c L) :
    Calls Tryz.prog 41 #[.agg #[.slice A L.length c], .string s] w (FirstR (byNet s) L B w) := by
  have hzv := (zero_of_info (P := Tryz.prog) (t := 34) info_dev2).1
  have hx1 := hx.1; have hx2 := hx.2.1
  unfold maxLen at hx2
  have HX := Lib.hid hx; have HB := Lib.hid hB; clear hx hB
  go_enter Tryz.func41, Tryz.ntmps41
  go_upto_region 1 with fail
  obtain ⟨w1, hw1⟩ : ∃ w1, w.alloc (.cells #[.slice A L.length c] 29) = w1 := ⟨_, rfl⟩
  have hbw1 : Below w.heap.size w w1 := by rw [← hw1]; exact (Below.refl _ _).alloc (Nat.le_refl _) _
  have HGw1 := Lib.hid (show w1.heap.size = w.heap.size + 1 by rw [← hw1]; simp)
  have HXtw1 := Lib.hid (show BoxL w1 w.heap.size [.slice A L.length c] from box_mk hw1)
  try simp only [hw1]
  have HSw1 := Lib.hid (show w.heap.size ≤ w1.heap.size from hbw1.size)
  have HBw1 := Lib.hid hbw1
  clear hw1 hbw1
  try rw [show w.heap.size + 1 = w1.heap.size from HGw1.out.symm]
  obtain ⟨w2, hw2⟩ : ∃ w2, w1.alloc (.cells #[.int .i64 0, .int .i64 0, .string ByteArray.empty, .string ByteArray.empty, .string ByteArray.empty, .string ByteArray.empty, .string ByteArray.empty, .int .i64 0, .int .i64 0, .slice none 0 0] 34) = w2 := ⟨_, rfl⟩
  have hbw2 : Below w1.heap.size w1 w2 := by rw [← hw2]; exact (Below.refl _ _).alloc (Nat.le_refl _) _
  have HGw2 := Lib.hid (show w2.heap.size = w1.heap.size + 1 by rw [← hw2]; simp)
  have HXrw2 := Lib.hid (show BoxL w2 w1.heap.size [.int .i64 0, .int .i64 0, .string ByteArray.empty, .string ByteArray.empty, .string ByteArray.empty, .string ByteArray.empty, .string ByteArray.empty, .int .i64 0, .int .i64 0, .slice none 0 0] from box_mk hw2)
  try simp only [hw2]
  have HSw2 := Lib.hid (show w1.heap.size ≤ w2.heap.size from hbw2.size)
  have HBw2 := Lib.hid (HBw1.out.trans (hbw2.mono HBw1.out.size))
  have tw2 := Lib.hid (HXtw1.out.kept (grown_none hbw2) (fun e => by cases e))
  clear hw2 hbw2
  try rw [show w1.heap.size + 1 = w2.heap.size from HGw2.out.symm]
  have ct0 := tw2.out.1 0 _ rfl
  have cfr := HXrw2.out.2.1
  have HST := Lib.hid (show Below w.heap.size w w2 ∧ BoxL w2 w.heap.size [.slice A L.length c] ∧ BoxL w2 w1.heap.size [.int .i64 0, .int .i64 0, .string ByteArray.empty, .string ByteArray.empty, .string ByteArray.empty, .string ByteArray.empty, .string ByteArray.empty, .int .i64 0, .int .i64 0, .slice none 0 0] from ⟨HBw2.out, tw2.out, HXrw2.out⟩)
  have HNO := Lib.hid (show NoYet (byNet s) L 0 from fun d hd => by simp at hd)
  go_wp2_with fail
  clear ct0 cfr
  go_loopw [6] (fun i wr => ∃ k : Nat, k ≤ L.length ∧ i = .int .i64 k ∧ Hid (NoYet (byNet s) L k) ∧ Hid (Below w.heap.size w wr ∧ BoxL wr w.heap.size [.slice A L.length c] ∧ BoxL wr w1.heap.size [.int .i64 0, .int .i64 0, .string ByteArray.empty, .string ByteArray.empty, .string ByteArray.empty, .string ByteArray.empty, .string ByteArray.empty, .int .i64 0, .int .i64 0, .slice none 0 0])) (fun i _ => L.length - (intOf i).toNat)
  case atStart => exact ⟨0, Nat.zero_le _, rfl, HNO, HST⟩
  case round =>
    clear HST HNO
    obtain ⟨k, hk, rfl, HNO, HST⟩ := hrel
    have HBR := Lib.hid HST.out.1; have HTR := Lib.hid HST.out.2.1; have HRR := Lib.hid HST.out.2.2
    by_cases hlt : k < L.length
    ·
      have i1 : (k : Int) < (L.length : Int) := by omega
      obtain ⟨b3, o3, rfl, hb3, A3, c3, hok3, hat3, hcs3⟩ := (HX.out.keep (HBR.out.mono HB.out)).dev hlt
      have hxk : L[k]? = some L[k] := List.getElem?_eq_getElem hlt
      obtain ⟨y, hy⟩ : ∃ y, L[k]'hlt = y := ⟨_, rfl⟩
      rw [hy] at hok3 hcs3 hxk hat3
      have HXK := Lib.hid hxk; have HOK3 := Lib.hid hok3; have HMEM := Lib.hid (List.mem_of_getElem? hxk)
      have HDC := Lib.hid hcs3
      have HAT := Lib.hid hat3; have HB3 := Lib.hid hb3
      clear hxk hok3 hat3 hy hcs3 hb3
      have ct0 := HTR.out.1 0 _ rfl
      have cfr := HRR.out.2.1
      obtain ⟨y0, y1, y2, y3, y4, y5, y6, y7, y8, y9⟩ := HDC.out
      go_upto_region 5 with fail
      clear y0 y1 y2 y3 y4 y5 y6 y7 y8 y9
      obtain ⟨w5, hw5⟩ : ∃ w5, wr.alloc (.cells #[.int .i64 y.idx, .int .i64 y.par, .string y.nm, .string y.orig, .string y.sub, .string y.drv, .string y.ali, .int .i64 y.kind, .int .i64 y.num, .slice A3 y.attrs.length c3] 34) = w5 := ⟨_, rfl⟩
      have hbw5 : Below wr.heap.size wr w5 := by rw [← hw5]; exact (Below.refl _ _).alloc (Nat.le_refl _) _
      have HGw5 := Lib.hid (show w5.heap.size = wr.heap.size + 1 by rw [← hw5]; simp)
      have HXyw5 := Lib.hid (show BoxL w5 wr.heap.size [.int .i64 y.idx, .int .i64 y.par, .string y.nm, .string y.orig, .string y.sub, .string y.drv, .string y.ali, .int .i64 y.kind, .int .i64 y.num, .slice A3 y.attrs.length c3] from box_mk hw5)
      try simp only [hw5]
      have HSTEPw5 := Lib.hid hbw5
      have HSw5 := Lib.hid (show wr.heap.size ≤ w5.heap.size from hbw5.size)
      have HBw5 := Lib.hid (HBR.out.trans (hbw5.mono HBR.out.size))
      have tw5 := Lib.hid (HTR.out.kept (grown_none hbw5) (fun e => by cases e))
      have rw5 := Lib.hid (HRR.out.kept (grown_none hbw5) (fun e => by cases e))
      clear hw5 hbw5
      try rw [show wr.heap.size + 1 = w5.heap.size from HGw5.out.symm]
      have HBQ := HSTEPw5
      clear ct0 cfr
      have ct0 := tw5.out.1 0 _ rfl
      have cr0 := rw5.out.1 0 _ rfl
      have cr1 := rw5.out.1 1 _ rfl
      have cr2 := rw5.out.1 2 _ rfl
      have cr3 := rw5.out.1 3 _ rfl
      have cr4 := rw5.out.1 4 _ rfl
      have cr5 := rw5.out.1 5 _ rfl
      have cr6 := rw5.out.1 6 _ rfl
      have cr7 := rw5.out.1 7 _ rfl
      have cr8 := rw5.out.1 8 _ rfl
      have cr9 := rw5.out.1 9 _ rfl
      have cfr := rw5.out.2.1
      have cy0 := HXyw5.out.1 0 _ rfl
      have cy1 := HXyw5.out.1 1 _ rfl
      have cy2 := HXyw5.out.1 2 _ rfl
      have cy3 := HXyw5.out.1 3 _ rfl
      have cy4 := HXyw5.out.1 4 _ rfl
      have cy5 := HXyw5.out.1 5 _ rfl
      have cy6 := HXyw5.out.1 6 _ rfl
      have cy7 := HXyw5.out.1 7 _ rfl
      have cy8 := HXyw5.out.1 8 _ rfl
      have cy9 := HXyw5.out.1 9 _ rfl
      by_cases hk4 : y.kind = 4
      ·
        have ek : (y.kind == 4) = true := by rw [hk4]; rfl
        have HPU := Lib.hid (show byNet s y = (y.nm.toList == s.toList) by unfold byNet; rw [ba_beq, hk4]; rfl)
        clear hk4
        cases hus : (y.nm.toList == s.toList) with
        | true =>
          have HP := Lib.hid (show byNet s y = true by rw [HPU.out, hus])
          have HFD := Lib.hid (HNO.out.found HXK.out HP.out)
          go_wp2
          refine bodyPost_ret (v := .tuple #[.agg #[.int .i64 y.idx, .int .i64 y.par, .string y.nm, .string y.orig, .string y.sub, .string y.drv, .string y.ali, .int .i64 y.kind, .int .i64 y.num, .slice A3 y.attrs.length c3], .bool true]) (by simp [results, Tryz.results41, go_sem, cr0, cr1, cr2, cr3, cr4, cr5, cr6, cr7, cr8, cr9, cfr]) rfl ⟨below10 HBw5.out (by have := HGw1.out; omega) _ _ _ _ _ _ _ _ _ _, y, A3, c3, by rw [HFD.out]; rfl, by rw [HFD.out]; rfl, HOK3.out, HAT.out.keep (below10 (HBQ.out.mono (Nat.le_trans HB.out HBR.out.size)) (by have := HGw1.out; have := HB.out; omega) _ _ _ _ _ _ _ _ _ _)⟩
        | false =>
          have HP := Lib.hid (show byNet s y = false by rw [HPU.out, hus])
          have HN1 := Lib.hid (HNO.out.step HXK.out HP.out)
          have HSTn := Lib.hid (show Below w.heap.size w w5 ∧ BoxL w5 w.heap.size [.slice (some ⟨b3, o3, none⟩) L.length c] ∧ BoxL w5 w1.heap.size [.int .i64 0, .int .i64 0, .string ByteArray.empty, .string ByteArray.empty, .string ByteArray.empty, .string ByteArray.empty, .string ByteArray.empty, .int .i64 0, .int .i64 0, .slice none 0 0] from ⟨HBw5.out, tw5.out, rw5.out⟩)
          go_wp2
          go_roundw
          case rel => exact ⟨k + 1, by omega, by go_num, HN1, HSTn⟩
          case measure => simp [intOf]; omega
      ·
        have ek : (y.kind == 4) = false := by simpa using hk4
        have HP := Lib.hid (show byNet s y = false by unfold byNet; rw [decide_eq_false hk4]; rfl)
        clear hk4
        have HN1 := Lib.hid (HNO.out.step HXK.out HP.out)
        have HSTn := Lib.hid (show Below w.heap.size w w5 ∧ BoxL w5 w.heap.size [.slice (some ⟨b3, o3, none⟩) L.length c] ∧ BoxL w5 w1.heap.size [.int .i64 0, .int .i64 0, .string ByteArray.empty, .string ByteArray.empty, .string ByteArray.empty, .string ByteArray.empty, .string ByteArray.empty, .int .i64 0, .int .i64 0, .slice none 0 0] from ⟨HBw5.out, tw5.out, rw5.out⟩)
        go_wp2
        go_roundw
        case rel => exact ⟨k + 1, by omega, by go_num, HN1, HSTn⟩
        case measure => simp [intOf]; omega
    ·
      have i1 : ¬ (k : Int) < (L.length : Int) := by omega
      obtain rfl : k = L.length := by omega
      have HF := Lib.hid HNO.out.end_
      have ct0 := HTR.out.1 0 _ rfl
      have cr0 := HRR.out.1 0 _ rfl
      have cr1 := HRR.out.1 1 _ rfl
      have cr2 := HRR.out.1 2 _ rfl
      have cr3 := HRR.out.1 3 _ rfl
      have cr4 := HRR.out.1 4 _ rfl
      have cr5 := HRR.out.1 5 _ rfl
      have cr6 := HRR.out.1 6 _ rfl
      have cr7 := HRR.out.1 7 _ rfl
      have cr8 := HRR.out.1 8 _ rfl
      have cr9 := HRR.out.1 9 _ rfl
      have cfr := HRR.out.2.1
      go_wp2
      refine bodyPost_ret (v := .tuple #[.agg #[.int .i64 0, .int .i64 0, .string ByteArray.empty, .string ByteArray.empty, .string ByteArray.empty, .string ByteArray.empty, .string ByteArray.empty, .int .i64 0, .int .i64 0, .slice none 0 0], .bool false]) (by simp [results, Tryz.results41, go_sem, cr0, cr1, cr2, cr3, cr4, cr5, cr6, cr7, cr8, cr9, cfr]) rfl ⟨below10 HBR.out (by have := HGw1.out; omega) _ _ _ _ _ _ _ _ _ _, zeroD, none, 0, by rw [HF.out]; rfl, by rw [HF.out]; rfl, zero_ok, Sl.nil_⟩
set_option maxRecDepth 100000 in
set_option maxHeartbeats 4000000 in
/-- The reference's coldplug/coldplugref04.Node. -/
theorem RNodeF_any (A : Option Addr) (c : Nat) (L : List Dev) (s : ByteArray) (w : World) (B : Nat) (hB : B ≤ w.heap.size) (hx : Sl w B A c L) (hsm : ∀ d ∈ L, d.orig.size ≤ 4294967280) (hok : Ok w) :
    Calls Tryz.prog 43 #[.agg #[.slice A L.length c], .string s] w (FirstR (byNode s) L B w) := by
  have hzv := (zero_of_info (P := Tryz.prog) (t := 34) info_dev2).1
  have hx1 := hx.1; have hx2 := hx.2.1
  unfold maxLen at hx2
  have HX := Lib.hid hx; have HB := Lib.hid hB; have HSM := Lib.hid hsm; have HOK := Lib.hid hok; clear hsm hok; clear hx hB
  go_enter Tryz.func43, Tryz.ntmps43
  go_upto_region 1 with fail
  obtain ⟨w1, hw1⟩ : ∃ w1, w.alloc (.cells #[.slice A L.length c] 29) = w1 := ⟨_, rfl⟩
  have hbw1 : Below w.heap.size w w1 := by rw [← hw1]; exact (Below.refl _ _).alloc (Nat.le_refl _) _
  have HGw1 := Lib.hid (show w1.heap.size = w.heap.size + 1 by rw [← hw1]; simp)
  have HXtw1 := Lib.hid (show BoxL w1 w.heap.size [.slice A L.length c] from box_mk hw1)
  try simp only [hw1]
  have HSw1 := Lib.hid (show w.heap.size ≤ w1.heap.size from hbw1.size)
  have HBw1 := Lib.hid hbw1
  clear hw1 hbw1
  try rw [show w.heap.size + 1 = w1.heap.size from HGw1.out.symm]
  obtain ⟨w2, hw2⟩ : ∃ w2, w1.alloc (.cells #[.int .i64 0, .int .i64 0, .string ByteArray.empty, .string ByteArray.empty, .string ByteArray.empty, .string ByteArray.empty, .string ByteArray.empty, .int .i64 0, .int .i64 0, .slice none 0 0] 34) = w2 := ⟨_, rfl⟩
  have hbw2 : Below w1.heap.size w1 w2 := by rw [← hw2]; exact (Below.refl _ _).alloc (Nat.le_refl _) _
  have HGw2 := Lib.hid (show w2.heap.size = w1.heap.size + 1 by rw [← hw2]; simp)
  have HXrw2 := Lib.hid (show BoxL w2 w1.heap.size [.int .i64 0, .int .i64 0, .string ByteArray.empty, .string ByteArray.empty, .string ByteArray.empty, .string ByteArray.empty, .string ByteArray.empty, .int .i64 0, .int .i64 0, .slice none 0 0] from box_mk hw2)
  try simp only [hw2]
  have HSw2 := Lib.hid (show w1.heap.size ≤ w2.heap.size from hbw2.size)
  have HBw2 := Lib.hid (HBw1.out.trans (hbw2.mono HBw1.out.size))
  have tw2 := Lib.hid (HXtw1.out.kept (grown_none hbw2) (fun e => by cases e))
  clear hw2 hbw2
  try rw [show w1.heap.size + 1 = w2.heap.size from HGw2.out.symm]
  have ct0 := tw2.out.1 0 _ rfl
  have cfr := HXrw2.out.2.1
  have HST := Lib.hid (show Below w.heap.size w w2 ∧ BoxL w2 w.heap.size [.slice A L.length c] ∧ BoxL w2 w1.heap.size [.int .i64 0, .int .i64 0, .string ByteArray.empty, .string ByteArray.empty, .string ByteArray.empty, .string ByteArray.empty, .string ByteArray.empty, .int .i64 0, .int .i64 0, .slice none 0 0] from ⟨HBw2.out, tw2.out, HXrw2.out⟩)
  have HNO := Lib.hid (show NoYet (byNode s) L 0 from fun d hd => by simp at hd)
  go_wp2_with fail
  clear ct0 cfr
  go_loopw [6] (fun i wr => ∃ k : Nat, k ≤ L.length ∧ i = .int .i64 k ∧ Hid (NoYet (byNode s) L k) ∧ Hid (Below w.heap.size w wr ∧ BoxL wr w.heap.size [.slice A L.length c] ∧ BoxL wr w1.heap.size [.int .i64 0, .int .i64 0, .string ByteArray.empty, .string ByteArray.empty, .string ByteArray.empty, .string ByteArray.empty, .string ByteArray.empty, .int .i64 0, .int .i64 0, .slice none 0 0])) (fun i _ => L.length - (intOf i).toNat)
  case atStart => exact ⟨0, Nat.zero_le _, rfl, HNO, HST⟩
  case round =>
    clear HST HNO
    obtain ⟨k, hk, rfl, HNO, HST⟩ := hrel
    have HBR := Lib.hid HST.out.1; have HTR := Lib.hid HST.out.2.1; have HRR := Lib.hid HST.out.2.2
    by_cases hlt : k < L.length
    ·
      have i1 : (k : Int) < (L.length : Int) := by omega
      obtain ⟨b3, o3, rfl, hb3, A3, c3, hok3, hat3, hcs3⟩ := (HX.out.keep (HBR.out.mono HB.out)).dev hlt
      have hxk : L[k]? = some L[k] := List.getElem?_eq_getElem hlt
      obtain ⟨y, hy⟩ : ∃ y, L[k]'hlt = y := ⟨_, rfl⟩
      rw [hy] at hok3 hcs3 hxk hat3
      have HXK := Lib.hid hxk; have HOK3 := Lib.hid hok3; have HMEM := Lib.hid (List.mem_of_getElem? hxk)
      have HDC := Lib.hid hcs3
      have HAT := Lib.hid hat3; have HB3 := Lib.hid hb3
      clear hxk hok3 hat3 hy hcs3 hb3
      have ct0 := HTR.out.1 0 _ rfl
      have cfr := HRR.out.2.1
      obtain ⟨y0, y1, y2, y3, y4, y5, y6, y7, y8, y9⟩ := HDC.out
      go_wp2_with fail
      refine (RNode_any y A3 c3 _ (by have := HSM.out y HMEM.out; omega) (HOK.out.next HBR.out)).mono ?_
      rintro e w4 ⟨rfl, hbw4⟩
      clear ct0 cfr
      have HSw4 := Lib.hid (show wr.heap.size ≤ w4.heap.size from hbw4.size)
      have HBw4 := Lib.hid (HBR.out.trans (hbw4.mono HBR.out.size))
      have tw4 := Lib.hid (HTR.out.kept (grown_none hbw4) (fun e => by cases e))
      have rw4 := Lib.hid (HRR.out.kept (grown_none hbw4) (fun e => by cases e))
      have HBQ := Lib.hid hbw4
      clear hbw4
      clear y0 y1 y2 y3 y4 y5 y6 y7 y8 y9
      have HPU := Lib.hid (show byNode s y = ((nodeD y).isSome && (nodeV y).toList == s.toList) by unfold byNode; rw [ba_beq])
      obtain ⟨u, hu⟩ : ∃ u, nodeV y = u := ⟨_, rfl⟩
      obtain ⟨q, hq⟩ : ∃ q, (nodeD y).isSome = q := ⟨_, rfl⟩
      rw [hu, hq] at HPU ⊢
      clear hu hq
      cases q with
      | true =>
        cases hus : (u.toList == s.toList) with
        | true =>
          have HP := Lib.hid (show byNode s y = true by rw [HPU.out, hus]; rfl)
          have ct0 := tw4.out.1 0 _ rfl
          have cr0 := rw4.out.1 0 _ rfl
          have cr1 := rw4.out.1 1 _ rfl
          have cr2 := rw4.out.1 2 _ rfl
          have cr3 := rw4.out.1 3 _ rfl
          have cr4 := rw4.out.1 4 _ rfl
          have cr5 := rw4.out.1 5 _ rfl
          have cr6 := rw4.out.1 6 _ rfl
          have cr7 := rw4.out.1 7 _ rfl
          have cr8 := rw4.out.1 8 _ rfl
          have cr9 := rw4.out.1 9 _ rfl
          have cfr := rw4.out.2.1
          obtain ⟨y0, y1, y2, y3, y4, y5, y6, y7, y8, y9⟩ := HDC.out.keep HBQ.out (by have := HB3.out; have := HB.out; have := HBR.out.size; omega)
          have HFD := Lib.hid (HNO.out.found HXK.out HP.out)
          go_wp2
          refine bodyPost_ret (v := .tuple #[.agg #[.int .i64 y.idx, .int .i64 y.par, .string y.nm, .string y.orig, .string y.sub, .string y.drv, .string y.ali, .int .i64 y.kind, .int .i64 y.num, .slice A3 y.attrs.length c3], .bool true]) (by simp [results, Tryz.results43, go_sem, cr0, cr1, cr2, cr3, cr4, cr5, cr6, cr7, cr8, cr9, cfr]) rfl ⟨below10 HBw4.out (by have := HGw1.out; omega) _ _ _ _ _ _ _ _ _ _, y, A3, c3, by rw [HFD.out]; rfl, by rw [HFD.out]; rfl, HOK3.out, HAT.out.keep (below10 (HBQ.out.mono (Nat.le_trans HB.out HBR.out.size)) (by have := HGw1.out; have := HB.out; omega) _ _ _ _ _ _ _ _ _ _)⟩
        | false =>
          have HP := Lib.hid (show byNode s y = false by rw [HPU.out, hus]; rfl)
          have cfr := rw4.out.2.1
          have HN1 := Lib.hid (HNO.out.step HXK.out HP.out)
          have HSTn := Lib.hid (show Below w.heap.size w w4 ∧ BoxL w4 w.heap.size [.slice (some ⟨b3, o3, none⟩) L.length c] ∧ BoxL w4 w1.heap.size [.int .i64 0, .int .i64 0, .string ByteArray.empty, .string ByteArray.empty, .string ByteArray.empty, .string ByteArray.empty, .string ByteArray.empty, .int .i64 0, .int .i64 0, .slice none 0 0] from ⟨HBw4.out, tw4.out, rw4.out⟩)
          go_wp2
          go_roundw
          case rel => exact ⟨k + 1, by omega, by go_num, HN1, HSTn⟩
          case measure => simp [intOf]; omega
      | false =>
        have HP := Lib.hid (show byNode s y = false by rw [HPU.out]; rfl)
        have cfr := rw4.out.2.1
        have HN1 := Lib.hid (HNO.out.step HXK.out HP.out)
        have HSTn := Lib.hid (show Below w.heap.size w w4 ∧ BoxL w4 w.heap.size [.slice (some ⟨b3, o3, none⟩) L.length c] ∧ BoxL w4 w1.heap.size [.int .i64 0, .int .i64 0, .string ByteArray.empty, .string ByteArray.empty, .string ByteArray.empty, .string ByteArray.empty, .string ByteArray.empty, .int .i64 0, .int .i64 0, .slice none 0 0] from ⟨HBw4.out, tw4.out, rw4.out⟩)
        go_wp2
        go_roundw
        case rel => exact ⟨k + 1, by omega, by go_num, HN1, HSTn⟩
        case measure => simp [intOf]; omega
    ·
      have i1 : ¬ (k : Int) < (L.length : Int) := by omega
      obtain rfl : k = L.length := by omega
      have HF := Lib.hid HNO.out.end_
      have ct0 := HTR.out.1 0 _ rfl
      have cr0 := HRR.out.1 0 _ rfl
      have cr1 := HRR.out.1 1 _ rfl
      have cr2 := HRR.out.1 2 _ rfl
      have cr3 := HRR.out.1 3 _ rfl
      have cr4 := HRR.out.1 4 _ rfl
      have cr5 := HRR.out.1 5 _ rfl
      have cr6 := HRR.out.1 6 _ rfl
      have cr7 := HRR.out.1 7 _ rfl
      have cr8 := HRR.out.1 8 _ rfl
      have cr9 := HRR.out.1 9 _ rfl
      have cfr := HRR.out.2.1
      go_wp2
      refine bodyPost_ret (v := .tuple #[.agg #[.int .i64 0, .int .i64 0, .string ByteArray.empty, .string ByteArray.empty, .string ByteArray.empty, .string ByteArray.empty, .string ByteArray.empty, .int .i64 0, .int .i64 0, .slice none 0 0], .bool false]) (by simp [results, Tryz.results43, go_sem, cr0, cr1, cr2, cr3, cr4, cr5, cr6, cr7, cr8, cr9, cfr]) rfl ⟨below10 HBR.out (by have := HGw1.out; omega) _ _ _ _ _ _ _ _ _ _, zeroD, none, 0, by rw [HF.out]; rfl, by rw [HF.out]; rfl, zero_ok, Sl.nil_⟩
end Go.Proofs.YtidhbckalcjdpaaGreatDoor
