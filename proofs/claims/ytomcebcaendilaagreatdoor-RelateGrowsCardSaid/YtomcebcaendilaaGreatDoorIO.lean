/-
  The walks of the reference's Below and Ancestors, and of law04's same.
-/
import Derived.Test.YtomcebcaendilaaGreatDoorIN
set_option linter.unusedSimpArgs false
set_option linter.unusedVariables false
namespace Go.Proofs.YtomcebcaendilaaGreatDoor
open Go.RowKit Go.Cold
end Go.Proofs.YtomcebcaendilaaGreatDoor
namespace Go.Cold
open Go Go.RowKit
theorem filter_step {p : Dev → Bool} {L : List Dev} {k : Nat} {y : Dev} (h : L[k]? = some y) : (L.take (k + 1)).filter p = if p y then (L.take k).filter p ++ [y] else (L.take k).filter p := by
 rw [List.take_add_one, h, List.filter_append]
 cases hp : p y <;> simp [hp]
theorem filter_end (p : Dev → Bool) (L : List Dev) : (L.take L.length).filter p = L.filter p := by rw [List.take_length]
theorem filter_len (p : Dev → Bool) (L : List Dev) (k : Nat) : ((L.take k).filter p).length ≤ k := Nat.le_trans (List.length_filter_le _ _) (by rw [List.length_take]; exact Nat.min_le_left _ _)
/-- Where a loop stands that gathers devices. -/
def FilSt (F : Nat → Prop) (T : TypeId) (w0 w1 : World) (p : Dev → Bool) (L : List Dev) (k : Nat) (v : Value) (w : World) : Prop :=
 Below w0.heap.size w0 w ∧ w1.heap.size ≤ w.heap.size ∧ OwnsS F w w1.heap.size T v ((L.take k).filter p)
theorem OwnsS.wide {α : Type} [RepS α] {F F' : Nat → Prop} {w : World} {base : Nat} {e : TypeId} {v : Value} {xs : List α} (h : OwnsS F w base e v xs) (hF : ∀ x, F x → F' x) : OwnsS F' w base e v xs := by
 obtain ⟨css, h1, h2, h3⟩ := h
 exact ⟨css, h1, h2, fun i x cs hx hcs => RepS.mono (fun b ⟨a1, a2, a3⟩ => ⟨hF b a1, a2, a3⟩) (fun _ _ _ _ hu => hu) (h3 i x cs hx hcs)⟩
def anyD (_ : Dev) : Bool := true
theorem filter_any (L : List Dev) : L.filter anyD = L := List.filter_eq_self.2 (fun _ _ => rfl)
end Go.Cold
namespace Go.Proofs.YtomcebcaendilaaGreatDoor
open Go.RowKit Go.Cold
/-- What gathers devices answers. -/
def GotP (F : Nat → Prop) (l : List Dev) (w : World) (e : Ending) (w' : World) : Prop := Below w.heap.size w w' ∧ ∃ v, e = .returned v ∧ OwnsS F w' w.heap.size 34 v l
set_option maxRecDepth 100000 in
set_option maxHeartbeats 1000000 in
/-- tree.copies. -/
theorem copies_any (A : Option Addr) (c : Nat) (L : List Dev)  (w : World) (B : Nat) (hB : B ≤ w.heap.size) (hx : Sl w B A c L)  (hl : L.length ≤ 1000000) (ha : ∀ d ∈ L, d.attrs.length ≤ 1000000) :
  Calls Tryz.prog 55 #[.slice A L.length c] w (GotP (fun b => w.heap.size ≤ b) (L.filter (anyD)) w) := by
 have hx1 := hx.1; have hx2 := hx.2.1
 unfold maxLen at hx2
 have HX := Lib.hid hx; have HB := Lib.hid hB; have HL := Lib.hid hl; have HAS := Lib.hid ha; clear hl ha; clear hx hB
 go_enter Tryz.func55, Tryz.ntmps55
 go_upto_region 1 with fail
 have HST := Lib.hid (show FilSt (fun b => w.heap.size ≤ b) 34 w w (anyD) L 0 (.slice none 0 0) w from ⟨(Below.refl _ _), Nat.le_refl _, OwnsS.nil_ _ _ _ _⟩)
 go_wp2_with fail
 go_loopw [3, 8] (fun v i wr => ∃ k : Nat, k ≤ L.length ∧ i = .int .i64 k ∧ Hid (FilSt (fun b => w.heap.size ≤ b) 34 w w (anyD) L k v wr)) (fun _ i _ => L.length - (intOf i).toNat)
 case atStart => exact ⟨0, Nat.zero_le _, rfl, HST⟩
 case round =>
  clear HST
  obtain ⟨k, hk, rfl, HST⟩ := hrel
  have HBR := Lib.hid HST.out.1; have HOWN := Lib.hid HST.out.2.2; have HWR := Lib.hid HST.out.2.1
  by_cases hlt : k < L.length
  ·
   have i1 : (k : Int) < (L.length : Int) := by omega
   obtain ⟨b3, o3, rfl, hb3, A3, c3, hok3, hat3, hcs3⟩ := (HX.out.keep (HBR.out.mono HB.out)).dev hlt
   have hxk : L[k]? = some L[k] := List.getElem?_eq_getElem hlt
   obtain ⟨y, hy⟩ : ∃ y, L[k]'hlt = y := ⟨_, rfl⟩
   rw [hy] at hok3 hcs3 hxk hat3
   have HXK := Lib.hid hxk; have HOK3 := Lib.hid hok3; have HMEM := Lib.hid (List.mem_of_getElem? hxk)
   have HDC := Lib.hid hcs3
   have HAT := Lib.hid hat3; have HB3 := Lib.hid hb3
   clear hxk hok3 hat3 hy hcs3 hb3
   have hacl := filter_len (anyD) L k
   obtain ⟨acc, hacc⟩ : ∃ z, (L.take k).filter (anyD) = z := ⟨_, rfl⟩
   rw [hacc] at hacl HOWN
   have HACC := Lib.hid hacc; have HACL := Lib.hid (Nat.lt_of_le_of_lt hacl hlt); clear hacc hacl
   have HAM := Lib.hid (show acc.length + 1 ≤ maxLen ∧ (acc.length + 1) * 136 ≤ 140737488355328 by have := HACL.out; have := HL.out; constructor <;> first | (unfold maxLen; omega) | omega)
   have HBQwr := Lib.hid (Below.refl wr.heap.size wr)
   have HP := Lib.hid (show anyD y = true from rfl)
   obtain ⟨y0, y1, y2, y3, y4, y5, y6, y7, y8, y9⟩ := HDC.out
   go_upto_region 5 with fail
   clear y0 y1 y2 y3 y4 y5 y6 y7 y8 y9
   obtain ⟨w3, hw3⟩ : ∃ w3, wr.alloc (.cells #[.int .i64 y.idx, .int .i64 y.par, .string y.nm, .string y.orig, .string y.sub, .string y.drv, .string y.ali, .int .i64 y.kind, .int .i64 y.num, .slice A3 y.attrs.length c3] 34) = w3 := ⟨_, rfl⟩
   have hbw3 : Below wr.heap.size wr w3 := by rw [← hw3]; exact (Below.refl _ _).alloc (Nat.le_refl _) _
   have HGw3 := Lib.hid (show w3.heap.size = wr.heap.size + 1 by rw [← hw3]; simp)
   have HXyw3 := Lib.hid (show BoxL w3 wr.heap.size [.int .i64 y.idx, .int .i64 y.par, .string y.nm, .string y.orig, .string y.sub, .string y.drv, .string y.ali, .int .i64 y.kind, .int .i64 y.num, .slice A3 y.attrs.length c3] from box_mk hw3)
   try simp only [hw3]
   have HSTEPw3 := Lib.hid hbw3
   have HSw3 := Lib.hid (show wr.heap.size ≤ w3.heap.size from hbw3.size)
   have HBw3 := Lib.hid (HBR.out.trans (hbw3.mono HBR.out.size))
   have HOw3 := Lib.hid (HOWN.out.below hbw3)
   have HBQw3 := Lib.hid (show Below wr.heap.size wr w3 from HBQwr.out.trans (hbw3.mono HBQwr.out.size))
   clear hw3 hbw3
   try rw [show wr.heap.size + 1 = w3.heap.size from HGw3.out.symm]
   have cy0 := HXyw3.out.1 0 _ rfl
   have cy1 := HXyw3.out.1 1 _ rfl
   have cy2 := HXyw3.out.1 2 _ rfl
   have cy3 := HXyw3.out.1 3 _ rfl
   have cy4 := HXyw3.out.1 4 _ rfl
   have cy5 := HXyw3.out.1 5 _ rfl
   have cy6 := HXyw3.out.1 6 _ rfl
   have cy7 := HXyw3.out.1 7 _ rfl
   have cy8 := HXyw3.out.1 8 _ rfl
   have cy9 := HXyw3.out.1 9 _ rfl
   go_wp2_with fail
   refine (copied_any y A3 c3 _ B (Nat.le_trans HB.out HBw3.out.size) (HAT.out.keep (HBQw3.out.mono (Nat.le_trans HB.out HBR.out.size))) (HAS.out y HMEM.out)).mono ?_
   rintro e w4 ⟨hbw4, A4, c4, rfl, hsl⟩
   clear cy0 cy1 cy2 cy3 cy4 cy5 cy6 cy7 cy8 cy9
   have HSw4 := Lib.hid (show w3.heap.size ≤ w4.heap.size from hbw4.size)
   have HBw4 := Lib.hid (HBw3.out.trans (hbw4.mono HBw3.out.size))
   have yw4 := Lib.hid (HXyw3.out.kept (grown_none hbw4) (fun e => by cases e))
   have HOw4 := Lib.hid (HOw3.out.below hbw4)
   have HBQw4 := Lib.hid (show Below wr.heap.size wr w4 from HBQw3.out.trans (hbw4.mono HBQw3.out.size))
   clear hbw4
   have HSL := Lib.hid (show SlS w4 (fun b => w3.heap.size ≤ b ∧ b < w4.heap.size) A4 c4 y.attrs from hsl); clear hsl
   obtain ⟨wa, hwa⟩ : ∃ z, w4.alloc (.cells #[.int .i64 y.idx, .int .i64 y.par, .string y.nm, .string y.orig, .string y.sub, .string y.drv, .string y.ali, .int .i64 y.kind, .int .i64 y.num, .slice A4 y.attrs.length c4] 34) = z := ⟨_, rfl⟩
   have hba : Below w4.heap.size w4 wa := by rw [← hwa]; exact (Below.refl _ _).alloc (Nat.le_refl _) _
   have HGA := Lib.hid (show wa.heap.size = w4.heap.size + 1 by rw [← hwa]; simp)
   have hnew := lit_cells hwa (l := devCells y A4 c4) rfl
   have HNEW := Lib.hid hnew; clear hnew
   have HSwa := Lib.hid (show w4.heap.size ≤ wa.heap.size from hba.size)
   have HBwa := Lib.hid (HBw4.out.trans (hba.mono HBw4.out.size))
   have ywa := Lib.hid (yw4.out.kept (grown_none hba) (fun e => by cases e))
   have HOwa := Lib.hid (HOw4.out.below hba)
   have HBQwa := Lib.hid (show Below wr.heap.size wr wa from HBQw4.out.trans (hba.mono HBQw4.out.size))
   have HRD := Lib.hid (show RepS.rdS wa (fun b => w.heap.size ≤ b ∧ b < wa.heap.size ∧ u3.ownBlock ≠ some b) y (devCells y A4 c4) from ⟨A4, c4, rfl, HOK3.out, (HSL.out.below hba (fun x hx => hx.2)).mono (fun b hb => ⟨by have := hb.1; have := HBQw3.out.size; have := HBR.out.size; omega, by have := hb.2; have := HGA.out; omega, fun e => by have h5 := (HOWN.out.lt b e).2; have := hb.1; have := HBQw3.out.size; omega⟩) (fun _ _ _ _ hu => hu)⟩)
   clear hba
   go_wp2_with (at_builtin; go_must (refine wpList_app1 E_dev rfl _ _ rfl u3 _ rfl HOwa.out w4.heap.size rfl y (devCells y A4 c4) HNEW.out HRD.out HAM.out.1 HAM.out.2 (by have := HWR.out; have := HBQwa.out.size; omega) ?_); intro v2 w9 hown_ hgrow_ hnew_; have HOWN9 := Lib.hid hown_; have HGROW9 := Lib.hid hgrow_; have HNEW9 := Lib.hid hnew_; clear hown_ hgrow_ hnew_)
   have HB9 := Lib.hid (show Below w.heap.size w w9 from below_own HBwa.out HGROW9.out HBwa.out.size (fun k hk => by have := (HOwa.out.lt k hk).1; omega))
   have HSTn := Lib.hid (show FilSt (fun b => w.heap.size ≤ b) 34 w w (anyD) L (k + 1) v2 w9 from ⟨HB9.out, by have := HWR.out; have := HGROW9.out.size; have := HBQwa.out.size; omega, by rw [filter_step HXK.out, if_pos HP.out, HACC.out]; exact HOWN9.out⟩)
   try go_wp2
   go_roundw
   case rel => exact ⟨k + 1, by omega, by go_num, HSTn⟩
   case measure => simp [intOf]; omega
  ·
   have i1 : ¬ (k : Int) < (L.length : Int) := by omega
   obtain rfl : k = L.length := by omega
   have HF := Lib.hid (filter_end (anyD) L)
   go_wp2
   go_ret
   exact ⟨HBR.out, _, by first | rfl | exact rfl, by have h := HOWN.out; rw [HF.out] at h; exact h.low (by omega)⟩
end Go.Proofs.YtomcebcaendilaaGreatDoor
