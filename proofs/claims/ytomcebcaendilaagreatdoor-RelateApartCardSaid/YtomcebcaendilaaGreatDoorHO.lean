/-
  The walks of the reference's Below and Ancestors, and of law04's same.
-/
import Derived.Test.YtomcebcaendilaaGreatDoorHN
set_option linter.unusedSimpArgs false
set_option linter.unusedVariables false
namespace Go.Proofs.YtomcebcaendilaaGreatDoor
open Go.RowKit Go.Cold
set_option maxRecDepth 100000 in
/-- The reference's Ancestors. -/
theorem RAncestors_any (A : Option Addr) (c : Nat) (L : List Dev) (n : Int) (w : World) (B : Nat) (hB : B ≤ w.heap.size) (hx : Sl w B A c L) (hL : L.length ≤ 1000) (hn : okI n) : Calls Tryz.prog 49 #[.agg #[.slice A L.length c], .int .i64 n] w fun e w' => Below w.heap.size w w' ∧ ∃ (A3 : Option Addr) (c3 : Nat), e = .returned (.slice A3 ((chainO L n).drop 1).length c3) ∧ Sl w' w'.heap.size A3 c3 ((chainO L n).drop 1) := by
 have hx1 := hx.1; have hx2 := hx.2.1
 unfold maxLen at hx2
 have HX := Lib.hid hx; have HB := Lib.hid hB; have HL := Lib.hid hL; have HN := Lib.hid hn
 clear hx hB hL hn
 go_enter Tryz.func49, Tryz.ntmps49
 go_upto_region 1 with fail
 obtain ⟨w1, hw1⟩ : ∃ w1, w.alloc (.cells #[.slice A L.length c] 27) = w1 := ⟨_, rfl⟩
 have hbw1 : Below w.heap.size w w1 := by rw [← hw1]; exact (Below.refl _ _).alloc (Nat.le_refl _) _
 have HGw1 := Lib.hid (show w1.heap.size = w.heap.size + 1 by rw [← hw1]; simp)
 have HXtw1 := Lib.hid (show BoxL w1 w.heap.size [.slice A L.length c] from box_mk hw1)
 try simp only [hw1]
 have HSw1 := Lib.hid (show w.heap.size ≤ w1.heap.size from hbw1.size)
 have HBw1 := Lib.hid hbw1
 clear hw1 hbw1
 try rw [show w.heap.size + 1 = w1.heap.size from HGw1.out.symm]
 have ct0 := HXtw1.out.1 0 _ rfl
 go_wp2_with fail
 refine (RChain_any A c L n _ B (Nat.le_trans HB.out HBw1.out.size) (HX.out.keep (HBw1.out.mono HB.out)) HL.out HN.out).mono ?_
 rintro e w2 ⟨hbw2, v, rfl, hown⟩
 clear ct0
 have HSw2 := Lib.hid (show w1.heap.size ≤ w2.heap.size from hbw2.size)
 have HBw2 := Lib.hid (HBw1.out.trans (hbw2.mono HBw1.out.size))
 have tw2 := Lib.hid (HXtw1.out.kept (grown_none hbw2) (fun e => by cases e))
 clear hbw2
 obtain ⟨A5, c5, rfl, hsl⟩ := hown.sl
 have hs1 := hsl.1; have hs2 := hsl.2.1
 unfold maxLen at hs2
 have HSL := Lib.hid hsl; clear hown hsl
 obtain ⟨ch, hch⟩ : ∃ z, chainO L n = z := ⟨_, rfl⟩
 rw [hch] at HSL hs1 ⊢
 have HCH := Lib.hid hch; clear hch
 rcases ch with _ | ⟨d, r⟩
 ·
  go_wp2
  go_ret
  exact ⟨HBw2.out, none, 0, by rw [HCH.out]; rfl, by rw [HCH.out]; exact Sl.nil_⟩
 ·
  obtain ⟨b5, o5, rfl, -⟩ := HSL.out.2.2 (by simp)
  have hdr := (SlS_iff.1 HSL.out).drop_ (m := 1)
  have HDR := Lib.hid hdr; clear hdr
  have hrl : r.length + 1 ≤ c5 := by simpa using hs1
  clear hs1
  by_cases hc : c5 = 1
  ·
   subst hc
   obtain rfl : r = [] := List.eq_nil_of_length_eq_zero (by omega)
   clear HDR
   go_wp2
   go_ret
   exact ⟨HBw2.out, _, _, by rw [HCH.out]; first | rfl | exact rfl, by rw [HCH.out]; exact ⟨by simp, by unfold maxLen; omega, fun h => absurd h (by simp)⟩⟩
  ·
   rw [if_neg hc] at HDR
   have hc2 : 1 ≤ c5 := by omega
   go_wp2
   go_ret
   exact ⟨HBw2.out, _, _, by rw [HCH.out]; first | rfl | exact rfl, by rw [HCH.out]; rcases HDR.out with h | h; exact SlS_iff.2 h; (have h : r = [] := h; subst h; exact ⟨by simp, by unfold maxLen; omega, fun h => absurd h (by simp)⟩)⟩
end Go.Proofs.YtomcebcaendilaaGreatDoor
namespace Go.Cold
open Go Go.RowKit
theorem OwnsS.wide {α : Type} [RepS α] {F F' : Nat → Prop} {w : World} {base : Nat} {e : TypeId} {v : Value} {xs : List α} (h : OwnsS F w base e v xs) (hF : ∀ x, F x → F' x) : OwnsS F' w base e v xs := by
 obtain ⟨css, h1, h2, h3⟩ := h
 exact ⟨css, h1, h2, fun i x cs hx hcs => RepS.mono (fun b ⟨a1, a2, a3⟩ => ⟨hF b a1, a2, a3⟩) (fun _ _ _ _ hu => hu) (h3 i x cs hx hcs)⟩
end Go.Cold
namespace Go.Proofs.YtomcebcaendilaaGreatDoor
open Go.RowKit Go.Cold
/-- What gathers devices answers. -/
def GotP (F : Nat → Prop) (l : List Dev) (w : World) (e : Ending) (w' : World) : Prop := Below w.heap.size w w' ∧ ∃ v, e = .returned v ∧ OwnsS F w' w.heap.size 34 v l
end Go.Proofs.YtomcebcaendilaaGreatDoor
