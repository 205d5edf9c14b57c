/-
  The plain side of layer 7: contents, and how they lie in memory. No program is named here.
-/
import Derived.Test.YtnlocdhhecockaaGreatDoorBase
set_option linter.unusedSimpArgs false
set_option linter.unusedVariables false
namespace Go.Cold
open Go Go.RowKit

/-- A content. -/
inductive Cont where
  | mk (kind : Int) (id label : ByteArray) (slot total least : Int) (inner : List Cont)

namespace Cont
def kind : Cont → Int | .mk k _ _ _ _ _ _ => k
def id : Cont → ByteArray | .mk _ i _ _ _ _ _ => i
def label : Cont → ByteArray | .mk _ _ l _ _ _ _ => l
def slot : Cont → Int | .mk _ _ _ s _ _ _ => s
def total : Cont → Int | .mk _ _ _ _ t _ _ => t
def least : Cont → Int | .mk _ _ _ _ _ e _ => e
def inner : Cont → List Cont | .mk _ _ _ _ _ _ xs => xs
end Cont
def okInt (n : Int) : Prop := -9223372036854775808 ≤ n ∧ n ≤ 9223372036854775807
def contCells (k : Int) (i l : ByteArray) (s t e : Int) (A : Option Addr) (n c : Nat) : List Value :=
  [.int .i64 k, .string i, .string l, .int .i64 s, .int .i64 t, .int .i64 e, .slice A n c]

mutual
/-- The seven cells cs read as the content; all that is reached lies in blocks of S. -/
def CRdS (w : World) (S : Nat → Prop) : Cont → List Value → Prop
  | .mk k i l s t e xs, cs => ∃ A c, cs = contCells k i l s t e A xs.length c ∧ (okInt k ∧ i.size ≤ maxLen ∧ l.size ≤ maxLen ∧ okInt s ∧ okInt t ∧ okInt e) ∧
      xs.length ≤ c ∧ c ≤ maxLen ∧ (0 < xs.length → ∃ b o, A = some ⟨b, o, none⟩ ∧ S b ∧ CsAtS w S b xs o)
/-- The contents that lie in block b from o on. -/
def CsAtS (w : World) (S : Nat → Prop) (b : Nat) : List Cont → Nat → Prop
  | [], _ => True
  | x :: xs, o => (∃ cs, CRdS w S x cs ∧ ∀ j u, cs[j]? = some u → w.cell? ⟨b, o + j, none⟩ = some u) ∧ CsAtS w S b xs (o + 7)
end
/-- The same, in blocks below B. -/
def CRd (w : World) (B : Nat) (a : Cont) (cs : List Value) : Prop := CRdS w (fun b => b < B) a cs
theorem CsAtS_iff {w : World} {S : Nat → Prop} {b : Nat} : ∀ {xs : List Cont} {o : Nat}, CsAtS w S b xs o ↔ ∀ (i : Nat) x, xs[i]? = some x → ∃ cs, CRdS w S x cs ∧ ∀ j u, cs[j]? = some u → w.cell? ⟨b, o + (i * 7 + j), none⟩ = some u
  | [], o => by rw [CsAtS]; simp
  | y :: ys, o => by
    rw [CsAtS, CsAtS_iff]
    constructor
    · rintro ⟨⟨cs, h1, h2⟩, h3⟩ i x hx
      cases i with
      | zero =>
        simp at hx; subst hx
        exact ⟨cs, h1, fun j u hu => by rw [show o + (0 * 7 + j) = o + j by omega]; exact h2 j u hu⟩
      | succ i =>
        obtain ⟨cs, h4, h5⟩ := h3 i x (by simpa using hx)
        exact ⟨cs, h4, fun j u hu => by rw [show o + ((i + 1) * 7 + j) = o + 7 + (i * 7 + j) by omega]; exact h5 j u hu⟩
    · intro h
      refine ⟨?_, fun i x hx => ?_⟩
      · obtain ⟨cs, h1, h2⟩ := h 0 y rfl
        exact ⟨cs, h1, fun j u hu => by have := h2 j u hu; rwa [show o + (0 * 7 + j) = o + j by omega] at this⟩
      · obtain ⟨cs, h1, h2⟩ := h (i + 1) x (by simpa using hx)
        exact ⟨cs, h1, fun j u hu => by have := h2 j u hu; rwa [show o + ((i + 1) * 7 + j) = o + 7 + (i * 7 + j) by omega] at this⟩
theorem CRdS_len {w : World} {S : Nat → Prop} {a : Cont} {cs : List Value} (h : CRdS w S a cs) : cs.length = 7 := by
  cases a
  rw [CRdS] at h
  obtain ⟨A, c, rfl, _⟩ := h
  rfl
theorem CRdS_one {w : World} {S : Nat → Prop} {a : Cont} {cs : List Value} (h : CRdS w S a cs) : ∀ u ∈ cs, u.oneCell' = true := by
  cases a
  rw [CRdS] at h
  obtain ⟨A, c, rfl, _⟩ := h
  intro u hu
  simp only [contCells, List.mem_cons, List.not_mem_nil, or_false] at hu
  rcases hu with rfl | rfl | rfl | rfl | rfl | rfl | rfl <;> rfl
theorem CRd_len {w : World} {B : Nat} {a : Cont} {cs : List Value} (h : CRd w B a cs) : cs.length = 7 := CRdS_len h
mutual
theorem CRdS_mono {w w' : World} {S S' : Nat → Prop} (hS : ∀ b, S b → S' b) (hc : ∀ b o u, S b → w.cell? ⟨b, o, none⟩ = some u → w'.cell? ⟨b, o, none⟩ = some u) : ∀ (a : Cont) (cs : List Value), CRdS w S a cs → CRdS w' S' a cs
  | .mk k i l s t e xs, cs, h => by
    rw [CRdS] at h ⊢
    obtain ⟨A, c, rfl, h1, h2, h3, h4⟩ := h
    exact ⟨A, c, rfl, h1, h2, h3, fun hn => by
      obtain ⟨b, o, e, hb, h5⟩ := h4 hn
      exact ⟨b, o, e, hS b hb, CsAtS_mono hS hc b hb xs o h5⟩⟩
theorem CsAtS_mono {w w' : World} {S S' : Nat → Prop} (hS : ∀ b, S b → S' b) (hc : ∀ b o u, S b → w.cell? ⟨b, o, none⟩ = some u → w'.cell? ⟨b, o, none⟩ = some u) (b : Nat) (hb : S b) : ∀ (xs : List Cont) (o : Nat), CsAtS w S b xs o → CsAtS w' S' b xs o
  | [], o, _ => by rw [CsAtS]; trivial
  | x :: xs, o, h => by
    rw [CsAtS] at h ⊢
    obtain ⟨⟨cs, h1, h2⟩, h3⟩ := h
    exact ⟨⟨cs, CRdS_mono hS hc x cs h1, fun j u hu => hc _ _ _ hb (h2 j u hu)⟩, CsAtS_mono hS hc b hb xs (o + 7) h3⟩
end
theorem CRd_keep {w w' : World} {B : Nat} (hb : Below B w w') (a : Cont) (cs : List Value) (h : CRd w B a cs) : CRd w' B a cs :=
  CRdS_mono (fun _ h => h) (fun b o u hlt hu => (hb.cell (p := ⟨b, o, none⟩) (by exact hlt)).trans hu) a cs h
theorem CRd_more {w : World} {B B' : Nat} (hB : B ≤ B') (a : Cont) (cs : List Value) (h : CRd w B a cs) : CRd w B' a cs :=
  CRdS_mono (fun b (h : b < B) => (by omega : b < B')) (fun _ _ _ _ hu => hu) a cs h
instance : Rep Cont where
  size := 7
  rd := CRd
  len := CRd_len
  keep := fun hb h => CRd_keep hb _ _ h
  more := fun hB h => CRd_more hB _ _ h
/-- A content, opened: its inner list is a slice that reads. -/
theorem CRd_iff {w : World} {B : Nat} {k : Int} {i l : ByteArray} {s t e : Int} {xs : List Cont} {cs : List Value} :
    CRd w B (.mk k i l s t e xs) cs ↔ ∃ A c, cs = contCells k i l s t e A xs.length c ∧ (okInt k ∧ i.size ≤ maxLen ∧ l.size ≤ maxLen ∧ okInt s ∧ okInt t ∧ okInt e) ∧ Sl w B A c xs := by
  unfold CRd
  rw [CRdS]
  constructor
  · rintro ⟨A, c, h0, h1, h2, h3, h4⟩
    refine ⟨A, c, h0, h1, h2, h3, fun hn => ?_⟩
    obtain ⟨b, o, e, hlt, h5⟩ := h4 hn
    exact ⟨b, o, e, hlt, CsAtS_iff.1 h5⟩
  · rintro ⟨A, c, h0, h1, h2, h3, h4⟩
    refine ⟨A, c, h0, h1, h2, h3, fun hn => ?_⟩
    obtain ⟨b, o, e, hlt, h5⟩ := h4 hn
    exact ⟨b, o, e, hlt, CsAtS_iff.2 h5⟩

/-- Two contents are equal. -/
noncomputable def sameC (a b : Cont) : Bool := open Classical in decide (a = b)
noncomputable def sameL (a b : List Cont) : Bool := open Classical in decide (a = b)
theorem sameC_iff {a b : Cont} : sameC a b = true ↔ a = b := by unfold sameC; simp
theorem sameC_self (a : Cont) : sameC a a = true := sameC_iff.2 rfl
theorem sameC_mk {k k' : Int} {i i' l l' : ByteArray} {s s' t t' e e' : Int} {xs xs' : List Cont} :
    sameC (.mk k i l s t e xs) (.mk k' i' l' s' t' e' xs') = (k == k' && (decide (i = i') && (decide (l = l') && (s == s' && (t == t' && (e == e' && sameL xs xs')))))) := by
  rw [Bool.eq_iff_iff, sameC_iff]
  unfold sameL
  simp

mutual
/-- The depth of a content, where a content of kind 0 counts nothing itself. -/
def depthC : Cont → Int
  | .mk k _ _ _ _ _ xs => if k = 0 then depthL xs else depthL xs + 1
def depthL : List Cont → Int
  | [] => 0
  | x :: xs => max (depthC x) (depthL xs)
end
end Go.Cold
