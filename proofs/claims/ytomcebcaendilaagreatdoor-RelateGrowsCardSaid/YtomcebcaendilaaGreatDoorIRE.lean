/-
  The walk of package relate's Batch.
-/
import Derived.Test.YtomcebcaendilaaGreatDoorIRC
import Derived.Test.YtomcebcaendilaaGreatDoorIRB
set_option linter.unusedSimpArgs false
set_option linter.unusedVariables false
namespace Go.Cold
open Go Go.RowKit
section
variable {P : Program} {tI tB : TypeId}
/-- Where Batch stands: the tree's box, the boxes of three sets, and the sets: bw (the busy ones), bA (what waits), bP (parents). -/
def BaS (P : Program) (tI tB : TypeId) (w0 : World) (gt gw g8 g9 bw bA bP nb nA nP : Nat) (s : Int → Bool) (tr : Value) (sA sP : List Int) (W : World) : Prop :=
 Below w0.heap.size w0 W ∧ BoxL W gt [tr] ∧ BoxL W gw [.map (some bw)] ∧ BoxL W g8 [.map (some bA)] ∧ BoxL W g9 [.map (some bP)] ∧ SetV P tI tB W bw nb s ∧ SetV P tI tB W bA nA (hasL sA) ∧ SetV P tI tB W bP nP (hasL sP)
/-- The order of the blocks. -/
structure BaK (w0 : World) (gt gw g8 g9 bw bA bP : Nat) : Prop where
 ht : w0.heap.size ≤ gt
 hw : gt < bw
 h7 : bw < gw
 hA : gw < bA
 hP : bA < bP
 h8 : bP < g8
 h9 : g8 < g9
variable {w0 W W' : World} {gt gw g8 g9 bw bA bP nb nA nP k : Nat} {s : Int → Bool} {tr : Value} {sA sP : List Int}
theorem BaS.below (h : BaS P tI tB w0 gt gw g8 g9 bw bA bP nb nA nP s tr sA sP W) (hb : Below W.heap.size W W') : BaS P tI tB w0 gt gw g8 g9 bw bA bP nb nA nP s tr sA sP W' := by
 obtain ⟨a1, a2, a3, a4, a5, a6, a7, a8⟩ := h
 have hg := grown_none hb
 exact ⟨a1.trans (hb.mono a1.size), a2.kept hg (fun e => by cases e), a3.kept hg (fun e => by cases e), a4.kept hg (fun e => by cases e), a5.kept hg (fun e => by cases e), a6.next hb, a7.next hb, a8.next hb⟩
theorem OwnsS.keep_int {F : Nat → Prop} {w w' : World} {base : Nat} {e : TypeId} {v : Value} {xs : List Int} {row : Option Nat} (h : OwnsS F w base e v xs) (hg : w.grownBy w' row) (hne : ∀ k, v.ownBlock = some k → row ≠ some k) : OwnsS F w' base e v xs := by
 obtain ⟨css, h1, h2, h3⟩ := h
 refine ⟨css, h1.kept hg ?_, h2, fun i x cs hx hcs => h3 i x cs hx hcs⟩
 cases hv : v.ownBlock with
 | none => exact .inl rfl
 | some k => exact .inr fun e => hne k hv e.symm
theorem OwnsS.ints_sl {F : Nat → Prop} {w : World} {base n c : Nat} {A : Option Addr} {e : TypeId} {xs : List Int} (h : OwnsS F w base e (.slice A n c) xs) : n = xs.length ∧ Sl w w.heap.size A c xs := by
 obtain ⟨A', c', e, h1⟩ := h.ints
 cases e
 exact ⟨rfl, h1⟩
/-- The range's block of deferred calls. -/
def HasD (D : Nat) (W : World) : Prop := W.heap[D]? = some (.deferred (some []))
theorem HasD.lt {D : Nat} {W : World} (h : HasD D W) : D < W.heap.size := (Array.getElem?_eq_some_iff.1 h).1
theorem HasD.below {D : Nat} {W W' : World} (h : HasD D W) (hb : Below W.heap.size W W') : HasD D W' := (hb.block _ h.lt).trans h
theorem HasD.grown {D : Nat} {W W' : World} {row : Option Nat} (h : HasD D W) (hg : W.grownBy W' row) (hne : row ≠ some D) : HasD D W' := (hg.block _ h.lt (fun e => hne e.symm)).trans h
theorem batP_step (L : List Dev) (dirty busy : List Int) {l : List Int} {k : Nat} {n : Int} (h : l[k]? = some n) (acc ps : List Int) : batP L dirty busy (l.drop k) acc ps = if skipBat L dirty busy ps n then batP L dirty busy (l.drop (k + 1)) acc ps else batP L dirty busy (l.drop (k + 1)) (acc ++ [n]) (if partO L n ≠ 0 then parO L n :: ps else ps) := by
 have hk := (List.getElem?_eq_some_iff.1 h).1
 have hn := (List.getElem?_eq_some_iff.1 h).2
 rw [List.drop_eq_getElem_cons hk, hn]
 rfl
theorem batP_end (L : List Dev) (dirty busy l acc ps : List Int) : batP L dirty busy (l.drop l.length) acc ps = acc := by rw [List.drop_length]; rfl
theorem BaS.lt (h : BaS P tI tB w0 gt gw g8 g9 bw bA bP nb nA nP s tr sA sP W) : g9 < W.heap.size := h.2.2.2.2.1.2.2
/-- A block behind the last one is written. -/
theorem BaS.far {row : Option Nat} (h : BaS P tI tB w0 gt gw g8 g9 bw bA bP nb nA nP s tr sA sP W) (K : BaK w0 gt gw g8 g9 bw bA bP) (hg : W.grownBy W' row) (hk : ∀ k, row = some k → g9 < k) : BaS P tI tB w0 gt gw g8 g9 bw bA bP nb nA nP s tr sA sP W' := by
 obtain ⟨a1, a2, a3, a4, a5, a6, a7, a8⟩ := h
 obtain ⟨k1, k2, k3, k4, k5, k6, k7⟩ := K
 exact ⟨a1.grown hg a1.size (fun q hq => by have := hk q hq; omega), a2.kept hg (fun e => by have := hk _ e.symm; omega), a3.kept hg (fun e => by have := hk _ e.symm; omega), a4.kept hg (fun e => by have := hk _ e.symm; omega), a5.kept hg (fun e => by have := hk _ e.symm; omega),
  a6.kept hg (fun e => by have := hk _ e.symm; omega), a7.kept hg (fun e => by have := hk _ e.symm; omega), a8.kept hg (fun e => by have := hk _ e.symm; omega)⟩
theorem BaS.addA {i : Int} (h : BaS P tI tB w0 gt gw g8 g9 bw bA bP nb nA nP s tr sA sP W) (K : BaK w0 gt gw g8 g9 bw bA bP) (hg : W.grownBy W' (some bA)) (hm : SetV P tI tB W' bA (nA + 1) (addS (hasL sA) i)) : BaS P tI tB w0 gt gw g8 g9 bw bA bP nb (nA + 1) nP s tr (sA ++ [i]) sP W' := by
 obtain ⟨a1, a2, a3, a4, a5, a6, a7, a8⟩ := h
 obtain ⟨k1, k2, k3, k4, k5, k6, k7⟩ := K
 exact ⟨a1.grown hg a1.size (fun q hq => by have := Option.some.inj hq; omega), a2.kept hg (fun e => by have := Option.some.inj e; omega), a3.kept hg (fun e => by have := Option.some.inj e; omega), a4.kept hg (fun e => by have := Option.some.inj e; omega), a5.kept hg (fun e => by have := Option.some.inj e; omega),
  a6.kept hg (fun e => by have := Option.some.inj e; omega), by rw [← hasL_snoc]; exact hm, a8.kept hg (fun e => by have := Option.some.inj e; omega)⟩
theorem BaS.addP {i : Int} (h : BaS P tI tB w0 gt gw g8 g9 bw bA bP nb nA nP s tr sA sP W) (K : BaK w0 gt gw g8 g9 bw bA bP) (hg : W.grownBy W' (some bP)) (hm : SetV P tI tB W' bP (nP + 1) (addS (hasL sP) i)) : BaS P tI tB w0 gt gw g8 g9 bw bA bP nb nA (nP + 1) s tr sA (i :: sP) W' := by
 obtain ⟨a1, a2, a3, a4, a5, a6, a7, a8⟩ := h
 obtain ⟨k1, k2, k3, k4, k5, k6, k7⟩ := K
 exact ⟨a1.grown hg a1.size (fun q hq => by have := Option.some.inj hq; omega), a2.kept hg (fun e => by have := Option.some.inj e; omega), a3.kept hg (fun e => by have := Option.some.inj e; omega), a4.kept hg (fun e => by have := Option.some.inj e; omega), a5.kept hg (fun e => by have := Option.some.inj e; omega),
  a6.kept hg (fun e => by have := Option.some.inj e; omega), a7.kept hg (fun e => by have := Option.some.inj e; omega), by rw [← addS_hasL]; exact hm⟩
theorem BaS.more {m : Nat} (h : BaS P tI tB w0 gt gw g8 g9 bw bA bP nb nA nP s tr sA sP W) (hm : nP ≤ m) : BaS P tI tB w0 gt gw g8 g9 bw bA bP nb nA m s tr sA sP W := by
 obtain ⟨a1, a2, a3, a4, a5, a6, a7, a8⟩ := h
 exact ⟨a1, a2, a3, a4, a5, a6, a7, a8.mono hm⟩
end
/-- What the range of Batch has gathered: the parents of busy partitions. -/
def psX (L : List Dev) (busy : List Int) : List DevX → List Int
 | [] => []
 | x :: r => psX L busy r ++ (if decide (partO L x.1.idx ≠ 0) && busy.contains x.1.idx then [x.1.par] else [])
theorem psX_snoc (L : List Dev) (busy : List Int) (x : DevX) : ∀ pre : List DevX, psX L busy (pre ++ [x]) = (if decide (partO L x.1.idx ≠ 0) && busy.contains x.1.idx then [x.1.par] else []) ++ psX L busy pre
 | [] => by rw [List.nil_append, psX, psX, psX, List.nil_append, List.append_nil]
 | y :: r => by rw [List.cons_append, psX, psX_snoc L busy x r, psX, List.append_assoc]
theorem psX_of (L : List Dev) (busy : List Int) : ∀ pre : List DevX, psX L busy pre = (((pre.map (·.1)).filter fun d => decide (partO L d.idx ≠ 0) && busy.contains d.idx).map (·.par)).reverse
 | [] => rfl
 | x :: r => by
  rw [psX, psX_of L busy r, List.map_cons]
  cases hc : (decide (partO L x.1.idx ≠ 0) && busy.contains x.1.idx)
  · rw [List.filter_cons_of_neg (by rw [hc]; decide)]; simp
  · rw [List.filter_cons_of_pos (by exact hc)]; simp
def BaJ (P : Program) (tI tB : TypeId) (w0 : World) (gt gw g8 g9 bw bA bP nb : Nat) (s : Int → Bool) (tr : Value) (L : List Dev) (busy : List Int) (pre : List DevX) (N : Nat) (W : World) : Prop :=
 BaS P tI tB w0 gt gw g8 g9 bw bA bP nb pre.length pre.length s tr (idxX pre) (psX L busy pre) W ∧ g9 < N
/-- What a round leaves alone. -/
def BaR (Z : Nat → Prop) (l D N : Nat) (W X : World) : Prop := KpZ (fun k => Z k ∨ N ≤ k) W X ∧ X.heap[l]? = W.heap[l]? ∧ X.heap[D]? = W.heap[D]?
theorem BaR.refl (Z : Nat → Prop) (l D N : Nat) (W : World) : BaR Z l D N W W := ⟨KpZ.refl _ _, rfl, rfl⟩
theorem BaR.below {Z : Nat → Prop} {l D N : Nat} {W X Y : World} (h : BaR Z l D N W X) (hb : Below X.heap.size X Y) (hl : l < W.heap.size ∧ D < W.heap.size) : BaR Z l D N W Y := by
 have := h.1.1
 exact ⟨h.1.trans (KpZ.below hb), (hb.block _ (by omega)).trans h.2.1, (hb.block _ (by omega)).trans h.2.2⟩
theorem BaR.grown {Z : Nat → Prop} {l D N k : Nat} {W X Y : World} (h : BaR Z l D N W X) (hg : X.grownBy Y (some k)) (hl : l < W.heap.size ∧ D < W.heap.size) (hz : ¬ Z k) (hk : k < N ∧ k ≠ l ∧ k ≠ D) : BaR Z l D N W Y := by
 have := h.1.1
 exact ⟨h.1.trans (KpZ.grown hg (fun h => h.elim hz (fun h => by omega))), (hg.block _ (by omega) (fun e => by have := Option.some.inj e; omega)).trans h.2.1, (hg.block _ (by omega) (fun e => by have := Option.some.inj e; omega)).trans h.2.2⟩
theorem baJ_end {P : Program} {tI tB : TypeId} {w0 W X : World} {gt gw g8 g9 bw bA bP nb m l D N : Nat} {s : Int → Bool} {tr : Value} {L : List Dev} {busy q : List Int} {pre : List DevX} {x : DevX} {Z : Nat → Prop} {a : Act}
  (h : BaS P tI tB w0 gt gw g8 g9 bw bA bP nb (pre.length + 1) m s tr (idxX pre ++ [x.1.idx]) q X) (hq : q = (if decide (partO L x.1.idx ≠ 0) && busy.contains x.1.idx then [x.1.par] else []) ++ psX L busy pre) (hm : m ≤ pre.length + 1) (hr : BaR Z l D N W X) :
  roundP (BaJ P tI tB w0 gt gw g8 g9 bw bA bP nb s tr L busy) Z l D (pre ++ [x]) N W .normal a X := by
 refine ⟨⟨?_, h.lt⟩, hr.1, hr.2.1, hr.2.2⟩
 rw [idxX_snoc, psX_snoc, ← hq, List.length_append, List.length_singleton]
 exact h.more hm
end Go.Cold
namespace Go.Proofs.YtomcebcaendilaaGreatDoor
open Go.RowKit Go.Cold Go.Shelf
attribute [local go_sem] Oper.semAt_some
set_option maxRecDepth 100000 in
set_option maxHeartbeats 4000000 in
/-- relate.Batch. -/
theorem Batch_any (A : Option Addr) (c : Nat) (L : List Dev) (w : World) (B : Nat) (hB : B ≤ w.heap.size) (hx : Sl w B A c L) (hv : VT L) (A2 : Option Addr) (c2 : Nat) (dirty : List Int) (B2 : Nat) (hB2 : B2 ≤ w.heap.size) (hy : Sl w B2 A2 c2 dirty) (A3 : Option Addr) (c3 : Nat) (busy : List Int) (B3 : Nat) (hB3 : B3 ≤ w.heap.size) (hz : Sl w B3 A3 c3 busy) (hd : dirty.length ≤ 100000) (hbn : busy.length ≤ 100000) (hoa : OkA w) :
  Calls Tryz.prog 27 #[.agg #[.slice A L.length c], .slice A2 dirty.length c2, .slice A3 busy.length c3] w (GotI (batR L dirty busy (ordR L dirty) []) w) := by
 have hx1 := hx.1; have hx2 := hx.2.1
 unfold maxLen at hx2
 have hy1 := hy.1; have hy2 := hy.2.1; have hz1 := hz.1; have hz2 := hz.2.1
 have HX := Lib.hid hx; have HB := Lib.hid hB; have HV := Lib.hid hv; have HY := Lib.hid hy; have HYB := Lib.hid hB2; have HZ := Lib.hid hz; have HZB := Lib.hid hB3; have HLN := Lib.hid hv.size; have HDN := Lib.hid hd; have HBN := Lib.hid hbn; have HOA := Lib.hid hoa; have HLA := Lib.hid (show ∀ d ∈ L, d.attrs.length ≤ 1000000 from fun d hd => attrs_le (hv.chk d hd))
 have hmk1 := fun z => run_makeMap (P := Tryz.prog) 65 z
 clear hx hB hv hy hB2 hz hB3 hd hbn hoa
 unfold maxLen at hy2 hz2
 refine callsIn_wide.1 (callsIn_of_wp_marks (n := 3) Tryz.func27 rfl trivial ?_ rfl)
 simp only [Tryz.ntmps27, List.size_toArray, List.length_cons, List.length_nil, Nat.reduceAdd, Nat.reduceSub, Array.replicate_succ, Array.replicate_zero, List.push_toArray, List.append_toArray, List.nil_append, List.cons_append]
 rw [wpIn_wide]
 go_upto_region 1 with fail
 obtain ⟨w1, hw1⟩ : ∃ w1, w.alloc (.cells #[.slice A L.length c] 27) = w1 := ⟨_, rfl⟩
 have hbw1 : Below w.heap.size w w1 := by rw [← hw1]; exact (Below.refl _ _).alloc (Nat.le_refl _) _
 have HGw1 := Lib.hid (show w1.heap.size = w.heap.size + 1 by rw [← hw1]; simp)
 have HXtw1 := Lib.hid (show BoxL w1 w.heap.size [.slice A L.length c] from box_mk hw1)
 try simp only [hw1]
 have HSw1 := Lib.hid (show w.heap.size ≤ w1.heap.size from hbw1.size)
 have HBw1 := Lib.hid hbw1
 clear hw1 hbw1
 try rw [show w.heap.size + 1 = w1.heap.size from HGw1.out.symm]
 go_wp2_with fail
 refine (setOf_any A3 c3 busy _ B3 (Nat.le_trans HZB.out HBw1.out.size) (HZ.out.keep (HBw1.out.mono HZB.out))).mono ?_
 rintro e w2 ⟨hbw2, bw, rfl, hq_, hsm⟩
 have HSw2 := Lib.hid (show w1.heap.size ≤ w2.heap.size from hbw2.size)
 have HBw2 := Lib.hid (HBw1.out.trans (hbw2.mono HBw1.out.size))
 have tw2 := Lib.hid (HXtw1.out.kept (grown_none hbw2) (fun e => by cases e))
 clear hbw2
 have HBW := Lib.hid (show w1.heap.size ≤ bw ∧ bw < w2.heap.size from ⟨hq_, SetV.lt hsm⟩)
 have HSM := Lib.hid hsm; clear hq_ hsm
 go_upto_region 2 with fail
 obtain ⟨w3, hw3⟩ : ∃ w3, w2.alloc (.cells #[.map (some bw)] 65) = w3 := ⟨_, rfl⟩
 have hbw3 : Below w2.heap.size w2 w3 := by rw [← hw3]; exact (Below.refl _ _).alloc (Nat.le_refl _) _
 have HGw3 := Lib.hid (show w3.heap.size = w2.heap.size + 1 by rw [← hw3]; simp)
 have HXxw3 := Lib.hid (show BoxL w3 w2.heap.size [.map (some bw)] from box_mk hw3)
 try simp only [hw3]
 have HSw3 := Lib.hid (show w2.heap.size ≤ w3.heap.size from hbw3.size)
 have HBw3 := Lib.hid (HBw2.out.trans (hbw3.mono HBw2.out.size))
 have tw3 := Lib.hid (tw2.out.kept (grown_none hbw3) (fun e => by cases e))
 have HSMw3 := Lib.hid (SetV.next HSM.out hbw3)
 clear hw3 hbw3
 try rw [show w2.heap.size + 1 = w3.heap.size from HGw3.out.symm]
 go_upto_region 3 with fail
 obtain ⟨w4, hw4⟩ : ∃ w4, w3.alloc (.map #[] 0) = w4 := ⟨_, rfl⟩
 have hb_ : Below w3.heap.size w3 w4 := by rw [← hw4]; exact (Below.refl _ _).alloc (Nat.le_refl _) _
 have HGw4 := Lib.hid (show w4.heap.size = w3.heap.size + 1 by rw [← hw4]; simp)
 have HMA := Lib.hid (show SetR w4 w3.heap.size 0 (hasL []) by rw [← hw4]; exact SetV.made w3 _ _ _)
 try simp only [hw4]
 have HSw4 := Lib.hid (show w3.heap.size ≤ w4.heap.size from hb_.size)
 have HBw4 := Lib.hid (HBw3.out.trans (hb_.mono HBw3.out.size))
 have tw4 := Lib.hid (tw3.out.kept (grown_none hb_) (fun e => by cases e))
 have xw4 := Lib.hid (HXxw3.out.kept (grown_none hb_) (fun e => by cases e))
 have HSMw4 := Lib.hid (SetV.next HSMw3.out hb_)
 clear hb_ hw4
 try rw [show w3.heap.size + 1 = w4.heap.size from HGw4.out.symm]
 obtain ⟨w5, hw5⟩ : ∃ w5, w4.alloc (.map #[] 0) = w5 := ⟨_, rfl⟩
 have hb_ : Below w4.heap.size w4 w5 := by rw [← hw5]; exact (Below.refl _ _).alloc (Nat.le_refl _) _
 have HGw5 := Lib.hid (show w5.heap.size = w4.heap.size + 1 by rw [← hw5]; simp)
 have HMP := Lib.hid (show SetR w5 w4.heap.size 0 (hasL []) by rw [← hw5]; exact SetV.made w4 _ _ _)
 try simp only [hw5]
 have HSw5 := Lib.hid (show w4.heap.size ≤ w5.heap.size from hb_.size)
 have HBw5 := Lib.hid (HBw4.out.trans (hb_.mono HBw4.out.size))
 have tw5 := Lib.hid (tw4.out.kept (grown_none hb_) (fun e => by cases e))
 have xw5 := Lib.hid (xw4.out.kept (grown_none hb_) (fun e => by cases e))
 have HSMw5 := Lib.hid (SetV.next HSMw4.out hb_)
 have HMAw5 := Lib.hid (SetV.next HMA.out hb_)
 clear hb_ hw5
 try rw [show w4.heap.size + 1 = w5.heap.size from HGw5.out.symm]
 obtain ⟨w6, hw6⟩ : ∃ w6, w5.alloc (.cells #[.map (some w3.heap.size)] 65) = w6 := ⟨_, rfl⟩
 have hb_ : Below w5.heap.size w5 w6 := by rw [← hw6]; exact (Below.refl _ _).alloc (Nat.le_refl _) _
 have HGw6 := Lib.hid (show w6.heap.size = w5.heap.size + 1 by rw [← hw6]; simp)
 have HX8 := Lib.hid (show BoxL w6 w5.heap.size [.map (some w3.heap.size)] from box_mk hw6)
 try simp only [hw6]
 have HSw6 := Lib.hid (show w5.heap.size ≤ w6.heap.size from hb_.size)
 have HBw6 := Lib.hid (HBw5.out.trans (hb_.mono HBw5.out.size))
 have tw6 := Lib.hid (tw5.out.kept (grown_none hb_) (fun e => by cases e))
 have xw6 := Lib.hid (xw5.out.kept (grown_none hb_) (fun e => by cases e))
 have HSMw6 := Lib.hid (SetV.next HSMw5.out hb_)
 have HMAw6 := Lib.hid (SetV.next HMAw5.out hb_)
 have HMPw6 := Lib.hid (SetV.next HMP.out hb_)
 clear hb_ hw6
 try rw [show w5.heap.size + 1 = w6.heap.size from HGw6.out.symm]
 obtain ⟨w7, hw7⟩ : ∃ w7, w6.alloc (.cells #[.map (some w4.heap.size)] 65) = w7 := ⟨_, rfl⟩
 have hb_ : Below w6.heap.size w6 w7 := by rw [← hw7]; exact (Below.refl _ _).alloc (Nat.le_refl _) _
 have HGw7 := Lib.hid (show w7.heap.size = w6.heap.size + 1 by rw [← hw7]; simp)
 have HX9 := Lib.hid (show BoxL w7 w6.heap.size [.map (some w4.heap.size)] from box_mk hw7)
 try simp only [hw7]
 have HSw7 := Lib.hid (show w6.heap.size ≤ w7.heap.size from hb_.size)
 have HBw7 := Lib.hid (HBw6.out.trans (hb_.mono HBw6.out.size))
 have tw7 := Lib.hid (tw6.out.kept (grown_none hb_) (fun e => by cases e))
 have xw7 := Lib.hid (xw6.out.kept (grown_none hb_) (fun e => by cases e))
 have m8w7 := Lib.hid (HX8.out.kept (grown_none hb_) (fun e => by cases e))
 have HSMw7 := Lib.hid (SetV.next HSMw6.out hb_)
 have HMAw7 := Lib.hid (SetV.next HMAw6.out hb_)
 have HMPw7 := Lib.hid (SetV.next HMPw6.out hb_)
 clear hb_ hw7
 try rw [show w6.heap.size + 1 = w7.heap.size from HGw7.out.symm]
 have HBK := Lib.hid (show BaK w w.heap.size w2.heap.size w5.heap.size w6.heap.size bw w3.heap.size w4.heap.size from ⟨Nat.le_refl _, by have := HGw1.out; have := HBW.out; omega, HBW.out.2, by have := HGw3.out; omega, by have := HGw4.out; omega, by have := HGw5.out; omega, by have := HGw6.out; omega⟩)
 have HS7 := Lib.hid (show BaS Tryz.prog 3 71 w w.heap.size w2.heap.size w5.heap.size w6.heap.size bw w3.heap.size w4.heap.size busy.length (0) (0) (hasL busy) (.slice A L.length c) ([]) ([]) w7 from ⟨HBw7.out, tw7.out, xw7.out, m8w7.out, HX9.out, HSMw7.out, HMAw7.out, HMPw7.out⟩)
 refine wp_nopanic ?_
 refine wp_region_held_drew (S := fun w' => BoxL w' w.heap.size [.slice A L.length c]) (by kernel_rfl) HS7.out.2.1.drew (fun hS0 => ?_)
 obtain ⟨wd, hwd⟩ : ∃ z, World.drew w7 = z := ⟨_, rfl⟩
 rw [hwd] at hS0 ⊢
 have hbd : Below w7.heap.size w7 wd := by rw [← hwd]; exact below_drewN_self _ _ 1
 clear hwd hS0
 have HSwd := Lib.hid (show w7.heap.size ≤ wd.heap.size from hbd.size)
 have HBwd := Lib.hid (HBw7.out.trans (hbd.mono HBw7.out.size))
 have BSwd := Lib.hid (BaS.below HS7.out hbd)
 clear hbd
 refine wpAnyH_take (i := 0) (oi := ⟨some 24, _, _, _, _, _⟩) (v := .agg #[.slice A L.length c]) rfl (by kernel_rfl) (by kernel_rfl) (by kernel_rfl) (fun _ _ _ h => h) (Or.inl ⟨by rfl, fun w' hS => by (have u0_ := hS.1 0 _ rfl; go_simp)⟩) BSwd.out.2.1 ?_
 try simp only [Act.put, List.setIfInBounds_toArray, List.set_cons_zero, List.set_cons_succ]
 refine wpAnyH_take (i := 1) (oi := ⟨some 25, _, _, _, _, _⟩) (v := .slice A2 dirty.length c2) rfl (by kernel_rfl) (by kernel_rfl) (by kernel_rfl) (fun _ _ _ h => h) (Or.inl ⟨by rfl, fun w' hS => by go_simp⟩) BSwd.out.2.1 ?_
 try simp only [Act.put, List.setIfInBounds_toArray, List.set_cons_zero, List.set_cons_succ]
 refine wpAnyH_take (i := 3) (oi := ⟨some 27, _, _, _, _, _⟩) (v := .slice A3 busy.length c3) rfl (by kernel_rfl) (by kernel_rfl) (by kernel_rfl) (fun _ _ _ h => h) (Or.inl ⟨by rfl, fun w' hS => by go_simp⟩) BSwd.out.2.1 ?_
 try simp only [Act.put, List.setIfInBounds_toArray, List.set_cons_zero, List.set_cons_succ]
 refine wpAnyH_ready (rs := [2]) (by kernel_rfl) (by simp) ?_
 refine AllReadyH.cons (o := ⟨some 26, .call ⟨_, _, _⟩, _, _, _, _⟩) rfl (fun K hK => ?_) AllReadyH.nil
 refine step_app rfl _ _ rfl (.slice none 0 0) (.slice A2 dirty.length c2) (by simp [Act.eval, Act.put]) (by simp [Act.eval, Act.put]) (run_appL E_int _ (.slice none 0 0) ([] : List Int) (OwnsS.nil_ (fun _ => True) wd wd.heap.size _) A2 c2 dirty (.inl (show SlS _ _ _ _ _ from (SlS_iff.1 (HY.out.keep (HBwd.out.mono HYB.out))).mono (fun b hb => ⟨trivial, by have hb : b < _ := hb; have := HYB.out; have := HBwd.out.size; omega, fun e => by cases e⟩) (fun _ _ _ _ hu => hu))) (by have := HDN.out; simp; unfold maxLen; omega) (by have := HDN.out; simp; omega) (Nat.le_refl _)) ?_
 rintro v1 q1 ⟨ho_, hg_, -⟩
 rw [List.nil_append] at ho_
 have hb_ : Below wd.heap.size wd q1 := below_own (Below.refl _ _) hg_ (Nat.le_refl _) (fun k hk => by cases hk)
 have HO1 := Lib.hid ho_; clear ho_ hg_
 have HSq1 := Lib.hid (show wd.heap.size ≤ q1.heap.size from hb_.size)
 have HBq1 := Lib.hid (HBwd.out.trans (hb_.mono HBwd.out.size))
 have BSq1 := Lib.hid (BaS.below BSwd.out hb_)
 clear hb_
 refine hK.out _ _ BSq1.out.2.1 (fun _ => ?_)
 clear hK K
 try simp only [Act.put, List.setIfInBounds_toArray, List.set_cons_zero, List.set_cons_succ]
 refine wpAnyH_ready (rs := [4]) (by kernel_rfl) (by simp) ?_
 refine AllReadyH.cons (o := ⟨some 28, .call ⟨_, _, _⟩, _, _, _, _⟩) rfl (fun K hK => ?_) AllReadyH.nil
 obtain ⟨A6, c6, hv1, -⟩ := HO1.out.cs
 refine step_app rfl _ _ rfl v1 (.slice A3 busy.length c3) (by simp [Act.eval, Act.put]) (by simp [Act.eval, Act.put]) (run_appL E_int _ v1 dirty HO1.out A3 c3 busy (.inl (show SlS _ _ _ _ _ from (SlS_iff.1 (HZ.out.keep (HBq1.out.mono HZB.out))).mono (fun b hb => ⟨trivial, by have hb : b < _ := hb; have := HZB.out; have := HBq1.out.size; omega, fun e => by have := (HO1.out.lt _ e).1; have := HZB.out; have := HBwd.out.size; omega⟩) (fun _ _ _ _ hu => hu))) (by have := HDN.out; have := HBN.out; unfold maxLen; omega) (by have := HDN.out; have := HBN.out; omega) (HSq1.out)) ?_
 rintro v2 q2 ⟨ho_, hg_, -⟩
 clear hv1
 obtain ⟨ds, hds⟩ : ∃ z, dirty ++ busy = z := ⟨_, rfl⟩
 rw [hds] at ho_
 have HDS := Lib.hid hds; clear hds
 have HBq2 := Lib.hid (HBq1.out.grown hg_ HBq1.out.size (fun k hk => by have := (HO1.out.lt k hk).1; have := HBwd.out.size; omega))
 have HSq2 := Lib.hid (show q1.heap.size ≤ q2.heap.size from hg_.size)
 have BSq2 := Lib.hid (BSq1.out.far HBK.out hg_ (fun k hk => by have := (HO1.out.lt k hk).1; have := HGw7.out; have := HSwd.out; omega))
 obtain ⟨A7, c7, hv2, hs7⟩ := ho_.ints
 subst hv2
 have HS7b := Lib.hid hs7; clear ho_ hg_ hs7
 refine hK.out _ _ BSq2.out.2.1 (fun _ => ?_)
 clear hK K
 try simp only [Act.put, List.setIfInBounds_toArray, List.set_cons_zero, List.set_cons_succ]
 refine wpAnyH_ready (rs := [5]) (by kernel_rfl) (by simp) ?_
 refine AllReadyH.cons (o := ⟨some 29, .call ⟨_, _, _⟩, _, _, _, _⟩) rfl (fun K hK => ?_) AllReadyH.nil
 go_simp
 go_at_call 46
 refine (setOf_any A7 c7 ds q2 q2.heap.size (Nat.le_refl _) HS7b.out).mono ?_
 rintro e' q3 ⟨hb_, bm, rfl, hq_, hsm_⟩
 have HSM := Lib.hid hsm_; have HBM := Lib.hid (show q2.heap.size ≤ bm ∧ bm < q3.heap.size from ⟨hq_, SetV.lt hsm_⟩); clear hsm_ hq_
 have HSq3 := Lib.hid (show q2.heap.size ≤ q3.heap.size from hb_.size)
 have HBq3 := Lib.hid (HBq2.out.trans (hb_.mono HBq2.out.size))
 have BSq3 := Lib.hid (BaS.below BSq2.out hb_)
 clear hb_ HS7b
 refine hK.out _ _ BSq3.out.2.1 (fun _ => ?_)
 clear hK K
 try simp only [Act.put, List.setIfInBounds_toArray, List.set_cons_zero, List.set_cons_succ]
 refine wpAnyH_ready (rs := [6]) (by kernel_rfl) (by simp) ?_
 refine AllReadyH.cons (o := ⟨some 30, .call ⟨_, _, _⟩, _, _, _, _⟩) rfl (fun K hK => ?_) AllReadyH.nil
 go_simp
 go_at_call 48
 refine (below_any _ _ _).mono ?_
 rintro e' u2 ⟨rfl, hw_⟩
 obtain ⟨u1, hu1⟩ : ∃ z, q3.alloc (.cells #[.slice A L.length c] 27) = z := ⟨_, rfl⟩
 have hb_ : Below q3.heap.size q3 u1 := by rw [← hu1]; exact (Below.refl _ _).alloc (Nat.le_refl _) _
 have HGu1 := Lib.hid (show u1.heap.size = q3.heap.size + 1 by rw [← hu1]; simp)
 have HXv := Lib.hid (show BoxL u1 q3.heap.size [.slice A L.length c] from box_mk hu1)
 have HSM1 := Lib.hid (SetV.next HSM.out hb_)
 rw [hu1] at hw_
 try rw [show q3.heap.size + 1 = u1.heap.size from HGu1.out.symm]
 clear hu1
 have HSu1 := Lib.hid (show q3.heap.size ≤ u1.heap.size from hb_.size)
 have HBu1 := Lib.hid (HBq3.out.trans (hb_.mono HBq3.out.size))
 have BSu1 := Lib.hid (BaS.below BSq3.out hb_)
 clear hb_
 have hb_ : Below u1.heap.size u1 u2 := by rw [hw_]; exact (Below.refl _ _).alloc (Nat.le_refl _) _
 have HGu2 := Lib.hid (show u2.heap.size = u1.heap.size + 1 by rw [hw_]; simp)
 have HXi := Lib.hid (show BoxL u2 u1.heap.size [.map (some bm)] from box_mk hw_.symm)
 have HSM2 := Lib.hid (SetV.next HSM1.out hb_)
 clear hw_
 have HSu2 := Lib.hid (show u1.heap.size ≤ u2.heap.size from hb_.size)
 have HBu2 := Lib.hid (HBu1.out.trans (hb_.mono HBu1.out.size))
 have vu2 := Lib.hid (HXv.out.kept (grown_none hb_) (fun e => by cases e))
 have BSu2 := Lib.hid (BaS.below BSu1.out hb_)
 clear hb_
 refine hK.out _ _ BSu2.out.2.1 (fun _ => ?_)
 clear hK K
 try simp only [Act.put, List.setIfInBounds_toArray, List.set_cons_zero, List.set_cons_succ]
 refine wpAnyH_done (by kernel_rfl) ?_ _
 dsimp only [nOnly]
 have HNUM := Lib.hid (show (B ≤ w.heap.size ∧ w.heap.size < bw ∧ bw < w2.heap.size ∧ w2.heap.size < w3.heap.size ∧ w3.heap.size < w4.heap.size ∧ w4.heap.size < w5.heap.size ∧ w5.heap.size < w6.heap.size ∧ w6.heap.size < wd.heap.size) ∧ w6.heap.size < bm ∧ bm < q3.heap.size ∧ q3.heap.size < u1.heap.size ∧ u1.heap.size < u2.heap.size from ⟨⟨HB.out, HBK.out.hw, HBK.out.h7, HBK.out.hA, HBK.out.hP, HBK.out.h8, HBK.out.h9, by have := HGw7.out; have := HSwd.out; omega⟩, by have := HBM.out; have := HSq2.out; have := HSq1.out; have := HSwd.out; have := HGw7.out; omega, HBM.out.2, by have := HGu1.out; omega, by have := HGu2.out; omega⟩)
 have HDL := Lib.hid (show ∀ (pre : List DevX) (y : Dev) t, pre.map (·.1) ++ y :: t = goS (hasL ds) L [] → y ∈ L ∧ pre.length + 1 ≤ 256 from fun pre y t h => ⟨goS_mem _ _ _ y (by rw [← h]; simp), by have h1 := goS_len (hasL ds) L []; rw [← h] at h1; simp at h1; have := HLN.out; omega⟩)
 go_wp2_with fail
 refine wpIn_wide.1 (wpIn_rangeB (n := 3) 31 10 rfl (by omega) rfl trivial (enters_of Tryz.func82 (by kernel_rfl) rfl) (below1_seq 2 (q3.heap.size) (u1.heap.size) bm ds.length (hasL ds) A c B L u2 (Nat.le_trans HB.out HBu2.out.size) vu2.out HXi.out HSM2.out (HX.out.keep (HBu2.out.mono HB.out)) (by have := HLN.out; omega) (by have := HNUM.out; omega)) (fun k hk => by have hk : k = u2.heap.size + 2 := hk; show k ≠ _ ∧ k ≠ _; omega) (fun h => by have := HNUM.out; unfold beZ at h; omega) (BaJ Tryz.prog 3 71 w w.heap.size w2.heap.size w5.heap.size w6.heap.size bw w3.heap.size w4.heap.size busy.length (hasL busy) (.slice A L.length c) L busy) (fun pre N X Y h hst => by rcases hst with hb | ⟨k, rfl, hg⟩; exact ⟨h.1.below hb, h.2⟩; exact ⟨h.1.far HBK.out hg (fun k hk => by have := Option.some.inj hk; have := HNUM.out; omega), h.2⟩) (fun pre N X o h => ⟨h.1.far HBK.out (grownBy_putObj' X _ o) (fun k hk => by have := Option.some.inj hk; have := HNUM.out; omega), h.2⟩) (fun W0 hW0 hs0 => ⟨BSu2.out.below hW0, by have := HNUM.out; omega⟩) (nxX_keep (by have := HNUM.out; omega)) (fun x => #[.int .i64 x.1.idx, .int .i64 x.1.par, .string x.1.nm, .string x.1.orig, .string x.1.sub, .string x.1.drv, .string x.1.ali, .int .i64 x.1.kind, .int .i64 x.1.num, .slice x.2.1 x.1.attrs.length x.2.2]) 34 ?assign ?body ?done)
 case assign =>
  intro l x W0 K hK
  simp only [encV] at hK ⊢
  gi_wp2
  exact hK
 case body =>
  rintro pre ⟨y, A9, c9⟩ N W0 g7 hJ hN hNg hNx hbox hsz
  obtain ⟨hbs, hg9⟩ := hJ
  obtain ⟨⟨t, ht⟩, hok, hat⟩ := hNx
  obtain ⟨hym, hpl⟩ := HDL.out pre y t ht
  have HNW := Lib.hid (show N ≤ W0.heap.size ∧ g7 < W0.heap.size ∧ N ≤ g7 ∧ w6.heap.size < N ∧ u2.heap.size + 2 ≤ N ∧ u2.heap.size + 2 ≤ W0.heap.size from ⟨Nat.le_trans hNg (Nat.le_of_lt hbox.2.2), hbox.2.2, hNg, hg9, hN, hsz⟩)
  have HJS := Lib.hid hbs; have HOK := Lib.hid hok; have HBX := Lib.hid hbox; have HPL := Lib.hid (show pre.length < maxLen by unfold maxLen; omega)
  have HBR := Lib.hid (BaR.refl (beZ q3.heap.size u1.heap.size bm (u2.heap.size + 2) B) (u2.heap.size + 1) u2.heap.size N W0)
  clear hbs hg9 ht hok hat hym hpl hN hNg hbox hsz
  simp only [encV]
  have y0 := HBX.out.1 0 _ rfl; have y1 := HBX.out.1 1 _ rfl; have x3 := HJS.out.2.1.1 0 _ rfl; have x7 := HJS.out.2.2.1.1 0 _ rfl; have x8 := HJS.out.2.2.2.1.1 0 _ rfl; have x9 := HJS.out.2.2.2.2.1.1 0 _ rfl
  gi_wp2_with (gi_at_mapUpdate; refine wpListIn_add rfl _ _ _ _ rfl HJS.out.2.2.2.2.2.2.1 Tryz.underlying65 Tryz.underlying3 rfl y.idx HOK.out.1 HPL.out rfl rfl ?_; intro r1 hm_ hg_; have HJS1 := Lib.hid (HJS.out.addA HBK.out hg_ hm_); have HBX1 := Lib.hid (HBX.out.kept hg_ (fun e => by have := Option.some.inj e; have := HNUM.out; have := HNW.out; omega)); have HBR1 := Lib.hid (HBR.out.grown hg_ ⟨by have := HNUM.out; have := HNW.out; omega, by have := HNW.out; omega⟩ (fun h => by have := HNUM.out; unfold beZ at h; omega) ⟨by have := HNUM.out; have := HNW.out; omega, by have := HNUM.out; omega, by have := HNUM.out; omega⟩); clear hm_ hg_ y0 y1 x3 x7 x8 x9; have y0 := HBX1.out.1 0 _ rfl; have y1 := HBX1.out.1 1 _ rfl; have x3 := HJS1.out.2.1.1 0 _ rfl; have x7 := HJS1.out.2.2.1.1 0 _ rfl; have x8 := HJS1.out.2.2.2.1.1 0 _ rfl; have x9 := HJS1.out.2.2.2.2.1.1 0 _ rfl)
  refine ⟨trivial, ?_⟩
  refine (CallsIn.inRound _ (callsIn_wide.2 (Partition_any A c L y.idx _ B (Nat.le_trans HB.out HJS1.out.1.size) (HX.out.keep (HJS1.out.1.mono HB.out)) HV.out (HOA.out.next HJS1.out.1)))).mono ?_
  rintro e r2 ⟨rfl, hb_⟩
  have HJS2 := Lib.hid (HJS1.out.below hb_); have HBX2 := Lib.hid (HBX1.out.kept (grown_none hb_) (fun e => by cases e)); have HBR2 := Lib.hid (HBR1.out.below hb_ ⟨by have := HNUM.out; have := HNW.out; omega, by have := HNW.out; omega⟩)
  clear hb_
  clear y0 y1 x3 x7 x8 x9
  have y0 := HBX2.out.1 0 _ rfl; have y1 := HBX2.out.1 1 _ rfl; have x3 := HJS2.out.2.1.1 0 _ rfl; have x7 := HJS2.out.2.2.1.1 0 _ rfl; have x8 := HJS2.out.2.2.2.1.1 0 _ rfl; have x9 := HJS2.out.2.2.2.2.1.1 0 _ rfl
  obtain ⟨z, hz⟩ : ∃ z, decide (partO L y.idx ≠ 0) = z := ⟨_, rfl⟩
  rw [hz]
  have HPZ := Lib.hid hz; clear hz
  cases z
  ·
   gi_wp2_with fail
   refine ⟨trivial, ?_⟩
   gi_wp2
   exact baJ_end (x := (y, A9, c9)) (m := pre.length) (a := { tmps := #[], defers := [] }) HJS2.out (by show _ = (if decide (partO L y.idx ≠ 0) && busy.contains y.idx then _ else _) ++ _; rw [HPZ.out, Bool.false_and]; rfl) (by omega) HBR2.out
  ·
   gi_wp2_with fail
   refine ⟨trivial, ?_⟩
   refine (CallsIn.inRound _ (callsIn_wide.2 (setHas_any bw busy.length (hasL busy) y.idx _ HJS2.out.2.2.2.2.2.1 HOK.out.1))).mono ?_
   rintro e r3 ⟨rfl, hb_⟩
   have HJS3 := Lib.hid (HJS2.out.below hb_); have HBX3 := Lib.hid (HBX2.out.kept (grown_none hb_) (fun e => by cases e)); have HBR3 := Lib.hid (HBR2.out.below hb_ ⟨by have := HNUM.out; have := HNW.out; omega, by have := HNW.out; omega⟩)
   clear hb_
   clear y0 y1 x3 x7 x8 x9
   have y0 := HBX3.out.1 0 _ rfl; have y1 := HBX3.out.1 1 _ rfl; have x3 := HJS3.out.2.1.1 0 _ rfl; have x7 := HJS3.out.2.2.1.1 0 _ rfl; have x8 := HJS3.out.2.2.2.1.1 0 _ rfl; have x9 := HJS3.out.2.2.2.2.1.1 0 _ rfl
   obtain ⟨z, hz⟩ : ∃ z, hasL busy y.idx = z := ⟨_, rfl⟩
   rw [hz]
   have HHZ := Lib.hid (show busy.contains y.idx = z from hz); clear hz
   cases z
   ·
    gi_wp2
    exact baJ_end (x := (y, A9, c9)) (m := pre.length) (a := { tmps := #[], defers := [] }) HJS3.out (by show _ = (if decide (partO L y.idx ≠ 0) && busy.contains y.idx then _ else _) ++ _; rw [HPZ.out, HHZ.out, Bool.and_false]; rfl) (by omega) HBR3.out
   ·
    gi_wp2_with (gi_at_mapUpdate; refine wpListIn_add rfl _ _ _ _ rfl HJS3.out.2.2.2.2.2.2.2 Tryz.underlying65 Tryz.underlying3 rfl y.par HOK.out.2.1 HPL.out rfl rfl ?_; intro r4 hm_ hg_; have HJS4 := Lib.hid (HJS3.out.addP HBK.out hg_ hm_); have HBX4 := Lib.hid (HBX3.out.kept hg_ (fun e => by have := Option.some.inj e; have := HNUM.out; have := HNW.out; omega)); have HBR4 := Lib.hid (HBR3.out.grown hg_ ⟨by have := HNUM.out; have := HNW.out; omega, by have := HNW.out; omega⟩ (fun h => by have := HNUM.out; unfold beZ at h; omega) ⟨by have := HNUM.out; have := HNW.out; omega, by have := HNUM.out; omega, by have := HNUM.out; omega⟩); clear hm_ hg_ y0 y1 x3 x7 x8 x9; have y0 := HBX4.out.1 0 _ rfl; have y1 := HBX4.out.1 1 _ rfl; have x3 := HJS4.out.2.1.1 0 _ rfl; have x7 := HJS4.out.2.2.1.1 0 _ rfl; have x8 := HJS4.out.2.2.2.1.1 0 _ rfl; have x9 := HJS4.out.2.2.2.2.1.1 0 _ rfl)
    try gi_wp2
    exact baJ_end (x := (y, A9, c9)) (m := pre.length + 1) (a := { tmps := #[], defers := [] }) HJS4.out (by show _ = (if decide (partO L y.idx ≠ 0) && busy.contains y.idx then _ else _) ++ _; rw [HPZ.out, HHZ.out]; rfl) (by omega) HBR4.out
 case done =>
  intro zs N W0 hS hJ hD
  obtain ⟨hbs, hg9⟩ := hJ
  have HWT := Lib.hid (show ∀ m, hasL (idxX zs) m = waitB L dirty busy m from fun m => by rw [idxX_fst, hS, goS_all HV.out.wf]; show (idxs _).contains m = _; rw [wait_has]; unfold waitB; congr 1; funext k; rw [← HDS.out]; exact List.contains_append ..)
  have HPS := Lib.hid (show psX L busy zs = psOf L dirty busy by rw [psX_of, hS, goS_all HV.out.wf]; unfold psOf; congr 3; congr 1; funext d; congr 1; funext k; rw [← HDS.out]; exact List.contains_append ..)
  have HZL := Lib.hid (show zs.length ≤ 256 by have h1 := goS_len (hasL ds) L []; rw [← hS] at h1; simp at h1; have := HLN.out; omega)
  obtain ⟨sA, hsA⟩ : ∃ z, idxX zs = z := ⟨_, rfl⟩
  obtain ⟨sP, hsP⟩ : ∃ z, psX L busy zs = z := ⟨_, rfl⟩
  obtain ⟨zl, hzl⟩ : ∃ z, zs.length = z := ⟨_, rfl⟩
  rw [hsA, hsP, hzl] at hbs
  rw [hsA] at HWT
  rw [hsP] at HPS
  rw [hzl] at HZL
  clear hsA hsP hzl hS
  have HBS := Lib.hid hbs; have HD := Lib.hid (show HasD u2.heap.size W0 from hD); clear hbs hD hg9
  have HR0 := Lib.hid (show batP L dirty busy (ordR L dirty) [] sP = batR L dirty busy (ordR L dirty) [] by rw [HPS.out]; exact batch_same HV.out.wf dirty busy)
  clear HPS
  have x3 := HBS.out.2.1.1 0 _ rfl
  go_wp2_with fail
  refine (Order_any A c L _ B (Nat.le_trans HB.out HBS.out.1.size) (HX.out.keep (HBS.out.1.mono HB.out)) HV.out A2 c2 dirty B2 (Nat.le_trans HYB.out HBS.out.1.size) (HY.out.keep (HBS.out.1.mono HYB.out))).mono ?_
  rintro e W1 ⟨hb_, v4, rfl, hls_⟩
  obtain ⟨l, hl⟩ : ∃ l, ordR L dirty = l := ⟨_, rfl⟩
  rw [hl] at hls_ HR0
  have HLE := Lib.hid hl
  clear x3
  have HSW1 := Lib.hid (show W0.heap.size ≤ W1.heap.size from hb_.size)
  have HBW1 := Lib.hid hb_
  have BSW1 := Lib.hid (BaS.below HBS.out hb_)
  have HDW1 := Lib.hid (HasD.below HD.out hb_)
  clear hb_
  obtain ⟨A4, c4, hv4, hs4⟩ := hls_.ints
  subst hv4
  have hl1 := hs4.1; have hl2 := hs4.2.1
  unfold maxLen at hl2
  have HLO := Lib.hid hls_; have HLL := Lib.hid (show l.length ≤ 256 by rw [← hl]; have h1 := ord_len (L := L) (p := fun d => dirty.contains d.idx) L.length; rw [List.take_length] at h1; have h2 : (ordR L dirty).length ≤ L.length := h1; have := HLN.out; omega)
  have HLB := Lib.hid (show ∀ k, (Value.slice A4 l.length c4).ownBlock = some k → W0.heap.size ≤ k ∧ k < W1.heap.size from hls_.lt)
  clear hl hls_ hs4
  skip
  have HDW := Lib.hid (show u2.heap.size < W0.heap.size from HD.out.lt)
  have HOW := Lib.hid (show OwnsS (fun _ => True) W1 W1.heap.size 3 (.slice none 0 0) ([] : List Int) from OwnsS.nil_ _ _ _ _)
  go_wp2_with fail
  go_loopw [13, 58] (fun v i wr => ∃ (k : Nat) (acc ps : List Int), k ≤ l.length ∧ acc.length ≤ k ∧ i = .int .i64 k ∧ Hid (W1.heap.size ≤ wr.heap.size) ∧ Hid (batP L dirty busy (l.drop (k)) (acc) (ps) = batR L dirty busy l []) ∧ Hid (BaS Tryz.prog 3 71 w w.heap.size w2.heap.size w5.heap.size w6.heap.size bw w3.heap.size w4.heap.size busy.length (zl) (zl + k) (hasL busy) (.slice A L.length c) (sA) (ps) wr) ∧ Hid (HasD u2.heap.size wr) ∧ Hid (OwnsS (fun _ => True) wr W0.heap.size 3 (.slice A4 l.length c4) l) ∧ Hid (OwnsS (fun _ => True) wr W1.heap.size 3 v (acc))) (fun _ i _ => l.length - (intOf i).toNat)
  case atStart => exact ⟨0, [], sP, Nat.zero_le _, Nat.le_refl _, rfl, Lib.hid (by exact Nat.le_refl _), HR0, BSW1, HDW1, HLO, HOW⟩
  case round =>
   clear HR0 HOW
   obtain ⟨k, acc, ps, hk, hak, rfl, HWR, HBA, HBS2, HDR, HLR, HOR⟩ := hrel
   by_cases hlt : k < l.length
   ·
    have i1 : (k : Int) < (l.length : Int) := by omega
    obtain ⟨b4, o4, rfl, hb4, hc4, hok4, hok5⟩ := HLR.out.ints_sl.2.int hlt
    obtain ⟨n, hn⟩ : ∃ n, l[k]'hlt = n := ⟨_, rfl⟩
    rw [hn] at hc4 hok4 hok5
    have HXK := Lib.hid (show l[k]? = some n by rw [List.getElem?_eq_getElem hlt, hn])
    have HOKN := Lib.hid (show okI n from ⟨hok4, hok5⟩)
    clear hn hok4 hok5 hb4
    have hst := batP_step L dirty busy HXK.out acc ps
    rw [HBA.out] at hst
    have HST := Lib.hid hst; clear hst
    have HAM := Lib.hid (show acc.length + 1 ≤ maxLen ∧ (acc.length + 1) * 8 ≤ 140737488355328 by have := HLL.out; constructor <;> first | (unfold maxLen; omega) | omega)
    have HKM := Lib.hid (show zl + k < maxLen by have := HLL.out; have := HZL.out; unfold maxLen; omega)
    have x3 := HBS2.out.2.1.1 0 _ rfl
    have x7 := HBS2.out.2.2.1.1 0 _ rfl
    have x8 := HBS2.out.2.2.2.1.1 0 _ rfl
    have x9 := HBS2.out.2.2.2.2.1.1 0 _ rfl
    go_wp2_with fail
    refine (TFind_any A c L n _ B (Nat.le_trans HB.out HBS2.out.1.size) (HX.out.keep (HBS2.out.1.mono HB.out)) HLA.out).mono ?_
    rintro e f1 ⟨hb_, d, A8, c8, hd_, rfl, hod_, -⟩
    clear hc4
    clear x3 x7 x8 x9
    have HSf1 := Lib.hid (show wr.heap.size ≤ f1.heap.size from hb_.size)
    have HBf1 := Lib.hid hb_
    have BSf1 := Lib.hid (BaS.below HBS2.out hb_)
    have HDf1 := Lib.hid (HasD.below HDR.out hb_)
    have HLOf1 := Lib.hid (OwnsS.below HLR.out hb_)
    have HOf1 := Lib.hid (OwnsS.below HOR.out hb_)
    clear hb_
    have HDD := Lib.hid (show d = (findD L n).getD zeroD from hd_); have HOD := Lib.hid hod_; clear hd_ hod_
    obtain ⟨q, hq⟩ : ∃ q, (L.find? (byIdx n)).isSome = q := ⟨_, rfl⟩
    rw [hq]
    clear hq
    have HPD := Lib.hid (show d.par = parO L n by rw [HDD.out]; rfl)
    clear HDD
    go_upto_region 14 with fail
    obtain ⟨f2, hf2⟩ : ∃ z, f1.alloc (.cells #[.int .i64 d.idx, .int .i64 d.par, .string d.nm, .string d.orig, .string d.sub, .string d.drv, .string d.ali, .int .i64 d.kind, .int .i64 d.num, .slice A8 d.attrs.length c8] 34) = z := ⟨_, rfl⟩
    have hb_ : Below f1.heap.size f1 f2 := by rw [← hf2]; exact (Below.refl _ _).alloc (Nat.le_refl _) _
    have HXd := Lib.hid (show BoxL f2 f1.heap.size [.int .i64 d.idx, .int .i64 d.par, .string d.nm, .string d.orig, .string d.sub, .string d.drv, .string d.ali, .int .i64 d.kind, .int .i64 d.num, .slice A8 d.attrs.length c8] from box_mk hf2)
    try simp only [hf2]
    clear hf2
    have HSf2 := Lib.hid (show f1.heap.size ≤ f2.heap.size from hb_.size)
    have HBf2 := Lib.hid (HBf1.out.trans (hb_.mono HBf1.out.size))
    have BSf2 := Lib.hid (BaS.below BSf1.out hb_)
    have HDf2 := Lib.hid (HasD.below HDf1.out hb_)
    have HLOf2 := Lib.hid (OwnsS.below HLOf1.out hb_)
    have HOf2 := Lib.hid (OwnsS.below HOf1.out hb_)
    clear hb_
    have x3 := BSf2.out.2.1.1 0 _ rfl
    have x7 := BSf2.out.2.2.1.1 0 _ rfl
    have x8 := BSf2.out.2.2.2.1.1 0 _ rfl
    have x9 := BSf2.out.2.2.2.2.1.1 0 _ rfl
    have cd0 := HXd.out.1 0 _ rfl
    have cd1 := HXd.out.1 1 _ rfl
    have cd2 := HXd.out.1 2 _ rfl
    have cd3 := HXd.out.1 3 _ rfl
    have cd4 := HXd.out.1 4 _ rfl
    have cd5 := HXd.out.1 5 _ rfl
    have cd6 := HXd.out.1 6 _ rfl
    have cd7 := HXd.out.1 7 _ rfl
    have cd8 := HXd.out.1 8 _ rfl
    have cd9 := HXd.out.1 9 _ rfl
    go_wp2_with fail
    refine (Partition_any A c L n _ B (Nat.le_trans HB.out BSf2.out.1.size) (HX.out.keep (BSf2.out.1.mono HB.out)) HV.out (HOA.out.next BSf2.out.1)).mono ?_
    rintro e f3 ⟨rfl, hb_⟩
    clear x3 x7 x8 x9 cd0 cd1 cd2 cd3 cd4 cd5 cd6 cd7 cd8 cd9
    have HSf3 := Lib.hid (show f2.heap.size ≤ f3.heap.size from hb_.size)
    have HBf3 := Lib.hid (HBf2.out.trans (hb_.mono HBf2.out.size))
    have df3 := Lib.hid (HXd.out.kept (grown_none hb_) (fun e => by cases e))
    have BSf3 := Lib.hid (BaS.below BSf2.out hb_)
    have HDf3 := Lib.hid (HasD.below HDf2.out hb_)
    have HLOf3 := Lib.hid (OwnsS.below HLOf2.out hb_)
    have HOf3 := Lib.hid (OwnsS.below HOf2.out hb_)
    clear hb_
    obtain ⟨zp, hzp⟩ : ∃ z, decide (partO L n ≠ 0) = z := ⟨_, rfl⟩
    rw [hzp]
    have HZP := Lib.hid hzp; clear hzp
    have x3 := BSf3.out.2.1.1 0 _ rfl
    have x7 := BSf3.out.2.2.1.1 0 _ rfl
    have x8 := BSf3.out.2.2.2.1.1 0 _ rfl
    have x9 := BSf3.out.2.2.2.2.1.1 0 _ rfl
    have cd0 := df3.out.1 0 _ rfl
    have cd1 := df3.out.1 1 _ rfl
    have cd2 := df3.out.1 2 _ rfl
    have cd3 := df3.out.1 3 _ rfl
    have cd4 := df3.out.1 4 _ rfl
    have cd5 := df3.out.1 5 _ rfl
    have cd6 := df3.out.1 6 _ rfl
    have cd7 := df3.out.1 7 _ rfl
    have cd8 := df3.out.1 8 _ rfl
    have cd9 := df3.out.1 9 _ rfl
    go_wp2_with fail
    refine (setHas_any bw _ (hasL busy) n _ BSf3.out.2.2.2.2.2.1 HOKN.out).mono ?_
    rintro e f4 ⟨rfl, hb_⟩
    clear x3 x7 x8 x9 cd0 cd1 cd2 cd3 cd4 cd5 cd6 cd7 cd8 cd9
    have HSf4 := Lib.hid (show f3.heap.size ≤ f4.heap.size from hb_.size)
    have HBf4 := Lib.hid (HBf3.out.trans (hb_.mono HBf3.out.size))
    have df4 := Lib.hid (df3.out.kept (grown_none hb_) (fun e => by cases e))
    have BSf4 := Lib.hid (BaS.below BSf3.out hb_)
    have HDf4 := Lib.hid (HasD.below HDf3.out hb_)
    have HLOf4 := Lib.hid (OwnsS.below HLOf3.out hb_)
    have HOf4 := Lib.hid (OwnsS.below HOf3.out hb_)
    clear hb_
    obtain ⟨za, hza⟩ : ∃ z, (hasL busy) n = z := ⟨_, rfl⟩
    rw [hza]
    have HZza := Lib.hid hza; clear hza
    have x3 := BSf4.out.2.1.1 0 _ rfl
    have x7 := BSf4.out.2.2.1.1 0 _ rfl
    have x8 := BSf4.out.2.2.2.1.1 0 _ rfl
    have x9 := BSf4.out.2.2.2.2.1.1 0 _ rfl
    have cd0 := df4.out.1 0 _ rfl
    have cd1 := df4.out.1 1 _ rfl
    have cd2 := df4.out.1 2 _ rfl
    have cd3 := df4.out.1 3 _ rfl
    have cd4 := df4.out.1 4 _ rfl
    have cd5 := df4.out.1 5 _ rfl
    have cd6 := df4.out.1 6 _ rfl
    have cd7 := df4.out.1 7 _ rfl
    have cd8 := df4.out.1 8 _ rfl
    have cd9 := df4.out.1 9 _ rfl
    cases za
    ·
     go_wp2_with fail
     refine (setHas_any w3.heap.size _ (hasL sA) d.par _ BSf4.out.2.2.2.2.2.2.1 HOD.out.2.1).mono ?_
     rintro e f5 ⟨rfl, hb_⟩
     clear x3 x7 x8 x9 cd0 cd1 cd2 cd3 cd4 cd5 cd6 cd7 cd8 cd9
     have HSf5 := Lib.hid (show f4.heap.size ≤ f5.heap.size from hb_.size)
     have HBf5 := Lib.hid (HBf4.out.trans (hb_.mono HBf4.out.size))
     have df5 := Lib.hid (df4.out.kept (grown_none hb_) (fun e => by cases e))
     have BSf5 := Lib.hid (BaS.below BSf4.out hb_)
     have HDf5 := Lib.hid (HasD.below HDf4.out hb_)
     have HLOf5 := Lib.hid (OwnsS.below HLOf4.out hb_)
     have HOf5 := Lib.hid (OwnsS.below HOf4.out hb_)
     clear hb_
     obtain ⟨zb, hzb⟩ : ∃ z, (hasL sA) d.par = z := ⟨_, rfl⟩
     rw [hzb]
     have HZzb := Lib.hid hzb; clear hzb
     have x3 := BSf5.out.2.1.1 0 _ rfl
     have x7 := BSf5.out.2.2.1.1 0 _ rfl
     have x8 := BSf5.out.2.2.2.1.1 0 _ rfl
     have x9 := BSf5.out.2.2.2.2.1.1 0 _ rfl
     have cd0 := df5.out.1 0 _ rfl
     have cd1 := df5.out.1 1 _ rfl
     have cd2 := df5.out.1 2 _ rfl
     have cd3 := df5.out.1 3 _ rfl
     have cd4 := df5.out.1 4 _ rfl
     have cd5 := df5.out.1 5 _ rfl
     have cd6 := df5.out.1 6 _ rfl
     have cd7 := df5.out.1 7 _ rfl
     have cd8 := df5.out.1 8 _ rfl
     have cd9 := df5.out.1 9 _ rfl
     cases zb
     ·
      cases zp
      ·
       have HSK := Lib.hid (show skipBat L dirty busy ps n = false by unfold skipBat; rw [show busy.contains n = false from HZza.out, ← HPD.out, ← HWT.out, HZzb.out, HZP.out]; rfl)
       have HSN := Lib.hid (show batP L dirty busy (l.drop (k + 1)) (acc ++ [n]) (ps) = batR L dirty busy l [] by have h := HST.out; rw [HSK.out, if_neg (by decide), if_neg (of_decide_eq_false HZP.out)] at h; exact h.symm)
       obtain ⟨wa, hwa⟩ : ∃ z, f5.alloc (.cells #[.int .i64 n] 3) = z := ⟨_, rfl⟩
       have hba : Below f5.heap.size f5 wa := by rw [← hwa]; exact (Below.refl _ _).alloc (Nat.le_refl _) _
       have hnew := lit_cells hwa (l := [.int .i64 n]) rfl
       have HNEW := Lib.hid hnew; clear hnew
       have HSIZ := Lib.hid (Nat.le_trans HWR.out (Nat.le_trans HBf5.out.size hba.size))
       clear x3 x7 x8 x9 cd0 cd1 cd2 cd3 cd4 cd5 cd6 cd7 cd8 cd9
       have HSwa := Lib.hid (show f5.heap.size ≤ wa.heap.size from hba.size)
       have HBwa := Lib.hid (HBf5.out.trans (hba.mono HBf5.out.size))
       have dwa := Lib.hid (df5.out.kept (grown_none hba) (fun e => by cases e))
       have BSwa := Lib.hid (BaS.below BSf5.out hba)
       have HDwa := Lib.hid (HasD.below HDf5.out hba)
       have HLOwa := Lib.hid (OwnsS.below HLOf5.out hba)
       have HOwa := Lib.hid (OwnsS.below HOf5.out hba)
       clear hba
       have HRD := Lib.hid (show RepS.rdS wa (fun b => True ∧ b < wa.heap.size ∧ u13.ownBlock ≠ some b) n [.int .i64 n] from ⟨rfl, HOKN.out⟩)
       have x3 := BSwa.out.2.1.1 0 _ rfl
       have x7 := BSwa.out.2.2.1.1 0 _ rfl
       have x8 := BSwa.out.2.2.2.1.1 0 _ rfl
       have x9 := BSwa.out.2.2.2.2.1.1 0 _ rfl
       have cd0 := dwa.out.1 0 _ rfl
       have cd1 := dwa.out.1 1 _ rfl
       have cd2 := dwa.out.1 2 _ rfl
       have cd3 := dwa.out.1 3 _ rfl
       have cd4 := dwa.out.1 4 _ rfl
       have cd5 := dwa.out.1 5 _ rfl
       have cd6 := dwa.out.1 6 _ rfl
       have cd7 := dwa.out.1 7 _ rfl
       have cd8 := dwa.out.1 8 _ rfl
       have cd9 := dwa.out.1 9 _ rfl
       go_wp2_with (at_builtin; go_must (refine wpList_app1 E_int rfl _ _ rfl u13 _ rfl HOwa.out f5.heap.size rfl n [.int .i64 n] HNEW.out HRD.out HAM.out.1 HAM.out.2 HSIZ.out ?_); intro v2 w9 hown_ hgrow_ hnew_; have HOWN9 := Lib.hid hown_; have HGR9 := Lib.hid hgrow_; have HBS9 := Lib.hid (BSwa.out.far HBK.out HGR9.out (fun k hk => by have := (HOwa.out.lt k hk).1; have := HNUM.out; have := HDW.out; have := HSW1.out; omega)); have HD9 := Lib.hid (HDwa.out.grown HGR9.out (fun e => by have := (HOwa.out.lt _ e).1; have := HDW.out; have := HSW1.out; omega)); have HL9 := Lib.hid (HLOwa.out.keep_int HGR9.out (fun k hk e => by have := (HOwa.out.lt k e).1; have := HLB.out k hk; omega)); have HXd9 := Lib.hid (dwa.out.kept HGR9.out (fun e => by have := (HOR.out.lt _ e.symm).2; have := HBf1.out.size; omega)); clear hown_ hgrow_ hnew_ x3 x7 x8 x9 cd0 cd1 cd2 cd3 cd4 cd5 cd6 cd7 cd8 cd9; have x3 := HBS9.out.2.1.1 0 _ rfl; have x7 := HBS9.out.2.2.1.1 0 _ rfl; have x8 := HBS9.out.2.2.2.1.1 0 _ rfl; have x9 := HBS9.out.2.2.2.2.1.1 0 _ rfl; have cd0 := HXd9.out.1 0 _ rfl; have cd1 := HXd9.out.1 1 _ rfl; have cd2 := HXd9.out.1 2 _ rfl; have cd3 := HXd9.out.1 3 _ rfl; have cd4 := HXd9.out.1 4 _ rfl; have cd5 := HXd9.out.1 5 _ rfl; have cd6 := HXd9.out.1 6 _ rfl; have cd7 := HXd9.out.1 7 _ rfl; have cd8 := HXd9.out.1 8 _ rfl; have cd9 := HXd9.out.1 9 _ rfl)
       try go_wp2
       go_roundw
       case rel => exact ⟨k + 1, acc ++ [n], ps, by omega, by rw [List.length_append]; simp; omega, by go_num, Lib.hid (Nat.le_trans HSIZ.out HGR9.out.size), HSN, Lib.hid (HBS9.out.more (by omega)), HD9, HL9, HOWN9⟩
       case measure => simp [intOf]; omega
      ·
       go_wp2_with fail
       refine (setHas_any w4.heap.size _ (hasL ps) d.par _ BSf5.out.2.2.2.2.2.2.2 HOD.out.2.1).mono ?_
       rintro e f6 ⟨rfl, hb_⟩
       clear x3 x7 x8 x9 cd0 cd1 cd2 cd3 cd4 cd5 cd6 cd7 cd8 cd9
       have HSf6 := Lib.hid (show f5.heap.size ≤ f6.heap.size from hb_.size)
       have HBf6 := Lib.hid (HBf5.out.trans (hb_.mono HBf5.out.size))
       have df6 := Lib.hid (df5.out.kept (grown_none hb_) (fun e => by cases e))
       have BSf6 := Lib.hid (BaS.below BSf5.out hb_)
       have HDf6 := Lib.hid (HasD.below HDf5.out hb_)
       have HLOf6 := Lib.hid (OwnsS.below HLOf5.out hb_)
       have HOf6 := Lib.hid (OwnsS.below HOf5.out hb_)
       clear hb_
       obtain ⟨zc, hzc⟩ : ∃ z, (hasL ps) d.par = z := ⟨_, rfl⟩
       rw [hzc]
       have HZzc := Lib.hid hzc; clear hzc
       have x3 := BSf6.out.2.1.1 0 _ rfl
       have x7 := BSf6.out.2.2.1.1 0 _ rfl
       have x8 := BSf6.out.2.2.2.1.1 0 _ rfl
       have x9 := BSf6.out.2.2.2.2.1.1 0 _ rfl
       have cd0 := df6.out.1 0 _ rfl
       have cd1 := df6.out.1 1 _ rfl
       have cd2 := df6.out.1 2 _ rfl
       have cd3 := df6.out.1 3 _ rfl
       have cd4 := df6.out.1 4 _ rfl
       have cd5 := df6.out.1 5 _ rfl
       have cd6 := df6.out.1 6 _ rfl
       have cd7 := df6.out.1 7 _ rfl
       have cd8 := df6.out.1 8 _ rfl
       have cd9 := df6.out.1 9 _ rfl
       cases zc
       ·
        have HSK := Lib.hid (show skipBat L dirty busy ps n = false by unfold skipBat; rw [show busy.contains n = false from HZza.out, ← HPD.out, ← HWT.out, HZzb.out, HZP.out, show ps.contains d.par = false from HZzc.out]; rfl)
        have HSN := Lib.hid (show batP L dirty busy (l.drop (k + 1)) (acc ++ [n]) (d.par :: ps) = batR L dirty busy l [] by have h := HST.out; rw [HSK.out, if_neg (by decide), if_pos (of_decide_eq_true HZP.out)] at h; rw [HPD.out]; exact h.symm)
        obtain ⟨wa, hwa⟩ : ∃ z, f6.alloc (.cells #[.int .i64 n] 3) = z := ⟨_, rfl⟩
        have hba : Below f6.heap.size f6 wa := by rw [← hwa]; exact (Below.refl _ _).alloc (Nat.le_refl _) _
        have hnew := lit_cells hwa (l := [.int .i64 n]) rfl
        have HNEW := Lib.hid hnew; clear hnew
        have HSIZ := Lib.hid (Nat.le_trans HWR.out (Nat.le_trans HBf6.out.size hba.size))
        clear x3 x7 x8 x9 cd0 cd1 cd2 cd3 cd4 cd5 cd6 cd7 cd8 cd9
        have HSwa := Lib.hid (show f6.heap.size ≤ wa.heap.size from hba.size)
        have HBwa := Lib.hid (HBf6.out.trans (hba.mono HBf6.out.size))
        have dwa := Lib.hid (df6.out.kept (grown_none hba) (fun e => by cases e))
        have BSwa := Lib.hid (BaS.below BSf6.out hba)
        have HDwa := Lib.hid (HasD.below HDf6.out hba)
        have HLOwa := Lib.hid (OwnsS.below HLOf6.out hba)
        have HOwa := Lib.hid (OwnsS.below HOf6.out hba)
        clear hba
        have HRD := Lib.hid (show RepS.rdS wa (fun b => True ∧ b < wa.heap.size ∧ u13.ownBlock ≠ some b) n [.int .i64 n] from ⟨rfl, HOKN.out⟩)
        have x3 := BSwa.out.2.1.1 0 _ rfl
        have x7 := BSwa.out.2.2.1.1 0 _ rfl
        have x8 := BSwa.out.2.2.2.1.1 0 _ rfl
        have x9 := BSwa.out.2.2.2.2.1.1 0 _ rfl
        have cd0 := dwa.out.1 0 _ rfl
        have cd1 := dwa.out.1 1 _ rfl
        have cd2 := dwa.out.1 2 _ rfl
        have cd3 := dwa.out.1 3 _ rfl
        have cd4 := dwa.out.1 4 _ rfl
        have cd5 := dwa.out.1 5 _ rfl
        have cd6 := dwa.out.1 6 _ rfl
        have cd7 := dwa.out.1 7 _ rfl
        have cd8 := dwa.out.1 8 _ rfl
        have cd9 := dwa.out.1 9 _ rfl
        go_upto_region 17 with (at_builtin; go_must (refine wpList_app1 E_int rfl _ _ rfl u13 _ rfl HOwa.out f6.heap.size rfl n [.int .i64 n] HNEW.out HRD.out HAM.out.1 HAM.out.2 HSIZ.out ?_); intro v2 w9 hown_ hgrow_ hnew_; have HOWN9 := Lib.hid hown_; have HGR9 := Lib.hid hgrow_; have HBS9 := Lib.hid (BSwa.out.far HBK.out HGR9.out (fun k hk => by have := (HOwa.out.lt k hk).1; have := HNUM.out; have := HDW.out; have := HSW1.out; omega)); have HD9 := Lib.hid (HDwa.out.grown HGR9.out (fun e => by have := (HOwa.out.lt _ e).1; have := HDW.out; have := HSW1.out; omega)); have HL9 := Lib.hid (HLOwa.out.keep_int HGR9.out (fun k hk e => by have := (HOwa.out.lt k e).1; have := HLB.out k hk; omega)); have HXd9 := Lib.hid (dwa.out.kept HGR9.out (fun e => by have := (HOR.out.lt _ e.symm).2; have := HBf1.out.size; omega)); clear hown_ hgrow_ hnew_ x3 x7 x8 x9 cd0 cd1 cd2 cd3 cd4 cd5 cd6 cd7 cd8 cd9; have x3 := HBS9.out.2.1.1 0 _ rfl; have x7 := HBS9.out.2.2.1.1 0 _ rfl; have x8 := HBS9.out.2.2.2.1.1 0 _ rfl; have x9 := HBS9.out.2.2.2.2.1.1 0 _ rfl; have cd0 := HXd9.out.1 0 _ rfl; have cd1 := HXd9.out.1 1 _ rfl; have cd2 := HXd9.out.1 2 _ rfl; have cd3 := HXd9.out.1 3 _ rfl; have cd4 := HXd9.out.1 4 _ rfl; have cd5 := HXd9.out.1 5 _ rfl; have cd6 := HXd9.out.1 6 _ rfl; have cd7 := HXd9.out.1 7 _ rfl; have cd8 := HXd9.out.1 8 _ rfl; have cd9 := HXd9.out.1 9 _ rfl)
        go_wp2_with (at_mapUpdate; go_must (refine wpList_add rfl _ _ _ _ rfl HBS9.out.2.2.2.2.2.2.2 Tryz.underlying65 Tryz.underlying3 rfl d.par HOD.out.2.1 HKM.out rfl rfl ?_); intro wb hm_ hg_; have HSIa := Lib.hid (Nat.le_trans (Nat.le_trans HSIZ.out HGR9.out.size) hg_.size); have HBSa := Lib.hid (HBS9.out.addP HBK.out hg_ hm_); have HDa := Lib.hid (HD9.out.grown hg_ (fun e => by have := Option.some.inj e; have := HNUM.out; omega)); have HLa := Lib.hid (HL9.out.keep_int hg_ (fun k hk e => by have := Option.some.inj e; have := HLB.out k hk; have := HNUM.out; have := HDW.out; omega)); have HOa := Lib.hid (HOWN9.out.keep_int hg_ (fun k hk e => by have := Option.some.inj e; have := (HOWN9.out.lt k hk).1; have := HNUM.out; have := HDW.out; have := HSW1.out; omega)); clear hm_ hg_ x3 x7 x8 x9 cd0 cd1 cd2 cd3 cd4 cd5 cd6 cd7 cd8 cd9)
        try go_wp2
        go_roundw
        case rel => exact ⟨k + 1, acc ++ [n], d.par :: ps, by omega, by rw [List.length_append]; simp; omega, by go_num, HSIa, HSN, HBSa, HDa, HLa, HOa⟩
        case measure => simp [intOf]; omega
       ·
        have HSK := Lib.hid (show skipBat L dirty busy ps n = true by unfold skipBat; rw [show busy.contains n = false from HZza.out, ← HPD.out, ← HWT.out, HZzb.out, HZP.out, show ps.contains d.par = true from HZzc.out]; rfl)
        have HSN := Lib.hid (show batP L dirty busy (l.drop (k + 1)) acc ps = batR L dirty busy l [] by have h := HST.out; rw [HSK.out, if_pos rfl] at h; exact h.symm)
        try go_wp2
        go_roundw
        case rel => exact ⟨k + 1, acc, ps, by omega, by omega, by go_num, Lib.hid (Nat.le_trans HWR.out HBf6.out.size), HSN, Lib.hid (BSf6.out.more (by omega)), HDf6, HLOf6, HOf6⟩
        case measure => simp [intOf]; omega
     ·
      have HSK := Lib.hid (show skipBat L dirty busy ps n = true by unfold skipBat; rw [← HPD.out, ← HWT.out, HZzb.out, Bool.or_true]; rfl)
      have HSN := Lib.hid (show batP L dirty busy (l.drop (k + 1)) acc ps = batR L dirty busy l [] by have h := HST.out; rw [HSK.out, if_pos rfl] at h; exact h.symm)
      try go_wp2
      go_roundw
      case rel => exact ⟨k + 1, acc, ps, by omega, by omega, by go_num, Lib.hid (Nat.le_trans HWR.out HBf5.out.size), HSN, Lib.hid (BSf5.out.more (by omega)), HDf5, HLOf5, HOf5⟩
      case measure => simp [intOf]; omega
    ·
     have HSK := Lib.hid (show skipBat L dirty busy ps n = true by unfold skipBat; rw [show busy.contains n = true from HZza.out]; rfl)
     have HSN := Lib.hid (show batP L dirty busy (l.drop (k + 1)) acc ps = batR L dirty busy l [] by have h := HST.out; rw [HSK.out, if_pos rfl] at h; exact h.symm)
     try go_wp2
     go_roundw
     case rel => exact ⟨k + 1, acc, ps, by omega, by omega, by go_num, Lib.hid (Nat.le_trans HWR.out HBf4.out.size), HSN, Lib.hid (BSf4.out.more (by omega)), HDf4, HLOf4, HOf4⟩
     case measure => simp [intOf]; omega
   ·
    have i1 : ¬ (k : Int) < (l.length : Int) := by omega
    obtain rfl : k = l.length := by omega
    have HF := Lib.hid (show acc = batR L dirty busy l [] by rw [← HBA.out, batP_end])
    have x3 := HBS2.out.2.1.1 0 _ rfl
    have x7 := HBS2.out.2.2.1.1 0 _ rfl
    have x8 := HBS2.out.2.2.2.1.1 0 _ rfl
    have x9 := HBS2.out.2.2.2.2.1.1 0 _ rfl
    go_wp2
    refine ⟨by simp, .inl ⟨_, _, rfl, run_takeDeferred HDR.out, ?_⟩⟩
    have hg_ := grownBy_putObj' wr u2.heap.size (.deferred none)
    exact ⟨_, results_tmp rfl _ _ _, HBS2.out.1.grown hg_ HBS2.out.1.size (fun q hq => by have := Option.some.inj hq; have := HNUM.out; omega), _, rfl, by have h := HOR.out.keep_int hg_ (fun k hk e => by have := Option.some.inj e; have := (HOR.out.lt k hk).1; have := HDW.out; have := HSW1.out; omega); rw [HF.out, ← HLE.out] at h; exact h.low (by have := HNUM.out; have := HDW.out; have := HSW1.out; omega)⟩
end Go.Proofs.YtomcebcaendilaaGreatDoor
