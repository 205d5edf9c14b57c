/-
  The plain side of layer 4: the ancestors of a device. No program is named here.
-/
import Derived.Test.YtomcebcaendilaaGreatDoorIA
import Derived.Test.YtomcebcaendilaaGreatDoorID
import Derived.Maps.OwnIn
import Derived.Lib.ItoaNum
set_option linter.unusedSimpArgs false
set_option linter.unusedVariables false
namespace Go.Cold
open Go Go.RowKit
theorem chain_less {L : List Dev} (h : WF L) : ∀ (k : Nat) (n : Int), ∀ e ∈ chainL L k n, (orgF L e.idx).length ≤ (orgF L n).length
 | 0, _, e, he => by simp [chainL] at he
 | k + 1, n, e, he => by
  unfold chainL at he
  cases hf : findD L n with
  | none => rw [hf] at he; simp at he
  | some d =>
   rw [hf] at he
   obtain ⟨hd, hn⟩ := find_some hf
   have h1 : (orgF L n).length = (orgF L d.par).length + 1 := by rw [← hn, own_head h hd]; simp
   rcases List.mem_cons.1 he with rfl | he
   · rw [hn]; exact Nat.le_refl _
   · have := chain_less h k d.par e he; omega
end Go.Cold
namespace Go.Cold
open Go Go.RowKit
/-- How an element of the empty struct's type reads. -/
def unitR (v : Value) : Option (DataW Unit × List MemPlace) := match v with
 | .agg a => if a.size = 0 then some (.agg [], []) else none
 | _ => none
theorem unitR_mk : unitR (.agg #[]) = some (.agg [], []) := rfl
theorem unitR_inv {v : Value} {z : DataW Unit × List MemPlace} (h : unitR v = some z) : v = .agg #[] := by
 unfold unitR at h
 split at h
 ·
  rename_i a
  split at h
  ·
   rename_i h0
   rw [Array.eq_empty_of_size_eq_zero h0]
  · cases h
 · cases h
/-- Block b is a set of at most n numbers: those of s. -/
def SetV (P : Program) (k e : TypeId) (w : World) (b n : Nat) (s : Int → Bool) : Prop :=
 ∃ D : DataW Unit, w.ownsMap P k unitR b n D ∧ ∀ i, okI i → Maps.has D (.int .i64 i) = s i
def addS (s : Int → Bool) (i : Int) : Int → Bool := fun j => decide (j = i) || s j
section
variable {P : Program} {k e t : TypeId} {w w' : World} {b n : Nat} {s : Int → Bool}
theorem SetV.made (w : World) (P : Program) (k e : TypeId) : SetV P k e (w.alloc (.map #[] 0)) w.heap.size 0 (fun _ => false) :=
 ⟨.map [], World.ownsMap_made w P k _, fun i _ => rfl⟩
theorem SetV.kept {row : Option Nat} (h : SetV P k e w b n s) (hg : w.grownBy w' row) (hne : some b ≠ row) : SetV P k e w' b n s := by
 obtain ⟨D, h1, h2⟩ := h
 exact ⟨D, h1.kept hg hne, h2⟩
theorem SetV.lt (h : SetV P k e w b n s) : b < w.heap.size := by obtain ⟨D, h1, _⟩ := h; exact h1.lt
theorem SetV.below {B : Nat} (h : SetV P k e w b n s) (hb : Below B w w') (hlt : b < B) : SetV P k e w' b n s := by
 obtain ⟨D, ⟨es, clock, h1, h2⟩, h3⟩ := h
 exact ⟨D, ⟨es, clock, (hb.block b hlt).trans h1, h2⟩, h3⟩
theorem SetV.next (h : SetV P k e w b n s) (hb : Below w.heap.size w w') : SetV P k e w' b n s := h.below hb h.lt
theorem SetV.mono {m : Nat} (h : SetV P k e w b n s) (hm : n ≤ m) : SetV P k e w b m s := by obtain ⟨D, h1, h2⟩ := h; exact ⟨D, h1.mono hm, h2⟩
theorem SetV.look_ok (h : SetV P k e w b n s) (ht : P.underlying t = some (.map k e)) (hk : P.underlying k = some (.int .i64)) (hz : (zeroValue e).run P w = .ok (.agg #[]) w) {i : Int} (hi : okI i) :
  (Instr.lookup t (.map (some b)) (.int .i64 i) true).run P w = .ok (.tuple #[.agg #[], .bool (s i)]) w := by
 obtain ⟨D, h1, h2⟩ := h
 obtain ⟨v, ps, hr, hv⟩ := h1.look_ok (Maps.int_keyed hk) ht hz unitR_mk (Maps.keyOf_int_mk hk (wf_i64.2 hi))
 rw [hr, h2 i hi, unitR_inv hv]
/-- 'm[i] = struct{}{}' in a walk. -/
theorem wpList_add {ops : Array Oper} {rest : List Oper} {o : Oper} {a : Act} {Q : Exit → Act → World → Prop}
  (hg : o.guard = none) (m x v : Operand) (t : TypeId) (hop : o.op = Op.mapUpdate t m x v) (h : SetV P k e w b n s) (ht : P.underlying t = some (.map k e)) (hk : P.underlying k = some (.int .i64))
  (hm : a.eval m = .map (some b)) (i : Int) (hi : okI i) (hn : n < maxLen) (hx : a.eval x = .int .i64 i) (hv : a.eval v = .agg #[])
  (hK : ∀ w', SetV P k e w' b (n + 1) (addS s i) → w.grownBy w' (some b) → wpList P ops Q rest (a.put o.dst undef) w') : wpList P ops Q (o :: rest) a w := by
 obtain ⟨D, h1, h2⟩ := h
 refine wpList_mapUpdate_own w hg m x v t hop k e (Maps.int_keyed hk) ht _ b n D hm h1 hn _ _ (.int .i64 i) hx hv (Maps.keyOf_int_mk hk (wf_i64.2 hi)) _ [] unitR_mk (fun w' r1 r2 => hK w' ⟨_, r1, fun j hj => ?_⟩ r2)
 have hM := h1.isMap
 have hK1 : WideAt.IsKeyLit (.int .i64 i) := (Maps.int_keyed hk).key (Maps.keyOf_int_mk hk (wf_i64.2 hi))
 unfold addS
 by_cases hji : j = i
 ·
  subst hji
  rw [decide_eq_true rfl, Bool.true_or]
  exact Maps.has_put_same hM hK1 _
 ·
  rw [decide_eq_false hji, Bool.false_or]
  have hne : (Lit.int .i64 j : Lit) ≠ .int .i64 i := fun h => hji (by injection h)
  exact (Maps.has_put_other hne _).trans (h2 j hj)
/-- 'm[i] = struct{}{}' in a fenced walk. -/
theorem wpListIn_add {F : Fence} {nF : Nat} {ops : Array Oper} {rest : List Oper} {o : Oper} {a : Act} {Q : Exit → Act → World → Prop}
  (hg : o.guard = none) (m x v : Operand) (t : TypeId) (hop : o.op = Op.mapUpdate t m x v) (h : SetV P k e w b n s) (ht : P.underlying t = some (.map k e)) (hk : P.underlying k = some (.int .i64))
  (hm : a.eval m = .map (some b)) (i : Int) (hi : okI i) (hn : n < maxLen) (hx : a.eval x = .int .i64 i) (hv : a.eval v = .agg #[])
  (hK : ∀ w', SetV P k e w' b (n + 1) (addS s i) → w.grownBy w' (some b) → wpListIn F nF P ops Q rest (a.put o.dst undef) w') : wpListIn F nF P ops Q (o :: rest) a w := by
 obtain ⟨D, h1, h2⟩ := h
 refine wpListIn_mapUpdate_own w hg m x v t hop k e (Maps.int_keyed hk) ht _ b n D hm h1 hn _ _ (.int .i64 i) hx hv (Maps.keyOf_int_mk hk (wf_i64.2 hi)) _ [] unitR_mk (fun w' r1 r2 => hK w' ⟨_, r1, fun j hj => ?_⟩ r2)
 have hM := h1.isMap
 have hK1 : WideAt.IsKeyLit (.int .i64 i) := (Maps.int_keyed hk).key (Maps.keyOf_int_mk hk (wf_i64.2 hi))
 unfold addS
 by_cases hji : j = i
 ·
  subst hji
  rw [decide_eq_true rfl, Bool.true_or]
  exact Maps.has_put_same hM hK1 _
 ·
  rw [decide_eq_false hji, Bool.false_or]
  have hne : (Lit.int .i64 j : Lit) ≠ .int .i64 i := fun h => hji (by injection h)
  exact (Maps.has_put_other hne _).trans (h2 j hj)
end
end Go.Cold
namespace Go.Cold
open Go Go.RowKit
instance : RepS Int where
 rdS _ _ n cs := cs = [.int .i64 n] ∧ -9223372036854775808 ≤ n ∧ n ≤ 9223372036854775807
 pos := by show 0 < 1; omega
 lenS h := by rw [h.1]; rfl
 one h u hu := by rw [h.1] at hu; simp at hu; subst hu; rfl
 mono _ _ h := h
 rd_iff := Iff.rfl
/-- The set of a list's numbers. -/
def hasL (l : List Int) : Int → Bool := fun n => l.contains n
theorem addS_hasL (l : List Int) (i : Int) : addS (hasL l) i = hasL (i :: l) := by
 funext n
 unfold addS hasL
 rw [List.contains_cons]
 congr 1
theorem hasL_snoc (l : List Int) (i : Int) : addS (hasL l) i = hasL (l ++ [i]) := by
 funext n
 unfold addS hasL
 simp [Bool.or_comm]
/-- A list of numbers that a call has gathered reads as a slice. -/
theorem OwnsS.ints {F : Nat → Prop} {w : World} {base : Nat} {e : TypeId} {v : Value} {xs : List Int} (h : OwnsS F w base e v xs) : ∃ A c, v = .slice A xs.length c ∧ Sl w w.heap.size A c xs := by
 obtain ⟨A, c, e, h1⟩ := h.cs
 exact ⟨A, c, e, SlS_iff.2 (h1.mono (fun b hb => hb.2) (fun _ _ _ _ hu => hu))⟩
end Go.Cold
namespace Go.Cold
open Go Go.RowKit
/-- A device or one of its ancestors has a number of the set. -/
def inS (L : List Dev) (s : Int → Bool) (n : Int) : Bool := (chainO L n).any fun d => s d.idx
theorem inS_cons {L : List Dev} (h : WF L) {d : Dev} (hd : d ∈ L) (s : Int → Bool) : inS L s d.idx = (s d.idx || inS L s d.par) := by
 unfold inS
 rw [chainO_cons h hd, List.any_cons]
theorem inS_none {L : List Dev} {n : Int} (hn : n ∉ idxs L) (s : Int → Bool) : inS L s n = false := by
 unfold inS; rw [chainO_none hn]; rfl
/-- The program's way through a tree: what is in the set, or has a parent that was reached. -/
def goS (s : Int → Bool) : List Dev → List Int → List Dev
 | [], _ => []
 | d :: r, ins => if s d.idx = true ∨ d.par ∈ ins then d :: goS s r (d.idx :: ins) else goS s r ins
theorem goS_in {L : List Dev} (h : WF L) (s : Int → Bool) : ∀ (B : List Dev) (seen ins : List Int), (∀ d ∈ B, d ∈ L) → parA seen B → (∀ n, n ∈ ins ↔ n ∈ seen ∧ inS L s n = true) → (idxs B).Nodup → (∀ d ∈ B, d.idx ∉ seen) → (0 : Int) ∉ ins →
  goS s B ins = B.filter fun d => inS L s d.idx
 | [], _, _, _, _, _, _, _, _ => rfl
 | d :: r, seen, ins, hm, hp, hi, hu, hs, h0 => by
  have hd := hm d List.mem_cons_self
  have hb := inS_cons h hd s
  have hz := h.nz d hd
  have hq : (s d.idx = true ∨ d.par ∈ ins) ↔ inS L s d.idx = true := by
   rw [hb, Bool.or_eq_true]
   refine or_congr_right ?_
   rw [hi]
   rcases hp.1 with h1 | h1
   ·
    rw [h1, inS_none (zero_out h)]
    exact ⟨fun h2 => (by cases h2.2), fun h2 => (by cases h2)⟩
   · exact ⟨fun h2 => h2.2, fun h2 => ⟨h1, h2⟩⟩
  have hu2 : (idxs r).Nodup ∧ d.idx ∉ idxs r := by
   unfold idxs at hu ⊢; rw [List.map_cons, List.nodup_cons] at hu; exact ⟨hu.2, hu.1⟩
  rw [goS, List.filter_cons]
  have hr : ∀ e ∈ r, e.idx ∉ d.idx :: seen := fun e he h2 => by
   rcases List.mem_cons.1 h2 with h3 | h3
   · exact hu2.2 (h3 ▸ mem_idxs he)
   · exact hs e (List.mem_cons_of_mem _ he) h3
  by_cases hq2 : s d.idx = true ∨ d.par ∈ ins
  ·
   rw [if_pos hq2, if_pos (hq.1 hq2)]
   congr 1
   refine goS_in h s r (d.idx :: seen) (d.idx :: ins) (fun e he => hm e (List.mem_cons_of_mem _ he)) hp.2 (fun n => ?_) hu2.1 hr (fun h2 => ?_)
   ·
    rw [List.mem_cons, List.mem_cons, hi]
    constructor
    ·
     rintro (rfl | ⟨h2, h3⟩)
     · exact ⟨.inl rfl, hq.1 hq2⟩
     · exact ⟨.inr h2, h3⟩
    ·
     rintro ⟨rfl | h2, h3⟩
     · exact .inl rfl
     · exact .inr ⟨h2, h3⟩
   ·
    rcases List.mem_cons.1 h2 with h3 | h3
    · exact hz h3.symm
    · exact h0 h3
  ·
   rw [if_neg hq2, if_neg (fun h2 => hq2 (hq.2 h2))]
   refine goS_in h s r (d.idx :: seen) ins (fun e he => hm e (List.mem_cons_of_mem _ he)) hp.2 (fun n => ?_) hu2.1 hr h0
   rw [List.mem_cons, hi]
   constructor
   · rintro ⟨h2, h3⟩; exact ⟨.inr h2, h3⟩
   ·
    rintro ⟨rfl | h2, h3⟩
    · exact absurd (hq.2 h3) hq2
    · exact ⟨h2, h3⟩
theorem goS_all {L : List Dev} (h : WF L) (s : Int → Bool) : goS s L [] = L.filter fun d => inS L s d.idx :=
 goS_in h s L [] [] (fun _ h => h) h.par (fun n => by simp) h.uniq (fun _ _ h => by cases h) (fun h => by cases h)
/-- The reference's Above. -/
def aboveB (L : List Dev) (i j : Int) : Bool := ((chainO L j).drop 1).any fun d => decide (d.idx = i)
theorem above_par {L : List Dev} (h : WF L) {d : Dev} (hd : d ∈ L) (i : Int) : aboveB L i d.idx = belowR L i d.par := by
 unfold aboveB belowR
 rw [chainO_cons h hd]; rfl
theorem above_self {L : List Dev} (h : WF L) {t : Dev} (ht : t ∈ L) : aboveB L t.idx t.idx = false := by
 rw [above_par h ht]
 cases hb : belowR L t.idx t.par with
 | false => rfl
 | true =>
  exfalso
  unfold belowR at hb
  obtain ⟨e, he, hi⟩ := List.any_eq_true.1 hb
  have h1 := chain_less h _ _ e he
  rw [of_decide_eq_true hi, own_head h ht, List.length_append, List.length_singleton] at h1
  omega
/-- Above is the order of origins. -/
theorem above_under {L : List Dev} (h : VT L) {t d : Dev} (ht : t ∈ L) (hd : d ∈ L) : aboveB L t.idx d.idx = underL (orgF L t.idx) (orgF L d.idx) := by
 by_cases he : d.idx = t.idx
 ·
  have : d = t := nodup_idx h.wf.uniq hd ht he
  subst this
  rw [above_self h.wf ht]
  unfold underL; simp
 ·
  have h1 := below_under h ht (orgF L d.idx).length d.idx (Nat.le_refl _)
  rw [below_cons h.wf hd, decide_eq_false he, Bool.false_or, Bool.false_or] at h1
  rw [above_par h.wf hd]; exact h1
theorem drop_any {L : List Dev} (h : WF L) {d : Dev} (hd : d ∈ L) (s : Int → Bool) : (((chainO L d.idx).drop 1).any fun e => s e.idx) = inS L s d.par := by
 unfold inS
 rw [chainO_cons h hd]; rfl
end Go.Cold
namespace Go.Cold
open Go Go.RowKit
/-- The name of a partition. -/
def itB (k : Nat) : ByteArray := ⟨(Lib.itoa (k : Int)).toArray⟩
def partS (p : ByteArray) (k : Nat) : ByteArray := (p ++ ⟨#[112]⟩) ++ itB k
/-- The reference's number of a partition, 0 if there is none: the first that fits. -/
def numGo (p o : ByteArray) : Nat → Nat → Nat
 | 0, _ => 0
 | m + 1, k => if o = partS p k then k else numGo p o m (k + 1)
def numR (p o : ByteArray) : Nat := numGo p o 16 1
theorem itoa_inj {a b : Nat} (ha : a ≤ 17) (hb : b ≤ 17) (h : Lib.itoa (a : Int) = Lib.itoa (b : Int)) : a = b := by
 have : ∀ a : Nat, a < 18 → ∀ b : Nat, b < 18 → Lib.itoa (a : Int) = Lib.itoa (b : Int) → a = b := by decide +kernel
 exact this a (by omega) b (by omega) h
theorem partS_inj {p : ByteArray} {a b : Nat} (ha : a ≤ 17) (hb : b ≤ 17) (h : partS p a = partS p b) : a = b := by
 have h1 : (partS p a).data.toList = (partS p b).data.toList := by rw [h]
 unfold partS at h1
 rw [app_data (p ++ ⟨#[112]⟩) (itB a), app_data (p ++ ⟨#[112]⟩) (itB b)] at h1
 exact itoa_inj ha hb (List.append_cancel_left h1)
theorem numGo_none {p o : ByteArray} : ∀ {m k : Nat}, (∀ j, k ≤ j → j < k + m → o ≠ partS p j) → numGo p o m k = 0
 | 0, _, _ => rfl
 | m + 1, k, h => by
  rw [numGo, if_neg (h k (Nat.le_refl _) (by omega))]
  exact numGo_none fun j h1 h2 => h j (by omega) (by omega)
theorem numGo_some {p o : ByteArray} : ∀ {m k j : Nat}, k ≤ j → j < k + m → k + m ≤ 18 → o = partS p j → numGo p o m k = j
 | 0, k, j, h1, h2, _, _ => by omega
 | m + 1, k, j, h1, h2, h3, h4 => by
  by_cases hk : k = j
  · subst hk; rw [numGo, if_pos h4]
  ·
   rw [numGo, if_neg (fun h5 => hk (partS_inj (by omega) (by omega) (h5.symm.trans h4)))]
   exact numGo_some (by omega) (by omega) (by omega) h4
/-- The number is that of the only name that fits. -/
theorem numR_cases (p o : ByteArray) : (numR p o = 0 ∧ ∀ k, 1 ≤ k → k ≤ 16 → o ≠ partS p k) ∨ (1 ≤ numR p o ∧ numR p o ≤ 16 ∧ o = partS p (numR p o)) := by
 by_cases h : ∃ k, 1 ≤ k ∧ k ≤ 16 ∧ o = partS p k
 ·
  obtain ⟨k, h1, h2, h3⟩ := h
  have h4 : numR p o = k := numGo_some h1 (by omega) (by omega) h3
  exact .inr ⟨by omega, by omega, by rw [h4]; exact h3⟩
 ·
  have h4 : ∀ k, 1 ≤ k → k ≤ 16 → o ≠ partS p k := fun k h1 h2 h3 => h ⟨k, h1, h2, h3⟩
  exact .inl ⟨numGo_none fun j h1 h2 => h4 j h1 (by omega), h4⟩
/-- The same, as the program finds it: behind the parent's name and "p" comes the numeral of a number in the range. -/
theorem numR_digits {p o : ByteArray} {dg : List UInt8} (h : o.data.toList = (p ++ ⟨#[112]⟩).data.toList ++ dg) {n : Int} (hn : Lib.itoa n = dg) (h1 : 1 ≤ n) (h2 : n ≤ 16) : (numR p o : Int) = n := by
 obtain ⟨k, rfl⟩ : ∃ k : Nat, n = k := ⟨n.toNat, by omega⟩
 have ho : o = partS p k := by
  have h3 : o.data.toList = (partS p k).data.toList := by
   unfold partS; rw [app_data (p ++ ⟨#[112]⟩) (itB k), h, ← hn]; rfl
  cases o with
  | mk d => cases hq : partS p k with
   | mk d2 => rw [hq] at h3; simp at h3; rw [h3]
 have : numR p o = k := numGo_some (by omega) (by omega) (by omega) ho
 rw [this]
theorem numR_back {p o : ByteArray} (h : numR p o ≠ 0) : ∃ dg, o.data.toList = (p ++ ⟨#[112]⟩).data.toList ++ dg ∧ Lib.itoa (numR p o : Int) = dg ∧ (1 : Int) ≤ numR p o ∧ (numR p o : Int) ≤ 16 := by
 rcases numR_cases p o with ⟨h0, -⟩ | ⟨h1, h2, h3⟩
 · exact absurd h0 h
 ·
  refine ⟨Lib.itoa (numR p o : Int), ?_, rfl, by omega, by omega⟩
  have h4 := congrArg (fun b : ByteArray => b.data.toList) h3
  have h5 : (partS p (numR p o)).data.toList = (p ++ ⟨#[112]⟩).data.toList ++ Lib.itoa (numR p o : Int) := by
   unfold partS; rw [app_data]; rfl
  exact h4.trans h5
/-- The number of a device as a partition, 0 if it is none. -/
def partO (L : List Dev) (n : Int) : Nat := match findD L n with
 | none => 0
 | some d => match findD L d.par with
  | none => 0
  | some p => if d.kind = 2 ∧ p.kind = 2 then numR p.orig d.orig else 0
def parO (L : List Dev) (n : Int) : Int := ((findD L n).getD zeroD).par
theorem part_none {L : List Dev} {n : Int} (hn : n ∉ idxs L) : partO L n = 0 := by unfold partO; rw [find_none.2 hn]
theorem par_of {L : List Dev} (h : WF L) {d : Dev} (hd : d ∈ L) : parO L d.idx = d.par := by unfold parO; rw [find_of h.uniq hd]; rfl
def sisB (L : List Dev) (i j : Int) : Bool := decide (partO L i ≠ 0) && decide (partO L j ≠ 0) && decide (i ≠ j) && decide (parO L i = parO L j)
/-- Related devices, as the reference says. -/
def relB (L : List Dev) (i j : Int) : Bool := (idxs L).contains i && (idxs L).contains j && (decide (i = j) || aboveB L i j || aboveB L j i || sisB L i j)
/-- The same, by origins. -/
theorem rel_under {L : List Dev} (h : VT L) {x y : Dev} (hx : x ∈ L) (hy : y ∈ L) : relB L x.idx y.idx = (decide (x.idx = y.idx) || underL (orgF L x.idx) (orgF L y.idx) || underL (orgF L y.idx) (orgF L x.idx) || sisB L x.idx y.idx) := by
 unfold relB
 rw [List.contains_iff_mem.2 (mem_idxs hx), List.contains_iff_mem.2 (mem_idxs hy), above_under h hx hy, above_under h hy hx]
 rfl
/-- The numbers that are in the tree, in its order. -/
def ordR (L : List Dev) (l : List Int) : List Int := idxs (L.filter fun d => l.contains d.idx)
/-- The reference's batch. -/
def okBat (L : List Dev) (dirty busy out : List Int) (n : Int) : Bool :=
 !busy.contains n && ((chainO L n).drop 1).all (fun u => !dirty.contains u.idx && !busy.contains u.idx) && busy.all (fun b => !sisB L n b) && out.all (fun b => !sisB L n b)
def batR (L : List Dev) (dirty busy : List Int) : List Int → List Int → List Int
 | [], out => out
 | n :: r, out => if okBat L dirty busy out n then batR L dirty busy r (out ++ [n]) else batR L dirty busy r out
/-- What is at or below something dirty or busy. -/
def waitB (L : List Dev) (dirty busy : List Int) (m : Int) : Bool := inS L (fun k => dirty.contains k || busy.contains k) m
/-- The program's batch: with the parents one of whose partitions is taken. -/
def skipBat (L : List Dev) (dirty busy : List Int) (ps : List Int) (n : Int) : Bool := busy.contains n || waitB L dirty busy (parO L n) || (decide (partO L n ≠ 0) && ps.contains (parO L n))
def batP (L : List Dev) (dirty busy : List Int) : List Int → List Int → List Int → List Int
 | [], out, _ => out
 | n :: r, out, ps => if skipBat L dirty busy ps n then batP L dirty busy r out ps else batP L dirty busy r (out ++ [n]) (if partO L n ≠ 0 then parO L n :: ps else ps)
/-- The parents that the program knows of are those of the busy and the taken partitions. -/
def PsOf (L : List Dev) (busy out ps : List Int) : Prop := ∀ m, m ∈ ps ↔ ∃ b, (b ∈ busy ∨ b ∈ out) ∧ partO L b ≠ 0 ∧ parO L b = m
theorem skip_ok {L : List Dev} (h : WF L) {dirty busy out ps : List Int} {n : Int} (hn : n ∈ idxs L) (ho : n ∉ out) (hp : PsOf L busy out ps) : skipBat L dirty busy ps n = !okBat L dirty busy out n := by
 obtain ⟨d, hd, rfl⟩ := List.mem_map.1 hn
 have hw : waitB L dirty busy (parO L d.idx) = !((chainO L d.idx).drop 1).all (fun u => !dirty.contains u.idx && !busy.contains u.idx) := by
  unfold waitB
  rw [par_of h hd, ← drop_any h hd, List.not_all_eq_any_not]
  congr 1
  funext u
  cases dirty.contains u.idx <;> cases busy.contains u.idx <;> rfl
 unfold skipBat okBat
 rw [hw]
 cases hb : busy.contains d.idx with
 | true => simp
 | false =>
  have hb2 : d.idx ∉ busy := fun h1 => by rw [List.contains_iff_mem.2 h1] at hb; cases hb
  have hthird : (decide (partO L d.idx ≠ 0) && ps.contains (parO L d.idx)) = !(busy.all (fun b => !sisB L d.idx b) && out.all (fun b => !sisB L d.idx b)) := by
   rw [Bool.eq_iff_iff, Bool.and_eq_true, decide_eq_true_eq, List.contains_iff_mem, hp, Bool.not_eq_true', Bool.and_eq_false_iff]
   constructor
   ·
    rintro ⟨h1, b, hb1, hb3, hb4⟩
    rcases hb1 with hb1 | hb1
    ·
     left
     rw [List.all_eq_false]
     refine ⟨b, hb1, ?_⟩
     have : d.idx ≠ b := fun e => hb2 (e ▸ hb1)
     unfold sisB
     simp [h1, hb3, this, hb4]
    ·
     right
     rw [List.all_eq_false]
     refine ⟨b, hb1, ?_⟩
     have : d.idx ≠ b := fun e => ho (e ▸ hb1)
     unfold sisB
     simp [h1, hb3, this, hb4]
   ·
    intro h1
    have h2 : ∃ b, (b ∈ busy ∨ b ∈ out) ∧ sisB L d.idx b = true := by
     rcases h1 with h1 | h1
     ·
      obtain ⟨b, hb5, hb6⟩ := List.all_eq_false.1 h1
      exact ⟨b, .inl hb5, by simpa using hb6⟩
     ·
      obtain ⟨b, hb5, hb6⟩ := List.all_eq_false.1 h1
      exact ⟨b, .inr hb5, by simpa using hb6⟩
    obtain ⟨b, hb5, hb6⟩ := h2
    unfold sisB at hb6
    simp only [Bool.and_eq_true, decide_eq_true_eq] at hb6
    exact ⟨hb6.1.1.1, b, hb5, hb6.1.1.2, hb6.2.symm⟩
  rw [hthird]
  generalize ((chainO L d.idx).drop 1).all (fun u => !dirty.contains u.idx && !busy.contains u.idx) = x
  generalize busy.all (fun b => !sisB L d.idx b) = y
  generalize out.all (fun b => !sisB L d.idx b) = z
  cases x <;> cases y <;> cases z <;> rfl
/-- Both batches are the same. -/
theorem bat_same {L : List Dev} (h : WF L) (dirty busy : List Int) : ∀ (l out ps : List Int), (∀ n ∈ l, n ∈ idxs L) → l.Nodup → (∀ n ∈ l, n ∉ out) → PsOf L busy out ps → batP L dirty busy l out ps = batR L dirty busy l out
 | [], _, _, _, _, _, _ => rfl
 | n :: r, out, ps, h1, h2, h3, hp => by
  have hs := skip_ok h (dirty := dirty) (h1 n List.mem_cons_self) (h3 n List.mem_cons_self) hp
  rw [List.nodup_cons] at h2
  have hr1 : ∀ m ∈ r, m ∈ idxs L := fun m hm => h1 m (List.mem_cons_of_mem _ hm)
  rw [batP, batR, hs]
  cases hk : okBat L dirty busy out n with
  | false =>
   rw [if_pos (show ((!false) = true) by decide), if_neg (show ¬ (false = true) by decide)]
   exact bat_same h dirty busy r out ps hr1 h2.2 (fun m hm => h3 m (List.mem_cons_of_mem _ hm)) hp
  | true =>
   rw [if_neg (show ¬ ((!true) = true) by decide), if_pos (show (true = true) from rfl)]
   refine bat_same h dirty busy r (out ++ [n]) _ hr1 h2.2 (fun m hm hmo => ?_) (fun m => ?_)
   ·
    rcases List.mem_append.1 hmo with h4 | h4
    · exact h3 m (List.mem_cons_of_mem _ hm) h4
    ·
     rw [List.mem_singleton] at h4
     subst h4; exact h2.1 hm
   ·
    by_cases hq : partO L n ≠ 0
    ·
     rw [if_pos hq, List.mem_cons, hp]
     constructor
     ·
      rintro (rfl | ⟨b, hb, h5, h6⟩)
      · exact ⟨n, .inr (List.mem_append_right _ (List.mem_singleton.2 rfl)), hq, rfl⟩
      · exact ⟨b, hb.imp id (List.mem_append_left _), h5, h6⟩
     ·
      rintro ⟨b, hb, h5, h6⟩
      rcases hb with hb | hb
      · exact .inr ⟨b, .inl hb, h5, h6⟩
      ·
       rcases List.mem_append.1 hb with hb | hb
       · exact .inr ⟨b, .inr hb, h5, h6⟩
       ·
        rw [List.mem_singleton] at hb
        subst hb; exact .inl h6.symm
    ·
     rw [if_neg hq, hp]
     constructor
     ·
      rintro ⟨b, hb, h5, h6⟩
      exact ⟨b, hb.imp id (List.mem_append_left _), h5, h6⟩
     ·
      rintro ⟨b, hb, h5, h6⟩
      rcases hb with hb | hb
      · exact ⟨b, .inl hb, h5, h6⟩
      ·
       rcases List.mem_append.1 hb with hb | hb
       · exact ⟨b, .inr hb, h5, h6⟩
       ·
        rw [List.mem_singleton] at hb
        subst hb; exact absurd h5 hq
theorem ord_in {L : List Dev} (l : List Int) : ∀ n ∈ ordR L l, n ∈ idxs L := fun n hn => by
 obtain ⟨d, hd, rfl⟩ := List.mem_map.1 hn
 exact mem_idxs (List.mem_filter.1 hd).1
theorem ord_nodup {L : List Dev} (h : WF L) (l : List Int) : (ordR L l).Nodup := h.uniq.sublist ((List.filter_sublist (l := L)).map _)
end Go.Cold
namespace Go.Cold
open Go Go.RowKit
end Go.Cold
namespace Go.Cold
open Go Go.RowKit
/-- Where the law stands that takes batch after batch: what was taken, what is left. -/
structure EndAt (L : List Dev) (all taken dirty : List Int) : Prop where
 tree : ∀ n ∈ dirty, n ∈ idxs L
 nodup : dirty.Nodup
 apart : ∀ n ∈ taken, n ∉ dirty
 tnodup : taken.Nodup
 size : taken.length + dirty.length = all.length
 later : ∀ n ∈ taken, ∀ m ∈ dirty, aboveB L m n = false
 order : taken.Pairwise fun a b => aboveB L b a = false
/-- The numbers in the tree that are in a set, or below one that is. -/
def closR (L : List Dev) (l : List Int) : List Int := idxs (L.filter fun d => inS L (fun n => l.contains n) d.idx)
theorem clos_go {L : List Dev} (h : WF L) (l : List Int) : idxs (goS (fun n => l.contains n) L []) = closR L l := by rw [goS_all h]; rfl
end Go.Cold
namespace Go.Cold
open Go Go.RowKit
theorem part_same {L K : List Dev} (h : WF L) (k : WF K) {d : Dev} (hd : d ∈ L) (kd : d ∈ K) (hp : ∀ p, p.idx = d.par → (p ∈ L ↔ p ∈ K)) : partO L d.idx = partO K d.idx ∧ parO L d.idx = parO K d.idx := by
 refine ⟨?_, by rw [par_of h hd, par_of k kd]⟩
 unfold partO
 rw [find_of h.uniq hd, find_of k.uniq kd]
 have hf : findD L d.par = findD K d.par := by
  cases h1 : findD L d.par with
  | some p =>
   obtain ⟨h2, h3⟩ := find_some h1
   rw [← h3, find_of k.uniq ((hp p h3).1 h2)]
  | none =>
   rw [find_none] at h1
   symm
   rw [find_none]
   intro h4
   obtain ⟨p, hp1, hp2⟩ := List.mem_map.1 h4
   exact h1 (hp2 ▸ mem_idxs ((hp p hp2).2 hp1))
 simp only [hf]
theorem rel_same {L K : List Dev} (h : VT L) (k : VT K) {x y : Dev} (hx : x ∈ L) (kx : x ∈ K) (hy : y ∈ L) (ky : y ∈ K) (px : ∀ p, p.idx = x.par → (p ∈ L ↔ p ∈ K)) (py : ∀ p, p.idx = y.par → (p ∈ L ↔ p ∈ K))
  (ox : orgF L x.idx = orgF K x.idx) (oy : orgF L y.idx = orgF K y.idx) : relB L x.idx y.idx = relB K x.idx y.idx := by
 rw [rel_under h hx hy, rel_under k kx ky, ox, oy]
 obtain ⟨a1, a2⟩ := part_same h.wf k.wf hx kx px
 obtain ⟨b1, b2⟩ := part_same h.wf k.wf hy ky py
 have : sisB L x.idx y.idx = sisB K x.idx y.idx := by unfold sisB; rw [a1, a2, b1, b2]
 rw [this]
theorem mem_ins {L : List Dev} {d e : Dev} : e ∈ insL L d ↔ e = d ∨ e ∈ L := by
 unfold insL
 rw [List.mem_append, List.mem_cons]
 constructor
 ·
  rintro (h | h | h)
  · exact .inr (List.mem_of_mem_take h)
  · exact .inl h
  · exact .inr (List.mem_of_mem_drop h)
 ·
  rintro (h | h)
  · exact .inr (.inl h)
  ·
   rw [← List.take_append_drop (atN L (ownL L d)) L] at h
   rcases List.mem_append.1 h with h | h
   · exact .inl h
   · exact .inr (.inr h)
/-- A device more does not change how the others are related. -/
theorem rel_ins {L : List Dev} {d x y : Dev} (h : VT L) (he : insE L d = 0) (hx : x ∈ L) (hy : y ∈ L) : relB (insL L d) x.idx y.idx = relB L x.idx y.idx := by
 obtain ⟨hv, ho⟩ := ins_VT h he
 have hnew := (ins_facts he).2.1
 have hne : ∀ e ∈ L, e.idx ≠ d.idx := fun e he2 h1 => hnew (h1 ▸ mem_idxs he2)
 have hpar : ∀ e ∈ L, ∀ p : Dev, p.idx = e.par → (p ∈ insL L d ↔ p ∈ L) := fun e he2 p hp => by
  rw [mem_ins]
  refine ⟨fun h1 => ?_, .inr⟩
  rcases h1 with rfl | h1
  ·
   exfalso
   rcases parA_mem h.wf.par he2 with h2 | h2 | h2
   ·
    have hz := hv.wf.nz p (mem_ins.2 (.inl rfl))
    exact hz (hp.trans h2)
   · cases h2
   · exact hnew (hp ▸ h2)
  · exact h1
 exact rel_same hv h (mem_ins.2 (.inr hx)) hx (mem_ins.2 (.inr hy)) hy (hpar x hx) (hpar y hy) (by rw [ho, if_neg (hne x hx)]) (by rw [ho, if_neg (hne y hy)])
/-- A subtree less does not change how the others are related. -/
theorem rel_rem {L : List Dev} {x y : Dev} (h : VT L) (t : Int) (hx : x ∈ remL L t) (hy : y ∈ remL L t) : relB (remL L t) x.idx y.idx = relB L x.idx y.idx := by
 obtain ⟨hv, ho⟩ := rem_VT h t
 have hm : ∀ e, e ∈ remL L t ↔ e ∈ L ∧ belowR L t e.idx = false := fun e => by
  unfold remL
  rw [List.mem_filter]
  cases belowR L t e.idx <;> simp
 have hpar : ∀ e ∈ remL L t, ∀ p : Dev, p.idx = e.par → (p ∈ remL L t ↔ p ∈ L) := fun e he p hp => by
  obtain ⟨h1, h2⟩ := (hm e).1 he
  refine ⟨fun h3 => ((hm p).1 h3).1, fun h3 => (hm p).2 ⟨h3, ?_⟩⟩
  rw [below_cons h.wf h1, Bool.or_eq_false_iff] at h2
  rw [hp]; exact h2.2
 exact rel_same hv h hx ((hm x).1 hx).1 hy ((hm y).1 hy).1 (hpar x hx) (hpar y hy) (ho x hx) (ho y hy)
/-- A root with a name of its own can always be added. -/
def zzD : Dev := ⟨900, 0, ⟨#[122, 122]⟩, ⟨#[122, 122]⟩, ⟨#[120]⟩, ⟨#[]⟩, ⟨#[]⟩, 1, 0, []⟩
theorem zz_ins {L : List Dev} (h : VT L) (hl : L.length < 256) (hi : ∀ d ∈ L, d.idx ≠ 900) (ho : ∀ d ∈ L, d.orig ≠ ⟨#[122, 122]⟩) : insE L zzD = 0 := by
 have hown : ownL L zzD = [⟨#[122, 122]⟩] := by
  show orgF L 0 ++ [zzD.orig] = _
  rw [org_zero h.wf]; rfl
 unfold insE
 rw [if_neg (by rw [show checkD zzD = 0 by decide +kernel]; decide), if_neg ?_, if_neg (fun h1 => h1.1 rfl), if_neg (by omega), if_neg (by rw [hown]; decide), if_neg ?_]
 ·
  intro hb
  obtain ⟨x, hx, hb⟩ := List.any_eq_true.1 hb
  unfold badP at hb
  rw [hown] at hb
  rcases Bool.or_eq_true_iff.1 hb with h1 | h1
  ·
   have h2 := (cmpL_total.zero _ _).1 (of_decide_eq_true h1)
   rw [own_head h.wf hx] at h2
   rcases hq : orgF L x.par with _ | ⟨a, r⟩
   ·
    rw [hq, List.nil_append] at h2
    injection h2 with h3 h4
    exact ho x hx h3
   ·
    rw [hq, List.cons_append] at h2
    injection h2 with h3 h4
    simp at h4
  ·
   have hk : zzD.kind = 1 := rfl
   have hn : nodeD zzD = none := by unfold nodeD; rw [hk]; rfl
   unfold clashB at h1
   rw [hn, hk] at h1
   cases hnx : nodeD x <;> rw [hnx] at h1 <;> simp at h1
 ·
  intro h1
  obtain ⟨x, hx, hix⟩ := List.mem_map.1 (List.contains_iff_mem.1 h1)
  exact hi x hx hix
end Go.Cold
namespace Go.Cold
open Go Go.RowKit
/-- The set of what is at or below something. -/
theorem wait_has {L : List Dev} (s : Int → Bool) (m : Int) : (idxs (L.filter fun d => inS L s d.idx)).contains m = inS L s m := by
 rw [Bool.eq_iff_iff, List.contains_iff_mem]
 constructor
 ·
  intro h
  obtain ⟨d, hd, rfl⟩ := List.mem_map.1 h
  exact (List.mem_filter.1 hd).2
 ·
  intro h
  have hm : m ∈ idxs L := Classical.byContradiction fun h1 => by rw [inS_none h1] at h; cases h
  obtain ⟨d, hd, rfl⟩ := List.mem_map.1 hm
  exact mem_idxs (List.mem_filter.2 ⟨hd, h⟩)
/-- The parents of busy partitions, as the program gathers them. -/
def psOf (L : List Dev) (dirty busy : List Int) : List Int := (((L.filter fun d => inS L (fun k => dirty.contains k || busy.contains k) d.idx).filter fun d => decide (partO L d.idx ≠ 0) && busy.contains d.idx).map (·.par)).reverse
theorem ps_start {L : List Dev} (h : WF L) (dirty busy : List Int) : PsOf L busy [] (psOf L dirty busy) := fun m => by
 unfold psOf
 rw [List.mem_reverse]
 constructor
 ·
  intro hm
  obtain ⟨d, hd, rfl⟩ := List.mem_map.1 hm
  obtain ⟨h1, h2⟩ := List.mem_filter.1 hd
  obtain ⟨h3, -⟩ := List.mem_filter.1 h1
  rw [Bool.and_eq_true, decide_eq_true_eq, List.contains_iff_mem] at h2
  exact ⟨d.idx, .inl h2.2, h2.1, par_of h h3⟩
 ·
  rintro ⟨b, hb, hp, rfl⟩
  rcases hb with hb | hb
  ·
   have hbi : b ∈ idxs L := Classical.byContradiction fun h1 => hp (part_none h1)
   obtain ⟨d, hd, rfl⟩ := List.mem_map.1 hbi
   refine List.mem_map.2 ⟨d, List.mem_filter.2 ⟨List.mem_filter.2 ⟨hd, ?_⟩, ?_⟩, (par_of h hd).symm⟩
   · rw [inS_cons h hd, List.contains_iff_mem.2 hb, Bool.or_true, Bool.true_or]
   · rw [List.contains_iff_mem.2 hb, decide_eq_true hp]; rfl
  · cases hb
/-- Both batches begin alike. -/
theorem batch_same {L : List Dev} (h : WF L) (dirty busy : List Int) : batP L dirty busy (ordR L dirty) [] (psOf L dirty busy) = batR L dirty busy (ordR L dirty) [] :=
 bat_same h dirty busy _ _ _ (ord_in dirty) (ord_nodup h dirty) (fun _ _ h => by cases h) (ps_start h dirty busy)
end Go.Cold
