/-
  The plain side of layer 4: the ancestors of a device. No program is named here.
-/
import Derived.Test.YtjpoljlgkgmdkaaGreatDoorWA
import Derived.Test.YtjpoljlgkgmdkaaGreatDoorWB
import Derived.Maps.OwnIn
import Derived.Lib.ItoaNum
import Derived.Lib.AtoiAllCases
import Derived.Lib.AppendIntMem
import Derived.Test.YtjpoljlgkgmdkaaGreatDoorCards
import Derived.Test.YtjpoljlgkgmdkaaGreatDoorTie
import Derived.ProofKit
import Derived.OpenShut
import Derived.Below
import Derived.ChangeSame
import Derived.Deep.DeepHandedRow
import Derived.Lay
import Derived.SevenTiedAt
import Derived.SliceStrings
import Derived.WideKeyArgs
import Derived.Stop.LaidErr
import Derived.ChangeSlices
import Derived.Laws.CopyRow
import Derived.Laws.IdiomCopy
import Derived.Lib.AppendZerosOnto
import Derived.Lib.Overlaps
import Derived.Laws.Externs
set_option linter.unusedSimpArgs false
set_option linter.unusedVariables false
namespace Go.Cold
open Go Go.RowKit
end Go.Cold
namespace Go.Cold
open Go Go.RowKit
def unitR (v : Value) : Option (DataW Unit × List MemPlace) := match v with
 | .agg a => if a.size = 0 then some (.agg [], []) else none
 | _ => none
def SetV (P : Program) (k e : TypeId) (w : World) (b n : Nat) (s : Int → Bool) : Prop :=
 ∃ D : DataW Unit, w.ownsMap P k unitR b n D ∧ ∀ i, okI i → Maps.has D (.int .i64 i) = s i
section
variable {P : Program} {k e t : TypeId} {w w' : World} {b n : Nat} {s : Int → Bool}
theorem SetV.kept {row : Option Nat} (h : SetV P k e w b n s) (hg : w.grownBy w' row) (hne : some b ≠ row) : SetV P k e w' b n s := by
 obtain ⟨D, h1, h2⟩ := h
 exact ⟨D, h1.kept hg hne, h2⟩
theorem SetV.lt (h : SetV P k e w b n s) : b < w.heap.size := by obtain ⟨D, h1, _⟩ := h; exact h1.lt
theorem SetV.below {B : Nat} (h : SetV P k e w b n s) (hb : Below B w w') (hlt : b < B) : SetV P k e w' b n s := by
 obtain ⟨D, ⟨es, clock, h1, h2⟩, h3⟩ := h
 exact ⟨D, ⟨es, clock, (hb.block b hlt).trans h1, h2⟩, h3⟩
theorem SetV.next (h : SetV P k e w b n s) (hb : Below w.heap.size w w') : SetV P k e w' b n s := h.below hb h.lt
theorem SetV.mono {m : Nat} (h : SetV P k e w b n s) (hm : n ≤ m) : SetV P k e w b m s := by obtain ⟨D, h1, h2⟩ := h; exact ⟨D, h1.mono hm, h2⟩
end
end Go.Cold
namespace Go.Cold
open Go Go.RowKit
instance : RepS Int where
 rdS _ _ n cs := cs = [.int .i64 n] ∧ -9223372036854775808 ≤ n ∧ n ≤ 9223372036854775807
 pos := by show 0 < 1; omega
 lenS h := by rw [h.1]; rfl
 one h u hu := by rw [h.1] at hu; simp at hu; subst hu; rfl
 mono _ _ h := h
 rd_iff := Iff.rfl
end Go.Cold
namespace Go.Cold
open Go Go.RowKit
def inS (L : List Dev) (s : Int → Bool) (n : Int) : Bool := (chainO L n).any fun d => s d.idx
def aboveB (L : List Dev) (i j : Int) : Bool := ((chainO L j).drop 1).any fun d => decide (d.idx = i)
theorem drop_any {L : List Dev} (h : WF L) {d : Dev} (hd : d ∈ L) (s : Int → Bool) : (((chainO L d.idx).drop 1).any fun e => s e.idx) = inS L s d.par := by
 unfold inS
 rw [chainO_cons h hd]; rfl
end Go.Cold
namespace Go.Cold
open Go Go.RowKit
def itB (k : Nat) : ByteArray := ⟨(Lib.itoa (k : Int)).toArray⟩
def partS (p : ByteArray) (k : Nat) : ByteArray := (p ++ ⟨#[112]⟩) ++ itB k
def numGo (p o : ByteArray) : Nat → Nat → Nat
 | 0, _ => 0
 | m + 1, k => if o = partS p k then k else numGo p o m (k + 1)
def numR (p o : ByteArray) : Nat := numGo p o 16 1
def partO (L : List Dev) (n : Int) : Nat := match findD L n with
 | none => 0
 | some d => match findD L d.par with
  | none => 0
  | some p => if d.kind = 2 ∧ p.kind = 2 then numR p.orig d.orig else 0
def parO (L : List Dev) (n : Int) : Int := ((findD L n).getD zeroD).par
def sisB (L : List Dev) (i j : Int) : Bool := decide (partO L i ≠ 0) && decide (partO L j ≠ 0) && decide (i ≠ j) && decide (parO L i = parO L j)
theorem sis_comm (L : List Dev) (i j : Int) : sisB L i j = sisB L j i := by
 unfold sisB
 rw [Bool.eq_iff_iff]
 simp only [Bool.and_eq_true, decide_eq_true_eq]
 exact ⟨fun ⟨⟨⟨a, b⟩, c⟩, d⟩ => ⟨⟨⟨b, a⟩, Ne.symm c⟩, d.symm⟩, fun ⟨⟨⟨a, b⟩, c⟩, d⟩ => ⟨⟨⟨b, a⟩, Ne.symm c⟩, d.symm⟩⟩
theorem sis_self (L : List Dev) (i : Int) : sisB L i i = false := by unfold sisB; simp
def ordR (L : List Dev) (l : List Int) : List Int := idxs (L.filter fun d => l.contains d.idx)
def okBat (L : List Dev) (dirty busy out : List Int) (n : Int) : Bool :=
 !busy.contains n && ((chainO L n).drop 1).all (fun u => !dirty.contains u.idx && !busy.contains u.idx) && busy.all (fun b => !sisB L n b) && out.all (fun b => !sisB L n b)
def batR (L : List Dev) (dirty busy : List Int) : List Int → List Int → List Int
 | [], out => out
 | n :: r, out => if okBat L dirty busy out n then batR L dirty busy r (out ++ [n]) else batR L dirty busy r out
theorem ord_nodup {L : List Dev} (h : WF L) (l : List Int) : (ordR L l).Nodup := h.uniq.sublist ((List.filter_sublist (l := L)).map _)
end Go.Cold
namespace Go.Cold
open Go Go.RowKit
theorem chain_left {A B : List Dev} (h : WF (A ++ B)) : ∀ (k : Nat) (n : Int), n ∈ idxs A → ∀ u ∈ chainL (A ++ B) k n, u ∈ A
 | 0, n, _, u, hu => by rw [chainL] at hu; cases hu
 | k + 1, n, hn, u, hu => by
  obtain ⟨e, he, rfl⟩ := List.mem_map.1 hn
  rw [chainL, find_of h.uniq (List.mem_append_left _ he)] at hu
  rcases List.mem_cons.1 hu with rfl | hu
  · exact he
  ·
   have hw := h.left
   rcases parA_mem hw.par he with h1 | h1 | h1
   ·
    exfalso
    rw [h1] at hu
    have hz := zero_out h
    cases k with
    | zero => rw [chainL] at hu; cases hu
    | succ k => rw [chainL, find_none.2 hz] at hu; cases hu
   · cases h1
   · exact chain_left h k e.par h1 u hu
theorem anc_left {A B : List Dev} {d : Dev} (h : WF (A ++ d :: B)) : ∀ u ∈ (chainO (A ++ d :: B) d.idx).drop 1, u ∈ A := by
 intro u hu
 rw [chainO_cons h (List.mem_append_right _ List.mem_cons_self)] at hu
 have hu2 : u ∈ chainO (A ++ d :: B) d.par := hu
 rcases (parA_append.1 h.par).2.1 with h1 | h1
 · rw [h1, chainO_none (zero_out h)] at hu2; cases hu2
 ·
  rw [List.append_nil] at h1
  exact chain_left h _ _ h1 u hu2
theorem bat_mono (L : List Dev) (dirty busy : List Int) : ∀ (l out : List Int), ∃ more, batR L dirty busy l out = out ++ more
 | [], out => ⟨[], by rw [batR, List.append_nil]⟩
 | n :: r, out => by
  rw [batR]
  split
  ·
   obtain ⟨m, hm⟩ := bat_mono L dirty busy r (out ++ [n])
   exact ⟨n :: m, by rw [hm, List.append_assoc]; rfl⟩
  · exact bat_mono L dirty busy r out
theorem bat_progress {L : List Dev} (h : WF L) (dirty : List Int) : (batR L dirty [] (ordR L dirty) [] = []) ↔ ordR L dirty = [] := by
 constructor
 ·
  intro hb
  rcases hl : ordR L dirty with _ | ⟨n, r⟩
  · rfl
  ·
   exfalso
   unfold ordR idxs at hl
   rcases hf : L.filter (fun d => dirty.contains d.idx) with _ | ⟨d, s⟩
   · rw [hf] at hl; cases hl
   ·
    rw [hf, List.map_cons] at hl
    injection hl with h1 h2
    obtain ⟨A, B, hL, hA, hd, -⟩ := List.filter_eq_cons_iff.1 hf
    have hok : okBat L dirty [] [] n = true := by
     unfold okBat
     have hch : ((chainO L n).drop 1).all (fun u => !dirty.contains u.idx && !([] : List Int).contains u.idx) = true := by
      rw [List.all_eq_true]
      intro u hu
      rw [← h1, hL] at hu
      have hua := anc_left (by rw [← hL]; exact h) u hu
      have := hA u hua
      cases hq : dirty.contains u.idx with
      | true => rw [hq] at this; exact absurd rfl this
      | false => rfl
     rw [hch]; rfl
    unfold ordR idxs at hb
    rw [hf, List.map_cons, h1, batR, hok, if_pos rfl] at hb
    obtain ⟨m, hm⟩ := bat_mono L dirty [] (s.map (·.idx)) ([] ++ [n])
    rw [hm] at hb
    cases hb
 ·
  intro hb
  rw [hb]; rfl
def BatOk (L : List Dev) (dirty busy : List Int) (n : Int) : Prop := n ∉ busy ∧ (∀ u ∈ (chainO L n).drop 1, u.idx ∉ dirty ∧ u.idx ∉ busy) ∧ ∀ b ∈ busy, sisB L n b = false
theorem okBat_iff {L : List Dev} {dirty busy out : List Int} {n : Int} : okBat L dirty busy out n = true ↔ BatOk L dirty busy n ∧ ∀ b ∈ out, sisB L n b = false := by
 unfold okBat BatOk
 simp only [Bool.and_eq_true, List.all_eq_true, Bool.not_eq_true']
 have hc : ∀ (l : List Int) (m : Int), l.contains m = false ↔ m ∉ l := fun l m => by
  rw [← Bool.not_eq_true, List.contains_iff_mem]
 simp only [hc]
 exact ⟨fun ⟨⟨⟨a, b⟩, c⟩, d⟩ => ⟨⟨a, b, c⟩, d⟩, fun ⟨⟨a, b, c⟩, d⟩ => ⟨⟨⟨a, b⟩, c⟩, d⟩⟩
theorem bat_facts (L : List Dev) (dirty busy : List Int) : ∀ (l out : List Int), (∀ n ∈ out, BatOk L dirty busy n) → (out.Pairwise fun a b => sisB L a b = false) →
  (∀ n ∈ batR L dirty busy l out, (n ∈ l ∨ n ∈ out) ∧ BatOk L dirty busy n) ∧ ((batR L dirty busy l out).Pairwise fun a b => sisB L a b = false) ∧
  (∀ n ∈ l, BatOk L dirty busy n → (∀ b ∈ batR L dirty busy l out, b ≠ n → sisB L n b = false) → n ∈ batR L dirty busy l out)
 | [], out, h1, h2 => ⟨fun n hn => ⟨.inr hn, h1 n hn⟩, h2, fun n hn => by cases hn⟩
 | n :: r, out, h1, h2 => by
  rw [batR]
  cases hk : okBat L dirty busy out n with
  | true =>
   rw [if_pos rfl]
   obtain ⟨hb, hs⟩ := okBat_iff.1 hk
   obtain ⟨q1, q2, q3⟩ := bat_facts L dirty busy r (out ++ [n]) (fun m hm => by
    rcases List.mem_append.1 hm with hm | hm
    · exact h1 m hm
    · rw [List.mem_singleton.1 hm]; exact hb) (List.pairwise_append.2 ⟨h2, List.pairwise_singleton _ _, fun a ha b hb2 => by rw [List.mem_singleton.1 hb2, sis_comm]; exact hs a ha⟩)
   refine ⟨fun m hm => ?_, q2, fun m hm hmb hms => ?_⟩
   ·
    obtain ⟨h3, h4⟩ := q1 m hm
    refine ⟨?_, h4⟩
    rcases h3 with h3 | h3
    · exact .inl (List.mem_cons_of_mem _ h3)
    ·
     rcases List.mem_append.1 h3 with h3 | h3
     · exact .inr h3
     · rw [List.mem_singleton.1 h3]; exact .inl List.mem_cons_self
   ·
    rcases List.mem_cons.1 hm with rfl | hm
    ·
     obtain ⟨more, hmo⟩ := bat_mono L dirty busy r (out ++ [m])
     rw [hmo]
     exact List.mem_append_left _ (List.mem_append_right _ (List.mem_singleton.2 rfl))
    · exact q3 m hm hmb hms
  | false =>
   rw [if_neg (by decide)]
   obtain ⟨q1, q2, q3⟩ := bat_facts L dirty busy r out h1 h2
   refine ⟨fun m hm => ?_, q2, fun m hm hmb hms => ?_⟩
   ·
    obtain ⟨h3, h4⟩ := q1 m hm
    exact ⟨h3.imp (List.mem_cons_of_mem _) id, h4⟩
   ·
    rcases List.mem_cons.1 hm with rfl | hm
    ·
     exfalso
     obtain ⟨more, hmo⟩ := bat_mono L dirty busy r out
     have : okBat L dirty busy out m = true := okBat_iff.2 ⟨hmb, fun b hb => by
      by_cases he : b = m
      · subst he; exact sis_self L b
      · exact hms b (by rw [hmo]; exact List.mem_append_left _ hb) he⟩
     rw [hk] at this; cases this
    · exact q3 m hm hmb hms
theorem ord_iff {L : List Dev} {l : List Int} {n : Int} : n ∈ ordR L l ↔ n ∈ idxs L ∧ n ∈ l := by
 constructor
 ·
  intro h
  obtain ⟨d, hd, rfl⟩ := List.mem_map.1 h
  obtain ⟨h1, h2⟩ := List.mem_filter.1 hd
  exact ⟨mem_idxs h1, List.contains_iff_mem.1 h2⟩
 ·
  rintro ⟨h1, h2⟩
  obtain ⟨d, hd, rfl⟩ := List.mem_map.1 h1
  exact mem_idxs (List.mem_filter.2 ⟨hd, List.contains_iff_mem.2 h2⟩)
def batch (L : List Dev) (dirty busy : List Int) : List Int := batR L dirty busy (ordR L dirty) []
theorem batch_iff {L : List Dev} (h : WF L) (dirty busy : List Int) {n : Int} (hn : n ∈ idxs L) :
  (n ∈ batch L dirty busy → n ∈ dirty ∧ BatOk L dirty busy n) ∧ (n ∈ dirty → BatOk L dirty busy n → (∀ b ∈ batch L dirty busy, b ≠ n → sisB L n b = false) → n ∈ batch L dirty busy) := by
 obtain ⟨q1, q2, q3⟩ := bat_facts L dirty busy (ordR L dirty) [] (fun _ h => by cases h) List.Pairwise.nil
 refine ⟨fun hb => ?_, fun hd hb hs => q3 n (ord_iff.2 ⟨hn, hd⟩) hb hs⟩
 obtain ⟨h1, h2⟩ := q1 n hb
 rcases h1 with h1 | h1
 · exact ⟨(ord_iff.1 h1).2, h2⟩
 · cases h1
end Go.Cold
namespace Go.Cold
open Go Go.RowKit
def restB (batch dirty : List Int) : List Int := dirty.filter fun n => !batch.contains n
structure EndAt (L : List Dev) (all taken dirty : List Int) : Prop where
 tree : ∀ n ∈ dirty, n ∈ idxs L
 nodup : dirty.Nodup
 apart : ∀ n ∈ taken, n ∉ dirty
 tnodup : taken.Nodup
 size : taken.length + dirty.length = all.length
 later : ∀ n ∈ taken, ∀ m ∈ dirty, aboveB L m n = false
 order : taken.Pairwise fun a b => aboveB L b a = false
theorem EndAt.start {L : List Dev} {all : List Int} (h1 : ∀ n ∈ all, n ∈ idxs L) (h2 : all.Nodup) : EndAt L all [] all :=
 ⟨h1, h2, fun _ h => by (cases h), List.nodup_nil, by simp, fun _ h => by (cases h), List.Pairwise.nil⟩
theorem bat_sub (L : List Dev) (dirty busy : List Int) : ∀ (l out : List Int), ∃ more, batR L dirty busy l out = out ++ more ∧ more.Sublist l
 | [], out => ⟨[], by rw [batR, List.append_nil], List.Sublist.refl _⟩
 | n :: r, out => by
  rw [batR]
  split
  ·
   obtain ⟨m, hm, hs⟩ := bat_sub L dirty busy r (out ++ [n])
   exact ⟨n :: m, by rw [hm, List.append_assoc]; rfl, hs.cons_cons n⟩
  ·
   obtain ⟨m, hm, hs⟩ := bat_sub L dirty busy r out
   exact ⟨m, hm, hs.cons n⟩
theorem batch_nodup {L : List Dev} (h : WF L) (dirty busy : List Int) : (batch L dirty busy).Nodup := by
 obtain ⟨m, hm, hs⟩ := bat_sub L dirty busy (ordR L dirty) []
 unfold batch
 rw [hm, List.nil_append]
 exact (ord_nodup h dirty).sublist hs
theorem filter_size {l b : List Int} (hl : l.Nodup) (hb : b.Nodup) (hs : ∀ n ∈ b, n ∈ l) : b.length + (restB b l).length = l.length := by
 have h1 : (l.filter fun n => b.contains n).length + (restB b l).length = l.length := by
  unfold restB
  have := List.length_eq_countP_add_countP (fun n => b.contains n) (l := l)
  rw [List.countP_eq_length_filter, List.countP_eq_length_filter] at this
  have e : (fun n : Int => decide (¬ b.contains n = true)) = fun n => !b.contains n := funext fun n => by cases b.contains n <;> rfl
  rw [e] at this
  omega
 have h2 : (l.filter fun n => b.contains n).length = b.length := by
  have p : (l.filter fun n => b.contains n).Perm b := by
   refine (List.perm_ext_iff_of_nodup (hl.sublist List.filter_sublist) hb).2 fun n => ?_
   rw [List.mem_filter, List.contains_iff_mem]
   exact ⟨fun h => h.2, fun h => ⟨hs n h, h⟩⟩
  exact p.length_eq
 omega
theorem EndAt.next {L : List Dev} (h : WF L) {all taken dirty : List Int} (he : EndAt L all taken dirty) : EndAt L all (taken ++ batch L dirty []) (restB (batch L dirty []) dirty) := by
 have hb : ∀ n ∈ batch L dirty [], n ∈ dirty ∧ BatOk L dirty [] n := fun n hn => by
  have h1 : n ∈ idxs L := by
   obtain ⟨q1, -, -⟩ := bat_facts L dirty [] (ordR L dirty) [] (fun _ h => by cases h) List.Pairwise.nil
   rcases (q1 n hn).1 with h2 | h2
   · exact (ord_iff.1 h2).1
   · cases h2
  exact (batch_iff h dirty [] h1).1 hn
 have hsub : ∀ n ∈ restB (batch L dirty []) dirty, n ∈ dirty ∧ n ∉ batch L dirty [] := fun n hn => by
  obtain ⟨h1, h2⟩ := List.mem_filter.1 hn
  exact ⟨h1, fun h3 => by rw [List.contains_iff_mem.2 h3] at h2; cases h2⟩
 have habove : ∀ n ∈ batch L dirty [], ∀ m ∈ dirty, aboveB L m n = false := fun n hn m hm => by
  cases ha : aboveB L m n with
  | false => rfl
  | true =>
   exfalso
   obtain ⟨e, he2, hi⟩ := List.any_eq_true.1 ha
   exact ((hb n hn).2.2.1 e he2).1 ((of_decide_eq_true hi) ▸ hm)
 refine ⟨fun n hn => he.tree n (hsub n hn).1, he.nodup.sublist List.filter_sublist, fun n hn hd => ?_, ?_, ?_, fun n hn m hm => ?_, ?_⟩
 ·
  rcases List.mem_append.1 hn with hn | hn
  · exact he.apart n hn (hsub n hd).1
  · exact (hsub n hd).2 hn
 ·
  refine List.nodup_append.2 ⟨he.tnodup, batch_nodup h _ _, fun a ha b hb2 e => ?_⟩
  subst e
  exact he.apart a ha (hb a hb2).1
 ·
  rw [List.length_append]
  have := filter_size he.nodup (batch_nodup h dirty []) (fun n hn => (hb n hn).1)
  have := he.size
  omega
 ·
  rcases List.mem_append.1 hn with hn | hn
  · exact he.later n hn m (hsub m hm).1
  · exact habove n hn m (hsub m hm).1
 ·
  refine List.pairwise_append.2 ⟨he.order, ?_, fun a ha b hb2 => he.later a ha b (hb b hb2).1⟩
  exact List.Pairwise.imp_of_mem (fun {a b} ha hb2 _ => habove a ha b (hb b hb2).1) (batch_nodup h dirty [])
theorem EndAt.more {L : List Dev} (h : WF L) {all taken dirty : List Int} (he : EndAt L all taken dirty) (hd : dirty ≠ []) : batch L dirty [] ≠ [] ∧ (restB (batch L dirty []) dirty).length < dirty.length := by
 have h1 : batch L dirty [] ≠ [] := fun hb => by
  have h2 := (bat_progress h dirty).1 hb
  rcases dirty with _ | ⟨n, r⟩
  · exact hd rfl
  ·
   have h3 : n ∈ ordR L (n :: r) := ord_iff.2 ⟨he.tree n List.mem_cons_self, List.mem_cons_self⟩
   rw [h2] at h3; cases h3
 refine ⟨h1, ?_⟩
 have hb : ∀ n ∈ batch L dirty [], n ∈ dirty := fun n hn => by
  obtain ⟨q1, -, -⟩ := bat_facts L dirty [] (ordR L dirty) [] (fun _ h => by cases h) List.Pairwise.nil
  rcases (q1 n hn).1 with h2 | h2
  · exact (ord_iff.1 h2).2
  · cases h2
 have := filter_size he.nodup (batch_nodup h dirty []) hb
 have : 0 < (batch L dirty []).length := List.length_pos_iff.2 h1
 omega
end Go.Cold
namespace Go.Cold
open Go Go.RowKit
end Go.Cold
namespace Go.Cold
open Go Go.RowKit
end Go.Cold
namespace Go.Cold
open Go Go.RowKit
end Go.Cold
namespace Go.Proofs.YtjpoljlgkgmdkaaGreatDoor
open Go.RowKit Go.Cold
end Go.Proofs.YtjpoljlgkgmdkaaGreatDoor
namespace Go.Cold
open Go Go.RowKit
end Go.Cold
namespace Go.Proofs.YtjpoljlgkgmdkaaGreatDoor
open Go.RowKit Go.Cold
def ifaceW (ev : Value) : Prop := ev = .nilIface ∨ ∃ te pe, ev = .iface te pe
def OkA (w : World) : Prop := (∃ ev, w.cell? ⟨2, 0, none⟩ = some ev ∧ ifaceW ev) ∧ (∃ ev, w.cell? ⟨3, 0, none⟩ = some ev ∧ ifaceW ev)
theorem OkA.lt {w : World} (h : OkA w) : 2 < w.heap.size ∧ 3 < w.heap.size := by
 obtain ⟨⟨e1, h1, _⟩, ⟨e2, h2, _⟩⟩ := h
 exact ⟨block_lt_of_cell h1, block_lt_of_cell h2⟩
theorem OkA.next {w w' : World} (h : OkA w) (hb : Below w.heap.size w w') : OkA w' := by
 obtain ⟨l1, l2⟩ := h.lt
 obtain ⟨⟨e1, h1, q1⟩, ⟨e2, h2, q2⟩⟩ := h
 exact ⟨⟨e1, (hb.cell (p := ⟨_, 0, none⟩) (by exact l1)).trans h1, q1⟩, ⟨e2, (hb.cell (p := ⟨_, 0, none⟩) (by exact l2)).trans h2, q2⟩⟩
end Go.Proofs.YtjpoljlgkgmdkaaGreatDoor
namespace Go.Cold
open Go Go.RowKit
end Go.Cold
namespace Go.Proofs.YtjpoljlgkgmdkaaGreatDoor
open Go.ChangeShapes Go.WideShapes Go.ChangeAt Go.RowKit

theorem own : ownKnob Tryz.prog.godebug = none := by kernel_rfl

section
variable {H : Type} {enc : TypeId × Value → H} {P : Program}
theorem post_of_below {f : Func} {s : ChangeSpec} {apart fresh handsOn again : Bool} {W W' : World} {args : Array Value} {v : Value} {ds gs : List (DataW H)} {before pa pv : List MemPlace}
  (hW : DataW.Whole enc P f.params.toList s.vars apart W args.toList ds gs before)
  (hres : ∀ (b : Nat) (sp : Nat → Bool) (hd : Bool), DataW.TrodAll enc P W' b sp hd f.resultTypes.toList (v.resultList f.resultTypes.size) (s.fn H (ds ++ gs)).results [])
  (hargs : ∀ sp : Nat → Bool, (∀ p ∈ before, sp p.block = true) → DataW.TrodAll enc P W' 0 sp true f.params.toList args.toList (s.fn H (ds ++ gs)).args pa)
  (hvars : ∀ sp : Nat → Bool, (∀ p ∈ before, sp p.block = true) → DataW.TrodVars enc P W' sp s.vars (s.fn H (ds ++ gs)).vars pv)
  (hps : before = pa ++ pv) (hb : Below W.heap.size W W')
  (hok : ∀ (j : Nat) (t : TypeId) (r : Value), f.resultTypes[j]? = some t → (v.resultList f.resultTypes.size)[j]? = some r → Value.okWide P W' .any 0 t r) :
  s.post enc P f apart fresh handsOn again W args v W' := by
 have hlt : ∀ p ∈ before, p.block < W.heap.size := fun p hp => hW.lt p hp
 have hold : ∀ p ∈ before, (fun b => decide (b < W.heap.size)) p.block = true := fun p hp => by simpa using hlt p hp
 refine ⟨ds, gs, before, [], pa, pv, hW, hres _ _ _, hargs _ hold, hvars _ hold, World.keptBut_mono (fun p hp => ⟨hp, ?_⟩) (hb.frame (· ∈ before)), fun _ => ?_⟩
 ·
  rw [hps, List.mem_append] at hp
  exact Or.inr hp
 ·
  obtain ⟨_, _, _, _, _, hz, hn⟩ := hW
  refine ⟨hok, _, _, ([] ++ pa) ++ pv, ⟨[] ++ pa, pv, trodAll_append (hargs _ (fun _ _ => rfl)) (hres _ _ _), hvars _ (fun _ _ => rfl), rfl, ?_, ?_⟩, ?_⟩
  ·
   intro b off hp
   have hin : MemPlace.cell b off ∈ before := by rw [hps]; simpa using hp
   rw [hb.frozen (hlt _ hin)]
   exact hz b off hin
  ·
   intro ha
   have := hn ha
   rw [hps] at this
   simpa using this
  ·
   intro p hp _
   rw [hps]
   simpa using hp
theorem witness_row_shaped {C : Checked} {os : Os} {f : FuncId} {fn : Func} {s : OpenSpec} {conds : List PathCond} {apart : Bool} {laid : List (String × DataW Unit)} (modest : Bool) (w0 : World) (args : Array Value) (hos : w0.os = os)
  (hsh : (w0.forCall (fun _ _ => 0) ⟨#[], args, []⟩).Shaped C.prog)
  (hok : Input.okWideB C.prog (w0.forCall (fun _ _ => 0) ⟨#[], args, []⟩) f ⟨#[], args, []⟩ = true)
  (hrow : s.preRow enc C.prog fn conds apart laid (w0.forCall (fun _ _ => 0) ⟨#[], args, []⟩).memory args) :
  ∃ (w : World) (tape : Tape) (i : Input), w.os = os ∧ (w.forCall tape i).Shaped C.prog ∧ i.vars = [] ∧ Input.okWide C.prog (w.forCall tape i) .any w.heap.size f i ∧
   s.preRow enc C.prog fn conds apart laid (w.forCall tape i).memory i.args ∧ ({ modest := modest } : Assume).holds C.prog (lone (Frame.enter C.prog f i.args .normal) [] (w.forCall tape i)) :=
 ⟨w0, fun _ _ => 0, ⟨#[], args, []⟩, hos, hsh, rfl, (Input.okWide_of_okWideB hok).2, hrow, by
  simp only [Assume.holds]
  exact ⟨by simp, by simp, fun _ => Modest.zero, by simp, by simp⟩⟩
end

section
variable {H : Type} {enc : TypeId × Value → H} {P : Program}
theorem trodAll_stays (hl : laidOutB P = true) {W W' : World} {sp' : Nat → Bool} : ∀ {ts : List TypeId} {vs : List Value} {ds : List (DataW H)} {ps : List MemPlace},
  (ts.all fun t => P.readableRec t && decide (t < P.types.size)) = true → DataW.TrodAll enc P W 0 (fun _ => true) true ts vs ds ps → (∀ p ∈ ps, W.sameAt W' p) → (∀ p ∈ ps, sp' p.block = true) → DataW.TrodAll enc P W' 0 sp' true ts vs ds ps
 | [], _, _, _, _, h, _, _ => by
  obtain ⟨rfl, rfl, rfl⟩ := trodAll_nil h
  exact trodAll_mk0
 | t :: ts, _, _, _, hr, h, hs, hsp => by
  obtain ⟨v, vs, d, ds, p, q, rfl, rfl, rfl, h0, h1⟩ := trodAll_cons h
  simp only [List.all_cons, Bool.and_eq_true, decide_eq_true_eq] at hr
  exact trodAll_cons_mk (WideElems.Trod_stays hl hr.1.1 hr.1.2 h0 (fun x hx => hs x (List.mem_append_left _ hx)) (fun x hx => hsp x (List.mem_append_left _ hx)))
   (trodAll_stays hl (by simpa using hr.2) h1 (fun x hx => hs x (List.mem_append_right _ hx)) (fun x hx => hsp x (List.mem_append_right _ hx)))
theorem trodAll_length {W : World} {sp : Nat → Bool} : ∀ {ts : List TypeId} {vs : List Value} {ds : List (DataW H)} {ps : List MemPlace}, DataW.TrodAll enc P W 0 sp true ts vs ds ps → ds.length = ts.length
 | [], _, _, _, h => by obtain ⟨_, rfl, _⟩ := trodAll_nil h; rfl
 | t :: ts, _, _, _, h => by
  obtain ⟨v, vs, d, ds, p, q, rfl, rfl, rfl, _, h1⟩ := trodAll_cons h
  have := trodAll_length h1
  simpa using this
theorem open_strs {W : World} {base : Nat} {t e : TypeId} {v : Value} {d : DataW H} {ps : List MemPlace} (ht : P.underlying t = some (.slice e)) (he : P.underlying e = some .string) (hc : P.cellsOf e = 1)
  (hok : Value.okWide P W .any base t v) (h : DataW.Trod enc P W 0 (fun _ => true) true t v d ps) (hlt : ∀ p ∈ ps, p.block < W.heap.size) :
  ∃ A c, ∃ xs : List ByteArray, v = .slice A xs.length c ∧ Cold.Sl W W.heap.size A c xs := by
 obtain ⟨a0, len, cap, rfl⟩ := okWide_slice ht hok
 obtain ⟨fuel, hf⟩ := h
 rcases open_strings ht he hc hf with ⟨hcs, hx⟩ | ⟨a, len', cap', ss, hcs, _, hl, hm, hlen, hx, hcell, hws⟩
 ·
  simp [Value.cells] at hcs
  obtain ⟨rfl, rfl, rfl⟩ := hcs
  exact ⟨none, 0, [], rfl, Cold.Sl.nil_⟩
 ·
  simp [Value.cells] at hcs
  obtain ⟨rfl, rfl, rfl⟩ := hcs
  simp only [if_true] at hlen
  simp only [Prod.mk.injEq] at hx
  obtain ⟨_, rfl⟩ := hx
  have htl : (ss.take len).length = len := by rw [List.length_take]; omega
  refine ⟨some a, cap, ss.take len, by rw [htl], ⟨by rw [htl]; exact hl, hm, fun h0 => ?_⟩⟩
  rw [htl] at h0
  have hb : a.block < W.heap.size := hlt (.cell a.block (a.off + 0)) (MemPlace.mem_row.2 ⟨0, by omega, rfl⟩)
  have h00 := hcell 0 (by omega)
  have hspot : a.spot = none := by
   have e : a.add 0 = a := by simp [Addr.add]
   rw [e] at h00
   cases hs : a.spot with
   | none => rfl
   | some z => simp [World.cell?, hs] at h00; split at h00 <;> simp_all
  obtain ⟨b, o, sp⟩ := a
  simp only at hspot hb
  subst hspot
  refine ⟨b, o, rfl, hb, fun i x hx => ?_⟩
  rw [List.getElem?_take] at hx
  split at hx
  case isFalse => cases hx
  have hi : i < ss.length := (List.getElem?_eq_some_iff.1 hx).1
  refine ⟨[.string x], ⟨rfl, hws x (List.mem_of_getElem? hx)⟩, fun j u hu => ?_⟩
  have hj : j = 0 := by
   rcases j with _ | j
   · rfl
   · simp at hu
  subst hj
  simp at hu
  subst hu
  have h1 := hcell i hi
  rw [Cold.add_mk] at h1
  have h2 : ss.getD i ByteArray.empty = x := by simp [List.getD, hx]
  rw [h2] at h1
  simpa [Cold.Rep.size] using h1
end

theorem gES : Tryz.prog.globalNamed "strconv.ErrSyntax" = some 2 := by kernel_rfl
theorem gESType : (Tryz.prog.globals[2]?).map (·.type) = some 114 := by kernel_rfl
theorem gER : Tryz.prog.globalNamed "strconv.ErrRange" = some 3 := by kernel_rfl
theorem gERType : (Tryz.prog.globals[3]?).map (·.type) = some 114 := by kernel_rfl
theorem rowErr (u : TypeId) (h : Tryz.prog.typeName? 3 u = some "*errors.errorString") : u = 224 :=
 typeName_ptr_named (nm := "errors.errorString") (by rw [show "*" ++ "errors.errorString" = "*errors.errorString" by decide]; kernel_rfl) (by kernel_rfl) (by decide) u (by rw [show "*" ++ "errors.errorString" = "*errors.errorString" by decide]; exact h)
theorem oka_of_laid {W : World} (h : laidMetH Tryz.prog [("math/bits.deBruijn32tab", Rows.laid_math_bits_deBruijn32tab), ("math/bits.deBruijn64tab", Rows.laid_math_bits_deBruijn64tab), ("internal/strconv.uint64pow10", Rows.laid_internal_strconv_uint64pow10), ("unicode/utf8.acceptRanges", Rows.laid_unicode_utf8_acceptRanges), ("strconv.ErrRange", Rows.laid_strconv_ErrRange), ("strconv.ErrSyntax", Rows.laid_strconv_ErrSyntax), ("unicode.CaseRanges", Rows.laid_unicode_CaseRanges), ("unicode/utf8.first", Rows.laid_unicode_utf8_first)] W) : OkA W := by
 have h0 : laidMet Tryz.prog [("math/bits.deBruijn32tab", Rows.laid_math_bits_deBruijn32tab), ("math/bits.deBruijn64tab", Rows.laid_math_bits_deBruijn64tab), ("internal/strconv.uint64pow10", Rows.laid_internal_strconv_uint64pow10), ("unicode/utf8.acceptRanges", Rows.laid_unicode_utf8_acceptRanges), ("strconv.ErrRange", Rows.laid_strconv_ErrRange), ("strconv.ErrSyntax", Rows.laid_strconv_ErrSyntax), ("unicode.CaseRanges", Rows.laid_unicode_CaseRanges), ("unicode/utf8.first", Rows.laid_unicode_utf8_first)] W := h
 have h2 := h0.tail.tail.tail.tail
 obtain ⟨a1, s1, hv1, -, -, -⟩ := laid_sentinel h2 gER gERType Tryz.underlying114 rowErr Tryz.underlying224 Tryz.underlying226 rfl rfl Tryz.underlying9 (by kernel_rfl) (by kernel_rfl)
 obtain ⟨a0, s0, hv0, -, -, -⟩ := laid_sentinel h2.tail gES gESType Tryz.underlying114 rowErr Tryz.underlying224 Tryz.underlying226 rfl rfl Tryz.underlying9 (by kernel_rfl) (by kernel_rfl)
 exact ⟨⟨_, by have h0 := World.var?_cell gES hv0 0; simpa using h0, .inr ⟨_, _, rfl⟩⟩, ⟨_, by have h0 := World.var?_cell gER hv1 0; simpa using h0, .inr ⟨_, _, rfl⟩⟩⟩

theorem laidOut : laidOutB Tryz.prog = true := by kernel_rfl

set_option maxRecDepth 100000 in
theorem law_lifted {f : FuncId} {fn : Func} {s : ChangeSpec} {laid : List (String × DataW Unit)} (os : Os) (started : os.Started) (H : Type) (enc : TypeId × Value → H) (F : Stop.Interp)
  (noInit : Tryz.prog.inits.idxOf? f = none) (hfn : Tryz.prog.funcs[f]? = some fn) (args0 : Array Value)
  (hsh0 : ((World.laidAll Tryz.prog os laid).forCall (fun _ _ => 0) ⟨#[], args0, []⟩).Shaped Tryz.prog)
  (hok0 : Input.okWideB Tryz.prog ((World.laidAll Tryz.prog os laid).forCall (fun _ _ => 0) ⟨#[], args0, []⟩) f ⟨#[], args0, []⟩ = true)
  (hrow0 : (OpenSpec.ofChange s).preRow enc Tryz.prog fn [] false laid ((World.laidAll Tryz.prog os laid).forCall (fun _ _ => 0) ⟨#[], args0, []⟩).memory args0)
  (hvars : s.vars = []) (hres : fn.resultTypes = #[4])
  (hs : ∀ ds : List (DataW H), ds.length = fn.params.toList.length → s.fn H (ds ++ []) = { results := [.lit (.bool true)], args := ds })
  (hr : (fn.params.toList.all fun t => Tryz.prog.readableRec t && decide (t < Tryz.prog.types.size)) = true)
  (law : ∀ (W : World) (base : Nat) (args : Array Value) (ds : List (DataW H)) (ps : List MemPlace),
   (∀ (j : Nat) t v, fn.params[j]? = some t → args[j]? = some v → Value.okWide Tryz.prog W .any base t v) →
   DataW.TrodAll enc Tryz.prog W 0 (fun _ => true) true fn.params.toList args.toList ds ps → (∀ p ∈ ps, p.block < W.heap.size) →
   (DataW.weightsEach Tryz.checked.prog (fn.params.toList ++ (OpenSpec.ofChange s).bare.plain.varTypes Tryz.checked.prog) (ds ++ [])).all (· ≤ reachBytes) = true → W.ShapedOpen Tryz.checked.prog → laidMetH Tryz.prog laid W →
   Calls Tryz.prog f args W fun e W' => e = .returned (.bool true) ∧ Below W.heap.size W W') :
  ReturnsInHanded {} Tryz.checked os f .any ((OpenSpec.ofChange s).preRow enc Tryz.prog fn [] false laid) (((OpenSpec.ofChange s).at F).post enc Tryz.prog fn false true false false) := by
 refine returnsInHanded_of_row (C := Tryz.checked) (s := OpenSpec.ofChange s) own started noInit hfn
  (witness_row_shaped (enc := enc) (C := Tryz.checked) false (World.laidAll Tryz.prog os laid) args0 (World.laidAll_os _ _ _) hsh0 hok0 hrow0) ?_
 intro W base args ds gs before hval hW _ _ hz hlaid hsh _
 have hlt : ∀ p ∈ before, p.block < W.heap.size := fun p hp => hW.lt p hp
 have hW' := hW
 obtain ⟨p, q, hA0, hV, rfl, hfz, hnd⟩ := hW
 have hA : DataW.TrodAll enc Tryz.prog W 0 (fun _ => true) true fn.params.toList args.toList ds p := hA0
 have hv : (OpenSpec.ofChange s).vars = [] := hvars
 rw [hv] at hV
 obtain ⟨rfl, rfl⟩ := trodVars_none hV
 simp only [List.append_nil] at hW' hlt
 have hlen : ds.length = fn.params.toList.length := trodAll_length hA
 refine (law W base args ds p hval hA hlt hz hsh hlaid).mono fun e W' ⟨he, hb⟩ => ?_
 subst he
 have e1 := hs ds hlen
 have hrt : fn.resultTypes.toList = [4] := by rw [hres]
 have hrl : (Value.bool true).resultList fn.resultTypes.size = [.bool true] := by rw [hres]; rfl
 refine ⟨_, rfl, post_of_below (s := s) (pa := p) (pv := []) hW' (fun _ _ _ => ?_) (fun sp hsp => ?_) (fun _ _ => ?_) (by simp) hb ?_⟩
 · rw [hrt, hrl, e1]; exact trodAll_mk1 (shut_bool Tryz.underlying4 _)
 · rw [e1]; exact trodAll_stays laidOut hr hA (fun x hx => hb.same (hlt x hx)) (fun x hx => hsp x hx)
 · rw [e1, hvars]; rfl
 ·
  intro j t r hj hr'
  rw [hres] at hj
  rw [hrl] at hr'
  rcases j with _ | j
  ·
   simp at hj hr'
   subst hj; subst hr'
   exact okWide_bool_mk Tryz.underlying4 _
  · simp at hr'

end Go.Proofs.YtjpoljlgkgmdkaaGreatDoor
namespace Go.Proofs.YtjpoljlgkgmdkaaGreatDoor
open Go.ChangeShapes Go.WideShapes Go.ChangeAt Go.RowKit
section
variable {H : Type} {enc : TypeId × Value → H} {P : Program}
theorem open_nums {W : World} {base : Nat} {t e : TypeId} {v : Value} {d : DataW H} {ps : List MemPlace} (ht : P.underlying t = some (.slice e)) (he : P.underlying e = some (.int .i64)) (hc : P.cellsOf e = 1)
  (hok : Value.okWide P W .any base t v) (h : DataW.Trod enc P W 0 (fun _ => true) true t v d ps) (hlt : ∀ p ∈ ps, p.block < W.heap.size) :
  ∃ A c, ∃ xs : List Int, v = .slice A xs.length c ∧ Cold.Sl W W.heap.size A c xs := by
 obtain ⟨a0, len, cap, rfl⟩ := okWide_slice ht hok
 obtain ⟨fuel, hf⟩ := h
 rcases open_ints ht he hc hf with ⟨hcs, hx⟩ | ⟨a, len', cap', ss, hcs, _, hl, hm, hlen, hx, hcell, hws⟩
 ·
  simp [Value.cells] at hcs
  obtain ⟨rfl, rfl, rfl⟩ := hcs
  exact ⟨none, 0, [], rfl, Cold.Sl.nil_⟩
 ·
  simp [Value.cells] at hcs
  obtain ⟨rfl, rfl, rfl⟩ := hcs
  simp only [if_true] at hlen
  simp only [Prod.mk.injEq] at hx
  obtain ⟨_, rfl⟩ := hx
  have htl : (ss.take len).length = len := by rw [List.length_take]; omega
  refine ⟨some a, cap, ss.take len, by rw [htl], ⟨by rw [htl]; exact hl, hm, fun h0 => ?_⟩⟩
  rw [htl] at h0
  have hb : a.block < W.heap.size := hlt (.cell a.block (a.off + 0)) (MemPlace.mem_row.2 ⟨0, by omega, rfl⟩)
  have h00 := hcell 0 (by omega)
  have hspot : a.spot = none := by
   have e : a.add 0 = a := by simp [Addr.add]
   rw [e] at h00
   cases hs : a.spot with
   | none => rfl
   | some z => simp [World.cell?, hs] at h00; split at h00 <;> simp_all
  obtain ⟨b, o, sp⟩ := a
  simp only at hspot hb
  subst hspot
  refine ⟨b, o, rfl, hb, fun i x hx => ?_⟩
  rw [List.getElem?_take] at hx
  split at hx
  case isFalse => cases hx
  have hi : i < ss.length := (List.getElem?_eq_some_iff.1 hx).1
  have hwf := hws x (List.mem_of_getElem? hx)
  simp only [Lit.wf, Bool.and_eq_true, decide_eq_true_eq] at hwf
  refine ⟨[.int .i64 x], ⟨rfl, hwf.1, hwf.2⟩, fun j u hu => ?_⟩
  have hj : j = 0 := by
   rcases j with _ | j
   · rfl
   · simp at hu
  subst hj
  simp at hu
  subst hu
  have h1 := hcell i hi
  rw [Cold.add_mk] at h1
  have h2 : ss.getD i 0 = x := by simp [List.getD, hx]
  rw [h2] at h1
  simpa [Cold.Rep.size] using h1
end
end Go.Proofs.YtjpoljlgkgmdkaaGreatDoor
namespace Go.Cold
open Go Go.RowKit
section
variable {α : Type} [RepS α] {F : Nat → Prop} {w w' : World} {base : Nat} {T : TypeId} {v : Value} {xs : List α}
structure RowIn (F : Nat → Prop) (w : World) (base : Nat) (T : TypeId) (g cap : Nat) (xs : List α) (cur : Array Value) (css : List (List Value)) : Prop where
 lo : base ≤ g
 heap : w.heap[g]? = some (.cells cur T (0, 0))
 le : xs.length ≤ cap
 lim : cap ≤ maxLen
 size : cur.size = cap * Rep.size α
 len : css.length = xs.length
 rd : ∀ (i : Nat) (x : α) (cs : List Value), xs[i]? = some x → css[i]? = some cs → RepS.rdS w (fun b => F b ∧ b < w.heap.size ∧ b ≠ g) x cs
 row : cur.toList.take (xs.length * Rep.size α) = css.flatten
theorem OwnsS.opened (h : OwnsS F w base T v xs) : (v = .slice none 0 0 ∧ xs = []) ∨ ∃ g cap cur css, v = .slice (some ⟨g, 0, none⟩) xs.length cap ∧ RowIn F w base T g cap xs cur css := by
 obtain ⟨css, ⟨h1, h2⟩, h3, h4⟩ := h
 rcases h2 with ⟨rfl, h0⟩ | ⟨g, cap, cur, rfl, q1, q2, q3, q4, q5, q6⟩
 · exact .inl ⟨rfl, List.eq_nil_of_length_eq_zero h0⟩
 · exact .inr ⟨g, cap, cur, css, rfl, q1, q2, q3, q4, q5, h3, fun i x cs hx hcs => RepS.mono (fun b hb => ⟨hb.1, hb.2.1, fun e => hb.2.2 (by rw [e]; rfl)⟩) (fun _ _ _ _ hu => hu) (h4 i x cs hx hcs), q6⟩
theorem flat_size {w : World} {S : Nat → Prop} {xs : List α} {css : List (List Value)} (h : css.length = xs.length) (hr : ∀ (i : Nat) (x : α) (cs : List Value), xs[i]? = some x → css[i]? = some cs → RepS.rdS w S x cs) : css.flatten.length = xs.length * Rep.size α := (flat_len h hr).1
theorem RowIn.owns {g cap : Nat} {cur : Array Value} {css : List (List Value)} (h : RowIn F w base T g cap xs cur css) : OwnsS F w base T (.slice (some ⟨g, 0, none⟩) xs.length cap) xs := by
 refine ⟨css, ⟨flat_size h.len h.rd, .inr ⟨g, cap, cur, rfl, h.lo, h.heap, h.le, h.lim, h.size, h.row⟩⟩, h.len, fun i x cs hx hcs => RepS.mono (fun b hb => ⟨hb.1, hb.2.1, fun e => hb.2.2 (by injection e with e; exact e.symm)⟩) (fun _ _ _ _ hu => hu) (h.rd i x cs hx hcs)⟩
theorem row_css {S : Nat → Prop} {css : List (List Value)} (h : css.length = xs.length) (hr : ∀ (i : Nat) (x : α) (cs : List Value), xs[i]? = some x → css[i]? = some cs → RepS.rdS w S x cs) : ∀ cs ∈ css, cs.length = Rep.size α := fun cs hcs => by
 obtain ⟨i, hi, rfl⟩ := List.getElem_of_mem hcs
 exact RepS.lenS (hr i xs[i] css[i] (List.getElem?_eq_getElem (by omega)) (List.getElem?_eq_getElem hi))
theorem flat_take {n : Nat} : ∀ {css : List (List Value)} (k : Nat), (∀ cs ∈ css, cs.length = n) → css.flatten.take (k * n) = (css.take k).flatten ∧ css.flatten.drop (k * n) = (css.drop k).flatten
 | [], k, _ => by simp
 | c :: r, 0, _ => by simp
 | c :: r, k + 1, h => by
  have hc := h c List.mem_cons_self
  obtain ⟨h1, h2⟩ := flat_take (css := r) k (fun cs hcs => h cs (List.mem_cons_of_mem _ hcs))
  rw [List.flatten_cons, Nat.succ_mul, List.take_succ_cons, List.drop_succ_cons, List.flatten_cons, ← h1, ← h2, ← hc]
  constructor
  ·
   rw [Nat.add_comm, List.take_append, List.take_of_length_le (by omega)]
   congr 2; omega
  ·
   rw [Nat.add_comm, List.drop_append, List.drop_eq_nil_of_le (by omega), List.nil_append]
   congr 1; omega
theorem grown_setRow (w : World) (g : Nat) (cs : Array Value) : w.grownBy (w.setRow g cs) (some g) :=
 ⟨rfl, rfl, rfl, by simp [World.setRow], fun k hk hne => setRow_other w g k cs (fun e => hne (by rw [e]))⟩
theorem RowIn.write {g cap : Nat} {cur : Array Value} {css : List (List Value)} (h : RowIn F w base T g cap xs cur css) {ys : List α} {dss : List (List Value)} {cur' : Array Value} (h1 : ys.length ≤ cap) (h2 : cur'.size = cur.size) (h3 : dss.length = ys.length)
  (h4 : ∀ (i : Nat) (y : α) (cs : List Value), ys[i]? = some y → dss[i]? = some cs → RepS.rdS w (fun b => F b ∧ b < w.heap.size ∧ b ≠ g) y cs) (h5 : cur'.toList.take (ys.length * Rep.size α) = dss.flatten) : RowIn F (w.setRow g cur') base T g cap ys cur' dss := by
 have hg := grown_setRow w g cur'
 exact ⟨h.lo, setRow_heap w g cur cur' T (0, 0) h.heap, h1, h.lim, h2.trans h.size, h3, fun i y cs hy hcs => RepS.mono (fun b hb => ⟨hb.1, by have := hg.size; omega, hb.2.2⟩) (fun b o u hb hu => hg.cell hu (fun e => hb.2.2 (Option.some.inj e))) (h4 i y cs hy hcs), h5⟩
theorem RowIn.lt {g cap : Nat} {cur : Array Value} {css : List (List Value)} (h : RowIn F w base T g cap xs cur css) : g < w.heap.size := (Array.getElem?_eq_some_iff.1 h.heap).1
theorem RowIn.css {g cap : Nat} {cur : Array Value} {css : List (List Value)} (h : RowIn F w base T g cap xs cur css) : ∀ cs ∈ css, cs.length = Rep.size α := row_css h.len h.rd
theorem RowIn.one {g cap : Nat} {cur : Array Value} {css : List (List Value)} (h : RowIn F w base T g cap xs cur css) : ∀ u ∈ css.flatten, u.oneCell' = true := (flat_len h.len h.rd).2
theorem RowIn.at_ {g cap : Nat} {cur : Array Value} {css : List (List Value)} (h : RowIn F w base T g cap xs cur css) {i : Nat} {x : α} (hx : xs[i]? = some x) : ∃ cs, css[i]? = some cs ∧ RepS.rdS w (fun b => F b ∧ b < w.heap.size ∧ b ≠ g) x cs ∧ ∀ j u, cs[j]? = some u → w.cell? ⟨g, i * Rep.size α + j, none⟩ = some u := by
 have hi := (List.getElem?_eq_some_iff.1 hx).1
 have hci : css[i]? = some (css[i]'(by have := h.len; omega)) := List.getElem?_eq_getElem _
 refine ⟨_, hci, h.rd i x _ hx hci, fun j u hu => ?_⟩
 have hj : j < Rep.size α := by
  have := (List.getElem?_eq_some_iff.1 hu).1
  rw [RepS.lenS (h.rd i x _ hx hci)] at this; exact this
 rw [cell_of_row w g (i * Rep.size α + j) cur T (0, 0) h.heap]
 have := flatten_row h.css hci hj
 have hlt : i * Rep.size α + j < xs.length * Rep.size α := by
  have := Nat.mul_le_mul_right (Rep.size α) (show i + 1 ≤ xs.length from hi)
  rw [Nat.succ_mul] at this; omega
 rw [← h.row, List.getElem?_take, if_pos hlt, hu] at this
 simpa using this
theorem RowIn.frozen {g cap : Nat} {cur : Array Value} {css : List (List Value)} (h : RowIn F w base T g cap xs cur css) (j : Nat) : w.frozen? ⟨g, j, none⟩ = false := by
 simp [World.frozen?, h.heap]
theorem setCells_row {g : Nat} {t : TypeId} {fr : Nat × Nat} : ∀ (vs : List Value) (o : Nat) (cur : Array Value) (w : World), w.heap[g]? = some (.cells cur t fr) → o + vs.length ≤ cur.size →
  w.setCells g o vs = w.setRow g (cur.toList.take o ++ vs ++ cur.toList.drop (o + vs.length)).toArray
 | [], o, cur, w, hg, _ => by
  simp only [List.append_nil, List.length_nil, Nat.add_zero, List.take_append_drop, Array.toArray_toList]
  rw [setRow_self w g cur t fr hg]; rfl
 | v :: r, o, cur, w, hg, hl => by
  have h1 : w.setCells g o (v :: r) = (w.setCell ⟨g, o, none⟩ v).setCells g (o + 1) r := rfl
  rw [h1, setCell_eq_setRow w g o cur t fr v hg, setCells_row r (o + 1) (cur.setIfInBounds o v) _ (setRow_heap w g cur _ t _ hg) (by simp at hl ⊢; omega), setRow_setRow]
  congr 2
  have e := list_seg_step cur.toList o v r (by simp at hl ⊢; omega)
  simpa [Array.toList_setIfInBounds, Nat.add_assoc] using e
theorem splice_parts {β : Type} (X1 M X2 Y cs : List β) (hM : M.length = cs.length) : ((X1 ++ M ++ X2 ++ Y).take X1.length ++ cs ++ (X1 ++ M ++ X2 ++ Y).drop (X1.length + cs.length)).take (X1.length + cs.length + X2.length) = X1 ++ cs ++ X2 := by
 have h1 : (X1 ++ M ++ X2 ++ Y).take X1.length = X1 := by rw [List.append_assoc, List.append_assoc, List.take_left']; rfl
 have h2 : (X1 ++ M ++ X2 ++ Y).drop (X1.length + cs.length) = X2 ++ Y := by rw [← hM, ← List.length_append, List.append_assoc, List.drop_left']; rfl
 rw [h1, h2, ← List.append_assoc, List.take_left']
 simp only [List.length_append]
theorem row_splice {cur : Array Value} {css : List (List Value)} {n k : Nat} {cs : List Value} (hn : ∀ c ∈ css, c.length = n) (hcs : cs.length = n) (hrow : cur.toList.take (css.length * n) = css.flatten) (hk : k < css.length) (hsz : css.length * n ≤ cur.size) :
  (cur.toList.take (k * n) ++ cs ++ cur.toList.drop (k * n + cs.length)).take (css.length * n) = (css.set k cs).flatten := by
 have hfl : css.flatten.length = css.length * n := by have h := congrArg List.length hrow; rw [List.length_take] at h; have h2 : cur.toList.length = cur.size := Array.length_toList; omega
 obtain ⟨t1, t2⟩ := flat_take k hn
 obtain ⟨t3, t4⟩ := flat_take (k + 1) hn
 have hm : (css[k]).length = n := hn _ (List.getElem_mem hk)
 have hkn : k * n + n ≤ css.length * n := by have := Nat.mul_le_mul_right n (show k + 1 ≤ css.length from hk); rw [Nat.succ_mul] at this; exact this
 have hx : css.flatten = (css.take k).flatten ++ css[k] ++ (css.drop (k + 1)).flatten := by
  have : css = css.take k ++ css[k] :: css.drop (k + 1) := by rw [← List.drop_eq_getElem_cons hk, List.take_append_drop]
  exact (congrArg List.flatten this).trans (by rw [List.flatten_append, List.flatten_cons, List.append_assoc])
 have l1 : ((css.take k).flatten).length = k * n := by rw [← t1, List.length_take, hfl]; omega
 have l2 : ((css.drop (k + 1)).flatten).length = css.length * n - (k * n + n) := by rw [← t4, List.length_drop, hfl, Nat.succ_mul]
 have h1 : cur.toList = (css.take k).flatten ++ css[k] ++ (css.drop (k + 1)).flatten ++ cur.toList.drop (css.length * n) := by rw [← hx, ← hrow, List.take_append_drop]
 have h2 := splice_parts (css.take k).flatten css[k] (css.drop (k + 1)).flatten (cur.toList.drop (css.length * n)) cs (hm.trans hcs.symm)
 rw [← h1, l1, l2, hcs, show k * n + n + (css.length * n - (k * n + n)) = css.length * n by omega] at h2
 rw [hcs, h2, List.set_eq_take_append_cons_drop, if_pos hk, List.flatten_append, List.flatten_cons, List.append_assoc]
theorem RowIn.set_ {g cap : Nat} {cur : Array Value} {css : List (List Value)} (h : RowIn F w base T g cap xs cur css) {i : Nat} (hi : i < xs.length) {y : α} {cs : List Value} (hr : RepS.rdS w (fun b => F b ∧ b < w.heap.size ∧ b ≠ g) y cs) :
  ∃ cur', w.setCells g (i * Rep.size α) cs = w.setRow g cur' ∧ RowIn F (w.setRow g cur') base T g cap (xs.set i y) cur' (css.set i cs) := by
 have hcl : cs.length = Rep.size α := RepS.lenS hr
 have hle : xs.length * Rep.size α ≤ cur.size := by rw [h.size]; exact Nat.mul_le_mul_right _ h.le
 have hkn : i * Rep.size α + Rep.size α ≤ xs.length * Rep.size α := by have := Nat.mul_le_mul_right (Rep.size α) (show i + 1 ≤ xs.length from hi); rw [Nat.succ_mul] at this; exact this
 refine ⟨_, setCells_row cs _ cur w h.heap (by omega), h.write (by simpa using h.le) (by simp; omega) (by simp [h.len]) (fun j y' cs' hy hcs' => ?_) ?_⟩
 ·
  rw [List.getElem?_set] at hy hcs'
  by_cases hj : i = j
  ·
   subst hj
   rw [if_pos rfl, if_pos hi] at hy
   rw [if_pos rfl, if_pos (by rw [h.len]; exact hi)] at hcs'
   obtain rfl := Option.some.inj hy
   obtain rfl := Option.some.inj hcs'
   exact hr
  ·
   rw [if_neg hj] at hy hcs'
   exact h.rd j y' cs' hy hcs'
 ·
  rw [List.length_set, ← h.len]
  exact row_splice h.css hcl (by rw [h.len]; exact h.row) (by rw [h.len]; exact hi) (by rw [h.len]; exact hle)
theorem RowIn.cut {g cap : Nat} {cur : Array Value} {css : List (List Value)} (h : RowIn F w base T g cap xs cur css) (k : Nat) (hk : k ≤ xs.length) : RowIn F w base T g cap (xs.take k) cur (css.take k) := by
 have hl : (xs.take k).length = k := by rw [List.length_take]; omega
 refine ⟨h.lo, h.heap, by have := h.le; omega, h.lim, h.size, by rw [List.length_take, List.length_take, h.len], fun i x cs hx hcs => ?_, ?_⟩
 ·
  rw [List.getElem?_take] at hx hcs
  split at hx
  · rename_i h6; rw [if_pos h6] at hcs; exact h.rd i x cs hx hcs
  · cases hx
 · rw [hl, ← (flat_take k h.css).1, ← h.row, List.take_take, Nat.min_eq_left (Nat.mul_le_mul_right _ hk)]
theorem RowIn.tail {g cap : Nat} {cur : Array Value} {css : List (List Value)} (h : RowIn F w base T g cap xs cur css) {o : Nat} {vs : List Value} (ho : xs.length * Rep.size α ≤ o) (hl : o + vs.length ≤ cap * Rep.size α) :
  ∃ cur', w.setCells g o vs = w.setRow g cur' ∧ RowIn F (w.setRow g cur') base T g cap xs cur' css := by
 have hsz := h.size
 refine ⟨_, setCells_row vs o cur w h.heap (by omega), h.write h.le (by simp; omega) h.len h.rd ?_⟩
 simp only [List.toList_toArray]
 rw [List.append_assoc, List.take_append_of_le_length (by simp; omega), List.take_take, Nat.min_eq_left ho]
 exact h.row
end
section
variable {P : Program}
theorem run_copy_n (w : World) (dT sT ty elem : TypeId) (g o dLen dCap : Nat) (a : Addr) (sLen sCap size k : Nat) (cur : Array Value) (t : TypeId) (cs : List Value)
  (hu : P.underlying dT = some (.slice elem)) (hs : ∃ i, P.info? elem = some i ∧ i.size = size)
  (hg : w.heap[g]? = some (.cells cur t (0, 0))) (hk : Nat.min sLen dLen = k) (hn : cs.length = k * size)
  (hsrc : ∀ j v, cs[j]? = some v → w.cell? (a.add j) = some v) (hfit : o + cs.length ≤ cur.size) (h1 : ∀ v ∈ cs, v.oneCell' = true) :
  (Builtin.copy_ #[dT, sT] ty #[.slice (some ⟨g, o, none⟩) dLen dCap, .slice (some a) sLen sCap]).run P w =
   .ok (goInt k) (w.setRow g (cur.toList.take o ++ cs ++ cur.toList.drop (o + cs.length)).toArray) := by
 have hl := run_loadCells_list (P := P) w a cs hsrc
 have hst := run_storeCells_at P g o t cs 0 cur w hg (by simpa using hfit) h1
 obtain ⟨i, hi, hsz⟩ := hs
 subst hk
 simp [Builtin.copy_, run_underlying hu, Builtin.lenOf, Builtin.firstCells, sizeOf, typeInfo, hi, hsz, ← hn, hl, hst]
variable {ops : Array Oper} {rest : List Oper} {o : Oper} {a : Act} {Q : Exit → Act → World → Prop} {w : World}
theorem wpList_copyR {R : Value → World → Prop} {tys : Array TypeId} (hgd : o.guard = none) (s x : Operand) (ho : o.op = .call { callee := .builtin .copy, args := #[s, x], argTypes := tys }) (v u : Value) (hs : a.eval s = v) (hx : a.eval x = u)
  (hrun : ∃ v' w', (Builtin.copy_ tys o.type #[v, u]).run P w = .ok v' w' ∧ R v' w') (hK : ∀ v' w', R v' w' → wpList P ops Q rest (a.put o.dst v') w') : wpList P ops Q (o :: rest) a w := by
 refine wpList_plain hgd fun K hK' => ?_
 obtain ⟨v', w', hr, hR⟩ := hrun
 unfold Oper.wp execOp
 simp only [ho, resolve, invoke, builtin, Sem.run_bind, Sem.run_pure, Result.andThen_ok, List.map_toArray, List.map_cons, List.map_nil, hs, hx, hr]
 exact hK' _ _ (hK _ _ hR)
theorem step_copyR {K : Act → World → Prop} {Z : Prop} {R : Value → World → Prop} {tys : Array TypeId} (hgd : o.guard = none) (s x : Operand) (ho : o.op = .call { callee := .builtin .copy, args := #[s, x], argTypes := tys }) (v u : Value) (hs : a.eval s = v) (hx : a.eval x = u)
  (hrun : ∃ v' w', (Builtin.copy_ tys o.type #[v, u]).run P w = .ok v' w' ∧ R v' w') (hK : ∀ v' w', R v' w' → K (a.put o.dst v') w') : if Region.wanted o (yielded ops a.tmps) = true then Oper.wp P o a w K Q else Z := by
 have hw : Region.wanted o (yielded ops a.tmps) = true := by simp [Region.wanted, hgd]
 rw [if_pos hw]
 obtain ⟨v', w', hr, hR⟩ := hrun
 unfold Oper.wp execOp
 simp only [ho, resolve, invoke, builtin, Sem.run_bind, Sem.run_pure, Result.andThen_ok, List.map_toArray, List.map_cons, List.map_nil, hs, hx, hr]
 exact hK _ _ hR
theorem wpList_appR {R : Value → World → Prop} {tys : Array TypeId} (hgd : o.guard = none) (s x : Operand) (ho : o.op = .call { callee := .builtin .append, args := #[s, x], argTypes := tys }) (v u : Value) (hs : a.eval s = v) (hx : a.eval x = u)
  (hrun : ∃ v' w', (Builtin.append_ tys o.type #[v, u]).run P w = .ok v' w' ∧ R v' w') (hK : ∀ v' w', R v' w' → wpList P ops Q rest (a.put o.dst v') w') : wpList P ops Q (o :: rest) a w := by
 refine wpList_plain hgd fun K hK' => ?_
 obtain ⟨v', w', hr, hR⟩ := hrun
 unfold Oper.wp execOp
 simp only [ho, resolve, invoke, builtin, Sem.run_bind, Sem.run_pure, Result.andThen_ok, List.map_toArray, List.map_cons, List.map_nil, hs, hx, hr]
 exact hK' _ _ (hK _ _ hR)
theorem wpList_clearR {R : Value → World → Prop} {tys : Array TypeId} (hgd : o.guard = none) (s : Operand) (ho : o.op = .call { callee := .builtin .clear, args := #[s], argTypes := tys }) (v : Value) (hs : a.eval s = v)
  (hrun : ∃ v' w', (Builtin.clear_ tys o.type #[v]).run P w = .ok v' w' ∧ R v' w') (hK : ∀ v' w', R v' w' → wpList P ops Q rest (a.put o.dst v') w') : wpList P ops Q (o :: rest) a w := by
 refine wpList_plain hgd fun K hK' => ?_
 obtain ⟨v', w', hr, hR⟩ := hrun
 unfold Oper.wp execOp
 simp only [ho, resolve, invoke, builtin, Sem.run_bind, Sem.run_pure, Result.andThen_ok, List.map_toArray, List.map_cons, List.map_nil, hs, hr]
 exact hK' _ _ (hK _ _ hR)
theorem run_clear_n (w : World) (t e ty : TypeId) (z : Value) (ht : P.underlying t = some (.slice e)) (hv : ∀ w, (zeroValue e).run P w = .ok z w) (g o n c : Nat) (hn : 0 < n) (cur : Array Value) (T : TypeId) (hg : w.heap[g]? = some (.cells cur T (0, 0)))
  (h1 : ∀ u ∈ z.cells, u.oneCell' = true) (hfit : o + n * z.cells.size ≤ cur.size) :
  ∃ vs : List Value, vs.length = n * z.cells.size ∧ (Builtin.clear_ #[t] ty #[.slice (some ⟨g, o, none⟩) n c]).run P w = .ok (.tuple #[]) (w.setRow g (cur.toList.take o ++ vs ++ cur.toList.drop (o + vs.length)).toArray) := by
 have hl : (Builtin.zeroCells z.cells n).toList.length = n * z.cells.size := by simp [Builtin.zeroCells, Nat.mul_comm]
 have hm : ∀ u ∈ (Builtin.zeroCells z.cells n).toList, u.oneCell' = true := fun u hu => by
  simp only [Builtin.zeroCells, Array.mem_toList_iff, Array.mem_map, Array.mem_range] at hu
  obtain ⟨i, hi, rfl⟩ := hu
  by_cases hz : z.cells.size = 0
  · rw [hz, Nat.mul_zero] at hi; omega
  ·
   have hlt : i % z.cells.size < z.cells.size := Nat.mod_lt _ (by omega)
   rw [getElem!_pos z.cells _ hlt]
   exact h1 _ (Array.getElem_mem hlt)
 have hst := run_storeCells_at P g o T (Builtin.zeroCells z.cells n).toList 0 cur w hg (by rw [hl]; simpa using hfit) hm
 refine ⟨_, hl, ?_⟩
 obtain ⟨m, rfl⟩ : ∃ m, n = m + 1 := ⟨n - 1, by omega⟩
 simp [Builtin.clear_, run_underlying ht, hv, hst]
end
theorem two_parts {β : Type} {L X1 X2 cs : List β} {a n b : Nat} (h1 : L.take a = X1) (ha : X1.length = a) (hn : cs.length = n) (hb : X2.length = b) (hL : a + n + b ≤ L.length) :
  (((L.take (a + n) ++ X2 ++ L.drop (a + n + b)).take a ++ cs ++ (L.take (a + n) ++ X2 ++ L.drop (a + n + b)).drop (a + n)).take (a + n + b) = X1 ++ (cs ++ X2)) ∧
  (((L.take a ++ cs ++ L.drop (a + n)).take (a + n) ++ X2 ++ (L.take a ++ cs ++ L.drop (a + n)).drop (a + n + b)).take (a + n + b) = X1 ++ (cs ++ X2)) := by
 have l1 : (L.take (a + n)).length = a + n := by rw [List.length_take]; omega
 have l2 : (X1 ++ cs).length = a + n := by rw [List.length_append]; omega
 have l3 : (X1 ++ (cs ++ X2)).length = a + n + b := by rw [List.length_append, List.length_append]; omega
 constructor
 ·
  have e1 : (L.take (a + n) ++ X2 ++ L.drop (a + n + b)).take a = X1 := by
   rw [List.append_assoc, List.take_append_of_le_length (by omega), List.take_take, Nat.min_eq_left (by omega), h1]
  have e2 : (L.take (a + n) ++ X2 ++ L.drop (a + n + b)).drop (a + n) = X2 ++ L.drop (a + n + b) := by
   rw [List.append_assoc, List.drop_left' l1]
  rw [e1, e2, List.append_assoc, ← List.append_assoc cs, ← List.append_assoc X1, List.take_left' l3]
 · rw [h1, List.take_left' l2, ← List.append_assoc X1, List.take_left' (by rw [List.length_append]; omega)]
end Go.Cold
namespace Go.Cold
open Go Go.RowKit
section
variable {α : Type} [RepS α] {F : Nat → Prop} {w w' : World} {base : Nat} {T : TypeId} {v : Value} {xs : List α}
def RdL (w : World) (S : Nat → Prop) (xs : List α) (css : List (List Value)) : Prop := ∀ (i : Nat) (x : α) (cs : List Value), xs[i]? = some x → css[i]? = some cs → RepS.rdS w S x cs
theorem RdL.app {S : Nat → Prop} {ys : List α} {css dss : List (List Value)} (h : RdL w S xs css) (h2 : RdL w S ys dss) (hl : css.length = xs.length) : RdL w S (xs ++ ys) (css ++ dss) := fun i x cs hx hcs => by
 by_cases hi : i < xs.length
 ·
  rw [List.getElem?_append_left hi] at hx
  rw [List.getElem?_append_left (by omega)] at hcs
  exact h i x cs hx hcs
 ·
  rw [List.getElem?_append_right (by omega)] at hx
  rw [List.getElem?_append_right (by omega), hl] at hcs
  exact h2 _ x cs hx hcs
theorem RdL.cons {S : Nat → Prop} {y : α} {cs : List Value} {css : List (List Value)} (hy : RepS.rdS w S y cs) (h : RdL w S xs css) : RdL w S (y :: xs) (cs :: css) := fun i x ds hx hds => by
 cases i with
 | zero => simp at hx hds; subst hx; subst hds; exact hy
 | succ i => exact h i x ds (by simpa using hx) (by simpa using hds)
theorem RdL.drop {S : Nat → Prop} {css : List (List Value)} (h : RdL w S xs css) (k : Nat) : RdL w S (xs.drop k) (css.drop k) := fun i x cs hx hcs => by
 rw [List.getElem?_drop] at hx hcs; exact h _ x cs hx hcs
theorem RdL.take {S : Nat → Prop} {css : List (List Value)} (h : RdL w S xs css) (k : Nat) : RdL w S (xs.take k) (css.take k) := fun i x cs hx hcs => by
 rw [List.getElem?_take] at hx hcs
 split at hx
 · rename_i hk; rw [if_pos hk] at hcs; exact h i x cs hx hcs
 · cases hx
theorem RdL.mono {S S' : Nat → Prop} {css : List (List Value)} (hS : ∀ b, S b → S' b) (hc : ∀ b o u, S b → w.cell? ⟨b, o, none⟩ = some u → w'.cell? ⟨b, o, none⟩ = some u) (h : RdL w S xs css) : RdL w' S' xs css := fun i x cs hx hcs => RepS.mono hS hc (h i x cs hx hcs)
theorem RowIn.two {g cap : Nat} {cur : Array Value} {dss ess : List (List Value)} (h : RowIn F w base T g cap xs cur dss) {ys : List α} {y : α} {cs : List Value} (hy : RepS.rdS w (fun b => F b ∧ b < w.heap.size ∧ b ≠ g) y cs)
  (he : ess.length = ys.length) (hys : RdL w (fun b => F b ∧ b < w.heap.size ∧ b ≠ g) ys ess) (hroom : xs.length + 1 + ys.length ≤ cap) {cur2 : Array Value} (hsz : cur2.size = cur.size)
  (hrow : cur2.toList.take (xs.length * Rep.size α + Rep.size α + ys.length * Rep.size α) = dss.flatten ++ (cs ++ ess.flatten)) : RowIn F (w.setRow g cur2) base T g cap (xs ++ y :: ys) cur2 (dss ++ cs :: ess) := by
 have hl := h.len
 refine h.write (by rw [List.length_append, List.length_cons]; omega) hsz (by simp; omega) (RdL.app h.rd (RdL.cons hy hys) hl) ?_
 have e : (xs ++ y :: ys).length * Rep.size α = xs.length * Rep.size α + Rep.size α + ys.length * Rep.size α := by
  rw [List.length_append, List.length_cons, Nat.add_mul, Nat.succ_mul]; omega
 rw [e, hrow, List.flatten_append, List.flatten_cons]
theorem RowIn.from_ {g cap : Nat} {cur : Array Value} {css : List (List Value)} (h : RowIn F w base T g cap xs cur css) (i : Nat) : ∀ j u, (css.drop i).flatten[j]? = some u → w.cell? ⟨g, i * Rep.size α + j, none⟩ = some u := fun j u hu => by
 rw [cell_of_row w g _ cur T (0, 0) h.heap]
 rw [← (flat_take i h.css).2, List.getElem?_drop, ← h.row, List.getElem?_take] at hu
 split at hu
 · simpa using hu
 · cases hu
end
theorem grown_seq {a b c : World} {row : Option Nat} (h : a.grownBy b row) (k : b.grownBy c row) : a.grownBy c row := by
 obtain ⟨h1, h2, h3, h4, h5⟩ := h
 obtain ⟨k1, k2, k3, k4, k5⟩ := k
 exact ⟨k1.trans h1, k2.trans h2, k3.trans h3, Nat.le_trans h4 k4, fun i hi hne => (k5 i (by omega) hne).trans (h5 i hi hne)⟩
theorem grown_wide {a b : World} {row : Option Nat} (h : a.grownBy b none) : a.grownBy b row := by
 obtain ⟨h1, h2, h3, h4, h5⟩ := h
 exact ⟨h1, h2, h3, h4, fun i hi _ => h5 i hi (by simp)⟩
theorem below_drew (w : World) : Below w.heap.size w w.drew := below_drewN_self w w.heap.size 1
theorem RowIn.drew {α : Type} [RepS α] {F : Nat → Prop} {w : World} {base : Nat} {T : TypeId} {xs : List α} {g cap : Nat} {cur : Array Value} {css : List (List Value)} (h : RowIn F w base T g cap xs cur css) : RowIn F w.drew base T g cap xs cur css :=
 ⟨h.lo, h.heap, h.le, h.lim, h.size, h.len, RdL.mono (w := w) (fun _ h => h) (fun _ _ _ _ h => h) h.rd, h.row⟩
theorem heap_new (w : World) (o : Obj) : (w.alloc o).heap[w.heap.size]? = some o := by
 unfold World.alloc; simp
theorem splice_size {cur : Array Value} {cs : List Value} {o : Nat} (h : o + cs.length ≤ cur.size) : (cur.toList.take o ++ cs ++ cur.toList.drop (o + cs.length)).toArray.size = cur.size := by
 have htl : cur.toList.length = cur.size := Array.length_toList
 simp only [List.size_toArray, List.length_append, List.length_take, List.length_drop, htl]
 omega
section
variable {P : Program} {α : Type} [RepS α] {F : Nat → Prop} {w : World} {base bytes : Nat} {T TS : TypeId} {xs : List α}
theorem flat_size_drop {g cap : Nat} {cur : Array Value} {css : List (List Value)} (h : RowIn F w base T g cap xs cur css) (i : Nat) (hi : i ≤ xs.length) : (css.drop i).flatten.length = (xs.length - i) * Rep.size α := by
 have h1 := flat_size h.len h.rd
 rw [← (flat_take i h.css).2, List.length_drop, h1, Nat.sub_mul]
theorem insert_room (E : ElemT P (Rep.size α) T TS bytes) {g cap : Nat} {cur : Array Value} {css : List (List Value)} (h : RowIn F w base T g cap xs cur css) {i : Nat} (hi : i ≤ xs.length) (hroom : xs.length + 1 ≤ cap) {y : α} {cs : List Value} (gv : Nat) (hgv : gv ≠ g)
  (hc : ∀ (j : Nat) u, cs[j]? = some u → w.cell? ⟨gv, j, none⟩ = some u) (hr : RepS.rdS w (fun b => F b ∧ b < w.heap.size ∧ b ≠ g) y cs) :
  ∃ cur1 cur2, (∀ ty dc sc dT sT, P.underlying dT = some (.slice T) → (Builtin.copy_ #[dT, sT] ty #[.slice (some ⟨g, (i + 1) * Rep.size α, none⟩) (xs.length + 1 - (i + 1)) dc, .slice (some ⟨g, i * Rep.size α, none⟩) (xs.length + 1 - i) sc]).run P w = .ok (goInt ((xs.length - i : Nat) : Int)) (w.setRow g cur1)) ∧
   (∀ ty dc sc dT sT, P.underlying dT = some (.slice T) → (Builtin.copy_ #[dT, sT] ty #[.slice (some ⟨g, i * Rep.size α, none⟩) (xs.length + 1 - i) dc, .slice (some ⟨gv, 0, none⟩) 1 sc]).run P (w.setRow g cur1) = .ok (goInt 1) (w.setRow g cur2)) ∧
   RowIn F (w.setRow g cur2) base T g cap (xs.take i ++ y :: xs.drop i) cur2 (css.take i ++ cs :: css.drop i) := by
 obtain ⟨ti, z, hti, hz, hs1, hs2, hs3⟩ := E.info
 have hn := h.css
 have hcl : cs.length = Rep.size α := RepS.lenS hr
 have hdl := flat_size_drop h i hi
 have hsz := h.size
 have hcap : (xs.length + 1) * Rep.size α ≤ cap * Rep.size α := Nat.mul_le_mul_right _ hroom
 have hlen : i * Rep.size α + Rep.size α + (xs.length - i) * Rep.size α = (xs.length + 1) * Rep.size α := by
  have : xs.length + 1 = i + 1 + (xs.length - i) := by omega
  rw [this, Nat.add_mul, Nat.add_mul, Nat.one_mul]
 have hsi : (i + 1) * Rep.size α = i * Rep.size α + Rep.size α := Nat.succ_mul _ _
 have htl : cur.toList.length = cur.size := Array.length_toList
 obtain ⟨cur1, hcur1⟩ : ∃ c, c = (cur.toList.take ((i + 1) * Rep.size α) ++ (css.drop i).flatten ++ cur.toList.drop ((i + 1) * Rep.size α + (css.drop i).flatten.length)).toArray := ⟨_, rfl⟩
 obtain ⟨cur2, hcur2⟩ : ∃ c, c = (cur1.toList.take (i * Rep.size α) ++ cs ++ cur1.toList.drop (i * Rep.size α + cs.length)).toArray := ⟨_, rfl⟩
 have l1 : cur1.size = cur.size := by rw [hcur1]; exact splice_size (by omega)
 have l2 : cur2.size = cur.size := by rw [hcur2, splice_size (by omega), l1]
 have hg1 := setRow_heap w g cur cur1 T (0, 0) h.heap
 have hgr := grown_setRow w g cur1
 refine ⟨cur1, cur2, fun ty dc sc dT sT hT => ?_, fun ty dc sc dT sT hT => ?_, ?_⟩
 ·
  rw [hcur1]
  exact run_copy_n w dT sT ty T g ((i + 1) * Rep.size α) (xs.length + 1 - (i + 1)) dc ⟨g, i * Rep.size α, none⟩ (xs.length + 1 - i) sc (Rep.size α) (xs.length - i) cur T _ hT ⟨ti, hti, hs1⟩ h.heap (by simp only [Nat.min_def]; split <;> omega) hdl (fun j u hu => by rw [add_mk]; exact h.from_ i j u hu) (by omega) (fun u hu => h.one u (by rw [← List.take_append_drop i css, List.flatten_append]; exact List.mem_append_right _ hu))
 ·
  have e := run_copy_n (w.setRow g cur1) dT sT ty T g (i * Rep.size α) (xs.length + 1 - i) dc ⟨gv, 0, none⟩ 1 sc (Rep.size α) 1 cur1 T cs hT ⟨ti, hti, hs1⟩ hg1 (by simp only [Nat.min_def]; split <;> omega) (by omega) (fun j u hu => by rw [add_mk, Nat.zero_add]; exact hgr.cell (hc j u hu) (fun e => hgv (Option.some.inj e))) (by omega) (RepS.one hr)
  rw [setRow_setRow, ← hcur2] at e
  exact e
 ·
  have hcut := h.cut i hi
  have hti2 : (xs.take i).length = i := by rw [List.length_take]; omega
  have hdi : (xs.drop i).length = xs.length - i := List.length_drop
  refine hcut.two hr (by rw [List.length_drop, List.length_drop, h.len]) (RdL.drop h.rd i) (by rw [hti2, hdi]; omega) l2 ?_
  rw [hti2, hdi]
  have hX1 : cur.toList.take (i * Rep.size α) = (css.take i).flatten := by rw [← (flat_take i hn).1, ← h.row, List.take_take, Nat.min_eq_left (Nat.mul_le_mul_right _ hi)]
  have hX1l : (css.take i).flatten.length = i * Rep.size α := by rw [← hX1, List.length_take]; have := Nat.mul_le_mul_right (Rep.size α) hi; omega
  have := (two_parts (cs := cs) hX1 hX1l hcl hdl (by omega)).1
  rw [← this, hcur2, hcur1]
  simp only [List.toList_toArray, hcl, hdl, hsi]
theorem insert_new (E : ElemT P (Rep.size α) T TS bytes) {g cap : Nat} {cur : Array Value} {css ess : List (List Value)} (h : RowIn F w base T g cap xs cur css) {ys : List α} (hroom : xs.length + 1 + ys.length ≤ cap) {y : α} {cs : List Value} (gv gs so : Nat) (hgv : gv ≠ g) (hgs : gs ≠ g)
  (hc : ∀ (j : Nat) u, cs[j]? = some u → w.cell? ⟨gv, j, none⟩ = some u) (hr : RepS.rdS w (fun b => F b ∧ b < w.heap.size ∧ b ≠ g) y cs)
  (he : ess.length = ys.length) (hys : RdL w (fun b => F b ∧ b < w.heap.size ∧ b ≠ g) ys ess) (hec : ∀ (j : Nat) u, ess.flatten[j]? = some u → w.cell? ⟨gs, so + j, none⟩ = some u) :
  ∃ cur1 cur2, (∀ ty dl dc sc dT sT, P.underlying dT = some (.slice T) → 1 ≤ dl → (Builtin.copy_ #[dT, sT] ty #[.slice (some ⟨g, xs.length * Rep.size α, none⟩) dl dc, .slice (some ⟨gv, 0, none⟩) 1 sc]).run P w = .ok (goInt 1) (w.setRow g cur1)) ∧
   (∀ ty dl dc sc dT sT, P.underlying dT = some (.slice T) → ys.length ≤ dl → (Builtin.copy_ #[dT, sT] ty #[.slice (some ⟨g, (xs.length + 1) * Rep.size α, none⟩) dl dc, .slice (some ⟨gs, so, none⟩) ys.length sc]).run P (w.setRow g cur1).drew = .ok (goInt ys.length) (w.setRow g cur2).drew) ∧
   RowIn F (w.setRow g cur2) base T g cap (xs ++ y :: ys) cur2 (css ++ cs :: ess) := by
 obtain ⟨ti, z, hti, hz, hs1, hs2, hs3⟩ := E.info
 have hcl : cs.length = Rep.size α := RepS.lenS hr
 obtain ⟨hel, heo⟩ := flat_len he hys
 have hsz := h.size
 have hcap : (xs.length + 1 + ys.length) * Rep.size α ≤ cap * Rep.size α := Nat.mul_le_mul_right _ hroom
 rw [Nat.add_mul, Nat.succ_mul] at hcap
 have htl : cur.toList.length = cur.size := Array.length_toList
 have hsi : (xs.length + 1) * Rep.size α = xs.length * Rep.size α + Rep.size α := Nat.succ_mul _ _
 obtain ⟨cur1, hcur1⟩ : ∃ c, c = (cur.toList.take (xs.length * Rep.size α) ++ cs ++ cur.toList.drop (xs.length * Rep.size α + cs.length)).toArray := ⟨_, rfl⟩
 obtain ⟨cur2, hcur2⟩ : ∃ c, c = (cur1.toList.take ((xs.length + 1) * Rep.size α) ++ ess.flatten ++ cur1.toList.drop ((xs.length + 1) * Rep.size α + ess.flatten.length)).toArray := ⟨_, rfl⟩
 have l1 : cur1.size = cur.size := by rw [hcur1]; exact splice_size (by omega)
 have l2 : cur2.size = cur.size := by rw [hcur2, splice_size (by omega), l1]
 have hg1 := setRow_heap w g cur cur1 T (0, 0) h.heap
 have hgr := grown_setRow w g cur1
 refine ⟨cur1, cur2, fun ty dl dc sc dT sT hT hdl => ?_, fun ty dl dc sc dT sT hT hdl => ?_, ?_⟩
 ·
  rw [hcur1]
  exact run_copy_n w dT sT ty T g (xs.length * Rep.size α) dl dc ⟨gv, 0, none⟩ 1 sc (Rep.size α) 1 cur T cs hT ⟨ti, hti, hs1⟩ h.heap (by simp only [Nat.min_def]; split <;> omega) (by omega) (fun j u hu => by rw [add_mk, Nat.zero_add]; exact hc j u hu) (by omega) (RepS.one hr)
 ·
  have e := run_copy_n (w.setRow g cur1).drew dT sT ty T g ((xs.length + 1) * Rep.size α) dl dc ⟨gs, so, none⟩ ys.length sc (Rep.size α) ys.length cur1 T ess.flatten hT ⟨ti, hti, hs1⟩ hg1 (by simp only [Nat.min_def]; split <;> omega) hel (fun j u hu => by rw [add_mk]; exact hgr.cell (hec j u hu) (fun e => hgs (Option.some.inj e))) (by omega) heo
  have e2 : (w.setRow g cur1).drew.setRow g (cur1.toList.take ((xs.length + 1) * Rep.size α) ++ ess.flatten ++ cur1.toList.drop ((xs.length + 1) * Rep.size α + ess.flatten.length)).toArray = (w.setRow g cur2).drew := by rw [hcur2]; exact congrArg World.drew (setRow_setRow w g cur1 _)
  rw [e2] at e
  exact e
 ·
  refine h.two hr he hys hroom l2 ?_
  have hX1l : css.flatten.length = xs.length * Rep.size α := flat_size h.len h.rd
  have := (two_parts (cs := cs) h.row hX1l hcl hel (by omega)).2
  rw [← this, hcur2, hcur1]
  simp only [List.toList_toArray, hcl, hel, hsi]
theorem insert_grow (E : ElemT P (Rep.size α) T TS bytes) {g cap : Nat} {cur : Array Value} {css : List (List Value)} (h : RowIn F w base T g cap xs cur css) {i : Nat} (hi : i < xs.length) (hroom : cap < xs.length + 1) (hb : base ≤ w.heap.size) (hbig : (xs.length + 1) * bytes ≤ 140737488355328) (hlen : xs.length ≤ 1000000)
  (tn ty : TypeId) (kn : IntKind) (htn : P.underlying tn = some (.int kn)) (kq : IntKind) :
  ∃ G cur1 W1, (Builtin.append_ #[TS, tn] ty #[.slice (some ⟨g, 0, none⟩) i cap, .int kq ((xs.length + 1 - i : Nat) : Int)]).run P w = .ok (.slice (some ⟨w.heap.size, 0, none⟩) (xs.length + 1) G) W1 ∧ xs.length + 1 ≤ G ∧ Below w.heap.size w W1 ∧ W1.heap.size = w.heap.size + 1 ∧
   RowIn F W1 base T w.heap.size G (xs.take i) cur1 (css.take i) := by
 obtain ⟨ti, z, hti, hz, hs1, hs2, hs3⟩ := E.info
 have hcap := h.le
 have hold : (Builtin.firstCells ti.size i (.slice (some ⟨g, 0, none⟩) i cap)).run P w.drew = .ok (css.take i).flatten.toArray w.drew := by
  rw [hs1]
  have hfl : (css.take i).flatten.length = i * Rep.size α := by rw [← (flat_take i h.css).1, List.length_take, flat_size h.len h.rd, Nat.min_eq_left (Nat.mul_le_mul_right _ (by omega))]
  exact run_firstCells_some w.drew (Rep.size α) i ⟨g, 0, none⟩ i cap _ hfl (fun j u hu => by
   rw [add_mk, Nat.zero_add]
   rw [← (flat_take i h.css).1, List.getElem?_take] at hu
   split at hu
   ·
    have := h.from_ 0 j u (by simpa using hu)
    rw [Nat.zero_mul, Nat.zero_add] at this; exact this
   · cases hu)
 have hik : i + (xs.length + 1 - i) = xs.length + 1 := by omega
 have hrun := Lib.run_append_grow_zeros w TS tn ty T ti z kq kn E.sl htn hti hz (some ⟨g, 0, none⟩) i cap _ hold (xs.length + 1 - i) (by omega) (by rw [hs1]; exact RepS.pos) (by omega) (by omega) (by
  rw [hs2]
  have : (xs.length + 1 - i) * bytes ≤ (xs.length + 1) * bytes := Nat.mul_le_mul_right _ (by omega)
  omega) (by rw [hs2, hik]; exact growslice_fits hroom hbig)
 rw [hik] at hrun
 obtain ⟨G, hG⟩ : ∃ G, G = grownCap w (xs.length + 1) cap T := ⟨_, rfl⟩
 have hGn : xs.length + 1 ≤ G := by rw [hG]; exact grownCap_ge w _ _ _
 have hGm : G ≤ maxLen := by rw [hG]; exact grownCap_le_maxLen w _ _ _ (by unfold maxLen; omega)
 rw [← hG] at hrun
 refine ⟨G, (css.take i).flatten.toArray ++ Builtin.zeroCells z.cells (xs.length + 1 - i) ++ Builtin.zeroCells z.cells (G - (xs.length + 1)), _, hrun, hGn, ?_, by simp, ?_⟩
 · exact (show Below w.heap.size w w.drew from below_drewN_self w w.heap.size 1).alloc (Nat.le_refl _) _
 ·
  have hfl : (css.take i).flatten.length = i * Rep.size α := by rw [← (flat_take i h.css).1, List.length_take, flat_size h.len h.rd, Nat.min_eq_left (Nat.mul_le_mul_right _ (by omega))]
  have hti2 : (xs.take i).length = i := by rw [List.length_take]; omega
  refine ⟨hb, heap_new w.drew _, by omega, hGm, ?_, by rw [List.length_take, List.length_take, h.len], RdL.mono (fun b hb => ⟨hb.1, by simp; omega, by omega⟩) (fun b o u hb hu => ?_) (RdL.take h.rd i), ?_⟩
  ·
   simp [Builtin.zeroCells, hs3, hfl]
   rw [← Nat.add_mul, ← Nat.add_mul]; congr 1; omega
  ·
   have hlt := hb.2.1
   rw [World.cell?_alloc_past (w := w.drew) _ b o hlt]; exact hu
  ·
   rw [hti2]
   simp [List.take_append_of_le_length, hfl]
end
end Go.Cold
namespace Go.Proofs.YtjpoljlgkgmdkaaGreatDoor
open Go.RowKit Go.Cold Go.Shelf
end Go.Proofs.YtjpoljlgkgmdkaaGreatDoor
namespace Go.Cold
open Go Go.RowKit
theorem take_succ_some {α : Type} {x : α} {l : List α} {k : Nat} (h : l[k]? = some x) : l.take (k + 1) = l.take k ++ [x] := by rw [List.take_add_one, h]; rfl
theorem drop_succ_of {α : Type} {l m : List α} {k : Nat} (h : l.drop k = m.drop k) : l.drop (k + 1) = m.drop (k + 1) := by
 have := congrArg (List.drop 1) h
 rwa [List.drop_drop, List.drop_drop] at this
section
variable {α : Type} [RepS α] {F : Nat → Prop} {w W W' : World} {base : Nat} {T : TypeId} {g cap : Nat} {xs : List α} {cur : Array Value} {css : List (List Value)} {p : α → Bool} {i j : Nat} {x : α}
theorem RowIn.below (h : RowIn F w base T g cap xs cur css) (hb : Below w.heap.size w W) : RowIn F W base T g cap xs cur css :=
 ⟨h.lo, (hb.block g h.lt).trans h.heap, h.le, h.lim, h.size, h.len, RdL.mono (w := w) (fun b hb' => ⟨hb'.1, by have := hb.size; omega, hb'.2.2⟩) (fun b o u hb' hu => (hb.cell (p := ⟨b, o, none⟩) hb'.2.1).trans hu) h.rd, h.row⟩
def DelSt (F : Nat → Prop) (base : Nat) (T : TypeId) (g cap : Nat) (w : World) (xs : List α) (p : α → Bool) (i j : Nat) (W : World) : Prop :=
 ∃ (zs : List α) (cur : Array Value) (css : List (List Value)), RowIn F W base T g cap zs cur css ∧ zs.length = xs.length ∧ zs.take i = (xs.take j).filter (fun x => !p x) ∧ zs.drop j = xs.drop j ∧ w.grownBy W (some g) ∧ i < j ∧ j ≤ xs.length
theorem DelSt.start (h : RowIn F w base T g cap xs cur css) (hg : W.grownBy w (some g)) (hx : xs[i]? = some x) (hp : p x = true) (hb : ∀ y ∈ xs.take i, p y = false) : DelSt F base T g cap W xs p i (i + 1) w := by
 have hi := (List.getElem?_eq_some_iff.1 hx).1
 refine ⟨xs, cur, css, h, rfl, ?_, rfl, hg, by omega, by omega⟩
 rw [take_succ_some hx, List.filter_append]
 have h1 : (xs.take i).filter (fun x => !p x) = xs.take i := List.filter_eq_self.2 fun y hy => by rw [hb y hy]; rfl
 rw [h1]
 simp [hp]
theorem DelSt.skip (h : DelSt F base T g cap w xs p i j W) (hx : xs[j]? = some x) (hp : p x = true) (hb : Below W.heap.size W W') : DelSt F base T g cap w xs p i (j + 1) W' := by
 obtain ⟨zs, cur, css, h1, h2, h3, h4, h5, h6, h7⟩ := h
 have hj := (List.getElem?_eq_some_iff.1 hx).1
 refine ⟨zs, cur, css, h1.below hb, h2, ?_, drop_succ_of h4, grown_seq h5 (grown_wide (grown_none hb)), by omega, by omega⟩
 rw [take_succ_some hx, List.filter_append, h3]
 simp [hp]
theorem DelSt.at_ (h : DelSt F base T g cap w xs p i j W) (hx : xs[j]? = some x) : (∃ cs, RepS.rdS W (fun b => F b ∧ b < W.heap.size ∧ b ≠ g) x cs ∧ ∀ k u, cs[k]? = some u → W.cell? ⟨g, j * Rep.size α + k, none⟩ = some u) ∧
  (∀ k, k < Rep.size α → ∃ u, W.cell? ⟨g, i * Rep.size α + k, none⟩ = some u) ∧ (∀ k, W.frozen? ⟨g, k, none⟩ = false) ∧ g < W.heap.size := by
 obtain ⟨zs, cur, css, h1, h2, h3, h4, h5, h6, h7⟩ := h
 have hj := (List.getElem?_eq_some_iff.1 hx).1
 have hzj : zs[j]? = some x := by
  have := congrArg (fun l => l[0]?) h4
  simp only [List.getElem?_drop, Nat.add_zero] at this
  rw [this, hx]
 obtain ⟨cs, -, r1, r2⟩ := h1.at_ hzj
 obtain ⟨ds, -, s1, s2⟩ := h1.at_ (List.getElem?_eq_getElem (show i < zs.length by omega))
 exact ⟨⟨cs, r1, r2⟩, fun k hk => ⟨_, s2 k _ (List.getElem?_eq_getElem (by rw [RepS.lenS s1]; exact hk))⟩, fun k => h1.frozen k, h1.lt⟩
theorem DelSt.put (h : DelSt F base T g cap w xs p i j W) (hx : xs[j]? = some x) (hp : p x = false) (hb : Below W.heap.size W W') {cs : List Value} (hr : RepS.rdS W (fun b => F b ∧ b < W.heap.size ∧ b ≠ g) x cs) : DelSt F base T g cap w xs p (i + 1) (j + 1) (W'.setCells g (i * Rep.size α) cs) := by
 obtain ⟨zs, cur, css, h1, h2, h3, h4, h5, h6, h7⟩ := h
 have hj := (List.getElem?_eq_some_iff.1 hx).1
 have h1' := h1.below hb
 obtain ⟨cur', e, hrow⟩ := h1'.set_ (i := i) (by omega) (y := x) (cs := cs) (RepS.mono (fun b hb' => ⟨hb'.1, by have := hb.size; omega, hb'.2.2⟩) (fun b o u hb' hu => (hb.cell (p := ⟨b, o, none⟩) hb'.2.1).trans hu) hr)
 rw [e]
 have hi : i < zs.length := by omega
 refine ⟨_, cur', _, hrow, by rw [List.length_set]; exact h2, ?_, ?_, grown_seq (grown_seq h5 (grown_wide (grown_none hb))) (grown_setRow W' g cur'), by omega, by omega⟩
 ·
  rw [take_succ_some (x := x) (by rw [List.getElem?_set, if_pos rfl, if_pos hi]), List.take_set_of_le (Nat.le_refl _), h3, take_succ_some hx, List.filter_append]
  simp [hp]
 · rw [List.drop_set_of_lt (by omega)]; exact drop_succ_of h4
theorem DelSt.done {P : Program} {bytes : Nat} {TS : TypeId} (E : ElemT P (Rep.size α) T TS bytes) (h : DelSt F base T g cap w xs p i xs.length W) (ty : TypeId) (c : Nat) (hz : ∀ (z : Value), (∃ ti, P.info? T = some ti ∧ ti.zero = some z) → ∀ u ∈ z.cells, u.oneCell' = true) :
  ∃ W2, (Builtin.clear_ #[TS] ty #[.slice (some ⟨g, i * Rep.size α, none⟩) (xs.length - i) c]).run P W = .ok (.tuple #[]) W2 ∧ w.grownBy W2 (some g) ∧ OwnsS F W2 base T (.slice (some ⟨g, 0, none⟩) i cap) (xs.filter fun x => !p x) ∧ i ≤ xs.length := by
 obtain ⟨ti, z, hti, hz0, hs1, hs2, hs3⟩ := E.info
 obtain ⟨zs, cur, css, h1, h2, h3, h4, h5, h6, h7⟩ := h
 rw [List.take_length] at h3
 have hsz := h1.size
 have hle := h1.le
 have hcap : (i + (xs.length - i)) * Rep.size α ≤ cap * Rep.size α := Nat.mul_le_mul_right _ (by omega)
 rw [Nat.add_mul] at hcap
 obtain ⟨vs, hvl, hrun⟩ := run_clear_n (P := P) W TS T ty z E.sl (fun w => by simp [zeroValue, typeInfo, hti, hz0]) g (i * Rep.size α) (xs.length - i) c (by omega) cur T h1.heap (hz z ⟨ti, hti, hz0⟩) (by rw [hs3]; omega)
 have hcut := h1.cut i (by omega)
 have hl : (zs.take i).length = i := by rw [List.length_take]; omega
 obtain ⟨cur', e, hrow⟩ := hcut.tail (o := i * Rep.size α) (vs := vs) (by rw [hl]; exact Nat.le_refl _) (by rw [hvl, hs3]; exact hcap)
 rw [setCells_row vs _ cur W h1.heap (by rw [hvl, hs3]; omega)] at e
 rw [e] at hrun
 refine ⟨_, hrun, grown_seq h5 (grown_setRow W g cur'), ?_, by omega⟩
 have ho := hrow.owns
 rw [hl, h3] at ho
 exact ho
end
end Go.Cold
