/-
  Building a tree: devices of a valid tree, inserted in any order in which parents come first, give the tree.
-/
import Derived.Test.YtidhbckalcjdpaaGreatDoorHA
import Derived.Test.YtidhbckalcjdpaaGreatDoorHG
set_option linter.unusedSimpArgs false
set_option linter.unusedVariables false
namespace Go.Cold
open Go Go.RowKit
/-- A part of a tree that has with each device its parent. -/
def Shut (L : List Dev) (p : Dev → Bool) : Prop := ∀ d ∈ L, p d = true → ∀ e ∈ L, e.idx = d.par → p e = true
def also (p : Dev → Bool) (t : Dev) (d : Dev) : Bool := p d || decide (d.idx = t.idx)
def notP (p : Dev → Bool) (d : Dev) : Bool := !p d
def noneD (_ : Dev) : Bool := false
theorem build_none (L : List Dev) : Shut L noneD ∧ L.filter noneD = [] ∧ L.filter (notP noneD) = L :=
 ⟨(fun _ _ h => by cases h), List.filter_eq_nil_iff.2 (fun _ _ h => by cases h), List.filter_eq_self.2 (fun _ _ => rfl)⟩
theorem build_all {L : List Dev} {p : Dev → Bool} (h : L.filter (notP p) = []) : L.filter p = L := by
 rw [List.filter_eq_self]
 intro d hd
 have := (List.filter_eq_nil_iff.1 h) d hd
 unfold notP at this
 cases hp : p d with
 | true => rfl
 | false => rw [hp] at this; exact absurd rfl this
theorem build_split {L : List Dev} (h : VT L) {t : Dev} (ht : t ∈ L) : ∃ A B, L = A ++ t :: B ∧ (∀ a ∈ A, cmpL (orgF L a.idx) (orgF L t.idx) < 0 ∧ clashB a t = false ∧ a.idx ≠ t.idx) ∧ ∀ b ∈ B, ¬ cmpL (orgF L b.idx) (orgF L t.idx) < 0 ∧ cmpL (orgF L b.idx) (orgF L t.idx) ≠ 0 ∧ clashB b t = false ∧ b.idx ≠ t.idx := by
 obtain ⟨A, B, rfl⟩ := List.append_of_mem ht
 refine ⟨A, B, rfl, fun a ha => ?_, fun b hb => ?_⟩
 ·
  refine ⟨(List.pairwise_append.1 h.srt).2.2 a ha t List.mem_cons_self, (List.pairwise_append.1 h.clash).2.2 a ha t List.mem_cons_self, fun he => ?_⟩
  have h1 := (List.pairwise_append.1 h.srt).2.2 a ha t List.mem_cons_self
  rw [he] at h1
  have := (cmpL_total.zero (orgF (A ++ t :: B) t.idx) _).2 rfl
  omega
 ·
  have h1 := (List.pairwise_cons.1 (List.pairwise_append.1 h.srt).2.1).1 b hb
  have h2 := (List.pairwise_cons.1 (List.pairwise_append.1 h.clash).2.1).1 b hb
  have hz := fun x => (cmpL_total.zero x x).2 rfl
  refine ⟨fun h3 => ?_, fun h3 => ?_, by rw [clash_comm]; exact h2, fun he => ?_⟩
  ·
   have := cmpL_total.lt _ _ _ h1 h3
   rw [hz] at this; omega
  · rw [(cmpL_total.zero _ _).1 h3, hz] at h1; omega
  · rw [he, hz] at h1; omega
theorem build_own {L : List Dev} (h : VT L) {p : Dev → Bool} (hp : Shut L p) {t : Dev} (ht : t ∈ L) (hpar : t.par = 0 ∨ t.par ∈ idxs (L.filter p)) : ownL (L.filter p) t = orgF L t.idx := by
 obtain ⟨hw, ho⟩ := h.wf.part p hp
 rw [own_head h.wf ht]
 unfold ownL
 rcases hpar with h0 | h0
 · rw [h0, org_zero h.wf, org_zero hw]
 ·
  obtain ⟨e, he, hi⟩ := List.mem_map.1 h0
  have := ho e he
  rw [show e.idx = t.par from hi] at this
  rw [this]
theorem build_ins {L : List Dev} (h : VT L) {p : Dev → Bool} (hp : Shut L p) {t : Dev} (ht : t ∈ L) (hn : p t = false) (hpar : t.par = 0 ∨ t.par ∈ idxs (L.filter p)) : insE (L.filter p) t = 0 ∧ insL (L.filter p) t = L.filter (also p t) := by
 have hown := build_own h hp ht hpar
 obtain ⟨hw, ho⟩ := h.wf.part p hp
 obtain ⟨A, B, hL, hA, hB⟩ := build_split h ht
 have hY : L.filter p = A.filter p ++ B.filter p := by rw [hL, List.filter_append, List.filter_cons, if_neg (by rw [hn]; decide)]
 have hall : ∀ x ∈ L.filter p, x ∈ A ∨ x ∈ B := fun x hx => by
  rw [hY] at hx
  rcases List.mem_append.1 hx with hx | hx
  · exact .inl (List.mem_filter.1 hx).1
  · exact .inr (List.mem_filter.1 hx).1
 constructor
 ·
  unfold insE
  rw [if_neg (by rw [h.chk t ht]; decide), if_neg ?_, if_neg ?_, if_neg ?_, if_neg (by rw [hown]; have := h.dep t ht; omega), if_neg ?_]
  ·
   intro hb
   obtain ⟨x, hx, hb⟩ := List.any_eq_true.1 hb
   unfold badP at hb
   rw [hown, ho x hx] at hb
   rcases hall x hx with hx | hx
   ·
    obtain ⟨h1, h2, -⟩ := hA x hx
    rw [h2, Bool.or_false] at hb
    have := of_decide_eq_true hb
    omega
   ·
    obtain ⟨h1, h1', h2, -⟩ := hB x hx
    rw [h2, Bool.or_false] at hb
    exact h1' (of_decide_eq_true hb)
  ·
   have h1 := h.size
   rw [hL] at h1
   rw [hY]
   have h2 := List.length_filter_le p A
   have h3 := List.length_filter_le p B
   simp only [List.length_append, List.length_cons] at h1 ⊢
   omega
  ·
   rintro ⟨h1, h2⟩
   rcases hpar with h3 | h3
   · exact h1 h3
   · rw [List.contains_iff_mem.2 h3] at h2; cases h2
  ·
   intro hc
   obtain ⟨x, hx, hi⟩ := List.mem_map.1 (List.contains_iff_mem.1 hc)
   rcases hall x hx with hx | hx
   · exact (hA x hx).2.2 hi
   · exact (hB x hx).2.2.2 hi
 ·
  unfold insL atN
  obtain ⟨e1, e2⟩ := take_while (lessP (L.filter p) (ownL (L.filter p) t)) (L.filter p)
  rw [e1, e2]
  have hlA : ∀ x ∈ A.filter p, lessP (L.filter p) (ownL (L.filter p) t) x = true := fun x hx => by
   unfold lessP
   rw [hown, ho x (by rw [hY]; exact List.mem_append_left _ hx)]
   exact decide_eq_true (hA x (List.mem_filter.1 hx).1).1
  have hlB : ∀ x ∈ B.filter p, lessP (L.filter p) (ownL (L.filter p) t) x = false := fun x hx => by
   unfold lessP
   rw [hown, ho x (by rw [hY]; exact List.mem_append_right _ hx)]
   exact decide_eq_false (hB x (List.mem_filter.1 hx).1).1
  have hBt : (B.filter p).takeWhile (lessP (L.filter p) (ownL (L.filter p) t)) = [] ∧ (B.filter p).dropWhile (lessP (L.filter p) (ownL (L.filter p) t)) = B.filter p := by
   rcases hq : B.filter p with _ | ⟨x, r⟩
   · exact ⟨rfl, rfl⟩
   ·
    have := hlB x (by rw [hq]; exact List.mem_cons_self)
    rw [List.takeWhile_cons, List.dropWhile_cons, if_neg (by rw [this]; decide), if_neg (by rw [this]; decide)]
    exact ⟨rfl, rfl⟩
  obtain ⟨q, hq⟩ : ∃ q, lessP (L.filter p) (ownL (L.filter p) t) = q := ⟨_, rfl⟩
  rw [hq] at hlA hBt ⊢
  have ht1 : (L.filter p).takeWhile q = A.filter p := by rw [hY, List.takeWhile_append_of_pos hlA, hBt.1, List.append_nil]
  have ht2 : (L.filter p).dropWhile q = B.filter p := by rw [hY, List.dropWhile_append_of_pos hlA, hBt.2]
  rw [ht1, ht2]
  conv => rhs; rw [hL]
  rw [List.filter_append, List.filter_cons, if_pos (by unfold also; simp)]
  congr 1
  · exact List.filter_congr fun x hx => by unfold also; rw [decide_eq_false (hA x hx).2.2, Bool.or_false]
  ·
   congr 1
   exact List.filter_congr fun x hx => by unfold also; rw [decide_eq_false (hB x hx).2.2.2, Bool.or_false]
theorem build_first {L : List Dev} (h : VT L) {p : Dev → Bool} {t : Dev} {r : List Dev} (hl : L.filter (notP p) = t :: r) : t.par = 0 ∨ t.par ∈ idxs (L.filter p) := by
 obtain ⟨A, B, hL, hA, ht, -⟩ := List.filter_eq_cons_iff.1 hl
 have hp := h.wf.par
 rw [hL] at hp
 rcases (parA_append.1 hp).2.1 with h1 | h1
 · exact .inl h1
 ·
  right
  rw [List.append_nil] at h1
  obtain ⟨e, he, hi⟩ := List.mem_map.1 h1
  refine List.mem_map.2 ⟨e, List.mem_filter.2 ⟨by rw [hL]; exact List.mem_append_left _ he, ?_⟩, hi⟩
  have := hA e he
  unfold notP at this
  cases hpe : p e with
  | true => rfl
  | false => rw [hpe] at this; exact absurd rfl this
theorem build_shut {L : List Dev} (h : VT L) {p : Dev → Bool} (hp : Shut L p) {t : Dev} (ht : t ∈ L) (hpar : t.par = 0 ∨ t.par ∈ idxs (L.filter p)) : Shut L (also p t) := by
 intro d hd hpd e he hi
 unfold also at hpd ⊢
 rcases Bool.or_eq_true_iff.1 hpd with h1 | h1
 · rw [hp d hd h1 e he hi, Bool.true_or]
 ·
  have hdt := nodup_idx h.wf.uniq hd ht (of_decide_eq_true h1)
  subst hdt
  rcases hpar with h0 | h0
  · exact absurd (hi.trans h0) (h.wf.nz e he)
  ·
   obtain ⟨f, hf, hfi⟩ := List.mem_map.1 h0
   have := nodup_idx h.wf.uniq (List.mem_filter.1 hf).1 he (hfi.trans hi.symm)
   rw [← this, (List.mem_filter.1 hf).2, Bool.true_or]
theorem build_next {L : List Dev} (h : VT L) {p : Dev → Bool} {k : Nat} {t : Dev} (hk : (L.filter (notP p))[k]? = some t) : (L.filter (notP p)).take k ++ (L.filter (notP p)).drop (k + 1) = L.filter (notP (also p t)) := by
 have e : L.filter (notP (also p t)) = (L.filter (notP p)).filter (fun d => !decide (d.idx = t.idx)) := by
  rw [List.filter_filter]
  exact List.filter_congr fun x _ => by unfold notP also; cases p x <;> simp
 rw [e]
 obtain ⟨X, hX⟩ : ∃ X, L.filter (notP p) = X := ⟨_, rfl⟩
 have hu : (idxs X).Nodup := by
  rw [← hX]
  exact h.wf.uniq.sublist ((List.filter_sublist (l := L) (p := notP p)).map _)
 rw [hX] at hk ⊢
 obtain ⟨hlt, hge⟩ := List.getElem?_eq_some_iff.1 hk
 have hs : X = X.take k ++ t :: X.drop (k + 1) := by
  rw [← hge, List.getElem_cons_drop, List.take_append_drop]
 conv => rhs; rw [hs]
 rw [List.filter_append, List.filter_cons, if_neg (by simp)]
 unfold idxs at hu
 rw [hs, List.map_append, List.map_cons] at hu
 obtain ⟨u1, u2, u3⟩ := List.pairwise_append.1 hu
 obtain ⟨u4, u5⟩ := List.pairwise_cons.1 u2
 congr 1
 ·
  symm
  rw [List.filter_eq_self]
  intro a ha
  have := u3 a.idx (List.mem_map_of_mem ha) t.idx List.mem_cons_self
  simp [this]
 ·
  symm
  rw [List.filter_eq_self]
  intro a ha
  have := u4 a.idx (List.mem_map_of_mem ha)
  simp [Ne.symm this]
theorem build_in {L : List Dev} {p : Dev → Bool} {k : Nat} {t : Dev} (hk : (L.filter (notP p))[k]? = some t) : t ∈ L ∧ p t = false := by
 obtain ⟨h1, h2⟩ := List.mem_filter.1 (List.mem_of_getElem? hk)
 refine ⟨h1, ?_⟩
 unfold notP at h2
 cases hp : p t with
 | true => rw [hp] at h2; cases h2
 | false => rfl
end Go.Cold
namespace Go.Cold
open Go Go.RowKit
/-- What Change answers: the error, and the tree. -/
def chgE (L : List Dev) (d : Dev) : Int :=
 match findD L d.idx with
 | none => 45
 | some o => if checkD d ≠ 0 then 41 else if o.par = d.par ∧ o.orig = d.orig ∧ o.kind = d.kind then (if clashesB L d then 44 else 0) else 42
def chgL (L : List Dev) (d : Dev) : List Dev := L.map fun x => if x.idx = d.idx then d else x
theorem chgE_none {L : List Dev} {d : Dev} (h : d.idx ∉ idxs L) : chgE L d = 45 := by unfold chgE; rw [find_none.2 h]
theorem chgE_some {L : List Dev} {d o : Dev} (h : WF L) (ho : o ∈ L) (hi : o.idx = d.idx) : chgE L d = if checkD d ≠ 0 then 41 else if o.par = d.par ∧ o.orig = d.orig ∧ o.kind = d.kind then (if clashesB L d then 44 else 0) else 42 := by
 unfold chgE
 rw [← hi, find_of h.uniq ho]
theorem chg_split {L : List Dev} {d o : Dev} (h : WF L) {A B : List Dev} (hL : L = A ++ o :: B) (hi : o.idx = d.idx) : (∀ x ∈ A ++ B, x.idx ≠ d.idx) ∧ chgL L d = A ++ d :: B := by
 have hu := h.uniq
 unfold idxs at hu
 rw [hL, List.map_append, List.map_cons] at hu
 obtain ⟨u1, u2, u3⟩ := List.pairwise_append.1 hu
 obtain ⟨u4, u5⟩ := List.pairwise_cons.1 u2
 have hA : ∀ x ∈ A, x.idx ≠ d.idx := fun x hx => by rw [← hi]; exact u3 x.idx (List.mem_map_of_mem hx) o.idx List.mem_cons_self
 have hB : ∀ x ∈ B, x.idx ≠ d.idx := fun x hx => by rw [← hi]; exact Ne.symm (u4 x.idx (List.mem_map_of_mem hx))
 refine ⟨fun x hx => (List.mem_append.1 hx).elim (hA x) (hB x), ?_⟩
 unfold chgL
 rw [hL, List.map_append, List.map_cons, if_pos hi]
 have e1 : A.map (fun x => if x.idx = d.idx then d else x) = A := by
  conv => rhs; rw [← List.map_id A]
  exact List.map_congr_left fun x hx => by rw [if_neg (hA x hx)]; rfl
 have e2 : B.map (fun x => if x.idx = d.idx then d else x) = B := by
  conv => rhs; rw [← List.map_id B]
  exact List.map_congr_left fun x hx => by rw [if_neg (hB x hx)]; rfl
 rw [e1, e2]
theorem split_at {α : Type} {L : List α} {i : Nat} {o : α} (h : L[i]? = some o) : L = L.take i ++ o :: L.drop (i + 1) := by
 obtain ⟨hlt, hge⟩ := List.getElem?_eq_some_iff.1 h
 rw [← hge, List.getElem_cons_drop, List.take_append_drop]
theorem chg_set {L : List Dev} {d o : Dev} (h : WF L) {i : Nat} (hx : L[i]? = some o) (hi : o.idx = d.idx) : L.set i d = chgL L d := by
 rw [(chg_split h (split_at hx) hi).2]
 obtain ⟨hlt, hge⟩ := List.getElem?_eq_some_iff.1 hx
 rw [List.set_eq_take_append_cons_drop, if_pos hlt]
theorem chg_other {L : List Dev} {d o x : Dev} (h : WF L) {i k : Nat} (hx : L[i]? = some o) (hi : o.idx = d.idx) (hk : L[k]? = some x) (hne : k ≠ i) : x.idx ≠ d.idx := fun he => by
 have hu := h.uniq
 unfold idxs at hu
 obtain ⟨h1, h2⟩ := List.getElem?_eq_some_iff.1 hx
 obtain ⟨h3, h4⟩ := List.getElem?_eq_some_iff.1 hk
 have := (List.getElem_inj (h₀ := by rw [List.length_map]; exact h3) (h₁ := by rw [List.length_map]; exact h1) hu).1 (by rw [List.getElem_map, List.getElem_map, h2, h4, he, hi])
 exact hne this
theorem chg_VT {L : List Dev} {d : Dev} (h : VT L) (he : chgE L d = 0) : VT (chgL L d) ∧ (∀ n, orgF (chgL L d) n = orgF L n) ∧ d.idx ∈ idxs L := by
 by_cases hd : d.idx ∈ idxs L
 ·
  obtain ⟨o, ho, hi⟩ := List.mem_map.1 hd
  rw [chgE_some h.wf ho hi] at he
  split at he
  · cases he
  rename_i hc
  split at he
  ·
   rename_i hp
   split at he
   · cases he
   rename_i hcl
   obtain ⟨A, B, hL⟩ := List.append_of_mem ho
   obtain ⟨hne, hcg⟩ := chg_split h.wf hL hi
   have hs := VT.set_ (d := o) (e := d) (hL ▸ h) hi.symm hp.1.symm hp.2.1.symm (by simpa using hc) (fun t ht => by
    cases hcb : clashB t d with
    | false => rfl
    | true =>
     exfalso; apply hcl
     unfold clashesB
     refine List.any_eq_true.2 ⟨t, ?_, by rw [hcb, decide_eq_true (hne t ht)]; rfl⟩
     rw [hL]
     rcases List.mem_append.1 ht with h1 | h1
     · exact List.mem_append_left _ h1
     · exact List.mem_append_right _ (List.mem_cons_of_mem _ h1))
   rw [hcg]
   refine ⟨hs.1, fun n => ?_, hd⟩
   have := hs.2 n
   conv => rhs; rw [hL]
   exact this
  · cases he
 · rw [chgE_none hd] at he; cases he
end Go.Cold
namespace Go.Cold
open Go Go.RowKit
/-- A slice whose blocks are there and are none of N. -/
def FreeS {α : Type} [RepS α] (N : Nat → Prop) (w : World) (A : Option Addr) (c : Nat) (l : List α) : Prop := SlS w (fun x => x < w.heap.size ∧ ¬ N x) A c l
section
variable {α : Type} [RepS α] {N N' F : Nat → Prop} {w w' : World} {A : Option Addr} {c q base : Nat} {T : TypeId} {v : Value} {l : List α}
theorem FreeS.below (h : FreeS N w A c l) (hb : Below w.heap.size w w') : FreeS N w' A c l :=
 SlS.mono (fun x hx => ⟨Nat.lt_of_lt_of_le hx.1 hb.size, hx.2⟩) (fun _ _ _ _ hu => hu) (SlS.below h hb (fun x hx => hx.1))
theorem FreeS.grown (h : FreeS N w A c l) (hg : w.grownBy w' (some q)) (hq : N q ∨ w.heap.size ≤ q) : FreeS N w' A c l :=
 SlS.mono (fun x hx => ⟨Nat.lt_of_lt_of_le hx.1 hg.size, hx.2⟩) (fun b o u hb hu => hg.cell hu (fun e => by have e : b = q := Option.some.inj e; subst e; rcases hq with h1 | h1; exact hb.2 h1; have := hb.1; omega)) h
theorem FreeS.set_ (h : FreeS N w A c l) (hq : N q) (j : Nat) (v : Value) : FreeS N (w.setCell ⟨q, j, none⟩ v) A c l := h.grown (grown_one w q j v) (.inl hq)
theorem FreeS.out (h : FreeS N w A c l) : Sl w w.heap.size A c l := SlS.sl h (fun x hx => hx.1)
theorem FreeS.more (h : FreeS N w A c l) (hN : ∀ x, x < w.heap.size → N' x → N x) : FreeS N' w A c l := SlS.mono (fun x hx => ⟨hx.1, fun h1 => hx.2 (hN x hx.1 h1)⟩) (fun _ _ _ _ hu => hu) h
theorem FreeS.nil_ : FreeS N w none 0 ([] : List α) := ⟨by simp, by simp [maxLen], fun h => absurd h (by simp)⟩
theorem OwnsS.free (h : OwnsS F w base T v l) (hN : ∀ x, N x → x < base ∧ ¬ F x) : ∃ A c, v = .slice A l.length c ∧ FreeS N w A c l := by
 obtain ⟨A, c, h1, h2⟩ := h.cs
 exact ⟨A, c, h1, SlS.mono (fun x hx => ⟨hx.2, fun hn => by obtain ⟨h3, h4⟩ := hN x hn; rcases hx.1 with h5 | h5; exact h4 h5; omega⟩) (fun _ _ _ _ hu => hu) h2⟩
theorem SlS.free {S : Nat → Prop} (h : SlS w S A c l) (hS : ∀ x, S x → x < w.heap.size ∧ ¬ N x) : FreeS N w A c l := SlS.mono hS (fun _ _ _ _ hu => hu) h
theorem FreeS.lens (h : FreeS N w A c l) : l.length ≤ c ∧ c ≤ maxLen := ⟨h.1, h.2.1⟩
end
theorem below_next {a b c : World} (h : Below a.heap.size a b) (k : Below b.heap.size b c) : Below a.heap.size a c := h.trans (k.mono h.size)
theorem below_new {w w' : World} {B q j : Nat} (h : Below B w w') (hq : B ≤ q) (v : Value) : Below B w (w'.setCell ⟨q, j, none⟩ v) := h.setCell hq v
/-- A device's cells, in a block that is there. -/
def DIn (w : World) (b o : Nat) (d : Dev) (A : Option Addr) (c : Nat) : Prop := DCells w b o d A c ∧ b < w.heap.size
theorem DIn.below {w w' : World} {b o c : Nat} {d : Dev} {A : Option Addr} (h : DIn w b o d A c) (hb : Below w.heap.size w w') : DIn w' b o d A c := ⟨h.1.keep hb h.2, Nat.lt_of_lt_of_le h.2 hb.size⟩
theorem DIn.grown {w w' : World} {b o c q : Nat} {d : Dev} {A : Option Addr} (h : DIn w b o d A c) (hg : w.grownBy w' (some q)) (hq : b ≠ q) : DIn w' b o d A c := by
 obtain ⟨⟨h0, h1, h2, h3, h4, h5, h6, h7, h8, h9⟩, hlt⟩ := h
 have hc : ∀ j u, w.cell? ⟨b, j, none⟩ = some u → w'.cell? ⟨b, j, none⟩ = some u := fun j u hu => hg.cell hu (fun e => hq (Option.some.inj e))
 exact ⟨⟨hc _ _ h0, hc _ _ h1, hc _ _ h2, hc _ _ h3, hc _ _ h4, hc _ _ h5, hc _ _ h6, hc _ _ h7, hc _ _ h8, hc _ _ h9⟩, Nat.lt_of_lt_of_le hlt hg.size⟩
theorem DIn.drew {w : World} {b o c : Nat} {d : Dev} {A : Option Addr} (h : DIn w b o d A c) : DIn w.drew b o d A c := h.below (below_drewN_self w w.heap.size 1)
/-- An element of a free slice. -/
theorem FreeS.dev {N : Nat → Prop} {w : World} {A : Option Addr} {c : Nat} {xs : List Dev} (h : FreeS N w A c xs) {i : Nat} (hi : i < xs.length) :
  ∃ b o, A = some ⟨b, o, none⟩ ∧ ¬ N b ∧ ∃ A2 c2, devOk xs[i] ∧ FreeS N w A2 c2 xs[i].attrs ∧ DIn w b (o + i * 10) xs[i] A2 c2 := by
 obtain ⟨b, o, e, hb, h4⟩ := h.2.2 (by omega)
 obtain ⟨cs, h5, h6⟩ := h4 i xs[i] (List.getElem?_eq_getElem hi)
 obtain ⟨A2, c2, rfl, h1, h2⟩ := h5
 exact ⟨b, o, e, hb.2, A2, c2, h1, h2, dcells fun j u hu => by have h3 := h6 j u hu; rw [← Nat.add_assoc] at h3; exact h3, hb.1⟩
theorem Below.lift {a b : World} (h : Below a.heap.size a b) {q : Nat} : a.grownBy b (some q) := ⟨h.os, h.tape, h.output, h.size, fun k hk _ => h.block k hk⟩
end Go.Cold
