/-
  Building a tree: devices of a valid tree, inserted in any order in which parents come first, give the tree.
-/
import Derived.Test.YtehmidmoiamcfaaGreatDoorJA
import Derived.Test.YtehmidmoiamcfaaGreatDoorJG
import Derived.Test.YtehmidmoiamcfaaGreatDoorJTB
import Derived.Test.YtehmidmoiamcfaaGreatDoorJRG
import Derived.Test.YtehmidmoiamcfaaGreatDoorJD
import Derived.Test.YtehmidmoiamcfaaGreatDoorJH
import Derived.Test.YtehmidmoiamcfaaGreatDoorJSO
import Derived.Deep.RegionHeld3
import Derived.Laws.CopyRow
import Derived.Laws.IdiomCopy
import Derived.Lib.AppendZerosOnto
import Derived.Test.YtehmidmoiamcfaaGreatDoorJF
import Derived.Lib.Overlaps
import Derived.Laws.Externs
set_option linter.unusedSimpArgs false
set_option linter.unusedVariables false
namespace Go.Cold
open Go Go.RowKit
end Go.Cold
namespace Go.Cold
open Go Go.RowKit
/-- What Change answers: the error, and the tree. -/
def chgE (L : List Dev) (d : Dev) : Int :=
 match findD L d.idx with
 | none => 45
 | some o => if checkD d ≠ 0 then 41 else if o.par = d.par ∧ o.orig = d.orig ∧ o.kind = d.kind then (if clashesB L d then 44 else 0) else 42
def chgL (L : List Dev) (d : Dev) : List Dev := L.map fun x => if x.idx = d.idx then d else x
theorem chgE_none {L : List Dev} {d : Dev} (h : d.idx ∉ idxs L) : chgE L d = 45 := by unfold chgE; rw [find_none.2 h]
theorem chgE_some {L : List Dev} {d o : Dev} (h : WF L) (ho : o ∈ L) (hi : o.idx = d.idx) : chgE L d = if checkD d ≠ 0 then 41 else if o.par = d.par ∧ o.orig = d.orig ∧ o.kind = d.kind then (if clashesB L d then 44 else 0) else 42 := by
 unfold chgE
 rw [← hi, find_of h.uniq ho]
theorem chg_split {L : List Dev} {d o : Dev} (h : WF L) {A B : List Dev} (hL : L = A ++ o :: B) (hi : o.idx = d.idx) : (∀ x ∈ A ++ B, x.idx ≠ d.idx) ∧ chgL L d = A ++ d :: B := by
 have hu := h.uniq
 unfold idxs at hu
 rw [hL, List.map_append, List.map_cons] at hu
 obtain ⟨u1, u2, u3⟩ := List.pairwise_append.1 hu
 obtain ⟨u4, u5⟩ := List.pairwise_cons.1 u2
 have hA : ∀ x ∈ A, x.idx ≠ d.idx := fun x hx => by rw [← hi]; exact u3 x.idx (List.mem_map_of_mem hx) o.idx List.mem_cons_self
 have hB : ∀ x ∈ B, x.idx ≠ d.idx := fun x hx => by rw [← hi]; exact Ne.symm (u4 x.idx (List.mem_map_of_mem hx))
 refine ⟨fun x hx => (List.mem_append.1 hx).elim (hA x) (hB x), ?_⟩
 unfold chgL
 rw [hL, List.map_append, List.map_cons, if_pos hi]
 have e1 : A.map (fun x => if x.idx = d.idx then d else x) = A := by
  conv => rhs; rw [← List.map_id A]
  exact List.map_congr_left fun x hx => by rw [if_neg (hA x hx)]; rfl
 have e2 : B.map (fun x => if x.idx = d.idx then d else x) = B := by
  conv => rhs; rw [← List.map_id B]
  exact List.map_congr_left fun x hx => by rw [if_neg (hB x hx)]; rfl
 rw [e1, e2]
theorem split_at {α : Type} {L : List α} {i : Nat} {o : α} (h : L[i]? = some o) : L = L.take i ++ o :: L.drop (i + 1) := by
 obtain ⟨hlt, hge⟩ := List.getElem?_eq_some_iff.1 h
 rw [← hge, List.getElem_cons_drop, List.take_append_drop]
theorem chg_set {L : List Dev} {d o : Dev} (h : WF L) {i : Nat} (hx : L[i]? = some o) (hi : o.idx = d.idx) : L.set i d = chgL L d := by
 rw [(chg_split h (split_at hx) hi).2]
 obtain ⟨hlt, hge⟩ := List.getElem?_eq_some_iff.1 hx
 rw [List.set_eq_take_append_cons_drop, if_pos hlt]
theorem chg_VT {L : List Dev} {d : Dev} (h : VT L) (he : chgE L d = 0) : VT (chgL L d) ∧ (∀ n, orgF (chgL L d) n = orgF L n) ∧ d.idx ∈ idxs L := by
 by_cases hd : d.idx ∈ idxs L
 ·
  obtain ⟨o, ho, hi⟩ := List.mem_map.1 hd
  rw [chgE_some h.wf ho hi] at he
  split at he
  · cases he
  rename_i hc
  split at he
  ·
   rename_i hp
   split at he
   · cases he
   rename_i hcl
   obtain ⟨A, B, hL⟩ := List.append_of_mem ho
   obtain ⟨hne, hcg⟩ := chg_split h.wf hL hi
   have hs := VT.set_ (d := o) (e := d) (hL ▸ h) hi.symm hp.1.symm hp.2.1.symm (by simpa using hc) (fun t ht => by
    cases hcb : clashB t d with
    | false => rfl
    | true =>
     exfalso; apply hcl
     unfold clashesB
     refine List.any_eq_true.2 ⟨t, ?_, by rw [hcb, decide_eq_true (hne t ht)]; rfl⟩
     rw [hL]
     rcases List.mem_append.1 ht with h1 | h1
     · exact List.mem_append_left _ h1
     · exact List.mem_append_right _ (List.mem_cons_of_mem _ h1))
   rw [hcg]
   refine ⟨hs.1, fun n => ?_, hd⟩
   have := hs.2 n
   conv => rhs; rw [hL]
   exact this
  · cases he
 · rw [chgE_none hd] at he; cases he
end Go.Cold
namespace Go.Cold
open Go Go.RowKit
section
variable {α : Type} [RepS α] {N N' F : Nat → Prop} {w w' : World} {A : Option Addr} {c q base : Nat} {T : TypeId} {v : Value} {l : List α}
end
end Go.Cold
namespace Go.Cold
open Go Go.RowKit Go.Proofs.YtehmidmoiamcfaaGreatDoor
theorem comma_infix : ∀ {xs : List ByteArray} {x : ByteArray}, x ∈ xs → x.data.toList <:+: (commaB xs).data.toList
 | [], x, h => by cases h
 | [y], x, h => by
  rw [List.mem_singleton] at h
  subst h
  rw [comma_one]; exact List.infix_refl _
 | y :: z :: r, x, h => by
  rw [comma_two]
  rcases List.mem_cons.1 h with rfl | h
  · exact ⟨[], _, by rw [List.nil_append]⟩
  ·
   obtain ⟨a, b, e⟩ := comma_infix h
   exact ⟨y.data.toList ++ 44 :: a, b, by rw [← e]; simp⟩
theorem mid_infix (a b : ByteArray) (m : ByteArray) (l : List UInt8) (h : l <:+: m.data.toList) (c : ByteArray) : l <:+: (a ++ ((b ++ m) ++ c)).data.toList := by
 obtain ⟨x, y, e⟩ := h
 exact ⟨a.data.toList ++ (b.data.toList ++ x), y ++ c.data.toList, by simp only [app_data]; rw [← e]; simp⟩
theorem text_infix {c x : Cont} (hc : AllOk c) (hx : x ∈ c.inner) : (textC x).data.toList <:+: (textC c).data.toList := by
 obtain ⟨k, i, l, s, t, e, xs⟩ := c
 have hx : x ∈ xs := hx
 have hm : (textC x).data.toList <:+: (commaB (textL xs)).data.toList := comma_infix (by rw [textL_map]; exact List.mem_map_of_mem hx)
 have ho := (AllOk_mk.1 hc).1
 have h0 := kind_of_inner hc hx
 have hne : xs.length ≠ 0 := fun h => by rw [List.length_eq_zero_iff.1 h] at hx; cases hx
 simp only [ownB] at ho
 rw [if_neg h0] at ho
 simp only [Bool.and_eq_true] at ho
 replace ho := ho.2
 have h1 : k ≠ 1 := by rintro rfl; simp at ho; exact hne (by rw [ho.2.2]; rfl)
 rw [if_neg h1] at ho
 obtain ⟨X, hX⟩ : ∃ X, textC x = X := ⟨_, rfl⟩
 rw [hX] at hm ⊢
 rw [textC, if_neg h1]
 by_cases h2 : k = 2
 · rw [if_pos h2]; exact mid_infix _ _ _ _ hm _
 rw [if_neg h2] at ho ⊢
 by_cases h3 : k = 3
 · rw [if_pos h3]; exact mid_infix _ _ _ _ hm _
 rw [if_neg h3] at ho ⊢
 by_cases h4 : k = 4
 · rw [if_pos h4]; exact mid_infix _ _ _ _ hm _
 rw [if_neg h4] at ho ⊢
 by_cases h5 : k = 5
 · rw [if_pos h5]; exact mid_infix _ _ _ _ hm _
 rw [if_neg h5] at ho
 simp at ho
theorem inner_infix {s : ByteArray} {c x : Cont} (h : parseC s = some c) (hx : x ∈ c.inner) : (textC x).data.toList <:+: s.data.toList := by
 have := text_infix (AllOk_parse h).1 hx
 rw [text_parse h] at this
 exact this
/-- What is wanted is none of these contents. -/
def chgB : ByteArray := ⟨#[102, 115, 58, 99, 104, 97, 110, 103, 101, 100, 58]⟩
def hasIn (p : List UInt8) : List UInt8 → Bool
 | [] => p.isPrefixOf []
 | x :: r => p.isPrefixOf (x :: r) || hasIn p r
theorem hasIn_of {p l : List UInt8} (h : p <:+: l) : hasIn p l = true := by
 obtain ⟨a, b, rfl⟩ := h
 induction a with
 | nil =>
  have hp : p.isPrefixOf ([] ++ p ++ b) = true := by rw [List.isPrefixOf_iff_prefix]; exact ⟨b, by simp⟩
  cases hl : ([] ++ p ++ b : List UInt8) with
  | nil => rw [hl] at hp; exact hp
  | cons x r => rw [hl] at hp; unfold hasIn; rw [hp]; rfl
 | cons x a ih => rw [List.cons_append, List.cons_append]; unfold hasIn; rw [ih, Bool.or_true]
theorem contM_has : ∀ s ∈ contM, hasIn chgB.data.toList s.data.toList = false := by decide +kernel
theorem contM_chg (s : ByteArray) (hs : s ∈ contM) : ¬ chgB.data.toList <:+: s.data.toList := fun h => by
 have h1 := hasIn_of h
 rw [contM_has s hs] at h1
 cases h1
theorem contM_zero : (⟨#[]⟩ : ByteArray) ∈ contM := List.mem_cons_self
theorem att_cont {d : Dev} (h : attM d.attrs) : contD d ∈ contM := by
 unfold contD
 rcases h with h | ⟨c, hc, h⟩
 · rw [h]; exact contM_zero
 · rw [h, getA, if_pos (show nmCont = nmContent from rfl)]; exact hc
/-- A device is a partition that its parent wants. -/
noncomputable def rightB (L : List Dev) (n : Int) : Bool := decide (partO L n ≠ 0) && rightR (wantsD ((findD L ((findD L n).getD zeroD).par).getD zeroD) ByteArray.empty 0) ((findD L n).getD zeroD).orig (contD ((findD L n).getD zeroD))
theorem wantsD_nodup (d : Dev) (o : ByteArray) (r : Int) : ((wantsD d o r).map (·.orig)).Nodup := by
 unfold wantsD
 split
 · exact wants_nodup _ _ _ _ _
 · simp
/-- The contents that a device wants stand in its own. -/
theorem wants_in {d : Dev} {o : ByteArray} {r : Int} {v : Virt} (h : v ∈ wantsD d o r) : v.cont.data.toList <:+: (contD d).data.toList := by
 unfold wantsD at h
 split at h
 ·
  obtain ⟨j, -, -, -, -, h5⟩ := wants_mem h
  have hm := List.mem_of_getElem? h5
  change v.cont ∈ innerG (contD d) 5 at hm
  cases hp : parseC (contD d) with
  | none => rw [(innerG_none hp).1] at hm; cases hm
  | some c =>
   by_cases hk : c.kind = 5
   ·
    rw [(innerG_some hp hk).1, textL_map] at hm
    obtain ⟨x, hx, hv⟩ := List.mem_map.1 hm
    rw [← hv]
    exact inner_infix hp hx
   · rw [(innerG_kind hp hk).1] at hm; cases hm
 · cases h
/-- Whose content is changed is wanted no more. -/
theorem right_changed {L : List Dev} {n : Int} (hd : contD ((findD L n).getD zeroD) = chgB) (hp : contD ((findD L ((findD L n).getD zeroD).par).getD zeroD) ∈ contM) : rightB L n = false := by
 unfold rightB
 rw [Bool.and_eq_false_iff]
 right
 unfold rightR
 rw [List.any_eq_false]
 intro v hv
 rw [hd]
 have h1 := wants_in hv
 intro h
 simp only [Bool.and_eq_true, decide_eq_true_eq] at h
 rw [h.2] at h1
 exact contM_chg _ hp h1
theorem right_kind {L : List Dev} {n : Int} (h : rightB L n = true) : ((findD L n).getD zeroD).kind = 2 := by
 unfold rightB at h
 simp only [Bool.and_eq_true, decide_eq_true_eq] at h
 have h1 := h.1
 unfold partO at h1
 cases hf : findD L n with
 | none => rw [hf] at h1; exact absurd rfl h1
 | some d =>
  rw [hf] at h1
  simp only at h1
  cases hg : findD L d.par with
  | none => rw [hg] at h1; exact absurd rfl h1
  | some p =>
   rw [hg] at h1
   simp only at h1
   by_cases hk : d.kind = 2 ∧ p.kind = 2
   · exact hk.1
   · rw [if_neg hk] at h1; exact absurd rfl h1
end Go.Cold
namespace Go.Cold
open Go Go.RowKit Go.Proofs.YtehmidmoiamcfaaGreatDoor
end Go.Cold
namespace Go.Cold
open Go Go.RowKit Go.Proofs.YtehmidmoiamcfaaGreatDoor
def setsA (d : Dev) (l : List Attr) : Dev := { d with attrs := l }
theorem find_chg {L : List Dev} {d : Dev} (n : Int) : findD (chgL L d) n = (findD L n).map fun x => if x.idx = d.idx then d else x := by
 unfold findD chgL
 rw [List.find?_map]
 congr 2
 funext x
 have hi : (if x.idx = d.idx then d else x).idx = x.idx := by
  by_cases h : x.idx = d.idx
  · rw [if_pos h, h]
  · rw [if_neg h]
 simp only [Function.comp, hi]
theorem clash_any_of {L : List Dev} (h : L.Pairwise fun a b => clashB a b = false) : ∀ {a b : Dev}, a ∈ L → b ∈ L → a ≠ b → clashB a b = false := by
 induction L with
 | nil => intro a b ha; cases ha
 | cons x r ih =>
  rw [List.pairwise_cons] at h
  intro a b ha hb hne
  rcases List.mem_cons.1 ha with h1 | h1 <;> rcases List.mem_cons.1 hb with h2 | h2
  · exact absurd (h1.trans h2.symm) hne
  · rw [h1]; exact h.1 b h2
  · rw [clash_comm, h2]; exact h.1 a h1
  · exact ih h.2 h1 h2 hne
/-- Other attributes that may be: nothing stands against them. -/
theorem chg_attrs {L : List Dev} {d : Dev} {l : List Attr} (h : VT L) (hd : d ∈ L) (h1 : l.length ≤ 24) (h2 : attrsB l = true) : chgE L (setsA d l) = 0 := by
 rw [chgE_some h.wf hd (show d.idx = (setsA d l).idx from rfl)]
 have hc := h.chk d hd
 have hc2 : checkD (setsA d l) = 0 := by
  rw [checkD_eq] at hc ⊢
  split at hc
  case isFalse => cases hc
  rename_i q1
  split at hc
  case isFalse => cases hc
  rename_i q2
  split at hc
  case isFalse => cases hc
  rename_i q3
  split at hc
  case isFalse => cases hc
  rename_i q4
  split at hc
  case isFalse => cases hc
  split at hc
  case isFalse => cases hc
  split at hc
  case isFalse => cases hc
  rename_i q7
  rw [if_pos (show rangeB (setsA d l) = true from q1), if_pos (show namedB (setsA d l) = true from q2), if_pos (show kindB (setsA d l) = true from q3), if_pos (show numberB (setsA d l) = true from q4), if_pos (show (setsA d l).attrs.length ≤ 24 from h1), if_pos (show attrsB (setsA d l).attrs = true from h2), if_pos (show linkD (setsA d l) = true from q7)]
 rw [if_neg (by rw [hc2]; simp), if_pos ⟨rfl, rfl, rfl⟩, if_neg]
 intro hb
 unfold clashesB at hb
 rw [List.any_eq_true] at hb
 obtain ⟨t, ht, hb⟩ := hb
 rw [Bool.and_eq_true, decide_eq_true_eq] at hb
 have : clashB t d = false := clash_any_of h.clash ht hd (fun e => hb.1 (by rw [e]; rfl))
 have h3 : clashB t (setsA d l) = false := this
 rw [h3] at hb
 exact absurd hb.2 (by simp)
def chgA : List Attr := [⟨⟨#[99, 111, 110, 116, 101, 110, 116]⟩, chgB⟩]
theorem chgA_ok : chgA.length ≤ 24 ∧ attrsB chgA = true := ⟨by decide, by decide +kernel⟩
theorem chg_right {L : List Dev} {m : Int} {d : Dev} (h : VT L) (hm : MadeL m L) (hd : d ∈ L) : rightB (chgL L (setsA d chgA)) d.idx = false ∧ (findD (chgL L (setsA d chgA)) d.idx).isSome = true := by
 have hf := find_of h.wf.uniq hd
 have hs : findD (chgL L (setsA d chgA)) d.idx = some (setsA d chgA) := by
  rw [find_chg, hf]
  show some (if d.idx = d.idx then setsA d chgA else d) = _
  rw [if_pos rfl]
 refine ⟨right_changed ?_ ?_, by rw [hs]; rfl⟩
 · rw [hs]; rfl
 ·
  rw [hs]
  show contD ((findD (chgL L (setsA d chgA)) d.par).getD zeroD) ∈ contM
  have hne : d.par ≠ d.idx := (check_range (h.chk d hd)).2.2.2.2
  rw [find_chg]
  cases hp : findD L d.par with
  | none => exact contM_zero
  | some p =>
   obtain ⟨h1, h2⟩ := find_some hp
   show contD (if p.idx = d.idx then setsA d chgA else p) ∈ contM
   rw [if_neg (by rw [h2]; exact hne)]
   exact att_cont (hm p h1).2.2
theorem right_kind_of {L : List Dev} (h : WF L) {d : Dev} (hd : d ∈ L) (hr : rightB L d.idx = true) : d.kind = 2 := by
 have := right_kind hr
 rw [find_of h.uniq hd] at this
 exact this
theorem chgX_at {L : List Dev} {d : Dev} (h : VT L) (hd : d ∈ L) : chgE L (setsA d chgA) = 0 := chg_attrs h hd chgA_ok.1 chgA_ok.2
end Go.Cold
namespace Go.Cold
open Go Go.RowKit Go.Proofs.YtehmidmoiamcfaaGreatDoor
end Go.Cold
namespace Go.Cold
open Go Go.RowKit Go.Proofs.YtehmidmoiamcfaaGreatDoor
theorem ok7_a {w : World} (h : Ok7 w) : OkA w := ⟨h.1, h.2.1⟩
theorem rightP_yes {xs : List Virt} {k : Nat} {y : Virt} {o t : ByteArray} (hlt : k < xs.length) (hy : xs[k] = y) (h : y.orig = o) : rightP (xs.drop k) o t = decide (y.cont = t) := by
 rw [List.drop_eq_getElem_cons hlt, hy]
 unfold rightP
 rw [List.find?_cons_of_pos (by simpa using h)]
theorem rightP_no {xs : List Virt} {k : Nat} {y : Virt} {o t : ByteArray} (hlt : k < xs.length) (hy : xs[k] = y) (h : y.orig ≠ o) : rightP (xs.drop k) o t = rightP (xs.drop (k + 1)) o t := by
 rw [List.drop_eq_getElem_cons hlt, hy]
 unfold rightP
 rw [List.find?_cons_of_neg (by simpa using h)]
theorem right_zero {L : List Dev} {n : Int} (h : partO L n = 0) : rightB L n = false := by unfold rightB; rw [h]; rfl
theorem right_of {L : List Dev} {n : Int} {d p : Dev} {V : List Virt} (h : partO L n ≠ 0) (hd : d = (findD L n).getD zeroD) (hp : p = (findD L d.par).getD zeroD) (hV : wantsD p ByteArray.empty 0 = V) : rightB L n = rightR V d.orig (contD d) := by
 unfold rightB
 rw [decide_eq_true h, ← hd, ← hp, hV, Bool.true_and]
theorem right_ofP {L : List Dev} {n : Int} {d p : Dev} {V : List Virt} (h : partO L n ≠ 0) (hd : d = (findD L n).getD zeroD) (hp : p = (findD L d.par).getD zeroD) (hV : wantsD p ByteArray.empty 0 = V) : rightB L n = rightP V d.orig (contD d) := by
 rw [right_of h hd hp hV, right_same]
 rw [← hV]
 exact wantsD_nodup _ _ _
end Go.Cold
namespace Go.Proofs.YtehmidmoiamcfaaGreatDoor
open Go.RowKit Go.Cold
set_option maxRecDepth 100000 in
set_option maxHeartbeats 4000000 in
/-- partition.Right. -/
theorem PRight_any (A : Option Addr) (c : Nat) (L : List Dev) (n : Int) (w : World) (B : Nat) (hB : B ≤ w.heap.size) (hx : Sl w B A c L) (hv : VT L) (hok : Ok7 w) :
  Calls Tryz.prog 27 #[.agg #[.slice A L.length c], .int .i64 n] w fun e w' => e = .returned (.bool (rightB L n)) ∧ Below w.heap.size w w' := by
 have hx1 := hx.1; have hx2 := hx.2.1
 unfold maxLen at hx2
 have HX := Lib.hid hx; have HB := Lib.hid hB; have HV := Lib.hid hv; have HOK := Lib.hid hok; clear hx hB hv hok
 have HLA := Lib.hid (show ∀ d ∈ L, d.attrs.length ≤ 1000000 from fun d hd => attrs_le (HV.out.chk d hd))
 go_enter Tryz.func27, Tryz.ntmps27
 go_upto_region 1 with fail
 obtain ⟨w1, hw1⟩ : ∃ w1, w.alloc (.cells #[.slice A L.length c] 57) = w1 := ⟨_, rfl⟩
 have hbw1 : Below w.heap.size w w1 := by rw [← hw1]; exact (Below.refl _ _).alloc (Nat.le_refl _) _
 have HGw1 := Lib.hid (show w1.heap.size = w.heap.size + 1 by rw [← hw1]; simp)
 have HXtw1 := Lib.hid (show BoxL w1 w.heap.size [.slice A L.length c] from box_mk hw1)
 try simp only [hw1]
 have HBw1 := Lib.hid hbw1
 clear hw1 hbw1
 try rw [show w.heap.size + 1 = w1.heap.size from HGw1.out.symm]
 have ct0 := HXtw1.out.1 0 _ rfl
 go_wp2_with fail
 refine (TFind_any A c L (n) _ B (Nat.le_trans HB.out HBw1.out.size) (HX.out.keep (HBw1.out.mono HB.out)) HLA.out).mono ?_
 rintro e w2 ⟨hbw2, d, A3, c3, hd, rfl, hod, hsd⟩
 clear ct0
 have HBw2 := Lib.hid (HBw1.out.trans (hbw2.mono HBw1.out.size))
 have tw2 := Lib.hid (HXtw1.out.kept (grown_none hbw2) (fun e => by cases e))
 clear hbw2
 have ct0 := tw2.out.1 0 _ rfl
 have Hd := Lib.hid (show d = (findD L (n)).getD zeroD from hd); have HOd := Lib.hid hod
 have HSd := Lib.hid (show Sl w2 w2.heap.size A3 c3 d.attrs from hsd.sl (fun x hx => hx.2))
 clear hd hod hsd
 obtain ⟨qd, hqd⟩ : ∃ q, (L.find? (byIdx (n))).isSome = q := ⟨_, rfl⟩
 rw [hqd]
 clear hqd
 go_upto_region 2 with fail
 obtain ⟨w3, hw3⟩ : ∃ w3, w2.alloc (.cells #[.int .i64 d.idx, .int .i64 d.par, .string d.nm, .string d.orig, .string d.sub, .string d.drv, .string d.ali, .int .i64 d.kind, .int .i64 d.num, .slice A3 d.attrs.length c3] 43) = w3 := ⟨_, rfl⟩
 have hbw3 : Below w2.heap.size w2 w3 := by rw [← hw3]; exact (Below.refl _ _).alloc (Nat.le_refl _) _
 have HGw3 := Lib.hid (show w3.heap.size = w2.heap.size + 1 by rw [← hw3]; simp)
 have HXaw3 := Lib.hid (show BoxL w3 w2.heap.size [.int .i64 d.idx, .int .i64 d.par, .string d.nm, .string d.orig, .string d.sub, .string d.drv, .string d.ali, .int .i64 d.kind, .int .i64 d.num, .slice A3 d.attrs.length c3] from box_mk hw3)
 try simp only [hw3]
 have HBw3 := Lib.hid (HBw2.out.trans (hbw3.mono HBw2.out.size))
 have tw3 := Lib.hid (tw2.out.kept (grown_none hbw3) (fun e => by cases e))
 have HSdw3 := Lib.hid ((HSd.out).next (Nat.le_refl _) hbw3)
 clear hw3 hbw3
 try rw [show w2.heap.size + 1 = w3.heap.size from HGw3.out.symm]
 clear ct0
 have ct0 := tw3.out.1 0 _ rfl
 have ca0 := HXaw3.out.1 0 _ rfl
 have ca1 := HXaw3.out.1 1 _ rfl
 have ca2 := HXaw3.out.1 2 _ rfl
 have ca3 := HXaw3.out.1 3 _ rfl
 have ca4 := HXaw3.out.1 4 _ rfl
 have ca5 := HXaw3.out.1 5 _ rfl
 have ca6 := HXaw3.out.1 6 _ rfl
 have ca7 := HXaw3.out.1 7 _ rfl
 have ca8 := HXaw3.out.1 8 _ rfl
 have ca9 := HXaw3.out.1 9 _ rfl
 go_wp2_with fail
 refine (TFind_any A c L (d.par) _ B (Nat.le_trans HB.out HBw3.out.size) (HX.out.keep (HBw3.out.mono HB.out)) HLA.out).mono ?_
 rintro e w4 ⟨hbw4, p, A4, c4, hp, rfl, hop, hsp⟩
 clear ct0 ca0 ca1 ca2 ca3 ca4 ca5 ca6 ca7 ca8 ca9
 have HBw4 := Lib.hid (HBw3.out.trans (hbw4.mono HBw3.out.size))
 have tw4 := Lib.hid (tw3.out.kept (grown_none hbw4) (fun e => by cases e))
 have aw4 := Lib.hid (HXaw3.out.kept (grown_none hbw4) (fun e => by cases e))
 have HSdw4 := Lib.hid ((HSdw3.out).next (Nat.le_refl _) hbw4)
 clear hbw4
 have ct0 := tw4.out.1 0 _ rfl
 have ca0 := aw4.out.1 0 _ rfl
 have ca1 := aw4.out.1 1 _ rfl
 have ca2 := aw4.out.1 2 _ rfl
 have ca3 := aw4.out.1 3 _ rfl
 have ca4 := aw4.out.1 4 _ rfl
 have ca5 := aw4.out.1 5 _ rfl
 have ca6 := aw4.out.1 6 _ rfl
 have ca7 := aw4.out.1 7 _ rfl
 have ca8 := aw4.out.1 8 _ rfl
 have ca9 := aw4.out.1 9 _ rfl
 have Hp := Lib.hid (show p = (findD L (d.par)).getD zeroD from hp); have HOp := Lib.hid hop
 have HSp := Lib.hid (show Sl w4 w4.heap.size A4 c4 p.attrs from hsp.sl (fun x hx => hx.2))
 clear hp hop hsp
 obtain ⟨qp, hqp⟩ : ∃ q, (L.find? (byIdx (d.par))).isSome = q := ⟨_, rfl⟩
 rw [hqp]
 clear hqp
 go_upto_region 3 with fail
 obtain ⟨w5, hw5⟩ : ∃ w5, w4.alloc (.cells #[.int .i64 p.idx, .int .i64 p.par, .string p.nm, .string p.orig, .string p.sub, .string p.drv, .string p.ali, .int .i64 p.kind, .int .i64 p.num, .slice A4 p.attrs.length c4] 43) = w5 := ⟨_, rfl⟩
 have hbw5 : Below w4.heap.size w4 w5 := by rw [← hw5]; exact (Below.refl _ _).alloc (Nat.le_refl _) _
 have HGw5 := Lib.hid (show w5.heap.size = w4.heap.size + 1 by rw [← hw5]; simp)
 have HXbw5 := Lib.hid (show BoxL w5 w4.heap.size [.int .i64 p.idx, .int .i64 p.par, .string p.nm, .string p.orig, .string p.sub, .string p.drv, .string p.ali, .int .i64 p.kind, .int .i64 p.num, .slice A4 p.attrs.length c4] from box_mk hw5)
 try simp only [hw5]
 have HBw5 := Lib.hid (HBw4.out.trans (hbw5.mono HBw4.out.size))
 have tw5 := Lib.hid (tw4.out.kept (grown_none hbw5) (fun e => by cases e))
 have aw5 := Lib.hid (aw4.out.kept (grown_none hbw5) (fun e => by cases e))
 have HSdw5 := Lib.hid ((HSdw4.out).next (Nat.le_refl _) hbw5)
 have HSpw5 := Lib.hid ((HSp.out).next (Nat.le_refl _) hbw5)
 clear hw5 hbw5
 try rw [show w4.heap.size + 1 = w5.heap.size from HGw5.out.symm]
 clear ct0 ca0 ca1 ca2 ca3 ca4 ca5 ca6 ca7 ca8 ca9
 have ct0 := tw5.out.1 0 _ rfl
 have ca0 := aw5.out.1 0 _ rfl
 have ca1 := aw5.out.1 1 _ rfl
 have ca2 := aw5.out.1 2 _ rfl
 have ca3 := aw5.out.1 3 _ rfl
 have ca4 := aw5.out.1 4 _ rfl
 have ca5 := aw5.out.1 5 _ rfl
 have ca6 := aw5.out.1 6 _ rfl
 have ca7 := aw5.out.1 7 _ rfl
 have ca8 := aw5.out.1 8 _ rfl
 have ca9 := aw5.out.1 9 _ rfl
 have cb0 := HXbw5.out.1 0 _ rfl
 have cb1 := HXbw5.out.1 1 _ rfl
 have cb2 := HXbw5.out.1 2 _ rfl
 have cb3 := HXbw5.out.1 3 _ rfl
 have cb4 := HXbw5.out.1 4 _ rfl
 have cb5 := HXbw5.out.1 5 _ rfl
 have cb6 := HXbw5.out.1 6 _ rfl
 have cb7 := HXbw5.out.1 7 _ rfl
 have cb8 := HXbw5.out.1 8 _ rfl
 have cb9 := HXbw5.out.1 9 _ rfl
 go_wp2_with fail
 refine (Partition_any A c L n _ B (Nat.le_trans HB.out HBw5.out.size) (HX.out.keep (HBw5.out.mono HB.out)) HV.out (ok7_a (HOK.out.below HBw5.out))).mono ?_
 rintro e w9 ⟨rfl, hb_⟩
 clear ct0 ca0 ca1 ca2 ca3 ca4 ca5 ca6 ca7 ca8 ca9 cb0 cb1 cb2 cb3 cb4 cb5 cb6 cb7 cb8 cb9
 have HBw9 := Lib.hid (HBw5.out.trans (hb_.mono HBw5.out.size))
 have tw9 := Lib.hid (tw5.out.kept (grown_none hb_) (fun e => by cases e))
 have aw9 := Lib.hid (aw5.out.kept (grown_none hb_) (fun e => by cases e))
 have bw9 := Lib.hid (HXbw5.out.kept (grown_none hb_) (fun e => by cases e))
 have HSdw9 := Lib.hid ((HSdw5.out).next (Nat.le_refl _) hb_)
 have HSpw9 := Lib.hid ((HSpw5.out).next (Nat.le_refl _) hb_)
 clear hb_
 by_cases h0 : partO L n = 0
 ·
  have HR := Lib.hid (right_zero h0)
  rw [h0]
  clear h0
  go_wp2
  go_ret
  exact ⟨by rw [HR.out]; rfl, HBw9.out⟩
 ·
  have hd0 : decide (partO L n ≠ 0) = true := decide_eq_true h0
  rw [hd0]
  obtain ⟨z0, hz0⟩ : ∃ z, (partO L n : Int) = z := ⟨_, rfl⟩
  rw [hz0]
  have HP0 := Lib.hid h0; clear h0 hd0 hz0
  have HSP := Lib.hid (show p.orig.size ≤ maxLen - 30 by have := findD_small HV.out d.par; rw [← Hp.out] at this; unfold maxLen; omega)
  have ct0 := tw9.out.1 0 _ rfl
  have ca0 := aw9.out.1 0 _ rfl
  have ca1 := aw9.out.1 1 _ rfl
  have ca2 := aw9.out.1 2 _ rfl
  have ca3 := aw9.out.1 3 _ rfl
  have ca4 := aw9.out.1 4 _ rfl
  have ca5 := aw9.out.1 5 _ rfl
  have ca6 := aw9.out.1 6 _ rfl
  have ca7 := aw9.out.1 7 _ rfl
  have ca8 := aw9.out.1 8 _ rfl
  have ca9 := aw9.out.1 9 _ rfl
  have cb0 := bw9.out.1 0 _ rfl
  have cb1 := bw9.out.1 1 _ rfl
  have cb2 := bw9.out.1 2 _ rfl
  have cb3 := bw9.out.1 3 _ rfl
  have cb4 := bw9.out.1 4 _ rfl
  have cb5 := bw9.out.1 5 _ rfl
  have cb6 := bw9.out.1 6 _ rfl
  have cb7 := bw9.out.1 7 _ rfl
  have cb8 := bw9.out.1 8 _ rfl
  have cb9 := bw9.out.1 9 _ rfl
  go_wp2_with fail
  refine (Get_any A3 c3 d.attrs ⟨#[99, 111, 110, 116, 101, 110, 116]⟩ _ w9.heap.size (Nat.le_refl _) HSdw9.out).mono ?_
  rintro e wt ⟨rfl, hbwt⟩
  clear ct0 ca0 ca1 ca2 ca3 ca4 ca5 ca6 ca7 ca8 ca9 cb0 cb1 cb2 cb3 cb4 cb5 cb6 cb7 cb8 cb9
  have HBwt := Lib.hid (HBw9.out.trans (hbwt.mono HBw9.out.size))
  have twt := Lib.hid (tw9.out.kept (grown_none hbwt) (fun e => by cases e))
  have awt := Lib.hid (aw9.out.kept (grown_none hbwt) (fun e => by cases e))
  have bwt := Lib.hid (bw9.out.kept (grown_none hbwt) (fun e => by cases e))
  have HSdwt := Lib.hid ((HSdw9.out).next (Nat.le_refl _) hbwt)
  have HSpwt := Lib.hid ((HSpw9.out).next (Nat.le_refl _) hbwt)
  clear hbwt
  have ct0 := twt.out.1 0 _ rfl
  have ca0 := awt.out.1 0 _ rfl
  have ca1 := awt.out.1 1 _ rfl
  have ca2 := awt.out.1 2 _ rfl
  have ca3 := awt.out.1 3 _ rfl
  have ca4 := awt.out.1 4 _ rfl
  have ca5 := awt.out.1 5 _ rfl
  have ca6 := awt.out.1 6 _ rfl
  have ca7 := awt.out.1 7 _ rfl
  have ca8 := awt.out.1 8 _ rfl
  have ca9 := awt.out.1 9 _ rfl
  have cb0 := bwt.out.1 0 _ rfl
  have cb1 := bwt.out.1 1 _ rfl
  have cb2 := bwt.out.1 2 _ rfl
  have cb3 := bwt.out.1 3 _ rfl
  have cb4 := bwt.out.1 4 _ rfl
  have cb5 := bwt.out.1 5 _ rfl
  have cb6 := bwt.out.1 6 _ rfl
  have cb7 := bwt.out.1 7 _ rfl
  have cb8 := bwt.out.1 8 _ rfl
  have cb9 := bwt.out.1 9 _ rfl
  obtain ⟨t, ht⟩ : ∃ z, contD d = z := ⟨_, rfl⟩
  rw [show (getA d.attrs ⟨#[99, 111, 110, 116, 101, 110, 116]⟩).getD ByteArray.empty = t from ht]
  have HT := Lib.hid ht; clear ht
  go_wp2_with fail
  refine (Wants_any A4 c4 p ⟨#[]⟩ 0 _ wt.heap.size (Nat.le_refl _) HSpwt.out (HOK.out.below HBwt.out) HSP.out (by show (0 : Nat) ≤ maxLen; omega) (by unfold okI; omega)).mono ?_
  rintro e wv ⟨hb_, v_, rfl, hown_⟩
  obtain ⟨V, hV⟩ : ∃ z, wantsD p ByteArray.empty 0 = z := ⟨_, rfl⟩
  rw [show wantsD p ⟨#[]⟩ 0 = V from hV] at hown_
  obtain ⟨A8, c8, rfl, hs_⟩ := hown_.sl
  clear ct0 ca0 ca1 ca2 ca3 ca4 ca5 ca6 ca7 ca8 ca9 cb0 cb1 cb2 cb3 cb4 cb5 cb6 cb7 cb8 cb9
  have HBwv := Lib.hid (HBwt.out.trans (hb_.mono HBwt.out.size))
  have twv := Lib.hid (twt.out.kept (grown_none hb_) (fun e => by cases e))
  have awv := Lib.hid (awt.out.kept (grown_none hb_) (fun e => by cases e))
  have bwv := Lib.hid (bwt.out.kept (grown_none hb_) (fun e => by cases e))
  have HSdwv := Lib.hid ((HSdwt.out).next (Nat.le_refl _) hb_)
  have HSpwv := Lib.hid ((HSpwt.out).next (Nat.le_refl _) hb_)
  have HVV := Lib.hid hs_; have HVE := Lib.hid hV; clear hs_ hV hown_ hb_
  have hl0 := HVV.out.1; have hl1 := HVV.out.2.1
  unfold maxLen at hl1
  have HRT := Lib.hid (show rightB L n = rightP V d.orig t by rw [← HT.out]; exact right_ofP HP0.out Hd.out Hp.out HVE.out)
  go_wp2_with fail
  go_loopw [45] (fun i wr => ∃ k : Nat, k ≤ V.length ∧ i = .int .i64 (k : Int) ∧ Hid (Below wv.heap.size wv wr) ∧ Hid (rightP V d.orig t = rightP (V.drop k) d.orig t)) (fun i _ => V.length - (intOf i).toNat)
  case atStart => exact ⟨0, Nat.zero_le _, rfl, Below.refl _ _, rfl⟩
  case round =>
   obtain ⟨k, hk, rfl, HBR, HA⟩ := hrel
   have HBwr := Lib.hid (HBwv.out.trans (HBR.out.mono HBwv.out.size)); have awr := Lib.hid (awv.out.kept (grown_none HBR.out) (fun e => by cases e))
   by_cases hlt : k < V.length
   ·
    have i1 : (k : Int) < (V.length : Int) := by omega
    obtain ⟨b, o, rfl, -, -, a0, a1, a2, a3⟩ := (HVV.out.next (Nat.le_refl _) HBR.out).virt hlt
    obtain ⟨y, hy⟩ : ∃ y, V[k]'hlt = y := ⟨_, rfl⟩
    rw [hy] at a0 a1 a2 a3
    have HY := Lib.hid hy; have HLT := Lib.hid hlt; clear hy
    go_upto_region 10 with fail
    obtain ⟨w6, hw6⟩ : ∃ w6, wr.alloc (.cells #[.string y.par, .string y.orig, .string y.cont, .int .i64 y.round] 46) = w6 := ⟨_, rfl⟩
    have hbw6 : Below wr.heap.size wr w6 := by rw [← hw6]; exact (Below.refl _ _).alloc (Nat.le_refl _) _
    have HGw6 := Lib.hid (show w6.heap.size = wr.heap.size + 1 by rw [← hw6]; simp)
    have HXvw6 := Lib.hid (show BoxL w6 wr.heap.size [.string y.par, .string y.orig, .string y.cont, .int .i64 y.round] from box_mk hw6)
    try simp only [hw6]
    have HBw6 := Lib.hid (HBwr.out.trans (hbw6.mono HBwr.out.size))
    have aw6 := Lib.hid (awr.out.kept (grown_none hbw6) (fun e => by cases e))
    have HBRw6 := Lib.hid (below_more HBR.out hbw6)
    clear hw6 hbw6
    try rw [show wr.heap.size + 1 = w6.heap.size from HGw6.out.symm]
    clear a0 a1 a2 a3
    have ca3 := aw6.out.1 3 _ rfl
    have cv1 := HXvw6.out.1 1 _ rfl
    have cv2 := HXvw6.out.1 2 _ rfl
    by_cases hn : y.orig = d.orig
    ·
     have p1 : (y.orig.toList == d.orig.toList) = true := by rw [ba_beq]; exact decide_eq_true hn
     have p2 : (y.cont.toList == t.toList) = decide (y.cont = t) := ba_beq _ _
     obtain ⟨z, hz⟩ : ∃ z, decide (y.cont = t) = z := ⟨_, rfl⟩
     rw [hz] at p2
     have HG := Lib.hid (show rightB L n = z by rw [HRT.out, HA.out, rightP_yes HLT.out HY.out hn, hz]); clear hn hz
     go_wp2
     go_ret
     exact ⟨by rw [HG.out]; rfl, HBw6.out⟩
    ·
     have p1 : (y.orig.toList == d.orig.toList) = false := by rw [ba_beq]; exact decide_eq_false hn
     have HG := Lib.hid (show rightP V d.orig t = rightP (V.drop (k + 1)) d.orig t by rw [HA.out]; exact rightP_no HLT.out HY.out hn); clear hn
     go_wp2
     go_roundw
     case rel => exact ⟨k + 1, by have := HLT.out; omega, by go_num, HBRw6, HG⟩
     case measure => have := HLT.out; simp [intOf]; omega
   ·
    have i1 : ¬ (k : Int) < (V.length : Int) := by omega
    have HG := Lib.hid (show rightB L n = false by rw [HRT.out, HA.out, show k = V.length by omega, List.drop_length]; rfl)
    go_wp2
    go_ret
    exact ⟨by rw [HG.out]; rfl, HBwr.out⟩
end Go.Proofs.YtehmidmoiamcfaaGreatDoor
namespace Go.Cold
open Go Go.RowKit
section
variable {α : Type} [RepS α] {F : Nat → Prop} {w w' : World} {base : Nat} {T : TypeId} {v : Value} {xs : List α}
/-- The parts of a gathered list that is not nil. -/
structure RowIn (F : Nat → Prop) (w : World) (base : Nat) (T : TypeId) (g cap : Nat) (xs : List α) (cur : Array Value) (css : List (List Value)) : Prop where
 lo : base ≤ g
 heap : w.heap[g]? = some (.cells cur T (0, 0))
 le : xs.length ≤ cap
 lim : cap ≤ maxLen
 size : cur.size = cap * Rep.size α
 len : css.length = xs.length
 rd : ∀ (i : Nat) (x : α) (cs : List Value), xs[i]? = some x → css[i]? = some cs → RepS.rdS w (fun b => F b ∧ b < w.heap.size ∧ b ≠ g) x cs
 row : cur.toList.take (xs.length * Rep.size α) = css.flatten
theorem OwnsS.opened (h : OwnsS F w base T v xs) : (v = .slice none 0 0 ∧ xs = []) ∨ ∃ g cap cur css, v = .slice (some ⟨g, 0, none⟩) xs.length cap ∧ RowIn F w base T g cap xs cur css := by
 obtain ⟨css, ⟨h1, h2⟩, h3, h4⟩ := h
 rcases h2 with ⟨rfl, h0⟩ | ⟨g, cap, cur, rfl, q1, q2, q3, q4, q5, q6⟩
 · exact .inl ⟨rfl, List.eq_nil_of_length_eq_zero h0⟩
 · exact .inr ⟨g, cap, cur, css, rfl, q1, q2, q3, q4, q5, h3, fun i x cs hx hcs => RepS.mono (fun b hb => ⟨hb.1, hb.2.1, fun e => hb.2.2 (by rw [e]; rfl)⟩) (fun _ _ _ _ hu => hu) (h4 i x cs hx hcs), q6⟩
theorem flat_size {w : World} {S : Nat → Prop} {xs : List α} {css : List (List Value)} (h : css.length = xs.length) (hr : ∀ (i : Nat) (x : α) (cs : List Value), xs[i]? = some x → css[i]? = some cs → RepS.rdS w S x cs) : css.flatten.length = xs.length * Rep.size α := (flat_len h hr).1
theorem RowIn.owns {g cap : Nat} {cur : Array Value} {css : List (List Value)} (h : RowIn F w base T g cap xs cur css) : OwnsS F w base T (.slice (some ⟨g, 0, none⟩) xs.length cap) xs := by
 refine ⟨css, ⟨flat_size h.len h.rd, .inr ⟨g, cap, cur, rfl, h.lo, h.heap, h.le, h.lim, h.size, h.row⟩⟩, h.len, fun i x cs hx hcs => RepS.mono (fun b hb => ⟨hb.1, hb.2.1, fun e => hb.2.2 (by injection e with e; exact e.symm)⟩) (fun _ _ _ _ hu => hu) (h.rd i x cs hx hcs)⟩
theorem row_css {S : Nat → Prop} {css : List (List Value)} (h : css.length = xs.length) (hr : ∀ (i : Nat) (x : α) (cs : List Value), xs[i]? = some x → css[i]? = some cs → RepS.rdS w S x cs) : ∀ cs ∈ css, cs.length = Rep.size α := fun cs hcs => by
 obtain ⟨i, hi, rfl⟩ := List.getElem_of_mem hcs
 exact RepS.lenS (hr i xs[i] css[i] (List.getElem?_eq_getElem (by omega)) (List.getElem?_eq_getElem hi))
theorem flat_take {n : Nat} : ∀ {css : List (List Value)} (k : Nat), (∀ cs ∈ css, cs.length = n) → css.flatten.take (k * n) = (css.take k).flatten ∧ css.flatten.drop (k * n) = (css.drop k).flatten
 | [], k, _ => by simp
 | c :: r, 0, _ => by simp
 | c :: r, k + 1, h => by
  have hc := h c List.mem_cons_self
  obtain ⟨h1, h2⟩ := flat_take (css := r) k (fun cs hcs => h cs (List.mem_cons_of_mem _ hcs))
  rw [List.flatten_cons, Nat.succ_mul, List.take_succ_cons, List.drop_succ_cons, List.flatten_cons, ← h1, ← h2, ← hc]
  constructor
  ·
   rw [Nat.add_comm, List.take_append, List.take_of_length_le (by omega)]
   congr 2; omega
  ·
   rw [Nat.add_comm, List.drop_append, List.drop_eq_nil_of_le (by omega), List.nil_append]
   congr 1; omega
/-- The block of the row with other cells. -/
theorem grown_setRow (w : World) (g : Nat) (cs : Array Value) : w.grownBy (w.setRow g cs) (some g) :=
 ⟨rfl, rfl, rfl, by simp [World.setRow], fun k hk hne => setRow_other w g k cs (fun e => hne (by rw [e]))⟩
/-- The row read as another list, behind a write of the row's block. -/
theorem RowIn.write {g cap : Nat} {cur : Array Value} {css : List (List Value)} (h : RowIn F w base T g cap xs cur css) {ys : List α} {dss : List (List Value)} {cur' : Array Value} (h1 : ys.length ≤ cap) (h2 : cur'.size = cur.size) (h3 : dss.length = ys.length)
  (h4 : ∀ (i : Nat) (y : α) (cs : List Value), ys[i]? = some y → dss[i]? = some cs → RepS.rdS w (fun b => F b ∧ b < w.heap.size ∧ b ≠ g) y cs) (h5 : cur'.toList.take (ys.length * Rep.size α) = dss.flatten) : RowIn F (w.setRow g cur') base T g cap ys cur' dss := by
 have hg := grown_setRow w g cur'
 exact ⟨h.lo, setRow_heap w g cur cur' T (0, 0) h.heap, h1, h.lim, h2.trans h.size, h3, fun i y cs hy hcs => RepS.mono (fun b hb => ⟨hb.1, by have := hg.size; omega, hb.2.2⟩) (fun b o u hb hu => hg.cell hu (fun e => hb.2.2 (Option.some.inj e))) (h4 i y cs hy hcs), h5⟩
theorem RowIn.lt {g cap : Nat} {cur : Array Value} {css : List (List Value)} (h : RowIn F w base T g cap xs cur css) : g < w.heap.size := (Array.getElem?_eq_some_iff.1 h.heap).1
theorem RowIn.css {g cap : Nat} {cur : Array Value} {css : List (List Value)} (h : RowIn F w base T g cap xs cur css) : ∀ cs ∈ css, cs.length = Rep.size α := row_css h.len h.rd
/-- The cells of the value at place i. -/
theorem RowIn.at_ {g cap : Nat} {cur : Array Value} {css : List (List Value)} (h : RowIn F w base T g cap xs cur css) {i : Nat} {x : α} (hx : xs[i]? = some x) : ∃ cs, css[i]? = some cs ∧ RepS.rdS w (fun b => F b ∧ b < w.heap.size ∧ b ≠ g) x cs ∧ ∀ j u, cs[j]? = some u → w.cell? ⟨g, i * Rep.size α + j, none⟩ = some u := by
 have hi := (List.getElem?_eq_some_iff.1 hx).1
 have hci : css[i]? = some (css[i]'(by have := h.len; omega)) := List.getElem?_eq_getElem _
 refine ⟨_, hci, h.rd i x _ hx hci, fun j u hu => ?_⟩
 have hj : j < Rep.size α := by
  have := (List.getElem?_eq_some_iff.1 hu).1
  rw [RepS.lenS (h.rd i x _ hx hci)] at this; exact this
 rw [cell_of_row w g (i * Rep.size α + j) cur T (0, 0) h.heap]
 have := flatten_row h.css hci hj
 have hlt : i * Rep.size α + j < xs.length * Rep.size α := by
  have := Nat.mul_le_mul_right (Rep.size α) (show i + 1 ≤ xs.length from hi)
  rw [Nat.succ_mul] at this; omega
 rw [← h.row, List.getElem?_take, if_pos hlt, hu] at this
 simpa using this
theorem RowIn.frozen {g cap : Nat} {cur : Array Value} {css : List (List Value)} (h : RowIn F w base T g cap xs cur css) (j : Nat) : w.frozen? ⟨g, j, none⟩ = false := by
 simp [World.frozen?, h.heap]
/-- Cells that are set one behind the other are a row's write. -/
theorem setCells_row {g : Nat} {t : TypeId} {fr : Nat × Nat} : ∀ (vs : List Value) (o : Nat) (cur : Array Value) (w : World), w.heap[g]? = some (.cells cur t fr) → o + vs.length ≤ cur.size →
  w.setCells g o vs = w.setRow g (cur.toList.take o ++ vs ++ cur.toList.drop (o + vs.length)).toArray
 | [], o, cur, w, hg, _ => by
  simp only [List.append_nil, List.length_nil, Nat.add_zero, List.take_append_drop, Array.toArray_toList]
  rw [setRow_self w g cur t fr hg]; rfl
 | v :: r, o, cur, w, hg, hl => by
  have h1 : w.setCells g o (v :: r) = (w.setCell ⟨g, o, none⟩ v).setCells g (o + 1) r := rfl
  rw [h1, setCell_eq_setRow w g o cur t fr v hg, setCells_row r (o + 1) (cur.setIfInBounds o v) _ (setRow_heap w g cur _ t _ hg) (by simp at hl ⊢; omega), setRow_setRow]
  congr 2
  have e := list_seg_step cur.toList o v r (by simp at hl ⊢; omega)
  simpa [Array.toList_setIfInBounds, Nat.add_assoc] using e
theorem splice_parts {β : Type} (X1 M X2 Y cs : List β) (hM : M.length = cs.length) : ((X1 ++ M ++ X2 ++ Y).take X1.length ++ cs ++ (X1 ++ M ++ X2 ++ Y).drop (X1.length + cs.length)).take (X1.length + cs.length + X2.length) = X1 ++ cs ++ X2 := by
 have h1 : (X1 ++ M ++ X2 ++ Y).take X1.length = X1 := by rw [List.append_assoc, List.append_assoc, List.take_left']; rfl
 have h2 : (X1 ++ M ++ X2 ++ Y).drop (X1.length + cs.length) = X2 ++ Y := by rw [← hM, ← List.length_append, List.append_assoc, List.drop_left']; rfl
 rw [h1, h2, ← List.append_assoc, List.take_left']
 simp only [List.length_append]
theorem row_splice {cur : Array Value} {css : List (List Value)} {n k : Nat} {cs : List Value} (hn : ∀ c ∈ css, c.length = n) (hcs : cs.length = n) (hrow : cur.toList.take (css.length * n) = css.flatten) (hk : k < css.length) (hsz : css.length * n ≤ cur.size) :
  (cur.toList.take (k * n) ++ cs ++ cur.toList.drop (k * n + cs.length)).take (css.length * n) = (css.set k cs).flatten := by
 have hfl : css.flatten.length = css.length * n := by have h := congrArg List.length hrow; rw [List.length_take] at h; have h2 : cur.toList.length = cur.size := Array.length_toList; omega
 obtain ⟨t1, t2⟩ := flat_take k hn
 obtain ⟨t3, t4⟩ := flat_take (k + 1) hn
 have hm : (css[k]).length = n := hn _ (List.getElem_mem hk)
 have hkn : k * n + n ≤ css.length * n := by have := Nat.mul_le_mul_right n (show k + 1 ≤ css.length from hk); rw [Nat.succ_mul] at this; exact this
 have hx : css.flatten = (css.take k).flatten ++ css[k] ++ (css.drop (k + 1)).flatten := by
  have : css = css.take k ++ css[k] :: css.drop (k + 1) := by rw [← List.drop_eq_getElem_cons hk, List.take_append_drop]
  exact (congrArg List.flatten this).trans (by rw [List.flatten_append, List.flatten_cons, List.append_assoc])
 have l1 : ((css.take k).flatten).length = k * n := by rw [← t1, List.length_take, hfl]; omega
 have l2 : ((css.drop (k + 1)).flatten).length = css.length * n - (k * n + n) := by rw [← t4, List.length_drop, hfl, Nat.succ_mul]
 have h1 : cur.toList = (css.take k).flatten ++ css[k] ++ (css.drop (k + 1)).flatten ++ cur.toList.drop (css.length * n) := by rw [← hx, ← hrow, List.take_append_drop]
 have h2 := splice_parts (css.take k).flatten css[k] (css.drop (k + 1)).flatten (cur.toList.drop (css.length * n)) cs (hm.trans hcs.symm)
 rw [← h1, l1, l2, hcs, show k * n + n + (css.length * n - (k * n + n)) = css.length * n by omega] at h2
 rw [hcs, h2, List.set_eq_take_append_cons_drop, if_pos hk, List.flatten_append, List.flatten_cons, List.append_assoc]
/-- One value of the row exchanged. -/
theorem RowIn.set_ {g cap : Nat} {cur : Array Value} {css : List (List Value)} (h : RowIn F w base T g cap xs cur css) {i : Nat} (hi : i < xs.length) {y : α} {cs : List Value} (hr : RepS.rdS w (fun b => F b ∧ b < w.heap.size ∧ b ≠ g) y cs) :
  ∃ cur', w.setCells g (i * Rep.size α) cs = w.setRow g cur' ∧ RowIn F (w.setRow g cur') base T g cap (xs.set i y) cur' (css.set i cs) := by
 have hcl : cs.length = Rep.size α := RepS.lenS hr
 have hle : xs.length * Rep.size α ≤ cur.size := by rw [h.size]; exact Nat.mul_le_mul_right _ h.le
 have hkn : i * Rep.size α + Rep.size α ≤ xs.length * Rep.size α := by have := Nat.mul_le_mul_right (Rep.size α) (show i + 1 ≤ xs.length from hi); rw [Nat.succ_mul] at this; exact this
 refine ⟨_, setCells_row cs _ cur w h.heap (by omega), h.write (by simpa using h.le) (by simp; omega) (by simp [h.len]) (fun j y' cs' hy hcs' => ?_) ?_⟩
 ·
  rw [List.getElem?_set] at hy hcs'
  by_cases hj : i = j
  ·
   subst hj
   rw [if_pos rfl, if_pos hi] at hy
   rw [if_pos rfl, if_pos (by rw [h.len]; exact hi)] at hcs'
   obtain rfl := Option.some.inj hy
   obtain rfl := Option.some.inj hcs'
   exact hr
  ·
   rw [if_neg hj] at hy hcs'
   exact h.rd j y' cs' hy hcs'
 ·
  rw [List.length_set, ← h.len]
  exact row_splice h.css hcl (by rw [h.len]; exact h.row) (by rw [h.len]; exact hi) (by rw [h.len]; exact hle)
end
section
variable {P : Program}
variable {ops : Array Oper} {rest : List Oper} {o : Oper} {a : Act} {Q : Exit → Act → World → Prop} {w : World}
end
end Go.Cold
namespace Go.Cold
open Go Go.RowKit
section
variable {α : Type} [RepS α] {F : Nat → Prop} {w w' : World} {base : Nat} {T : TypeId} {v : Value} {xs : List α}
/-- Each value of a list with its cells. -/
def RdL (w : World) (S : Nat → Prop) (xs : List α) (css : List (List Value)) : Prop := ∀ (i : Nat) (x : α) (cs : List Value), xs[i]? = some x → css[i]? = some cs → RepS.rdS w S x cs
theorem RdL.mono {S S' : Nat → Prop} {css : List (List Value)} (hS : ∀ b, S b → S' b) (hc : ∀ b o u, S b → w.cell? ⟨b, o, none⟩ = some u → w'.cell? ⟨b, o, none⟩ = some u) (h : RdL w S xs css) : RdL w' S' xs css := fun i x cs hx hcs => RepS.mono hS hc (h i x cs hx hcs)
end
section
variable {P : Program} {α : Type} [RepS α] {F : Nat → Prop} {w : World} {base bytes : Nat} {T TS : TypeId} {xs : List α}
end
end Go.Cold
namespace Go.Proofs.YtehmidmoiamcfaaGreatDoor
open Go.RowKit Go.Cold Go.Shelf
end Go.Proofs.YtehmidmoiamcfaaGreatDoor
namespace Go.Cold
open Go Go.RowKit
section
variable {α : Type} [RepS α] {F : Nat → Prop} {w W W' : World} {base : Nat} {T : TypeId} {g cap : Nat} {xs : List α} {cur : Array Value} {css : List (List Value)} {p : α → Bool} {i j : Nat} {x : α}
theorem RowIn.below (h : RowIn F w base T g cap xs cur css) (hb : Below w.heap.size w W) : RowIn F W base T g cap xs cur css :=
 ⟨h.lo, (hb.block g h.lt).trans h.heap, h.le, h.lim, h.size, h.len, RdL.mono (w := w) (fun b hb' => ⟨hb'.1, by have := hb.size; omega, hb'.2.2⟩) (fun b o u hb' hu => (hb.cell (p := ⟨b, o, none⟩) hb'.2.1).trans hu) h.rd, h.row⟩
end
end Go.Cold
namespace Go.Proofs.YtehmidmoiamcfaaGreatDoor
open Go.RowKit Go.Cold
end Go.Proofs.YtehmidmoiamcfaaGreatDoor
namespace Go.Cold
open Go Go.RowKit
theorem idx_cases (p : Dev → Bool) (xs : List Dev) : (idxInt p xs = -1 ∧ ∀ x ∈ xs, p x = false) ∨ ∃ (i : Nat) (x : Dev), idxInt p xs = (i : Int) ∧ xs[i]? = some x ∧ p x = true ∧ ∀ y ∈ xs.take i, p y = false := by
 unfold idxInt
 cases h : xs.findIdx? p with
 | none => exact .inl ⟨rfl, List.findIdx?_eq_none_iff.1 h⟩
 | some i =>
  obtain ⟨hi, h1, h2⟩ := List.findIdx?_eq_some_iff_getElem.1 h
  refine .inr ⟨i, xs[i], rfl, List.getElem?_eq_getElem hi, h1, fun y hy => ?_⟩
  obtain ⟨j, hj, rfl⟩ := List.getElem_of_mem hy
  rw [List.length_take] at hj
  rw [List.getElem_take]
  exact Bool.eq_false_iff.2 (h2 j (by omega))
theorem setCells10 (w : World) (g o : Nat) (v0 v1 v2 v3 v4 v5 v6 v7 v8 v9 : Value) : w.setCells g o [v0, v1, v2, v3, v4, v5, v6, v7, v8, v9] = (((((((((w.setCell ⟨g, o, none⟩ v0).setCell ⟨g, o + 1, none⟩ v1).setCell ⟨g, o + 2, none⟩ v2).setCell ⟨g, o + 3, none⟩ v3).setCell ⟨g, o + 4, none⟩ v4).setCell ⟨g, o + 5, none⟩ v5).setCell ⟨g, o + 6, none⟩ v6).setCell ⟨g, o + 7, none⟩ v7).setCell ⟨g, o + 8, none⟩ v8).setCell ⟨g, o + 9, none⟩ v9 := rfl
end Go.Cold
namespace Go.Proofs.YtehmidmoiamcfaaGreatDoor
open Go.RowKit Go.Cold
end Go.Proofs.YtehmidmoiamcfaaGreatDoor
namespace Go.Cold
open Go Go.RowKit
end Go.Cold
namespace Go.Proofs.YtehmidmoiamcfaaGreatDoor
open Go.RowKit Go.Cold
/-- What a function answers that makes a tree: the error, and the tree. -/
def TreF (F : Nat → Prop) (z : Int) (l : List Dev) (w : World) (e : Ending) (w' : World) : Prop := Below w.heap.size w w' ∧ ∃ v, e = .returned (.tuple #[.agg #[v], .int .i64 z]) ∧ OwnsS F w' w.heap.size 43 v l
theorem TreF.mk {F : Nat → Prop} {z : Int} {l : List Dev} {w w' : World} {e : Ending} {v : Value} (h1 : Below w.heap.size w w') (h2 : e = .returned (.tuple #[.agg #[v], .int .i64 z])) (h3 : OwnsS F w' w.heap.size 43 v l) : TreF F z l w e w' := ⟨h1, v, h2, h3⟩
theorem TreF.err {F : Nat → Prop} {z : Int} {w w' : World} {e : Ending} (h1 : Below w.heap.size w w') (h2 : e = .returned (.tuple #[.agg #[.slice none 0 0], .int .i64 z])) : TreF F z [] w e w' := ⟨h1, _, h2, OwnsS.nil_ _ _ _ _⟩
end Go.Proofs.YtehmidmoiamcfaaGreatDoor
namespace Go.Proofs.YtehmidmoiamcfaaGreatDoor
open Go.RowKit Go.Cold
end Go.Proofs.YtehmidmoiamcfaaGreatDoor
