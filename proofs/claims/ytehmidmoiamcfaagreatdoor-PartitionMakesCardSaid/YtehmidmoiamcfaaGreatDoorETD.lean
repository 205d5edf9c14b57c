/-
  Plain, for chapter 31: the text of an inner content stands within the text of its content; what PartitionRights, PartitionMakes and PartitionChanged ask. No program is named here.
-/
import Derived.Test.YtehmidmoiamcfaaGreatDoorETB
import Derived.Test.YtehmidmoiamcfaaGreatDoorERB
import Derived.Test.YtehmidmoiamcfaaGreatDoorED
import Derived.Test.YtehmidmoiamcfaaGreatDoorEK
import Derived.Test.YtehmidmoiamcfaaGreatDoorESO
import Derived.Test.YtehmidmoiamcfaaGreatDoorEN
import Derived.Deep.RegionHeld3
set_option linter.unusedSimpArgs false
set_option linter.unusedVariables false
namespace Go.Cold
open Go Go.RowKit Go.Proofs.YtehmidmoiamcfaaGreatDoor
theorem comma_infix : ∀ {xs : List ByteArray} {x : ByteArray}, x ∈ xs → x.data.toList <:+: (commaB xs).data.toList
 | [], x, h => by cases h
 | [y], x, h => by
  rw [List.mem_singleton] at h
  subst h
  rw [comma_one]; exact List.infix_refl _
 | y :: z :: r, x, h => by
  rw [comma_two]
  rcases List.mem_cons.1 h with rfl | h
  · exact ⟨[], _, by rw [List.nil_append]⟩
  ·
   obtain ⟨a, b, e⟩ := comma_infix h
   exact ⟨y.data.toList ++ 44 :: a, b, by rw [← e]; simp⟩
theorem mid_infix (a b : ByteArray) (m : ByteArray) (l : List UInt8) (h : l <:+: m.data.toList) (c : ByteArray) : l <:+: (a ++ ((b ++ m) ++ c)).data.toList := by
 obtain ⟨x, y, e⟩ := h
 exact ⟨a.data.toList ++ (b.data.toList ++ x), y ++ c.data.toList, by simp only [app_data]; rw [← e]; simp⟩
theorem text_infix {c x : Cont} (hc : AllOk c) (hx : x ∈ c.inner) : (textC x).data.toList <:+: (textC c).data.toList := by
 obtain ⟨k, i, l, s, t, e, xs⟩ := c
 have hx : x ∈ xs := hx
 have hm : (textC x).data.toList <:+: (commaB (textL xs)).data.toList := comma_infix (by rw [textL_map]; exact List.mem_map_of_mem hx)
 have ho := (AllOk_mk.1 hc).1
 have h0 := kind_of_inner hc hx
 have hne : xs.length ≠ 0 := fun h => by rw [List.length_eq_zero_iff.1 h] at hx; cases hx
 simp only [ownB] at ho
 rw [if_neg h0] at ho
 simp only [Bool.and_eq_true] at ho
 replace ho := ho.2
 have h1 : k ≠ 1 := by rintro rfl; simp at ho; exact hne (by rw [ho.2.2]; rfl)
 rw [if_neg h1] at ho
 obtain ⟨X, hX⟩ : ∃ X, textC x = X := ⟨_, rfl⟩
 rw [hX] at hm ⊢
 rw [textC, if_neg h1]
 by_cases h2 : k = 2
 · rw [if_pos h2]; exact mid_infix _ _ _ _ hm _
 rw [if_neg h2] at ho ⊢
 by_cases h3 : k = 3
 · rw [if_pos h3]; exact mid_infix _ _ _ _ hm _
 rw [if_neg h3] at ho ⊢
 by_cases h4 : k = 4
 · rw [if_pos h4]; exact mid_infix _ _ _ _ hm _
 rw [if_neg h4] at ho ⊢
 by_cases h5 : k = 5
 · rw [if_pos h5]; exact mid_infix _ _ _ _ hm _
 rw [if_neg h5] at ho
 simp at ho
theorem inner_infix {s : ByteArray} {c x : Cont} (h : parseC s = some c) (hx : x ∈ c.inner) : (textC x).data.toList <:+: s.data.toList := by
 have := text_infix (AllOk_parse h).1 hx
 rw [text_parse h] at this
 exact this
theorem textB_infix {s t : ByteArray} (h : textB s = true) (hi : t.data.toList <:+: s.data.toList) : textB t = true := by
 unfold textB printB at h ⊢
 simp only [Bool.and_eq_true, decide_eq_true_eq, List.all_eq_true] at h ⊢
 refine ⟨fun x hx => h.1 x (hi.subset hx), ?_⟩
 have := hi.length_le
 rw [ba_size, ba_size] at this
 omega
/-- A device is a partition that its parent wants. -/
noncomputable def rightB (L : List Dev) (n : Int) : Bool := decide (partO L n ≠ 0) && rightR (wantsD ((findD L ((findD L n).getD zeroD).par).getD zeroD) ByteArray.empty 0) ((findD L n).getD zeroD).orig (contD ((findD L n).getD zeroD))
theorem wantsD_nodup (d : Dev) (o : ByteArray) (r : Int) : ((wantsD d o r).map (·.orig)).Nodup := by
 unfold wantsD
 split
 · exact wants_nodup _ _ _ _ _
 · simp
end Go.Cold
namespace Go.Cold
open Go Go.RowKit Go.Proofs.YtehmidmoiamcfaaGreatDoor
def nmJ (j : Nat) : ByteArray := if j = 0 then sdaB else ptName sdaB (j : Int)
def attJ (t : ByteArray) : List Attr := if t.size = 0 then [] else [⟨⟨#[99, 111, 110, 116, 101, 110, 116]⟩, t⟩]
def parJ (j : Nat) : Int := if j = 0 then 0 else 1
/-- The law's disk (0) and its partitions. -/
def mkD (j : Nat) (t : ByteArray) : Dev := ⟨1 + (j : Int), parJ j, nmJ j, nmJ j, ⟨#[98, 108, 111, 99, 107]⟩, ByteArray.empty, ByteArray.empty, 2, 1 + (j : Int), attJ t⟩
theorem mk_disk {s : ByteArray} (h : s.size ≠ 0) : mkD 0 s = diskD sdaB s := by
 unfold mkD attJ
 rw [if_neg h]
 rfl
def mkE (j : Nat) : Dev := mkD j ByteArray.empty
theorem mk_facts : ∀ j : Nat, j < 17 → (rangeB (mkE j) && (namedB (mkE j) && (kindB (mkE j) && (numberB (mkE j) && linkD (mkE j))))) = true := by decide +kernel
theorem mk_clash0 : ∀ i : Nat, i < 17 → ∀ j : Nat, j < 17 → i ≠ j → clashB (mkE i) (mkE j) = false := by decide +kernel
theorem mk_clash {i j : Nat} (hi : i < 17) (hj : j < 17) (h : i ≠ j) (t u : ByteArray) : clashB (mkD i t) (mkD j u) = false := mk_clash0 i hi j hj h
theorem nmJ_inj : ∀ i : Nat, i < 17 → ∀ j : Nat, j < 17 → nmJ i = nmJ j → i = j := by decide +kernel
def okT (t : ByteArray) : Prop := textB t = true
theorem attJ_ok {t : ByteArray} (h : okT t) : (attJ t).length ≤ 24 ∧ attrsB (attJ t) = true := by
 unfold attJ
 by_cases h0 : t.size = 0
 · rw [if_pos h0]; exact ⟨by simp, rfl⟩
 ·
  rw [if_neg h0]
  refine ⟨by simp, ?_⟩
  have hv : validB ⟨#[99, 111, 110, 116, 101, 110, 116]⟩ = true := by decide +kernel
  have he : t.toList.isEmpty = false := by
   rw [List.isEmpty_eq_false_iff]
   intro hn
   apply h0
   rw [Lib.toList_data] at hn
   rw [← ba_size, hn]; rfl
  unfold attrsB attrB
  simp only [List.all_cons, List.all_nil, Bool.and_true]
  rw [hv, show textB t = true from h, he]
  rfl
theorem mk_check {j : Nat} (hj : j < 17) {t : ByteArray} (h : okT t) : checkD (mkD j t) = 0 := by
 have hf := mk_facts j hj
 simp only [Bool.and_eq_true] at hf
 obtain ⟨h1, h2, h3, h4, h5⟩ := hf
 obtain ⟨h6, h7⟩ := attJ_ok h
 rw [checkD_eq, if_pos (show rangeB (mkD j t) = true from h1), if_pos (show namedB (mkD j t) = true from h2), if_pos (show kindB (mkD j t) = true from h3), if_pos (show numberB (mkD j t) = true from h4), if_pos (show (mkD j t).attrs.length ≤ 24 from h6), if_pos (show attrsB (mkD j t).attrs = true from h7), if_pos (show linkD (mkD j t) = true from h5)]
/-- A disk whose content may not be: what is wrong. -/
theorem disk_bad {s : ByteArray} (h : checkD (diskD sdaB s) = 0) : s.size ≠ 0 ∧ okT s := by
 rw [checkD_eq] at h
 split at h
 case isFalse => cases h
 split at h
 case isFalse => cases h
 split at h
 case isFalse => cases h
 split at h
 case isFalse => cases h
 split at h
 case isFalse => cases h
 split at h
 case isFalse => cases h
 rename_i ha
 unfold attrsB attrB at ha
 simp only [diskD, List.all_cons, List.all_nil, Bool.and_true, Bool.and_eq_true, Bool.not_eq_true'] at ha
 refine ⟨fun h0 => ?_, ha.2.1.2⟩
 have h1 := ha.2.2
 rw [List.isEmpty_eq_false_iff] at h1
 apply h1
 rw [Lib.toList_data]
 rw [← ba_size] at h0
 exact List.length_eq_zero_iff.1 h0
structure MkL (ts : List ByteArray) (L : List Dev) : Prop where
 vt : VT L
 mem : ∀ x, x ∈ L ↔ ∃ (j : Nat) (t : ByteArray), ts[j]? = some t ∧ x = mkD j t
 len : L.length = ts.length
theorem MkL.find {ts : List ByteArray} {L : List Dev} (h : MkL ts L) {j : Nat} {t : ByteArray} (ht : ts[j]? = some t) : findD L (1 + (j : Int)) = some (mkD j t) :=
 find_of h.vt.wf.uniq ((h.mem _).2 ⟨j, t, ht, rfl⟩)
theorem MkL.org {ts : List ByteArray} {L : List Dev} (h : MkL ts L) {t0 : ByteArray} (h0 : ts[0]? = some t0) {j : Nat} {t : ByteArray} (ht : ts[j]? = some t) : orgF L (1 + (j : Int)) = if j = 0 then [sdaB] else [sdaB, nmJ j] := by
 obtain ⟨h1, -⟩ := org_spec h.vt.wf
 have hz : orgF L (1 + ((0 : Nat) : Int)) = [sdaB] := by
  have := h1 (mkD 0 t0) ((h.mem _).2 ⟨0, t0, h0, rfl⟩)
  rw [show (mkD 0 t0).par = 0 from rfl, org_zero h.vt.wf] at this
  exact this
 by_cases hj : j = 0
 · subst hj; rw [if_pos rfl]; exact hz
 ·
  rw [if_neg hj]
  have := h1 (mkD j t) ((h.mem _).2 ⟨j, t, ht, rfl⟩)
  rw [show (mkD j t).par = 1 + ((0 : Nat) : Int) by show parJ j = _; unfold parJ; rw [if_neg hj]; rfl, hz] at this
  exact this
theorem ins_mem (L : List Dev) (d x : Dev) : x ∈ insL L d ↔ x ∈ L ∨ x = d := by
 unfold insL
 obtain ⟨k, hk⟩ : ∃ k, atN L (ownL L d) = k := ⟨_, rfl⟩
 rw [hk]
 have hL : x ∈ L ↔ x ∈ L.take k ++ L.drop k := by rw [List.take_append_drop]
 rw [hL]
 simp only [List.mem_append, List.mem_cons]
 constructor
 ·
  rintro (h | rfl | h)
  · exact .inl (.inl h)
  · exact .inr rfl
  · exact .inl (.inr h)
 ·
  rintro ((h | h) | rfl)
  · exact .inl h
  · exact .inr (.inr h)
  · exact .inr (.inl rfl)
theorem MkL.first {s : ByteArray} (hs : okT s) : insE [] (mkD 0 s) = 0 ∧ MkL [s] (insL [] (mkD 0 s)) := by
 have he : insE [] (mkD 0 s) = 0 := by
  unfold insE
  rw [if_neg (by rw [mk_check (by omega) hs]; simp), if_neg (by simp [idxs]), if_neg (fun h => h.1 rfl), if_neg (by simp), if_neg (by unfold ownL; rw [show (mkD 0 s).par = 0 from rfl, org_zero VT_nil.wf]; simp), if_neg (by simp)]
 refine ⟨he, (ins_VT VT_nil he).1, fun x => ?_, by rw [ins_length]; rfl⟩
 rw [ins_mem]
 constructor
 ·
  rintro (h | rfl)
  · cases h
  · exact ⟨0, s, rfl, rfl⟩
 ·
  rintro ⟨j, t, hj, rfl⟩
  have : j < 1 := (List.getElem?_eq_some_iff.1 hj).1
  obtain rfl : j = 0 := by omega
  right
  simp at hj
  rw [hj]
theorem MkL.step {ts : List ByteArray} {L : List Dev} (h : MkL ts L) (h1 : 1 ≤ ts.length) (h2 : ts.length ≤ 16) {t : ByteArray} (ht : okT t) : insE L (mkD ts.length t) = 0 ∧ MkL (ts ++ [t]) (insL L (mkD ts.length t)) := by
 obtain ⟨t0, h0⟩ : ∃ t0, ts[0]? = some t0 := ⟨_, List.getElem?_eq_getElem (by omega)⟩
 have hn : ts.length ≠ 0 := by omega
 have hpar : (mkD ts.length t).par = 1 + ((0 : Nat) : Int) := by show parJ _ = _; unfold parJ; rw [if_neg hn]; rfl
 have hown : ownL L (mkD ts.length t) = [sdaB, nmJ ts.length] := by
  unfold ownL
  rw [hpar, h.org h0 h0, if_pos rfl]
  rfl
 have he : insE L (mkD ts.length t) = 0 := by
  unfold insE
  rw [if_neg (by rw [mk_check (by omega) ht]; simp), if_neg, if_neg, if_neg (by rw [h.len]; omega), if_neg (by rw [hown]; simp), if_neg]
  ·
   intro hb
   rw [List.any_eq_true] at hb
   obtain ⟨x, hx, hb⟩ := hb
   obtain ⟨j, u, hj, rfl⟩ := (h.mem x).1 hx
   have hjl := (List.getElem?_eq_some_iff.1 hj).1
   unfold badP at hb
   rw [mk_clash (by omega) (by omega) (by omega), Bool.or_false, decide_eq_true_eq, hown] at hb
   have hc := cmpL_zero hb
   rw [show (mkD j u).idx = 1 + (j : Int) from rfl, h.org h0 hj] at hc
   split at hc
   · cases hc
   ·
    have := nmJ_inj j (by omega) ts.length (by omega) (by injection hc with _ h3; injection h3)
    omega
  ·
   rintro ⟨-, hb⟩
   rw [hpar] at hb
   have : (idxs L).contains (1 + ((0 : Nat) : Int)) = true := by
    rw [List.contains_iff_mem]
    exact mem_idxs ((h.mem _).2 ⟨0, t0, h0, rfl⟩)
   rw [this] at hb
   cases hb
  ·
   intro hb
   rw [List.contains_iff_mem] at hb
   obtain ⟨x, hx, hb⟩ := List.mem_map.1 hb
   obtain ⟨j, u, hj, rfl⟩ := (h.mem x).1 hx
   have hjl := (List.getElem?_eq_some_iff.1 hj).1
   have : 1 + (j : Int) = 1 + (ts.length : Int) := hb
   omega
 refine ⟨he, (ins_VT h.vt he).1, fun x => ?_, by rw [ins_length, h.len, List.length_append]; rfl⟩
 rw [ins_mem, h.mem]
 constructor
 ·
  rintro (⟨j, u, hj, rfl⟩ | rfl)
  ·
   have hjl := (List.getElem?_eq_some_iff.1 hj).1
   exact ⟨j, u, by rw [List.getElem?_append_left hjl]; exact hj, rfl⟩
  · exact ⟨ts.length, t, by simp, rfl⟩
 ·
  rintro ⟨j, u, hj, rfl⟩
  by_cases hjl : j < ts.length
  ·
   left
   rw [List.getElem?_append_left hjl] at hj
   exact ⟨j, u, hj, rfl⟩
  ·
   right
   have := (List.getElem?_eq_some_iff.1 hj).1
   rw [List.length_append, List.length_singleton] at this
   obtain rfl : j = ts.length := by omega
   simp at hj
   rw [hj]
theorem MkL.part {ts : List ByteArray} {L : List Dev} (h : MkL ts L) (h2 : ts.length ≤ 17) {j : Nat} {t : ByteArray} (ht : ts[j]? = some t) (hj : 1 ≤ j) : partO L (1 + (j : Int)) = j ∧ parO L (1 + (j : Int)) = 1 := by
 have hjl := (List.getElem?_eq_some_iff.1 ht).1
 obtain ⟨t0, h0⟩ : ∃ t0, ts[0]? = some t0 := ⟨_, List.getElem?_eq_getElem (by omega)⟩
 have hpar : (mkD j t).par = 1 + ((0 : Nat) : Int) := by show parJ _ = _; unfold parJ; rw [if_neg (by omega)]; rfl
 constructor
 ·
  unfold partO
  rw [h.find ht]
  simp only
  rw [hpar, h.find h0]
  simp only
  rw [if_pos ⟨rfl, rfl⟩]
  show numR sdaB (nmJ j) = j
  unfold nmJ
  rw [if_neg (by omega)]
  have := num_name (sda_ok j hj (by omega))
  omega
 ·
  unfold parO
  rw [h.find ht]
  exact hpar
/-- What is wanted is right where it stands. -/
theorem MkL.right {ts : List ByteArray} {L : List Dev} (h : MkL ts L) (h2 : ts.length ≤ 17) {s : ByteArray} (hs : s.size ≠ 0) (h0 : ts[0]? = some s) {j : Nat} {t : ByteArray} (ht : ts[j]? = some t) (hj : 1 ≤ j) (hw : ∃ v ∈ wantsD (diskD sdaB s) ByteArray.empty 0, v.orig = ptName sdaB (j : Int) ∧ v.cont = t) : rightB L (1 + (j : Int)) = true := by
 have hp := h.part h2 ht hj
 have hpar : (mkD j t).par = 1 + ((0 : Nat) : Int) := by show parJ _ = _; unfold parJ; rw [if_neg (by omega)]; rfl
 unfold rightB
 rw [hp.1, h.find ht]
 simp only [Option.getD_some]
 rw [hpar, h.find h0]
 simp only [Option.getD_some]
 rw [mk_disk hs, decide_eq_true (show j ≠ 0 by omega), Bool.true_and]
 unfold rightR
 rw [List.any_eq_true]
 obtain ⟨v, hv, h3, h4⟩ := hw
 refine ⟨v, hv, ?_⟩
 rw [Bool.and_eq_true, decide_eq_true_eq, decide_eq_true_eq, h3, h4]
 constructor
 · show _ = nmJ j; unfold nmJ; rw [if_neg (by omega)]
 ·
  show t = (getA (attJ t) _).getD ByteArray.empty
  unfold attJ
  by_cases hz : t.size = 0
  ·
   rw [if_pos hz]
   show t = ByteArray.empty
   apply ba_ext
   rw [List.length_eq_zero_iff.1 (show t.data.toList.length = 0 by rw [ba_size]; exact hz)]
   rfl
  · rw [if_neg hz, getA, if_pos (show (⟨#[99, 111, 110, 116, 101, 110, 116]⟩ : ByteArray) = nmContent from rfl)]; rfl
theorem MkL.disk {ts : List ByteArray} {L : List Dev} (h : MkL ts L) (h1 : 1 ≤ ts.length) : rightB L 1 = false := by
 obtain ⟨t0, h0⟩ : ∃ t0, ts[0]? = some t0 := ⟨_, List.getElem?_eq_getElem (by omega)⟩
 have hf : findD L 1 = some (mkD 0 t0) := h.find h0
 have hz : findD L 0 = none := find_none.2 fun hm => by
  obtain ⟨d, hd, h3⟩ := List.mem_map.1 hm
  exact h.vt.wf.nz d hd h3
 have : partO L 1 = 0 := by
  unfold partO
  rw [hf]
  simp only
  rw [show (mkD 0 t0).par = 0 from rfl, hz]
 unfold rightB
 rw [this]
 rfl
theorem MkL.sis {ts : List ByteArray} {L : List Dev} (h : MkL ts L) (h2 : ts.length ≤ 17) {j : Nat} (hj : 2 ≤ j) (hl : j < ts.length) : sisB L 2 (1 + (j : Int)) = true := by
 obtain ⟨t, ht⟩ : ∃ t, ts[j]? = some t := ⟨_, List.getElem?_eq_getElem hl⟩
 obtain ⟨t1, ht1⟩ : ∃ t, ts[1]? = some t := ⟨_, List.getElem?_eq_getElem (by omega)⟩
 have a := h.part h2 ht (by omega)
 have b := h.part h2 ht1 (by omega)
 have b1 : partO L 2 = 1 := b.1
 have b2 : parO L 2 = 1 := b.2
 unfold sisB
 rw [a.1, a.2, b1, b2, decide_eq_true (show j ≠ 0 by omega), decide_eq_true (show (2 : Int) ≠ 1 + (j : Int) by omega)]
 rfl
end Go.Cold
namespace Go.Cold
open Go Go.RowKit Go.Proofs.YtehmidmoiamcfaaGreatDoor
end Go.Cold
namespace Go.Cold
open Go Go.RowKit Go.Proofs.YtehmidmoiamcfaaGreatDoor
/-- The contents so far: the disk's, and those of the first partitions. -/
def tsM (s : ByteArray) (V : List Virt) (i : Nat) : List ByteArray := s :: (V.take i).map (·.cont)
theorem tsM_len {s : ByteArray} {V : List Virt} {i : Nat} (h : i ≤ V.length) : (tsM s V i).length = i + 1 := by
 unfold tsM
 rw [List.length_cons, List.length_map, List.length_take, Nat.min_eq_left h]
theorem tsM_succ {s : ByteArray} {V : List Virt} {i : Nat} (h : i < V.length) : tsM s V (i + 1) = tsM s V i ++ [(V[i]'h).cont] := by
 unfold tsM
 rw [List.take_add_one, List.getElem?_eq_getElem h, List.map_append]
 rfl
theorem tsM_at {s : ByteArray} {V : List Virt} {n i : Nat} (h : i < n) (hn : n ≤ V.length) : (tsM s V n)[i + 1]? = some ((V[i]'(by omega)).cont) := by
 unfold tsM
 rw [List.getElem?_cons_succ, List.getElem?_map, List.getElem?_take, if_pos h, List.getElem?_eq_getElem (by omega)]
 rfl
/-- What is wanted, of a disk whose text may be. -/
theorem makes_at {s : ByteArray} {V : List Virt} (hV : wantsD (diskD sdaB s) slSda 1 = V) (hs : okT s) {i : Nat} (hi : i < V.length) :
  (V[i]'hi).orig = ptName sdaB ((i + 1 : Nat) : Int) ∧ okT (V[i]'hi).cont ∧ i < 16 ∧ V.length ≤ 16 ∧ ∃ v ∈ wantsD (diskD sdaB s) ByteArray.empty 0, v.orig = ptName sdaB ((i + 1 : Nat) : Int) ∧ v.cont = (V[i]'hi).cont := by
 subst hV
 cases hp : parseC s with
 | none => rw [want_none hp] at hi; exact absurd hi (by simp)
 | some C =>
  obtain ⟨x, hk, hx, hat, -, -, -, -, h16, -⟩ := wantD_at hp hi
  obtain ⟨l1, -⟩ := want_full (origin := slSda) (round := 1) hp hk
  obtain ⟨-, h2⟩ := want_full (origin := ByteArray.empty) (round := 0) hp hk
  have hl := inner_len hp
  rw [hat]
  exact ⟨rfl, textB_infix hs (inner_infix hp (List.mem_of_getElem? hx)), h16, by omega, _, List.mem_of_getElem? (h2 i x hx), rfl, rfl⟩
theorem makes_len {s : ByteArray} {V : List Virt} (hV : wantsD (diskD sdaB s) slSda 1 = V) (hs : okT s) : V.length ≤ 16 := by
 by_cases h : 0 < V.length
 · exact (makes_at hV hs h).2.2.2.1
 · omega
/-- The partition that is inserted. -/
theorem mkD_fields (i : Nat) (t : ByteArray) : (mkD (i + 1) t).idx = 2 + (i : Int) ∧ (mkD (i + 1) t).par = 1 ∧ (mkD (i + 1) t).nm = ptName sdaB ((i + 1 : Nat) : Int) ∧ (mkD (i + 1) t).orig = ptName sdaB ((i + 1 : Nat) : Int) ∧ (mkD (i + 1) t).sub = ⟨#[98, 108, 111, 99, 107]⟩ ∧ (mkD (i + 1) t).drv = ByteArray.empty ∧ (mkD (i + 1) t).ali = ByteArray.empty ∧ (mkD (i + 1) t).kind = 2 ∧ (mkD (i + 1) t).num = 2 + (i : Int) := by
 refine ⟨?_, ?_, ?_, ?_, rfl, rfl, rfl, rfl, ?_⟩
 · show 1 + ((i + 1 : Nat) : Int) = _; omega
 · show parJ (i + 1) = 1; unfold parJ; rw [if_neg (by omega)]
 · show nmJ (i + 1) = _; unfold nmJ; rw [if_neg (by omega)]
 · show nmJ (i + 1) = _; unfold nmJ; rw [if_neg (by omega)]
 · show 1 + ((i + 1 : Nat) : Int) = _; omega
theorem mkD_none {i : Nat} {t : ByteArray} (h : t.size = 0) : (mkD (i + 1) t).attrs = [] := by show attJ t = _; unfold attJ; rw [if_pos h]
theorem mkD_some {i : Nat} {t : ByteArray} (h : t.size ≠ 0) : (mkD (i + 1) t).attrs = [⟨⟨#[99, 111, 110, 116, 101, 110, 116]⟩, t⟩] := by show attJ t = _; unfold attJ; rw [if_neg h]
theorem mkD_ok {i : Nat} {t : ByteArray} (hi : i < 16) : devOk (mkD (i + 1) t) ∧ (mkD (i + 1) t).orig.size ≤ 32 := by
 have hn : ∀ j : Nat, j < 17 → (nmJ j).size ≤ 32 := by decide +kernel
 have h1 := hn (i + 1) (by omega)
 refine ⟨?_, h1⟩
 have hp : parJ (i + 1) = 1 := by unfold parJ; rw [if_neg (by omega)]
 obtain ⟨f0, f1, f2, f3, f4, f5, f6, f7, f8⟩ := mkD_fields i t
 have h2 : (ptName sdaB ((i + 1 : Nat) : Int)).size ≤ 32 := by rw [← f2]; exact h1
 have z5 : (⟨#[98, 108, 111, 99, 107]⟩ : ByteArray).size = 5 := rfl
 have z0 : ByteArray.empty.size = 0 := rfl
 unfold devOk okI maxLen
 rw [f0, f1, f2, f3, f4, f5, f6, f7, f8, z5, z0]
 omega
/-- Where the law stands: the tree's box, the tree, the list that is wanted. -/
def MkS (w : World) (gT : Nat) (A : Option Addr) (c : Nat) (L : List Dev) (A5 : Option Addr) (c5 : Nat) (V : List Virt) (wx : World) : Prop :=
 Below w.heap.size w wx ∧ BoxL wx gT [.slice A L.length c] ∧ FreeS (fun x => x = gT) wx A c L ∧ FreeS (fun x => x = gT) wx A5 c5 V ∧ w.heap.size ≤ gT
theorem MkS.below {w wx wy : World} {gT c c5 : Nat} {A A5 : Option Addr} {L : List Dev} {V : List Virt} (h : MkS w gT A c L A5 c5 V wx) (hb : Below wx.heap.size wx wy) : MkS w gT A c L A5 c5 V wy :=
 ⟨h.1.trans (hb.mono h.1.size), h.2.1.kept (grown_none hb) (fun e => by cases e), h.2.2.1.below hb, h.2.2.2.1.below hb, h.2.2.2.2⟩
/-- A partition's box that is filled. -/
def MkD (wr : World) (g8 : Nat) (A4 : Option Addr) (c4 : Nat) (i1 i2 i3 : Int) (O t : ByteArray) (wx : World) : Prop :=
 Below wr.heap.size wr wx ∧ BoxL wx g8 [.int .i64 i1, .int .i64 i2, .string O, .string O, .string ⟨#[98, 108, 111, 99, 107]⟩, .string ByteArray.empty, .string ByteArray.empty, .int .i64 2, .int .i64 i3, .slice A4 1 c4] ∧ FreeS (fun x => x = g8) wx A4 c4 (diskD O t).attrs
end Go.Cold
namespace Go.Cold
open Go Go.RowKit Go.Proofs.YtehmidmoiamcfaaGreatDoor
theorem ok7_a {w : World} (h : Ok7 w) : OkA w := ⟨h.1, h.2.1⟩
theorem rightP_yes {xs : List Virt} {k : Nat} {y : Virt} {o t : ByteArray} (hlt : k < xs.length) (hy : xs[k] = y) (h : y.orig = o) : rightP (xs.drop k) o t = decide (y.cont = t) := by
 rw [List.drop_eq_getElem_cons hlt, hy]
 unfold rightP
 rw [List.find?_cons_of_pos (by simpa using h)]
theorem rightP_no {xs : List Virt} {k : Nat} {y : Virt} {o t : ByteArray} (hlt : k < xs.length) (hy : xs[k] = y) (h : y.orig ≠ o) : rightP (xs.drop k) o t = rightP (xs.drop (k + 1)) o t := by
 rw [List.drop_eq_getElem_cons hlt, hy]
 unfold rightP
 rw [List.find?_cons_of_neg (by simpa using h)]
theorem right_zero {L : List Dev} {n : Int} (h : partO L n = 0) : rightB L n = false := by unfold rightB; rw [h]; rfl
theorem right_of {L : List Dev} {n : Int} {d p : Dev} {V : List Virt} (h : partO L n ≠ 0) (hd : d = (findD L n).getD zeroD) (hp : p = (findD L d.par).getD zeroD) (hV : wantsD p ByteArray.empty 0 = V) : rightB L n = rightR V d.orig (contD d) := by
 unfold rightB
 rw [decide_eq_true h, ← hd, ← hp, hV, Bool.true_and]
theorem right_ofP {L : List Dev} {n : Int} {d p : Dev} {V : List Virt} (h : partO L n ≠ 0) (hd : d = (findD L n).getD zeroD) (hp : p = (findD L d.par).getD zeroD) (hV : wantsD p ByteArray.empty 0 = V) : rightB L n = rightP V d.orig (contD d) := by
 rw [right_of h hd hp hV, right_same]
 rw [← hV]
 exact wantsD_nodup _ _ _
end Go.Cold
namespace Go.Proofs.YtehmidmoiamcfaaGreatDoor
open Go.RowKit Go.Cold
set_option maxRecDepth 100000 in
set_option maxHeartbeats 4000000 in
/-- partition.Right. -/
theorem PRight_any (A : Option Addr) (c : Nat) (L : List Dev) (n : Int) (w : World) (B : Nat) (hB : B ≤ w.heap.size) (hx : Sl w B A c L) (hv : VT L) (hok : Ok7 w) :
  Calls Tryz.prog 27 #[.agg #[.slice A L.length c], .int .i64 n] w fun e w' => e = .returned (.bool (rightB L n)) ∧ Below w.heap.size w w' := by
 have hx1 := hx.1; have hx2 := hx.2.1
 unfold maxLen at hx2
 have HX := Lib.hid hx; have HB := Lib.hid hB; have HV := Lib.hid hv; have HOK := Lib.hid hok; clear hx hB hv hok
 have HLA := Lib.hid (show ∀ d ∈ L, d.attrs.length ≤ 1000000 from fun d hd => attrs_le (HV.out.chk d hd))
 go_enter Tryz.func27, Tryz.ntmps27
 go_upto_region 1 with fail
 obtain ⟨w1, hw1⟩ : ∃ w1, w.alloc (.cells #[.slice A L.length c] 57) = w1 := ⟨_, rfl⟩
 have hbw1 : Below w.heap.size w w1 := by rw [← hw1]; exact (Below.refl _ _).alloc (Nat.le_refl _) _
 have HGw1 := Lib.hid (show w1.heap.size = w.heap.size + 1 by rw [← hw1]; simp)
 have HXtw1 := Lib.hid (show BoxL w1 w.heap.size [.slice A L.length c] from box_mk hw1)
 try simp only [hw1]
 have HBw1 := Lib.hid hbw1
 clear hw1 hbw1
 try rw [show w.heap.size + 1 = w1.heap.size from HGw1.out.symm]
 have ct0 := HXtw1.out.1 0 _ rfl
 go_wp2_with fail
 refine (TFind_any A c L (n) _ B (Nat.le_trans HB.out HBw1.out.size) (HX.out.keep (HBw1.out.mono HB.out)) HLA.out).mono ?_
 rintro e w2 ⟨hbw2, d, A3, c3, hd, rfl, hod, hsd⟩
 clear ct0
 have HBw2 := Lib.hid (HBw1.out.trans (hbw2.mono HBw1.out.size))
 have tw2 := Lib.hid (HXtw1.out.kept (grown_none hbw2) (fun e => by cases e))
 clear hbw2
 have ct0 := tw2.out.1 0 _ rfl
 have Hd := Lib.hid (show d = (findD L (n)).getD zeroD from hd); have HOd := Lib.hid hod
 have HSd := Lib.hid (show Sl w2 w2.heap.size A3 c3 d.attrs from hsd.sl (fun x hx => hx.2))
 clear hd hod hsd
 obtain ⟨qd, hqd⟩ : ∃ q, (L.find? (byIdx (n))).isSome = q := ⟨_, rfl⟩
 rw [hqd]
 clear hqd
 go_upto_region 2 with fail
 obtain ⟨w3, hw3⟩ : ∃ w3, w2.alloc (.cells #[.int .i64 d.idx, .int .i64 d.par, .string d.nm, .string d.orig, .string d.sub, .string d.drv, .string d.ali, .int .i64 d.kind, .int .i64 d.num, .slice A3 d.attrs.length c3] 43) = w3 := ⟨_, rfl⟩
 have hbw3 : Below w2.heap.size w2 w3 := by rw [← hw3]; exact (Below.refl _ _).alloc (Nat.le_refl _) _
 have HGw3 := Lib.hid (show w3.heap.size = w2.heap.size + 1 by rw [← hw3]; simp)
 have HXaw3 := Lib.hid (show BoxL w3 w2.heap.size [.int .i64 d.idx, .int .i64 d.par, .string d.nm, .string d.orig, .string d.sub, .string d.drv, .string d.ali, .int .i64 d.kind, .int .i64 d.num, .slice A3 d.attrs.length c3] from box_mk hw3)
 try simp only [hw3]
 have HBw3 := Lib.hid (HBw2.out.trans (hbw3.mono HBw2.out.size))
 have tw3 := Lib.hid (tw2.out.kept (grown_none hbw3) (fun e => by cases e))
 have HSdw3 := Lib.hid ((HSd.out).next (Nat.le_refl _) hbw3)
 clear hw3 hbw3
 try rw [show w2.heap.size + 1 = w3.heap.size from HGw3.out.symm]
 clear ct0
 have ct0 := tw3.out.1 0 _ rfl
 have ca0 := HXaw3.out.1 0 _ rfl
 have ca1 := HXaw3.out.1 1 _ rfl
 have ca2 := HXaw3.out.1 2 _ rfl
 have ca3 := HXaw3.out.1 3 _ rfl
 have ca4 := HXaw3.out.1 4 _ rfl
 have ca5 := HXaw3.out.1 5 _ rfl
 have ca6 := HXaw3.out.1 6 _ rfl
 have ca7 := HXaw3.out.1 7 _ rfl
 have ca8 := HXaw3.out.1 8 _ rfl
 have ca9 := HXaw3.out.1 9 _ rfl
 go_wp2_with fail
 refine (TFind_any A c L (d.par) _ B (Nat.le_trans HB.out HBw3.out.size) (HX.out.keep (HBw3.out.mono HB.out)) HLA.out).mono ?_
 rintro e w4 ⟨hbw4, p, A4, c4, hp, rfl, hop, hsp⟩
 clear ct0 ca0 ca1 ca2 ca3 ca4 ca5 ca6 ca7 ca8 ca9
 have HBw4 := Lib.hid (HBw3.out.trans (hbw4.mono HBw3.out.size))
 have tw4 := Lib.hid (tw3.out.kept (grown_none hbw4) (fun e => by cases e))
 have aw4 := Lib.hid (HXaw3.out.kept (grown_none hbw4) (fun e => by cases e))
 have HSdw4 := Lib.hid ((HSdw3.out).next (Nat.le_refl _) hbw4)
 clear hbw4
 have ct0 := tw4.out.1 0 _ rfl
 have ca0 := aw4.out.1 0 _ rfl
 have ca1 := aw4.out.1 1 _ rfl
 have ca2 := aw4.out.1 2 _ rfl
 have ca3 := aw4.out.1 3 _ rfl
 have ca4 := aw4.out.1 4 _ rfl
 have ca5 := aw4.out.1 5 _ rfl
 have ca6 := aw4.out.1 6 _ rfl
 have ca7 := aw4.out.1 7 _ rfl
 have ca8 := aw4.out.1 8 _ rfl
 have ca9 := aw4.out.1 9 _ rfl
 have Hp := Lib.hid (show p = (findD L (d.par)).getD zeroD from hp); have HOp := Lib.hid hop
 have HSp := Lib.hid (show Sl w4 w4.heap.size A4 c4 p.attrs from hsp.sl (fun x hx => hx.2))
 clear hp hop hsp
 obtain ⟨qp, hqp⟩ : ∃ q, (L.find? (byIdx (d.par))).isSome = q := ⟨_, rfl⟩
 rw [hqp]
 clear hqp
 go_upto_region 3 with fail
 obtain ⟨w5, hw5⟩ : ∃ w5, w4.alloc (.cells #[.int .i64 p.idx, .int .i64 p.par, .string p.nm, .string p.orig, .string p.sub, .string p.drv, .string p.ali, .int .i64 p.kind, .int .i64 p.num, .slice A4 p.attrs.length c4] 43) = w5 := ⟨_, rfl⟩
 have hbw5 : Below w4.heap.size w4 w5 := by rw [← hw5]; exact (Below.refl _ _).alloc (Nat.le_refl _) _
 have HGw5 := Lib.hid (show w5.heap.size = w4.heap.size + 1 by rw [← hw5]; simp)
 have HXbw5 := Lib.hid (show BoxL w5 w4.heap.size [.int .i64 p.idx, .int .i64 p.par, .string p.nm, .string p.orig, .string p.sub, .string p.drv, .string p.ali, .int .i64 p.kind, .int .i64 p.num, .slice A4 p.attrs.length c4] from box_mk hw5)
 try simp only [hw5]
 have HBw5 := Lib.hid (HBw4.out.trans (hbw5.mono HBw4.out.size))
 have tw5 := Lib.hid (tw4.out.kept (grown_none hbw5) (fun e => by cases e))
 have aw5 := Lib.hid (aw4.out.kept (grown_none hbw5) (fun e => by cases e))
 have HSdw5 := Lib.hid ((HSdw4.out).next (Nat.le_refl _) hbw5)
 have HSpw5 := Lib.hid ((HSp.out).next (Nat.le_refl _) hbw5)
 clear hw5 hbw5
 try rw [show w4.heap.size + 1 = w5.heap.size from HGw5.out.symm]
 clear ct0 ca0 ca1 ca2 ca3 ca4 ca5 ca6 ca7 ca8 ca9
 have ct0 := tw5.out.1 0 _ rfl
 have ca0 := aw5.out.1 0 _ rfl
 have ca1 := aw5.out.1 1 _ rfl
 have ca2 := aw5.out.1 2 _ rfl
 have ca3 := aw5.out.1 3 _ rfl
 have ca4 := aw5.out.1 4 _ rfl
 have ca5 := aw5.out.1 5 _ rfl
 have ca6 := aw5.out.1 6 _ rfl
 have ca7 := aw5.out.1 7 _ rfl
 have ca8 := aw5.out.1 8 _ rfl
 have ca9 := aw5.out.1 9 _ rfl
 have cb0 := HXbw5.out.1 0 _ rfl
 have cb1 := HXbw5.out.1 1 _ rfl
 have cb2 := HXbw5.out.1 2 _ rfl
 have cb3 := HXbw5.out.1 3 _ rfl
 have cb4 := HXbw5.out.1 4 _ rfl
 have cb5 := HXbw5.out.1 5 _ rfl
 have cb6 := HXbw5.out.1 6 _ rfl
 have cb7 := HXbw5.out.1 7 _ rfl
 have cb8 := HXbw5.out.1 8 _ rfl
 have cb9 := HXbw5.out.1 9 _ rfl
 go_wp2_with fail
 refine (Partition_any A c L n _ B (Nat.le_trans HB.out HBw5.out.size) (HX.out.keep (HBw5.out.mono HB.out)) HV.out (ok7_a (HOK.out.below HBw5.out))).mono ?_
 rintro e w9 ⟨rfl, hb_⟩
 clear ct0 ca0 ca1 ca2 ca3 ca4 ca5 ca6 ca7 ca8 ca9 cb0 cb1 cb2 cb3 cb4 cb5 cb6 cb7 cb8 cb9
 have HBw9 := Lib.hid (HBw5.out.trans (hb_.mono HBw5.out.size))
 have tw9 := Lib.hid (tw5.out.kept (grown_none hb_) (fun e => by cases e))
 have aw9 := Lib.hid (aw5.out.kept (grown_none hb_) (fun e => by cases e))
 have bw9 := Lib.hid (HXbw5.out.kept (grown_none hb_) (fun e => by cases e))
 have HSdw9 := Lib.hid ((HSdw5.out).next (Nat.le_refl _) hb_)
 have HSpw9 := Lib.hid ((HSpw5.out).next (Nat.le_refl _) hb_)
 clear hb_
 by_cases h0 : partO L n = 0
 ·
  have HR := Lib.hid (right_zero h0)
  rw [h0]
  clear h0
  go_wp2
  go_ret
  exact ⟨by rw [HR.out]; rfl, HBw9.out⟩
 ·
  have hd0 : decide (partO L n ≠ 0) = true := decide_eq_true h0
  rw [hd0]
  obtain ⟨z0, hz0⟩ : ∃ z, (partO L n : Int) = z := ⟨_, rfl⟩
  rw [hz0]
  have HP0 := Lib.hid h0; clear h0 hd0 hz0
  have HSP := Lib.hid (show p.orig.size ≤ maxLen - 30 by have := findD_small HV.out d.par; rw [← Hp.out] at this; unfold maxLen; omega)
  have ct0 := tw9.out.1 0 _ rfl
  have ca0 := aw9.out.1 0 _ rfl
  have ca1 := aw9.out.1 1 _ rfl
  have ca2 := aw9.out.1 2 _ rfl
  have ca3 := aw9.out.1 3 _ rfl
  have ca4 := aw9.out.1 4 _ rfl
  have ca5 := aw9.out.1 5 _ rfl
  have ca6 := aw9.out.1 6 _ rfl
  have ca7 := aw9.out.1 7 _ rfl
  have ca8 := aw9.out.1 8 _ rfl
  have ca9 := aw9.out.1 9 _ rfl
  have cb0 := bw9.out.1 0 _ rfl
  have cb1 := bw9.out.1 1 _ rfl
  have cb2 := bw9.out.1 2 _ rfl
  have cb3 := bw9.out.1 3 _ rfl
  have cb4 := bw9.out.1 4 _ rfl
  have cb5 := bw9.out.1 5 _ rfl
  have cb6 := bw9.out.1 6 _ rfl
  have cb7 := bw9.out.1 7 _ rfl
  have cb8 := bw9.out.1 8 _ rfl
  have cb9 := bw9.out.1 9 _ rfl
  go_wp2_with fail
  refine (Get_any A3 c3 d.attrs ⟨#[99, 111, 110, 116, 101, 110, 116]⟩ _ w9.heap.size (Nat.le_refl _) HSdw9.out).mono ?_
  rintro e wt ⟨rfl, hbwt⟩
  clear ct0 ca0 ca1 ca2 ca3 ca4 ca5 ca6 ca7 ca8 ca9 cb0 cb1 cb2 cb3 cb4 cb5 cb6 cb7 cb8 cb9
  have HBwt := Lib.hid (HBw9.out.trans (hbwt.mono HBw9.out.size))
  have twt := Lib.hid (tw9.out.kept (grown_none hbwt) (fun e => by cases e))
  have awt := Lib.hid (aw9.out.kept (grown_none hbwt) (fun e => by cases e))
  have bwt := Lib.hid (bw9.out.kept (grown_none hbwt) (fun e => by cases e))
  have HSdwt := Lib.hid ((HSdw9.out).next (Nat.le_refl _) hbwt)
  have HSpwt := Lib.hid ((HSpw9.out).next (Nat.le_refl _) hbwt)
  clear hbwt
  have ct0 := twt.out.1 0 _ rfl
  have ca0 := awt.out.1 0 _ rfl
  have ca1 := awt.out.1 1 _ rfl
  have ca2 := awt.out.1 2 _ rfl
  have ca3 := awt.out.1 3 _ rfl
  have ca4 := awt.out.1 4 _ rfl
  have ca5 := awt.out.1 5 _ rfl
  have ca6 := awt.out.1 6 _ rfl
  have ca7 := awt.out.1 7 _ rfl
  have ca8 := awt.out.1 8 _ rfl
  have ca9 := awt.out.1 9 _ rfl
  have cb0 := bwt.out.1 0 _ rfl
  have cb1 := bwt.out.1 1 _ rfl
  have cb2 := bwt.out.1 2 _ rfl
  have cb3 := bwt.out.1 3 _ rfl
  have cb4 := bwt.out.1 4 _ rfl
  have cb5 := bwt.out.1 5 _ rfl
  have cb6 := bwt.out.1 6 _ rfl
  have cb7 := bwt.out.1 7 _ rfl
  have cb8 := bwt.out.1 8 _ rfl
  have cb9 := bwt.out.1 9 _ rfl
  obtain ⟨t, ht⟩ : ∃ z, contD d = z := ⟨_, rfl⟩
  rw [show (getA d.attrs ⟨#[99, 111, 110, 116, 101, 110, 116]⟩).getD ByteArray.empty = t from ht]
  have HT := Lib.hid ht; clear ht
  go_wp2_with fail
  refine (Wants_any A4 c4 p ⟨#[]⟩ 0 _ wt.heap.size (Nat.le_refl _) HSpwt.out (HOK.out.below HBwt.out) HSP.out (by show (0 : Nat) ≤ maxLen; omega) (by unfold okI; omega)).mono ?_
  rintro e wv ⟨hb_, v_, rfl, hown_⟩
  obtain ⟨V, hV⟩ : ∃ z, wantsD p ByteArray.empty 0 = z := ⟨_, rfl⟩
  rw [show wantsD p ⟨#[]⟩ 0 = V from hV] at hown_
  obtain ⟨A8, c8, rfl, hs_⟩ := hown_.sl
  clear ct0 ca0 ca1 ca2 ca3 ca4 ca5 ca6 ca7 ca8 ca9 cb0 cb1 cb2 cb3 cb4 cb5 cb6 cb7 cb8 cb9
  have HBwv := Lib.hid (HBwt.out.trans (hb_.mono HBwt.out.size))
  have twv := Lib.hid (twt.out.kept (grown_none hb_) (fun e => by cases e))
  have awv := Lib.hid (awt.out.kept (grown_none hb_) (fun e => by cases e))
  have bwv := Lib.hid (bwt.out.kept (grown_none hb_) (fun e => by cases e))
  have HSdwv := Lib.hid ((HSdwt.out).next (Nat.le_refl _) hb_)
  have HSpwv := Lib.hid ((HSpwt.out).next (Nat.le_refl _) hb_)
  have HVV := Lib.hid hs_; have HVE := Lib.hid hV; clear hs_ hV hown_ hb_
  have hl0 := HVV.out.1; have hl1 := HVV.out.2.1
  unfold maxLen at hl1
  have HRT := Lib.hid (show rightB L n = rightP V d.orig t by rw [← HT.out]; exact right_ofP HP0.out Hd.out Hp.out HVE.out)
  go_wp2_with fail
  go_loopw [45] (fun i wr => ∃ k : Nat, k ≤ V.length ∧ i = .int .i64 (k : Int) ∧ Hid (Below wv.heap.size wv wr) ∧ Hid (rightP V d.orig t = rightP (V.drop k) d.orig t)) (fun i _ => V.length - (intOf i).toNat)
  case atStart => exact ⟨0, Nat.zero_le _, rfl, Below.refl _ _, rfl⟩
  case round =>
   obtain ⟨k, hk, rfl, HBR, HA⟩ := hrel
   have HBwr := Lib.hid (HBwv.out.trans (HBR.out.mono HBwv.out.size)); have awr := Lib.hid (awv.out.kept (grown_none HBR.out) (fun e => by cases e))
   by_cases hlt : k < V.length
   ·
    have i1 : (k : Int) < (V.length : Int) := by omega
    obtain ⟨b, o, rfl, -, -, a0, a1, a2, a3⟩ := (HVV.out.next (Nat.le_refl _) HBR.out).virt hlt
    obtain ⟨y, hy⟩ : ∃ y, V[k]'hlt = y := ⟨_, rfl⟩
    rw [hy] at a0 a1 a2 a3
    have HY := Lib.hid hy; have HLT := Lib.hid hlt; clear hy
    go_upto_region 10 with fail
    obtain ⟨w6, hw6⟩ : ∃ w6, wr.alloc (.cells #[.string y.par, .string y.orig, .string y.cont, .int .i64 y.round] 46) = w6 := ⟨_, rfl⟩
    have hbw6 : Below wr.heap.size wr w6 := by rw [← hw6]; exact (Below.refl _ _).alloc (Nat.le_refl _) _
    have HGw6 := Lib.hid (show w6.heap.size = wr.heap.size + 1 by rw [← hw6]; simp)
    have HXvw6 := Lib.hid (show BoxL w6 wr.heap.size [.string y.par, .string y.orig, .string y.cont, .int .i64 y.round] from box_mk hw6)
    try simp only [hw6]
    have HBw6 := Lib.hid (HBwr.out.trans (hbw6.mono HBwr.out.size))
    have aw6 := Lib.hid (awr.out.kept (grown_none hbw6) (fun e => by cases e))
    have HBRw6 := Lib.hid (below_more HBR.out hbw6)
    clear hw6 hbw6
    try rw [show wr.heap.size + 1 = w6.heap.size from HGw6.out.symm]
    clear a0 a1 a2 a3
    have ca3 := aw6.out.1 3 _ rfl
    have cv1 := HXvw6.out.1 1 _ rfl
    have cv2 := HXvw6.out.1 2 _ rfl
    by_cases hn : y.orig = d.orig
    ·
     have p1 : (y.orig.toList == d.orig.toList) = true := by rw [ba_beq]; exact decide_eq_true hn
     have p2 : (y.cont.toList == t.toList) = decide (y.cont = t) := ba_beq _ _
     obtain ⟨z, hz⟩ : ∃ z, decide (y.cont = t) = z := ⟨_, rfl⟩
     rw [hz] at p2
     have HG := Lib.hid (show rightB L n = z by rw [HRT.out, HA.out, rightP_yes HLT.out HY.out hn, hz]); clear hn hz
     go_wp2
     go_ret
     exact ⟨by rw [HG.out]; rfl, HBw6.out⟩
    ·
     have p1 : (y.orig.toList == d.orig.toList) = false := by rw [ba_beq]; exact decide_eq_false hn
     have HG := Lib.hid (show rightP V d.orig t = rightP (V.drop (k + 1)) d.orig t by rw [HA.out]; exact rightP_no HLT.out HY.out hn); clear hn
     go_wp2
     go_roundw
     case rel => exact ⟨k + 1, by have := HLT.out; omega, by go_num, HBRw6, HG⟩
     case measure => have := HLT.out; simp [intOf]; omega
   ·
    have i1 : ¬ (k : Int) < (V.length : Int) := by omega
    have HG := Lib.hid (show rightB L n = false by rw [HRT.out, HA.out, show k = V.length by omega, List.drop_length]; rfl)
    go_wp2
    go_ret
    exact ⟨by rw [HG.out]; rfl, HBwr.out⟩
end Go.Proofs.YtehmidmoiamcfaaGreatDoor
namespace Go.Proofs.YtehmidmoiamcfaaGreatDoor
open Go.RowKit Go.Cold
end Go.Proofs.YtehmidmoiamcfaaGreatDoor
