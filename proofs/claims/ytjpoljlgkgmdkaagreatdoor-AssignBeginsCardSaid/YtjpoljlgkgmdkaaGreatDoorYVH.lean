/-
  The walks of the editor's methods of package assign: env, more, tag, mode, run, priority.
-/
import Derived.Test.YtjpoljlgkgmdkaaGreatDoorYN
import Derived.Test.YtjpoljlgkgmdkaaGreatDoorYVB
import Derived.Test.YtjpoljlgkgmdkaaGreatDoorYSE
import Derived.Lib.BufferMore
import Derived.Test.YtjpoljlgkgmdkaaGreatDoorYVD
import Derived.Test.YtjpoljlgkgmdkaaGreatDoorYVC
set_option linter.unusedSimpArgs false
set_option linter.unusedVariables false
namespace Go.Cold
open Go Go.RowKit Go.Proofs.YtjpoljlgkgmdkaaGreatDoor
theorem setE_skip {d : Draft} {n v : ByteArray} (hs : sortedA d.props = true) (h : baseK n = true ∨ textB v = false ∨ (getA d.props n = none ∧ 64 ≤ d.props.length)) : setD d n v = d := (setD_env hs n v).trans (if_pos h)
theorem setE_set {d : Draft} {n v : ByteArray} (hs : sortedA d.props = true) (h : ¬ (baseK n = true ∨ textB v = false ∨ (getA d.props n = none ∧ 64 ≤ d.props.length))) : setD d n v = { d with props := setA d.props n v } := (setD_env hs n v).trans (if_neg h)
theorem setE_go {d : Draft} {n v : ByteArray} (hs : sortedA d.props = true) (h1 : baseK n = false) (h2 : textB v = true) (h3 : getA d.props n ≠ none ∨ ¬ 64 ≤ d.props.length) : setD d n v = { d with props := setA d.props n v } := setE_set hs (by
 rintro (q | q | q)
 · rw [h1] at q; cases q
 · rw [h2] at q; cases q
 ·
  rcases h3 with h3 | h3
  · exact h3 q.1
  · exact h3 q.2)
theorem none_some {α : Type} {o : Option α} {b : Bool} (h : o.isSome = b) : (b = false → o = none) ∧ (b = true → o ≠ none) := by cases o <;> cases b <;> simp_all
def moreD (d : Draft) (n v : ByteArray) : Draft := if v.toList.isEmpty = true then d else match getA d.props n with | some old => setD d n (cutT ((old ++ ⟨#[32]⟩) ++ v)) | none => setD d n v
theorem more_e {d : Draft} {n v : ByteArray} (h : v.toList.isEmpty = true) : moreD d n v = d := if_pos h
theorem more_n {d : Draft} {n v : ByteArray} (h : v.toList.isEmpty = false) (hg : getA d.props n = none) : moreD d n v = setD d n v := by unfold moreD; rw [if_neg (by rw [h]; decide), hg]
theorem more_s {d : Draft} {n v old : ByteArray} (h : v.toList.isEmpty = false) (hg : getA d.props n = some old) : moreD d n v = setD d n (cutT ((old ++ ⟨#[32]⟩) ++ v)) := by unfold moreD; rw [if_neg (by rw [h]; decide), hg]
def tagD (d : Draft) (op : Int) (v : ByteArray) : Draft := if validB v = false then d else if op = 3 then { d with tags := [v] } else if op = 4 then { d with tags := putT d.tags v 16 } else { d with tags := withoutT d.tags v }
theorem tag_no {d : Draft} {op : Int} {v : ByteArray} (h : validB v = false) : tagD d op v = d := if_pos h
theorem tag_3 {d : Draft} {op : Int} {v : ByteArray} (h : validB v = true) (h3 : op = 3) : tagD d op v = { d with tags := [v] } := by unfold tagD; rw [if_neg (by rw [h]; decide), if_pos h3]
theorem tag_4 {d : Draft} {op : Int} {v : ByteArray} (h : validB v = true) (h3 : ¬ op = 3) (h4 : op = 4) : tagD d op v = { d with tags := putT d.tags v 16 } := by unfold tagD; rw [if_neg (by rw [h]; decide), if_neg h3, if_pos h4]
theorem tag_5 {d : Draft} {op : Int} {v : ByteArray} (h : validB v = true) (h3 : ¬ op = 3) (h4 : ¬ op = 4) : tagD d op v = { d with tags := withoutT d.tags v } := by unfold tagD; rw [if_neg (by rw [h]; decide), if_neg h3, if_neg h4]
theorem own_text1 {F : Nat → Prop} {w w' : World} {T : TypeId} {v : ByteArray} (h : w.alloc (.cells #[.string v] T) = w') (hv : v.size ≤ maxLen) : OwnsS F w' w.heap.size T (.slice (some ⟨w.heap.size, 0, none⟩) 1 1) [v] := by
 have h1 := World.ownsRow_lit (base := w.heap.size) (e := T) (size := 1) w #[.string v] 1 (Nat.le_refl _) (by unfold maxLen; omega) rfl
 rw [h] at h1
 refine ⟨[[.string v]], h1, rfl, fun i x cs hx hcs => ?_⟩
 have h0 : i = 0 := by have := (List.getElem?_eq_some_iff.1 hx).1; simp at this; exact this
 subst h0
 obtain rfl := Option.some.inj hx
 obtain rfl := Option.some.inj hcs
 exact ⟨rfl, hv⟩
end Go.Cold
namespace Go.Proofs.YtjpoljlgkgmdkaaGreatDoor
open Go.RowKit Go.Cold
set_option maxRecDepth 100000 in
set_option maxHeartbeats 4000000 in
theorem env_any (P : Nat → Prop) (base X : Nat) (d : Draft) (n v : ByteArray) (w : World) (he : EdQ 53 9 35 P w base X d) (hs : sortedA d.props = true) (hl : d.props.length ≤ 1000) (hn : n.size ≤ maxLen) (hv : v.size ≤ maxLen) :
  Calls Tryz.prog 59 #[.pointer (some ⟨X, 0, none⟩), .string n, .string v] w (EPost 53 9 35 P base X (setD d n v) w) := by
 obtain ⟨h, ho_⟩ := he.open
 have HO := Lib.hid ho_
 have HS := Lib.hid hs
 have HL := Lib.hid hl
 have HN := Lib.hid hn
 have HV := Lib.hid hv
 clear he ho_ hs hl hn hv
 go_enter Tryz.func59, Tryz.ntmps59
 have cx0 := HO.out.2.1.1 0 _ rfl
 go_wp2_with fail
 refine (Get_any h.a0 h.c0 d.props n _ w.heap.size (Nat.le_refl _) HO.out.2.2.2.2.1).mono ?_
 rintro e w1 ⟨rfl, hbw1⟩
 clear cx0
 have HSw1 := Lib.hid (show w.heap.size ≤ w1.heap.size from hbw1.size)
 have HBw1 := Lib.hid hbw1
 have HOw1 := Lib.hid (EdO.below HO.out hbw1)
 clear hbw1
 obtain ⟨so, h_⟩ : ∃ z, (getA d.props n).getD ByteArray.empty = z := ⟨_, rfl⟩
 rw [h_]
 have HSO := Lib.hid h_; clear h_
 obtain ⟨bo, h_⟩ : ∃ z, (getA d.props n).isSome = z := ⟨_, rfl⟩
 rw [h_]
 have HBO := Lib.hid h_; clear h_
 go_wp2_with fail
 refine (BKey_any n _).mono ?_
 rintro e w2 ⟨rfl, hbw2⟩
 have HSw2 := Lib.hid (show w1.heap.size ≤ w2.heap.size from hbw2.size)
 have HBw2 := Lib.hid (HBw1.out.trans (hbw2.mono HBw1.out.size))
 have HOw2 := Lib.hid (EdO.below HOw1.out hbw2)
 clear hbw2
 obtain ⟨bk, h_⟩ : ∃ z, baseK n = z := ⟨_, rfl⟩
 rw [h_]
 have HBK := Lib.hid h_; clear h_
 cases bk
 case false =>
  go_wp2_with fail
  refine (Text_any v _ HV.out).mono ?_
  rintro e w_ ⟨rfl, hw_⟩
  rw [← hw_]; clear hw_ w_
  obtain ⟨tx, h_⟩ : ∃ z, textB v = z := ⟨_, rfl⟩
  rw [h_]
  have HTX := Lib.hid h_; clear h_
  cases tx
  case false =>
   have HE := Lib.hid (setE_skip (n := n) HS.out (.inr (.inl HTX.out)))
   go_wp2
   go_end0
   exact ⟨rfl, by rw [HE.out]; exact HOw2.out.kq⟩
  case true =>
   cases bo
   case false =>
    by_cases h64 : 64 ≤ d.props.length
    ·
     have i64 : (64 : Int) ≤ (d.props.length : Int) := by omega
     have HE := Lib.hid (setE_skip (v := v) HS.out (.inr (.inr ⟨(none_some HBO.out).1 rfl, h64⟩))); clear h64
     have cx0 := HOw2.out.2.1.1 0 _ rfl
     go_wp2
     go_end0
     exact ⟨rfl, by rw [HE.out]; exact HOw2.out.kq⟩
    ·
     have i64 : ¬ (64 : Int) ≤ (d.props.length : Int) := by omega
     have H64 := Lib.hid h64; clear h64
     have HE := Lib.hid (setE_go (n := n) (v := v) HS.out HBK.out HTX.out (.inr H64.out))
     have cx0 := HOw2.out.2.1.1 0 _ rfl
     go_wp2_with fail
     refine (DSet_any h.a0 h.c0 d.props n v _ w2.heap.size (Nat.le_refl _) HOw2.out.2.2.2.2.1 HS.out HL.out HN.out HV.out).mono ?_
     rintro e w9 ⟨hb9, v9, rfl, how_⟩
     have hg9 := hb9
     obtain ⟨A9, c9, hv_, -⟩ := how_.sl
     subst hv_
     have hbx9 := HOw2.out.2.1.kept (grown_none hb9) (fun e => by cases e)
     have HFIN := Lib.hid (EdO.row0 HOw2.out (how_.low (Nat.le_of_lt (Nat.lt_of_le_of_lt HOw2.out.2.2.1.bx HOw2.out.2.2.1.xl))) (grown_wide (grown_none hb9)) (fun q hq => .inr (how_.lt q hq).1))
     clear cx0
     have cx0 := hbx9.1 0 _ rfl
     have cfx := hbx9.2.1
     clear how_ hbx9 hg9 hb9
     go_wp2
     go_end0
     exact ⟨rfl, by rw [HE.out]; exact HFIN.out⟩
   case true =>
    have HE := Lib.hid (setE_go (n := n) (v := v) HS.out HBK.out HTX.out (.inl ((none_some HBO.out).2 rfl)))
    have cx0 := HOw2.out.2.1.1 0 _ rfl
    go_wp2_with fail
    refine (DSet_any h.a0 h.c0 d.props n v _ w2.heap.size (Nat.le_refl _) HOw2.out.2.2.2.2.1 HS.out HL.out HN.out HV.out).mono ?_
    rintro e w9 ⟨hb9, v9, rfl, how_⟩
    have hg9 := hb9
    obtain ⟨A9, c9, hv_, -⟩ := how_.sl
    subst hv_
    have hbx9 := HOw2.out.2.1.kept (grown_none hb9) (fun e => by cases e)
    have HFIN := Lib.hid (EdO.row0 HOw2.out (how_.low (Nat.le_of_lt (Nat.lt_of_le_of_lt HOw2.out.2.2.1.bx HOw2.out.2.2.1.xl))) (grown_wide (grown_none hb9)) (fun q hq => .inr (how_.lt q hq).1))
    clear cx0
    have cx0 := hbx9.1 0 _ rfl
    have cfx := hbx9.2.1
    clear how_ hbx9 hg9 hb9
    go_wp2
    go_end0
    exact ⟨rfl, by rw [HE.out]; exact HFIN.out⟩
 case true =>
  have HE := Lib.hid (setE_skip (v := v) HS.out (.inl HBK.out))
  go_wp2
  go_end0
  exact ⟨rfl, by rw [HE.out]; exact HOw2.out.kq⟩
set_option maxRecDepth 100000 in
set_option maxHeartbeats 4000000 in
theorem tag_any (P : Nat → Prop) (base X : Nat) (d : Draft) (op : Int) (v : ByteArray) (w : World) (he : EdQ 53 9 35 P w base X d) (ha : ascL d.tags = true) (hl : d.tags.length ≤ 1000) (hv : v.size ≤ maxLen) (hop : op = 3 ∨ op = 4 ∨ op = 5) :
  Calls Tryz.prog 75 #[.pointer (some ⟨X, 0, none⟩), .int .i64 op, .string v] w (EPost 53 9 35 P base X (tagD d op v) w) := by
 obtain ⟨h, ho_⟩ := he.open
 have HO := Lib.hid ho_
 have HL := Lib.hid hl
 have HV := Lib.hid hv
 have HA := Lib.hid ha
 have HOP := Lib.hid hop
 clear he ho_ hl hv ha hop
 go_enter Tryz.func75, Tryz.ntmps75
 go_wp2_with fail
 refine (Valid_any v _ HV.out).mono ?_
 rintro e w1 ⟨rfl, hbw1⟩
 have HSw1 := Lib.hid (show w.heap.size ≤ w1.heap.size from hbw1.size)
 have HBw1 := Lib.hid hbw1
 have HOw1 := Lib.hid (EdO.below HO.out hbw1)
 clear hbw1
 obtain ⟨bv, h_⟩ : ∃ z, validB v = z := ⟨_, rfl⟩
 rw [h_]
 have HBV := Lib.hid h_; clear h_
 cases bv
 case false =>
  have HE := Lib.hid (tag_no (d := d) (op := op) HBV.out)
  go_wp2
  go_end0
  exact ⟨rfl, by rw [HE.out]; exact HOw1.out.kq⟩
 case true =>
  by_cases o3 : op = 3
  ·
   have oe3 : (op == 3) = true := by rw [o3]; rfl
   have HE := Lib.hid (tag_3 (d := d) HBV.out o3); clear o3
   obtain ⟨w8, hw8⟩ : ∃ z, w1.alloc (.cells #[.string v] 9) = z := ⟨_, rfl⟩
   have hb8 : Below w1.heap.size w1 w8 := by rw [← hw8]; exact (Below.refl _ _).alloc (Nat.le_refl _) _
   have how := own_text1 (F := fun _ => False) hw8 HV.out
   have hbx9 := HOw1.out.2.1.kept (grown_none hb8) (fun e => by cases e)
   have HFIN := Lib.hid (EdO.row1 HOw1.out (how.low (Nat.le_of_lt (Nat.lt_of_le_of_lt HOw1.out.2.2.1.bx HOw1.out.2.2.1.xl))) (grown_wide (grown_none hb8)) (fun q hq => .inr (how.lt q hq).1))
   have cx1 := hbx9.1 1 _ rfl
   have cfx := hbx9.2.1
   clear how hb8 hbx9
   go_wp2
   go_end0
   exact ⟨rfl, by rw [HE.out]; exact HFIN.out⟩
  ·
   have oe3 : (op == 3) = false := by simpa using o3
   by_cases o4 : op = 4
   ·
    have oe4 : (op == 4) = true := by rw [o4]; rfl
    have HE := Lib.hid (tag_4 (d := d) HBV.out o3 o4); clear o3 o4
    have cx1 := HOw1.out.2.1.1 1 _ rfl
    go_wp2_with fail
    refine (put_any base _ d.tags v _ HOw1.out.2.2.1.o1 HA.out HL.out HV.out (Nat.le_of_lt (Nat.lt_of_le_of_lt HOw1.out.2.2.1.bx HOw1.out.2.2.1.xl))).mono ?_
    rintro e w9 ⟨v9, rfl, how_, hg9, hn9⟩
    obtain ⟨A9, c9, hv_, -⟩ := how_.sl
    subst hv_
    have hbx9 := HOw1.out.2.1.kept hg9 (fun e => HOw1.out.2.2.1.x1 e.symm)
    have HFIN := Lib.hid (EdO.row1 HOw1.out how_ hg9 hn9)
    clear cx1
    have cx1 := hbx9.1 1 _ rfl
    have cfx := hbx9.2.1
    clear how_ hbx9 hg9 hn9
    go_wp2
    go_end0
    exact ⟨rfl, by rw [HE.out]; exact HFIN.out⟩
   ·
    have oe4 : (op == 4) = false := by simpa using o4
    have o5 : op = 5 := by have := HOP.out; omega
    have oe5 : (op == 5) = true := by rw [o5]; rfl
    have HE := Lib.hid (tag_5 (d := d) HBV.out o3 o4); clear o3 o4 o5
    have cx1 := HOw1.out.2.1.1 1 _ rfl
    go_wp2_with fail
    refine (drop_any base _ d.tags v _ HOw1.out.2.2.1.o1 HL.out (Nat.le_of_lt (Nat.lt_of_le_of_lt HOw1.out.2.2.1.bx HOw1.out.2.2.1.xl))).mono ?_
    rintro e w9 ⟨v9, rfl, how_, hg9, hn9⟩
    obtain ⟨A9, c9, hv_, -⟩ := how_.sl
    subst hv_
    have hbx9 := HOw1.out.2.1.kept hg9 (fun e => HOw1.out.2.2.1.x1 e.symm)
    have HFIN := Lib.hid (EdO.row1 HOw1.out how_ hg9 hn9)
    clear cx1
    have cx1 := hbx9.1 1 _ rfl
    have cfx := hbx9.2.1
    clear how_ hbx9 hg9 hn9
    go_wp2
    go_end0
    exact ⟨rfl, by rw [HE.out]; exact HFIN.out⟩
end Go.Proofs.YtjpoljlgkgmdkaaGreatDoor
namespace Go.Cold
open Go Go.RowKit Go.Proofs.YtjpoljlgkgmdkaaGreatDoor
theorem good_size {xs : List Attr} (h : ∀ a ∈ xs, goodA a) {n v : ByteArray} (hg : getA xs n = some v) : v.size ≤ 256 := by
 have := (h _ (getA_mem hg)).2.1
 unfold textB at this
 rw [Bool.and_eq_true] at this
 exact of_decide_eq_true this.2
def runD (d : Draft) (op : Int) (v : ByteArray) : Draft := { d with run := (if fullT v = true ∧ (if op ≠ 4 then [] else d.run).length < 16 then (if op ≠ 4 then [] else d.run) ++ [v] else (if op ≠ 4 then [] else d.run)) }
theorem run_4n {d : Draft} {op : Int} {v : ByteArray} (h : op = 4) (hn : ¬ (fullT v = true ∧ d.run.length < 16)) : runD d op v = d := by
 unfold runD; rw [if_neg (show ¬ op ≠ 4 from fun h1 => h1 h), if_neg hn]
theorem run_4y {d : Draft} {op : Int} {v : ByteArray} (h : op = 4) (hn : fullT v = true ∧ d.run.length < 16) : runD d op v = { d with run := d.run ++ [v] } := by
 unfold runD; rw [if_neg (show ¬ op ≠ 4 from fun h1 => h1 h), if_pos hn]
theorem run_0n {d d1 : Draft} {op : Int} {v : ByteArray} (h : ¬ op = 4) (h1 : { d with run := [] } = d1) (hn : fullT v = false) : runD d op v = d1 := by
 unfold runD; rw [if_pos h, if_neg (by rw [hn]; rintro ⟨q, _⟩; cases q), h1]
theorem run_0y {d d1 : Draft} {op : Int} {v : ByteArray} (h : ¬ op = 4) (h1 : { d with run := [] } = d1) (hn : fullT v = true) : runD d op v = { d1 with run := d1.run ++ [v] } := by
 subst h1
 unfold runD; rw [if_pos h, if_pos ⟨hn, by simp⟩]
def modeD (d : Draft) (v : ByteArray) : Draft := match octT v with | some n => { d with mode := n } | none => d
theorem mode_y {d : Draft} {v : ByteArray} {n : Int} (h : puT v = some n) (hs : v.size ≤ 4) : modeD d v = { d with mode := n } := by
 have := mode_same v
 rw [if_pos hs, h] at this
 unfold modeD; rw [← this]
theorem mode_n {d : Draft} {v : ByteArray} (h : puT v = none ∨ ¬ v.size ≤ 4) : modeD d v = d := by
 have := mode_same v
 have h2 : octT v = none := by
  rw [← this]
  split
  ·
   rcases h with h | h
   · exact h
   · contradiction
  · rfl
 unfold modeD; rw [h2]
def prioD (d : Draft) (v : ByteArray) : Draft := match prioT v with | some n => { d with prio := n } | none => d
theorem prio_y {d : Draft} {v : ByteArray} {n : Int} (h : Lib.atoiAll v.data.toList = .ok n) (hi : Lib.itoa n = v.data.toList) (hr : -1000 ≤ n ∧ n ≤ 1000) : prioD d v = { d with prio := n } := by
 have hn : numP v = some n := by unfold numP; rw [h]; exact if_pos hi
 have := prio_same v
 rw [hn] at this
 simp only at this
 rw [if_pos hr] at this
 unfold prioD; rw [← this]
theorem prio_n {d : Draft} {v : ByteArray} (h : (numP v).isNone = true ∨ ∃ n, Lib.atoiAll v.data.toList = .ok n ∧ (¬ Lib.itoa n = v.data.toList ∨ ¬ (-1000 ≤ n ∧ n ≤ 1000))) : prioD d v = d := by
 have := prio_same v
 have h2 : prioT v = none := by
  rw [← this]
  cases hn : numP v with
  | none => rfl
  | some m =>
   rcases h with h | ⟨n, h1, h3⟩
   · rw [hn] at h; cases h
   ·
    unfold numP at hn
    rw [h1] at hn
    simp only at hn
    split at hn
    ·
     obtain rfl := Option.some.inj hn
     rcases h3 with h3 | h3
     · contradiction
     · simp only; rw [if_neg h3]
    · cases hn
 unfold prioD; rw [h2]
end Go.Cold
namespace Go.Proofs.YtjpoljlgkgmdkaaGreatDoor
open Go.RowKit Go.Cold
set_option maxRecDepth 100000 in
set_option maxHeartbeats 4000000 in
theorem more_any (P : Nat → Prop) (base X : Nat) (d : Draft) (n v : ByteArray) (w : World) (he : EdQ 53 9 35 P w base X d) (hs : sortedA d.props = true) (hl : d.props.length ≤ 1000) (hg : ∀ a ∈ d.props, goodA a) (hn : n.size ≤ maxLen) (hv : v.size ≤ 1000) :
  Calls Tryz.prog 74 #[.pointer (some ⟨X, 0, none⟩), .string n, .string v] w (EPost 53 9 35 P base X (moreD d n v) w) := by
 obtain ⟨h, ho_⟩ := he.open
 have HO := Lib.hid ho_
 have HS := Lib.hid hs
 have HL := Lib.hid hl
 have HG := Lib.hid hg
 have HN := Lib.hid hn
 have HV := Lib.hid hv
 clear he ho_ hs hl hg hn hv
 go_enter Tryz.func74, Tryz.ntmps74
 have cx0 := HO.out.2.1.1 0 _ rfl
 go_wp2_with fail
 refine (Get_any h.a0 h.c0 d.props n _ w.heap.size (Nat.le_refl _) HO.out.2.2.2.2.1).mono ?_
 rintro e w1 ⟨rfl, hbw1⟩
 clear cx0
 have HSw1 := Lib.hid (show w.heap.size ≤ w1.heap.size from hbw1.size)
 have HBw1 := Lib.hid hbw1
 have HOw1 := Lib.hid (EdO.below HO.out hbw1)
 clear hbw1
 obtain ⟨og, h_⟩ : ∃ z, getA d.props n = z := ⟨_, rfl⟩
 rw [h_]
 have HOG := Lib.hid h_; clear h_
 by_cases hve : v.toList.isEmpty = true
 ·
  obtain ⟨p1, p2⟩ := emptiesR hve
  have HVE := Lib.hid hve; clear hve
  have HE := Lib.hid (more_e (d := d) (n := n) HVE.out)
  go_wp2
  go_end0
  exact ⟨rfl, by rw [HE.out]; exact HOw1.out.kq⟩
 ·
  have hve2 : v.toList.isEmpty = false := by simpa using hve
  obtain ⟨p1, p2⟩ := emptiesR hve2
  have HVE := Lib.hid hve2; clear hve hve2
  cases og
  case none =>
   simp only [Option.getD_none, Option.isSome_none]
   have HE := Lib.hid (more_n HVE.out HOG.out)
   go_wp2_with fail
   refine (env_any P base X d n v _ HOw1.out.kq.2 HS.out HL.out HN.out (by have := HV.out; unfold maxLen; omega)).mono ?_
   rintro e w' ⟨rfl, hk_⟩
   have HFIN := Lib.hid (EdO.seq HOw1.out hk_)
   clear hk_
   go_wp2
   go_end0
   exact ⟨rfl, by rw [HE.out]; exact HFIN.out⟩
  case some old =>
   simp only [Option.getD_some, Option.isSome_some]
   have f0 := good_size HG.out HOG.out; have f1 := HV.out
   have f2 : ¬ 9223372036854775807 < old.size + 1 := by omega
   have f3 : ¬ 9223372036854775807 < old.size + 1 + v.size := by omega
   go_upto_region 4 with fail
   obtain ⟨sx, hsx⟩ : ∃ z, (old ++ ⟨#[32]⟩) ++ v = z := ⟨_, rfl⟩
   try rw [hsx]
   have HSX := Lib.hid hsx
   have f4 : sx.size ≤ 100000 := by rw [← hsx, ByteArray.size_append, ByteArray.size_append, show (⟨#[32]⟩ : ByteArray).size = 1 from rfl]; omega
   clear hsx f0 f1 f2 f3
   have hmin : min (sx.size : Int) 256 = ((min sx.size 256 : Nat) : Int) := by omega
   obtain ⟨t, ht⟩ : ∃ z, sx.extract 0 (min sx.size 256) = z := ⟨_, rfl⟩
   have HT := Lib.hid (show cutT sx = t from ht)
   have HTS := Lib.hid (show t.size ≤ maxLen by rw [← HT.out, cut_size]; unfold maxLen; omega)
   have HE := Lib.hid (show moreD d n v = setD d n t by rw [more_s HVE.out HOG.out, HSX.out, HT.out])
   go_wp2_with fail
   refine (env_any P base X d n t _ HOw1.out.kq.2 HS.out HL.out HN.out HTS.out).mono ?_
   rintro e w' ⟨rfl, hk_⟩
   have HFIN := Lib.hid (EdO.seq HOw1.out hk_)
   clear hk_
   go_wp2
   go_end0
   exact ⟨rfl, by rw [HE.out]; exact HFIN.out⟩
set_option maxRecDepth 100000 in
set_option maxHeartbeats 4000000 in
theorem mode_any (P : Nat → Prop) (base X : Nat) (d : Draft) (v : ByteArray) (w : World) (he : EdQ 53 9 35 P w base X d) (hv : v.size ≤ 1000) (h7 : Ok7 w) :
  Calls Tryz.prog 79 #[.pointer (some ⟨X, 0, none⟩), .string v] w (EPost 53 9 35 P base X (modeD d v) w) := by
 obtain ⟨h, ho_⟩ := he.open
 have HO := Lib.hid ho_
 have HV := Lib.hid hv
 have H7 := Lib.hid h7
 clear he ho_ hv h7
 go_enter Tryz.func79, Tryz.ntmps79
 have HKD := Lib.hid HO.out.kq.2.ok
 go_wp2_with fail
 refine (Pu_any v _ H7.out (by have := HV.out; omega)).mono ?_
 rintro e w1 ⟨hb, x, ev, rfl, hor⟩
 have HSw1 := Lib.hid (show w.heap.size ≤ w1.heap.size from hb.size)
 have HBw1 := Lib.hid hb
 have HOw1 := Lib.hid (EdO.below HO.out hb)
 clear hb
 rcases hor with ⟨hp, rfl⟩ | ⟨hp, te, pe, rfl⟩
 ·
  by_cases h4 : v.size ≤ 4
  ·
   have i4 : (v.size : Int) ≤ 4 := by omega
   have HE := Lib.hid (mode_y (d := d) hp h4)
   have ho_ : octT v = some x := by rw [← mode_same v, if_pos h4]; exact hp
   obtain ⟨r1, r2⟩ := oct_range ho_
   have hkd := HKD.out
   have HFIN := Lib.hid (EdK.f_mode (x := x) HOw1.out.kq ⟨hkd.1, hkd.2.1, hkd.2.2.1, hkd.2.2.2.1, okI_small (by show -100000 ≤ x; omega) (by show x ≤ 100000; omega), hkd.2.2.2.2.2.1, hkd.2.2.2.2.2.2.1, hkd.2.2.2.2.2.2.2⟩)
   have hcv1 : IntKind.i64.wrap x = x := by rw [IntKind.wrap_i64]; omega
   have hcv2 : wrap64 x = x := by unfold wrap64; omega
   clear h4 hp ho_ hkd
   have cx9 := HOw1.out.2.1.1 9 _ rfl
   have cfx := HOw1.out.2.1.2.1
   go_wp2
   go_end0
   exact ⟨rfl, by rw [HE.out]; exact HFIN.out⟩
  ·
   have i4 : ¬ (v.size : Int) ≤ 4 := by omega
   have HE := Lib.hid (mode_n (d := d) (v := v) (.inr h4)); clear h4 hp
   go_wp2
   go_end0
   exact ⟨rfl, by rw [HE.out]; exact HOw1.out.kq⟩
 ·
  have HE := Lib.hid (mode_n (d := d) (.inl hp)); clear hp
  go_wp2
  go_end0
  exact ⟨rfl, by rw [HE.out]; exact HOw1.out.kq⟩
set_option maxRecDepth 100000 in
set_option maxHeartbeats 4000000 in
theorem run_any (P : Nat → Prop) (base X : Nat) (d : Draft) (op : Int) (v : ByteArray) (w : World) (he : EdQ 53 9 35 P w base X d) (hl : d.run.length ≤ 1000) (hv : v.size ≤ 1000) :
  Calls Tryz.prog 80 #[.pointer (some ⟨X, 0, none⟩), .int .i64 op, .string v] w (EPost 53 9 35 P base X (runD d op v) w) := by
 obtain ⟨h, ho_⟩ := he.open
 have HO := Lib.hid ho_
 have HL := Lib.hid hl
 have HV := Lib.hid hv
 clear he ho_ hl hv
 go_enter Tryz.func80, Tryz.ntmps80
 by_cases o4 : op = 4
 ·
  have oe4 : (op == 4) = true := by rw [o4]; rfl
  have HO4 := Lib.hid o4; clear o4
  go_wp2_with fail
  refine (full_any v _ (by have := HV.out; unfold maxLen; omega)).mono ?_
  rintro e w1 ⟨rfl, hbw1⟩
  have HSw1 := Lib.hid (show w.heap.size ≤ w1.heap.size from hbw1.size)
  have HBw1 := Lib.hid hbw1
  have HOw1 := Lib.hid (EdO.below HO.out hbw1)
  clear hbw1
  obtain ⟨bf, h_⟩ : ∃ z, fullT v = z := ⟨_, rfl⟩
  rw [h_]
  have HBF := Lib.hid h_; clear h_
  cases bf
  case false =>
   have HE := Lib.hid (run_4n (d := d) (v := v) HO4.out (by rintro ⟨q, q2⟩; rw [HBF.out] at q; cases q))
   have cx3 := HOw1.out.2.1.1 3 _ rfl
   go_wp2
   go_end0
   exact ⟨rfl, by rw [HE.out]; exact HOw1.out.kq⟩
  case true =>
   by_cases h16 : d.run.length < 16
   ·
    have i16 : (d.run.length : Int) < 16 := by omega
    have HRN := Lib.hid (show d.run.length ≤ 16 by omega)
    have H16 := Lib.hid h16; clear h16
    have cx3 := HOw1.out.2.1.1 3 _ rfl
    go_upto_region 3 with fail
    have HE := Lib.hid (run_4y HO4.out ⟨HBF.out, H16.out⟩)
    have hxx := HOw1.out.2.2.2.2.2.2.2.1; have hx1 := hxx.1; have hx2 := hxx.2.1
    unfold maxLen at hx2
    clear hxx
    obtain ⟨w8, hw8⟩ : ∃ z, w1.alloc (.cells #[.string v] 9) = z := ⟨_, rfl⟩
    have hb8 : Below w1.heap.size w1 w8 := by rw [← hw8]; exact (Below.refl _ _).alloc (Nat.le_refl _) _
    have HC8 := Lib.hid (show BoxL w8 w1.heap.size [.string v] from box_mk hw8)
    have HSw8 := Lib.hid (show w1.heap.size ≤ w8.heap.size from hb8.size)
    have HBw8 := Lib.hid (HBw1.out.trans (hb8.mono HBw1.out.size))
    have HOw8 := Lib.hid (EdO.below HOw1.out hb8)
    clear hb8
    have HB8 := Lib.hid (Nat.le_of_lt (Nat.lt_of_le_of_lt HOw8.out.2.2.1.bx HOw8.out.2.2.1.xl))
    go_wp2_with (at_builtin; refine wpList_app rfl _ _ rfl (.slice h.a3 d.run.length h.c3) (.slice (some ⟨w1.heap.size, 0, none⟩) 1 1) rfl rfl (run_app1 E_txt _ (.slice h.a3 d.run.length h.c3) d.run HOw8.out.2.2.1.o3 w1.heap.size v [.string v] HC8.out.1 ⟨rfl, (by have := HV.out; unfold maxLen; omega)⟩ (by have h1_ := HRN.out; unfold maxLen; omega) (by have h1_ := HRN.out; omega) HB8.out) ?_; rintro v9 w9 ⟨how_, hg9, hn9⟩; obtain ⟨nl, hnl⟩ : ∃ z, d.run ++ [v] = z := ⟨_, rfl⟩; rw [hnl] at how_; have HNL := Lib.hid hnl; clear hnl; obtain ⟨A9, c9, hv_, -⟩ := how_.sl; subst hv_; have hbx9 := HOw8.out.2.1.kept hg9 (fun e => HOw8.out.2.2.1.x3 e.symm); have HFIN := Lib.hid (EdO.row3 HOw8.out how_ hg9 hn9); clear how_ hg9 hn9 cx3; have cx3 := hbx9.1 3 _ rfl; have cfx := hbx9.2.1; clear hbx9)
    go_end0
    exact ⟨rfl, by rw [HE.out, HNL.out]; exact HFIN.out⟩
   ·
    have i16 : ¬ (d.run.length : Int) < 16 := by omega
    have H16 := Lib.hid h16; clear h16
    have HE := Lib.hid (run_4n (d := d) (v := v) HO4.out (by rintro ⟨q, q2⟩; exact H16.out q2))
    have cx3 := HOw1.out.2.1.1 3 _ rfl
    go_wp2
    go_end0
    exact ⟨rfl, by rw [HE.out]; exact HOw1.out.kq⟩
 ·
  have oe4 : (op == 4) = false := by simpa using o4
  have HO4 := Lib.hid o4; clear o4
  have cx3 := HO.out.2.1.1 3 _ rfl
  have cfx := HO.out.2.1.2.1
  go_upto_region 2 with fail
  clear cx3 cfx
  have hk_ := EdO.row3 (l := []) (v := .slice none 0 0) HO.out (OwnsS.nil_ _ _ _ _) (grown_wide (grown_none (Below.refl _ _))) (fun q hq => by cases hq)
  obtain ⟨w1, hw1⟩ : ∃ z, w.setCell ⟨X, 3, none⟩ (.slice none 0 0) = z := ⟨_, rfl⟩
  rw [hw1] at hk_ ⊢
  obtain ⟨d1, hd1⟩ : ∃ z, ({ d with run := [] } : Draft) = z := ⟨_, rfl⟩
  rw [hd1] at hk_
  obtain ⟨h1, ho1⟩ := hk_.open
  have HD1 := Lib.hid hd1; have HO1 := Lib.hid ho1; clear hd1 ho1 hk_ hw1
  go_wp2_with fail
  refine (full_any v _ (by have := HV.out; unfold maxLen; omega)).mono ?_
  rintro e w2 ⟨rfl, hbw2⟩
  have HSw2 := Lib.hid (show w1.heap.size ≤ w2.heap.size from hbw2.size)
  have HBw2 := Lib.hid hbw2
  have HOw2 := Lib.hid (EdO.below HO1.out hbw2)
  clear hbw2
  obtain ⟨bf, h_⟩ : ∃ z, fullT v = z := ⟨_, rfl⟩
  rw [h_]
  have HBF := Lib.hid h_; clear h_
  cases bf
  case false =>
   have HE := Lib.hid (run_0n HO4.out HD1.out HBF.out)
   have cx3 := HOw2.out.2.1.1 3 _ rfl
   go_wp2
   go_end0
   exact ⟨rfl, by rw [HE.out]; exact HOw2.out.kq⟩
  case true =>
   have HRN := Lib.hid (show d1.run.length ≤ 16 by rw [← HD1.out]; simp)
   have i16 : (d1.run.length : Int) < 16 := by rw [← HD1.out]; simp
   have cx3 := HOw2.out.2.1.1 3 _ rfl
   go_upto_region 3 with fail
   have HE := Lib.hid (run_0y HO4.out HD1.out HBF.out)
   have hxx := HOw2.out.2.2.2.2.2.2.2.1; have hx1 := hxx.1; have hx2 := hxx.2.1
   unfold maxLen at hx2
   clear hxx
   obtain ⟨w8, hw8⟩ : ∃ z, w2.alloc (.cells #[.string v] 9) = z := ⟨_, rfl⟩
   have hb8 : Below w2.heap.size w2 w8 := by rw [← hw8]; exact (Below.refl _ _).alloc (Nat.le_refl _) _
   have HC8 := Lib.hid (show BoxL w8 w2.heap.size [.string v] from box_mk hw8)
   have HSw8 := Lib.hid (show w2.heap.size ≤ w8.heap.size from hb8.size)
   have HBw8 := Lib.hid (HBw2.out.trans (hb8.mono HBw2.out.size))
   have HOw8 := Lib.hid (EdO.below HOw2.out hb8)
   clear hb8
   have HB8 := Lib.hid (Nat.le_of_lt (Nat.lt_of_le_of_lt HOw8.out.2.2.1.bx HOw8.out.2.2.1.xl))
   go_wp2_with (at_builtin; refine wpList_app rfl _ _ rfl (.slice h1.a3 d1.run.length h1.c3) (.slice (some ⟨w2.heap.size, 0, none⟩) 1 1) rfl rfl (run_app1 E_txt _ (.slice h1.a3 d1.run.length h1.c3) d1.run HOw8.out.2.2.1.o3 w2.heap.size v [.string v] HC8.out.1 ⟨rfl, (by have := HV.out; unfold maxLen; omega)⟩ (by have h1_ := HRN.out; unfold maxLen; omega) (by have h1_ := HRN.out; omega) HB8.out) ?_; rintro v9 w9 ⟨how_, hg9, hn9⟩; obtain ⟨nl, hnl⟩ : ∃ z, d1.run ++ [v] = z := ⟨_, rfl⟩; rw [hnl] at how_; have HNL := Lib.hid hnl; clear hnl; obtain ⟨A9, c9, hv_, -⟩ := how_.sl; subst hv_; have hbx9 := HOw8.out.2.1.kept hg9 (fun e => HOw8.out.2.2.1.x3 e.symm); have HFIN := Lib.hid (EdO.row3 HOw8.out how_ hg9 hn9); clear how_ hg9 hn9 cx3; have cx3 := hbx9.1 3 _ rfl; have cfx := hbx9.2.1; clear hbx9)
   go_end0
   exact ⟨rfl, by rw [HE.out, HNL.out]; exact HFIN.out⟩
set_option maxRecDepth 100000 in
set_option maxHeartbeats 4000000 in
theorem prio_any (P : Nat → Prop) (base X : Nat) (d : Draft) (v : ByteArray) (w : World) (he : EdQ 53 9 35 P w base X d) (hv : v.size ≤ 1000) (h7 : Ok7 w) :
  Calls Tryz.prog 83 #[.pointer (some ⟨X, 0, none⟩), .string v] w (EPost 53 9 35 P base X (prioD d v) w) := by
 obtain ⟨h, ho_⟩ := he.open
 have HO := Lib.hid ho_
 have HV := Lib.hid hv
 have H7 := Lib.hid h7
 clear he ho_ hv h7
 go_enter Tryz.func83, Tryz.ntmps83
 have HKD := Lib.hid HO.out.kq.2.ok
 go_wp2_with fail
 refine (Atoi_any v _ H7.out HV.out).mono ?_
 rintro e w1 ⟨hb, n, ev, rfl, hokn, hor⟩
 have HR7 := Lib.hid (H7.out.below hb)
 have HSw1 := Lib.hid (show w.heap.size ≤ w1.heap.size from hb.size)
 have HBw1 := Lib.hid hb
 have HOw1 := Lib.hid (EdO.below HO.out hb)
 clear hb
 have HOKN := Lib.hid hokn; clear hokn
 rcases hor with ⟨hp, rfl⟩ | ⟨hp, te, pe, rfl⟩
 ·
  have HP := Lib.hid hp; clear hp
  go_wp2_with fail
  refine (Itoa_any n _ HR7.out HOKN.out).mono ?_
  rintro e w2 ⟨rfl, hbw2⟩
  have HSw2 := Lib.hid (show w1.heap.size ≤ w2.heap.size from hbw2.size)
  have HBw2 := Lib.hid (HBw1.out.trans (hbw2.mono HBw1.out.size))
  have HOw2 := Lib.hid (EdO.below HOw1.out hbw2)
  clear hbw2
  have hbs : ((⟨(Lib.itoa n).toArray⟩ : ByteArray).toList == v.toList) = decide (Lib.itoa n = v.data.toList) := by rw [Lib.toList_data, Lib.toList_data]; show ((Lib.itoa n) == v.data.toList) = _; rw [Bool.eq_iff_iff]; simp
  by_cases hi : Lib.itoa n = v.data.toList
  ·
   have hbe : ((⟨(Lib.itoa n).toArray⟩ : ByteArray).toList == v.toList) = true := by rw [hbs]; exact decide_eq_true hi
   have HI := Lib.hid hi; clear hbs hi
   obtain ⟨st, hst⟩ : ∃ z, (⟨(Lib.itoa n).toArray⟩ : ByteArray) = z := ⟨_, rfl⟩
   rw [hst] at hbe ⊢
   clear hst
   by_cases hr1 : -1000 ≤ n
   ·
    by_cases hr2 : n ≤ 1000
    ·
     have HE := Lib.hid (prio_y (d := d) HP.out HI.out ⟨hr1, hr2⟩)
     have hkd := HKD.out
     have HFIN := Lib.hid (EdK.f_prio (x := n) HOw2.out.kq ⟨hkd.1, okI_small (by show -100000 ≤ n; omega) (by show n ≤ 100000; omega), hkd.2.2.1, hkd.2.2.2.1, hkd.2.2.2.2.1, hkd.2.2.2.2.2.1, hkd.2.2.2.2.2.2.1, hkd.2.2.2.2.2.2.2⟩)
     clear hkd
     have cx6 := HOw2.out.2.1.1 6 _ rfl
     have cfx := HOw2.out.2.1.2.1
     go_wp2
     go_end0
     exact ⟨rfl, by rw [HE.out]; exact HFIN.out⟩
    ·
     have HE := Lib.hid (prio_n (d := d) (.inr ⟨n, HP.out, .inr (fun q => hr2 q.2)⟩))
     go_wp2
     go_end0
     exact ⟨rfl, by rw [HE.out]; exact HOw2.out.kq⟩
   ·
    have HE := Lib.hid (prio_n (d := d) (.inr ⟨n, HP.out, .inr (fun q => hr1 q.1)⟩))
    go_wp2
    go_end0
    exact ⟨rfl, by rw [HE.out]; exact HOw2.out.kq⟩
  ·
   have hbe : ((⟨(Lib.itoa n).toArray⟩ : ByteArray).toList == v.toList) = false := by rw [hbs]; exact decide_eq_false hi
   have HE := Lib.hid (prio_n (d := d) (.inr ⟨n, HP.out, .inl hi⟩)); clear hbs hi
   obtain ⟨st, hst⟩ : ∃ z, (⟨(Lib.itoa n).toArray⟩ : ByteArray) = z := ⟨_, rfl⟩
   rw [hst] at hbe ⊢
   clear hst
   go_wp2
   go_end0
   exact ⟨rfl, by rw [HE.out]; exact HOw2.out.kq⟩
 ·
  have HE := Lib.hid (prio_n (d := d) (.inl hp)); clear hp
  go_wp2
  go_end0
  exact ⟨rfl, by rw [HE.out]; exact HOw1.out.kq⟩
end Go.Proofs.YtjpoljlgkgmdkaaGreatDoor
namespace Go.Cold
open Go Go.RowKit Go.Proofs.YtjpoljlgkgmdkaaGreatDoor
def lnkD (d : Draft) (op : Int) (v : ByteArray) : Draft := { d with links := linkGo op (if op = 3 ∨ op = 6 then [] else d.links) (wordsT v) }
theorem link_y {d d1 : Draft} {op : Int} {v : ByteArray} (h : op = 3 ∨ op = 6) (h1 : { d with links := [] } = d1) : lnkD d op v = { d1 with links := linkGo op d1.links (wordsT v) } := by
 subst h1
 unfold lnkD; rw [if_pos h]
theorem link_n {d : Draft} {op : Int} {v : ByteArray} (h : ¬ (op = 3 ∨ op = 6)) : lnkD d op v = { d with links := linkGo op d.links (wordsT v) } := by
 unfold lnkD; rw [if_neg h]
def WkSt (op : Int) (ws : List ByteArray) (DD d : Draft) (k : Nat) : Prop := { d with links := linkGo op d.links (ws.drop k) } = DD ∧ ascL d.links = true ∧ d.links.length ≤ 16
theorem WkSt.none_ {op : Int} {ws : List ByteArray} {DD d : Draft} {k : Nat} {x : ByteArray} (h : WkSt op ws DD d k) (hx : ws[k]? = some x) (hc : cleanOf x = none) : WkSt op ws DD d (k + 1) := by
 refine ⟨?_, h.2⟩
 rw [← h.1, link_step hx, hc]
theorem WkSt.drop_ {op : Int} {ws : List ByteArray} {DD d : Draft} {k : Nat} {x s : ByteArray} (h : WkSt op ws DD d k) (hx : ws[k]? = some x) (hc : cleanOf x = some s) (h5 : op = 5) : WkSt op ws DD { d with links := withoutT d.links s } (k + 1) := by
 refine ⟨?_, without_asc h.2.1 s, Nat.le_trans (without_len _ s) h.2.2⟩
 rw [← h.1, link_step hx, hc]
 simp only [if_pos h5]
theorem WkSt.put_ {op : Int} {ws : List ByteArray} {DD d : Draft} {k : Nat} {x s : ByteArray} (h : WkSt op ws DD d k) (hx : ws[k]? = some x) (hc : cleanOf x = some s) (h5 : ¬ op = 5) : WkSt op ws DD { d with links := putT d.links s 16 } (k + 1) := by
 refine ⟨?_, putT_asc h.2.1 s 16, putT_len _ s 16 h.2.2⟩
 rw [← h.1, link_step hx, hc]
 simp only [if_neg h5]
theorem WkSt.end_ {op : Int} {ws : List ByteArray} {DD d : Draft} {k : Nat} (h : WkSt op ws DD d k) (hk : k = ws.length) : d = DD := by
 rw [← h.1, hk, List.drop_length]; rfl
theorem EdK.back {TA TS TT : TypeId} {P Q : Nat → Prop} {a b c : World} {base X : Nat} {d0 d : Draft} (h : EdK TA TS TT P a base X d0 b) (k : EdK TA TS TT Q b base X d c) (hQ : ∀ x, P x → Q x) : EdK TA TS TT P a base X d c := ⟨h.1.trans (k.1.mono hQ), k.2.less hQ⟩
end Go.Cold
namespace Go.Proofs.YtjpoljlgkgmdkaaGreatDoor
open Go.RowKit Go.Cold
def Env (P : Nat → Prop) (w : World) : Prop := ∃ wa, Ok wa ∧ Ok7 wa ∧ Below wa.heap.size wa w ∧ ∀ k, k < wa.heap.size → P k
theorem Env.kp {P : Nat → Prop} {w w' : World} (h : Env P w) (k : Kp P w w') : Env P w' := by
 obtain ⟨wa, h1, h2, h3, h4⟩ := h
 exact ⟨wa, h1, h2, h3.trans (k.below h4), h4⟩
theorem Env.ok {P : Nat → Prop} {w : World} (h : Env P w) : Ok w := by
 obtain ⟨wa, h1, h2, h3, h4⟩ := h
 exact h1.next h3
theorem Env.o7 {P : Nat → Prop} {w : World} (h : Env P w) : Ok7 w := by
 obtain ⟨wa, h1, h2, h3, h4⟩ := h
 exact h2.below h3
theorem Env.mono {P Q : Nat → Prop} {w : World} (h : Env P w) (hQ : ∀ k, P k → Q k) : Env Q w := by
 obtain ⟨wa, h1, h2, h3, h4⟩ := h
 exact ⟨wa, h1, h2, h3, fun k hk => hQ k (h4 k hk)⟩
theorem link1_any' (r : Int) (w : World) : Calls Tryz.prog 124 #[.int .i32 r] w fun e w' => e = .returned (.bool (decide (r = 32))) ∧ w' = w := by
 by_cases h : r = 32
 ·
  have hb : (r == 32) = true := by rw [h]; rfl
  have HD := Lib.hid (show decide (r = 32) = true from decide_eq_true h); clear h
  go_enter Tryz.func124, Tryz.ntmps124
  go_wp2
  go_ret
  exact ⟨by rw [HD.out]; rfl, rfl⟩
 ·
  have hb : (r == 32) = false := by simpa using h
  have HD := Lib.hid (show decide (r = 32) = false from decide_eq_false h); clear h
  go_enter Tryz.func124, Tryz.ntmps124
  go_wp2
  go_ret
  exact ⟨by rw [HD.out]; rfl, rfl⟩
theorem link1_runes (w : World) : PredAtRunes Tryz.prog 124 #[] (fun r => decide (r = 32)) w := fun W x _ _ => (link1_any' (x : Int) W).mono (by
 rintro e w' ⟨rfl, rfl⟩
 exact ⟨by rw [show decide ((x : Int) = 32) = decide (x = 32) from by rw [Bool.eq_iff_iff]; simp; omega], 0, rfl⟩)
set_option maxRecDepth 100000 in
set_option maxHeartbeats 4000000 in
theorem link_any (P : Nat → Prop) (base X : Nat) (d : Draft) (op : Int) (v : ByteArray) (w : World) (he : EdQ 53 9 35 P w base X d) (hen : Env P w) (ha : ascL d.links = true) (hl : d.links.length ≤ 16) (hv : v.size ≤ 1000) :
  Calls Tryz.prog 77 #[.pointer (some ⟨X, 0, none⟩), .int .i64 op, .string v] w (EPost 53 9 35 P base X (lnkD d op v) w) := by
 obtain ⟨h, ho_⟩ := he.open
 have HO := Lib.hid ho_
 have HV := Lib.hid hv
 have HA := Lib.hid ha
 have HL := Lib.hid hl
 have HEN := Lib.hid hen
 clear he ho_ hv ha hl hen
 go_enter Tryz.func77, Tryz.ntmps77
 by_cases o36 : op = 3 ∨ op = 6
 ·
  have HO36 := Lib.hid o36
  by_cases o3 : op = 3
  ·
   have oe3 : (op == 3) = true := by rw [o3]; rfl
   clear o3 o36
   have cx2 := HO.out.2.1.1 2 _ rfl
   have cfx := HO.out.2.1.2.1
   go_upto_region 2 with fail
   clear cx2 cfx
   have hk_ := EdO.row2 (l := []) (v := .slice none 0 0) HO.out (OwnsS.nil_ _ _ _ _) (grown_wide (grown_none (Below.refl _ _))) (fun q hq => by cases hq)
   obtain ⟨w1, hw1⟩ : ∃ z, w.setCell ⟨X, 2, none⟩ (.slice none 0 0) = z := ⟨_, rfl⟩
   rw [hw1] at hk_ ⊢
   obtain ⟨d1, hd1⟩ : ∃ z, ({ d with links := [] } : Draft) = z := ⟨_, rfl⟩
   rw [hd1] at hk_
   obtain ⟨h1, ho1⟩ := hk_.open
   have HD1 := Lib.hid hd1; have HO1 := Lib.hid ho1; clear hd1 ho1 hk_ hw1
   go_wp2_with fail
   refine (Tryz.strings_FieldsFunc_runes 124 #[] (enters_of Tryz.func124 (by kernel_rfl) rfl) (fun r => decide (r = 32)) v _ (by have := HV.out; omega) (link1_runes _)).mono ?_
   rintro e wf ⟨A, rfl, hA, how, hb⟩
   rw [fields_words] at how ⊢
   have hwl := words_len v
   have hws := fun x (hx : x ∈ wordsT v) => words_small (s := v) hx
   have hst0 := (show WkSt op (wordsT v) (lnkD d op v) d1 0 from ⟨by rw [link_y HO36.out HD1.out]; rfl, by rw [← HD1.out]; rfl, by rw [← HD1.out]; simp⟩)
   obtain ⟨ws, hws_⟩ : ∃ z, wordsT v = z := ⟨_, rfl⟩
   rw [hws_] at how hwl hws hst0 ⊢
   obtain ⟨DD, hDD⟩ : ∃ z, lnkD d op v = z := ⟨_, rfl⟩
   rw [hDD] at hst0
   have HDD := Lib.hid hDD
   have HWL := Lib.hid hwl; have HWS := Lib.hid hws; have HS0 := Lib.hid hst0
   clear hws_ hwl hws hst0 hDD
   have HCW := Lib.hid (show ∀ (j : Nat) x, ws[j]? = some x → wf.cell? ⟨A, j, none⟩ = some (.string x) from fun j x hx => by have h1 := how.cells (g := A) rfl j (.string x) (by rw [List.getElem?_map, hx]; rfl); rw [add_mk, Nat.zero_add] at h1; exact h1)
   have hAl := (how.lt A rfl).2
   have HQ := Lib.hid (show EdQ 53 9 35 (fun q => P q ∨ q = A) wf base X d1 from HO1.out.kq.2.more hb (fun q hq => hq.elim .inl (fun e => .inr (by subst e; exact ⟨hA, hAl⟩))))
   have HSTF := Lib.hid (EdK.below HO1.out.kq hb)
   clear how hA hAl
   have HSwf := Lib.hid (show w1.heap.size ≤ wf.heap.size from hb.size)
   have HBwf := Lib.hid hb
   have HOwf := Lib.hid (EdO.below HO1.out hb)
   clear hb
   go_wp2_with fail
   go_loopw [23] (fun i wr => ∃ (k : Nat) (d2 : Draft), k ≤ ws.length ∧ i = .int .i64 (k : Int) ∧ Hid (EdK 53 9 35 (fun q => P q ∨ q = A) wf base X d2 wr) ∧ Hid (WkSt op ws DD d2 k)) (fun i _ => ws.length - (intOf i).toNat)
   case atStart => exact ⟨0, d1, Nat.zero_le _, rfl, Lib.hid HQ.out.start, HS0⟩
   case round =>
    obtain ⟨k, d2, hk, rfl, HK, HST⟩ := hrel
    have hwl := HWL.out; have hv9 := HV.out
    have HBK := Lib.hid (EdK.back HSTF.out HK.out (fun x hx => .inl hx))
    obtain ⟨h2, ho2⟩ := HK.out.open
    have HO2 := Lib.hid ho2; clear ho2
    by_cases hlt : k < ws.length
    ·
     have i1 : (k : Int) < (ws.length : Int) := by omega
     have HLT := Lib.hid hlt
     have hxk : ws[k]? = some (ws[k]'hlt) := List.getElem?_eq_getElem hlt
     obtain ⟨x, hx⟩ : ∃ y, ws[k]'hlt = y := ⟨_, rfl⟩
     rw [hx] at hxk
     have HXS := Lib.hid (HWS.out x (List.mem_of_getElem? hxk)); have HX := Lib.hid hxk
     have c5 : wr.cell? ⟨A, k, none⟩ = some (.string x) := (Kp.cell HK.out.1 (.inr rfl)).trans (HCW.out k x hxk)
     clear hx hxk
     go_wp2_with fail
     skip
     refine (Clean_any x wr (by have := HXS.out; omega) ((HEN.out.kp HBK.out.1).ok)).mono ?_
     rintro e w42 ⟨hbw42, rfl⟩
     have HSw42 := Lib.hid (show wr.heap.size ≤ w42.heap.size from hbw42.size)
     have HBw42 := Lib.hid hbw42
     have HOw42 := Lib.hid (EdO.below HO2.out hbw42)
     clear hbw42
     clear c5
     cases hcl : cleanOf x with
     | none =>
      have HN1 := Lib.hid (HST.out.none_ HX.out hcl); clear hcl
      have HKE := Lib.hid HOw42.out.kq
      go_wp2
      go_roundw
      case rel => exact ⟨k + 1, d2, HLT.out, by go_num, HKE, HN1⟩
      case measure => have := HLT.out; simp [intOf]; omega
     | some s =>
      have HCS := Lib.hid (clean_size hcl); have HCL := Lib.hid hcl; clear hcl
      by_cases o5 : op = 5
      ·
       have oe5 : (op == 5) = true := by rw [o5]; rfl
       have HO5 := Lib.hid o5; clear o5
       have cx2 := HOw42.out.2.1.1 2 _ rfl
       go_wp2_with fail
       refine (drop_any base _ d2.links s _ HOw42.out.2.2.1.o2 (by have := HST.out.2.2; omega) (Nat.le_of_lt (Nat.lt_of_le_of_lt HOw42.out.2.2.1.bx HOw42.out.2.2.1.xl))).mono ?_
       rintro e w9 ⟨v9, rfl, how_, hg9, hn9⟩
       obtain ⟨A9, c9, hv_, -⟩ := how_.sl
       subst hv_
       have hbx9 := HOw42.out.2.1.kept hg9 (fun e => HOw42.out.2.2.1.x2 e.symm)
       have HFIN := Lib.hid (EdO.row2 HOw42.out how_ hg9 hn9)
       clear cx2
       have HN1 := Lib.hid (HST.out.drop_ HX.out HCL.out HO5.out)
       have cx2 := hbx9.1 2 _ rfl
       have cfx := hbx9.2.1
       clear how_ hbx9 hg9 hn9
       go_wp2
       go_roundw
       case rel => exact ⟨k + 1, _, HLT.out, by go_num, HFIN, HN1⟩
       case measure => have := HLT.out; simp [intOf]; omega
      ·
       have oe5 : (op == 5) = false := by simpa using o5
       have HO5 := Lib.hid o5; clear o5
       have cx2 := HOw42.out.2.1.1 2 _ rfl
       go_wp2_with fail
       refine (put_any base _ d2.links s _ HOw42.out.2.2.1.o2 HST.out.2.1 (by have := HST.out.2.2; omega) (by have := HCS.out; unfold maxLen; omega) (Nat.le_of_lt (Nat.lt_of_le_of_lt HOw42.out.2.2.1.bx HOw42.out.2.2.1.xl))).mono ?_
       rintro e w9 ⟨v9, rfl, how_, hg9, hn9⟩
       obtain ⟨A9, c9, hv_, -⟩ := how_.sl
       subst hv_
       have hbx9 := HOw42.out.2.1.kept hg9 (fun e => HOw42.out.2.2.1.x2 e.symm)
       have HFIN := Lib.hid (EdO.row2 HOw42.out how_ hg9 hn9)
       clear cx2
       have HN1 := Lib.hid (HST.out.put_ HX.out HCL.out HO5.out)
       have cx2 := hbx9.1 2 _ rfl
       have cfx := hbx9.2.1
       clear how_ hbx9 hg9 hn9
       go_wp2
       go_roundw
       case rel => exact ⟨k + 1, _, HLT.out, by go_num, HFIN, HN1⟩
       case measure => have := HLT.out; simp [intOf]; omega
    ·
     have i1 : ¬ (k : Int) < (ws.length : Int) := by omega
     have HE := Lib.hid (HST.out.end_ (by omega))
     go_wp2
     go_end0
     exact ⟨rfl, by rw [HDD.out, ← HE.out]; exact HBK.out⟩
  ·
   have oe3 : (op == 3) = false := by simpa using o3
   have oe6 : (op == 6) = true := by rcases o36 with q | q; exact absurd q o3; rw [q]; rfl
   clear o3 o36
   have cx2 := HO.out.2.1.1 2 _ rfl
   have cfx := HO.out.2.1.2.1
   go_upto_region 2 with fail
   clear cx2 cfx
   have hk_ := EdO.row2 (l := []) (v := .slice none 0 0) HO.out (OwnsS.nil_ _ _ _ _) (grown_wide (grown_none (Below.refl _ _))) (fun q hq => by cases hq)
   obtain ⟨w1, hw1⟩ : ∃ z, w.setCell ⟨X, 2, none⟩ (.slice none 0 0) = z := ⟨_, rfl⟩
   rw [hw1] at hk_ ⊢
   obtain ⟨d1, hd1⟩ : ∃ z, ({ d with links := [] } : Draft) = z := ⟨_, rfl⟩
   rw [hd1] at hk_
   obtain ⟨h1, ho1⟩ := hk_.open
   have HD1 := Lib.hid hd1; have HO1 := Lib.hid ho1; clear hd1 ho1 hk_ hw1
   go_wp2_with fail
   refine (Tryz.strings_FieldsFunc_runes 124 #[] (enters_of Tryz.func124 (by kernel_rfl) rfl) (fun r => decide (r = 32)) v _ (by have := HV.out; omega) (link1_runes _)).mono ?_
   rintro e wf ⟨A, rfl, hA, how, hb⟩
   rw [fields_words] at how ⊢
   have hwl := words_len v
   have hws := fun x (hx : x ∈ wordsT v) => words_small (s := v) hx
   have hst0 := (show WkSt op (wordsT v) (lnkD d op v) d1 0 from ⟨by rw [link_y HO36.out HD1.out]; rfl, by rw [← HD1.out]; rfl, by rw [← HD1.out]; simp⟩)
   obtain ⟨ws, hws_⟩ : ∃ z, wordsT v = z := ⟨_, rfl⟩
   rw [hws_] at how hwl hws hst0 ⊢
   obtain ⟨DD, hDD⟩ : ∃ z, lnkD d op v = z := ⟨_, rfl⟩
   rw [hDD] at hst0
   have HDD := Lib.hid hDD
   have HWL := Lib.hid hwl; have HWS := Lib.hid hws; have HS0 := Lib.hid hst0
   clear hws_ hwl hws hst0 hDD
   have HCW := Lib.hid (show ∀ (j : Nat) x, ws[j]? = some x → wf.cell? ⟨A, j, none⟩ = some (.string x) from fun j x hx => by have h1 := how.cells (g := A) rfl j (.string x) (by rw [List.getElem?_map, hx]; rfl); rw [add_mk, Nat.zero_add] at h1; exact h1)
   have hAl := (how.lt A rfl).2
   have HQ := Lib.hid (show EdQ 53 9 35 (fun q => P q ∨ q = A) wf base X d1 from HO1.out.kq.2.more hb (fun q hq => hq.elim .inl (fun e => .inr (by subst e; exact ⟨hA, hAl⟩))))
   have HSTF := Lib.hid (EdK.below HO1.out.kq hb)
   clear how hA hAl
   have HSwf := Lib.hid (show w1.heap.size ≤ wf.heap.size from hb.size)
   have HBwf := Lib.hid hb
   have HOwf := Lib.hid (EdO.below HO1.out hb)
   clear hb
   go_wp2_with fail
   go_loopw [23] (fun i wr => ∃ (k : Nat) (d2 : Draft), k ≤ ws.length ∧ i = .int .i64 (k : Int) ∧ Hid (EdK 53 9 35 (fun q => P q ∨ q = A) wf base X d2 wr) ∧ Hid (WkSt op ws DD d2 k)) (fun i _ => ws.length - (intOf i).toNat)
   case atStart => exact ⟨0, d1, Nat.zero_le _, rfl, Lib.hid HQ.out.start, HS0⟩
   case round =>
    obtain ⟨k, d2, hk, rfl, HK, HST⟩ := hrel
    have hwl := HWL.out; have hv9 := HV.out
    have HBK := Lib.hid (EdK.back HSTF.out HK.out (fun x hx => .inl hx))
    obtain ⟨h2, ho2⟩ := HK.out.open
    have HO2 := Lib.hid ho2; clear ho2
    by_cases hlt : k < ws.length
    ·
     have i1 : (k : Int) < (ws.length : Int) := by omega
     have HLT := Lib.hid hlt
     have hxk : ws[k]? = some (ws[k]'hlt) := List.getElem?_eq_getElem hlt
     obtain ⟨x, hx⟩ : ∃ y, ws[k]'hlt = y := ⟨_, rfl⟩
     rw [hx] at hxk
     have HXS := Lib.hid (HWS.out x (List.mem_of_getElem? hxk)); have HX := Lib.hid hxk
     have c5 : wr.cell? ⟨A, k, none⟩ = some (.string x) := (Kp.cell HK.out.1 (.inr rfl)).trans (HCW.out k x hxk)
     clear hx hxk
     go_wp2_with fail
     skip
     refine (Clean_any x wr (by have := HXS.out; omega) ((HEN.out.kp HBK.out.1).ok)).mono ?_
     rintro e w42 ⟨hbw42, rfl⟩
     have HSw42 := Lib.hid (show wr.heap.size ≤ w42.heap.size from hbw42.size)
     have HBw42 := Lib.hid hbw42
     have HOw42 := Lib.hid (EdO.below HO2.out hbw42)
     clear hbw42
     clear c5
     cases hcl : cleanOf x with
     | none =>
      have HN1 := Lib.hid (HST.out.none_ HX.out hcl); clear hcl
      have HKE := Lib.hid HOw42.out.kq
      go_wp2
      go_roundw
      case rel => exact ⟨k + 1, d2, HLT.out, by go_num, HKE, HN1⟩
      case measure => have := HLT.out; simp [intOf]; omega
     | some s =>
      have HCS := Lib.hid (clean_size hcl); have HCL := Lib.hid hcl; clear hcl
      by_cases o5 : op = 5
      ·
       have oe5 : (op == 5) = true := by rw [o5]; rfl
       have HO5 := Lib.hid o5; clear o5
       have cx2 := HOw42.out.2.1.1 2 _ rfl
       go_wp2_with fail
       refine (drop_any base _ d2.links s _ HOw42.out.2.2.1.o2 (by have := HST.out.2.2; omega) (Nat.le_of_lt (Nat.lt_of_le_of_lt HOw42.out.2.2.1.bx HOw42.out.2.2.1.xl))).mono ?_
       rintro e w9 ⟨v9, rfl, how_, hg9, hn9⟩
       obtain ⟨A9, c9, hv_, -⟩ := how_.sl
       subst hv_
       have hbx9 := HOw42.out.2.1.kept hg9 (fun e => HOw42.out.2.2.1.x2 e.symm)
       have HFIN := Lib.hid (EdO.row2 HOw42.out how_ hg9 hn9)
       clear cx2
       have HN1 := Lib.hid (HST.out.drop_ HX.out HCL.out HO5.out)
       have cx2 := hbx9.1 2 _ rfl
       have cfx := hbx9.2.1
       clear how_ hbx9 hg9 hn9
       go_wp2
       go_roundw
       case rel => exact ⟨k + 1, _, HLT.out, by go_num, HFIN, HN1⟩
       case measure => have := HLT.out; simp [intOf]; omega
      ·
       have oe5 : (op == 5) = false := by simpa using o5
       have HO5 := Lib.hid o5; clear o5
       have cx2 := HOw42.out.2.1.1 2 _ rfl
       go_wp2_with fail
       refine (put_any base _ d2.links s _ HOw42.out.2.2.1.o2 HST.out.2.1 (by have := HST.out.2.2; omega) (by have := HCS.out; unfold maxLen; omega) (Nat.le_of_lt (Nat.lt_of_le_of_lt HOw42.out.2.2.1.bx HOw42.out.2.2.1.xl))).mono ?_
       rintro e w9 ⟨v9, rfl, how_, hg9, hn9⟩
       obtain ⟨A9, c9, hv_, -⟩ := how_.sl
       subst hv_
       have hbx9 := HOw42.out.2.1.kept hg9 (fun e => HOw42.out.2.2.1.x2 e.symm)
       have HFIN := Lib.hid (EdO.row2 HOw42.out how_ hg9 hn9)
       clear cx2
       have HN1 := Lib.hid (HST.out.put_ HX.out HCL.out HO5.out)
       have cx2 := hbx9.1 2 _ rfl
       have cfx := hbx9.2.1
       clear how_ hbx9 hg9 hn9
       go_wp2
       go_roundw
       case rel => exact ⟨k + 1, _, HLT.out, by go_num, HFIN, HN1⟩
       case measure => have := HLT.out; simp [intOf]; omega
    ·
     have i1 : ¬ (k : Int) < (ws.length : Int) := by omega
     have HE := Lib.hid (HST.out.end_ (by omega))
     go_wp2
     go_end0
     exact ⟨rfl, by rw [HDD.out, ← HE.out]; exact HBK.out⟩
 ·
  have oe3 : (op == 3) = false := by simpa using fun q => o36 (.inl q)
  have oe6 : (op == 6) = false := by simpa using fun q => o36 (.inr q)
  have HO36 := Lib.hid o36; clear o36
  go_upto_region 2 with fail
  go_wp2_with fail
  refine (Tryz.strings_FieldsFunc_runes 124 #[] (enters_of Tryz.func124 (by kernel_rfl) rfl) (fun r => decide (r = 32)) v _ (by have := HV.out; omega) (link1_runes _)).mono ?_
  rintro e wf ⟨A, rfl, hA, how, hb⟩
  rw [fields_words] at how ⊢
  have hwl := words_len v
  have hws := fun x (hx : x ∈ wordsT v) => words_small (s := v) hx
  have hst0 := (show WkSt op (wordsT v) (lnkD d op v) d 0 from ⟨by rw [link_n HO36.out]; rfl, HA.out, HL.out⟩)
  obtain ⟨ws, hws_⟩ : ∃ z, wordsT v = z := ⟨_, rfl⟩
  rw [hws_] at how hwl hws hst0 ⊢
  obtain ⟨DD, hDD⟩ : ∃ z, lnkD d op v = z := ⟨_, rfl⟩
  rw [hDD] at hst0
  have HDD := Lib.hid hDD
  have HWL := Lib.hid hwl; have HWS := Lib.hid hws; have HS0 := Lib.hid hst0
  clear hws_ hwl hws hst0 hDD
  have HCW := Lib.hid (show ∀ (j : Nat) x, ws[j]? = some x → wf.cell? ⟨A, j, none⟩ = some (.string x) from fun j x hx => by have h1 := how.cells (g := A) rfl j (.string x) (by rw [List.getElem?_map, hx]; rfl); rw [add_mk, Nat.zero_add] at h1; exact h1)
  have hAl := (how.lt A rfl).2
  have HQ := Lib.hid (show EdQ 53 9 35 (fun q => P q ∨ q = A) wf base X d from HO.out.kq.2.more hb (fun q hq => hq.elim .inl (fun e => .inr (by subst e; exact ⟨hA, hAl⟩))))
  have HSTF := Lib.hid (EdK.below HO.out.kq hb)
  clear how hA hAl
  have HSwf := Lib.hid (show w.heap.size ≤ wf.heap.size from hb.size)
  have HBwf := Lib.hid hb
  have HOwf := Lib.hid (EdO.below HO.out hb)
  clear hb
  go_wp2_with fail
  go_loopw [23] (fun i wr => ∃ (k : Nat) (d2 : Draft), k ≤ ws.length ∧ i = .int .i64 (k : Int) ∧ Hid (EdK 53 9 35 (fun q => P q ∨ q = A) wf base X d2 wr) ∧ Hid (WkSt op ws DD d2 k)) (fun i _ => ws.length - (intOf i).toNat)
  case atStart => exact ⟨0, d, Nat.zero_le _, rfl, Lib.hid HQ.out.start, HS0⟩
  case round =>
   obtain ⟨k, d2, hk, rfl, HK, HST⟩ := hrel
   have hwl := HWL.out; have hv9 := HV.out
   have HBK := Lib.hid (EdK.back HSTF.out HK.out (fun x hx => .inl hx))
   obtain ⟨h2, ho2⟩ := HK.out.open
   have HO2 := Lib.hid ho2; clear ho2
   by_cases hlt : k < ws.length
   ·
    have i1 : (k : Int) < (ws.length : Int) := by omega
    have HLT := Lib.hid hlt
    have hxk : ws[k]? = some (ws[k]'hlt) := List.getElem?_eq_getElem hlt
    obtain ⟨x, hx⟩ : ∃ y, ws[k]'hlt = y := ⟨_, rfl⟩
    rw [hx] at hxk
    have HXS := Lib.hid (HWS.out x (List.mem_of_getElem? hxk)); have HX := Lib.hid hxk
    have c5 : wr.cell? ⟨A, k, none⟩ = some (.string x) := (Kp.cell HK.out.1 (.inr rfl)).trans (HCW.out k x hxk)
    clear hx hxk
    go_wp2_with fail
    skip
    refine (Clean_any x wr (by have := HXS.out; omega) ((HEN.out.kp HBK.out.1).ok)).mono ?_
    rintro e w42 ⟨hbw42, rfl⟩
    have HSw42 := Lib.hid (show wr.heap.size ≤ w42.heap.size from hbw42.size)
    have HBw42 := Lib.hid hbw42
    have HOw42 := Lib.hid (EdO.below HO2.out hbw42)
    clear hbw42
    clear c5
    cases hcl : cleanOf x with
    | none =>
     have HN1 := Lib.hid (HST.out.none_ HX.out hcl); clear hcl
     have HKE := Lib.hid HOw42.out.kq
     go_wp2
     go_roundw
     case rel => exact ⟨k + 1, d2, HLT.out, by go_num, HKE, HN1⟩
     case measure => have := HLT.out; simp [intOf]; omega
    | some s =>
     have HCS := Lib.hid (clean_size hcl); have HCL := Lib.hid hcl; clear hcl
     by_cases o5 : op = 5
     ·
      have oe5 : (op == 5) = true := by rw [o5]; rfl
      have HO5 := Lib.hid o5; clear o5
      have cx2 := HOw42.out.2.1.1 2 _ rfl
      go_wp2_with fail
      refine (drop_any base _ d2.links s _ HOw42.out.2.2.1.o2 (by have := HST.out.2.2; omega) (Nat.le_of_lt (Nat.lt_of_le_of_lt HOw42.out.2.2.1.bx HOw42.out.2.2.1.xl))).mono ?_
      rintro e w9 ⟨v9, rfl, how_, hg9, hn9⟩
      obtain ⟨A9, c9, hv_, -⟩ := how_.sl
      subst hv_
      have hbx9 := HOw42.out.2.1.kept hg9 (fun e => HOw42.out.2.2.1.x2 e.symm)
      have HFIN := Lib.hid (EdO.row2 HOw42.out how_ hg9 hn9)
      clear cx2
      have HN1 := Lib.hid (HST.out.drop_ HX.out HCL.out HO5.out)
      have cx2 := hbx9.1 2 _ rfl
      have cfx := hbx9.2.1
      clear how_ hbx9 hg9 hn9
      go_wp2
      go_roundw
      case rel => exact ⟨k + 1, _, HLT.out, by go_num, HFIN, HN1⟩
      case measure => have := HLT.out; simp [intOf]; omega
     ·
      have oe5 : (op == 5) = false := by simpa using o5
      have HO5 := Lib.hid o5; clear o5
      have cx2 := HOw42.out.2.1.1 2 _ rfl
      go_wp2_with fail
      refine (put_any base _ d2.links s _ HOw42.out.2.2.1.o2 HST.out.2.1 (by have := HST.out.2.2; omega) (by have := HCS.out; unfold maxLen; omega) (Nat.le_of_lt (Nat.lt_of_le_of_lt HOw42.out.2.2.1.bx HOw42.out.2.2.1.xl))).mono ?_
      rintro e w9 ⟨v9, rfl, how_, hg9, hn9⟩
      obtain ⟨A9, c9, hv_, -⟩ := how_.sl
      subst hv_
      have hbx9 := HOw42.out.2.1.kept hg9 (fun e => HOw42.out.2.2.1.x2 e.symm)
      have HFIN := Lib.hid (EdO.row2 HOw42.out how_ hg9 hn9)
      clear cx2
      have HN1 := Lib.hid (HST.out.put_ HX.out HCL.out HO5.out)
      have cx2 := hbx9.1 2 _ rfl
      have cfx := hbx9.2.1
      clear how_ hbx9 hg9 hn9
      go_wp2
      go_roundw
      case rel => exact ⟨k + 1, _, HLT.out, by go_num, HFIN, HN1⟩
      case measure => have := HLT.out; simp [intOf]; omega
   ·
    have i1 : ¬ (k : Int) < (ws.length : Int) := by omega
    have HE := Lib.hid (HST.out.end_ (by omega))
    go_wp2
    go_end0
    exact ⟨rfl, by rw [HDD.out, ← HE.out]; exact HBK.out⟩
end Go.Proofs.YtjpoljlgkgmdkaaGreatDoor
