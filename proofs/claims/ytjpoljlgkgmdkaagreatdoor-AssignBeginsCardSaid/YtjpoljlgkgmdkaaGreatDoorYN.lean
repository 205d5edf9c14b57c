/-
  The walks of package tree: slices.Clone of attributes, copied, first, Find.
-/
import Derived.Test.YtjpoljlgkgmdkaaGreatDoorYH
import Derived.Lib.BufferMore
import Derived.Test.YtjpoljlgkgmdkaaGreatDoorYG
import Derived.Test.YtjpoljlgkgmdkaaGreatDoorYVC
import Derived.Test.YtjpoljlgkgmdkaaGreatDoorYB
import Derived.Test.YtjpoljlgkgmdkaaGreatDoorYVD
import Derived.Lib.Overlaps
import Derived.Laws.Externs
import Derived.Test.YtjpoljlgkgmdkaaGreatDoorYSE
import Derived.Lib.ConvBytes
import Derived.Lib.Strings
import Derived.Lib.Walk
import Derived.Lib.AtoiErrMem
import Derived.Laws.Strings3
import Derived.Laws.Closers25
import Derived.Laws.Closers25b
import Derived.Test.YtjpoljlgkgmdkaaGreatDoorYC
set_option linter.unusedSimpArgs false
set_option linter.unusedVariables false
namespace Go.Cold
open Go Go.RowKit
theorem OwnsS.attr {F F' : Nat → Prop} {w : World} {base : Nat} {e : TypeId} {v : Value} {xs : List Attr} (h : OwnsS F w base e v xs) : OwnsS F' w base e v xs := by
 obtain ⟨css, h1, h2, h3⟩ := h
 exact ⟨css, h1, h2, fun i x cs hx hcs => h3 i x cs hx hcs⟩
theorem owns_made (F : Nat → Prop) (w : World) {base : Nat} (T : TypeId) (α : Type) [RepS α] (hb : base ≤ w.heap.size) : OwnsS F (w.alloc (.cells #[] T)) base T (.slice (some ⟨w.heap.size, 0, none⟩) 0 0) ([] : List α) := by
 refine ⟨[], ⟨by simp, .inr ⟨w.heap.size, 0, #[], rfl, hb, ?_, Nat.le_refl _, by unfold maxLen; omega, by simp, by simp⟩⟩, rfl, fun i x cs h => by simp at h⟩
 show (w.heap.push _)[w.heap.size]? = _
 exact Array.getElem?_push_size
end Go.Cold
namespace Go.Proofs.YtjpoljlgkgmdkaaGreatDoor
open Go.RowKit Go.Cold
set_option maxRecDepth 100000 in
theorem Clone_any (A : Option Addr) (c : Nat) (ys : List Attr) (w : World) (B : Nat) (hB : B ≤ w.heap.size) (hx : Sl w B A c ys) (hl : ys.length ≤ 1000000) : Calls Tryz.prog 70 #[.slice A ys.length c] w fun e w' => Below w.heap.size w w' ∧ ∃ v, e = .returned v ∧ OwnsS (fun _ => False) w' w.heap.size 53 v ys := by
 have hx1 := hx.1; have hx2 := hx.2.1
 unfold maxLen at hx2
 have HX := Lib.hid hx; have HB := Lib.hid hB; have HL := Lib.hid hl; clear hx hB hl
 rcases A with _ | A
 ·
  have h0 : ys = [] := by
    rcases ys with _ | ⟨y, r⟩
    · rfl
    ·
     obtain ⟨b, o, e, _⟩ := HX.out.2.2 (by simp)
     cases e
  subst h0
  go_enter Tryz.func70, Tryz.ntmps70
  have hn := fun W => Lib.run_eql_slice_nil_nil (P := Tryz.prog) W 0 c Tryz.underlying26
  go_wp2
  go_ret
  exact ⟨Below.refl _ _, .slice none 0 0, by try rfl, OwnsS.nil_ _ _ _ _⟩
 ·
  go_enter Tryz.func70, Tryz.ntmps70
  have hn := fun W => Lib.run_eql_slice_some_nil (P := Tryz.prog) W A ys.length c Tryz.underlying26
  go_upto_region 3 with fail
  have HOWN0 := Lib.hid (owns_made (fun x => x < B) w (base := w.heap.size) 53 Attr (Nat.le_refl _))
  have hb1 : Below w.heap.size w (w.alloc (.cells #[] 53)) := (Below.refl _ _).alloc (Nat.le_refl _) _
  have HB1 := Lib.hid hb1; clear hb1
  have HSRC := Lib.hid (show SlS (w.alloc (.cells #[] 53)) (fun b => b < B ∧ b < (w.alloc (.cells #[] 53)).heap.size ∧ (Value.slice (some ⟨w.heap.size, 0, none⟩) 0 0).ownBlock ≠ some b) (some A) c ys from (SlS_iff.1 (HX.out.keep (HB1.out.mono HB.out))).mono (fun b hb => ⟨hb, by have := HB.out; have := HB1.out.size; omega, fun e => by have h1 : w.heap.size = b := Option.some.inj e; have := HB.out; have h2 : b < B := hb; omega⟩) (fun _ _ _ _ hu => hu))
  clear hx1 hx2 hn
  go_wp2_with (at_builtin; go_must (refine wpList_app rfl _ _ rfl (.slice (some ⟨w.heap.size, 0, none⟩) 0 0) _ rfl rfl (run_appL E_attr _ _ [] HOWN0.out (some A) c ys (.inl HSRC.out) (by have := HL.out; simp; unfold maxLen; omega) (by have := HL.out; simp; omega) HB1.out.size) ?_); intro v1 w1 hR_; have HR1 := Lib.hid hR_; clear hR_)
  obtain ⟨ho, hg, -⟩ := HR1.out
  rw [List.nil_append] at ho
  go_ret
  exact ⟨HB1.out.grown hg HB1.out.size (fun q hq => by have h1 : w.heap.size = q := Option.some.inj hq; omega), v1, by try rfl, ho.attr⟩
end Go.Proofs.YtjpoljlgkgmdkaaGreatDoor
namespace Go.Cold
open Go Go.RowKit
end Go.Cold
namespace Go.Proofs.YtjpoljlgkgmdkaaGreatDoor
open Go.RowKit Go.Cold
end Go.Proofs.YtjpoljlgkgmdkaaGreatDoor
namespace Go.Cold
open Go Go.RowKit
def NoYet (p : Dev → Bool) (L : List Dev) (k : Nat) : Prop := ∀ d ∈ L.take k, p d = false
theorem NoYet.end_ {p : Dev → Bool} {L : List Dev} (h : NoYet p L L.length) : L.find? p = none := List.find?_eq_none.2 (fun d hd => by
 have h2 := h d (by rw [List.take_length]; exact hd)
 simp [h2])
end Go.Cold
namespace Go.Proofs.YtjpoljlgkgmdkaaGreatDoor
open Go.RowKit Go.Cold
end Go.Proofs.YtjpoljlgkgmdkaaGreatDoor
namespace Go.Cold
open Go Go.RowKit
theorem idx_casesT (p : ByteArray → Bool) (xs : List ByteArray) : (idxInt p xs = -1 ∧ ∀ x ∈ xs, p x = false) ∨ ∃ (i : Nat) (x : ByteArray), idxInt p xs = (i : Int) ∧ xs[i]? = some x ∧ p x = true ∧ ∀ y ∈ xs.take i, p y = false := by
 unfold idxInt
 cases h : xs.findIdx? p with
 | none => exact .inl ⟨rfl, List.findIdx?_eq_none_iff.1 h⟩
 | some i =>
  obtain ⟨hi, h1, h2⟩ := List.findIdx?_eq_some_iff_getElem.1 h
  refine .inr ⟨i, xs[i], rfl, List.getElem?_eq_getElem hi, h1, fun y hy => ?_⟩
  obtain ⟨j, hj, rfl⟩ := List.getElem_of_mem hy
  rw [List.length_take] at hj
  rw [List.getElem_take]
  exact Bool.eq_false_iff.2 (h2 j (by omega))
theorem DelSt.leT {α : Type} [RepS α] {F : Nat → Prop} {w W : World} {base : Nat} {T : TypeId} {g cap : Nat} {xs : List α} {p : α → Bool} {i j : Nat} (h : DelSt F base T g cap w xs p i j W) : i < j ∧ j ≤ xs.length ∧ xs.length ≤ cap := by
 obtain ⟨zs, cur, css, h1, h2, h3, h4, h5, h6, h7⟩ := h
 have := h1.le
 exact ⟨h6, h7, by omega⟩
theorem DelSt.belowT {α : Type} [RepS α] {F : Nat → Prop} {w W W' : World} {base : Nat} {T : TypeId} {g cap : Nat} {xs : List α} {p : α → Bool} {i j : Nat} (h : DelSt F base T g cap w xs p i j W) (hb : Below W.heap.size W W') : DelSt F base T g cap w xs p i j W' := by
 obtain ⟨zs, cur, css, h1, h2, h3, h4, h5, h6, h7⟩ := h
 exact ⟨zs, cur, css, h1.below hb, h2, h3, h4, grown_seq h5 (grown_wide (grown_none hb)), h6, h7⟩
theorem DelSt.grownT {α : Type} [RepS α] {F : Nat → Prop} {w W : World} {base : Nat} {T : TypeId} {g cap : Nat} {xs : List α} {p : α → Bool} {i j : Nat} (h : DelSt F base T g cap w xs p i j W) : w.grownBy W (some g) := by
 obtain ⟨zs, cur, css, h1, h2, h3, h4, h5, h6, h7⟩ := h
 exact h5
theorem setCells1 (w : World) (g o : Nat) (v : Value) : w.setCells g o [v] = w.setCell ⟨g, o, none⟩ v := rfl
end Go.Cold
namespace Go.Proofs.YtjpoljlgkgmdkaaGreatDoor
open Go.RowKit Go.Cold Go.Shelf
theorem overlapsT (w : World) (b1 o1 b2 o2 la ca lb cb : Nat) (hne : b1 ≠ b2) (c1 c2 : Array Value) (h1 : w.heap[b1]? = some (.cells c1 9 (0, 0))) (h2 : w.heap[b2]? = some (.cells c2 9 (0, 0))) (hk : c2.size ≠ 0) :
  (callFunc (155) #[.slice (some ⟨b1, o1, none⟩) la ca, .slice (some ⟨b2, o2, none⟩) lb cb]).run Tryz.prog w = .ok (.value (.bool false)) w := by
 have hz : ∀ w, (Go.sizeOf 9).run Tryz.prog w = .ok 1 w := fun w => by
  obtain ⟨ti, z, hti, hz, hs1, hs2, hs3⟩ := E_txt.info
  have hs1 : ti.size = 1 := hs1
  simp [sizeOf, typeInfo, hti, hs1]
 rw [run_callFunc_extern Tryz.func155 (by kernel_rfl) (by kernel_rfl) (by kernel_rfl) (e := Extern.SlicesOverlaps.overlaps #[27, 27] #[4]) (by kernel_rfl),
  Lib.run_overlaps_apart w 27 4 9 E_txt.sl 1 hz ⟨b1, o1, none⟩ ⟨b2, o2, none⟩ la ca lb cb hne 9 9 c1.size c2.size (by simp [World.shape?, h1]) (by simp [World.shape?, h2]) hk (by simp [World.frozen?, h1]) (by simp [World.frozen?, h1])]
 rfl
set_option maxHeartbeats 4000000 in
set_option maxRecDepth 100000 in
theorem SlInsertT_any (F : Nat → Prop) (base : Nat) (v : Value) (xs : List ByteArray) (i : Nat) (y : ByteArray) (cs : List Value) (gv : Nat) (w : World) (ho : OwnsS F w base 9 v xs) (hi : i ≤ xs.length) (hl : xs.length ≤ 1000)
  (hgv : v.ownBlock ≠ some gv) (hc : w.heap[gv]? = some (.cells cs.toArray 9 (0, 0))) (hr : RepS.rdS w (fun b => F b ∧ b < w.heap.size ∧ v.ownBlock ≠ some b) y cs) (hb : base ≤ w.heap.size) :
  Calls Tryz.prog 127 #[v, .int .i64 i, .slice (some ⟨gv, 0, none⟩) 1 1] w fun e w' => ∃ v', e = .returned v' ∧ OwnsS F w' base 9 v' (xs.take i ++ y :: xs.drop i) ∧ w.grownBy w' v.ownBlock ∧ ∀ k, v'.ownBlock = some k → v.ownBlock = some k ∨ w.heap.size ≤ k := by
 have hcc : ∀ (j : Nat) u, cs[j]? = some u → w.cell? ⟨gv, j, none⟩ = some u := fun j u hu => by
  rw [cell_of_row w gv j cs.toArray _ (0, 0) hc]; simpa using hu
 have HR := Lib.hid hr; have HC := Lib.hid hcc; have HCH := Lib.hid hc; have HGV := Lib.hid hgv; have HO := Lib.hid ho; have HB := Lib.hid hb
 clear hr hcc hc hb
 go_enter Tryz.func127, Tryz.ntmps127
 by_cases hin : i = xs.length
 ·
  subst hin
  obtain ⟨A, c, rfl, hsl⟩ := ho.cs
  have hsl1 := hsl.1; have hsl2 := hsl.2.1
  unfold maxLen at hsl2
  clear ho hgv hsl
  by_cases hcn : c = xs.length
  ·
   subst hcn
   go_wp2_with (at_builtin; go_must (refine wpList_app rfl _ _ rfl _ _ rfl rfl (run_app1 E_txt _ _ xs HO.out gv y cs HC.out HR.out (by unfold maxLen; omega) (by omega) HB.out) ?_); rintro v2 w9 ⟨hown_, hgrow_, hnew_⟩; have HOWN9 := Lib.hid hown_; have HGROW9 := Lib.hid hgrow_; have HNEW9 := Lib.hid hnew_; clear hown_ hgrow_ hnew_)
   go_ret
   exact ⟨v2, rfl, by rw [List.take_length, List.drop_length]; exact HOWN9.out, HGROW9.out, HNEW9.out⟩
  ·
   go_wp2_with (at_builtin; go_must (refine wpList_app rfl _ _ rfl _ _ rfl rfl (run_app1 E_txt _ _ xs HO.out gv y cs HC.out HR.out (by unfold maxLen; omega) (by omega) HB.out) ?_); rintro v2 w9 ⟨hown_, hgrow_, hnew_⟩; have HOWN9 := Lib.hid hown_; have HGROW9 := Lib.hid hgrow_; have HNEW9 := Lib.hid hnew_; clear hown_ hgrow_ hnew_)
   go_ret
   exact ⟨v2, rfl, by rw [List.take_length, List.drop_length]; exact HOWN9.out, HGROW9.out, HNEW9.out⟩
 ·
  rcases ho.opened with ⟨-, rfl⟩ | ⟨g, cap, cur, css, rfl, hrow⟩
  ·
   have h0 : ([] : List ByteArray).length = 0 := rfl
   omega
  ·
   have hne : gv ≠ g := fun e => hgv (by rw [e]; rfl)
   have HROW := Lib.hid hrow
   have hr2 := HR.out
   have HR2 := Lib.hid (show RepS.rdS w (fun b => F b ∧ b < w.heap.size ∧ b ≠ g) y cs from RepS.mono (fun b hb => ⟨hb.1, hb.2.1, fun e => hb.2.2 (by rw [e]; rfl)⟩) (fun _ _ _ _ hu => hu) HR.out)
   have hle := hrow.le; have hlim := hrow.lim
   unfold maxLen at hlim
   have hik : i < xs.length := by omega
   have hw1 : IntKind.i64.wrap ((i : Int) + 1) = ((i + 1 : Nat) : Int) := by rw [IntKind.wrap_i64]; omega
   have hw2 : IntKind.i64.wrap ((xs.length : Int) + 1) = ((xs.length + 1 : Nat) : Int) := by rw [IntKind.wrap_i64]; omega
   have hn1 : ¬ ((i : Int) = (xs.length : Int)) := by omega
   clear ho hgv hr2 hrow HR HO
   by_cases hroom : xs.length + 1 ≤ cap
   ·
    obtain ⟨cur1, cur2, k1, k2, k3⟩ := insert_room (w := w.drew) E_txt HROW.out.drew (i := i) (by omega) hroom gv hne HC.out (RepS.mono (w := w) (fun _ h => h) (fun _ _ _ _ h => h) HR2.out)
    have hov : ∀ lb cb, (callFunc (155) #[.slice (some ⟨gv, 0, none⟩) 1 1, .slice (some ⟨g, i + 1, none⟩) lb cb]).run Tryz.prog w = .ok (.value (.bool false)) w := fun lb cb =>
     overlapsT w gv 0 g (i + 1) 1 1 lb cb hne _ cur HCH.out HROW.out.heap (by rw [HROW.out.size]; show cap * 1 ≠ 0; omega)
    simp only [show Rep.size ByteArray = 1 from rfl, Nat.mul_one] at k1 k2 k3
    have K1 := Lib.hid (show ∀ ty dc sc, (Builtin.copy_ #[27, 27] ty #[.slice (some ⟨g, i + 1, none⟩) (xs.length + 1 - (i + 1)) dc, .slice (some ⟨g, i, none⟩) (xs.length + 1 - i) sc]).run Tryz.prog w.drew = .ok (goInt ((xs.length - i : Nat) : Int)) (w.drew.setRow g cur1) from fun ty dc sc => k1 ty dc sc _ _ E_txt.sl)
    have K2 := Lib.hid (show ∀ ty dc sc, (Builtin.copy_ #[27, 27] ty #[.slice (some ⟨g, i, none⟩) (xs.length + 1 - i) dc, .slice (some ⟨gv, 0, none⟩) 1 sc]).run Tryz.prog (w.drew.setRow g cur1) = .ok (goInt 1) (w.drew.setRow g cur2) from fun ty dc sc => k2 ty dc sc _ _ E_txt.sl)
    have K3 := Lib.hid k3
    clear k1 k2 k3
    have hn2 : ¬ ((cap : Int) < ((xs.length + 1 : Nat) : Int)) := by omega
    have hn3 : ((xs.length + 1 : Nat) : Int) ≤ (cap : Int) := by omega
    have hn4 : ((i + 1 : Nat) : Int) ≤ ((xs.length + 1 : Nat) : Int) := by omega
    have hn5 : (i : Int) ≤ ((xs.length + 1 : Nat) : Int) := by omega
    have hn6 : ¬ cap = i + 1 := by omega
    have ht1 : ((i : Int) + 1).toNat = i + 1 := by omega
    have ht2 : (0 : Int) ≤ (i : Int) + 1 := by omega
    have ht3 : (i : Int) + 1 ≤ (xs.length : Int) + 1 := by omega
    have ht4 : (i : Int) ≤ (xs.length : Int) + 1 := by omega
    have mixed : Tryz.prog.follows Departure.mixedOrders = true := by kernel_rfl
    have hn7 : ¬ cap = i := by omega
    go_wp2_with (simp only [hov])
    go_region_law_o (refine step_copyR (R := fun v' w' => w' = w.drew.setRow g cur1) rfl _ _ rfl (.slice (some ⟨g, i + 1, none⟩) (xs.length + 1 - (i + 1)) (cap - (i + 1))) (.slice (some ⟨g, i, none⟩) (xs.length + 1 - i) (cap - i)) (by simp [Act.eval, Act.put]) (by simp [Act.eval, Act.put]) ⟨_, _, K1.out _ _ _, rfl⟩ ?_; rintro v' w' rfl)
    go_wp2_with (refine wpList_copyR (R := fun v' w' => w' = w.drew.setRow g cur2) rfl _ _ rfl _ _ rfl rfl ⟨_, _, K2.out _ _ _, rfl⟩ ?_; rintro v' w' rfl)
    go_ret
    exact ⟨.slice (some ⟨g, 0, none⟩) (xs.length + 1) cap, rfl, by have h := K3.out.owns; rw [show (xs.take i ++ y :: xs.drop i).length = xs.length + 1 by simp; omega] at h; exact h, grown_seq (grown_wide (grown_none (below_drew w))) (grown_setRow w.drew g cur2), fun k hk => .inl hk⟩
   ·
    obtain ⟨G, cur1, W1, k1, hGn, hbW, hsW, hrW⟩ := insert_grow E_txt HROW.out hik (by omega) HB.out (by omega) (by omega) 3 27 .i64 Tryz.underlying3 .i64
    obtain ⟨N, hN⟩ : ∃ z, w.heap.size = z := ⟨_, rfl⟩
    have hgN : g < w.heap.size := HROW.out.lt
    have hvN : gv < w.heap.size := (Array.getElem?_eq_some_iff.1 HCH.out).1
    have hti2 : (xs.take i).length = i := by rw [List.length_take]; omega
    have hdi : (xs.drop i).length = xs.length - i := List.length_drop
    have hmv : ∀ b o u, (F b ∧ b < w.heap.size ∧ b ≠ g) → w.cell? ⟨b, o, none⟩ = some u → W1.cell? ⟨b, o, none⟩ = some u := fun b o u hb hu => (hbW.cell (p := ⟨b, o, none⟩) hb.2.1).trans hu
    have hmS : ∀ b, (F b ∧ b < w.heap.size ∧ b ≠ g) → (F b ∧ b < W1.heap.size ∧ b ≠ w.heap.size) := fun b hb => ⟨hb.1, by omega, by omega⟩
    obtain ⟨c1, c2, k2, k3, k4⟩ := insert_new E_txt hrW (ys := xs.drop i) (ess := css.drop i) (by rw [hti2, hdi]; omega) gv g (i * 1) (by omega) (by omega) (fun j u hu => (hbW.cell (p := ⟨gv, j, none⟩) hvN).trans (HC.out j u hu)) (RepS.mono hmS hmv HR2.out)
     (by rw [List.length_drop, List.length_drop, HROW.out.len]) (RdL.mono hmS hmv (RdL.drop HROW.out.rd i)) (fun j u hu => (hbW.cell (p := ⟨g, i * 1 + j, none⟩) hgN).trans (HROW.out.from_ i j u hu))
    simp only [show Rep.size ByteArray = 1 from rfl, Nat.mul_one] at k1 k2 k3
    rw [hti2, hdi] at k3
    rw [hti2] at k2
    rw [hN] at k1 k2 k3 k4 hsW hbW
    have hkk : (xs.length : Int) + 1 - (i : Int) = ((xs.length + 1 - i : Nat) : Int) := by omega
    rw [← hkk] at k1
    have hG63 : G ≤ 9223372036854775807 := by have h := k4.lim; unfold maxLen at h; omega
    have K1 := Lib.hid (show ∀ ty, (Builtin.append_ #[27, 3] ty #[.slice (some ⟨g, 0, none⟩) i cap, .int .i64 ((xs.length : Int) + 1 - (i : Int))]).run Tryz.prog w = .ok (.slice (some ⟨N, 0, none⟩) (xs.length + 1) G) W1 from fun ty => k1)
    have K2 := Lib.hid (show ∀ ty dl dc sc, 1 ≤ dl → (Builtin.copy_ #[27, 27] ty #[.slice (some ⟨N, i, none⟩) dl dc, .slice (some ⟨gv, 0, none⟩) 1 sc]).run Tryz.prog W1 = .ok (goInt 1) (W1.setRow N c1) from fun ty dl dc sc h => k2 ty dl dc sc _ _ E_txt.sl h)
    have K3 := Lib.hid (show ∀ ty dl dc sc, xs.length - i ≤ dl → (Builtin.copy_ #[27, 27] ty #[.slice (some ⟨N, i + 1, none⟩) dl dc, .slice (some ⟨g, i, none⟩) (xs.length - i) sc]).run Tryz.prog (W1.setRow N c1).drew = .ok (goInt ((xs.length - i : Nat) : Int)) (W1.setRow N c2).drew from fun ty dl dc sc h => k3 ty dl dc sc _ _ E_txt.sl h)
    have K4 := Lib.hid k4; have HBW := Lib.hid hbW; have HGN := Lib.hid hGn
    clear k1 k2 k3 k4 hbW hmv hmS hkk
    have hw3 : IntKind.i64.wrap ((xs.length : Int) + 1 - (i : Int)) = (xs.length : Int) + 1 - (i : Int) := by rw [IntKind.wrap_i64]; omega
    have hn2 : (cap : Int) < (xs.length : Int) + 1 := by omega
    have ht1 : ((i : Int) + 1).toNat = i + 1 := by omega
    have ht2 : (0 : Int) ≤ (i : Int) + 1 := by omega
    have ht3 : (i : Int) + 1 ≤ (xs.length : Int) + 1 := by omega
    have ht4 : (i : Int) ≤ (xs.length : Int) + 1 := by omega
    have ht5 : (i : Int) ≤ (xs.length : Int) := by omega
    have ht6 : (i : Int) ≤ (cap : Int) := by omega
    have hc1 : ¬ G = i := by omega
    have hc2 : ¬ G = i + 1 := by omega
    have hc3 : ¬ cap = i := by omega
    have mixed : Tryz.prog.follows Departure.mixedOrders = true := by kernel_rfl
    go_wp2_with (first
     | (at_builtin; go_must (refine wpList_appR (R := fun v' w' => v' = .slice (some ⟨N, 0, none⟩) (xs.length + 1) G ∧ W1 = w') rfl _ _ rfl _ _ rfl rfl ⟨_, _, K1.out _, rfl, rfl⟩ ?_); rintro v' w' ⟨rfl, rfl⟩)
     | (refine wpList_copyR (R := fun v' w' => w' = W1.setRow N c1) rfl _ _ rfl _ _ rfl rfl ⟨_, _, K2.out _ _ _ _ (by omega), rfl⟩ ?_; rintro v' w' rfl))
    go_region_law_o (refine step_copyR (R := fun v' w' => w' = (W1.setRow N c2).drew) rfl _ _ rfl (.slice (some ⟨N, i + 1, none⟩) (xs.length + 1 - (i + 1)) (G - (i + 1))) (.slice (some ⟨g, i, none⟩) (xs.length - i) (cap - i)) (by simp [Act.eval, Act.put]) (by simp [Act.eval, Act.put]) ⟨_, _, K3.out _ _ _ _ (by omega), rfl⟩ ?_; rintro v' w' rfl)
    go_wp2
    go_ret
    have hb2 : Below w.heap.size w (W1.setRow N c2).drew := by
     have h1 : Below w.heap.size w (W1.setRow N c2) := (show Below w.heap.size w W1 by rw [hN]; exact HBW.out).grown (grown_setRow W1 N c2) (by omega) (fun q hq => by have := Option.some.inj hq; omega)
     exact h1.trans ((below_drew _).mono h1.size)
    refine ⟨.slice (some ⟨N, 0, none⟩) (xs.length + 1) G, rfl, ?_, grown_wide (grown_none hb2), fun k hk => .inr (by have h1_ : N = k := Option.some.inj hk; omega)⟩
    have h := K4.out.drew.owns
    rw [show (xs.take i ++ y :: xs.drop i).length = xs.length + 1 by simp; omega] at h
    exact h
theorem zero_txt (z : Value) (hz : ∃ ti, Tryz.prog.info? 9 = some ti ∧ ti.zero = some z) : ∀ u ∈ z.cells, u.oneCell' = true := by
 obtain ⟨ti, h1, h2⟩ := hz
 obtain ⟨i, hi, h0, hs, hb⟩ := info_parts info_txt
 rw [h1] at hi
 obtain rfl := Option.some.inj hi
 rw [h2] at h0
 obtain rfl := Option.some.inj h0
 exact fun u hu => (List.all_eq_true.1 (show (Value.cells _).toList.all (fun u => u.oneCell') = true by kernel_rfl)) u (Array.mem_toList_iff.2 hu)
set_option maxHeartbeats 4000000 in
set_option maxRecDepth 100000 in
theorem SlDeleteT_any (base : Nat) (v : Value) (xs : List ByteArray) (fn : FuncId) (caps : Array Value) (p : ByteArray → Bool) (w : World) (ho : OwnsS (fun _ => False) w base 9 v xs) (hp : PredS fn caps w p) (hq : ∀ (x : ByteArray) (W : World), x.size ≤ maxLen → w.grownBy W v.ownBlock → Calls Tryz.prog fn (#[.string x] ++ caps) W fun e W' => e = .returned (.bool (p x)) ∧ Below W.heap.size W W') (hl : xs.length ≤ 1000) :
  Calls Tryz.prog 148 #[v, .func (.func fn) #[] caps] w fun e w' => ∃ v', e = .returned v' ∧ OwnsS (fun _ => False) w' base 9 v' (xs.filter fun x => !p x) ∧ w.grownBy w' v.ownBlock ∧ ∀ k, v'.ownBlock = some k → v.ownBlock = some k := by
 have HQ := Lib.hid hq; clear hq
 have hen := hp.1
 have HP := Lib.hid hp; have HL := Lib.hid hl; have HO := Lib.hid ho
 clear hp
 go_enter Tryz.func148, Tryz.ntmps148
 rcases ho.opened with ⟨rfl, rfl⟩ | ⟨gr, cap, cur, css, rfl, hrow⟩
 ·
  clear ho
  go_wp2_with fail
  refine (IndexFunc_any none 0 [] fn caps p w Sl.nil_ HP.out).mono ?_
  rintro e w1 ⟨rfl, hb1⟩
  have HB1 := Lib.hid hb1; clear hb1
  have hz : idxInt p ([] : List ByteArray) = -1 := rfl
  rw [hz]
  go_wp2
  go_ret
  exact ⟨.slice none 0 0, rfl, HO.out.below HB1.out, grown_wide (grown_none HB1.out), fun k hk => by cases hk⟩
 ·
  have HROW := Lib.hid hrow; have hc1 := hrow.le; have hc2 := hrow.lim
  unfold maxLen at hc2
  clear ho hrow
  have hsl : Sl w w.heap.size (some ⟨gr, 0, none⟩) cap xs := by obtain ⟨A9, c9, he, hs⟩ := HO.out.sl; injection he with e1 e2 e3; subst e1; subst e3; exact hs
  have HSL := Lib.hid hsl; clear hsl
  go_wp2_with fail
  refine (IndexFunc_any (some ⟨gr, 0, none⟩) cap xs fn caps p w HSL.out HP.out).mono ?_
  rintro e w1 ⟨rfl, hb1⟩
  have HB1 := Lib.hid hb1; clear hb1
  have hidx := idx_casesT p xs
  obtain ⟨z, hz⟩ : ∃ z, idxInt p xs = z := ⟨_, rfl⟩
  rw [hz] at hidx ⊢
  clear hz
  rcases hidx with ⟨rfl, hall⟩ | ⟨i0, x0, rfl, hx0, hp0, hbe⟩
  ·
   have HF := Lib.hid (show xs.filter (fun x => !p x) = xs from List.filter_eq_self.2 fun x hx => by rw [hall x hx]; rfl)
   clear hall
   go_wp2
   go_ret
   exact ⟨.slice (some ⟨gr, 0, none⟩) xs.length cap, rfl, by rw [HF.out]; exact HO.out.below HB1.out, grown_wide (grown_none HB1.out), fun k hk => hk⟩
  ·
   have hi0 := (List.getElem?_eq_some_iff.1 hx0).1
   have hst := DelSt.start (W := w) (HROW.out.below HB1.out) (grown_wide (grown_none HB1.out)) hx0 hp0 hbe
   have HST := Lib.hid hst
   clear hst hx0 hp0 hbe
   have hm1 : ((i0 : Int) == -1) = false := by simp; try omega
   have hwi : IntKind.i64.wrap ((i0 : Int) + 1) = ((i0 + 1 : Nat) : Int) := by rw [IntKind.wrap_i64]; omega
   go_wp2_with fail
   go_loopw [5, 6] (fun si sj wr => ∃ i j : Nat, si = .int .i64 i ∧ sj = .int .i64 j ∧ Hid (DelSt (fun _ => False) base 9 gr cap w xs p i j wr)) (fun _ sj _ => xs.length - (intOf sj).toNat)
   case atStart => exact ⟨i0, i0 + 1, rfl, by first | rfl | go_num, HST⟩
   case round =>
    clear HST hwi hm1 hi0
    obtain ⟨i, j, rfl, rfl, HST⟩ := hrel
    obtain ⟨hij, hjx, hxc⟩ := HST.out.leT
    have HSR := Lib.hid HST.out.grownT.size
    by_cases hlt : j < xs.length
    ·
     have i1 : (j : Int) < (xs.length : Int) := by omega
     have hxj : xs[j]? = some xs[j] := List.getElem?_eq_getElem hlt
     obtain ⟨x, hx⟩ : ∃ x, xs[j]'hlt = x := ⟨_, rfl⟩
     rw [hx] at hxj
     have HXJ := Lib.hid hxj; clear hxj hx
     obtain ⟨⟨cs, hrd, hcs⟩, hci, hfz, hgw⟩ := HST.out.at_ HXJ.out
     have HRD := Lib.hid hrd
     obtain ⟨rfl, hxs⟩ := hrd
     have y0 := hcs 0 _ rfl
     rw [show j * Rep.size ByteArray + 0 = j by show j * 1 + 0 = j; omega] at y0
     clear hcs hci hfz hgw
     go_wp2_with fail
     have hcall := HQ.out x wr hxs HST.out.grownT
     refine Calls.mono (R := fun e W' => e = .returned (.bool (p x)) ∧ Below wr.heap.size wr W') ?_ ?_
     · first | exact hcall | simpa using hcall
     rintro e w3 ⟨rfl, hb3⟩
     have HB3 := Lib.hid hb3; clear hb3 y0 hcall
     cases hpx : p x with
     | true =>
      have hs2 := HST.out.skip HXJ.out hpx HB3.out
      have HS2 := Lib.hid hs2; clear hs2 hpx
      go_wp2
      go_roundw
      case rel => exact ⟨i, j + 1, rfl, by go_num, HS2⟩
      case measure => simp [intOf]; omega
     | false =>
      have HPX := Lib.hid hpx; clear hpx
      obtain ⟨-, kk, hfz, -⟩ := (HST.out.belowT HB3.out).at_ HXJ.out
      obtain ⟨v0, e0⟩ : ∃ u, w3.cell? ⟨gr, i * 1 + 0, none⟩ = some u := kk 0 (by decide)
      rw [show i * 1 + 0 = i by omega] at e0
      have hcx : i ≤ cap := by omega
      have hix : (i : Int) < (xs.length : Int) := by omega
      clear kk
      go_upto_region 10 with fail
      clear e0 hfz
      obtain ⟨w4, hw4⟩ : ∃ z, w3.setCell ⟨gr, i, none⟩ (.string x) = z := ⟨_, rfl⟩
      have hs2 := HST.out.put HXJ.out HPX.out HB3.out HRD.out
      rw [show w3.setCells gr (i * Rep.size ByteArray) [.string x] = w4 from by rw [show i * Rep.size ByteArray = i by show i * 1 = i; omega, setCells1]; exact hw4] at hs2
      rw [hw4]
      clear hw4
      have HS2 := Lib.hid hs2; clear hs2
      have hwi : IntKind.i64.wrap ((i : Int) + 1) = ((i + 1 : Nat) : Int) := by rw [IntKind.wrap_i64]; omega
      go_wp2
      go_roundw
      case rel => exact ⟨i + 1, j + 1, by first | rfl | go_num, by go_num, HS2⟩
      case measure => simp [intOf]; omega
    ·
     have i1 : ¬ (j : Int) < (xs.length : Int) := by omega
     obtain rfl : j = xs.length := by omega
     have hic : ¬ cap = i := by omega
     have hix2 : (i : Int) ≤ (xs.length : Int) := by omega
     have hix3 : (i : Int) ≤ (cap : Int) := by omega
     have hone : ∀ (z : Value), (∃ ti, Tryz.prog.info? 9 = some ti ∧ ti.zero = some z) → ∀ u ∈ z.cells, u.oneCell' = true := fun z hz => zero_txt z hz
     go_wp2_with (refine wpList_clearR (R := fun v' w' => w.grownBy w' (some gr) ∧ OwnsS (fun _ => False) w' base 9 (.slice (some ⟨gr, 0, none⟩) i cap) (xs.filter fun x => !p x)) (tys := #[27]) rfl _ rfl (.slice (some ⟨gr, i, none⟩) (xs.length - i) (cap - i)) rfl (by obtain ⟨W2, hrun, hgr, hown, -⟩ := HST.out.done E_txt _ (cap - i) hone; rw [show i * Rep.size ByteArray = i by show i * 1 = i; omega] at hrun; exact ⟨_, W2, hrun, hgr, hown⟩) ?_; rintro v' w9 ⟨hgr_, hown_⟩; have HGR := Lib.hid hgr_; have HOW := Lib.hid hown_; clear hgr_ hown_)
     go_ret
     exact ⟨.slice (some ⟨gr, 0, none⟩) i cap, rfl, HOW.out, HGR.out, fun k hk => hk⟩
end Go.Proofs.YtjpoljlgkgmdkaaGreatDoor
namespace Go.Cold
open Go Go.RowKit Go.Proofs.YtjpoljlgkgmdkaaGreatDoor
theorem Sl.term {w : World} {B c : Nat} {A : Option Addr} {xs : List Term4} (h : Sl w B A c xs) {i : Nat} (hi : i < xs.length) :
  ∃ b o, A = some ⟨b, o, none⟩ ∧ b < B ∧ okT xs[i] ∧ w.cell? ⟨b, o + i * 4, none⟩ = some (.int .i64 xs[i].key) ∧ w.cell? ⟨b, o + i * 4 + 1, none⟩ = some (.string xs[i].nm) ∧ w.cell? ⟨b, o + i * 4 + 2, none⟩ = some (.int .i64 xs[i].op) ∧ w.cell? ⟨b, o + i * 4 + 3, none⟩ = some (.string xs[i].val) := by
 obtain ⟨b, o, e, hlt, cs, hr, hc⟩ := h.at_ hi
 obtain ⟨rfl, hs⟩ := hr
 have hsz : Rep.size Term4 = 4 := rfl
 refine ⟨b, o, e, hlt, hs, ?_, ?_, ?_, ?_⟩
 · have := hc 0 _ rfl; rw [hsz] at this; exact this
 · have := hc 1 _ rfl; rw [hsz] at this; rw [Nat.add_assoc]; exact this
 · have := hc 2 _ rfl; rw [hsz] at this; rw [Nat.add_assoc]; exact this
 · have := hc 3 _ rfl; rw [hsz] at this; rw [Nat.add_assoc]; exact this
end Go.Cold
namespace Go.Proofs.YtjpoljlgkgmdkaaGreatDoor
open Go.RowKit Go.Cold
theorem info_draft2 : (Tryz.prog.info? 30).map (fun i => (i.zero, i.size)) = some (some (.agg #[.slice none 0 0, .slice none 0 0, .slice none 0 0, .slice none 0 0, .slice none 0 0, .string ByteArray.empty, .int .i64 0, .string ByteArray.empty, .string ByteArray.empty, .int .i64 0, .string ByteArray.empty, .int .i64 0, .int .i64 0, .slice none 0 0]), 14) := by kernel_rfl
theorem info_term : (Tryz.prog.info? 35).map (fun i => (i.zero, i.size, i.bytes)) = some (some (.agg #[.int .i64 0, .string ByteArray.empty, .int .i64 0, .string ByteArray.empty]), 4, 48) := by kernel_rfl
theorem E_term : ElemT Tryz.prog (Rep.size Term4) 35 28 48 := ⟨Tryz.underlying28, by obtain ⟨i, hi, hz, h1, h2⟩ := info_parts info_term; exact ⟨i, _, hi, hz, h1, h2, rfl⟩⟩
set_option maxRecDepth 100000 in
theorem Clone4_any (A : Option Addr) (c : Nat) (ys : List Term4) (w : World) (B : Nat) (hB : B ≤ w.heap.size) (hx : Sl w B A c ys) (hl : ys.length ≤ 1000000) : Calls Tryz.prog 71 #[.slice A ys.length c] w fun e w' => Below w.heap.size w w' ∧ ∃ v, e = .returned v ∧ OwnsS (fun _ => False) w' w.heap.size 35 v ys := by
 have hx1 := hx.1; have hx2 := hx.2.1
 unfold maxLen at hx2
 have HX := Lib.hid hx; have HB := Lib.hid hB; have HL := Lib.hid hl; clear hx hB hl
 rcases A with _ | A
 ·
  have h0 : ys = [] := by
    rcases ys with _ | ⟨y, r⟩
    · rfl
    ·
     obtain ⟨b, o, e, _⟩ := HX.out.2.2 (by simp)
     cases e
  subst h0
  go_enter Tryz.func71, Tryz.ntmps71
  have hn := fun W => Lib.run_eql_slice_nil_nil (P := Tryz.prog) W 0 c Tryz.underlying28
  go_wp2
  go_ret
  exact ⟨Below.refl _ _, .slice none 0 0, by try rfl, OwnsS.nil_ _ _ _ _⟩
 ·
  go_enter Tryz.func71, Tryz.ntmps71
  have hn := fun W => Lib.run_eql_slice_some_nil (P := Tryz.prog) W A ys.length c Tryz.underlying28
  go_upto_region 3 with fail
  have HOWN0 := Lib.hid (owns_made (fun x => x < B) w (base := w.heap.size) 35 Term4 (Nat.le_refl _))
  have hb1 : Below w.heap.size w (w.alloc (.cells #[] 35)) := (Below.refl _ _).alloc (Nat.le_refl _) _
  have HB1 := Lib.hid hb1; clear hb1
  have HSRC := Lib.hid (show SlS (w.alloc (.cells #[] 35)) (fun b => b < B ∧ b < (w.alloc (.cells #[] 35)).heap.size ∧ (Value.slice (some ⟨w.heap.size, 0, none⟩) 0 0).ownBlock ≠ some b) (some A) c ys from (SlS_iff.1 (HX.out.keep (HB1.out.mono HB.out))).mono (fun b hb => ⟨hb, by have := HB.out; have := HB1.out.size; omega, fun e => by have h1 : w.heap.size = b := Option.some.inj e; have := HB.out; have h2 : b < B := hb; omega⟩) (fun _ _ _ _ hu => hu))
  clear hx1 hx2 hn
  go_wp2_with (at_builtin; go_must (refine wpList_app rfl _ _ rfl (.slice (some ⟨w.heap.size, 0, none⟩) 0 0) _ rfl rfl (run_appL E_term _ _ [] HOWN0.out (some A) c ys (.inl HSRC.out) (by have := HL.out; have h0_ : ([] : List Term4).length = 0 := rfl; unfold maxLen; omega) (by have := HL.out; have h0_ : ([] : List Term4).length = 0 := rfl; omega) HB1.out.size) ?_); intro v1 w1 hR_; have HR1 := Lib.hid hR_; clear hR_)
  obtain ⟨ho, hg, -⟩ := HR1.out
  rw [List.nil_append] at ho
  go_ret
  exact ⟨HB1.out.grown hg HB1.out.size (fun q hq => by have h1 : w.heap.size = q := Option.some.inj hq; omega), v1, by try rfl, own_any4 ho⟩
set_option maxRecDepth 100000 in
theorem CloneT_any (A : Option Addr) (c : Nat) (ys : List ByteArray) (w : World) (B : Nat) (hB : B ≤ w.heap.size) (hx : Sl w B A c ys) (hl : ys.length ≤ 1000000) : Calls Tryz.prog 72 #[.slice A ys.length c] w fun e w' => Below w.heap.size w w' ∧ ∃ v, e = .returned v ∧ OwnsS (fun _ => False) w' w.heap.size 9 v ys := by
 have hx1 := hx.1; have hx2 := hx.2.1
 unfold maxLen at hx2
 have HX := Lib.hid hx; have HB := Lib.hid hB; have HL := Lib.hid hl; clear hx hB hl
 rcases A with _ | A
 ·
  have h0 : ys = [] := by
    rcases ys with _ | ⟨y, r⟩
    · rfl
    ·
     obtain ⟨b, o, e, _⟩ := HX.out.2.2 (by simp)
     cases e
  subst h0
  go_enter Tryz.func72, Tryz.ntmps72
  have hn := fun W => Lib.run_eql_slice_nil_nil (P := Tryz.prog) W 0 c Tryz.underlying27
  go_wp2
  go_ret
  exact ⟨Below.refl _ _, .slice none 0 0, by try rfl, OwnsS.nil_ _ _ _ _⟩
 ·
  go_enter Tryz.func72, Tryz.ntmps72
  have hn := fun W => Lib.run_eql_slice_some_nil (P := Tryz.prog) W A ys.length c Tryz.underlying27
  go_upto_region 3 with fail
  have HOWN0 := Lib.hid (owns_made (fun x => x < B) w (base := w.heap.size) 9 ByteArray (Nat.le_refl _))
  have hb1 : Below w.heap.size w (w.alloc (.cells #[] 9)) := (Below.refl _ _).alloc (Nat.le_refl _) _
  have HB1 := Lib.hid hb1; clear hb1
  have HSRC := Lib.hid (show SlS (w.alloc (.cells #[] 9)) (fun b => b < B ∧ b < (w.alloc (.cells #[] 9)).heap.size ∧ (Value.slice (some ⟨w.heap.size, 0, none⟩) 0 0).ownBlock ≠ some b) (some A) c ys from (SlS_iff.1 (HX.out.keep (HB1.out.mono HB.out))).mono (fun b hb => ⟨hb, by have := HB.out; have := HB1.out.size; omega, fun e => by have h1 : w.heap.size = b := Option.some.inj e; have := HB.out; have h2 : b < B := hb; omega⟩) (fun _ _ _ _ hu => hu))
  clear hx1 hx2 hn
  go_wp2_with (at_builtin; go_must (refine wpList_app rfl _ _ rfl (.slice (some ⟨w.heap.size, 0, none⟩) 0 0) _ rfl rfl (run_appL E_txt _ _ [] HOWN0.out (some A) c ys (.inl HSRC.out) (by have := HL.out; have h0_ : ([] : List ByteArray).length = 0 := rfl; unfold maxLen; omega) (by have := HL.out; have h0_ : ([] : List ByteArray).length = 0 := rfl; omega) HB1.out.size) ?_); intro v1 w1 hR_; have HR1 := Lib.hid hR_; clear hR_)
  obtain ⟨ho, hg, -⟩ := HR1.out
  rw [List.nil_append] at ho
  go_ret
  exact ⟨HB1.out.grown hg HB1.out.size (fun q hq => by have h1 : w.heap.size = q := Option.some.inj hq; omega), v1, by try rfl, own_anyT ho⟩
theorem lower_any (c : Int) (w : World) : Calls Tryz.prog 180 #[.int .u8 c] w fun e w' => e = .returned (.int .u8 (bits .or .u8 c 32)) ∧ w' = w := by
 go_enter Tryz.func180, Tryz.ntmps180
 go_wp2
 go_ret
 exact ⟨rfl, rfl⟩
def PuPost (o : Option Int) (w : World) (e : Ending) (w' : World) : Prop := Below w.heap.size w w' ∧ ((∃ n, o = some n ∧ e = .returned (.tuple #[.int .u64 n, .nilIface])) ∨ (o = none ∧ ∃ x z, e = .returned (.tuple #[.int .u64 x, .iface 192 (.int .i64 z)]) ∧ (z = 1 ∨ z = 2)))
theorem puGo_big {a : Int} {c : UInt8} {r : List UInt8} (h : ¬ (48 ≤ c.toNat ∧ c.toNat ≤ 55 ∧ 8 * a + ((c.toNat : Int) - 48) ≤ 4095)) : puGo a (c :: r) = none := by rw [puGo, if_neg h]
theorem puGo_ok {a : Int} {c : UInt8} {r : List UInt8} (h : 48 ≤ c.toNat ∧ c.toNat ≤ 55 ∧ 8 * a + ((c.toNat : Int) - 48) ≤ 4095) : puGo a (c :: r) = puGo (8 * a + ((c.toNat : Int) - 48)) r := by rw [puGo, if_pos h]
set_option maxHeartbeats 32000000 in
set_option maxRecDepth 100000 in
theorem puI_any (t : ByteArray) (hne : t.size ≠ 0) (hmax : t.size ≤ 100000) (w : World) : Calls Tryz.prog 151 #[.string t, .int .i64 8, .int .i64 12] w (PuPost (puGo 0 t.data.toList) w) := by
 have mixed : Tryz.prog.follows Departure.mixedOrders = true := by kernel_rfl
 have hemp : t.toList.isEmpty = false := by
  rw [← decide_eq_emptyBytes]
  exact decide_eq_false (fun h => hne (by rw [h]; rfl))
 have hcv := Lib.run_convert_string_bytes (P := Tryz.prog) w 9 81 5 t (u := .string) Tryz.underlying9 Tryz.underlying81 Tryz.underlying5
 have hB : ∀ j, j < t.size → (Lib.bytesWorld w 5 t).cell? ⟨w.heap.size, j, none⟩ = some (.int .u8 (t.data.toList.getD j 0).toNat) := fun j hj => Lib.bytesWorld_cell w 5 t j hj
 have HBW := Lib.hid (Lib.bytesWorld_below w 5 t)
 obtain ⟨W1, hW1⟩ : ∃ W1, W1 = Lib.bytesWorld w 5 t := ⟨_, rfl⟩
 rw [← hW1] at hcv hB HBW
 clear hW1
 obtain ⟨bs, hL⟩ : ∃ bs, bs = t.data.toList := ⟨_, rfl⟩
 have hLn : bs.length = t.size := by rw [hL, Lib.size_eq]
 rw [← hL] at hB ⊢
 clear hL hne
 have hmv : IntKind.u64.wrap (IntKind.u64.wrap 4096 - 1) = 4095 := by
  rw [IntKind.wrap_u64, IntKind.wrap_u64]
  decide
 go_enter Tryz.func151, Tryz.ntmps151
 go_wp2
 go_loop [12, 13, 101] (fun vu vn vi => ∃ (k : Nat) (a : Int), vu = .bool false ∧ vn = .int .u64 a ∧ vi = .int .i64 k ∧ k ≤ t.size ∧ Hid (0 ≤ a ∧ a ≤ 4095 ∧ puGo 0 bs = puGo a (bs.drop k)))
  (fun _ _ vi => t.size - (intOf vi).toNat)
 case atStart => exact ⟨0, 0, rfl, rfl, rfl, by omega, by omega, by omega, rfl⟩
 case round =>
  obtain ⟨k, a, rfl, rfl, rfl, hk, hh⟩ := hrel
  obtain ⟨a0, a1, hdec⟩ := hh.out
  clear hh
  by_cases hkn : k < t.size
  ·
   have hc := hB k hkn
   have hdrop : bs.drop k = bs[k]'(by omega) :: bs.drop (k + 1) := List.drop_eq_getElem_cons (by omega)
   have hget : bs.getD k 0 = bs[k]'(by omega) := by simp [List.getD, List.getElem?_eq_getElem (show k < bs.length by omega)]
   rw [hdrop] at hdec
   rw [hget] at hc
   generalize bs[k]'(by omega) = c at hc hdec
   have hc256 : c.toNat < 256 := c.toNat_lt
   clear hB hdrop hget
   by_cases hdig : 48 ≤ c.toNat ∧ c.toNat ≤ 57
   ·
    obtain ⟨hd0, hd1⟩ := hdig
    by_cases hoct : c.toNat ≤ 55
    ·
     by_cases hov : 4095 < a * 8 + ((c.toNat : Int) - 48)
     ·
      have hF := hdec.trans (puGo_big (by omega))
      have HF := Lib.hid hF; clear hF hdec
      go_wp2
      go_ret2
      exact ⟨HBW.out, .inr ⟨HF.out, _, _, rfl, .inl rfl⟩⟩
     ·
      have HN : Hid (0 ≤ a * 8 + ((c.toNat : Int) - 48) ∧ a * 8 + ((c.toNat : Int) - 48) ≤ 4095 ∧ puGo 0 bs = puGo (a * 8 + ((c.toNat : Int) - 48)) (bs.drop (k + 1))) := Lib.hid ⟨by omega, by omega, hdec.trans (by rw [puGo_ok (by omega), show 8 * a + ((c.toNat : Int) - 48) = a * 8 + ((c.toNat : Int) - 48) by omega])⟩
      have iov : a * 8 + ((c.toNat : Int) - 48) ≤ 4095 := by omega
      clear hov hdec
      go_wp2
      refine ⟨⟨k + 1, a * 8 + ((c.toNat : Int) - 48), rfl, (by first | rfl | (congr 1; omega)), (by first | rfl | (congr 1; omega)), by omega, HN⟩, by simp [intOf]; omega⟩
    ·
     have hF := hdec.trans (puGo_big (by omega))
     have HF := Lib.hid hF; clear hF hdec
     go_wp2
     go_ret2
     exact ⟨HBW.out, .inr ⟨HF.out, _, _, rfl, .inr rfl⟩⟩
   ·
    have hF := hdec.trans (puGo_big (by omega))
    have HF := Lib.hid hF; clear hF hdec
    have hv0 := bits_lo_u8 .or (c.toNat : Int) 32
    have hv1 := bits_hi_u8 .or (c.toNat : Int) 32
    have hu0 := bits_lo_u8 .or 95 32
    have hu1 := bits_hi_u8 .or 95 32
    go_wp2_with (go_at_call 180; refine (lower_any _ _).mono ?_; rintro e w' ⟨rfl, rfl⟩)
    all_goals go_ret2
    all_goals exact ⟨HBW.out, .inr ⟨HF.out, _, _, rfl, .inr rfl⟩⟩
  ·
   have hkk : k = t.size := by omega
   subst hkk
   have hF : puGo 0 bs = some a := hdec.trans (by rw [List.drop_eq_nil_of_le (by omega)]; rfl)
   have HF := Lib.hid hF; clear hF hdec a0 a1
   go_wp2
   go_ret2
   exact ⟨HBW.out, .inl ⟨a, HF.out, rfl⟩⟩
def PuR (o : Option Int) (w : World) (e : Ending) (w' : World) : Prop := Below w.heap.size w w' ∧ ∃ x ev, e = .returned (.tuple #[.int .u64 x, ev]) ∧ ((o = some x ∧ ev = .nilIface) ∨ (o = none ∧ ∃ te pe, ev = .iface te pe))
set_option maxHeartbeats 4000000 in
set_option maxRecDepth 100000 in
theorem Pu_any (t : ByteArray) (w : World) (hok : Ok7 w) (ht : t.size ≤ 100000) : Calls Tryz.prog 125 #[.string t, .int .i64 8, .int .i64 12] w (PuR (puT t) w) := by
 have H7 := Lib.hid hok; clear hok
 have HT := Lib.hid ht; clear ht
 have hint : Calls Tryz.prog 151 #[.string t, .int .i64 8, .int .i64 12] w (PuPost (puT t) w) := by
  by_cases h0 : t.size = 0
  ·
   have hpt : puT t = none := by unfold puT; rw [if_pos h0]
   have hemp : t.toList.isEmpty = true := by
    rw [← decide_eq_emptyBytes]
    exact decide_eq_true (ba_ext (List.eq_nil_of_length_eq_zero (by rw [ba_size]; exact h0)))
   obtain ⟨p1, p2⟩ := emptiesR hemp
   have HPT := Lib.hid hpt; clear hpt h0
   go_enter Tryz.func151, Tryz.ntmps151
   go_wp2
   go_ret2
   exact ⟨Below.refl _ _, .inr ⟨HPT.out, _, _, rfl, .inr rfl⟩⟩
  ·
   have hpt : puT t = puGo 0 t.data.toList := by unfold puT; rw [if_neg h0]
   rw [hpt]
   exact puI_any t h0 HT.out w
 have HI := Lib.hid hint; clear hint
 go_enter Tryz.func125, Tryz.ntmps125
 go_wp2_with fail
 refine HI.out.mono ?_
 rintro e w1 ⟨hb1, hor⟩
 have HB1 := Lib.hid hb1
 have HK := Lib.hid (H7.out.below hb1)
 clear hb1
 rcases hor with ⟨n, hn, rfl⟩ | ⟨hn, x, z, rfl, hz⟩
 ·
  have HN := Lib.hid hn; clear hn
  go_wp2
  go_ret2
  exact ⟨HB1.out, n, _, rfl, .inl ⟨HN.out, rfl⟩⟩
 ·
  have HN := Lib.hid hn; clear hn
  rcases hz with rfl | rfl
  ·
   obtain ⟨-, ⟨ev, h1, h2⟩, -⟩ := HK.out
   have HE1 := Lib.hid h1; have HE2 := Lib.hid h2; clear h1 h2
   go_wp2_with fail
   refine (Tryz.strconv_toError_range _ t 8 12 ev _ (by have := HT.out; omega) HE1.out HE2.out).mono ?_
   rintro e w2 ⟨N, rfl, h1, h2, h3⟩
   have HB2 := Lib.hid (below_next HB1.out h3); clear h1 h2 h3
   go_wp2
   go_ret2
   exact ⟨HB2.out, x, _, rfl, .inr ⟨HN.out, _, _, rfl⟩⟩
  ·
   obtain ⟨⟨ev, h1, h2⟩, -, -⟩ := HK.out
   have HE1 := Lib.hid h1; have HE2 := Lib.hid h2; clear h1 h2
   go_wp2_with fail
   refine (Tryz.strconv_toError_syntax _ t 8 12 ev _ (by have := HT.out; omega) HE1.out HE2.out).mono ?_
   rintro e w2 ⟨N, rfl, h1, h2, h3⟩
   have HB2 := Lib.hid (below_next HB1.out h3); clear h1 h2 h3
   go_wp2
   go_ret2
   exact ⟨HB2.out, x, _, rfl, .inr ⟨HN.out, _, _, rfl⟩⟩
end Go.Proofs.YtjpoljlgkgmdkaaGreatDoor
namespace Go.Proofs.YtjpoljlgkgmdkaaGreatDoor
open Go.RowKit Go.Cold Go.Shelf
structure PredM (g : FuncId) (caps : Array Value) (w : World) (B : Nat) (Q : Term4 → Prop) (p : Term4 → Bool) : Prop where
  enters : ∀ args w, (callFunc g args).run Tryz.prog w = .ok (.enter g args) w
  gives : ∀ (d : Term4) (W : World), okT d → Q d → Below w.heap.size w W → Calls Tryz.prog g (#[.agg #[.int .i64 d.key, .string d.nm, .int .i64 d.op, .string d.val]] ++ caps) W fun e W' => e = .returned (.bool (p d)) ∧ Below W.heap.size W W'
theorem PredM.next {g : FuncId} {caps : Array Value} {w w' : World} {B : Nat} {Q : Term4 → Prop} {p : Term4 → Bool} (h : PredM g caps w B Q p) (hb : Below w.heap.size w w') : PredM g caps w' B Q p :=
  ⟨h.enters, fun d W h1 h3 hW => h.gives d W h1 h3 (hb.trans (hW.mono hb.size))⟩
set_option maxRecDepth 10000 in
theorem IndexFuncM_any (A : Option Addr) (c : Nat) (xs : List Term4) (g : FuncId) (caps : Array Value) (Q : Term4 → Prop) (p : Term4 → Bool) (w : World) (B : Nat) (hB : B ≤ w.heap.size) (hx : Sl w B A c xs) (hp : PredM g caps w B Q p) (hq : ∀ d ∈ xs, Q d) :
    Calls Tryz.prog 73 #[.slice A xs.length c, .func (.func g) #[] caps] w fun e w' => e = .returned (.int .i64 (idxInt p xs)) ∧ Below w.heap.size w w' := by
  have hc := hx.1; have hc2 := hx.2.1
  unfold maxLen at hc2
  have hen := hp.enters
  have HP := Lib.hid hp; clear hp
  have HSl := Lib.hid hx; clear hx
  have HQQ := Lib.hid hq; clear hq
  have HB := Lib.hid hB; clear hB
  go_enter Tryz.func73, Tryz.ntmps73
  go_wp2
  go_loopw [8] (fun i wr => ∃ k : Nat, k ≤ xs.length ∧ i = .int .i64 k ∧ Hid ((xs.take k).all (fun x => !p x) = true) ∧ Below w.heap.size w wr) (fun i _ => xs.length - (intOf i).toNat)
  case atStart => exact ⟨0, Nat.zero_le _, rfl, rfl, Below.refl _ _⟩
  case round =>
    obtain ⟨k, hk, rfl, HA, hb⟩ := hrel
    by_cases hlt : k < xs.length
    · obtain ⟨b3, o3, rfl, hb3, hsz, cx0, cx1, cx2, cx3⟩ := Sl.term (HSl.out.keep (hb.mono HB.out)) hlt
      have hxk : xs[k]? = some xs[k] := List.getElem?_eq_getElem hlt
      have HQ := Lib.hid (HQQ.out _ (List.getElem_mem hlt))
      obtain ⟨x, hx⟩ : ∃ x, xs[k]'hlt = x := ⟨_, rfl⟩
      rw [hx] at cx0 cx1 cx2 cx3 hsz hxk HQ
      have HX := Lib.hid hxk; clear hxk
      have HXX := Lib.hid hx; clear hx
      have i1 : (k : Int) < (xs.length : Int) := by omega
      have HCALL := Lib.hid (HP.out.gives x wr hsz HQ.out hb)
      
      go_wp2_with fail
      refine Calls.mono (R := fun e W' => e = .returned (.bool (p x)) ∧ Below wr.heap.size wr W') ?_ ?_
      · first | exact HCALL.out | simpa using HCALL.out
      rintro e w1 ⟨rfl, hb1⟩
      have hb2 := hb.trans (hb1.mono hb.size)
      clear hb1 hb HCALL cx2 cx3 cx0 cx1 hsz
      cases hpx : p x with
      | true =>
        have HPX := Lib.hid hpx; clear hpx
        go_wp2
        go_ret
        exact ⟨ret_int (idxInt_some hlt HA.out (by rw [HXX.out]; exact HPX.out)).symm, hb2⟩
      | false =>
        have HPX := Lib.hid hpx; clear hpx
        go_wp2
        go_roundw
        case rel => exact ⟨k + 1, by omega, by go_num, all_step HA.out HX.out (by rw [HPX.out]; rfl), hb2⟩
        case measure => simp [intOf]; omega
    · go_wp2
      go_ret
      exact ⟨ret_int (idxInt_none (all_end HA.out (by omega))).symm, hb⟩
theorem ContainsFuncM_any (A : Option Addr) (c : Nat) (xs : List Term4) (g : FuncId) (caps : Array Value) (Q : Term4 → Prop) (p : Term4 → Bool) (w : World) (B : Nat) (hB : B ≤ w.heap.size) (hx : Sl w B A c xs) (hp : PredM g caps w B Q p) (hq : ∀ d ∈ xs, Q d) :
    Calls Tryz.prog 34 #[.slice A xs.length c, .func (.func g) #[] caps] w fun e w' => e = .returned (.bool (xs.any p)) ∧ Below w.heap.size w w' := by
  have HP := Lib.hid hp; clear hp
  have HSl := Lib.hid hx; clear hx
  have HQQ := Lib.hid hq; clear hq
  have HB := Lib.hid hB; clear hB
  go_enter Tryz.func34, Tryz.ntmps34
  go_wp2_with fail
  refine (IndexFuncM_any A c xs g caps Q p w B HB.out HSl.out HP.out HQQ.out).mono ?_
  rintro e w1 ⟨rfl, hb1⟩
  go_wp2
  go_ret
  exact ⟨ret_bool (idxInt_any _ _), hb1⟩

theorem BS_any (A : Option Addr) (c : Nat) (l : List ByteArray) (s : ByteArray) (w : World) (hx : Sl w w.heap.size A c l) (ha : ascL l = true) (hl : l.length ≤ 1000000) : Calls Tryz.prog 126 #[.slice A l.length c, .string s] w fun e w' => e = .returned (.tuple #[.int .i64 (posT l s : Nat), .bool (hasT l s)]) ∧ Below w.heap.size w w' := by
  by_cases h0 : l.length = 0
  · have hn : l = [] := List.eq_nil_of_length_eq_zero h0
    subst hn
    refine (Tryz.slices_BinarySearch_textsE A c s w).mono ?_
    rintro e w' ⟨rfl, rfl⟩
    exact ⟨rfl, Below.refl _ _⟩
  · obtain ⟨b, o, rfl, hb, h4⟩ := hx.2.2 (by omega)
    refine (Tryz.slices_BinarySearch_texts b o l.length c (fun t => l.getD t s) s w (by omega) (fun j hj => ?_)).mono ?_
    · obtain ⟨cs, ⟨rfl, h5⟩, h6⟩ := h4 j _ (List.getElem?_eq_getElem hj)
      have h7 := h6 0 _ rfl
      rw [show j * Rep.size ByteArray + 0 = j by show j * 1 + 0 = j; omega] at h7
      rw [h7]
      simp [List.getD, List.getElem?_eq_getElem hj]
    · rintro e w' ⟨rfl, q, rfl⟩
      rw [bs_pos ha, bs_has]
      exact ⟨rfl, below_drewN_self _ _ _⟩
theorem full_any (v : ByteArray) (w : World) (hv : v.size ≤ maxLen) : Calls Tryz.prog 81 #[.string v] w fun e w' => e = .returned (.bool (fullT v)) ∧ Below w.heap.size w w' := by
  have HV := Lib.hid hv; clear hv
  go_enter Tryz.func81, Tryz.ntmps81
  by_cases hve : v.toList.isEmpty = true
  · obtain ⟨p1, p2⟩ := emptiesR hve
    have HF := Lib.hid (show fullT v = false by unfold fullT; rw [hve]; rfl); clear hve
    go_wp2
    go_ret
    exact ⟨by rw [HF.out]; rfl, Below.refl _ _⟩
  · have hve2 : v.toList.isEmpty = false := by simpa using hve
    obtain ⟨p1, p2⟩ := emptiesR hve2
    have HF := Lib.hid (show fullT v = textB v by unfold fullT; rw [hve2]; rfl); clear hve hve2
    go_wp2_with fail
    refine (Text_any v _ HV.out).mono ?_
    rintro e w9 ⟨rfl, hw_⟩
    rw [← hw_]; clear hw_ w9
    obtain ⟨tx, htx⟩ : ∃ z, textB v = z := ⟨_, rfl⟩
    rw [htx]
    have HTX := Lib.hid htx; clear htx
    go_wp2
    go_ret
    exact ⟨by rw [HF.out, HTX.out]; rfl, Below.refl _ _⟩
theorem putT_no {l : List ByteArray} {s : ByteArray} {n : Nat} (h : hasT l s = true ∨ n ≤ l.length) : putT l s n = l := if_pos h
theorem putT_yes {l : List ByteArray} {s : ByteArray} {n p : Nat} (h1 : hasT l s = false) (h2 : ¬ n ≤ l.length) (hp : posT l s = p) : putT l s n = l.take p ++ s :: l.drop p := by
  unfold putT
  rw [if_neg (by rintro (h | h); · rw [h1] at h; cases h
                 · exact h2 h), hp]
set_option maxRecDepth 100000 in
theorem put_any (base : Nat) (v : Value) (l : List ByteArray) (s : ByteArray) (w : World) (ho : OwnsS (fun _ => False) w base 9 v l) (ha : ascL l = true) (hl : l.length ≤ 1000) (hs : s.size ≤ maxLen) (hb : base ≤ w.heap.size) :
    Calls Tryz.prog 82 #[v, .string s, .int .i64 16] w (RowPost 9 base v (putT l s 16) w) := by
  obtain ⟨A, c, rfl, hsl⟩ := ho.sl
  have hc1 := hsl.1; have hc2 := hsl.2.1
  unfold maxLen at hc2
  have HO := Lib.hid ho; have HSL := Lib.hid hsl; have HA := Lib.hid ha; have HS := Lib.hid hs; have HB := Lib.hid hb
  clear ho hsl ha hs hb
  go_enter Tryz.func82, Tryz.ntmps82
  go_wp2_with fail
  refine (BS_any A c l s _ HSL.out HA.out (by omega)).mono ?_
  rintro e w1 ⟨rfl, hb1⟩
  have HB1 := Lib.hid hb1; clear hb1
  have hpl := posT_le l s
  obtain ⟨p, hp⟩ : ∃ z, posT l s = z := ⟨_, rfl⟩
  obtain ⟨q, hq⟩ : ∃ z, hasT l s = z := ⟨_, rfl⟩
  rw [hp] at hpl
  rw [hp, hq]
  have HP := Lib.hid hp; have HQ := Lib.hid hq; clear hp hq
  cases q with
  | true =>
    have HE := Lib.hid (putT_no (n := 16) (.inl HQ.out))
    go_wp2
    go_ret
    rw [HE.out]
    exact RowPost.same HO.out HB1.out
  | false =>
    by_cases h16 : 16 ≤ l.length
    · have i1 : (16 : Int) ≤ (l.length : Int) := by omega
      have HE := Lib.hid (putT_no (s := s) (.inr h16)); clear h16
      go_wp2
      go_ret
      rw [HE.out]
      exact RowPost.same HO.out HB1.out
    · have i1 : ¬ (16 : Int) ≤ (l.length : Int) := by omega
      have HE := Lib.hid (putT_yes HQ.out h16 HP.out); clear h16
      obtain ⟨w2, hw2⟩ : ∃ z, w1.alloc (.cells #[.string s] 9) = z := ⟨_, rfl⟩
      have hb2 : Below w1.heap.size w1 w2 := by rw [← hw2]; exact (Below.refl _ _).alloc (Nat.le_refl _) _
      have HN2 := Lib.hid (show w2.heap[w1.heap.size]? = some (.cells [Value.string s].toArray 9 (0, 0)) from by rw [← hw2]; exact heap_alloc_new w1 _)
      have HG2 := Lib.hid (show w2.heap.size = w1.heap.size + 1 by rw [← hw2]; simp)
      have HB2 := Lib.hid (below_next HB1.out hb2); clear hb2
      go_wp2_with fail
      try rw [hw2]
      clear hw2
      have hown := HO.out.below HB2.out
      refine (SlInsertT_any (fun _ => False) base (.slice A l.length c) l p s [.string s] w1.heap.size w2 hown hpl (by omega) (fun e => by have := (HO.out.lt _ e).2; have := HB1.out.size; omega) HN2.out ⟨rfl, HS.out⟩ (Nat.le_trans HB.out HB2.out.size)).mono ?_
      rintro e w3 ⟨v', rfl, ho3, hg3, hn3⟩
      have HO3 := Lib.hid ho3; have HG3 := Lib.hid hg3; have HN3 := Lib.hid hn3
      clear ho3 hg3 hn3 hown
      go_wp2
      go_ret
      rw [HE.out]
      exact ⟨v', rfl, HO3.out, grown_seq (grown_wide (grown_none HB2.out)) HG3.out, fun k hk => (HN3.out k hk).imp id fun h => Nat.le_trans HB2.out.size h⟩
theorem drop1_any (x s : ByteArray) (q : Nat) (w : World) (hc : w.cell? ⟨q, 0, none⟩ = some (.string s)) : Calls Tryz.prog 149 #[.string x, .pointer (some ⟨q, 0, none⟩)] w fun e w' => e = .returned (.bool (decide (x = s))) ∧ Below w.heap.size w w' := by
  go_enter Tryz.func149, Tryz.ntmps149
  go_wp2
  go_ret
  exact ⟨by rw [← ba_beq]; rfl, Below.refl _ _⟩
set_option maxRecDepth 100000 in
theorem drop_any (base : Nat) (v : Value) (l : List ByteArray) (s : ByteArray) (w : World) (ho : OwnsS (fun _ => False) w base 9 v l) (hl : l.length ≤ 1000) (hb : base ≤ w.heap.size) :
    Calls Tryz.prog 121 #[v, .string s] w (RowPost 9 base v (withoutT l s) w) := by
  have HO := Lib.hid ho; have HB := Lib.hid hb; have HL := Lib.hid hl
  clear ho hb hl
  go_enter Tryz.func121, Tryz.ntmps121
  obtain ⟨w2, hw2⟩ : ∃ z, w.alloc (.cells #[.string s] 9) = z := ⟨_, rfl⟩
  have hb2 : Below w.heap.size w w2 := by rw [← hw2]; exact (Below.refl _ _).alloc (Nat.le_refl _) _
  have HX2 := Lib.hid (show BoxL w2 w.heap.size [.string s] from box_mk hw2)
  have HB2 := Lib.hid hb2; clear hb2
  go_wp2_with fail
  try rw [hw2]
  clear hw2
  have hown := HO.out.below HB2.out
  have hlt : ∀ k, v.ownBlock = some k → k < w.heap.size := fun k hk => (HO.out.lt k hk).2
  have hen := enters_of Tryz.func149 (by kernel_rfl) rfl
  have hq : ∀ (x : ByteArray) (W : World), x.size ≤ maxLen → w2.grownBy W v.ownBlock → Calls Tryz.prog 149 (#[.string x] ++ #[.pointer (some ⟨w.heap.size, 0, none⟩)]) W fun e W' => e = .returned (.bool (decide (x = s))) ∧ Below W.heap.size W W' := fun x W _ hg =>
    drop1_any x s w.heap.size W ((HX2.out.kept hg (fun e => by have := hlt _ e.symm; omega)).1 0 _ rfl)
  refine (SlDeleteT_any base v l 149 #[.pointer (some ⟨w.heap.size, 0, none⟩)] (fun x => decide (x = s)) w2 hown ⟨hen, fun x W hx hW => hq x W hx (grown_wide (grown_none hW))⟩ hq HL.out).mono ?_
  rintro e w3 ⟨v', rfl, ho3, hg3, hn3⟩
  have HO3 := Lib.hid ho3; have HG3 := Lib.hid hg3; have HN3 := Lib.hid hn3
  clear ho3 hg3 hn3 hown hq hen hlt
  go_wp2
  go_ret
  exact ⟨v', rfl, by have h := HO3.out; rw [show (l.filter fun x => !decide (x = s)) = withoutT l s from by unfold withoutT; congr 1; funext x; rw [decide_not]] at h; exact h, grown_seq (grown_wide (grown_none HB2.out)) HG3.out, fun k hk => .inl (HN3.out k hk)⟩
end Go.Proofs.YtjpoljlgkgmdkaaGreatDoor
namespace Go.Proofs.YtjpoljlgkgmdkaaGreatDoor
open Go.RowKit Go.Cold
def lensD (d : Draft) : Prop := d.props.length ≤ 1000000 ∧ d.tags.length ≤ 1000000 ∧ d.links.length ≤ 1000000 ∧ d.run.length ≤ 1000000 ∧ d.load.length ≤ 1000000 ∧ d.closed.length ≤ 1000000
set_option maxRecDepth 100000 in
set_option maxHeartbeats 8000000 in
theorem edit_any (d : Draft) (h : DH) (w : World) (hd : DSl w w.heap.size d h) (hl : lensD d) :
  Calls Tryz.prog 32 #[.agg #[.slice h.a0 d.props.length h.c0, .slice h.a1 d.tags.length h.c1, .slice h.a2 d.links.length h.c2, .slice h.a3 d.run.length h.c3, .slice h.a4 d.load.length h.c4, .string d.nm, .int .i64 d.prio, .string d.owner, .string d.group, .int .i64 d.mode, .string d.res, .int .i64 d.calls, .int .i64 d.ticks, .slice h.a5 d.closed.length h.c5]] w fun e w' => Below w.heap.size w w' ∧ ∃ X, e = .returned (.pointer (some ⟨X, 0, none⟩)) ∧ EdQ 53 9 35 (fun k => k < w.heap.size) w' w.heap.size X d := by
 have hzv := (zero_of_info (P := Tryz.prog) (t := 30) info_draft2).1
 have HD := Lib.hid hd; have HL := Lib.hid hl; have HOK := Lib.hid hd.2.2.2.2.2.2
 clear hd hl
 go_enter Tryz.func32, Tryz.ntmps32
 go_upto_region 1 with fail
 obtain ⟨w1, hw1⟩ : ∃ w1, w.alloc (.cells #[.slice h.a0 d.props.length h.c0, .slice h.a1 d.tags.length h.c1, .slice h.a2 d.links.length h.c2, .slice h.a3 d.run.length h.c3, .slice h.a4 d.load.length h.c4, .string d.nm, .int .i64 d.prio, .string d.owner, .string d.group, .int .i64 d.mode, .string d.res, .int .i64 d.calls, .int .i64 d.ticks, .slice h.a5 d.closed.length h.c5] 30) = w1 := ⟨_, rfl⟩
 have hbw1 : Below w.heap.size w w1 := by rw [← hw1]; exact (Below.refl _ _).alloc (Nat.le_refl _) _
 have HGw1 := Lib.hid (show w1.heap.size = w.heap.size + 1 by rw [← hw1]; simp)
 have HXdw1 := Lib.hid (show BoxL w1 w.heap.size [.slice h.a0 d.props.length h.c0, .slice h.a1 d.tags.length h.c1, .slice h.a2 d.links.length h.c2, .slice h.a3 d.run.length h.c3, .slice h.a4 d.load.length h.c4, .string d.nm, .int .i64 d.prio, .string d.owner, .string d.group, .int .i64 d.mode, .string d.res, .int .i64 d.calls, .int .i64 d.ticks, .slice h.a5 d.closed.length h.c5] from box_mk hw1)
 try simp only [hw1]
 have HSw1 := Lib.hid (show w.heap.size ≤ w1.heap.size from hbw1.size)
 have HBw1 := Lib.hid hbw1
 clear hw1 hbw1
 try rw [show w.heap.size + 1 = w1.heap.size from HGw1.out.symm]
 clear hzv
 have HZ1 := Lib.hid (show w.heap.size < w1.heap.size by have := HGw1.out; omega)
 have HSZ := Lib.hid (Nat.le_refl w1.heap.size)
 refine wp_region_held_late (S := fun w' => BoxL w' (w.heap.size) [.slice h.a0 d.props.length h.c0, .slice h.a1 d.tags.length h.c1, .slice h.a2 d.links.length h.c2, .slice h.a3 d.run.length h.c3, .slice h.a4 d.load.length h.c4, .string d.nm, .int .i64 d.prio, .string d.owner, .string d.group, .int .i64 d.mode, .string d.res, .int .i64 d.calls, .int .i64 d.ticks, .slice h.a5 d.closed.length h.c5]) (late := fun i => decide (7 ≤ i)) (by kernel_rfl) ?_
 obtain ⟨wd, hwd⟩ : ∃ z, World.drew w1 = z := ⟨_, rfl⟩
 rw [hwd]
 have hb_ : Below w1.heap.size w1 wd := by rw [← hwd]; exact below_drewN_self _ _ 1
 clear hwd
 have HSwd := Lib.hid (show w1.heap.size ≤ wd.heap.size from hb_.size)
 have HBwd := Lib.hid (HBw1.out.trans (hb_.mono HBw1.out.size))
 have dwd := Lib.hid (HXdw1.out.kept (grown_none hb_) (fun e => by cases e))
 have HSZwd := Lib.hid (Nat.le_trans HSZ.out (hb_).size)
 clear hb_
 refine wpAnyHL_take (i := 0) (oi := ⟨some 3, _, _, _, _, _⟩) (v := .pointer (some ⟨w.heap.size, 0, none⟩)) (by kernel_rfl) rfl (by kernel_rfl) (by kernel_rfl) (by kernel_rfl) (fun _ _ _ h => h) (Or.inl ⟨by rfl, fun w' hS => by go_simp⟩) dwd.out ?_
 try simp only [Act.put, List.setIfInBounds_toArray, List.set_cons_zero, List.set_cons_succ]
 refine wpAnyHL_take (i := 1) (oi := ⟨some 4, _, _, _, _, _⟩) (v := .slice h.a0 d.props.length h.c0) (by kernel_rfl) rfl (by kernel_rfl) (by kernel_rfl) (by kernel_rfl) (fun _ _ _ h => h) (Or.inl ⟨by rfl, fun w' hS => by (have u0_ := hS.1 0 _ rfl; go_simp)⟩) dwd.out ?_
 try simp only [Act.put, List.setIfInBounds_toArray, List.set_cons_zero, List.set_cons_succ]
 refine wpAnyHL_take (i := 3) (oi := ⟨some 6, _, _, _, _, _⟩) (v := .pointer (some ⟨w.heap.size, 13, none⟩)) (by kernel_rfl) rfl (by kernel_rfl) (by kernel_rfl) (by kernel_rfl) (fun _ _ _ h => h) (Or.inl ⟨by rfl, fun w' hS => by go_simp⟩) dwd.out ?_
 try simp only [Act.put, List.setIfInBounds_toArray, List.set_cons_zero, List.set_cons_succ]
 refine wpAnyHL_take (i := 4) (oi := ⟨some 7, _, _, _, _, _⟩) (v := .slice h.a5 d.closed.length h.c5) (by kernel_rfl) rfl (by kernel_rfl) (by kernel_rfl) (by kernel_rfl) (fun _ _ _ h => h) (Or.inl ⟨by rfl, fun w' hS => by (have u0_ := hS.1 13 _ rfl; go_simp)⟩) dwd.out ?_
 try simp only [Act.put, List.setIfInBounds_toArray, List.set_cons_zero, List.set_cons_succ]
 refine wpAnyHL_ready (rs := [2]) (by kernel_rfl) (by simp) ?_
 refine AllReadyHL.cons (o := ⟨some 5, .call ⟨_, _, _⟩, _, _, _, _⟩) rfl (fun K hK => ?_) AllReadyHL.nil
 go_simp
 go_at_call 70
 refine (Clone_any h.a0 h.c0 d.props wd w.heap.size HBwd.out.size (HD.out.keep HBwd.out).1 HL.out.1).mono ?_
 rintro e' c0_ ⟨hb_, v0, rfl, ho_⟩
 obtain ⟨E0, k0, hv_, -⟩ := ho_.sl
 subst hv_
 have HV0 := Lib.hid (OwnsS.low ho_ HBwd.out.size)
 have HR0 := Lib.hid (show ∀ q, (.slice E0 d.props.length k0 : Value).ownBlock = some q → w1.heap.size ≤ q ∧ wd.heap.size ≤ q ∧ q < c0_.heap.size from fun q hq => ⟨Nat.le_trans HSZwd.out (ho_.lt q hq).1, ho_.lt q hq⟩)
 have HSc0_ := Lib.hid (show wd.heap.size ≤ c0_.heap.size from hb_.size)
 have HBc0_ := Lib.hid (HBwd.out.trans (hb_.mono HBwd.out.size))
 have dc0_ := Lib.hid (dwd.out.kept (grown_none hb_) (fun e => by cases e))
 have HSZc0_ := Lib.hid (Nat.le_trans HSZwd.out (hb_).size)
 clear hb_ ho_
 refine hK.out _ _ (fun _ => dc0_.out) ?_
 clear hK K
 try simp only [Act.put, List.setIfInBounds_toArray, List.set_cons_zero, List.set_cons_succ]
 refine wpAnyHL_take (i := 6) (oi := ⟨some 9, _, _, _, _, _⟩) (v := .pointer (some ⟨w.heap.size, 0, none⟩)) (by kernel_rfl) rfl (by kernel_rfl) (by kernel_rfl) (by kernel_rfl) (fun _ _ _ h => h) (Or.inl ⟨by rfl, fun w' hS => by go_simp⟩) dc0_.out ?_
 try simp only [Act.put, List.setIfInBounds_toArray, List.set_cons_zero, List.set_cons_succ]
 refine wpAnyHL_ready (rs := [5]) (by kernel_rfl) (by simp) ?_
 refine AllReadyHL.cons (o := ⟨some 8, .call ⟨_, _, _⟩, _, _, _, _⟩) rfl (fun K hK => ?_) AllReadyHL.nil
 go_simp
 go_at_call 71
 refine (Clone4_any h.a5 h.c5 d.closed c0_ w.heap.size HBc0_.out.size (HD.out.keep HBc0_.out).2.2.2.2.2.1 HL.out.2.2.2.2.2).mono ?_
 rintro e' c5_ ⟨hb_, v5, rfl, ho_⟩
 obtain ⟨E5, k5, hv_, -⟩ := ho_.sl
 subst hv_
 have HV5 := Lib.hid (OwnsS.low ho_ HBc0_.out.size)
 have HR5 := Lib.hid (show ∀ q, (.slice E5 d.closed.length k5 : Value).ownBlock = some q → w1.heap.size ≤ q ∧ c0_.heap.size ≤ q ∧ q < c5_.heap.size from fun q hq => ⟨Nat.le_trans HSZc0_.out (ho_.lt q hq).1, ho_.lt q hq⟩)
 have HSc5_ := Lib.hid (show c0_.heap.size ≤ c5_.heap.size from hb_.size)
 have HBc5_ := Lib.hid (HBc0_.out.trans (hb_.mono HBc0_.out.size))
 have dc5_ := Lib.hid (dc0_.out.kept (grown_none hb_) (fun e => by cases e))
 have HSZc5_ := Lib.hid (Nat.le_trans HSZc0_.out (hb_).size)
 have HV0c5_ := Lib.hid (OwnsS.below HV0.out hb_)
 clear hb_ ho_
 refine hK.out _ _ (fun _ => dc5_.out) ?_
 clear hK K
 try simp only [Act.put, List.setIfInBounds_toArray, List.set_cons_zero, List.set_cons_succ]
 refine wpAnyHL_ready (rs := [7]) (by kernel_rfl) (by simp) ?_
 refine AllReadyHL.cons (o := ⟨none, .store _ _ _, _, _, _, _⟩) rfl (fun K hK => ?_) AllReadyHL.nil
 have cd0 := dc5_.out.1 0 _ rfl
 have cfd := dc5_.out.2.1
 go_simp
 clear cd0 cfd
 have hgs := grown_one c5_ (w.heap.size) 0 (.slice E0 d.props.length k0)
 have hbx_ := dc5_.out.set_ (j := 0) (by first | (simp; done) | decide) (.slice E0 d.props.length k0)
 obtain ⟨x1, hx1⟩ : ∃ z, c5_.setCell ⟨w.heap.size, 0, none⟩ (.slice E0 d.props.length k0) = z := ⟨_, rfl⟩
 rw [hx1] at hgs hbx_ ⊢
 clear hx1
 have HSx1 := Lib.hid hgs.size
 have dx1 := Lib.hid (show BoxL x1 (w.heap.size) [.slice E0 d.props.length k0, .slice h.a1 d.tags.length h.c1, .slice h.a2 d.links.length h.c2, .slice h.a3 d.run.length h.c3, .slice h.a4 d.load.length h.c4, .string d.nm, .int .i64 d.prio, .string d.owner, .string d.group, .int .i64 d.mode, .string d.res, .int .i64 d.calls, .int .i64 d.ticks, .slice h.a5 d.closed.length h.c5] from hbx_)
 have HBx1 := Lib.hid (HBc5_.out.grown hgs HBc5_.out.size (fun q hq => by have := Option.some.inj hq; omega))
 have HSZx1 := Lib.hid (Nat.le_trans HSZc5_.out hgs.size)
 have HV0x1 := Lib.hid (HV0c5_.out.apart hgs (fun q hq e => by have := Option.some.inj e; have := HR0.out q hq; have := HZ1.out; omega))
 have HV5x1 := Lib.hid (HV5.out.apart hgs (fun q hq e => by have := Option.some.inj e; have := HR5.out q hq; have := HZ1.out; omega))
 clear hgs hbx_
 refine hK.out _ _ (fun h_ => by cases h_) ?_
 clear hK K
 try simp only [Act.put, List.setIfInBounds_toArray, List.set_cons_zero, List.set_cons_succ]
 refine wpAnyHL_ready (rs := [8]) (by kernel_rfl) (by simp) ?_
 refine AllReadyHL.cons (o := ⟨some 10, .fieldAddr _ _ _, _, _, _, _⟩) rfl (fun K hK => ?_) AllReadyHL.nil
 go_simp
 refine hK.out _ _ (fun h_ => by cases h_) ?_
 clear hK K
 try simp only [Act.put, List.setIfInBounds_toArray, List.set_cons_zero, List.set_cons_succ]
 refine wpAnyHL_ready (rs := [9]) (by kernel_rfl) (by simp) ?_
 refine AllReadyHL.cons (o := ⟨none, .store _ _ _, _, _, _, _⟩) rfl (fun K hK => ?_) AllReadyHL.nil
 have cd13 := dx1.out.1 13 _ rfl
 have cfd := dx1.out.2.1
 go_simp
 clear cd13 cfd
 have hgs := grown_one x1 (w.heap.size) 13 (.slice E5 d.closed.length k5)
 have hbx_ := dx1.out.set_ (j := 13) (by first | (simp; done) | decide) (.slice E5 d.closed.length k5)
 obtain ⟨x2, hx2⟩ : ∃ z, x1.setCell ⟨w.heap.size, 13, none⟩ (.slice E5 d.closed.length k5) = z := ⟨_, rfl⟩
 rw [hx2] at hgs hbx_ ⊢
 clear hx2
 have HSx2 := Lib.hid hgs.size
 have dx2 := Lib.hid (show BoxL x2 (w.heap.size) [.slice E0 d.props.length k0, .slice h.a1 d.tags.length h.c1, .slice h.a2 d.links.length h.c2, .slice h.a3 d.run.length h.c3, .slice h.a4 d.load.length h.c4, .string d.nm, .int .i64 d.prio, .string d.owner, .string d.group, .int .i64 d.mode, .string d.res, .int .i64 d.calls, .int .i64 d.ticks, .slice E5 d.closed.length k5] from hbx_)
 have HBx2 := Lib.hid (HBx1.out.grown hgs HBx1.out.size (fun q hq => by have := Option.some.inj hq; omega))
 have HSZx2 := Lib.hid (Nat.le_trans HSZx1.out hgs.size)
 have HV0x2 := Lib.hid (HV0x1.out.apart hgs (fun q hq e => by have := Option.some.inj e; have := HR0.out q hq; have := HZ1.out; omega))
 have HV5x2 := Lib.hid (HV5x1.out.apart hgs (fun q hq e => by have := Option.some.inj e; have := HR5.out q hq; have := HZ1.out; omega))
 clear hgs hbx_
 refine hK.out _ _ (fun h_ => by cases h_) ?_
 clear hK K
 try simp only [Act.put, List.setIfInBounds_toArray, List.set_cons_zero, List.set_cons_succ]
 refine wpAnyHL_done (by kernel_rfl) ?_ _
 go_upto_region 2 with fail
 refine wp_region_held_late (S := fun w' => BoxL w' (w.heap.size) [.slice E0 d.props.length k0, .slice h.a1 d.tags.length h.c1, .slice h.a2 d.links.length h.c2, .slice h.a3 d.run.length h.c3, .slice h.a4 d.load.length h.c4, .string d.nm, .int .i64 d.prio, .string d.owner, .string d.group, .int .i64 d.mode, .string d.res, .int .i64 d.calls, .int .i64 d.ticks, .slice E5 d.closed.length k5]) (late := fun i => decide (13 ≤ i)) (by kernel_rfl) ?_
 obtain ⟨we, hwe⟩ : ∃ z, World.drew x2 = z := ⟨_, rfl⟩
 rw [hwe]
 have hb_ : Below x2.heap.size x2 we := by rw [← hwe]; exact below_drewN_self _ _ 1
 clear hwe
 have HSwe := Lib.hid (show x2.heap.size ≤ we.heap.size from hb_.size)
 have HBwe := Lib.hid (HBx2.out.trans (hb_.mono HBx2.out.size))
 have dwe := Lib.hid (dx2.out.kept (grown_none hb_) (fun e => by cases e))
 have HSZwe := Lib.hid (Nat.le_trans HSZx2.out (hb_).size)
 have HV0we := Lib.hid (OwnsS.below HV0x2.out hb_)
 have HV5we := Lib.hid (OwnsS.below HV5x2.out hb_)
 clear hb_
 refine wpAnyHL_take (i := 0) (oi := ⟨some 11, _, _, _, _, _⟩) (v := .pointer (some ⟨w.heap.size, 1, none⟩)) (by kernel_rfl) rfl (by kernel_rfl) (by kernel_rfl) (by kernel_rfl) (fun _ _ _ h => h) (Or.inl ⟨by rfl, fun w' hS => by go_simp⟩) dwe.out ?_
 try simp only [Act.put, List.setIfInBounds_toArray, List.set_cons_zero, List.set_cons_succ]
 refine wpAnyHL_take (i := 1) (oi := ⟨some 12, _, _, _, _, _⟩) (v := .slice h.a1 d.tags.length h.c1) (by kernel_rfl) rfl (by kernel_rfl) (by kernel_rfl) (by kernel_rfl) (fun _ _ _ h => h) (Or.inl ⟨by rfl, fun w' hS => by (have u0_ := hS.1 1 _ rfl; go_simp)⟩) dwe.out ?_
 try simp only [Act.put, List.setIfInBounds_toArray, List.set_cons_zero, List.set_cons_succ]
 refine wpAnyHL_take (i := 3) (oi := ⟨some 14, _, _, _, _, _⟩) (v := .pointer (some ⟨w.heap.size, 2, none⟩)) (by kernel_rfl) rfl (by kernel_rfl) (by kernel_rfl) (by kernel_rfl) (fun _ _ _ h => h) (Or.inl ⟨by rfl, fun w' hS => by go_simp⟩) dwe.out ?_
 try simp only [Act.put, List.setIfInBounds_toArray, List.set_cons_zero, List.set_cons_succ]
 refine wpAnyHL_take (i := 4) (oi := ⟨some 15, _, _, _, _, _⟩) (v := .slice h.a2 d.links.length h.c2) (by kernel_rfl) rfl (by kernel_rfl) (by kernel_rfl) (by kernel_rfl) (fun _ _ _ h => h) (Or.inl ⟨by rfl, fun w' hS => by (have u0_ := hS.1 2 _ rfl; go_simp)⟩) dwe.out ?_
 try simp only [Act.put, List.setIfInBounds_toArray, List.set_cons_zero, List.set_cons_succ]
 refine wpAnyHL_take (i := 6) (oi := ⟨some 17, _, _, _, _, _⟩) (v := .pointer (some ⟨w.heap.size, 3, none⟩)) (by kernel_rfl) rfl (by kernel_rfl) (by kernel_rfl) (by kernel_rfl) (fun _ _ _ h => h) (Or.inl ⟨by rfl, fun w' hS => by go_simp⟩) dwe.out ?_
 try simp only [Act.put, List.setIfInBounds_toArray, List.set_cons_zero, List.set_cons_succ]
 refine wpAnyHL_take (i := 7) (oi := ⟨some 18, _, _, _, _, _⟩) (v := .slice h.a3 d.run.length h.c3) (by kernel_rfl) rfl (by kernel_rfl) (by kernel_rfl) (by kernel_rfl) (fun _ _ _ h => h) (Or.inl ⟨by rfl, fun w' hS => by (have u0_ := hS.1 3 _ rfl; go_simp)⟩) dwe.out ?_
 try simp only [Act.put, List.setIfInBounds_toArray, List.set_cons_zero, List.set_cons_succ]
 refine wpAnyHL_take (i := 9) (oi := ⟨some 20, _, _, _, _, _⟩) (v := .pointer (some ⟨w.heap.size, 4, none⟩)) (by kernel_rfl) rfl (by kernel_rfl) (by kernel_rfl) (by kernel_rfl) (fun _ _ _ h => h) (Or.inl ⟨by rfl, fun w' hS => by go_simp⟩) dwe.out ?_
 try simp only [Act.put, List.setIfInBounds_toArray, List.set_cons_zero, List.set_cons_succ]
 refine wpAnyHL_take (i := 10) (oi := ⟨some 21, _, _, _, _, _⟩) (v := .slice h.a4 d.load.length h.c4) (by kernel_rfl) rfl (by kernel_rfl) (by kernel_rfl) (by kernel_rfl) (fun _ _ _ h => h) (Or.inl ⟨by rfl, fun w' hS => by (have u0_ := hS.1 4 _ rfl; go_simp)⟩) dwe.out ?_
 try simp only [Act.put, List.setIfInBounds_toArray, List.set_cons_zero, List.set_cons_succ]
 refine wpAnyHL_ready (rs := [2]) (by kernel_rfl) (by simp) ?_
 refine AllReadyHL.cons (o := ⟨some 13, .call ⟨_, _, _⟩, _, _, _, _⟩) rfl (fun K hK => ?_) AllReadyHL.nil
 go_simp
 go_at_call 72
 refine (CloneT_any h.a1 h.c1 d.tags we w.heap.size HBwe.out.size (HD.out.keep HBwe.out).2.1 HL.out.2.1).mono ?_
 rintro e' c1_ ⟨hb_, v1, rfl, ho_⟩
 obtain ⟨E1, k1, hv_, -⟩ := ho_.sl
 subst hv_
 have HV1 := Lib.hid (OwnsS.low ho_ HBwe.out.size)
 have HR1 := Lib.hid (show ∀ q, (.slice E1 d.tags.length k1 : Value).ownBlock = some q → w1.heap.size ≤ q ∧ we.heap.size ≤ q ∧ q < c1_.heap.size from fun q hq => ⟨Nat.le_trans HSZwe.out (ho_.lt q hq).1, ho_.lt q hq⟩)
 have HSc1_ := Lib.hid (show we.heap.size ≤ c1_.heap.size from hb_.size)
 have HBc1_ := Lib.hid (HBwe.out.trans (hb_.mono HBwe.out.size))
 have dc1_ := Lib.hid (dwe.out.kept (grown_none hb_) (fun e => by cases e))
 have HSZc1_ := Lib.hid (Nat.le_trans HSZwe.out (hb_).size)
 have HV0c1_ := Lib.hid (OwnsS.below HV0we.out hb_)
 have HV5c1_ := Lib.hid (OwnsS.below HV5we.out hb_)
 clear hb_ ho_
 refine hK.out _ _ (fun _ => dc1_.out) ?_
 clear hK K
 try simp only [Act.put, List.setIfInBounds_toArray, List.set_cons_zero, List.set_cons_succ]
 refine wpAnyHL_take (i := 12) (oi := ⟨some 23, _, _, _, _, _⟩) (v := .pointer (some ⟨w.heap.size, 1, none⟩)) (by kernel_rfl) rfl (by kernel_rfl) (by kernel_rfl) (by kernel_rfl) (fun _ _ _ h => h) (Or.inl ⟨by rfl, fun w' hS => by go_simp⟩) dc1_.out ?_
 try simp only [Act.put, List.setIfInBounds_toArray, List.set_cons_zero, List.set_cons_succ]
 refine wpAnyHL_ready (rs := [5]) (by kernel_rfl) (by simp) ?_
 refine AllReadyHL.cons (o := ⟨some 16, .call ⟨_, _, _⟩, _, _, _, _⟩) rfl (fun K hK => ?_) AllReadyHL.nil
 go_simp
 go_at_call 72
 refine (CloneT_any h.a2 h.c2 d.links c1_ w.heap.size HBc1_.out.size (HD.out.keep HBc1_.out).2.2.1 HL.out.2.2.1).mono ?_
 rintro e' c2_ ⟨hb_, v2, rfl, ho_⟩
 obtain ⟨E2, k2, hv_, -⟩ := ho_.sl
 subst hv_
 have HV2 := Lib.hid (OwnsS.low ho_ HBc1_.out.size)
 have HR2 := Lib.hid (show ∀ q, (.slice E2 d.links.length k2 : Value).ownBlock = some q → w1.heap.size ≤ q ∧ c1_.heap.size ≤ q ∧ q < c2_.heap.size from fun q hq => ⟨Nat.le_trans HSZc1_.out (ho_.lt q hq).1, ho_.lt q hq⟩)
 have HSc2_ := Lib.hid (show c1_.heap.size ≤ c2_.heap.size from hb_.size)
 have HBc2_ := Lib.hid (HBc1_.out.trans (hb_.mono HBc1_.out.size))
 have dc2_ := Lib.hid (dc1_.out.kept (grown_none hb_) (fun e => by cases e))
 have HSZc2_ := Lib.hid (Nat.le_trans HSZc1_.out (hb_).size)
 have HV0c2_ := Lib.hid (OwnsS.below HV0c1_.out hb_)
 have HV5c2_ := Lib.hid (OwnsS.below HV5c1_.out hb_)
 have HV1c2_ := Lib.hid (OwnsS.below HV1.out hb_)
 clear hb_ ho_
 refine hK.out _ _ (fun _ => dc2_.out) ?_
 clear hK K
 try simp only [Act.put, List.setIfInBounds_toArray, List.set_cons_zero, List.set_cons_succ]
 refine wpAnyHL_ready (rs := [8]) (by kernel_rfl) (by simp) ?_
 refine AllReadyHL.cons (o := ⟨some 19, .call ⟨_, _, _⟩, _, _, _, _⟩) rfl (fun K hK => ?_) AllReadyHL.nil
 go_simp
 go_at_call 72
 refine (CloneT_any h.a3 h.c3 d.run c2_ w.heap.size HBc2_.out.size (HD.out.keep HBc2_.out).2.2.2.1 HL.out.2.2.2.1).mono ?_
 rintro e' c3_ ⟨hb_, v3, rfl, ho_⟩
 obtain ⟨E3, k3, hv_, -⟩ := ho_.sl
 subst hv_
 have HV3 := Lib.hid (OwnsS.low ho_ HBc2_.out.size)
 have HR3 := Lib.hid (show ∀ q, (.slice E3 d.run.length k3 : Value).ownBlock = some q → w1.heap.size ≤ q ∧ c2_.heap.size ≤ q ∧ q < c3_.heap.size from fun q hq => ⟨Nat.le_trans HSZc2_.out (ho_.lt q hq).1, ho_.lt q hq⟩)
 have HSc3_ := Lib.hid (show c2_.heap.size ≤ c3_.heap.size from hb_.size)
 have HBc3_ := Lib.hid (HBc2_.out.trans (hb_.mono HBc2_.out.size))
 have dc3_ := Lib.hid (dc2_.out.kept (grown_none hb_) (fun e => by cases e))
 have HSZc3_ := Lib.hid (Nat.le_trans HSZc2_.out (hb_).size)
 have HV0c3_ := Lib.hid (OwnsS.below HV0c2_.out hb_)
 have HV5c3_ := Lib.hid (OwnsS.below HV5c2_.out hb_)
 have HV1c3_ := Lib.hid (OwnsS.below HV1c2_.out hb_)
 have HV2c3_ := Lib.hid (OwnsS.below HV2.out hb_)
 clear hb_ ho_
 refine hK.out _ _ (fun _ => dc3_.out) ?_
 clear hK K
 try simp only [Act.put, List.setIfInBounds_toArray, List.set_cons_zero, List.set_cons_succ]
 refine wpAnyHL_ready (rs := [11]) (by kernel_rfl) (by simp) ?_
 refine AllReadyHL.cons (o := ⟨some 22, .call ⟨_, _, _⟩, _, _, _, _⟩) rfl (fun K hK => ?_) AllReadyHL.nil
 go_simp
 go_at_call 72
 refine (CloneT_any h.a4 h.c4 d.load c3_ w.heap.size HBc3_.out.size (HD.out.keep HBc3_.out).2.2.2.2.1 HL.out.2.2.2.2.1).mono ?_
 rintro e' c4_ ⟨hb_, v4, rfl, ho_⟩
 obtain ⟨E4, k4, hv_, -⟩ := ho_.sl
 subst hv_
 have HV4 := Lib.hid (OwnsS.low ho_ HBc3_.out.size)
 have HR4 := Lib.hid (show ∀ q, (.slice E4 d.load.length k4 : Value).ownBlock = some q → w1.heap.size ≤ q ∧ c3_.heap.size ≤ q ∧ q < c4_.heap.size from fun q hq => ⟨Nat.le_trans HSZc3_.out (ho_.lt q hq).1, ho_.lt q hq⟩)
 have HSc4_ := Lib.hid (show c3_.heap.size ≤ c4_.heap.size from hb_.size)
 have HBc4_ := Lib.hid (HBc3_.out.trans (hb_.mono HBc3_.out.size))
 have dc4_ := Lib.hid (dc3_.out.kept (grown_none hb_) (fun e => by cases e))
 have HSZc4_ := Lib.hid (Nat.le_trans HSZc3_.out (hb_).size)
 have HV0c4_ := Lib.hid (OwnsS.below HV0c3_.out hb_)
 have HV5c4_ := Lib.hid (OwnsS.below HV5c3_.out hb_)
 have HV1c4_ := Lib.hid (OwnsS.below HV1c3_.out hb_)
 have HV2c4_ := Lib.hid (OwnsS.below HV2c3_.out hb_)
 have HV3c4_ := Lib.hid (OwnsS.below HV3.out hb_)
 clear hb_ ho_
 refine hK.out _ _ (fun _ => dc4_.out) ?_
 clear hK K
 try simp only [Act.put, List.setIfInBounds_toArray, List.set_cons_zero, List.set_cons_succ]
 refine wpAnyHL_ready (rs := [13]) (by kernel_rfl) (by simp) ?_
 refine AllReadyHL.cons (o := ⟨none, .store _ _ _, _, _, _, _⟩) rfl (fun K hK => ?_) AllReadyHL.nil
 have cd1 := dc4_.out.1 1 _ rfl
 have cfd := dc4_.out.2.1
 go_simp
 clear cd1 cfd
 have hgs := grown_one c4_ (w.heap.size) 1 (.slice E1 d.tags.length k1)
 have hbx_ := dc4_.out.set_ (j := 1) (by first | (simp; done) | decide) (.slice E1 d.tags.length k1)
 obtain ⟨x3, hx3⟩ : ∃ z, c4_.setCell ⟨w.heap.size, 1, none⟩ (.slice E1 d.tags.length k1) = z := ⟨_, rfl⟩
 rw [hx3] at hgs hbx_ ⊢
 clear hx3
 have HSx3 := Lib.hid hgs.size
 have dx3 := Lib.hid (show BoxL x3 (w.heap.size) [.slice E0 d.props.length k0, .slice E1 d.tags.length k1, .slice h.a2 d.links.length h.c2, .slice h.a3 d.run.length h.c3, .slice h.a4 d.load.length h.c4, .string d.nm, .int .i64 d.prio, .string d.owner, .string d.group, .int .i64 d.mode, .string d.res, .int .i64 d.calls, .int .i64 d.ticks, .slice E5 d.closed.length k5] from hbx_)
 have HBx3 := Lib.hid (HBc4_.out.grown hgs HBc4_.out.size (fun q hq => by have := Option.some.inj hq; omega))
 have HSZx3 := Lib.hid (Nat.le_trans HSZc4_.out hgs.size)
 have HV0x3 := Lib.hid (HV0c4_.out.apart hgs (fun q hq e => by have := Option.some.inj e; have := HR0.out q hq; have := HZ1.out; omega))
 have HV5x3 := Lib.hid (HV5c4_.out.apart hgs (fun q hq e => by have := Option.some.inj e; have := HR5.out q hq; have := HZ1.out; omega))
 have HV1x3 := Lib.hid (HV1c4_.out.apart hgs (fun q hq e => by have := Option.some.inj e; have := HR1.out q hq; have := HZ1.out; omega))
 have HV2x3 := Lib.hid (HV2c4_.out.apart hgs (fun q hq e => by have := Option.some.inj e; have := HR2.out q hq; have := HZ1.out; omega))
 have HV3x3 := Lib.hid (HV3c4_.out.apart hgs (fun q hq e => by have := Option.some.inj e; have := HR3.out q hq; have := HZ1.out; omega))
 have HV4x3 := Lib.hid (HV4.out.apart hgs (fun q hq e => by have := Option.some.inj e; have := HR4.out q hq; have := HZ1.out; omega))
 clear hgs hbx_
 refine hK.out _ _ (fun h_ => by cases h_) ?_
 clear hK K
 try simp only [Act.put, List.setIfInBounds_toArray, List.set_cons_zero, List.set_cons_succ]
 refine wpAnyHL_ready (rs := [14]) (by kernel_rfl) (by simp) ?_
 refine AllReadyHL.cons (o := ⟨some 24, .fieldAddr _ _ _, _, _, _, _⟩) rfl (fun K hK => ?_) AllReadyHL.nil
 go_simp
 refine hK.out _ _ (fun h_ => by cases h_) ?_
 clear hK K
 try simp only [Act.put, List.setIfInBounds_toArray, List.set_cons_zero, List.set_cons_succ]
 refine wpAnyHL_ready (rs := [15]) (by kernel_rfl) (by simp) ?_
 refine AllReadyHL.cons (o := ⟨none, .store _ _ _, _, _, _, _⟩) rfl (fun K hK => ?_) AllReadyHL.nil
 have cd2 := dx3.out.1 2 _ rfl
 have cfd := dx3.out.2.1
 go_simp
 clear cd2 cfd
 have hgs := grown_one x3 (w.heap.size) 2 (.slice E2 d.links.length k2)
 have hbx_ := dx3.out.set_ (j := 2) (by first | (simp; done) | decide) (.slice E2 d.links.length k2)
 obtain ⟨x4, hx4⟩ : ∃ z, x3.setCell ⟨w.heap.size, 2, none⟩ (.slice E2 d.links.length k2) = z := ⟨_, rfl⟩
 rw [hx4] at hgs hbx_ ⊢
 clear hx4
 have HSx4 := Lib.hid hgs.size
 have dx4 := Lib.hid (show BoxL x4 (w.heap.size) [.slice E0 d.props.length k0, .slice E1 d.tags.length k1, .slice E2 d.links.length k2, .slice h.a3 d.run.length h.c3, .slice h.a4 d.load.length h.c4, .string d.nm, .int .i64 d.prio, .string d.owner, .string d.group, .int .i64 d.mode, .string d.res, .int .i64 d.calls, .int .i64 d.ticks, .slice E5 d.closed.length k5] from hbx_)
 have HBx4 := Lib.hid (HBx3.out.grown hgs HBx3.out.size (fun q hq => by have := Option.some.inj hq; omega))
 have HSZx4 := Lib.hid (Nat.le_trans HSZx3.out hgs.size)
 have HV0x4 := Lib.hid (HV0x3.out.apart hgs (fun q hq e => by have := Option.some.inj e; have := HR0.out q hq; have := HZ1.out; omega))
 have HV5x4 := Lib.hid (HV5x3.out.apart hgs (fun q hq e => by have := Option.some.inj e; have := HR5.out q hq; have := HZ1.out; omega))
 have HV1x4 := Lib.hid (HV1x3.out.apart hgs (fun q hq e => by have := Option.some.inj e; have := HR1.out q hq; have := HZ1.out; omega))
 have HV2x4 := Lib.hid (HV2x3.out.apart hgs (fun q hq e => by have := Option.some.inj e; have := HR2.out q hq; have := HZ1.out; omega))
 have HV3x4 := Lib.hid (HV3x3.out.apart hgs (fun q hq e => by have := Option.some.inj e; have := HR3.out q hq; have := HZ1.out; omega))
 have HV4x4 := Lib.hid (HV4x3.out.apart hgs (fun q hq e => by have := Option.some.inj e; have := HR4.out q hq; have := HZ1.out; omega))
 clear hgs hbx_
 refine hK.out _ _ (fun h_ => by cases h_) ?_
 clear hK K
 try simp only [Act.put, List.setIfInBounds_toArray, List.set_cons_zero, List.set_cons_succ]
 refine wpAnyHL_ready (rs := [16]) (by kernel_rfl) (by simp) ?_
 refine AllReadyHL.cons (o := ⟨some 25, .fieldAddr _ _ _, _, _, _, _⟩) rfl (fun K hK => ?_) AllReadyHL.nil
 go_simp
 refine hK.out _ _ (fun h_ => by cases h_) ?_
 clear hK K
 try simp only [Act.put, List.setIfInBounds_toArray, List.set_cons_zero, List.set_cons_succ]
 refine wpAnyHL_ready (rs := [17]) (by kernel_rfl) (by simp) ?_
 refine AllReadyHL.cons (o := ⟨none, .store _ _ _, _, _, _, _⟩) rfl (fun K hK => ?_) AllReadyHL.nil
 have cd3 := dx4.out.1 3 _ rfl
 have cfd := dx4.out.2.1
 go_simp
 clear cd3 cfd
 have hgs := grown_one x4 (w.heap.size) 3 (.slice E3 d.run.length k3)
 have hbx_ := dx4.out.set_ (j := 3) (by first | (simp; done) | decide) (.slice E3 d.run.length k3)
 obtain ⟨x5, hx5⟩ : ∃ z, x4.setCell ⟨w.heap.size, 3, none⟩ (.slice E3 d.run.length k3) = z := ⟨_, rfl⟩
 rw [hx5] at hgs hbx_ ⊢
 clear hx5
 have HSx5 := Lib.hid hgs.size
 have dx5 := Lib.hid (show BoxL x5 (w.heap.size) [.slice E0 d.props.length k0, .slice E1 d.tags.length k1, .slice E2 d.links.length k2, .slice E3 d.run.length k3, .slice h.a4 d.load.length h.c4, .string d.nm, .int .i64 d.prio, .string d.owner, .string d.group, .int .i64 d.mode, .string d.res, .int .i64 d.calls, .int .i64 d.ticks, .slice E5 d.closed.length k5] from hbx_)
 have HBx5 := Lib.hid (HBx4.out.grown hgs HBx4.out.size (fun q hq => by have := Option.some.inj hq; omega))
 have HSZx5 := Lib.hid (Nat.le_trans HSZx4.out hgs.size)
 have HV0x5 := Lib.hid (HV0x4.out.apart hgs (fun q hq e => by have := Option.some.inj e; have := HR0.out q hq; have := HZ1.out; omega))
 have HV5x5 := Lib.hid (HV5x4.out.apart hgs (fun q hq e => by have := Option.some.inj e; have := HR5.out q hq; have := HZ1.out; omega))
 have HV1x5 := Lib.hid (HV1x4.out.apart hgs (fun q hq e => by have := Option.some.inj e; have := HR1.out q hq; have := HZ1.out; omega))
 have HV2x5 := Lib.hid (HV2x4.out.apart hgs (fun q hq e => by have := Option.some.inj e; have := HR2.out q hq; have := HZ1.out; omega))
 have HV3x5 := Lib.hid (HV3x4.out.apart hgs (fun q hq e => by have := Option.some.inj e; have := HR3.out q hq; have := HZ1.out; omega))
 have HV4x5 := Lib.hid (HV4x4.out.apart hgs (fun q hq e => by have := Option.some.inj e; have := HR4.out q hq; have := HZ1.out; omega))
 clear hgs hbx_
 refine hK.out _ _ (fun h_ => by cases h_) ?_
 clear hK K
 try simp only [Act.put, List.setIfInBounds_toArray, List.set_cons_zero, List.set_cons_succ]
 refine wpAnyHL_ready (rs := [18]) (by kernel_rfl) (by simp) ?_
 refine AllReadyHL.cons (o := ⟨some 26, .fieldAddr _ _ _, _, _, _, _⟩) rfl (fun K hK => ?_) AllReadyHL.nil
 go_simp
 refine hK.out _ _ (fun h_ => by cases h_) ?_
 clear hK K
 try simp only [Act.put, List.setIfInBounds_toArray, List.set_cons_zero, List.set_cons_succ]
 refine wpAnyHL_ready (rs := [19]) (by kernel_rfl) (by simp) ?_
 refine AllReadyHL.cons (o := ⟨none, .store _ _ _, _, _, _, _⟩) rfl (fun K hK => ?_) AllReadyHL.nil
 have cd4 := dx5.out.1 4 _ rfl
 have cfd := dx5.out.2.1
 go_simp
 clear cd4 cfd
 have hgs := grown_one x5 (w.heap.size) 4 (.slice E4 d.load.length k4)
 have hbx_ := dx5.out.set_ (j := 4) (by first | (simp; done) | decide) (.slice E4 d.load.length k4)
 obtain ⟨x6, hx6⟩ : ∃ z, x5.setCell ⟨w.heap.size, 4, none⟩ (.slice E4 d.load.length k4) = z := ⟨_, rfl⟩
 rw [hx6] at hgs hbx_ ⊢
 clear hx6
 have HSx6 := Lib.hid hgs.size
 have dx6 := Lib.hid (show BoxL x6 (w.heap.size) [.slice E0 d.props.length k0, .slice E1 d.tags.length k1, .slice E2 d.links.length k2, .slice E3 d.run.length k3, .slice E4 d.load.length k4, .string d.nm, .int .i64 d.prio, .string d.owner, .string d.group, .int .i64 d.mode, .string d.res, .int .i64 d.calls, .int .i64 d.ticks, .slice E5 d.closed.length k5] from hbx_)
 have HBx6 := Lib.hid (HBx5.out.grown hgs HBx5.out.size (fun q hq => by have := Option.some.inj hq; omega))
 have HSZx6 := Lib.hid (Nat.le_trans HSZx5.out hgs.size)
 have HV0x6 := Lib.hid (HV0x5.out.apart hgs (fun q hq e => by have := Option.some.inj e; have := HR0.out q hq; have := HZ1.out; omega))
 have HV5x6 := Lib.hid (HV5x5.out.apart hgs (fun q hq e => by have := Option.some.inj e; have := HR5.out q hq; have := HZ1.out; omega))
 have HV1x6 := Lib.hid (HV1x5.out.apart hgs (fun q hq e => by have := Option.some.inj e; have := HR1.out q hq; have := HZ1.out; omega))
 have HV2x6 := Lib.hid (HV2x5.out.apart hgs (fun q hq e => by have := Option.some.inj e; have := HR2.out q hq; have := HZ1.out; omega))
 have HV3x6 := Lib.hid (HV3x5.out.apart hgs (fun q hq e => by have := Option.some.inj e; have := HR3.out q hq; have := HZ1.out; omega))
 have HV4x6 := Lib.hid (HV4x5.out.apart hgs (fun q hq e => by have := Option.some.inj e; have := HR4.out q hq; have := HZ1.out; omega))
 clear hgs hbx_
 refine hK.out _ _ (fun h_ => by cases h_) ?_
 clear hK K
 try simp only [Act.put, List.setIfInBounds_toArray, List.set_cons_zero, List.set_cons_succ]
 refine wpAnyHL_done (by kernel_rfl) ?_ _
 have cd0 := dx6.out.1 0 _ rfl
 have cd1 := dx6.out.1 1 _ rfl
 have cd2 := dx6.out.1 2 _ rfl
 have cd3 := dx6.out.1 3 _ rfl
 have cd4 := dx6.out.1 4 _ rfl
 have cd5 := dx6.out.1 5 _ rfl
 have cd6 := dx6.out.1 6 _ rfl
 have cd7 := dx6.out.1 7 _ rfl
 have cd8 := dx6.out.1 8 _ rfl
 have cd9 := dx6.out.1 9 _ rfl
 have cd10 := dx6.out.1 10 _ rfl
 have cd11 := dx6.out.1 11 _ rfl
 have cd12 := dx6.out.1 12 _ rfl
 have cd13 := dx6.out.1 13 _ rfl
 obtain ⟨w2, hw2⟩ : ∃ z, x6.alloc (.cells #[.slice E0 d.props.length k0, .slice E1 d.tags.length k1, .slice E2 d.links.length k2, .slice E3 d.run.length k3, .slice E4 d.load.length k4, .string d.nm, .int .i64 d.prio, .string d.owner, .string d.group, .int .i64 d.mode, .string d.res, .int .i64 d.calls, .int .i64 d.ticks, .slice E5 d.closed.length k5] 65) = z := ⟨_, rfl⟩
 have hb2 : Below x6.heap.size x6 w2 := by rw [← hw2]; exact (Below.refl _ _).alloc (Nat.le_refl _) _
 have HGw2 := Lib.hid (show w2.heap.size = x6.heap.size + 1 by rw [← hw2]; simp)
 have HXX := Lib.hid (show BoxL w2 x6.heap.size [.slice E0 d.props.length k0, .slice E1 d.tags.length k1, .slice E2 d.links.length k2, .slice E3 d.run.length k3, .slice E4 d.load.length k4, .string d.nm, .int .i64 d.prio, .string d.owner, .string d.group, .int .i64 d.mode, .string d.res, .int .i64 d.calls, .int .i64 d.ticks, .slice E5 d.closed.length k5] from box_mk hw2)
 go_wp2
 try rw [hw2]
 clear hw2 cd0 cd1 cd2 cd3 cd4 cd5 cd6 cd7 cd8 cd9 cd10 cd11 cd12 cd13
 have HSw2 := Lib.hid (show x6.heap.size ≤ w2.heap.size from hb2.size)
 have HBw2 := Lib.hid (HBx6.out.trans (hb2.mono HBx6.out.size))
 have HV0w2 := Lib.hid (OwnsS.below HV0x6.out hb2)
 have HV5w2 := Lib.hid (OwnsS.below HV5x6.out hb2)
 have HV1w2 := Lib.hid (OwnsS.below HV1x6.out hb2)
 have HV2w2 := Lib.hid (OwnsS.below HV2x6.out hb2)
 have HV3w2 := Lib.hid (OwnsS.below HV3x6.out hb2)
 have HV4w2 := Lib.hid (OwnsS.below HV4x6.out hb2)
 clear hb2
 have HSIZ := Lib.hid (show c0_.heap.size ≤ c5_.heap.size ∧ c5_.heap.size ≤ we.heap.size ∧ c1_.heap.size ≤ c2_.heap.size ∧ c2_.heap.size ≤ c3_.heap.size ∧ c3_.heap.size ≤ c4_.heap.size ∧ c4_.heap.size ≤ x6.heap.size ∧ w.heap.size ≤ c0_.heap.size ∧ c5_.heap.size ≤ c1_.heap.size ∧ x6.heap.size < w2.heap.size by have := HGw2.out; have := HSc0_.out; have := HSc5_.out; have := HSx1.out; have := HSx2.out; have := HSwe.out; have := HSc1_.out; have := HSc2_.out; have := HSc3_.out; have := HSc4_.out; have := HSx3.out; have := HSx4.out; have := HSx5.out; have := HSx6.out; have := HZ1.out; have := HSZc0_.out; omega)
 have HED := Lib.hid (show EdR 53 9 35 w2 w.heap.size x6.heap.size d (.slice E0 d.props.length k0) (.slice E1 d.tags.length k1) (.slice E2 d.links.length k2) (.slice E3 d.run.length k3) (.slice E4 d.load.length k4) (.slice E5 d.closed.length k5) from EdR.mk6 (s5 := c0_.heap.size) (s1 := c5_.heap.size) (s2 := c1_.heap.size) (s3 := c2_.heap.size) (s4 := c3_.heap.size) HV0w2.out HV5w2.out HV1w2.out HV2w2.out HV3w2.out HV4w2.out (fun q hq => by have := HR0.out q hq; have := HSIZ.out; have := HZ1.out; omega) (fun q hq => by have := HR5.out q hq; have := HSIZ.out; have := HZ1.out; omega) (fun q hq => by have := HR1.out q hq; have := HSIZ.out; have := HZ1.out; omega) (fun q hq => by have := HR2.out q hq; have := HSIZ.out; have := HZ1.out; omega) (fun q hq => by have := HR3.out q hq; have := HSIZ.out; have := HZ1.out; omega) (fun q hq => by have := HR4.out q hq; have := HSIZ.out; have := HZ1.out; omega) (by have := HSIZ.out; omega) (by have := HSIZ.out; omega) (by have := HSIZ.out; omega) (by have := HSIZ.out; omega) (by have := HSIZ.out; omega) (by have := HSIZ.out; omega) (by have := HSIZ.out; omega) HOK.out)
 have HOUT := Lib.hid (show Out (fun k => k < w.heap.size) w2 x6.heap.size (.slice E0 d.props.length k0) (.slice E1 d.tags.length k1) (.slice E2 d.links.length k2) (.slice E3 d.run.length k3) (.slice E4 d.load.length k4) (.slice E5 d.closed.length k5) from ⟨fun k hk => Nat.lt_of_lt_of_le hk HBw2.out.size, fun hk => by have h1 : x6.heap.size < w.heap.size := hk; have := HSIZ.out; omega, fun k hk hp => by have h1 : k < w.heap.size := hp; have := HR0.out k hk; have := HZ1.out; omega, fun k hk hp => by have h1 : k < w.heap.size := hp; have := HR1.out k hk; have := HZ1.out; omega, fun k hk hp => by have h1 : k < w.heap.size := hp; have := HR2.out k hk; have := HZ1.out; omega, fun k hk hp => by have h1 : k < w.heap.size := hp; have := HR3.out k hk; have := HZ1.out; omega, fun k hk hp => by have h1 : k < w.heap.size := hp; have := HR4.out k hk; have := HZ1.out; omega, fun k hk hp => by have h1 : k < w.heap.size := hp; have := HR5.out k hk; have := HZ1.out; omega⟩)
 go_ret
 exact ⟨HBw2.out, x6.heap.size, by try rfl, _, _, _, _, _, _, HXX.out, HED.out, HOUT.out⟩
end Go.Proofs.YtjpoljlgkgmdkaaGreatDoor
