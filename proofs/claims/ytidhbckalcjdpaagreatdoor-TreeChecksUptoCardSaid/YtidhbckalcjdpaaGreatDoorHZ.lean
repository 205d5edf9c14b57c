/-
  One cell of a row written in place. No program is named here.
-/
import Derived.Test.YtidhbckalcjdpaaGreatDoorHR
import Derived.Test.YtidhbckalcjdpaaGreatDoorHK
import Derived.Test.YtidhbckalcjdpaaGreatDoorHT
set_option linter.unusedSimpArgs false
set_option linter.unusedVariables false
namespace Go.Cold
open Go Go.RowKit
theorem flat_set {n : Nat} {v : Value} {j : Nat} (hj : j < n) : ∀ {css : List (List Value)} {i : Nat} {cs : List Value}, (∀ c ∈ css, c.length = n) → css[i]? = some cs → css.flatten.set (i * n + j) v = (css.set i (cs.set j v)).flatten
 | [], i, cs, _, h => by simp at h
 | c :: r, 0, cs, h7, h => by
  have hc := h7 c List.mem_cons_self
  simp at h; subst h
  rw [List.flatten_cons, List.set_cons_zero, List.flatten_cons, Nat.zero_mul, Nat.zero_add, List.set_append_left _ _ (by omega)]
 | c :: r, i + 1, cs, h7, h => by
  have hc := h7 c List.mem_cons_self
  rw [List.flatten_cons, List.set_cons_succ, List.flatten_cons, Nat.succ_mul, List.set_append_right _ _ (by omega), show i * n + n + j - c.length = i * n + j by omega, flat_set hj (fun d hd => h7 d (List.mem_cons_of_mem _ hd)) (by simpa using h)]
theorem RowIn.cell {α : Type} [RepS α] {F : Nat → Prop} {w : World} {base : Nat} {T : TypeId} {xs : List α} {g cap : Nat} {cur : Array Value} {css : List (List Value)} (h : RowIn F w base T g cap xs cur css) {i j : Nat} {x x' : α} {cs : List Value} {v : Value} (hx : xs[i]? = some x) (hcs : css[i]? = some cs) (hj : j < Rep.size α)
  (hr : RepS.rdS w (fun b => F b ∧ b < w.heap.size ∧ b ≠ g) x' (cs.set j v)) : RowIn F (w.setCell ⟨g, i * Rep.size α + j, none⟩ v) base T g cap (xs.set i x') (cur.setIfInBounds (i * Rep.size α + j) v) (css.set i (cs.set j v)) := by
 have hi := (List.getElem?_eq_some_iff.1 hx).1
 rw [setCell_eq_setRow w g _ cur T (0, 0) v h.heap]
 refine h.write (by simpa using h.le) (by simp) (by simp [h.len]) (fun q y' cs' hy hcs' => ?_) ?_
 ·
  rw [List.getElem?_set] at hy hcs'
  by_cases hq : i = q
  ·
   subst hq
   rw [if_pos rfl, if_pos hi] at hy
   rw [if_pos rfl, if_pos (by rw [h.len]; exact hi)] at hcs'
   obtain rfl := Option.some.inj hy
   obtain rfl := Option.some.inj hcs'
   exact hr
  ·
   rw [if_neg hq] at hy hcs'
   exact h.rd q y' cs' hy hcs'
 · rw [List.length_set, Array.toList_setIfInBounds, List.take_set, h.row, flat_set hj h.css hcs]
theorem OwnsS.rowAt {α : Type} [RepS α] {F : Nat → Prop} {w : World} {base : Nat} {T : TypeId} {g cap n : Nat} {xs : List α} (h : OwnsS F w base T (.slice (some ⟨g, 0, none⟩) n cap) xs) : ∃ cur css, RowIn F w base T g cap xs cur css := by
 rcases h.opened with ⟨h1, -⟩ | ⟨g', cap', cur, css, h1, h2⟩
 · cases h1
 ·
  injection h1 with h3 h4 h5
  injection h3 with h6
  injection h6 with h7
  subst h7 h5
  exact ⟨cur, css, h2⟩
theorem OwnsS.rowedJ {α : Type} [RepS α] {F : Nat → Prop} {w : World} {base : Nat} {T : TypeId} {v : Value} {xs : List α} (h : OwnsS F w base T v xs) (hx : xs ≠ []) : ∃ g cap, v = .slice (some ⟨g, 0, none⟩) xs.length cap ∧ base ≤ g ∧ xs.length ≤ cap ∧ cap ≤ maxLen := by
 rcases h.opened with ⟨-, h0⟩ | ⟨g, cap, cur, css, h1, h2⟩
 · exact absurd h0 hx
 · exact ⟨g, cap, h1, h2.lo, h2.le, h2.lim⟩
/-- A device's field is exchanged in its row. -/
theorem dev_cell {F : Nat → Prop} {w : World} {base : Nat} {T : TypeId} {xs : List Dev} {g cap n k j : Nat} {x x' : Dev} {v : Value} (h : OwnsS F w base T (.slice (some ⟨g, 0, none⟩) n cap) xs) (hx : xs[k]? = some x) (hj : j < 10)
  (hd : ∀ A c, (devCells x A c).set j v = devCells x' A c) (ha : x'.attrs = x.attrs) (ho : devOk x → devOk x') :
  OwnsS F (w.setCell ⟨g, k * 10 + j, none⟩ v) base T (.slice (some ⟨g, 0, none⟩) xs.length cap) (xs.set k x') ∧ (∃ u, w.cell? ⟨g, k * 10 + j, none⟩ = some u) ∧ w.frozen? ⟨g, k * 10 + j, none⟩ = false := by
 obtain ⟨cur, css, hr⟩ := h.rowAt
 obtain ⟨cs, h1, h2, h3⟩ := hr.at_ hx
 obtain ⟨A, c, rfl, h4, h5⟩ := h2
 refine ⟨?_, ?_, hr.frozen _⟩
 ·
  have h6 := hr.cell (x' := x') (v := v) hx h1 hj (by rw [hd]; exact ⟨A, c, rfl, ho h4, by rw [ha]; exact h5⟩)
  have h7 := h6.owns
  rw [List.length_set] at h7
  exact h7
 ·
  obtain ⟨u, hu⟩ : ∃ u, (devCells x A c)[j]? = some u := ⟨_, List.getElem?_eq_getElem (show j < 10 from hj)⟩
  exact ⟨u, h3 j u hu⟩
/-- The cells of a device in its row. -/
theorem dev_at {F : Nat → Prop} {w : World} {base : Nat} {T : TypeId} {xs : List Dev} {g cap n k : Nat} {x : Dev} (h : OwnsS F w base T (.slice (some ⟨g, 0, none⟩) n cap) xs) (hx : xs[k]? = some x) : ∃ A c, DCells w g (k * 10) x A c ∧ devOk x ∧ SlS w (fun b => F b ∧ b < w.heap.size ∧ b ≠ g) A c x.attrs := by
 obtain ⟨cur, css, hr⟩ := h.rowAt
 obtain ⟨cs, h1, h2, h3⟩ := hr.at_ hx
 obtain ⟨A, c, rfl, h4, h5⟩ := h2
 exact ⟨A, c, dcells h3, h4, h5⟩
/-- A device is exchanged in its row. -/
theorem dev_put {F : Nat → Prop} {w : World} {base : Nat} {T : TypeId} {xs : List Dev} {g cap n k : Nat} {x' : Dev} {A : Option Addr} {c : Nat} (h : OwnsS F w base T (.slice (some ⟨g, 0, none⟩) n cap) xs) (hk : k < xs.length) (ho : devOk x') (ha : SlS w (fun b => F b ∧ b < w.heap.size ∧ b ≠ g) A c x'.attrs) :
  OwnsS F (w.setCells g (k * 10) (devCells x' A c)) base T (.slice (some ⟨g, 0, none⟩) xs.length cap) (xs.set k x') ∧ (∀ j, j < 10 → ∃ u, w.cell? ⟨g, k * 10 + j, none⟩ = some u) ∧ (∀ j, w.frozen? ⟨g, j, none⟩ = false) ∧ w.grownBy (w.setCells g (k * 10) (devCells x' A c)) (some g) := by
 obtain ⟨cur, css, hr⟩ := h.rowAt
 obtain ⟨cur', h1, h2⟩ := hr.set_ hk (y := x') (cs := devCells x' A c) ⟨A, c, rfl, ho, ha⟩
 have h1' : w.setCells g (k * 10) (devCells x' A c) = w.setRow g cur' := h1
 have h3 := h2.owns
 rw [List.length_set] at h3
 rw [h1']
 refine ⟨h3, fun j hj => ?_, hr.frozen, grown_setRow _ _ _⟩
 obtain ⟨cs, q1, q2, q3⟩ := hr.at_ (List.getElem?_eq_getElem hk)
 have q4 : cs.length = 10 := RepS.lenS q2
 exact ⟨_, q3 j _ (List.getElem?_eq_getElem (by omega))⟩
end Go.Cold
namespace Go.Cold
open Go Go.RowKit
/-- Where the reference's Check stands, in plain. -/
def RkAt (L : List Dev) (k : Nat) : Prop := chkGo chkE [] L = chkGo chkE (L.take k) (L.drop k) ∧ VT (L.take k)
theorem chkE_step {L : List Dev} {k : Nat} {y : Dev} (hk : L[k]? = some y) : chkGo chkE (L.take k) (L.drop k) = if chkE (L.take k) y ≠ 0 then chkE (L.take k) y else chkGo chkE (L.take (k + 1)) (L.drop (k + 1)) := by
 obtain ⟨h1, h2⟩ := List.getElem?_eq_some_iff.1 hk
 rw [List.drop_eq_getElem_cons h1, h2, chkGo, List.take_add_one, hk]
 rfl
theorem RkAt.start (L : List Dev) : RkAt L 0 := ⟨rfl, VT_nil⟩
theorem RkAt.err {L : List Dev} {k : Nat} {y : Dev} {c : Int} (h : RkAt L k) (hl : ¬ 256 < L.length) (hk : L[k]? = some y) (hc : chkE (L.take k) y = c) (h0 : c ≠ 0) : chkAll L = c := by
 unfold chkAll
 rw [if_neg hl, chk_all (by omega), h.1, chkE_step hk, hc, if_pos h0]
theorem RkAt.next {L : List Dev} {k : Nat} {y : Dev} (h : RkAt L k) (hl : ¬ 256 < L.length) (hk : L[k]? = some y) (hc : chkE (L.take k) y = 0) : RkAt L (k + 1) := by
 have hlt := (List.getElem?_eq_some_iff.1 hk).1
 refine ⟨by rw [h.1, chkE_step hk, if_neg (by simp [hc])], ?_⟩
 rw [List.take_add_one, hk]
 exact (VT.snoc h.2 hc (by rw [List.length_take]; omega)).1
theorem RkAt.end_ {L : List Dev} (h : RkAt L L.length) (hl : ¬ 256 < L.length) : chkAll L = 0 := by
 unfold chkAll
 rw [if_neg hl, chk_all (by omega), h.1, List.take_length, List.drop_length]; rfl
theorem snoc_org {X : List Dev} {y : Dev} (h : VT X) (hc : checkD y = 0) (hn : (idxs X).contains y.idx = false) (hp : ¬ (y.par ≠ 0 ∧ (idxs X).contains y.par = false)) : WF (X ++ [y]) ∧ orgF (X ++ [y]) y.idx = ownL X y := by
 have hz : y.idx ≠ 0 := by have := (check_range hc).1; omega
 have hpa : y.par = 0 ∨ y.par ∈ idxs X := by
  by_cases h0 : y.par = 0
  · exact .inl h0
  ·
   right
   cases hq : (idxs X).contains y.par with
   | true => exact List.contains_iff_mem.1 hq
   | false => exact absurd ⟨h0, hq⟩ hp
 have hnew : y.idx ∉ idxs X := fun h1 => by rw [List.contains_iff_mem.2 h1] at hn; cases hn
 have h3 := org_insert (A := X) (B := []) (d := y) (by rw [List.append_nil]; exact h.wf) hz (by rw [List.append_nil]; exact hnew) hpa
 refine ⟨h3.1, ?_⟩
 rw [h3.2, if_pos rfl, List.append_nil]; rfl
def clY (y t : Dev) : Bool := clashB t y
end Go.Cold
namespace Go.Proofs.YtidhbckalcjdpaaGreatDoor
open Go.RowKit Go.Cold
set_option maxRecDepth 100000 in
set_option maxHeartbeats 4000000 in
/-- The reference's Check. -/
theorem RTCheck_any (A : Option Addr) (c : Nat) (L : List Dev) (w : World) (B : Nat) (hB : B ≤ w.heap.size) (hx : Sl w B A c L) (hok : Ok w) :
  Calls Tryz.prog 17 #[.agg #[.slice A L.length c]] w fun e w' => e = .returned (.int .i64 (chkAll L)) ∧ Below w.heap.size w w' := by
 have hx1 := hx.1; have hx2 := hx.2.1
 unfold maxLen at hx2
 have HX := Lib.hid hx; have HB := Lib.hid hB; have HOK := Lib.hid hok
 clear hx hB hok
 go_enter Tryz.func17, Tryz.ntmps17
 go_upto_region 1 with fail
 obtain ⟨w1, hw1⟩ : ∃ w1, w.alloc (.cells #[.slice A L.length c] 29) = w1 := ⟨_, rfl⟩
 have hbw1 : Below w.heap.size w w1 := by rw [← hw1]; exact (Below.refl _ _).alloc (Nat.le_refl _) _
 have HGw1 := Lib.hid (show w1.heap.size = w.heap.size + 1 by rw [← hw1]; simp)
 have HXtw1 := Lib.hid (show BoxL w1 w.heap.size [.slice A L.length c] from box_mk hw1)
 try simp only [hw1]
 have HSw1 := Lib.hid (show w.heap.size ≤ w1.heap.size from hbw1.size)
 have HBw1 := Lib.hid hbw1
 clear hw1 hbw1
 try rw [show w.heap.size + 1 = w1.heap.size from HGw1.out.symm]
 have ct0 := HXtw1.out.1 0 _ rfl
 by_cases hl : 256 < L.length
 ·
  have i4 : (256 : Int) < (L.length : Int) := by omega
  have HE := Lib.hid (show chkAll L = 40 by unfold chkAll; rw [if_pos hl]); clear hl
  go_wp2
  go_ret
  exact ⟨by rw [HE.out]; try rfl, HBw1.out⟩
 ·
  have i4 : ¬ (256 : Int) < (L.length : Int) := by omega
  have HL := Lib.hid hl; clear hl
  go_wp2_with fail
  clear ct0
  have HKA := Lib.hid (RkAt.start L); have HT1 := HXtw1
  go_loopw [3] (fun i wr => ∃ k : Nat, k ≤ L.length ∧ i = .int .i64 k ∧ Hid (RkAt L k) ∧ Hid (Below w1.heap.size w1 wr)) (fun i _ => L.length - (intOf i).toNat)
  case atStart => exact ⟨0, Nat.zero_le _, rfl, HKA, Lib.hid (Below.refl _ _)⟩
  case round =>
   clear HKA
   obtain ⟨k, hk, rfl, HKA, HBR⟩ := hrel
   obtain ⟨wo, hwo⟩ : ∃ z, z = wr := ⟨_, rfl⟩
   subst hwo
   have hbr := HBR.out
   have HSwo := Lib.hid (show w1.heap.size ≤ wo.heap.size from hbr.size)
   have HBwo := Lib.hid (HBw1.out.trans (hbr.mono HBw1.out.size))
   have two := Lib.hid (HXtw1.out.kept (grown_none hbr) (fun e => by cases e))
   clear hbr
   have ct0 := two.out.1 0 _ rfl
   by_cases hlt : k < L.length
   ·
    obtain ⟨b3, o3, rfl, -, A3, c3, hok3, hat3, hcs3⟩ := (HX.out.keep (HBwo.out.mono HB.out)).dev hlt
    have hxk : L[k]? = some L[k] := List.getElem?_eq_getElem hlt
    obtain ⟨y, hy⟩ : ∃ y, L[k]'hlt = y := ⟨_, rfl⟩
    rw [hy] at hok3 hcs3 hxk hat3
    obtain ⟨X, hX⟩ : ∃ X, L.take k = X := ⟨_, rfl⟩
    have hkl : X.length = k := by rw [← hX, List.length_take]; omega
    subst hkl
    have i1 : (X.length : Int) < (L.length : Int) := by omega
    have i2 : L.length ≤ 256 := by have := HL.out; omega
    have i3 : X.length ≤ c := by omega
    have i3b : (X.length : Int) ≤ (c : Int) := by omega
    have i3c : (X.length : Int) ≤ (L.length : Int) := by omega
    have HXK := Lib.hid hxk; have HOK3 := Lib.hid hok3; have HAT := Lib.hid (hat3.more (Nat.le_trans HB.out HBwo.out.size)); have HXE := Lib.hid hX
    have HXX := Lib.hid (show Sl w B (some ⟨b3, o3, none⟩) c X from SlS_iff.2 (by rw [← HXE.out]; exact (SlS_iff.1 HX.out).take_ (by omega)))
    have HVX := Lib.hid (show VT X by rw [← HXE.out]; exact HKA.out.2)
    have HX1 := Lib.hid (show L.take (X.length + 1) = X ++ [y] by rw [List.take_add_one, hxk, hX]; rfl)
    have HXX1 := Lib.hid (show Sl w B (some ⟨b3, o3, none⟩) c (X ++ [y]) from SlS_iff.2 (by rw [← HX1.out]; exact (SlS_iff.1 HX.out).take_ (by omega)))
    obtain ⟨y0, y1, y2, y3, y4, y5, y6, y7, y8, y9⟩ := hcs3
    clear hxk hok3 hy hat3 hX
    go_upto_region 7 with fail
    clear y0 y1 y2 y3 y4 y5 y6 y7 y8 y9
    obtain ⟨w3, hw3⟩ : ∃ w3, wo.alloc (.cells #[.int .i64 y.idx, .int .i64 y.par, .string y.nm, .string y.orig, .string y.sub, .string y.drv, .string y.ali, .int .i64 y.kind, .int .i64 y.num, .slice A3 y.attrs.length c3] 34) = w3 := ⟨_, rfl⟩
    have hbw3 : Below wo.heap.size wo w3 := by rw [← hw3]; exact (Below.refl _ _).alloc (Nat.le_refl _) _
    have HGw3 := Lib.hid (show w3.heap.size = wo.heap.size + 1 by rw [← hw3]; simp)
    have HXdw3 := Lib.hid (show BoxL w3 wo.heap.size [.int .i64 y.idx, .int .i64 y.par, .string y.nm, .string y.orig, .string y.sub, .string y.drv, .string y.ali, .int .i64 y.kind, .int .i64 y.num, .slice A3 y.attrs.length c3] from box_mk hw3)
    try simp only [hw3]
    have HSw3 := Lib.hid (show wo.heap.size ≤ w3.heap.size from hbw3.size)
    have HBw3 := Lib.hid (HBwo.out.trans (hbw3.mono HBwo.out.size))
    have tw3 := Lib.hid (two.out.kept (grown_none hbw3) (fun e => by cases e))
    have HBAw3 := Lib.hid (below_next HBR.out hbw3)
    have HATw3 := Lib.hid (HAT.out.next (Nat.le_refl _) hbw3)
    clear hw3 hbw3
    try rw [show wo.heap.size + 1 = w3.heap.size from HGw3.out.symm]
    clear ct0
    have ct0 := tw3.out.1 0 _ rfl
    go_cut [5] (fun s5 wx => s5 = .slice (some ⟨b3, o3, none⟩) X.length c ∧ w3 = wx)
    case first =>
     go_wp2_with fail
     go_meet
     exact ⟨by first | rfl | simp, rfl⟩
    case rest =>
    obtain ⟨rfl, rfl⟩ := hcut
    clear ct0
    have cd0 := HXdw3.out.1 0 _ rfl
    have cd1 := HXdw3.out.1 1 _ rfl
    have cd2 := HXdw3.out.1 2 _ rfl
    have cd3 := HXdw3.out.1 3 _ rfl
    have cd4 := HXdw3.out.1 4 _ rfl
    have cd5 := HXdw3.out.1 5 _ rfl
    have cd6 := HXdw3.out.1 6 _ rfl
    have cd7 := HXdw3.out.1 7 _ rfl
    have cd8 := HXdw3.out.1 8 _ rfl
    have cd9 := HXdw3.out.1 9 _ rfl
    go_wp2_with fail
    refine (RCheck_any y A3 c3 _ _ (Nat.le_refl _) HOK3.out HATw3.out (HOK.out.next HBw3.out)).mono ?_
    rintro e w4 ⟨rfl, hbw4⟩
    clear cd0 cd1 cd2 cd3 cd4 cd5 cd6 cd7 cd8 cd9
    have HSw4 := Lib.hid (show w3.heap.size ≤ w4.heap.size from hbw4.size)
    have HBw4 := Lib.hid (HBw3.out.trans (hbw4.mono HBw3.out.size))
    have tw4 := Lib.hid (tw3.out.kept (grown_none hbw4) (fun e => by cases e))
    have dw4 := Lib.hid (HXdw3.out.kept (grown_none hbw4) (fun e => by cases e))
    have HBAw4 := Lib.hid (below_next HBAw3.out hbw4)
    have HATw4 := Lib.hid (HATw3.out.next (Nat.le_refl _) hbw4)
    clear hbw4
    have cd0 := dw4.out.1 0 _ rfl
    by_cases hc : checkD y = 0
    ·
     have HDS := Lib.hid (show y.orig.size ≤ 32 from valid_size (check_names hc).2.1)
     have ec : (checkD y != 0) = false := by rw [hc]; rfl
     have HC := Lib.hid hc; try rw [hc]
     clear hc
     go_wp2_with fail
     refine (index_any2 (some ⟨b3, o3, none⟩) c X y.idx _ B (HXX.out.keep (HBw4.out.mono HB.out))).mono ?_
     rintro e w' ⟨rfl, rfl⟩
     have hcon := idx_contains y.idx X
     obtain ⟨z, hz⟩ : ∃ z, idxInt (fun d_1 : Dev => decide (d_1.idx = y.idx)) X = z := ⟨_, rfl⟩
     rw [hz] at hcon ⊢
     clear hz
     cases hin : (idxs X).contains y.idx with
     | true =>
      rw [hin] at hcon
      have j1 : 0 ≤ z := of_decide_eq_true hcon
      have HIN := Lib.hid hin; clear hin hcon
      have HE := Lib.hid (HKA.out.err HL.out HXK.out (c := 44) (by rw [HXE.out]; unfold chkE; rw [if_neg (by rw [HC.out]; decide), if_pos HIN.out]) (by decide))
      go_wp2
      go_ret
      exact ⟨by rw [HE.out]; try rfl, HBw4.out⟩
     | false =>
      rw [hin] at hcon
      have j1 : ¬ 0 ≤ z := of_decide_eq_false hcon
      have HIN := Lib.hid hin; clear hin hcon
      obtain ⟨bp, hbp⟩ : ∃ b, (decide (y.par ≠ 0) && !(idxs X).contains y.par) = b := ⟨_, rfl⟩
      have HBP := Lib.hid hbp; clear hbp
      clear cd0
      have cd1 := dw4.out.1 1 _ rfl
      go_upto_region 12 with fail
      go_cut [45] (fun s45 wx => s45 = .bool bp ∧ w4 = wx)
      case first =>
       by_cases hp : y.par = 0
       ·
        have ep : (y.par != 0) = false := by rw [hp]; rfl
        have HR := Lib.hid (show false = bp by rw [← HBP.out]; simp [hp]); clear hp
        go_wp2_with fail
        go_meet
        exact ⟨by rw [HR.out], rfl⟩
       ·
        have ep : (y.par != 0) = true := by simpa using hp
        go_wp2_with fail
        refine (index_any2 (some ⟨b3, o3, none⟩) c X y.par _ B (HXX.out.keep (HBw4.out.mono HB.out))).mono ?_
        rintro e w' ⟨rfl, rfl⟩
        have hcon := idx_contains y.par X
        obtain ⟨z2, hz⟩ : ∃ z2, idxInt (fun d_1 : Dev => decide (d_1.idx = y.par)) X = z2 := ⟨_, rfl⟩
        rw [hz] at hcon ⊢
        clear hz
        have hr : decide (z2 < 0) = bp := by rw [← HBP.out, ← hcon]; simp [hp]; by_cases h : z2 < 0 <;> simp [h] <;> omega
        have HR := Lib.hid hr; clear hr hp hcon
        go_wp2_with fail
        go_meet
        exact ⟨by rw [HR.out], rfl⟩
      case rest =>
      obtain ⟨rfl, rfl⟩ := hcut
      cases bp with
      | true =>
       have HPB := Lib.hid (show y.par ≠ 0 ∧ (idxs X).contains y.par = false by have h := HBP.out; simpa using h)
       have HE := Lib.hid (HKA.out.err HL.out HXK.out (c := 42) (by rw [HXE.out]; unfold chkE; rw [if_neg (by rw [HC.out]; decide), if_neg (by rw [HIN.out]; decide), if_pos HPB.out]) (by decide))
       go_wp2
       go_ret
       exact ⟨by rw [HE.out]; try rfl, HBw4.out⟩
      | false =>
       have HP := Lib.hid (show ¬ (y.par ≠ 0 ∧ (idxs X).contains y.par = false) by have h := HBP.out; intro hh; simp [hh.1, hh.2] at h; first | exact absurd h (by decide) | (have := hh.2; simp_all))
       obtain ⟨own, hown⟩ : ∃ z, ownL X y = z := ⟨_, rfl⟩
       have HOWE := Lib.hid hown
       have HSN := Lib.hid (snoc_org HVX.out HC.out HIN.out HP.out)
       clear hown
       go_upto_region 14 with fail
       have k1 : ((X.length : Int) + 1) ≤ (L.length : Int) := by omega
       have k2 : IntKind.i64.wrap ((X.length : Int) + 1) = ((X.length + 1 : Nat) : Int) := by rw [IntKind.wrap_i64]; omega
       have k3 : ((X.length + 1 : Nat) : Int) ≤ (L.length : Int) := by omega
       have k4 : ((X.length + 1 : Nat) : Int) ≤ (c : Int) := by omega
       have k5 : X.length + 1 ≤ c := by omega
       refine wp_region_held_drew (S := fun w' => BoxL w' w.heap.size [.slice (some ⟨b3, o3, none⟩) L.length c] ∧ BoxL w' wo.heap.size [.int .i64 y.idx, .int .i64 y.par, .string y.nm, .string y.orig, .string y.sub, .string y.drv, .string y.ali, .int .i64 y.kind, .int .i64 y.num, .slice A3 y.attrs.length c3]) (by kernel_rfl) ⟨tw4.out.drew, dw4.out.drew⟩ (fun hS0 => ?_)
       obtain ⟨wd, hwd⟩ : ∃ z, World.drew w4 = z := ⟨_, rfl⟩
       rw [hwd] at hS0 ⊢
       have hb_ : Below w4.heap.size w4 wd := by rw [← hwd]; exact below_drewN_self _ _ 1
       clear hwd hS0
       clear cd1
       have HSwd := Lib.hid (show w4.heap.size ≤ wd.heap.size from hb_.size)
       have HBwd := Lib.hid (HBw4.out.trans (hb_.mono HBw4.out.size))
       have twd := Lib.hid (tw4.out.kept (grown_none hb_) (fun e => by cases e))
       have dwd := Lib.hid (dw4.out.kept (grown_none hb_) (fun e => by cases e))
       have HBAwd := Lib.hid (below_next HBAw4.out hb_)
       clear hb_
       refine wpAnyH_take (i := 0) (oi := ⟨some 46, _, _, _, _, _⟩) (v := .pointer (some ⟨w.heap.size, 0, none⟩)) rfl (by kernel_rfl) (by kernel_rfl) (by kernel_rfl) (fun _ _ _ h => h) (Or.inl ⟨by rfl, fun w' hS => by go_simp⟩) ⟨twd.out, dwd.out⟩ ?_
       try simp only [Act.put, List.setIfInBounds_toArray, List.set_cons_zero, List.set_cons_succ]
       refine wpAnyH_take (i := 1) (oi := ⟨some 47, _, _, _, _, _⟩) (v := .slice (some ⟨b3, o3, none⟩) L.length c) rfl (by kernel_rfl) (by kernel_rfl) (by kernel_rfl) (fun _ _ _ h => h) (Or.inl ⟨by rfl, fun w' hS => by (have u0_ := hS.1.1 0 _ rfl; go_simp)⟩) ⟨twd.out, dwd.out⟩ ?_
       try simp only [Act.put, List.setIfInBounds_toArray, List.set_cons_zero, List.set_cons_succ]
       refine wpAnyH_take (i := 2) (oi := ⟨some 48, _, _, _, _, _⟩) (v := .int .i64 X.length) rfl (by kernel_rfl) (by kernel_rfl) (by kernel_rfl) (fun _ _ _ h => h) (Or.inl ⟨by rfl, fun w' hS => by go_simp⟩) ⟨twd.out, dwd.out⟩ ?_
       try simp only [Act.put, List.setIfInBounds_toArray, List.set_cons_zero, List.set_cons_succ]
       refine wpAnyH_take (i := 3) (oi := ⟨some 49, _, _, _, _, _⟩) (v := .int .i64 ((X.length + 1 : Nat) : Int)) rfl (by kernel_rfl) (by kernel_rfl) (by kernel_rfl) (fun _ _ _ h => h) (Or.inl ⟨by rfl, fun w' hS => by go_simp⟩) ⟨twd.out, dwd.out⟩ ?_
       try simp only [Act.put, List.setIfInBounds_toArray, List.set_cons_zero, List.set_cons_succ]
       refine wpAnyH_take (i := 4) (oi := ⟨some 50, _, _, _, _, _⟩) (v := .slice (some ⟨b3, o3, none⟩) (X.length + 1) c) rfl (by kernel_rfl) (by kernel_rfl) (by kernel_rfl) (fun _ _ _ h => h) (Or.inl ⟨by rfl, fun w' hS => by (rw [← sliced_take (A := some ⟨b3, o3, none⟩) (c := c) (m := X.length + 1) (s := 10)]; go_simp; try (intro h9; omega))⟩) ⟨twd.out, dwd.out⟩ ?_
       try simp only [Act.put, List.setIfInBounds_toArray, List.set_cons_zero, List.set_cons_succ]
       refine wpAnyH_take (i := 5) (oi := ⟨some 51, _, _, _, _, _⟩) (v := .agg #[.slice (some ⟨b3, o3, none⟩) (X.length + 1) c]) rfl (by kernel_rfl) (by kernel_rfl) (by kernel_rfl) (fun _ _ _ h => h) (Or.inl ⟨by rfl, fun w' hS => by go_simp⟩) ⟨twd.out, dwd.out⟩ ?_
       try simp only [Act.put, List.setIfInBounds_toArray, List.set_cons_zero, List.set_cons_succ]
       refine wpAnyH_take (i := 6) (oi := ⟨some 52, _, _, _, _, _⟩) (v := .pointer (some ⟨wo.heap.size, 0, none⟩)) rfl (by kernel_rfl) (by kernel_rfl) (by kernel_rfl) (fun _ _ _ h => h) (Or.inl ⟨by rfl, fun w' hS => by go_simp⟩) ⟨twd.out, dwd.out⟩ ?_
       try simp only [Act.put, List.setIfInBounds_toArray, List.set_cons_zero, List.set_cons_succ]
       refine wpAnyH_take (i := 7) (oi := ⟨some 53, _, _, _, _, _⟩) (v := .int .i64 y.idx) rfl (by kernel_rfl) (by kernel_rfl) (by kernel_rfl) (fun _ _ _ h => h) (Or.inl ⟨by rfl, fun w' hS => by (have u0_ := hS.2.1 0 _ rfl; go_simp)⟩) ⟨twd.out, dwd.out⟩ ?_
       try simp only [Act.put, List.setIfInBounds_toArray, List.set_cons_zero, List.set_cons_succ]
       have hcc := ROrigin_any (some ⟨b3, o3, none⟩) c (X ++ [y]) y.idx wd B (Nat.le_trans HB.out HBwd.out.size) (HXX1.out.keep (HBwd.out.mono HB.out)) (by rw [List.length_append, List.length_singleton]; omega) HOK3.out.1
       rw [chainO_org HSN.out.1, HSN.out.2, HOWE.out, show (X ++ [y]).length = X.length + 1 by simp] at hcc
       have HCC := Lib.hid hcc; clear hcc k1 k2 k3 k4 k5
       refine wpAnyH_ready (rs := [8]) (by kernel_rfl) (by simp) ?_
       refine AllReadyH.cons (o := ⟨some 54, .call ⟨_, _, _⟩, _, _, _, _⟩) rfl (fun K hK => ?_) AllReadyH.nil
       go_simp
       go_at_call 58
       refine Calls.mono HCC.out ?_
       rintro e' q14 ⟨hb_, v, rfl, hown_⟩
       clear HCC
       have HSq14 := Lib.hid (show wd.heap.size ≤ q14.heap.size from hb_.size)
       have HBq14 := Lib.hid (HBwd.out.trans (hb_.mono HBwd.out.size))
       have tq14 := Lib.hid (twd.out.kept (grown_none hb_) (fun e => by cases e))
       have dq14 := Lib.hid (dwd.out.kept (grown_none hb_) (fun e => by cases e))
       have HBAq14 := Lib.hid (below_next HBAwd.out hb_)
       obtain ⟨A6, c6, rfl, hsl_⟩ := hown_.sl
       have hol := hsl_.1; have hol2 := hsl_.2.1
       unfold maxLen at hol2
       have HOW := Lib.hid hsl_; clear hown_ hsl_ hb_
       refine hK.out _ _ ⟨tq14.out, dq14.out⟩ (fun _ => ?_)
       clear hK K
       try simp only [Act.put, List.setIfInBounds_toArray, List.set_cons_zero, List.set_cons_succ]
       refine wpAnyH_take (i := 9) (oi := ⟨some 6, _, _, _, _, _⟩) (v := .slice A6 own.length c6) rfl (by kernel_rfl) (by kernel_rfl) (by kernel_rfl) (fun _ _ _ h => h) (Or.inl ⟨by rfl, fun w' hS => by go_simp⟩) ⟨tq14.out, dq14.out⟩ ?_
       try simp only [Act.put, List.setIfInBounds_toArray, List.set_cons_zero, List.set_cons_succ]
       refine wpAnyH_done (by kernel_rfl) ?_ _
       by_cases h7 : 7 < own.length
       ·
        have j5 : (7 : Int) < (own.length : Int) := by omega
        have H7 := Lib.hid h7; clear h7
        have HE := Lib.hid (HKA.out.err HL.out HXK.out (c := 46) (by rw [HXE.out]; unfold chkE; rw [if_neg (by rw [HC.out]; decide), if_neg (by rw [HIN.out]; decide), if_neg HP.out, HOWE.out, if_pos H7.out]) (by decide))
        go_wp2
        go_ret
        exact ⟨by rw [HE.out]; try rfl, HBq14.out⟩
       ·
        have j5 : ¬ (7 : Int) < (own.length : Int) := by omega
        have H7 := Lib.hid h7; clear h7
        go_upto_region 17 with fail
        go_cut [73] (fun s73 wx => s73 = .bool (lastE X own) ∧ Hid (Below q14.heap.size q14 wx))
        case first =>
         by_cases hk0 : 0 < X.length
         ·
          have i5 : (0 : Int) < (X.length : Int) := by omega
          obtain ⟨m, hm⟩ : ∃ m, X.length = m + 1 := ⟨X.length - 1, by omega⟩
          have hml : m < X.length := by omega
          have i6 : (X.length : Int) - 1 = (m : Int) := by omega
          have i8 : IntKind.i64.wrap ((X.length : Int) - 1) = (m : Int) := by rw [IntKind.wrap_i64]; omega
          have i9 : (m : Int) < (X.length : Int) := by omega
          obtain ⟨b4, o4, he4, -, A4, c4, hok4, -, hcs4⟩ := (HXX.out.keep (HBq14.out.mono HB.out)).dev hml
          cases he4
          have hxm : X[m]? = some X[m] := List.getElem?_eq_getElem hml
          obtain ⟨y4, hy4⟩ : ∃ y, X[m]'hml = y := ⟨_, rfl⟩
          rw [hy4] at hok4 hcs4 hxm
          have x0 := hcs4.1
          have HLE := Lib.hid (show lastE X own = decide (0 ≤ cmpL (orgF X y4.idx) own) by unfold lastE; rw [show X.getLast? = some y4 by rw [List.getLast?_eq_getElem?, hm]; exact hxm])
          have HOK4 := Lib.hid hok4
          clear hok4 hcs4 hxm hy4 hm hk0
          have hcc := ROrigin_any (some ⟨b3, o3, none⟩) c X y4.idx q14 B (Nat.le_trans HB.out HBq14.out.size) (HXX.out.keep (HBq14.out.mono HB.out)) (by omega) HOK4.out.1
          rw [chainO_org HVX.out.wf] at hcc
          have HCC := Lib.hid hcc; clear hcc
          go_wp2_with fail
          refine Calls.mono HCC.out ?_
          rintro e q17 ⟨hb_, v, rfl, hown_⟩
          clear HCC x0
          have HH1 := Lib.hid hb_
          have HSq17 := Lib.hid (show q14.heap.size ≤ q17.heap.size from hb_.size)
          have HBq17 := Lib.hid (HBq14.out.trans (hb_.mono HBq14.out.size))
          have tq17 := Lib.hid (tq14.out.kept (grown_none hb_) (fun e => by cases e))
          have dq17 := Lib.hid (dq14.out.kept (grown_none hb_) (fun e => by cases e))
          have HBAq17 := Lib.hid (below_next HBAq14.out hb_)
          have HOWq17 := Lib.hid (HOW.out.next (Nat.le_refl _) hb_)
          obtain ⟨A7, c7, rfl, hsl_⟩ := hown_.sl
          have HSL7 := Lib.hid hsl_; clear hown_ hsl_ hb_
          go_wp2_with fail
          refine (RCompare_any A7 A6 c7 c6 (orgF X y4.idx) own _ _ _ HSL7.out HOWq17.out).mono ?_
          rintro e q18 ⟨rfl, nq, rfl⟩
          obtain ⟨cv, hcv⟩ : ∃ z, cmpL (orgF X y4.idx) own = z := ⟨_, rfl⟩
          rw [hcv] at HLE ⊢
          clear hcv
          go_wp2_with fail
          go_meet
          exact ⟨by rw [HLE.out], Lib.hid (below_next HH1.out (below_drewN_self _ _ nq))⟩
         ·
          have i5 : ¬ (0 : Int) < (X.length : Int) := by omega
          have HLE := Lib.hid (show false = lastE X own by rw [show X = [] from List.eq_nil_of_length_eq_zero (by omega)]; rfl)
          clear hk0
          go_wp2_with fail
          go_meet
          exact ⟨by rw [HLE.out], Lib.hid (Below.refl _ _)⟩
        case rest =>
        obtain ⟨rfl, hq⟩ := hcut
        have hbq := hq.out
        clear hq
        obtain ⟨wk, hwk⟩ : ∃ z, z = wc := ⟨_, rfl⟩
        subst hwk
        have HSwk := Lib.hid (show q14.heap.size ≤ wk.heap.size from hbq.size)
        have HBwk := Lib.hid (HBq14.out.trans (hbq.mono HBq14.out.size))
        have twk := Lib.hid (tq14.out.kept (grown_none hbq) (fun e => by cases e))
        have dwk := Lib.hid (dq14.out.kept (grown_none hbq) (fun e => by cases e))
        have HBAwk := Lib.hid (below_next HBAq14.out hbq)
        have HOWwk := Lib.hid (HOW.out.next (Nat.le_refl _) hbq)
        clear hbq
        cases hsa : lastE X own with
        | true =>
         have HSA := Lib.hid hsa; clear hsa
         have HE := Lib.hid (HKA.out.err HL.out HXK.out (c := 43) (by rw [HXE.out]; unfold chkE; rw [if_neg (by rw [HC.out]; decide), if_neg (by rw [HIN.out]; decide), if_neg HP.out, HOWE.out, if_neg H7.out, if_pos HSA.out]) (by decide))
         go_wp2
         go_ret
         exact ⟨by rw [HE.out]; try rfl, HBwk.out⟩
        | false =>
         have HSA := Lib.hid hsa; clear hsa
         go_wp2_with fail
         go_loopw [7] (fun i wr => ∃ j : Nat, j ≤ X.length ∧ i = .int .i64 j ∧ Hid ((X.take j).any (clY y) = false) ∧ Hid (Below wk.heap.size wk wr)) (fun i _ => X.length - (intOf i).toNat)
         case atStart => exact ⟨0, Nat.zero_le _, rfl, Lib.hid rfl, Lib.hid (Below.refl _ _)⟩
         case round =>
          obtain ⟨j, hj, rfl, HCL, HBR2⟩ := hrel
          have hbr := HBR2.out
          have HSwr := Lib.hid (show wk.heap.size ≤ wr.heap.size from hbr.size)
          have HBwr := Lib.hid (HBwk.out.trans (hbr.mono HBwk.out.size))
          have twr := Lib.hid (twk.out.kept (grown_none hbr) (fun e => by cases e))
          have dwr := Lib.hid (dwk.out.kept (grown_none hbr) (fun e => by cases e))
          have HBAwr := Lib.hid (below_next HBAwk.out hbr)
          have HOWwr := Lib.hid (HOWwk.out.next (Nat.le_refl _) hbr)
          clear hbr
          by_cases hjl : j < X.length
          ·
           have i7 : (j : Int) < (X.length : Int) := by omega
           obtain ⟨b4, o4, he4, hb4, A4, c4, hok4, -, hcs4⟩ := (HXX.out.keep (HBwr.out.mono HB.out)).dev hjl
           cases he4
           have hxj : X[j]? = some X[j] := List.getElem?_eq_getElem hjl
           obtain ⟨x, hx⟩ : ∃ x, X[j]'hjl = x := ⟨_, rfl⟩
           rw [hx] at hcs4 hxj
           have HXJ := Lib.hid hxj; have HDC := Lib.hid (show DIn wr b3 (o3 + j * 10) x A4 c4 from ⟨hcs4, by have := HBwr.out.size; have := HB.out; omega⟩); have HXS := Lib.hid (HVX.out.small x (List.mem_of_getElem? hxj)).1
           clear hxj hok4 hx hcs4 hb4
           have HW := Lib.hid (Below.refl wr.heap.size wr)
           go_upto_region 22 with fail
           refine wp_region_held_drew (S := fun w' => BoxL w' wo.heap.size [.int .i64 y.idx, .int .i64 y.par, .string y.nm, .string y.orig, .string y.sub, .string y.drv, .string y.ali, .int .i64 y.kind, .int .i64 y.num, .slice A3 y.attrs.length c3] ∧ DIn w' b3 (o3 + j * 10) x A4 c4) (by kernel_rfl) ⟨dwr.out.drew, HDC.out.drew⟩ (fun hS0 => ?_)
           obtain ⟨wd2, hwd2⟩ : ∃ z, World.drew wr = z := ⟨_, rfl⟩
           rw [hwd2] at hS0 ⊢
           have hb_ : Below wr.heap.size wr wd2 := by rw [← hwd2]; exact below_drewN_self _ _ 1
           clear hwd2 hS0
           have HSwd2 := Lib.hid (show wr.heap.size ≤ wd2.heap.size from hb_.size)
           have HBwd2 := Lib.hid (HBwr.out.trans (hb_.mono HBwr.out.size))
           have twd2 := Lib.hid (twr.out.kept (grown_none hb_) (fun e => by cases e))
           have dwd2 := Lib.hid (dwr.out.kept (grown_none hb_) (fun e => by cases e))
           have HBAwd2 := Lib.hid (below_next HBAwr.out hb_)
           have HOWwd2 := Lib.hid (HOWwr.out.next (Nat.le_refl _) hb_)
           have HDCwd2 := Lib.hid (HDC.out.below hb_)
           have HWwd2 := Lib.hid (below_next HW.out hb_)
           clear hb_
           refine wpAnyH_take (i := 0) (oi := ⟨some 79, _, _, _, _, _⟩) (v := .slice (some ⟨b3, o3, none⟩) X.length c) rfl (by kernel_rfl) (by kernel_rfl) (by kernel_rfl) (fun _ _ _ h => h) (Or.inl ⟨by rfl, fun w' hS => by go_simp⟩) ⟨dwd2.out, HDCwd2.out⟩ ?_
           try simp only [Act.put, List.setIfInBounds_toArray, List.set_cons_zero, List.set_cons_succ]
           refine wpAnyH_take (i := 1) (oi := ⟨some 80, _, _, _, _, _⟩) (v := .int .i64 j) rfl (by kernel_rfl) (by kernel_rfl) (by kernel_rfl) (fun _ _ _ h => h) (Or.inl ⟨by rfl, fun w' hS => by go_simp⟩) ⟨dwd2.out, HDCwd2.out⟩ ?_
           try simp only [Act.put, List.setIfInBounds_toArray, List.set_cons_zero, List.set_cons_succ]
           refine wpAnyH_take (i := 2) (oi := ⟨some 81, _, _, _, _, _⟩) (v := .pointer (some ⟨b3, o3 + j * 10, none⟩)) rfl (by kernel_rfl) (by kernel_rfl) (by kernel_rfl) (fun _ _ _ h => h) (Or.inl ⟨by rfl, fun w' hS => by go_simp⟩) ⟨dwd2.out, HDCwd2.out⟩ ?_
           try simp only [Act.put, List.setIfInBounds_toArray, List.set_cons_zero, List.set_cons_succ]
           refine wpAnyH_take (i := 3) (oi := ⟨some 82, _, _, _, _, _⟩) (v := .agg #[.int .i64 x.idx, .int .i64 x.par, .string x.nm, .string x.orig, .string x.sub, .string x.drv, .string x.ali, .int .i64 x.kind, .int .i64 x.num, .slice A4 x.attrs.length c4]) rfl (by kernel_rfl) (by kernel_rfl) (by kernel_rfl) (fun _ _ _ h => h) (Or.inl ⟨by rfl, fun w' hS => by (obtain ⟨u0, u1, u2, u3, u4, u5, u6, u7, u8, u9⟩ := hS.2.1; go_simp)⟩) ⟨dwd2.out, HDCwd2.out⟩ ?_
           try simp only [Act.put, List.setIfInBounds_toArray, List.set_cons_zero, List.set_cons_succ]
           refine wpAnyH_take (i := 4) (oi := ⟨some 83, _, _, _, _, _⟩) (v := .agg #[.int .i64 y.idx, .int .i64 y.par, .string y.nm, .string y.orig, .string y.sub, .string y.drv, .string y.ali, .int .i64 y.kind, .int .i64 y.num, .slice A3 y.attrs.length c3]) rfl (by kernel_rfl) (by kernel_rfl) (by kernel_rfl) (fun _ _ _ h => h) (Or.inl ⟨by rfl, fun w' hS => by (have u0 := hS.1.1 0 _ rfl; have u1 := hS.1.1 1 _ rfl; have u2 := hS.1.1 2 _ rfl; have u3 := hS.1.1 3 _ rfl; have u4 := hS.1.1 4 _ rfl; have u5 := hS.1.1 5 _ rfl; have u6 := hS.1.1 6 _ rfl; have u7 := hS.1.1 7 _ rfl; have u8 := hS.1.1 8 _ rfl; have u9 := hS.1.1 9 _ rfl; go_simp)⟩) ⟨dwd2.out, HDCwd2.out⟩ ?_
           try simp only [Act.put, List.setIfInBounds_toArray, List.set_cons_zero, List.set_cons_succ]
           obtain ⟨q, hq⟩ : ∃ q, clashB x y = q := ⟨_, rfl⟩
           have HQ := Lib.hid hq; clear hq
           refine wpAnyH_ready (rs := [5]) (by kernel_rfl) (by simp) ?_
           refine AllReadyH.cons (o := ⟨some 84, .call ⟨_, _, _⟩, _, _, _, _⟩) rfl (fun K hK => ?_) AllReadyH.nil
           go_simp
           go_at_call 60
           refine (RClash_any x y A4 A3 c4 c3 wd2 (by have := HXS.out; omega) (by have := HDS.out; omega) (HOK.out.next HBwd2.out)).mono ?_
           rintro e' q5 ⟨rfl, hb_⟩
           have HSq5 := Lib.hid (show wd2.heap.size ≤ q5.heap.size from hb_.size)
           have HBq5 := Lib.hid (HBwd2.out.trans (hb_.mono HBwd2.out.size))
           have tq5 := Lib.hid (twd2.out.kept (grown_none hb_) (fun e => by cases e))
           have dq5 := Lib.hid (dwd2.out.kept (grown_none hb_) (fun e => by cases e))
           have HBAq5 := Lib.hid (below_next HBAwd2.out hb_)
           have HOWq5 := Lib.hid (HOWwd2.out.next (Nat.le_refl _) hb_)
           have HDCq5 := Lib.hid (HDCwd2.out.below hb_)
           have HWq5 := Lib.hid (below_next HWwd2.out hb_)
           rw [HQ.out]
           clear hb_
           refine hK.out _ _ ⟨dq5.out, HDCq5.out⟩ (fun _ => ?_)
           clear hK K
           try simp only [Act.put, List.setIfInBounds_toArray, List.set_cons_zero, List.set_cons_succ]
           refine wpAnyH_done (by kernel_rfl) ?_ _
           cases q with
           | true =>
            have HE := Lib.hid (HKA.out.err HL.out HXK.out (c := 44) (by rw [HXE.out]; unfold chkE; rw [if_neg (by rw [HC.out]; decide), if_neg (by rw [HIN.out]; decide), if_neg HP.out, HOWE.out, if_neg H7.out, if_neg (by rw [HSA.out]; decide), if_pos (any_stop (p := fun t => clashB t y) HXJ.out HQ.out)]) (by decide))
            go_wp2
            go_ret
            exact ⟨by rw [HE.out]; try rfl, HBq5.out⟩
           | false =>
            have HCLn := Lib.hid (any_take_step HCL.out HXJ.out (show clY y x = false from HQ.out))
            have HBQ := Lib.hid (show Below wk.heap.size wk q5 from below_next HBR2.out HWq5.out)
            go_wp2
            go_roundw
            case rel => exact ⟨j + 1, by omega, by go_num, HCLn, HBQ⟩
            case measure => simp [intOf]; omega
          ·
           have i7 : ¬ (j : Int) < (X.length : Int) := by omega
           obtain rfl : j = X.length := by omega
           have hall := HCL.out
           rw [List.take_length] at hall
           have HKN := Lib.hid (HKA.out.next HL.out HXK.out (by rw [HXE.out]; unfold chkE; rw [if_neg (by rw [HC.out]; decide), if_neg (by rw [HIN.out]; decide), if_neg HP.out, HOWE.out, if_neg H7.out, if_neg (by rw [HSA.out]; decide), if_neg (by have h : X.any (fun t => clashB t y) = false := hall; rw [h]; decide)]))
           clear hall
           have HBN := Lib.hid (show Below w1.heap.size w1 wr from HBAwr.out)
           go_wp2
           go_roundw
           case rel => exact ⟨X.length + 1, by omega, by go_num, HKN, HBN⟩
           case measure => simp [intOf]; omega
    ·
     have ec : (checkD y != 0) = true := by simpa using hc
     have HC := Lib.hid hc; clear hc
     have HE := Lib.hid (HKA.out.err HL.out HXK.out (c := 41) (by rw [HXE.out]; unfold chkE; rw [if_pos HC.out]) (by decide))
     go_wp2
     go_ret
     exact ⟨by rw [HE.out]; try rfl, HBw4.out⟩
   ·
    have i1 : ¬ (k : Int) < (L.length : Int) := by omega
    obtain rfl : k = L.length := by omega
    have HE := Lib.hid (HKA.out.end_ HL.out)
    go_wp2
    go_ret
    exact ⟨by rw [HE.out]; try rfl, HBwo.out⟩
end Go.Proofs.YtidhbckalcjdpaaGreatDoor
