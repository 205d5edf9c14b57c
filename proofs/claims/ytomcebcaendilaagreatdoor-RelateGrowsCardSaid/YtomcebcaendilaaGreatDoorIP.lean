/-
  Regions that draw their order, in a fenced walk (of a function or of a round), with one condition on the world that is kept: the operations that yield the same in every such world are taken first. No program is named here.
-/
import Derived.OrdersIn
import Derived.OwnWalkIn
import Derived.OrdersHeld
import Derived.Deep.RegionHeld
import Derived.Test.YtomcebcaendilaaGreatDoorIL
import Derived.Test.YtomcebcaendilaaGreatDoorIO
import Derived.Maps.OwnIn
import Derived.Test.YtomcebcaendilaaGreatDoorIW
set_option linter.unusedSimpArgs false
set_option linter.unusedVariables false
namespace Go
section
variable {F : Fence} {n : Nat} {P : Program} {ops : Array Oper} {Q : Exit → Act → World → Prop} {md : Region.Mode} {S : World → Prop} {late : Nat → Bool}
end
end Go
namespace Go.Cold
open Go Go.RowKit
section
variable {α : Type} [El α] {P : Program} {k e : TypeId} {w : World} {b n : Nat} {f : Int → Option α} {F : Fence} {nF : Nat}
/-- 'm[i] = a' in a fenced walk. -/
theorem wpListIn_put {ops : Array Oper} {rest : List Oper} {o : Oper} {a : Act} {Q : Exit → Act → World → Prop}
  (hg : o.guard = none) (m x v : Operand) (t : TypeId) (hop : o.op = Op.mapUpdate t m x v) (h : MapV P k e w b n f) (ht : P.underlying t = some (.map k e)) (hk : P.underlying k = some (.int .i64)) (he : P.underlying e = some (El.desc (α := α)))
  (hm : a.eval m = .map (some b)) (i : Int) (c : α) (hi : okI i) (hc : El.ok c) (hn : n < maxLen) (hx : a.eval x = .int .i64 i) (hv : a.eval v = El.val c)
  (hK : ∀ w', MapV P k e w' b (n + 1) (updF f i c) → w.grownBy w' (some b) → wpListIn F nF P ops Q rest (a.put o.dst undef) w') : wpListIn F nF P ops Q (o :: rest) a w := by
 obtain ⟨D, h1, h2⟩ := h
 refine wpListIn_mapUpdate_own w hg m x v t hop k e (Maps.int_keyed hk) ht _ b n D hm h1 hn _ _ (.int .i64 i) hx hv (Maps.keyOf_int_mk hk (wf_i64.2 hi)) _ [] (El.rd he hc) (fun w' r1 r2 => hK w' ⟨_, r1, fun j hj => ?_⟩ r2)
 have hM := h1.isMap
 have hK1 : WideAt.IsKeyLit (.int .i64 i) := (Maps.int_keyed hk).key (Maps.keyOf_int_mk hk (wf_i64.2 hi))
 unfold updF
 by_cases hji : j = i
 ·
  subst hji
  rw [if_pos rfl]
  exact ⟨Maps.has_put_same hM hK1 _, (fun z a ha => by obtain rfl := Option.some.inj ha; exact Maps.atKey_put_same hM hK1 _ z), (fun z h => by cases h)⟩
 ·
  rw [if_neg hji]
  have hne : (Lit.int .i64 j : Lit) ≠ .int .i64 i := fun h => hji (by injection h)
  obtain ⟨e1, e2, e3⟩ := h2 j hj
  exact ⟨(Maps.has_put_other hne _).trans e1, fun z a ha => (Maps.atKey_put_other hne _ z).trans (e2 z a ha), fun z hz => (Maps.atKey_put_other hne _ z).trans (e3 z hz)⟩
end
/-- Which numbers are in. -/
def insF (ins : List Int) (n : Int) : Option Bool := if n ∈ ins then some true else none
theorem insF_get (ins : List Int) (n : Int) : (insF ins n).getD false = decide (n ∈ ins) := by unfold insF; by_cases h : n ∈ ins <;> simp [h]
theorem insF_put (ins : List Int) (i : Int) : updF (insF ins) i true = insF (i :: ins) := by
 funext n
 unfold updF insF
 by_cases h : n = i
 · subst h; simp
 · rw [if_neg h]; simp [h]
/-- Where subtree's iterator stands: the tree's box gt, the index's box gi, its map bm. -/
def SuSt (P : Program) (tI tB : TypeId) (gt gi bm : Nat) (A : Option Addr) (c N B : Nat) (L : List Dev) (idx : Int) (ins : List Int) (W : World) : Prop :=
 BoxL W gt [.slice A L.length c] ∧ BoxL W gi [.int .i64 idx] ∧ MapV P tI tB W bm N (insF ins) ∧ Sl W B A c L ∧ B ≤ W.heap.size
def suZ (gt gi bm B : Nat) (k : Nat) : Prop := k < B ∨ k = gt ∨ k = gi ∨ k = bm
section
variable {P : Program} {tI tB : TypeId} {gt gi bm c N B : Nat} {A : Option Addr} {L : List Dev} {idx : Int} {ins : List Int} {W W' : World}
theorem SuSt.below (h : SuSt P tI tB gt gi bm A c N B L idx ins W) (hb : Below W.heap.size W W') : SuSt P tI tB gt gi bm A c N B L idx ins W' := by
 obtain ⟨h1, h2, h3, h4, h5⟩ := h
 exact ⟨h1.kept (grown_none hb) (fun e => by cases e), h2.kept (grown_none hb) (fun e => by cases e), h3.next hb, h4.keep (hb.mono h5), Nat.le_trans h5 hb.size⟩
theorem SuSt.kpz {Z : Nat → Prop} (h : SuSt P tI tB gt gi bm A c N B L idx ins W) (hk : KpZ Z W W') (hz : ∀ k, suZ gt gi bm B k → Z k) : SuSt P tI tB gt gi bm A c N B L idx ins W' := by
 obtain ⟨h1, h2, h3, h4, h5⟩ := h
 exact ⟨h1.kpz hk (hz _ (.inr (.inl rfl))), h2.kpz hk (hz _ (.inr (.inr (.inl rfl)))), h3.kpz hk (hz _ (.inr (.inr (.inr rfl)))), h4.kpz hk h5 (fun k hkb => hz _ (.inl hkb)), Nat.le_trans h5 hk.1⟩
end
end Go.Cold
namespace Go.Proofs.YtomcebcaendilaaGreatDoor
open Go.RowKit Go.Cold Go.Shelf
attribute [local go_sem] Oper.semAt_some
theorem info_bool2 : (Tryz.prog.info? 4).map (fun i => (i.zero, i.size)) = some (some (.bool false), 1) := by kernel_rfl
theorem zero_bool (w : World) : (zeroValue 4).run Tryz.prog w = .ok (El.val (El.zero : Bool)) w := (zero_of_info info_bool2).1 w
theorem look_in {w : World} {b n : Nat} {ins : List Int} (h : MapV Tryz.prog 3 4 w b n (insF ins)) {i : Int} (hi : okI i) : (Instr.lookup 79 (.map (some b)) (.int .i64 i) false).run Tryz.prog w = .ok (.bool (decide (i ∈ ins))) w := by
 have h2 := h.look Tryz.underlying79 Tryz.underlying3 Tryz.underlying4 (zero_bool w) hi
 rw [← insF_get]
 exact h2
set_option maxRecDepth 100000 in
set_option maxHeartbeats 4000000 in
/-- The iterator of subtree: a device and all below it. -/
theorem subtree1_seq (n gt gi : Nat) (A : Option Addr) (c B : Nat) (L : List Dev) (idx : Int) (w : World) (hB : B ≤ w.heap.size) (ht : BoxL w gt [.slice A L.length c]) (hi : BoxL w gi [.int .i64 idx]) (hsl : Sl w B A c L) (hu : (idxs L).Nodup) (hlen : L.length ≤ 1000) (hk : B ≤ gt ∧ B ≤ gi) :
  SeqT Fence.wide n Tryz.prog 87 #[.pointer (some ⟨gt, 0, none⟩), .pointer (some ⟨gi, 0, none⟩)] (fun x => #[encV x]) (fun xs => xs.map (·.1) = subGo idx L []) (nxX B (subGo idx L [])) (fun k => k = w.heap.size + 2) (suZ gt gi (w.heap.size + 2) B) w := fun l JJ W hW hsz hA hY h0 => by
 refine callsIn_of_wp Tryz.func87 rfl trivial ?_ rfl
 simp only [Tryz.ntmps87, List.size_toArray, List.length_cons, List.length_nil, Nat.reduceAdd, Nat.reduceSub, Array.replicate_succ, Array.replicate_zero, List.push_toArray, List.append_toArray, List.nil_append, List.cons_append]
 have HU := Lib.hid hu; have HA := Lib.hid hA; have HY := Lib.hid hY; have HK := Lib.hid hk; have HLN := Lib.hid hlen; have HJ := Lib.hid h0
 have hx2 := hsl.2.1; have hx1 := hsl.1
 unfold maxLen at hx2
 have HT := Lib.hid (ht.kept (grown_none hW) (fun e => by cases e)); have HI := Lib.hid (hi.kept (grown_none hW) (fun e => by cases e)); have HSL := Lib.hid (hsl.keep (hW.mono hB)); have HLT := Lib.hid (show (gt < w.heap.size ∧ gi < w.heap.size) ∧ B ≤ w.heap.size from ⟨⟨ht.2.2, hi.2.2⟩, hB⟩); have HWS := Lib.hid (show B ≤ W.heap.size from Nat.le_trans hB hW.size)
 obtain ⟨w1, hw1⟩ : ∃ z, W.alloc (.map #[] 0) = z := ⟨_, rfl⟩
 have hb1 : Below W.heap.size W w1 := by rw [← hw1]; exact (Below.refl _ _).alloc (Nat.le_refl _) _
 have hm1 : MapV Tryz.prog 3 4 w1 W.heap.size 0 (fun _ => (none : Option Bool)) := by rw [← hw1]; exact MapV.made W _ _ _
 rw [hsz] at hm1
 have HST := Lib.hid (show SuSt Tryz.prog 3 4 gt gi (w.heap.size + 2) A c 0 B L idx [] w1 from ⟨HT.out.kept (grown_none hb1) (fun e => by cases e), HI.out.kept (grown_none hb1) (fun e => by cases e), hm1.congr (fun _ _ => rfl), HSL.out.keep (hb1.mono HWS.out), Nat.le_trans HWS.out hb1.size⟩)
 have HJ1 := Lib.hid (HA.out _ _ _ _ HJ.out (.inl hb1)); have HS1 := Lib.hid (show W.heap.size ≤ w1.heap.size from hb1.size)
 have hmk1 := fun z => run_makeMap (P := Tryz.prog) 79 z
 have t0 := HST.out.1.1 0 _ rfl
 clear hu hA hY hk hlen h0 ht hi hsl hB hb1 hm1 HT HI HSL
 gi_wp2
 clear t0 hmk1
 gi_loopw [11] (fun i wr => ∃ (k : Nat) (pre : List DevX) (ins : List Int) (M : Nat), k ≤ L.length ∧ i = .int .i64 k ∧ Hid (pre.map (·.1) ++ subGo idx (L.drop k) ins = subGo idx L []) ∧ Hid (JJ pre M wr) ∧ Hid (M ≤ wr.heap.size) ∧ Hid (W.heap.size ≤ wr.heap.size) ∧ Hid (SuSt Tryz.prog 3 4 gt gi (w.heap.size + 2) A c k B L idx ins wr)) (fun i _ => L.length - (intOf i).toNat)
 case atStart => exact ⟨0, [], [], W.heap.size, Nat.zero_le _, rfl, Lib.hid rfl, HJ1, HS1, HS1, HST⟩
 case round =>
  clear HST HJ1 HS1
  obtain ⟨k, pre, ins, M, hk, rfl, HSP, HJW, HMW, HWW, HST⟩ := hrel
  by_cases hlt : k < L.length
  ·
   have i1 : (k : Int) < (L.length : Int) := by omega
   obtain ⟨b3, o3, rfl, hb3, A3, c3, hok3, hat3, hcs3⟩ := HST.out.2.2.2.1.dev hlt
   obtain ⟨y, hy0⟩ : ∃ y, L[k]'hlt = y := ⟨_, rfl⟩
   have hdr : L.drop k = y :: L.drop (k + 1) := by rw [List.drop_eq_getElem_cons hlt, hy0]
   rw [hy0] at hok3 hcs3 hat3
   have hsp := HSP.out
   rw [hdr, subGo] at hsp
   have HSP2 := Lib.hid hsp; have HOK3 := Lib.hid hok3; have HAT := Lib.hid hat3
   obtain ⟨z0, z1, z2, z3, z4, z5, z6, z7, z8, z9⟩ := hcs3
   clear hsp hdr hy0 hok3 hat3 hb3 HSP
   obtain ⟨w4, hw4⟩ : ∃ z, wr.alloc (.cells #[.int .i64 y.idx, .int .i64 y.par, .string y.nm, .string y.orig, .string y.sub, .string y.drv, .string y.ali, .int .i64 y.kind, .int .i64 y.num, .slice A3 y.attrs.length c3] 34) = z := ⟨_, rfl⟩
   have hb4 : Below wr.heap.size wr w4 := by rw [← hw4]; exact (Below.refl _ _).alloc (Nat.le_refl _) _
   have HX4 := Lib.hid (show BoxL w4 wr.heap.size [.int .i64 y.idx, .int .i64 y.par, .string y.nm, .string y.orig, .string y.sub, .string y.drv, .string y.ali, .int .i64 y.kind, .int .i64 y.num, .slice A3 y.attrs.length c3] from box_mk hw4)
   have HST4 := Lib.hid (HST.out.below hb4); have HJ4 := Lib.hid (HA.out _ _ _ _ HJW.out (.inl hb4)); have HS4 := Lib.hid hb4.size; have HAT4 := Lib.hid (HAT.out.keep (hb4.mono HST.out.2.2.2.2))
   clear hb4
   have y0 := HX4.out.1 0 _ rfl; have y1 := HX4.out.1 1 _ rfl; have x0 := HST4.out.2.1.1 0 _ rfl
   have hlk := look_in HST4.out.2.2.1 HOK3.out.2.1
   obtain ⟨q, hq⟩ : ∃ q, decide (y.par ∈ ins) = q := ⟨_, rfl⟩
   rw [hq] at hlk
   have HQ := Lib.hid hq; clear hq
   by_cases hin : y.idx = idx ∨ y.par ∈ ins
   ·
    have HSP3 := Lib.hid (show (pre ++ [(y, A3, c3)]).map (·.1) ++ subGo idx (L.drop (k + 1)) (y.idx :: ins) = subGo idx L [] by have h := HSP2.out; rw [if_pos hin] at h; rw [List.map_append, List.append_assoc]; exact h)
    have HDUE := Lib.hid (show ∃ t, pre.map (·.1) ++ y :: t = subGo idx L [] from ⟨_, by have h := HSP2.out; rw [if_pos hin] at h; exact h⟩)
    have HIN := Lib.hid hin; clear hin
    have HNB := Lib.hid (show gt ≠ w.heap.size + 2 ∧ gi ≠ w.heap.size + 2 ∧ wr.heap.size ≠ w.heap.size + 2 by have h1 := HLT.out; have h2 := HST.out.2.2.1.lt; omega)
    have HKM := Lib.hid (show k < maxLen by have := HLN.out; unfold maxLen; omega)
    by_cases he : y.idx = idx
    ·
     have en : (y.idx != idx) = false := by rw [he]; simp
     clear he
     gi_wp2_with (gi_at_mapUpdate; refine wpListIn_put rfl _ _ _ _ rfl HST4.out.2.2.1 Tryz.underlying79 Tryz.underlying3 Tryz.underlying4 rfl y.idx true HOK3.out.1 trivial HKM.out rfl rfl ?_; intro w5 hm_ hg_; have HST5 := Lib.hid (show SuSt Tryz.prog 3 4 gt gi (w.heap.size + 2) (some ⟨b3, o3, none⟩) c (k + 1) B L idx (y.idx :: ins) w5 from ⟨HST4.out.1.kept hg_ (fun e => HNB.out.1 (Option.some.inj e)), HST4.out.2.1.kept hg_ (fun e => HNB.out.2.1 (Option.some.inj e)), by rw [← insF_put]; exact hm_, SlS_iff.2 ((SlS_iff.1 HST4.out.2.2.2.1).tape hg_ (fun x (hx : x < B) => by have := HLT.out; omega)), Nat.le_trans HST4.out.2.2.2.2 hg_.size⟩); have HX5 := Lib.hid (HX4.out.kept hg_ (fun e => HNB.out.2.2 (Option.some.inj e))); have HJ5 := Lib.hid (HA.out _ _ _ _ HJ4.out (.inr ⟨_, rfl, hg_⟩)); have HNX := Lib.hid (show nxX B (subGo idx L []) pre (y, A3, c3) w5 from ⟨HDUE.out, HOK3.out, SlS_iff.2 ((SlS_iff.1 HAT4.out).tape hg_ (fun x (hx : x < B) => by have := HLT.out; omega))⟩); have HS5 := Lib.hid (show w4.heap.size ≤ w5.heap.size from hg_.size); obtain ⟨fn', tmps', assign', body', hy, hR⟩ := HY.out pre (y, A3, c3) M w5 HJ5.out (by have := HMW.out; have := HS4.out; have := HS5.out; omega) HNX.out; dsimp only [encV] at hy; have HR := Lib.hid hR; clear hR hm_ hg_ hlk y0 y1 x0; have v0 := HX5.out.1 0 _ rfl; have v1 := HX5.out.1 1 _ rfl; have v2 := HX5.out.1 2 _ rfl; have v3 := HX5.out.1 3 _ rfl; have v4 := HX5.out.1 4 _ rfl; have v5 := HX5.out.1 5 _ rfl; have v6 := HX5.out.1 6 _ rfl; have v7 := HX5.out.1 7 _ rfl; have v8 := HX5.out.1 8 _ rfl; have v9 := HX5.out.1 9 _ rfl)
     refine ⟨(fun h => by cases h), ?_⟩
     refine HR.out.mono ?_
     rintro e w6 ⟨rfl, hj6, hk6⟩
     have HST6 := Lib.hid (HST5.out.kpz hk6 (fun k hk => .inl hk)); have HJ6 := Lib.hid hj6; have HS6 := Lib.hid (show W.heap.size ≤ w6.heap.size by have := HWW.out; have := HS4.out; have := HS5.out; have := hk6.1; omega)
     clear hj6 hk6 hy v0 v1 v2 v3 v4 v5 v6 v7 v8 v9
     gi_wp2
     go_roundw
     case rel => exact ⟨k + 1, pre ++ [(y, A3, c3)], y.idx :: ins, w6.heap.size, by omega, by go_num, HSP3, HJ6, Lib.hid (Nat.le_refl _), HS6, HST6⟩
     case measure => simp [intOf]; omega
    ·
     have en : (y.idx != idx) = true := by simpa using he
     obtain rfl : q = true := by rw [← HQ.out]; exact decide_eq_true (HIN.out.resolve_left he)
     clear he
     gi_wp2_with (gi_at_mapUpdate; refine wpListIn_put rfl _ _ _ _ rfl HST4.out.2.2.1 Tryz.underlying79 Tryz.underlying3 Tryz.underlying4 rfl y.idx true HOK3.out.1 trivial HKM.out rfl rfl ?_; intro w5 hm_ hg_; have HST5 := Lib.hid (show SuSt Tryz.prog 3 4 gt gi (w.heap.size + 2) (some ⟨b3, o3, none⟩) c (k + 1) B L idx (y.idx :: ins) w5 from ⟨HST4.out.1.kept hg_ (fun e => HNB.out.1 (Option.some.inj e)), HST4.out.2.1.kept hg_ (fun e => HNB.out.2.1 (Option.some.inj e)), by rw [← insF_put]; exact hm_, SlS_iff.2 ((SlS_iff.1 HST4.out.2.2.2.1).tape hg_ (fun x (hx : x < B) => by have := HLT.out; omega)), Nat.le_trans HST4.out.2.2.2.2 hg_.size⟩); have HX5 := Lib.hid (HX4.out.kept hg_ (fun e => HNB.out.2.2 (Option.some.inj e))); have HJ5 := Lib.hid (HA.out _ _ _ _ HJ4.out (.inr ⟨_, rfl, hg_⟩)); have HNX := Lib.hid (show nxX B (subGo idx L []) pre (y, A3, c3) w5 from ⟨HDUE.out, HOK3.out, SlS_iff.2 ((SlS_iff.1 HAT4.out).tape hg_ (fun x (hx : x < B) => by have := HLT.out; omega))⟩); have HS5 := Lib.hid (show w4.heap.size ≤ w5.heap.size from hg_.size); obtain ⟨fn', tmps', assign', body', hy, hR⟩ := HY.out pre (y, A3, c3) M w5 HJ5.out (by have := HMW.out; have := HS4.out; have := HS5.out; omega) HNX.out; dsimp only [encV] at hy; have HR := Lib.hid hR; clear hR hm_ hg_ hlk y0 y1 x0; have v0 := HX5.out.1 0 _ rfl; have v1 := HX5.out.1 1 _ rfl; have v2 := HX5.out.1 2 _ rfl; have v3 := HX5.out.1 3 _ rfl; have v4 := HX5.out.1 4 _ rfl; have v5 := HX5.out.1 5 _ rfl; have v6 := HX5.out.1 6 _ rfl; have v7 := HX5.out.1 7 _ rfl; have v8 := HX5.out.1 8 _ rfl; have v9 := HX5.out.1 9 _ rfl)
     refine ⟨(fun h => by cases h), ?_⟩
     refine HR.out.mono ?_
     rintro e w6 ⟨rfl, hj6, hk6⟩
     have HST6 := Lib.hid (HST5.out.kpz hk6 (fun k hk => .inl hk)); have HJ6 := Lib.hid hj6; have HS6 := Lib.hid (show W.heap.size ≤ w6.heap.size by have := HWW.out; have := HS4.out; have := HS5.out; have := hk6.1; omega)
     clear hj6 hk6 hy v0 v1 v2 v3 v4 v5 v6 v7 v8 v9
     gi_wp2
     go_roundw
     case rel => exact ⟨k + 1, pre ++ [(y, A3, c3)], y.idx :: ins, w6.heap.size, by omega, by go_num, HSP3, HJ6, Lib.hid (Nat.le_refl _), HS6, HST6⟩
     case measure => simp [intOf]; omega
   ·
    have HSP3 := Lib.hid (show pre.map (·.1) ++ subGo idx (L.drop (k + 1)) ins = subGo idx L [] by have h := HSP2.out; rw [if_neg hin] at h; exact h)
    have en : (y.idx != idx) = true := by simpa using (fun h => hin (.inl h))
    obtain rfl : q = false := by rw [← HQ.out]; exact decide_eq_false (fun h => hin (.inr h))
    clear hin
    gi_wp2
    go_roundw
    case rel => exact ⟨k + 1, pre, ins, M, by omega, by go_num, HSP3, HJ4, Lib.hid (Nat.le_trans HMW.out HS4.out), Lib.hid (Nat.le_trans HWW.out HS4.out), Lib.hid ⟨HST4.out.1, HST4.out.2.1, HST4.out.2.2.1.mono (Nat.le_succ _), HST4.out.2.2.2⟩⟩
    case measure => simp [intOf]; omega
  ·
   have i1 : ¬ (k : Int) < (L.length : Int) := by omega
   have HFIN := Lib.hid (show pre.map (·.1) = subGo idx L [] by have h := HSP.out; rw [List.drop_of_length_le (by omega), subGo, List.append_nil] at h; exact h)
   gi_wp2
   go_end0
   exact ⟨⟨_, rfl⟩, pre, HFIN.out, M, HJW.out⟩
end Go.Proofs.YtomcebcaendilaaGreatDoor
namespace Go.Cold
open Go Go.RowKit
section
variable {P : Program} {F : Fence} {n : Nat} {bytes : Nat} {TS : TypeId} {ops : Array Oper} {o : Oper} {a : Act} {Q : Exit → Act → World → Prop} {w : World}
end
/-- A region that does not panic. -/
def nOnly (K : Act → World → Prop) : Exit → Act → World → Prop
 | .normal, a, w => K a w
 | _, _, _ => False
theorem wp_nopanic {P : Program} {c : Code} {Q : Exit → Act → World → Prop} {a : Act} {w : World} (h : c.wp P (nOnly (Q .normal)) a w) : c.wp P Q a w :=
 wp_mono h (fun e a w hq => by cases e <;> first | exact hq | exact hq.elim)
theorem attrs_le {d : Dev} (h : checkD d = 0) : d.attrs.length ≤ 1000000 := by
 rw [checkD_eq] at h
 by_cases h1 : rangeB d <;> by_cases h2 : namedB d <;> by_cases h3 : kindB d <;> by_cases h4 : numberB d <;> by_cases h5 : d.attrs.length ≤ 24 <;> simp_all
 all_goals omega
end Go.Cold
namespace Go.Proofs.YtomcebcaendilaaGreatDoor
open Go.RowKit Go.Cold Go.Shelf
attribute [local go_sem] Oper.semAt_some
/-- tree.subtree: the iterator's value. -/
theorem subtree_any (x : Value) (n : Int) (w : World) : Calls Tryz.prog 53 #[.agg #[x], .int .i64 n] w fun e w' => e = .returned (.func (.func 87) #[] #[.pointer (some ⟨w.heap.size, 0, none⟩), .pointer (some ⟨w.heap.size + 1, 0, none⟩)]) ∧ w' = (w.alloc (.cells #[x] 27)).alloc (.cells #[.int .i64 n] 3) := by
 go_enter Tryz.func53, Tryz.ntmps53
 go_wp2
 go_ret
 exact ⟨rfl, rfl⟩
end Go.Proofs.YtomcebcaendilaaGreatDoor
