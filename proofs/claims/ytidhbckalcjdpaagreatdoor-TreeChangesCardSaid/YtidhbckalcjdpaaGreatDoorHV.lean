/-
  The walk of package tree's Remove.
-/
import Derived.Test.YtidhbckalcjdpaaGreatDoorHS
import Derived.Test.YtidhbckalcjdpaaGreatDoorHU
import Derived.Test.YtidhbckalcjdpaaGreatDoorHP
set_option linter.unusedSimpArgs false
set_option linter.unusedVariables false
namespace Go.Cold
open Go Go.RowKit
theorem grown_far {a b c : World} {g k : Nat} (h : a.grownBy b (some g)) (hk : b.grownBy c (some k)) (hl : a.heap.size ≤ k) : a.grownBy c (some g) := by
 obtain ⟨h1, h2, h3, h4, h5⟩ := h
 obtain ⟨k1, k2, k3, k4, k5⟩ := hk
 exact ⟨k1.trans h1, k2.trans h2, k3.trans h3, Nat.le_trans h4 k4, fun i hi hne => (k5 i (by omega) (fun e => by have := Option.some.inj e; omega)).trans (h5 i hi hne)⟩
section
variable {P : Program} {tI tB : TypeId} {base X Y : World} {bg : Nat}
/-- What the range of Remove keeps: its map holds the numbers met; nothing else of the caller's is written. -/
def GoneJ (P : Program) (tI tB : TypeId) (base : World) (bg : Nat) (pre : List DevX) (_ : Nat) (W : World) : Prop :=
 base.grownBy W (some bg) ∧ bg < base.heap.size ∧ MapV P tI tB W bg pre.length (insF (pre.map (fun x => x.1.idx)).reverse)
theorem GoneJ.far {pre : List DevX} {N k : Nat} (h : GoneJ P tI tB base bg pre N X) (hg : X.grownBy Y (some k)) (hl : base.heap.size ≤ k) : GoneJ P tI tB base bg pre N Y := by
 obtain ⟨h1, h2, h3⟩ := h
 exact ⟨grown_far h1 hg hl, h2, h3.kept hg (fun e => by have := Option.some.inj e; omega)⟩
theorem GoneJ.abid {k0 : Nat} (h1 : base.heap.size ≤ k0) : Abid (fun k => k = k0) (GoneJ P tI tB base bg) := fun pre N X Y h hst => by
 rcases hst with hb | ⟨k, rfl, hg⟩
 ·
  obtain ⟨a1, a2, a3⟩ := h
  exact ⟨grown_seq a1 (grown_wide (grown_none hb)), a2, a3.next hb⟩
 · exact h.far hg h1
theorem GoneJ.putl {l : Nat} (h1 : base.heap.size ≤ l) : ∀ pre N X o, GoneJ P tI tB base bg pre N X → GoneJ P tI tB base bg pre N (X.putObj l o) := fun pre N X o h => h.far (grownBy_putObj' X l o) h1
theorem GoneJ.round {pre : List DevX} {x : DevX} {N l D : Nat} {Z : Nat → Prop} {W W' : World} {a : Act} (h : GoneJ P tI tB base bg pre N W) (hg : W.grownBy W' (some bg)) (hm : MapV P tI tB W' bg (pre.length + 1) (updF (insF (pre.map (fun x => x.1.idx)).reverse) x.1.idx true))
  (hZ : ¬ Z bg) (hN : bg < N) (hl : bg ≠ l ∧ bg ≠ D) (hlt : l < W.heap.size ∧ D < W.heap.size) : roundP (GoneJ P tI tB base bg) Z l D (pre ++ [x]) N W .normal a W' := by
 obtain ⟨h1, h2, h3⟩ := h
 refine ⟨⟨grown_seq h1 hg, h2, ?_⟩, KpZ.grown hg (fun hz => hz.elim hZ (fun h => by omega)), hg.block l hlt.1 (fun e => hl.1 (Option.some.inj e).symm), hg.block D hlt.2 (fun e => hl.2 (Option.some.inj e).symm)⟩
 rw [insF_put] at hm
 rw [List.length_append, List.map_append, List.reverse_append]
 exact hm
end
section
variable {α : Type} [El α] {P : Program} {k e t : TypeId} {w : World} {b n : Nat} {f : Int → Option α} {ops : Array Oper} {rest : List Oper} {o : Oper} {a : Act} {Q : Exit → Act → World → Prop}
/-- 'len(m)' in a walk. -/
theorem wpList_lenV (h : MapV P k e w b n f) (ht : P.underlying t = some (.map k e)) (hg : o.guard = none) (m : Operand) (hop : o.op = Op.call { callee := Callee.builtin Builtin.len, args := #[m], argTypes := #[t] }) (hm : a.eval m = .map (some b))
  (hK : ∀ m : Nat, m ≤ n → (m = 0 → ∀ i, okI i → f i = none) → wpList P ops Q rest (a.put o.dst (.int .i64 m)) w) : wpList P ops Q (o :: rest) a w := by
 refine wpList_plain hg fun K' hK' => ?_
 obtain ⟨z, hr, hz1, hz2, -⟩ := h.len_pos ht o.type
 unfold Oper.wp
 simp [execOp, hop, resolve, invoke, builtin, hm, hr, Result.andThen]
 exact hK' _ _ (hK z hz1 hz2)
end
theorem gone_mem {L : List Dev} {n : Int} {d : Dev} (hd : d ∈ L) (ins : List Int) (hi : ∀ k, k ∈ ins ↔ k ∈ idxs (subR L n)) : decide (d.idx ∈ ins) = belowR L n d.idx := by
 rw [Bool.eq_iff_iff, decide_eq_true_eq, hi]
 constructor
 ·
  intro h
  obtain ⟨e, he, hei⟩ := List.mem_map.1 h
  have := (List.mem_filter.1 he).2
  rw [hei] at this; exact this
 ·
  intro h
  exact mem_idxs (List.mem_filter.2 ⟨hd, h⟩)
theorem rem_filter {L : List Dev} {n : Int} (ins : List Int) (hi : ∀ k, k ∈ ins ↔ k ∈ idxs (subR L n)) : (L.filter fun d => !decide (d.idx ∈ ins)) = remL L n := by
 unfold remL
 exact List.filter_congr fun d hd => by rw [gone_mem hd ins hi]
theorem sub_some {L : List Dev} {n : Int} (h : WF L) (hn : n ∈ idxs L) : n ∈ idxs (subR L n) := by
 obtain ⟨d, hd, rfl⟩ := List.mem_map.1 hn
 refine mem_idxs (List.mem_filter.2 ⟨hd, ?_⟩)
 rw [below_cons h hd]; simp
theorem sub_nil {L : List Dev} {n : Int} (h : WF L) (hn : n ∉ idxs L) : subR L n = [] := by
 unfold subR
 rw [List.filter_eq_nil_iff]
 intro d hd hb
 unfold belowR at hb
 rw [List.any_eq_true] at hb
 obtain ⟨e, he, h1⟩ := hb
 have := chain_mem L _ _ e he
 exact hn (of_decide_eq_true h1 ▸ mem_idxs this)
end Go.Cold
namespace Go.Proofs.YtidhbckalcjdpaaGreatDoor
open Go.RowKit Go.Cold Go.Shelf
attribute [local go_sem] Oper.semAt_some
set_option maxRecDepth 100000 in
theorem remove1_pred (g bg N B : Nat) (ins : List Int) (w : World) (hv : BoxL w g [.map (some bg)]) (hm : MapV Tryz.prog 3 4 w bg N (insF ins)) :
  PredD 83 #[.pointer (some ⟨g, 0, none⟩)] w B (fun _ => True) (fun d => decide (d.idx ∈ ins)) := by
 refine ⟨enters_of Tryz.func83 (by kernel_rfl) rfl, fun x A2 c2 W hxo hat hq hW => ?_⟩
 have HO := Lib.hid hxo; have HV := Lib.hid (hv.kept (grown_none hW) (fun e => by cases e)); have HM := Lib.hid (hm.next hW); clear hxo hat hq hW hv hm
 go_enter Tryz.func83, Tryz.ntmps83
 go_upto_region 1 with fail
 obtain ⟨w1, hw1⟩ : ∃ w1, W.alloc (.cells #[.int .i64 x.idx, .int .i64 x.par, .string x.nm, .string x.orig, .string x.sub, .string x.drv, .string x.ali, .int .i64 x.kind, .int .i64 x.num, .slice A2 x.attrs.length c2] 34) = w1 := ⟨_, rfl⟩
 have hbw1 : Below W.heap.size W w1 := by rw [← hw1]; exact (Below.refl _ _).alloc (Nat.le_refl _) _
 have HGw1 := Lib.hid (show w1.heap.size = W.heap.size + 1 by rw [← hw1]; simp)
 have HXxw1 := Lib.hid (show BoxL w1 W.heap.size [.int .i64 x.idx, .int .i64 x.par, .string x.nm, .string x.orig, .string x.sub, .string x.drv, .string x.ali, .int .i64 x.kind, .int .i64 x.num, .slice A2 x.attrs.length c2] from box_mk hw1)
 try simp only [hw1]
 have HBw1 := Lib.hid hbw1
 have vw1 := Lib.hid (HV.out.kept (grown_none hbw1) (fun e => by cases e))
 have HMw1 := Lib.hid (HM.out.next hbw1)
 clear hw1 hbw1
 try rw [show W.heap.size + 1 = w1.heap.size from HGw1.out.symm]
 have cv0 := vw1.out.1 0 _ rfl
 have cx0 := HXxw1.out.1 0 _ rfl
 have hlk := look_in HMw1.out HO.out.1
 go_wp2
 go_ret
 exact ⟨rfl, HBw1.out⟩
set_option maxRecDepth 100000 in
set_option maxHeartbeats 4000000 in
/-- tree.Remove. -/
theorem Remove_any (A : Option Addr) (c : Nat) (L : List Dev) (n : Int) (w : World) (B : Nat) (hB : B ≤ w.heap.size) (hx : Sl w B A c L) (hv : VT L) (hn : okI n) : Calls Tryz.prog 44 #[.agg #[.slice A L.length c], .int .i64 n] w (TreF (fun b => w.heap.size ≤ b) (remE L n) (remX L n) w) := by
 have hx1 := hx.1; have hx2 := hx.2.1
 unfold maxLen at hx2
 have HX := Lib.hid hx; have HB := Lib.hid hB; have HV := Lib.hid hv; have HN := Lib.hid hn
 clear hx hB hv hn
 refine callsIn_wide.1 (callsIn_of_wp_marks (n := 3) Tryz.func44 rfl trivial ?_ rfl)
 simp only [Tryz.ntmps44, List.size_toArray, List.length_cons, List.length_nil, Nat.reduceAdd, Nat.reduceSub, Array.replicate_succ, Array.replicate_zero, List.push_toArray, List.append_toArray, List.nil_append, List.cons_append]
 rw [wpIn_wide]
 go_upto_region 1 with fail
 obtain ⟨w1, hw1⟩ : ∃ w1, w.alloc (.cells #[.slice A L.length c] 29) = w1 := ⟨_, rfl⟩
 have hbw1 : Below w.heap.size w w1 := by rw [← hw1]; exact (Below.refl _ _).alloc (Nat.le_refl _) _
 have HGw1 := Lib.hid (show w1.heap.size = w.heap.size + 1 by rw [← hw1]; simp)
 have HXtw1 := Lib.hid (show BoxL w1 w.heap.size [.slice A L.length c] from box_mk hw1)
 try simp only [hw1]
 have HSw1 := Lib.hid (show w.heap.size ≤ w1.heap.size from hbw1.size)
 have HBw1 := Lib.hid hbw1
 clear hw1 hbw1
 try rw [show w.heap.size + 1 = w1.heap.size from HGw1.out.symm]
 obtain ⟨w2, hw2⟩ : ∃ w2, w1.alloc (.cells #[.slice none 0 0] 29) = w2 := ⟨_, rfl⟩
 have hbw2 : Below w1.heap.size w1 w2 := by rw [← hw2]; exact (Below.refl _ _).alloc (Nat.le_refl _) _
 have HGw2 := Lib.hid (show w2.heap.size = w1.heap.size + 1 by rw [← hw2]; simp)
 have HXrw2 := Lib.hid (show BoxL w2 w1.heap.size [.slice none 0 0] from box_mk hw2)
 try simp only [hw2]
 have HSw2 := Lib.hid (show w1.heap.size ≤ w2.heap.size from hbw2.size)
 have HBw2 := Lib.hid (HBw1.out.trans (hbw2.mono HBw1.out.size))
 have tw2 := Lib.hid (HXtw1.out.kept (grown_none hbw2) (fun e => by cases e))
 clear hw2 hbw2
 try rw [show w1.heap.size + 1 = w2.heap.size from HGw2.out.symm]
 have cfr := HXrw2.out.2.1
 have hmk1 := fun z => run_makeMap (P := Tryz.prog) 93 z
 go_upto_region 2 with fail
 clear hmk1
 obtain ⟨w3, hw3⟩ : ∃ z, w2.alloc (.map #[] 0) = z := ⟨_, rfl⟩
 have hb_ : Below w2.heap.size w2 w3 := by rw [← hw3]; exact (Below.refl _ _).alloc (Nat.le_refl _) _
 have HGw3 := Lib.hid (show w3.heap.size = w2.heap.size + 1 by rw [← hw3]; simp)
 have HMV := Lib.hid (show MapV Tryz.prog 3 4 w3 w2.heap.size 0 (fun _ => (none : Option Bool)) by rw [← hw3]; exact MapV.made w2 _ _ _)
 simp only [hw3]
 try rw [show w2.heap.size + 1 = w3.heap.size from HGw3.out.symm]
 clear hw3
 clear cfr
 have HSw3 := Lib.hid (show w2.heap.size ≤ w3.heap.size from hb_.size)
 have HBw3 := Lib.hid (HBw2.out.trans (hb_.mono HBw2.out.size))
 have tw3 := Lib.hid (tw2.out.kept (grown_none hb_) (fun e => by cases e))
 have rw3 := Lib.hid (HXrw2.out.kept (grown_none hb_) (fun e => by cases e))
 clear hb_
 obtain ⟨w4, hw4⟩ : ∃ w4, w3.alloc (.cells #[.map (some w2.heap.size)] 93) = w4 := ⟨_, rfl⟩
 have hbw4 : Below w3.heap.size w3 w4 := by rw [← hw4]; exact (Below.refl _ _).alloc (Nat.le_refl _) _
 have HGw4 := Lib.hid (show w4.heap.size = w3.heap.size + 1 by rw [← hw4]; simp)
 have HXgw4 := Lib.hid (show BoxL w4 w3.heap.size [.map (some w2.heap.size)] from box_mk hw4)
 try simp only [hw4]
 have HSw4 := Lib.hid (show w3.heap.size ≤ w4.heap.size from hbw4.size)
 have HBw4 := Lib.hid (HBw3.out.trans (hbw4.mono HBw3.out.size))
 have tw4 := Lib.hid (tw3.out.kept (grown_none hbw4) (fun e => by cases e))
 have rw4 := Lib.hid (rw3.out.kept (grown_none hbw4) (fun e => by cases e))
 have HMVw4 := Lib.hid (HMV.out.next hbw4)
 clear hw4 hbw4
 try rw [show w3.heap.size + 1 = w4.heap.size from HGw4.out.symm]
 have ct0 := tw4.out.1 0 _ rfl
 have cfr := rw4.out.2.1
 go_wp2_with fail
 refine (subtree_any _ n _).mono ?_
 rintro e w6 ⟨rfl, hw_⟩
 obtain ⟨w5, hw5⟩ : ∃ z, w4.alloc (.cells #[.slice A L.length c] 29) = z := ⟨_, rfl⟩
 have hb_ : Below w4.heap.size w4 w5 := by rw [← hw5]; exact (Below.refl _ _).alloc (Nat.le_refl _) _
 have HGw5 := Lib.hid (show w5.heap.size = w4.heap.size + 1 by rw [← hw5]; simp)
 have HXt2 := Lib.hid (show BoxL w5 w4.heap.size [.slice A L.length c] from box_mk hw5)
 rw [hw5] at hw_
 try rw [show w4.heap.size + 1 = w5.heap.size from HGw5.out.symm]
 clear hw5
 clear ct0 cfr
 have HSw5 := Lib.hid (show w4.heap.size ≤ w5.heap.size from hb_.size)
 have HBw5 := Lib.hid (HBw4.out.trans (hb_.mono HBw4.out.size))
 have tw5 := Lib.hid (tw4.out.kept (grown_none hb_) (fun e => by cases e))
 have rw5 := Lib.hid (rw4.out.kept (grown_none hb_) (fun e => by cases e))
 have gw5 := Lib.hid (HXgw4.out.kept (grown_none hb_) (fun e => by cases e))
 have HMVw5 := Lib.hid (HMVw4.out.next hb_)
 clear hb_
 have hb_ : Below w5.heap.size w5 w6 := by rw [hw_]; exact (Below.refl _ _).alloc (Nat.le_refl _) _
 have HGw6 := Lib.hid (show w6.heap.size = w5.heap.size + 1 by rw [hw_]; simp)
 have HXi := Lib.hid (show BoxL w6 w5.heap.size [.int .i64 n] from box_mk hw_.symm)
 clear hw_
 have HSw6 := Lib.hid (show w5.heap.size ≤ w6.heap.size from hb_.size)
 have HBw6 := Lib.hid (HBw5.out.trans (hb_.mono HBw5.out.size))
 have tw6 := Lib.hid (tw5.out.kept (grown_none hb_) (fun e => by cases e))
 have rw6 := Lib.hid (rw5.out.kept (grown_none hb_) (fun e => by cases e))
 have gw6 := Lib.hid (gw5.out.kept (grown_none hb_) (fun e => by cases e))
 have Tw6 := Lib.hid (HXt2.out.kept (grown_none hb_) (fun e => by cases e))
 have HMVw6 := Lib.hid (HMVw5.out.next hb_)
 clear hb_
 have HNUM := Lib.hid (show B ≤ w.heap.size ∧ w.heap.size + 1 ≤ w2.heap.size ∧ w2.heap.size < w3.heap.size ∧ w3.heap.size < w4.heap.size ∧ w4.heap.size < w5.heap.size ∧ w5.heap.size < w6.heap.size from ⟨HB.out, by have := HGw1.out; have := HGw2.out; omega, by have := HGw3.out; omega, by have := HGw4.out; omega, by have := HGw5.out; omega, by have := HGw6.out; omega⟩)
 have HDL := Lib.hid (show ∀ (pre : List DevX) (y : Dev) t, pre.map (·.1) ++ y :: t = subGo n L [] → y ∈ L ∧ pre.length + 1 ≤ 256 from fun pre y t h => by rw [sub_same HV.out.wf] at h; exact ⟨(List.mem_filter.1 (show y ∈ subR L n by rw [← h]; simp)).1, by have h1 : (subR L n).length ≤ L.length := List.length_filter_le _ _; rw [← h] at h1; simp at h1; have := HV.out.size; omega⟩)
 have HGB := gw6; have HMVW := HMVw6
 go_wp2_with fail
 refine wpIn_wide.1 (wpIn_rangeB (n := 3) 12 7 rfl (by omega) rfl trivial (enters_of Tryz.func108 (by kernel_rfl) rfl) (subtree1_seq 2 (w4.heap.size) (w5.heap.size) A c B L n w6 (Nat.le_trans HB.out HBw6.out.size) Tw6.out HXi.out (HX.out.keep (HBw6.out.mono HB.out)) HV.out.wf.uniq (by have := HV.out.size; omega) (by have := HNUM.out; omega)) (fun k hk => by show k ≠ _ ∧ k ≠ _; have hk : k = w6.heap.size + 2 := hk; omega) (fun h => by have := HNUM.out; unfold suZ at h; omega) (GoneJ Tryz.prog 3 4 w6 w2.heap.size) (GoneJ.abid (by omega)) (GoneJ.putl (by omega)) (fun W0 hW0 hs0 => ⟨grown_wide (grown_none hW0), by have := HNUM.out; omega, (HMVW.out.next hW0).congr (fun _ _ => rfl)⟩) (nxX_keep (by have := HNUM.out; omega)) (fun x => #[.int .i64 x.1.idx, .int .i64 x.1.par, .string x.1.nm, .string x.1.orig, .string x.1.sub, .string x.1.drv, .string x.1.ali, .int .i64 x.1.kind, .int .i64 x.1.num, .slice x.2.1 x.1.attrs.length x.2.2]) 34 ?assign ?body ?done)
 case assign =>
  intro l x W0 K hK
  simp only [encV] at hK ⊢
  gi_wp2
  exact hK
 case body =>
  rintro pre ⟨y, A2, c2⟩ N W0 g7 hJ hN hNg hNx hbox hsz
  obtain ⟨⟨t, ht⟩, hok, hat⟩ := hNx
  obtain ⟨hym, hpl⟩ := HDL.out pre y t ht
  have hgb := (HGB.out.kept hJ.1 (fun e => by have := Option.some.inj e; have := HNUM.out; omega)).1 0 _ rfl
  have hm0 := hJ.2.2
  have HJ := Lib.hid hJ; have HM0 := Lib.hid hm0; have HOK := Lib.hid hok; have HNN := Lib.hid hN; have HSZ := Lib.hid hsz
  have y0 := hbox.1 0 _ rfl
  clear hJ hm0 hok hat hbox hNg ht hym hN hsz
  simp only [encV]
  gi_wp2_with (gi_at_mapUpdate; refine wpListIn_put rfl _ _ _ _ rfl HM0.out Tryz.underlying93 Tryz.underlying3 Tryz.underlying4 rfl y.idx true HOK.out.1 trivial (by unfold maxLen; omega) rfl rfl ?_; intro w5 hm_ hg_; have HM5 := Lib.hid hm_; have HG5 := Lib.hid hg_; clear hm_ hg_)
  exact GoneJ.round (x := (y, A2, c2)) HJ.out HG5.out HM5.out (fun h => by have := HNUM.out; unfold suZ at h; omega) (by have := HNUM.out; have := HNN.out; omega) (by have := HNUM.out; omega) (by have := HSZ.out; omega)
 case done =>
  intro xs N W0 hS hJ hD
  obtain ⟨hgr, -, hmv⟩ := hJ
  have hbr : Below w.heap.size w W0 := HBw6.out.grown hgr HBw6.out.size (fun q hq => by have := Option.some.inj hq; have := HNUM.out; omega)
  have HZt := Lib.hid (tw6.out.kept hgr (fun e => by have := Option.some.inj e; have := HNUM.out; have := HGw1.out; have := HGw2.out; omega))
  have HZr := Lib.hid (rw6.out.kept hgr (fun e => by have := Option.some.inj e; have := HNUM.out; have := HGw1.out; have := HGw2.out; omega))
  have HZg := Lib.hid (gw6.out.kept hgr (fun e => by have := Option.some.inj e; have := HNUM.out; have := HGw1.out; have := HGw2.out; omega))
  have HSUB := Lib.hid (show xs.map (·.1) = subR L n by rw [← sub_same HV.out.wf]; exact hS)
  obtain ⟨ins, hins⟩ : ∃ z, (xs.map (fun x => x.1.idx)).reverse = z := ⟨_, rfl⟩
  rw [hins] at hmv
  have HIN := Lib.hid (show ∀ k, k ∈ ins ↔ k ∈ idxs (subR L n) from fun k => by rw [← hins, ← HSUB.out]; unfold idxs; simp)
  have HXL := Lib.hid (show xs.length = (subR L n).length by rw [← HSUB.out]; simp)
  have HD := Lib.hid hD; have HMV0 := Lib.hid hmv; have HBW0 := Lib.hid hbr; have HS0 := Lib.hid (show w6.heap.size < W0.heap.size ∧ w6.heap.size ≤ W0.heap.size from ⟨(Array.getElem?_eq_some_iff.1 hD).1, hgr.size⟩)
  clear hS hgr hmv hbr hD hins
  have ct0 := HZt.out.1 0 _ rfl
  have cr0 := HZr.out.1 0 _ rfl
  have cfr := HZr.out.2.1
  have cg0 := HZg.out.1 0 _ rfl
  go_upto_if 18 with (at_len; refine wpList_lenV HMV0.out Tryz.underlying93 rfl _ rfl rfl ?_; intro m hm1 hm2; have HM1 := Lib.hid hm1; have HM2 := Lib.hid hm2; clear hm1 hm2)
  by_cases hm : m = 0
  ·
   have em : ((m : Int) == 0) = true := by simp [hm]
   have HNI := Lib.hid (show n ∉ idxs L from fun h => by have h2 := HM2.out hm n HN.out; unfold insF at h2; rw [if_pos ((HIN.out n).2 (sub_some HV.out.wf h))] at h2; cases h2)
   clear hm
   clear ct0 cr0 cfr cg0
   have cr0 := HZr.out.1 0 _ rfl; have cfr := HZr.out.2.1
   go_wp2
   have hgx := grown_one W0 w1.heap.size 0 (.slice none 0 0)
   have hrx := HZr.out.set_ (j := 0) (by simp) (.slice none 0 0)
   obtain ⟨wx, hwx⟩ : ∃ z, W0.setCell ⟨w1.heap.size, 0, none⟩ (.slice none 0 0) = z := ⟨_, rfl⟩
   rw [hwx] at hgx hrx ⊢
   clear hwx
   have HNQ := Lib.hid (show w1.heap.size < w6.heap.size ∧ w.heap.size ≤ w1.heap.size ∧ w6.heap.size < W0.heap.size ∧ W0.heap.size ≤ W0.heap.size from ⟨by have := HNUM.out; have := HGw2.out; omega, by have := HGw1.out; omega, HS0.out.1, Nat.le_refl _⟩)
   have hdx : wx.heap[w6.heap.size]? = some _ := (hgx.block w6.heap.size (by have := HNQ.out; omega) (fun e => by have := Option.some.inj e; have := HNQ.out; omega)).trans HD.out
   have hgf := grownBy_putObj' wx w6.heap.size (.deferred none)
   have hrf := hrx.kept hgf (fun e => by have := Option.some.inj e; have := HNQ.out; omega)
   have cr0 := hrf.1 0 _ rfl
   have hbf : Below w.heap.size w (wx.putObj w6.heap.size (.deferred none)) := (HBW0.out.grown hgx HBW0.out.size (fun q hq => by have := Option.some.inj hq; have := HNQ.out; omega)).grown hgf (by have := HBW0.out.size; have := hgx.size; omega) (fun q hq => by have := Option.some.inj hq; have := HNQ.out; omega)
   refine ⟨by simp, .inl ⟨_, _, rfl, run_takeDeferred hdx, ?_⟩⟩
   refine ⟨.tuple #[.agg #[.slice none 0 0], .int .i64 45], by simp [results, Tryz.results44, go_sem, cr0], ?_⟩
   rw [show remE L n = 45 from if_neg HNI.out, show remX L n = [] from if_neg HNI.out]
   exact TreF.err hbf rfl
  ·
   have em : ((m : Int) == 0) = false := by simp [hm]
   have HNI := Lib.hid (show n ∈ idxs L from Classical.byContradiction fun h => by have h1 := HM1.out; have h2 := HXL.out; rw [sub_nil HV.out.wf h, List.length_nil] at h2; omega)
   clear hm
   clear ct0 cr0 cfr cg0
   have ct0 := HZt.out.1 0 _ rfl
   have cfr := HZr.out.2.1
   go_wp2_with fail
   refine (copies_any A c L _ B (Nat.le_trans HB.out HBW0.out.size) (HX.out.keep (HBW0.out.mono HB.out)) (by have := HV.out.size; omega) (fun x hx => attrs_le (HV.out.chk x hx))).mono ?_
   rintro e w7 ⟨hbw7, v, rfl, hown⟩
   clear ct0 cfr
   have HSw7 := Lib.hid (show W0.heap.size ≤ w7.heap.size from hbw7.size)
   have HBw7 := Lib.hid (HBW0.out.trans (hbw7.mono HBW0.out.size))
   have tw7 := Lib.hid (HZt.out.kept (grown_none hbw7) (fun e => by cases e))
   have rw7 := Lib.hid (HZr.out.kept (grown_none hbw7) (fun e => by cases e))
   have gw7 := Lib.hid (HZg.out.kept (grown_none hbw7) (fun e => by cases e))
   have HMVw7 := Lib.hid (HMV0.out.next hbw7)
   have HWV := Lib.hid hbw7
   clear hbw7
   rw [filter_any] at hown
   have HOW := Lib.hid hown; clear hown
   go_wp2_with fail
   refine (SlDelete_any (fun b => W0.heap.size ≤ b) W0.heap.size v L _ _ (fun _ => True) (fun d => decide (d.idx ∈ ins)) W0 w7 HOW.out (remove1_pred w3.heap.size w2.heap.size _ _ ins W0 HZg.out HMV0.out) (fun _ _ => trivial) (by have := HV.out.size; omega) (Nat.le_refl _) HWV.out HWV.out.size).mono ?_
   rintro e wz ⟨v2, rfl, hown2, hg2⟩
   rw [rem_filter ins HIN.out] at hown2
   have hlow : ∀ k, v.ownBlock = some k → W0.heap.size ≤ k := fun k hk => (HOW.out.lt k hk).1
   have HBz := Lib.hid (below_own HBw7.out hg2 HBw7.out.size (fun k hk => by have := hlow k hk; have := HNUM.out; have := HS0.out; omega))
   have HRz := Lib.hid (rw7.out.kept hg2 (fun e => by have := hlow _ e.symm; have := HNUM.out; have := HS0.out; have := HGw2.out; omega))
   have HDz := Lib.hid ((hg2.block w6.heap.size (by have := HS0.out; have := HWV.out.size; omega) (fun e => by have := hlow _ e.symm; have := HS0.out; omega)).trans ((HWV.out.block w6.heap.size (by have := HS0.out; omega)).trans HD.out))
   have HSZz := Lib.hid (show W0.heap.size ≤ wz.heap.size from Nat.le_trans HWV.out.size hg2.size)
   have HOWz := Lib.hid hown2
   obtain ⟨A9, c9, hv9, -⟩ := HOWz.out.sl
   subst hv9
   clear hown2 hg2 hlow
   have cr0 := HRz.out.1 0 _ rfl; have cfr := HRz.out.2.1
   go_wp2
   have hgx := grown_one wz w1.heap.size 0 (.slice A9 (remL L n).length c9)
   have hrx := HRz.out.set_ (j := 0) (by simp) (.slice A9 (remL L n).length c9)
   obtain ⟨wx, hwx⟩ : ∃ z, wz.setCell ⟨w1.heap.size, 0, none⟩ (.slice A9 (remL L n).length c9) = z := ⟨_, rfl⟩
   rw [hwx] at hgx hrx ⊢
   clear hwx
   have HNQ := Lib.hid (show w1.heap.size < w6.heap.size ∧ w.heap.size ≤ w1.heap.size ∧ w6.heap.size < W0.heap.size ∧ W0.heap.size ≤ wz.heap.size from ⟨by have := HNUM.out; have := HGw2.out; omega, by have := HGw1.out; omega, HS0.out.1, HSZz.out⟩)
   have hdx : wx.heap[w6.heap.size]? = some _ := (hgx.block w6.heap.size (by have := HNQ.out; omega) (fun e => by have := Option.some.inj e; have := HNQ.out; omega)).trans HDz.out
   have hgf := grownBy_putObj' wx w6.heap.size (.deferred none)
   have hrf := hrx.kept hgf (fun e => by have := Option.some.inj e; have := HNQ.out; omega)
   have cr0 := hrf.1 0 _ rfl
   have hbf : Below w.heap.size w (wx.putObj w6.heap.size (.deferred none)) := (HBz.out.grown hgx HBz.out.size (fun q hq => by have := Option.some.inj hq; have := HNQ.out; omega)).grown hgf (by have := HBz.out.size; have := hgx.size; omega) (fun q hq => by have := Option.some.inj hq; have := HNQ.out; omega)
   have hof := (HOWz.out.grownb hgx (fun x (hx : W0.heap.size ≤ x) => by have := HNQ.out; omega) (by have := HNQ.out; omega)).grownb hgf (fun x (hx : W0.heap.size ≤ x) => by have := HNQ.out; omega) (by have := HNQ.out; omega)
   refine ⟨by simp, .inl ⟨_, _, rfl, run_takeDeferred hdx, ?_⟩⟩
   refine ⟨.tuple #[.agg #[.slice A9 (remL L n).length c9], .int .i64 0], by simp [results, Tryz.results44, go_sem, cr0], ?_⟩
   rw [show remE L n = 0 from if_pos HNI.out, show remX L n = remL L n from if_pos HNI.out]
   exact TreF.mk hbf rfl ((hof.wide (fun b (hb : W0.heap.size ≤ b) => by have := HNQ.out; show w.heap.size ≤ b; omega)).low (by have := HNQ.out; omega))
end Go.Proofs.YtidhbckalcjdpaaGreatDoor
namespace Go.Cold
open Go Go.RowKit
def chgX (L : List Dev) (d : Dev) : List Dev := if chgE L d = 0 then chgL L d else []
/-- Whether a device is not the old one's successor. -/
def movedB (o d : Dev) : Bool := !(decide (o.par = d.par) && decide (o.orig = d.orig) && decide (o.kind = d.kind))
theorem chgE_cases {L : List Dev} {d o : Dev} (h : WF L) (ho : o ∈ L) (hi : o.idx = d.idx) : chgE L d = if checkD d ≠ 0 then 41 else if movedB o d then 42 else if clashesB L d then 44 else 0 := by
 rw [chgE_some h ho hi]
 unfold movedB
 by_cases h1 : o.par = d.par <;> by_cases h2 : o.orig = d.orig <;> by_cases h3 : o.kind = d.kind <;> simp [h1, h2, h3]
end Go.Cold
namespace Go.Proofs.YtidhbckalcjdpaaGreatDoor
open Go.RowKit Go.Cold
set_option maxRecDepth 100000 in
theorem change1_pred (d : Dev) (A2 : Option Addr) (c2 g B : Nat) (w : World) (hv : BoxL w g [.int .i64 d.idx, .int .i64 d.par, .string d.nm, .string d.orig, .string d.sub, .string d.drv, .string d.ali, .int .i64 d.kind, .int .i64 d.num, .slice A2 d.attrs.length c2]) :
  PredD 84 #[.pointer (some ⟨g, 0, none⟩)] w B (fun _ => True) (fun x => decide (x.idx = d.idx)) := by
 refine ⟨enters_of Tryz.func84 (by kernel_rfl) rfl, fun x A3 c3 W hxo hat hq hW => ?_⟩
 have HV := Lib.hid (hv.kept (grown_none hW) (fun e => by cases e)); clear hv hxo hat hq hW
 go_enter Tryz.func84, Tryz.ntmps84
 go_upto_region 1 with fail
 obtain ⟨w1, hw1⟩ : ∃ w1, W.alloc (.cells #[.int .i64 x.idx, .int .i64 x.par, .string x.nm, .string x.orig, .string x.sub, .string x.drv, .string x.ali, .int .i64 x.kind, .int .i64 x.num, .slice A3 x.attrs.length c3] 34) = w1 := ⟨_, rfl⟩
 have hbw1 : Below W.heap.size W w1 := by rw [← hw1]; exact (Below.refl _ _).alloc (Nat.le_refl _) _
 have HGw1 := Lib.hid (show w1.heap.size = W.heap.size + 1 by rw [← hw1]; simp)
 have HXxw1 := Lib.hid (show BoxL w1 W.heap.size [.int .i64 x.idx, .int .i64 x.par, .string x.nm, .string x.orig, .string x.sub, .string x.drv, .string x.ali, .int .i64 x.kind, .int .i64 x.num, .slice A3 x.attrs.length c3] from box_mk hw1)
 try simp only [hw1]
 have HBw1 := Lib.hid hbw1
 have vw1 := Lib.hid (HV.out.kept (grown_none hbw1) (fun e => by cases e))
 clear hw1 hbw1
 try rw [show W.heap.size + 1 = w1.heap.size from HGw1.out.symm]
 have cv0 := vw1.out.1 0 _ rfl
 have cx0 := HXxw1.out.1 0 _ rfl
 by_cases hp : x.idx = d.idx
 ·
  have ep : (x.idx == d.idx) = true := by simpa using hp
  have HR := Lib.hid (show true = decide (x.idx = d.idx) by simp [hp]); clear hp
  go_wp2
  go_ret
  exact ⟨by rw [← HR.out]; rfl, HBw1.out⟩
 ·
  have ep : (x.idx == d.idx) = false := by simpa using hp
  have HR := Lib.hid (show false = decide (x.idx = d.idx) by simp [hp]); clear hp
  go_wp2
  go_ret
  exact ⟨by rw [← HR.out]; rfl, HBw1.out⟩
set_option maxRecDepth 100000 in
set_option maxHeartbeats 4000000 in
/-- tree.Change. -/
theorem Change_any (A : Option Addr) (c : Nat) (L : List Dev) (d : Dev) (A2 : Option Addr) (c2 : Nat) (w : World) (B : Nat) (hB : B ≤ w.heap.size) (hx : Sl w B A c L) (hd : devOk d) (ha : Sl w B A2 c2 d.attrs) (hvt : VT L) (hok : Ok w) :
  Calls Tryz.prog 46 #[.agg #[.slice A L.length c], .agg #[.int .i64 d.idx, .int .i64 d.par, .string d.nm, .string d.orig, .string d.sub, .string d.drv, .string d.ali, .int .i64 d.kind, .int .i64 d.num, .slice A2 d.attrs.length c2]] w (TreF (fun b => w.heap.size ≤ b) (chgE L d) (chgX L d) w) := by
 have hvs := hvt.small
 have hvl := hvt.size
 have hx1 := hx.1; have hx2 := hx.2.1
 unfold maxLen at hx2
 have HX := Lib.hid hx; have HB := Lib.hid hB; have HD := Lib.hid hd; have HA := Lib.hid ha; have HVT := Lib.hid hvt; have HOK := Lib.hid hok; have HVS := Lib.hid hvs; have HVL := Lib.hid hvl
 clear hx hB hd ha hvt hok hvs hvl
 go_enter Tryz.func46, Tryz.ntmps46
 go_upto_region 1 with fail
 obtain ⟨w1, hw1⟩ : ∃ w1, w.alloc (.cells #[.slice A L.length c] 29) = w1 := ⟨_, rfl⟩
 have hbw1 : Below w.heap.size w w1 := by rw [← hw1]; exact (Below.refl _ _).alloc (Nat.le_refl _) _
 have HGw1 := Lib.hid (show w1.heap.size = w.heap.size + 1 by rw [← hw1]; simp)
 have HXtw1 := Lib.hid (show BoxL w1 w.heap.size [.slice A L.length c] from box_mk hw1)
 try simp only [hw1]
 have HSw1 := Lib.hid (show w.heap.size ≤ w1.heap.size from hbw1.size)
 have HBw1 := Lib.hid hbw1
 clear hw1 hbw1
 try rw [show w.heap.size + 1 = w1.heap.size from HGw1.out.symm]
 obtain ⟨w2, hw2⟩ : ∃ w2, w1.alloc (.cells #[.int .i64 d.idx, .int .i64 d.par, .string d.nm, .string d.orig, .string d.sub, .string d.drv, .string d.ali, .int .i64 d.kind, .int .i64 d.num, .slice A2 d.attrs.length c2] 34) = w2 := ⟨_, rfl⟩
 have hbw2 : Below w1.heap.size w1 w2 := by rw [← hw2]; exact (Below.refl _ _).alloc (Nat.le_refl _) _
 have HGw2 := Lib.hid (show w2.heap.size = w1.heap.size + 1 by rw [← hw2]; simp)
 have HXpw2 := Lib.hid (show BoxL w2 w1.heap.size [.int .i64 d.idx, .int .i64 d.par, .string d.nm, .string d.orig, .string d.sub, .string d.drv, .string d.ali, .int .i64 d.kind, .int .i64 d.num, .slice A2 d.attrs.length c2] from box_mk hw2)
 try simp only [hw2]
 have HSw2 := Lib.hid (show w1.heap.size ≤ w2.heap.size from hbw2.size)
 have HBw2 := Lib.hid (HBw1.out.trans (hbw2.mono HBw1.out.size))
 have tw2 := Lib.hid (HXtw1.out.kept (grown_none hbw2) (fun e => by cases e))
 clear hw2 hbw2
 try rw [show w1.heap.size + 1 = w2.heap.size from HGw2.out.symm]
 obtain ⟨w3, hw3⟩ : ∃ w3, w2.alloc (.cells #[.slice none 0 0] 29) = w3 := ⟨_, rfl⟩
 have hbw3 : Below w2.heap.size w2 w3 := by rw [← hw3]; exact (Below.refl _ _).alloc (Nat.le_refl _) _
 have HGw3 := Lib.hid (show w3.heap.size = w2.heap.size + 1 by rw [← hw3]; simp)
 have HXrw3 := Lib.hid (show BoxL w3 w2.heap.size [.slice none 0 0] from box_mk hw3)
 try simp only [hw3]
 have HSw3 := Lib.hid (show w2.heap.size ≤ w3.heap.size from hbw3.size)
 have HBw3 := Lib.hid (HBw2.out.trans (hbw3.mono HBw2.out.size))
 have tw3 := Lib.hid (tw2.out.kept (grown_none hbw3) (fun e => by cases e))
 have pw3 := Lib.hid (HXpw2.out.kept (grown_none hbw3) (fun e => by cases e))
 clear hw3 hbw3
 try rw [show w2.heap.size + 1 = w3.heap.size from HGw3.out.symm]
 have ct0 := tw3.out.1 0 _ rfl
 have cfr := HXrw3.out.2.1
 go_wp2_with fail
 refine (IndexFuncD_any A c L _ _ _ _ _ B (Nat.le_trans HB.out HBw3.out.size) (HX.out.keep (HBw3.out.mono HB.out)) (change1_pred d A2 c2 w1.heap.size B _ pw3.out) (fun _ _ => trivial)).mono ?_
 rintro e w4 ⟨rfl, hbw4⟩
 clear ct0 cfr
 have HSw4 := Lib.hid (show w3.heap.size ≤ w4.heap.size from hbw4.size)
 have HBw4 := Lib.hid (HBw3.out.trans (hbw4.mono HBw3.out.size))
 have tw4 := Lib.hid (tw3.out.kept (grown_none hbw4) (fun e => by cases e))
 have pw4 := Lib.hid (pw3.out.kept (grown_none hbw4) (fun e => by cases e))
 have rw4 := Lib.hid (HXrw3.out.kept (grown_none hbw4) (fun e => by cases e))
 clear hbw4
 have hidx := idx_cases (fun x => decide (x.idx = d.idx)) L
 obtain ⟨z, hz⟩ : ∃ z, idxInt (fun x => decide (x.idx = d.idx)) L = z := ⟨_, rfl⟩
 rw [hz] at hidx ⊢
 clear hz
 rcases hidx with ⟨rfl, hall⟩ | ⟨i0, x0, rfl, hx0, hp0, -⟩
 ·
  have HNI := Lib.hid (show d.idx ∉ idxs L from fun h => by obtain ⟨e, he, hi⟩ := List.mem_map.1 h; have := of_decide_eq_false (hall e he); exact this hi)
  clear hall
  have cr0 := rw4.out.1 0 _ rfl
  have cfr := rw4.out.2.1
  have HE := Lib.hid (show chgE L d = 45 by exact chgE_none HNI.out)
  have HEX := Lib.hid (show chgX L d = [] by unfold chgX; rw [HE.out]; rfl)
  go_wp2
  refine bodyPost_ret (v := .tuple #[.agg #[.slice none 0 0], .int .i64 45]) (by simp [results, Tryz.results46, go_sem, cr0, cfr]) rfl ?_
  rw [HE.out, HEX.out]
  exact TreF.err (HBw4.out.setCell (by have := HGw1.out; have := HGw2.out; show w.heap.size ≤ w2.heap.size; omega) _) rfl
 ·
  have hi0 := (List.getElem?_eq_some_iff.1 hx0).1
  have HX0 := Lib.hid hx0; have HP0 := Lib.hid (show x0.idx = d.idx from of_decide_eq_true hp0); clear hp0
  obtain ⟨b3, o3, rfl, hb3, A3, c3, hok3, hat3, hcs3⟩ := (HX.out.keep (HBw4.out.mono HB.out)).dev hi0
  obtain rfl : L[i0] = x0 := (List.getElem?_eq_some_iff.1 hx0).2
  obtain ⟨y, hy⟩ : ∃ y, L[i0]'hi0 = y := ⟨_, rfl⟩
  rw [hy] at hok3 hcs3 hat3 hx0 HP0 HX0
  clear hx0 hy hat3 hb3 hok3
  have HMEM := Lib.hid (List.mem_of_getElem? HX0.out)
  have HCE := Lib.hid (chgE_cases HVT.out.wf HMEM.out HP0.out)
  obtain ⟨y0, y1, y2, y3, y4, y5, y6, y7, y8, y9⟩ := hcs3
  have i1 : ¬ (i0 : Int) < 0 := by omega
  have i2 : (i0 : Int) < (L.length : Int) := by omega
  have ct0 := tw4.out.1 0 _ rfl
  have cfr := rw4.out.2.1
  go_upto_region 5 with fail
  clear y0 y1 y2 y3 y4 y5 y6 y7 y8 y9
  obtain ⟨w5, hw5⟩ : ∃ w5, w4.alloc (.cells #[.int .i64 y.idx, .int .i64 y.par, .string y.nm, .string y.orig, .string y.sub, .string y.drv, .string y.ali, .int .i64 y.kind, .int .i64 y.num, .slice A3 y.attrs.length c3] 34) = w5 := ⟨_, rfl⟩
  have hbw5 : Below w4.heap.size w4 w5 := by rw [← hw5]; exact (Below.refl _ _).alloc (Nat.le_refl _) _
  have HGw5 := Lib.hid (show w5.heap.size = w4.heap.size + 1 by rw [← hw5]; simp)
  have HXow5 := Lib.hid (show BoxL w5 w4.heap.size [.int .i64 y.idx, .int .i64 y.par, .string y.nm, .string y.orig, .string y.sub, .string y.drv, .string y.ali, .int .i64 y.kind, .int .i64 y.num, .slice A3 y.attrs.length c3] from box_mk hw5)
  try simp only [hw5]
  have HSw5 := Lib.hid (show w4.heap.size ≤ w5.heap.size from hbw5.size)
  have HBw5 := Lib.hid (HBw4.out.trans (hbw5.mono HBw4.out.size))
  have tw5 := Lib.hid (tw4.out.kept (grown_none hbw5) (fun e => by cases e))
  have pw5 := Lib.hid (pw4.out.kept (grown_none hbw5) (fun e => by cases e))
  have rw5 := Lib.hid (rw4.out.kept (grown_none hbw5) (fun e => by cases e))
  clear hw5 hbw5
  try rw [show w4.heap.size + 1 = w5.heap.size from HGw5.out.symm]
  clear ct0 cfr
  have cp0 := pw5.out.1 0 _ rfl
  have cp1 := pw5.out.1 1 _ rfl
  have cp2 := pw5.out.1 2 _ rfl
  have cp3 := pw5.out.1 3 _ rfl
  have cp4 := pw5.out.1 4 _ rfl
  have cp5 := pw5.out.1 5 _ rfl
  have cp6 := pw5.out.1 6 _ rfl
  have cp7 := pw5.out.1 7 _ rfl
  have cp8 := pw5.out.1 8 _ rfl
  have cp9 := pw5.out.1 9 _ rfl
  have cfr := rw5.out.2.1
  go_wp2_with fail
  refine (Check_any d A2 c2 _ B (Nat.le_trans HB.out HBw5.out.size) HD.out (HA.out.keep (HBw5.out.mono HB.out)) (HOK.out.next HBw5.out)).mono ?_
  rintro e w6 ⟨rfl, hbw6⟩
  clear cp0 cp1 cp2 cp3 cp4 cp5 cp6 cp7 cp8 cp9 cfr
  have HSw6 := Lib.hid (show w5.heap.size ≤ w6.heap.size from hbw6.size)
  have HBw6 := Lib.hid (HBw5.out.trans (hbw6.mono HBw5.out.size))
  have tw6 := Lib.hid (tw5.out.kept (grown_none hbw6) (fun e => by cases e))
  have pw6 := Lib.hid (pw5.out.kept (grown_none hbw6) (fun e => by cases e))
  have rw6 := Lib.hid (rw5.out.kept (grown_none hbw6) (fun e => by cases e))
  have ow6 := Lib.hid (HXow5.out.kept (grown_none hbw6) (fun e => by cases e))
  clear hbw6
  by_cases hc : checkD d = 0
  ·
   have HDS := Lib.hid (show d.orig.size ≤ 32 from valid_size (check_names hc).2.1)
   have HDA := Lib.hid (show d.attrs.length ≤ 1000000 from by have := attrs_le hc; omega)
   have ec : (checkD d != 0) = false := by rw [hc]; rfl
   have HC := Lib.hid hc; try rw [hc]
   clear hc
   by_cases hq : y.par = d.par
   ·
    have eqx0 : (d.par == y.par) = true := by rw [hq]; simp
    have eq0 : (d.par != y.par) = false := by rw [bne, eqx0]; rfl
    have HE1 := Lib.hid hq; clear hq
    by_cases hq : y.orig = d.orig
    ·
     have eqx1 : (d.orig.toList == y.orig.toList) = true := by rw [hq]; simp
     have eq1 : (d.orig.toList != y.orig.toList) = false := by rw [bne, eqx1]; rfl
     have HE2 := Lib.hid hq; clear hq
     by_cases hq : y.kind = d.kind
     ·
      have eqx2 : (d.kind == y.kind) = true := by rw [hq]; simp
      have eq2 : (d.kind != y.kind) = false := by rw [bne, eqx2]; rfl
      have HE3 := Lib.hid hq; clear hq
      have HMV := Lib.hid (show movedB y d = false by unfold movedB; rw [decide_eq_true HE1.out, decide_eq_true HE2.out, decide_eq_true HE3.out]; rfl)
      have ct0 := tw6.out.1 0 _ rfl
      have cp0 := pw6.out.1 0 _ rfl
      have cp1 := pw6.out.1 1 _ rfl
      have cp2 := pw6.out.1 2 _ rfl
      have cp3 := pw6.out.1 3 _ rfl
      have cp4 := pw6.out.1 4 _ rfl
      have cp5 := pw6.out.1 5 _ rfl
      have cp6 := pw6.out.1 6 _ rfl
      have cp7 := pw6.out.1 7 _ rfl
      have cp8 := pw6.out.1 8 _ rfl
      have cp9 := pw6.out.1 9 _ rfl
      have cfr := rw6.out.2.1
      have co1 := ow6.out.1 1 _ rfl
      have co3 := ow6.out.1 3 _ rfl
      have co7 := ow6.out.1 7 _ rfl
      go_wp2_with fail
      refine (clashes_any (some ⟨b3, o3, none⟩) c L d A2 c2 _ B (Nat.le_trans HB.out HBw6.out.size) (HX.out.keep (HBw6.out.mono HB.out)) (fun x hx => by have := (HVS.out x hx).1; omega) (by have := HDS.out; omega) (HOK.out.next HBw6.out)).mono ?_
      rintro e w7 ⟨rfl, hbw7⟩
      clear ct0 cp0 cp1 cp2 cp3 cp4 cp5 cp6 cp7 cp8 cp9 cfr co1 co3 co7
      have HSw7 := Lib.hid (show w6.heap.size ≤ w7.heap.size from hbw7.size)
      have HBw7 := Lib.hid (HBw6.out.trans (hbw7.mono HBw6.out.size))
      have tw7 := Lib.hid (tw6.out.kept (grown_none hbw7) (fun e => by cases e))
      have pw7 := Lib.hid (pw6.out.kept (grown_none hbw7) (fun e => by cases e))
      have rw7 := Lib.hid (rw6.out.kept (grown_none hbw7) (fun e => by cases e))
      have ow7 := Lib.hid (ow6.out.kept (grown_none hbw7) (fun e => by cases e))
      clear hbw7
      cases hcb : clashesB L d with
      | true =>
       have HCB := Lib.hid hcb; clear hcb
       have cr0 := rw7.out.1 0 _ rfl
       have cfr := rw7.out.2.1
       have HE := Lib.hid (show chgE L d = 44 by rw [HCE.out, if_neg (by rw [HC.out]; decide), if_neg (by rw [HMV.out]; decide), if_pos HCB.out])
       have HEX := Lib.hid (show chgX L d = [] by unfold chgX; rw [HE.out]; rfl)
       go_wp2
       refine bodyPost_ret (v := .tuple #[.agg #[.slice none 0 0], .int .i64 44]) (by simp [results, Tryz.results46, go_sem, cr0, cfr]) rfl ?_
       rw [HE.out, HEX.out]
       exact TreF.err (HBw7.out.setCell (by have := HGw1.out; have := HGw2.out; show w.heap.size ≤ w2.heap.size; omega) _) rfl
      | false =>
       have HCB := Lib.hid hcb; clear hcb
       have HE := Lib.hid (show chgE L d = 0 by rw [HCE.out, if_neg (by rw [HC.out]; decide), if_neg (by rw [HMV.out]; decide), if_neg (by rw [HCB.out]; decide)])
       have HEX := Lib.hid (show chgX L d = chgL L d by unfold chgX; rw [HE.out]; rfl)
       have ct0 := tw7.out.1 0 _ rfl
       have cfr := rw7.out.2.1
       go_wp2_with fail
       refine (copies_any (some ⟨b3, o3, none⟩) c L _ B (Nat.le_trans HB.out HBw7.out.size) (HX.out.keep (HBw7.out.mono HB.out)) (by have := HVL.out; omega) (fun x hx => attrs_le (HVT.out.chk x hx))).mono ?_
       rintro e w8 ⟨hbw8, v, rfl, hown⟩
       clear ct0 cfr
       have HSw8 := Lib.hid (show w7.heap.size ≤ w8.heap.size from hbw8.size)
       have HBw8 := Lib.hid (HBw7.out.trans (hbw8.mono HBw7.out.size))
       have tw8 := Lib.hid (tw7.out.kept (grown_none hbw8) (fun e => by cases e))
       have pw8 := Lib.hid (pw7.out.kept (grown_none hbw8) (fun e => by cases e))
       have rw8 := Lib.hid (rw7.out.kept (grown_none hbw8) (fun e => by cases e))
       have ow8 := Lib.hid (ow7.out.kept (grown_none hbw8) (fun e => by cases e))
       clear hbw8
       rw [filter_any] at hown
       have HRLT := Lib.hid (show w2.heap.size < w7.heap.size from rw7.out.2.2)
       rcases hown.opened with ⟨-, hnil⟩ | ⟨gr, cap, cur, css, rfl, hrow⟩
       · rw [hnil] at hi0; simp at hi0
       have hrl := hrow.le; have hrm := hrow.lim
       unfold maxLen at hrm
       have HROW := Lib.hid hrow; have HGR := Lib.hid hrow.lo
       clear hown hrow
       have cp0 := pw8.out.1 0 _ rfl
       have cp1 := pw8.out.1 1 _ rfl
       have cp2 := pw8.out.1 2 _ rfl
       have cp3 := pw8.out.1 3 _ rfl
       have cp4 := pw8.out.1 4 _ rfl
       have cp5 := pw8.out.1 5 _ rfl
       have cp6 := pw8.out.1 6 _ rfl
       have cp7 := pw8.out.1 7 _ rfl
       have cp8 := pw8.out.1 8 _ rfl
       have cp9 := pw8.out.1 9 _ rfl
       have cfr := rw8.out.2.1
       go_wp2_with fail
       refine (copied_any d A2 c2 _ B (Nat.le_trans HB.out HBw8.out.size) (HA.out.keep (HBw8.out.mono HB.out)) HDA.out).mono ?_
       rintro e w9 ⟨hbw9, A4, c4, rfl, hsl⟩
       clear cp0 cp1 cp2 cp3 cp4 cp5 cp6 cp7 cp8 cp9 cfr
       have HSw9 := Lib.hid (show w8.heap.size ≤ w9.heap.size from hbw9.size)
       have HBw9 := Lib.hid (HBw8.out.trans (hbw9.mono HBw8.out.size))
       have tw9 := Lib.hid (tw8.out.kept (grown_none hbw9) (fun e => by cases e))
       have pw9 := Lib.hid (pw8.out.kept (grown_none hbw9) (fun e => by cases e))
       have rw9 := Lib.hid (rw8.out.kept (grown_none hbw9) (fun e => by cases e))
       have ow9 := Lib.hid (ow8.out.kept (grown_none hbw9) (fun e => by cases e))
       have HROWw9 := Lib.hid (HROW.out.below hbw9)
       clear hbw9
       have HSL := Lib.hid hsl; clear hsl
       have hcell : ∀ j, j < 10 → ∃ u, w9.cell? ⟨gr, i0 * 10 + j, none⟩ = some u := fun j hj => by
        obtain ⟨cs0, h1, h2, h3⟩ := HROWw9.out.at_ HX0.out
        have h4 : cs0.length = 10 := RepS.lenS h2
        exact ⟨_, h3 j _ (List.getElem?_eq_getElem (by omega))⟩
       have hfz : ∀ j, w9.frozen? ⟨gr, j, none⟩ = false := fun j => HROWw9.out.frozen j
       obtain ⟨v0, e0⟩ := hcell 0 (by decide)
       obtain ⟨v1, e1⟩ := hcell 1 (by decide)
       obtain ⟨v2, e2⟩ := hcell 2 (by decide)
       obtain ⟨v3, e3⟩ := hcell 3 (by decide)
       obtain ⟨v4, e4⟩ := hcell 4 (by decide)
       obtain ⟨v5, e5⟩ := hcell 5 (by decide)
       obtain ⟨v6, e6⟩ := hcell 6 (by decide)
       obtain ⟨v7, e7⟩ := hcell 7 (by decide)
       obtain ⟨v8, e8⟩ := hcell 8 (by decide)
       obtain ⟨v9, e9⟩ := hcell 9 (by decide)
       rw [Nat.add_zero] at e0
       have hic : (i0 : Int) < (L.length : Int) := by omega
       clear hcell
       go_upto_region 13 with fail
       clear e0 e1 e2 e3 e4 e5 e6 e7 e8 e9 hfz
       have HRD := Lib.hid (show RepS.rdS w9 (fun b => w7.heap.size ≤ b ∧ b < w9.heap.size ∧ b ≠ gr) d (devCells d A4 c4) from ⟨A4, c4, rfl, HD.out, HSL.out.mono (fun b hb => ⟨by have := hb.1; have := HSw8.out; omega, hb.2, fun e => by have := hb.1; have := HROW.out.lt; subst e; omega⟩) (fun _ _ _ _ hu => hu)⟩)
       obtain ⟨cur', hset, hrow'⟩ := HROWw9.out.set_ hi0 HRD.out
       obtain ⟨w19, hw9⟩ : ∃ z, ((((((((((w9.setCell ⟨gr, i0 * 10, none⟩ (.int .i64 d.idx)).setCell ⟨gr, i0 * 10 + 1, none⟩ (.int .i64 d.par)).setCell ⟨gr, i0 * 10 + 2, none⟩ (.string d.nm)).setCell ⟨gr, i0 * 10 + 3, none⟩ (.string d.orig)).setCell ⟨gr, i0 * 10 + 4, none⟩ (.string d.sub)).setCell ⟨gr, i0 * 10 + 5, none⟩ (.string d.drv)).setCell ⟨gr, i0 * 10 + 6, none⟩ (.string d.ali)).setCell ⟨gr, i0 * 10 + 7, none⟩ (.int .i64 d.kind)).setCell ⟨gr, i0 * 10 + 8, none⟩ (.int .i64 d.num)).setCell ⟨gr, i0 * 10 + 9, none⟩ (.slice A4 d.attrs.length c4)) = z := ⟨_, rfl⟩
       have hs9 : w9.setRow gr cur' = w19 := hset.symm.trans ((setCells10 w9 gr (i0 * 10) _ _ _ _ _ _ _ _ _ _).trans hw9)
       have hg9 : w9.grownBy w19 (some gr) := by rw [← hs9]; exact grown_setRow _ _ _
       rw [hs9, chg_set HVT.out.wf HX0.out HP0.out] at hrow'
       rw [hw9]
       clear hw9 hset hs9
       have HOW := Lib.hid (show OwnsS (fun b => w7.heap.size ≤ b) w19 w7.heap.size 34 (.slice (some ⟨gr, 0, none⟩) L.length cap) (chgL L d) by have h := hrow'.owns; rw [show (chgL L d).length = L.length by unfold chgL; simp] at h; exact h)
       have HSZ := Lib.hid (show w.heap.size ≤ w7.heap.size from HBw7.out.size)
       have HB9 := Lib.hid (HBw9.out.grown hg9 HBw9.out.size (fun q hq => by obtain rfl := Option.some.inj hq; have := HGR.out; have := HSZ.out; omega))
       have HR9 := Lib.hid (rw9.out.kept hg9 (fun e => by obtain h := Option.some.inj e; have := HGR.out; have := HRLT.out; omega))
       have cr0 := HR9.out.1 0 _ rfl; have cfr := HR9.out.2.1
       clear hg9 hrow'
       go_wp2
       refine bodyPost_ret (v := .tuple #[.agg #[.slice (some ⟨gr, 0, none⟩) L.length cap], .int .i64 0]) (by simp [results, Tryz.results46, go_sem, cr0, cfr]) rfl ?_
       rw [HE.out, HEX.out]
       exact TreF.mk (HB9.out.setCell (by have := HGw1.out; have := HGw2.out; show w.heap.size ≤ w2.heap.size; omega) _) rfl ((HOW.out.grownb (grown_one w19 w2.heap.size 0 _) (fun x (hx : w7.heap.size ≤ x) => by have := HRLT.out; omega) HRLT.out).wide (fun b (hb : w7.heap.size ≤ b) => by have := HSZ.out; show w.heap.size ≤ b; omega) |>.low HSZ.out)
     ·
      have eqx2 : (d.kind == y.kind) = false := by simp; exact fun h => hq h.symm
      have eq2 : (d.kind != y.kind) = true := by rw [bne, eqx2]; rfl
      have HMV := Lib.hid (show movedB y d = true by unfold movedB; simp [hq]); clear hq
      have cp1 := pw6.out.1 1 _ rfl
      have cp3 := pw6.out.1 3 _ rfl
      have cp7 := pw6.out.1 7 _ rfl
      have cr0 := rw6.out.1 0 _ rfl
      have cfr := rw6.out.2.1
      have co1 := ow6.out.1 1 _ rfl
      have co3 := ow6.out.1 3 _ rfl
      have co7 := ow6.out.1 7 _ rfl
      have HE := Lib.hid (show chgE L d = 42 by rw [HCE.out, if_neg (by rw [HC.out]; decide), if_pos HMV.out])
      have HEX := Lib.hid (show chgX L d = [] by unfold chgX; rw [HE.out]; rfl)
      go_wp2
      refine bodyPost_ret (v := .tuple #[.agg #[.slice none 0 0], .int .i64 42]) (by simp [results, Tryz.results46, go_sem, cr0, cfr]) rfl ?_
      rw [HE.out, HEX.out]
      exact TreF.err (HBw6.out.setCell (by have := HGw1.out; have := HGw2.out; show w.heap.size ≤ w2.heap.size; omega) _) rfl
    ·
     have eqx1 : (d.orig.toList == y.orig.toList) = false := by rw [ba_beq]; exact decide_eq_false (fun h => hq h.symm)
     have eq1 : (d.orig.toList != y.orig.toList) = true := by rw [bne, eqx1]; rfl
     have HMV := Lib.hid (show movedB y d = true by unfold movedB; simp [hq]); clear hq
     have cp1 := pw6.out.1 1 _ rfl
     have cp3 := pw6.out.1 3 _ rfl
     have cp7 := pw6.out.1 7 _ rfl
     have cr0 := rw6.out.1 0 _ rfl
     have cfr := rw6.out.2.1
     have co1 := ow6.out.1 1 _ rfl
     have co3 := ow6.out.1 3 _ rfl
     have co7 := ow6.out.1 7 _ rfl
     have HE := Lib.hid (show chgE L d = 42 by rw [HCE.out, if_neg (by rw [HC.out]; decide), if_pos HMV.out])
     have HEX := Lib.hid (show chgX L d = [] by unfold chgX; rw [HE.out]; rfl)
     go_wp2
     refine bodyPost_ret (v := .tuple #[.agg #[.slice none 0 0], .int .i64 42]) (by simp [results, Tryz.results46, go_sem, cr0, cfr]) rfl ?_
     rw [HE.out, HEX.out]
     exact TreF.err (HBw6.out.setCell (by have := HGw1.out; have := HGw2.out; show w.heap.size ≤ w2.heap.size; omega) _) rfl
   ·
    have eqx0 : (d.par == y.par) = false := by simp; exact fun h => hq h.symm
    have eq0 : (d.par != y.par) = true := by rw [bne, eqx0]; rfl
    have HMV := Lib.hid (show movedB y d = true by unfold movedB; simp [hq]); clear hq
    have cp1 := pw6.out.1 1 _ rfl
    have cp3 := pw6.out.1 3 _ rfl
    have cp7 := pw6.out.1 7 _ rfl
    have cr0 := rw6.out.1 0 _ rfl
    have cfr := rw6.out.2.1
    have co1 := ow6.out.1 1 _ rfl
    have co3 := ow6.out.1 3 _ rfl
    have co7 := ow6.out.1 7 _ rfl
    have HE := Lib.hid (show chgE L d = 42 by rw [HCE.out, if_neg (by rw [HC.out]; decide), if_pos HMV.out])
    have HEX := Lib.hid (show chgX L d = [] by unfold chgX; rw [HE.out]; rfl)
    go_wp2
    refine bodyPost_ret (v := .tuple #[.agg #[.slice none 0 0], .int .i64 42]) (by simp [results, Tryz.results46, go_sem, cr0, cfr]) rfl ?_
    rw [HE.out, HEX.out]
    exact TreF.err (HBw6.out.setCell (by have := HGw1.out; have := HGw2.out; show w.heap.size ≤ w2.heap.size; omega) _) rfl
  ·
   have ec : (checkD d != 0) = true := by simpa using hc
   have HC := Lib.hid hc; clear hc
   have cr0 := rw6.out.1 0 _ rfl
   have cfr := rw6.out.2.1
   have HE := Lib.hid (show chgE L d = 41 by rw [HCE.out, if_pos HC.out])
   have HEX := Lib.hid (show chgX L d = [] by unfold chgX; rw [HE.out]; rfl)
   go_wp2
   refine bodyPost_ret (v := .tuple #[.agg #[.slice none 0 0], .int .i64 41]) (by simp [results, Tryz.results46, go_sem, cr0, cfr]) rfl ?_
   rw [HE.out, HEX.out]
   exact TreF.err (HBw6.out.setCell (by have := HGw1.out; have := HGw2.out; show w.heap.size ≤ w2.heap.size; omega) _) rfl
end Go.Proofs.YtidhbckalcjdpaaGreatDoor
namespace Go.Cold
open Go Go.RowKit
theorem OwnsS.rowed {α : Type} [RepS α] {F : Nat → Prop} {w : World} {base : Nat} {T : TypeId} {v : Value} {xs : List α} (h : OwnsS F w base T v xs) (hx : xs ≠ []) : ∃ g cap cur css, v = .slice (some ⟨g, 0, none⟩) xs.length cap ∧ RowIn F w base T g cap xs cur css := by
 rcases h.opened with ⟨-, h0⟩ | h0
 · exact absurd h0 hx
 · exact h0
def clashX (d t : Dev) : Bool := decide (t.idx ≠ d.idx) && clashB t d
theorem clashes_X (L : List Dev) (d : Dev) : L.any (clashX d) = clashesB L d := rfl
end Go.Cold
namespace Go.Proofs.YtidhbckalcjdpaaGreatDoor
open Go.RowKit Go.Cold
set_option maxRecDepth 100000 in
set_option maxHeartbeats 4000000 in
/-- The reference's Change. -/
theorem RChange_any (A : Option Addr) (c : Nat) (L : List Dev) (d : Dev) (A2 : Option Addr) (c2 : Nat) (S : Nat → Prop) (w : World) (B : Nat) (hB : B ≤ w.heap.size) (hxs : SlS w S A c L) (hS : ∀ x, S x → x < B) (hd : devOk d) (has : SlS w S A2 c2 d.attrs) (hvt : VT L) (hok : Ok w) :
  Calls Tryz.prog 47 #[.agg #[.slice A L.length c], .agg #[.int .i64 d.idx, .int .i64 d.par, .string d.nm, .string d.orig, .string d.sub, .string d.drv, .string d.ali, .int .i64 d.kind, .int .i64 d.num, .slice A2 d.attrs.length c2]] w (TreF S (chgE L d) (chgX L d) w) := by
 have hx := SlS.sl hxs hS; have ha := SlS.sl has hS
 have HXS := Lib.hid hxs; have HAS := Lib.hid has; have HSB := Lib.hid hS; clear hxs has hS
 have hvs := hvt.small
 have hvl := hvt.size
 have hx1 := hx.1; have hx2 := hx.2.1
 unfold maxLen at hx2
 have HX := Lib.hid hx; have HB := Lib.hid hB; have HD := Lib.hid hd; have HA := Lib.hid ha; have HVT := Lib.hid hvt; have HOK := Lib.hid hok; have HVS := Lib.hid hvs; have HVL := Lib.hid hvl
 clear hx hB hd ha hvt hok hvs hvl
 go_enter Tryz.func47, Tryz.ntmps47
 go_upto_region 1 with fail
 obtain ⟨w1, hw1⟩ : ∃ w1, w.alloc (.cells #[.slice A L.length c] 29) = w1 := ⟨_, rfl⟩
 have hbw1 : Below w.heap.size w w1 := by rw [← hw1]; exact (Below.refl _ _).alloc (Nat.le_refl _) _
 have HGw1 := Lib.hid (show w1.heap.size = w.heap.size + 1 by rw [← hw1]; simp)
 have HXtw1 := Lib.hid (show BoxL w1 w.heap.size [.slice A L.length c] from box_mk hw1)
 try simp only [hw1]
 have HSw1 := Lib.hid (show w.heap.size ≤ w1.heap.size from hbw1.size)
 have HBw1 := Lib.hid hbw1
 clear hw1 hbw1
 try rw [show w.heap.size + 1 = w1.heap.size from HGw1.out.symm]
 obtain ⟨w2, hw2⟩ : ∃ w2, w1.alloc (.cells #[.int .i64 d.idx, .int .i64 d.par, .string d.nm, .string d.orig, .string d.sub, .string d.drv, .string d.ali, .int .i64 d.kind, .int .i64 d.num, .slice A2 d.attrs.length c2] 34) = w2 := ⟨_, rfl⟩
 have hbw2 : Below w1.heap.size w1 w2 := by rw [← hw2]; exact (Below.refl _ _).alloc (Nat.le_refl _) _
 have HGw2 := Lib.hid (show w2.heap.size = w1.heap.size + 1 by rw [← hw2]; simp)
 have HXpw2 := Lib.hid (show BoxL w2 w1.heap.size [.int .i64 d.idx, .int .i64 d.par, .string d.nm, .string d.orig, .string d.sub, .string d.drv, .string d.ali, .int .i64 d.kind, .int .i64 d.num, .slice A2 d.attrs.length c2] from box_mk hw2)
 try simp only [hw2]
 have HSw2 := Lib.hid (show w1.heap.size ≤ w2.heap.size from hbw2.size)
 have HBw2 := Lib.hid (HBw1.out.trans (hbw2.mono HBw1.out.size))
 have tw2 := Lib.hid (HXtw1.out.kept (grown_none hbw2) (fun e => by cases e))
 clear hw2 hbw2
 try rw [show w1.heap.size + 1 = w2.heap.size from HGw2.out.symm]
 obtain ⟨w3, hw3⟩ : ∃ w3, w2.alloc (.cells #[.slice none 0 0] 29) = w3 := ⟨_, rfl⟩
 have hbw3 : Below w2.heap.size w2 w3 := by rw [← hw3]; exact (Below.refl _ _).alloc (Nat.le_refl _) _
 have HGw3 := Lib.hid (show w3.heap.size = w2.heap.size + 1 by rw [← hw3]; simp)
 have HXrw3 := Lib.hid (show BoxL w3 w2.heap.size [.slice none 0 0] from box_mk hw3)
 try simp only [hw3]
 have HSw3 := Lib.hid (show w2.heap.size ≤ w3.heap.size from hbw3.size)
 have HBw3 := Lib.hid (HBw2.out.trans (hbw3.mono HBw2.out.size))
 have tw3 := Lib.hid (tw2.out.kept (grown_none hbw3) (fun e => by cases e))
 have pw3 := Lib.hid (HXpw2.out.kept (grown_none hbw3) (fun e => by cases e))
 clear hw3 hbw3
 try rw [show w2.heap.size + 1 = w3.heap.size from HGw3.out.symm]
 have ct0 := tw3.out.1 0 _ rfl
 have cp0 := pw3.out.1 0 _ rfl
 have cfr := HXrw3.out.2.1
 go_wp2_with fail
 refine (index_any2 A c L d.idx _ B (HX.out.keep (HBw3.out.mono HB.out))).mono ?_
 rintro e w' ⟨rfl, rfl⟩
 have hidx := idx_cases (fun x => decide (x.idx = d.idx)) L
 obtain ⟨z, hz⟩ : ∃ z, idxInt (fun x => decide (x.idx = d.idx)) L = z := ⟨_, rfl⟩
 rw [hz] at hidx ⊢
 clear hz
 rcases hidx with ⟨rfl, hall⟩ | ⟨i0, x0, rfl, hx0, hp0, -⟩
 ·
  have HNI := Lib.hid (show d.idx ∉ idxs L from fun h => by obtain ⟨e, he, hi⟩ := List.mem_map.1 h; have := of_decide_eq_false (hall e he); exact this hi)
  clear hall
  clear ct0 cp0 cfr
  have cr0 := HXrw3.out.1 0 _ rfl
  have cfr := HXrw3.out.2.1
  have HE := Lib.hid (show chgE L d = 45 by exact chgE_none HNI.out)
  have HEX := Lib.hid (show chgX L d = [] by unfold chgX; rw [HE.out]; rfl)
  go_wp2
  refine bodyPost_ret (v := .tuple #[.agg #[.slice none 0 0], .int .i64 45]) (by simp [results, Tryz.results47, go_sem, cr0, cfr]) rfl ?_
  rw [HE.out, HEX.out]
  exact TreF.err (HBw3.out.setCell (by have := HGw1.out; have := HGw2.out; show w.heap.size ≤ w2.heap.size; omega) _) rfl
 ·
  have hi0 := (List.getElem?_eq_some_iff.1 hx0).1
  have HX0 := Lib.hid hx0; have HP0 := Lib.hid (show x0.idx = d.idx from of_decide_eq_true hp0); clear hp0
  obtain ⟨b3, o3, rfl, hb3, A3, c3, hok3, hat3, hcs3⟩ := (HX.out.keep (HBw3.out.mono HB.out)).dev hi0
  obtain rfl : L[i0] = x0 := (List.getElem?_eq_some_iff.1 hx0).2
  obtain ⟨y, hy⟩ : ∃ y, L[i0]'hi0 = y := ⟨_, rfl⟩
  rw [hy] at hok3 hcs3 hat3 hx0 HP0 HX0
  clear hx0 hy hat3 hok3
  have HDY := Lib.hid hcs3; have HB3 := Lib.hid hb3; clear hcs3 hb3
  have HMEM := Lib.hid (List.mem_of_getElem? HX0.out)
  have HCE := Lib.hid (chgE_cases HVT.out.wf HMEM.out HP0.out)
  have i1 : ¬ (i0 : Int) < 0 := by omega
  have i2 : (i0 : Int) < (L.length : Int) := by omega
  have HNN := Lib.hid (show L ≠ [] from fun h => by rw [h] at hi0; simp at hi0)
  clear ct0 cp0 cfr
  have ct0 := tw3.out.1 0 _ rfl
  have cp0 := pw3.out.1 0 _ rfl
  have cp1 := pw3.out.1 1 _ rfl
  have cp2 := pw3.out.1 2 _ rfl
  have cp3 := pw3.out.1 3 _ rfl
  have cp4 := pw3.out.1 4 _ rfl
  have cp5 := pw3.out.1 5 _ rfl
  have cp6 := pw3.out.1 6 _ rfl
  have cp7 := pw3.out.1 7 _ rfl
  have cp8 := pw3.out.1 8 _ rfl
  have cp9 := pw3.out.1 9 _ rfl
  have cfr := HXrw3.out.2.1
  go_wp2_with fail
  refine (RCheck_any d A2 c2 _ B (Nat.le_trans HB.out HBw3.out.size) HD.out (HA.out.keep (HBw3.out.mono HB.out)) (HOK.out.next HBw3.out)).mono ?_
  rintro e w4 ⟨rfl, hbw4⟩
  clear ct0 cp0 cp1 cp2 cp3 cp4 cp5 cp6 cp7 cp8 cp9 cfr
  have HSw4 := Lib.hid (show w3.heap.size ≤ w4.heap.size from hbw4.size)
  have HBw4 := Lib.hid (HBw3.out.trans (hbw4.mono HBw3.out.size))
  have tw4 := Lib.hid (tw3.out.kept (grown_none hbw4) (fun e => by cases e))
  have pw4 := Lib.hid (pw3.out.kept (grown_none hbw4) (fun e => by cases e))
  have rw4 := Lib.hid (HXrw3.out.kept (grown_none hbw4) (fun e => by cases e))
  have HSTC := Lib.hid hbw4
  clear hbw4
  by_cases hc : checkD d = 0
  ·
   have HDS := Lib.hid (show d.orig.size ≤ 32 from valid_size (check_names hc).2.1)
   have ec : (checkD d != 0) = false := by rw [hc]; rfl
   have HC := Lib.hid hc; try rw [hc]
   clear hc
   have ct0 := tw4.out.1 0 _ rfl
   have cfr := rw4.out.2.1
   obtain ⟨y0, y1, y2, y3, y4, y5, y6, y7, y8, y9⟩ := HDY.out.keep HSTC.out (by have := HB3.out; have := HB.out; have := HGw1.out; have := HGw2.out; have := HGw3.out; omega)
   go_upto_region 7 with fail
   clear y0 y1 y2 y3 y4 y5 y6 y7 y8 y9
   obtain ⟨w5, hw5⟩ : ∃ w5, w4.alloc (.cells #[.int .i64 y.idx, .int .i64 y.par, .string y.nm, .string y.orig, .string y.sub, .string y.drv, .string y.ali, .int .i64 y.kind, .int .i64 y.num, .slice A3 y.attrs.length c3] 34) = w5 := ⟨_, rfl⟩
   have hbw5 : Below w4.heap.size w4 w5 := by rw [← hw5]; exact (Below.refl _ _).alloc (Nat.le_refl _) _
   have HGw5 := Lib.hid (show w5.heap.size = w4.heap.size + 1 by rw [← hw5]; simp)
   have HXow5 := Lib.hid (show BoxL w5 w4.heap.size [.int .i64 y.idx, .int .i64 y.par, .string y.nm, .string y.orig, .string y.sub, .string y.drv, .string y.ali, .int .i64 y.kind, .int .i64 y.num, .slice A3 y.attrs.length c3] from box_mk hw5)
   try simp only [hw5]
   have HSw5 := Lib.hid (show w4.heap.size ≤ w5.heap.size from hbw5.size)
   have HBw5 := Lib.hid (HBw4.out.trans (hbw5.mono HBw4.out.size))
   have tw5 := Lib.hid (tw4.out.kept (grown_none hbw5) (fun e => by cases e))
   have pw5 := Lib.hid (pw4.out.kept (grown_none hbw5) (fun e => by cases e))
   have rw5 := Lib.hid (rw4.out.kept (grown_none hbw5) (fun e => by cases e))
   clear hw5 hbw5
   try rw [show w4.heap.size + 1 = w5.heap.size from HGw5.out.symm]
   by_cases hq : y.par = d.par
   ·
    have eqx0 : (y.par == d.par) = true := by rw [hq]; simp
    have eq0 : (y.par != d.par) = false := by rw [bne, eqx0]; rfl
    have HE1 := Lib.hid hq; clear hq
    by_cases hq : y.orig = d.orig
    ·
     have eqx1 : (y.orig.toList == d.orig.toList) = true := by rw [hq]; simp
     have eq1 : (y.orig.toList != d.orig.toList) = false := by rw [bne, eqx1]; rfl
     have HE2 := Lib.hid hq; clear hq
     by_cases hq : y.kind = d.kind
     ·
      have eqx2 : (y.kind == d.kind) = true := by rw [hq]; simp
      have eq2 : (y.kind != d.kind) = false := by rw [bne, eqx2]; rfl
      have HE3 := Lib.hid hq; clear hq
      have HMV := Lib.hid (show movedB y d = false by unfold movedB; rw [decide_eq_true HE1.out, decide_eq_true HE2.out, decide_eq_true HE3.out]; rfl)
      clear ct0 cfr
      have cp1 := pw5.out.1 1 _ rfl
      have cp3 := pw5.out.1 3 _ rfl
      have cp7 := pw5.out.1 7 _ rfl
      have cfr := rw5.out.2.1
      have co1 := HXow5.out.1 1 _ rfl
      have co3 := HXow5.out.1 3 _ rfl
      have co7 := HXow5.out.1 7 _ rfl
      go_wp2_with fail
      have HLW := Lib.hid (show w.heap.size < w5.heap.size ∧ w1.heap.size < w5.heap.size ∧ w2.heap.size < w5.heap.size ∧ b3 < w.heap.size from ⟨tw5.out.2.2, pw5.out.2.2, rw5.out.2.2, by have := HB3.out; have := HB.out; omega⟩)
      go_loopw [8] (fun i wr => ∃ k : Nat, k ≤ L.length ∧ i = .int .i64 k ∧ Hid ((L.take k).any (clashX d) = false) ∧ Hid (Below w5.heap.size w5 wr)) (fun i _ => L.length - (intOf i).toNat)
      case atStart => exact ⟨0, Nat.zero_le _, rfl, Lib.hid rfl, Lib.hid (Below.refl _ _)⟩
      case round =>
       obtain ⟨k, hk, rfl, HCL, HBR⟩ := hrel
       have hbr := HBR.out
       clear cp1 cp3 cp7 cfr co1 co3 co7
       have HSwr := Lib.hid (show w5.heap.size ≤ wr.heap.size from hbr.size)
       have HBwr := Lib.hid (HBw5.out.trans (hbr.mono HBw5.out.size))
       have twr := Lib.hid (tw5.out.kept (grown_none hbr) (fun e => by cases e))
       have pwr := Lib.hid (pw5.out.kept (grown_none hbr) (fun e => by cases e))
       have rwr := Lib.hid (rw5.out.kept (grown_none hbr) (fun e => by cases e))
       have owr := Lib.hid (HXow5.out.kept (grown_none hbr) (fun e => by cases e))
       clear hbr
       have ct0 := twr.out.1 0 _ rfl
       have cfr := rwr.out.2.1
       by_cases hlt : k < L.length
       ·
        have i3 : (k : Int) < (L.length : Int) := by omega
        obtain ⟨b4, o4, hA4, hb4, A4, c4, hok4, hat4, hcs4⟩ := (HX.out.keep (HBwr.out.mono HB.out)).dev hlt
        obtain ⟨rfl, rfl⟩ : b3 = b4 ∧ o3 = o4 := by injection hA4 with e; injection e with e1 e2; exact ⟨e1, e2⟩
        have hxk : L[k]? = some L[k] := List.getElem?_eq_getElem hlt
        obtain ⟨x, hx⟩ : ∃ x, L[k]'hlt = x := ⟨_, rfl⟩
        rw [hx] at hok4 hcs4 hxk hat4
        have HXK := Lib.hid hxk; have HDC := Lib.hid hcs4; have HMX := Lib.hid (List.mem_of_getElem? hxk)
        clear hxk hok4 hat4 hx hcs4 hb4 hA4
        go_upto_region 12 with fail
        refine wp_region_held_drew (S := fun w' => BoxL w' w.heap.size [.slice (some ⟨b3, o3, none⟩) L.length c] ∧ BoxL w' w1.heap.size [.int .i64 d.idx, .int .i64 d.par, .string d.nm, .string d.orig, .string d.sub, .string d.drv, .string d.ali, .int .i64 d.kind, .int .i64 d.num, .slice A2 d.attrs.length c2] ∧ DCells w' b3 (o3 + k * 10) x A4 c4) (by kernel_rfl) ⟨twr.out.drew, pwr.out.drew, HDC.out.keep (below_drewN_self wr wr.heap.size 1) (by have := HLW.out; have := HSwr.out; omega)⟩ (fun hS0 => ?_)
        obtain ⟨wd, hwd⟩ : ∃ z, wr.drew = z := ⟨_, rfl⟩
        rw [hwd] at hS0 ⊢
        have hbd : Below wr.heap.size wr wd := by rw [← hwd]; exact below_drewN_self _ _ 1
        have HSTEPD := Lib.hid hbd
        clear hwd
        clear ct0 cfr
        have HSwd := Lib.hid (show wr.heap.size ≤ wd.heap.size from hbd.size)
        have HBwd := Lib.hid (HBwr.out.trans (hbd.mono HBwr.out.size))
        have twd := Lib.hid (twr.out.kept (grown_none hbd) (fun e => by cases e))
        have pwd := Lib.hid (pwr.out.kept (grown_none hbd) (fun e => by cases e))
        have rwd := Lib.hid (rwr.out.kept (grown_none hbd) (fun e => by cases e))
        have owd := Lib.hid (owr.out.kept (grown_none hbd) (fun e => by cases e))
        clear hbd
        have HS1 := Lib.hid hS0; clear hS0
        by_cases hki : k = i0
        ·
         have i5 : ((k : Int) != (i0 : Int)) = false := by rw [hki]; simp
         have i5b : ((k : Int) == (i0 : Int)) = true := by rw [hki]; simp
         refine wpAnyH_take (i := 0) (oi := ⟨some 54, _, _, _, _, _⟩) (v := .int .i64 k) rfl (by kernel_rfl) (by kernel_rfl) (by kernel_rfl) (fun _ _ _ h => h) (Or.inl ⟨by rfl, fun w' hS => by go_simp⟩) HS1.out ?_
         try simp only [Act.put, List.setIfInBounds_toArray, List.set_cons_zero, List.set_cons_succ]
         refine wpAnyH_take (i := 1) (oi := ⟨some 55, _, _, _, _, _⟩) (v := .int .i64 i0) rfl (by kernel_rfl) (by kernel_rfl) (by kernel_rfl) (fun _ _ _ h => h) (Or.inl ⟨by rfl, fun w' hS => by go_simp⟩) HS1.out ?_
         try simp only [Act.put, List.setIfInBounds_toArray, List.set_cons_zero, List.set_cons_succ]
         refine wpAnyH_take (i := 2) (oi := ⟨some 56, _, _, _, _, _⟩) (v := .bool false) rfl (by kernel_rfl) (by kernel_rfl) (by kernel_rfl) (fun _ _ _ h => h) (Or.inl ⟨by rfl, fun w' hS => by go_simp⟩) HS1.out ?_
         try simp only [Act.put, List.setIfInBounds_toArray, List.set_cons_zero, List.set_cons_succ]
         refine wpAnyH_take (i := 3) (oi := ⟨some 57, _, _, _, _, _⟩) (v := .bool false) rfl (by kernel_rfl) (by kernel_rfl) (by kernel_rfl) (fun _ _ _ h => h) (Or.inl ⟨by rfl, fun w' hS => by go_simp⟩) HS1.out ?_
         try simp only [Act.put, List.setIfInBounds_toArray, List.set_cons_zero, List.set_cons_succ]
         refine wpAnyH_take (i := 4) (oi := ⟨some 58, _, _, _, _, _⟩) (v := undef) rfl (by kernel_rfl) (by kernel_rfl) (by kernel_rfl) (fun _ _ _ h => h) (Or.inr ⟨by rfl, rfl⟩) HS1.out ?_
         try simp only [Act.put, List.setIfInBounds_toArray, List.set_cons_zero, List.set_cons_succ]
         refine wpAnyH_take (i := 5) (oi := ⟨some 59, _, _, _, _, _⟩) (v := undef) rfl (by kernel_rfl) (by kernel_rfl) (by kernel_rfl) (fun _ _ _ h => h) (Or.inr ⟨by rfl, rfl⟩) HS1.out ?_
         try simp only [Act.put, List.setIfInBounds_toArray, List.set_cons_zero, List.set_cons_succ]
         refine wpAnyH_take (i := 6) (oi := ⟨some 60, _, _, _, _, _⟩) (v := undef) rfl (by kernel_rfl) (by kernel_rfl) (by kernel_rfl) (fun _ _ _ h => h) (Or.inr ⟨by rfl, rfl⟩) HS1.out ?_
         try simp only [Act.put, List.setIfInBounds_toArray, List.set_cons_zero, List.set_cons_succ]
         refine wpAnyH_take (i := 7) (oi := ⟨some 61, _, _, _, _, _⟩) (v := undef) rfl (by kernel_rfl) (by kernel_rfl) (by kernel_rfl) (fun _ _ _ h => h) (Or.inr ⟨by rfl, rfl⟩) HS1.out ?_
         try simp only [Act.put, List.setIfInBounds_toArray, List.set_cons_zero, List.set_cons_succ]
         refine wpAnyH_take (i := 8) (oi := ⟨some 62, _, _, _, _, _⟩) (v := undef) rfl (by kernel_rfl) (by kernel_rfl) (by kernel_rfl) (fun _ _ _ h => h) (Or.inr ⟨by rfl, rfl⟩) HS1.out ?_
         try simp only [Act.put, List.setIfInBounds_toArray, List.set_cons_zero, List.set_cons_succ]
         refine wpAnyH_take (i := 9) (oi := ⟨some 63, _, _, _, _, _⟩) (v := undef) rfl (by kernel_rfl) (by kernel_rfl) (by kernel_rfl) (fun _ _ _ h => h) (Or.inr ⟨by rfl, rfl⟩) HS1.out ?_
         try simp only [Act.put, List.setIfInBounds_toArray, List.set_cons_zero, List.set_cons_succ]
         refine wpAnyH_take (i := 10) (oi := ⟨some 64, _, _, _, _, _⟩) (v := undef) rfl (by kernel_rfl) (by kernel_rfl) (by kernel_rfl) (fun _ _ _ h => h) (Or.inr ⟨by rfl, rfl⟩) HS1.out ?_
         try simp only [Act.put, List.setIfInBounds_toArray, List.set_cons_zero, List.set_cons_succ]
         refine wpAnyH_take (i := 11) (oi := ⟨some 65, _, _, _, _, _⟩) (v := .bool false) rfl (by kernel_rfl) (by kernel_rfl) (by kernel_rfl) (fun _ _ _ h => h) (Or.inl ⟨by rfl, fun w' hS => by go_simp⟩) HS1.out ?_
         try simp only [Act.put, List.setIfInBounds_toArray, List.set_cons_zero, List.set_cons_succ]
         refine wpAnyH_done (by kernel_rfl) ?_ _
         have HCLn := Lib.hid (any_take_step HCL.out HXK.out (show clashX d x = false from by
          have e : x = y := Option.some.inj (HXK.out.symm.trans (hki ▸ HX0.out))
          unfold clashX; rw [e, HP0.out]; simp))
         have HBQ := Lib.hid (show Below w5.heap.size w5 wd from below_next HBR.out (by have := HSTEPD.out; exact this))
         go_wp2
         go_roundw
         case rel => exact ⟨k + 1, by omega, by go_num, HCLn, Lib.hid HBQ.out⟩
         case measure => simp [intOf]; omega
        ·
         have i5 : ((k : Int) != (i0 : Int)) = true := by simp; omega
         have i5b : ((k : Int) == (i0 : Int)) = false := by simp; omega
         have HNX := Lib.hid (chg_other HVT.out.wf HX0.out HP0.out HXK.out hki)
         refine wpAnyH_take (i := 0) (oi := ⟨some 54, _, _, _, _, _⟩) (v := .int .i64 k) rfl (by kernel_rfl) (by kernel_rfl) (by kernel_rfl) (fun _ _ _ h => h) (Or.inl ⟨by rfl, fun w' hS => by go_simp⟩) HS1.out ?_
         try simp only [Act.put, List.setIfInBounds_toArray, List.set_cons_zero, List.set_cons_succ]
         refine wpAnyH_take (i := 1) (oi := ⟨some 55, _, _, _, _, _⟩) (v := .int .i64 i0) rfl (by kernel_rfl) (by kernel_rfl) (by kernel_rfl) (fun _ _ _ h => h) (Or.inl ⟨by rfl, fun w' hS => by go_simp⟩) HS1.out ?_
         try simp only [Act.put, List.setIfInBounds_toArray, List.set_cons_zero, List.set_cons_succ]
         refine wpAnyH_take (i := 2) (oi := ⟨some 56, _, _, _, _, _⟩) (v := .bool true) rfl (by kernel_rfl) (by kernel_rfl) (by kernel_rfl) (fun _ _ _ h => h) (Or.inl ⟨by rfl, fun w' hS => by go_simp⟩) HS1.out ?_
         try simp only [Act.put, List.setIfInBounds_toArray, List.set_cons_zero, List.set_cons_succ]
         refine wpAnyH_take (i := 3) (oi := ⟨some 57, _, _, _, _, _⟩) (v := .bool true) rfl (by kernel_rfl) (by kernel_rfl) (by kernel_rfl) (fun _ _ _ h => h) (Or.inl ⟨by rfl, fun w' hS => by go_simp⟩) HS1.out ?_
         try simp only [Act.put, List.setIfInBounds_toArray, List.set_cons_zero, List.set_cons_succ]
         refine wpAnyH_take (i := 4) (oi := ⟨some 58, _, _, _, _, _⟩) (v := .pointer (some ⟨w.heap.size, 0, none⟩)) rfl (by kernel_rfl) (by kernel_rfl) (by kernel_rfl) (fun _ _ _ h => h) (Or.inl ⟨by rfl, fun w' hS => by go_simp⟩) HS1.out ?_
         try simp only [Act.put, List.setIfInBounds_toArray, List.set_cons_zero, List.set_cons_succ]
         refine wpAnyH_take (i := 5) (oi := ⟨some 59, _, _, _, _, _⟩) (v := .slice (some ⟨b3, o3, none⟩) L.length c) rfl (by kernel_rfl) (by kernel_rfl) (by kernel_rfl) (fun _ _ _ h => h) (Or.inl ⟨by rfl, fun w' hS => by (have u0_ := hS.1.1 0 _ rfl; go_simp)⟩) HS1.out ?_
         try simp only [Act.put, List.setIfInBounds_toArray, List.set_cons_zero, List.set_cons_succ]
         refine wpAnyH_take (i := 6) (oi := ⟨some 60, _, _, _, _, _⟩) (v := .int .i64 k) rfl (by kernel_rfl) (by kernel_rfl) (by kernel_rfl) (fun _ _ _ h => h) (Or.inl ⟨by rfl, fun w' hS => by go_simp⟩) HS1.out ?_
         try simp only [Act.put, List.setIfInBounds_toArray, List.set_cons_zero, List.set_cons_succ]
         refine wpAnyH_take (i := 7) (oi := ⟨some 61, _, _, _, _, _⟩) (v := .pointer (some ⟨b3, o3 + k * 10, none⟩)) rfl (by kernel_rfl) (by kernel_rfl) (by kernel_rfl) (fun _ _ _ h => h) (Or.inl ⟨by rfl, fun w' hS => by go_simp⟩) HS1.out ?_
         try simp only [Act.put, List.setIfInBounds_toArray, List.set_cons_zero, List.set_cons_succ]
         refine wpAnyH_take (i := 8) (oi := ⟨some 62, _, _, _, _, _⟩) (v := .agg #[.int .i64 x.idx, .int .i64 x.par, .string x.nm, .string x.orig, .string x.sub, .string x.drv, .string x.ali, .int .i64 x.kind, .int .i64 x.num, .slice A4 x.attrs.length c4]) rfl (by kernel_rfl) (by kernel_rfl) (by kernel_rfl) (fun _ _ _ h => h) (Or.inl ⟨by rfl, fun w' hS => by (obtain ⟨u0, u1, u2, u3, u4, u5, u6, u7, u8, u9⟩ := hS.2.2; go_simp)⟩) HS1.out ?_
         try simp only [Act.put, List.setIfInBounds_toArray, List.set_cons_zero, List.set_cons_succ]
         refine wpAnyH_take (i := 9) (oi := ⟨some 63, _, _, _, _, _⟩) (v := .agg #[.int .i64 d.idx, .int .i64 d.par, .string d.nm, .string d.orig, .string d.sub, .string d.drv, .string d.ali, .int .i64 d.kind, .int .i64 d.num, .slice A2 d.attrs.length c2]) rfl (by kernel_rfl) (by kernel_rfl) (by kernel_rfl) (fun _ _ _ h => h) (Or.inl ⟨by rfl, fun w' hS => by (have u0 := hS.2.1.1 0 _ rfl; have u1 := hS.2.1.1 1 _ rfl; have u2 := hS.2.1.1 2 _ rfl; have u3 := hS.2.1.1 3 _ rfl; have u4 := hS.2.1.1 4 _ rfl; have u5 := hS.2.1.1 5 _ rfl; have u6 := hS.2.1.1 6 _ rfl; have u7 := hS.2.1.1 7 _ rfl; have u8 := hS.2.1.1 8 _ rfl; have u9 := hS.2.1.1 9 _ rfl; go_simp)⟩) HS1.out ?_
         try simp only [Act.put, List.setIfInBounds_toArray, List.set_cons_zero, List.set_cons_succ]
         obtain ⟨q, hq⟩ : ∃ q, clashB x d = q := ⟨_, rfl⟩
         have HQ := Lib.hid hq; clear hq
         refine wpAnyH_ready (rs := [10]) (by kernel_rfl) (by simp) ?_
         refine AllReadyH.cons (o := ⟨some 64, .call ⟨_, _, _⟩, _, _, _, _⟩) rfl (fun K hK => ?_) AllReadyH.nil
         go_simp
         go_at_call 60
         refine (RClash_any x d A4 A2 c4 c2 wd (by have := (HVS.out x HMX.out).1; omega) (by have := HDS.out; omega) (HOK.out.next HBwd.out)).mono ?_
         rintro e' q3 ⟨rfl, hb_⟩
         have HSQ := Lib.hid (show (BoxL q3 w.heap.size [.slice (some ⟨b3, o3, none⟩) L.length c] ∧ BoxL q3 w1.heap.size [.int .i64 d.idx, .int .i64 d.par, .string d.nm, .string d.orig, .string d.sub, .string d.drv, .string d.ali, .int .i64 d.kind, .int .i64 d.num, .slice A2 d.attrs.length c2] ∧ DCells q3 b3 (o3 + k * 10) x A4 c4) from ⟨HS1.out.1.kept (grown_none hb_) (fun e => by cases e), HS1.out.2.1.kept (grown_none hb_) (fun e => by cases e), HS1.out.2.2.keep hb_ (by have := HLW.out; have := HSwr.out; have := HSwd.out; omega)⟩)
         have hbq_ := hb_
         rw [HQ.out]
         refine hK.out _ _ HSQ.out (fun _ => ?_)
         clear hK K
         try simp only [Act.put, List.setIfInBounds_toArray, List.set_cons_zero, List.set_cons_succ]
         have HSQ3 := Lib.hid hbq_
         have HSq3 := Lib.hid (show wd.heap.size ≤ q3.heap.size from hbq_.size)
         have HBq3 := Lib.hid (HBwd.out.trans (hbq_.mono HBwd.out.size))
         have tq3 := Lib.hid (twd.out.kept (grown_none hbq_) (fun e => by cases e))
         have pq3 := Lib.hid (pwd.out.kept (grown_none hbq_) (fun e => by cases e))
         have rq3 := Lib.hid (rwd.out.kept (grown_none hbq_) (fun e => by cases e))
         have oq3 := Lib.hid (owd.out.kept (grown_none hbq_) (fun e => by cases e))
         clear hbq_ hb_
         refine wpAnyH_take (i := 11) (oi := ⟨some 65, _, _, _, _, _⟩) (v := .bool q) rfl (by kernel_rfl) (by kernel_rfl) (by kernel_rfl) (fun _ _ _ h => h) (Or.inl ⟨by rfl, fun w' hS => by go_simp⟩) HSQ.out ?_
         try simp only [Act.put, List.setIfInBounds_toArray, List.set_cons_zero, List.set_cons_succ]
         refine wpAnyH_done (by kernel_rfl) ?_ _
         cases q with
         | true =>
          have cr0 := rq3.out.1 0 _ rfl
          have cfr := rq3.out.2.1
          have HE := Lib.hid (show chgE L d = 44 by rw [HCE.out, if_neg (by rw [HC.out]; decide), if_neg (by rw [HMV.out]; decide), if_pos ((clashes_X L d).symm.trans (any_stop (p := clashX d) HXK.out (by unfold clashX; rw [HQ.out, decide_eq_true HNX.out]; rfl)))])
          have HEX := Lib.hid (show chgX L d = [] by unfold chgX; rw [HE.out]; rfl)
          go_wp2
          refine bodyPost_ret (v := .tuple #[.agg #[.slice none 0 0], .int .i64 44]) (by simp [results, Tryz.results47, go_sem, cr0, cfr]) rfl ?_
          rw [HE.out, HEX.out]
          exact TreF.err (HBq3.out.setCell (by have := HGw1.out; have := HGw2.out; show w.heap.size ≤ w2.heap.size; omega) _) rfl
         | false =>
          have HCLn := Lib.hid (any_take_step HCL.out HXK.out (show clashX d x = false from by unfold clashX; rw [HQ.out, Bool.and_false]))
          have HBQ := Lib.hid (show Below w5.heap.size w5 q3 from below_next (below_next HBR.out HSTEPD.out) HSQ3.out)
          go_wp2
          go_roundw
          case rel => exact ⟨k + 1, by omega, by go_num, HCLn, Lib.hid HBQ.out⟩
          case measure => simp [intOf]; omega
       ·
        have i3 : ¬ (k : Int) < (L.length : Int) := by omega
        obtain rfl : k = L.length := by omega
        have HE := Lib.hid (show chgE L d = 0 by have h := HCL.out; rw [List.take_length, clashes_X] at h; rw [HCE.out, if_neg (by rw [HC.out]; decide), if_neg (by rw [HMV.out]; decide), if_neg (by rw [h]; decide)])
        have HEX := Lib.hid (show chgX L d = chgL L d by unfold chgX; rw [HE.out]; rfl)
        have HSLR := Lib.hid (show SlS wr (fun b => S b ∧ b < wr.heap.size ∧ (.slice none 0 0 : Value).ownBlock ≠ some b) (some ⟨b3, o3, none⟩) c L from (SlS.below HXS.out HBwr.out (fun x hx => by have := HSB.out x hx; have := HB.out; omega)).mono (fun b hb => ⟨hb, by have := HSB.out b hb; have := HB.out; have := HLW.out; have := HSwr.out; omega, fun h => by cases h⟩) (fun _ _ _ _ hu => hu))
        go_upto_region 15 with (at_builtin; go_must (refine wpList_app rfl _ _ rfl (.slice none 0 0) (.slice (some ⟨b3, o3, none⟩) L.length c) rfl rfl (run_appL E_dev _ (.slice none 0 0) ([] : List Dev) (OwnsS.nil_ S wr wr.heap.size _) (some ⟨b3, o3, none⟩) c L (.inl HSLR.out) (by have := HVL.out; simp only [List.length_nil]; unfold maxLen; omega) (by have := HVL.out; simp only [List.length_nil]; omega) (Nat.le_refl _)) ?_); intro v1 w9 h_; obtain ⟨hown_, hg_, hnew_⟩ := h_; rw [List.nil_append] at hown_; obtain ⟨gr, cap, cur, css, hv_, hrow⟩ := hown_.rowed HNN.out; subst hv_; have hrl := hrow.le; have hrm := hrow.lim; unfold maxLen at hrm; have HROW := Lib.hid hrow; have HGR := Lib.hid hrow.lo; have HG9 := Lib.hid (below_own (Below.refl wr.heap.size wr) hg_ (Nat.le_refl _) (fun k hk => by cases hk)); clear hown_ hg_ hnew_ hrow)
        have hb9 := HG9.out
        have HSw9 := Lib.hid (show wr.heap.size ≤ w9.heap.size from hb9.size)
        have HBw9 := Lib.hid (HBwr.out.trans (hb9.mono HBwr.out.size))
        have tw9 := Lib.hid (twr.out.kept (grown_none hb9) (fun e => by cases e))
        have pw9 := Lib.hid (pwr.out.kept (grown_none hb9) (fun e => by cases e))
        have rw9 := Lib.hid (rwr.out.kept (grown_none hb9) (fun e => by cases e))
        have ow9 := Lib.hid (owr.out.kept (grown_none hb9) (fun e => by cases e))
        clear hb9
        obtain ⟨w10, hw10⟩ : ∃ w10, w9.alloc (.cells #[.slice (some ⟨gr, 0, none⟩) L.length cap] 29) = w10 := ⟨_, rfl⟩
        have hbw10 : Below w9.heap.size w9 w10 := by rw [← hw10]; exact (Below.refl _ _).alloc (Nat.le_refl _) _
        have HGw10 := Lib.hid (show w10.heap.size = w9.heap.size + 1 by rw [← hw10]; simp)
        have HXuw10 := Lib.hid (show BoxL w10 w9.heap.size [.slice (some ⟨gr, 0, none⟩) L.length cap] from box_mk hw10)
        try simp only [hw10]
        have HSw10 := Lib.hid (show w9.heap.size ≤ w10.heap.size from hbw10.size)
        have HBw10 := Lib.hid (HBw9.out.trans (hbw10.mono HBw9.out.size))
        have tw10 := Lib.hid (tw9.out.kept (grown_none hbw10) (fun e => by cases e))
        have pw10 := Lib.hid (pw9.out.kept (grown_none hbw10) (fun e => by cases e))
        have rw10 := Lib.hid (rw9.out.kept (grown_none hbw10) (fun e => by cases e))
        have ow10 := Lib.hid (ow9.out.kept (grown_none hbw10) (fun e => by cases e))
        have HROWw10 := Lib.hid (HROW.out.below hbw10)
        clear hw10 hbw10
        try rw [show w9.heap.size + 1 = w10.heap.size from HGw10.out.symm]
        clear ct0 cfr
        have cp0 := pw10.out.1 0 _ rfl
        have cp1 := pw10.out.1 1 _ rfl
        have cp2 := pw10.out.1 2 _ rfl
        have cp3 := pw10.out.1 3 _ rfl
        have cp4 := pw10.out.1 4 _ rfl
        have cp5 := pw10.out.1 5 _ rfl
        have cp6 := pw10.out.1 6 _ rfl
        have cp7 := pw10.out.1 7 _ rfl
        have cp8 := pw10.out.1 8 _ rfl
        have cp9 := pw10.out.1 9 _ rfl
        have cfr := rw10.out.2.1
        have cu0 := HXuw10.out.1 0 _ rfl
        have hcell : ∀ j, j < 10 → ∃ u, w10.cell? ⟨gr, i0 * 10 + j, none⟩ = some u := fun j hj => by
         obtain ⟨cs0, h1, h2, h3⟩ := HROWw10.out.at_ HX0.out
         have h4 : cs0.length = 10 := RepS.lenS h2
         exact ⟨_, h3 j _ (List.getElem?_eq_getElem (by omega))⟩
        have hfz : ∀ j, w10.frozen? ⟨gr, j, none⟩ = false := fun j => HROWw10.out.frozen j
        obtain ⟨v0, e0⟩ := hcell 0 (by decide)
        obtain ⟨v1, e1⟩ := hcell 1 (by decide)
        obtain ⟨v2, e2⟩ := hcell 2 (by decide)
        obtain ⟨v3, e3⟩ := hcell 3 (by decide)
        obtain ⟨v4, e4⟩ := hcell 4 (by decide)
        obtain ⟨v5, e5⟩ := hcell 5 (by decide)
        obtain ⟨v6, e6⟩ := hcell 6 (by decide)
        obtain ⟨v7, e7⟩ := hcell 7 (by decide)
        obtain ⟨v8, e8⟩ := hcell 8 (by decide)
        obtain ⟨v9, e9⟩ := hcell 9 (by decide)
        rw [Nat.add_zero] at e0
        clear hcell
        go_upto_region 16 with fail
        clear e0 e1 e2 e3 e4 e5 e6 e7 e8 e9 hfz
        have HRD := Lib.hid (show RepS.rdS w10 (fun b => S b ∧ b < w10.heap.size ∧ b ≠ gr) d (devCells d A2 c2) from ⟨A2, c2, rfl, HD.out, (SlS.below HAS.out HBw10.out (fun x hx => by have := HSB.out x hx; have := HB.out; omega)).mono (fun b hb => ⟨hb, by have := HSB.out b hb; have := HB.out; have := HBw10.out.size; omega, fun e => by have := HSB.out b hb; have := HGR.out; have := HB.out; have := HLW.out; have := HSwr.out; omega⟩) (fun _ _ _ _ hu => hu)⟩)
        obtain ⟨cur', hset, hrow'⟩ := HROWw10.out.set_ hi0 HRD.out
        obtain ⟨w19, hw9⟩ : ∃ z, ((((((((((w10.setCell ⟨gr, i0 * 10, none⟩ (.int .i64 d.idx)).setCell ⟨gr, i0 * 10 + 1, none⟩ (.int .i64 d.par)).setCell ⟨gr, i0 * 10 + 2, none⟩ (.string d.nm)).setCell ⟨gr, i0 * 10 + 3, none⟩ (.string d.orig)).setCell ⟨gr, i0 * 10 + 4, none⟩ (.string d.sub)).setCell ⟨gr, i0 * 10 + 5, none⟩ (.string d.drv)).setCell ⟨gr, i0 * 10 + 6, none⟩ (.string d.ali)).setCell ⟨gr, i0 * 10 + 7, none⟩ (.int .i64 d.kind)).setCell ⟨gr, i0 * 10 + 8, none⟩ (.int .i64 d.num)).setCell ⟨gr, i0 * 10 + 9, none⟩ (.slice A2 d.attrs.length c2)) = z := ⟨_, rfl⟩
        have hs9 : w10.setRow gr cur' = w19 := hset.symm.trans ((setCells10 w10 gr (i0 * 10) _ _ _ _ _ _ _ _ _ _).trans hw9)
        have hg9 : w10.grownBy w19 (some gr) := by rw [← hs9]; exact grown_setRow _ _ _
        rw [hs9, chg_set HVT.out.wf HX0.out HP0.out] at hrow'
        rw [hw9]
        clear hw9 hset hs9
        have HOW := Lib.hid (show OwnsS S w19 wr.heap.size 34 (.slice (some ⟨gr, 0, none⟩) L.length cap) (chgL L d) by have h := hrow'.owns; rw [show (chgL L d).length = L.length by unfold chgL; simp] at h; exact h)
        have HSZ := Lib.hid (show w2.heap.size < wr.heap.size ∧ w.heap.size ≤ wr.heap.size by have := HLW.out; have := HSwr.out; omega)
        have HB19 := Lib.hid (HBw10.out.grown hg9 HBw10.out.size (fun q hq => by obtain rfl := Option.some.inj hq; have := HGR.out; have := HSZ.out; omega))
        clear cp0 cp1 cp2 cp3 cp4 cp5 cp6 cp7 cp8 cp9 cfr cu0
        have HR19 := Lib.hid (rw10.out.kept hg9 (fun e => by obtain h := Option.some.inj e; have := HGR.out; have := HSZ.out; omega))
        have HU19 := Lib.hid (HXuw10.out.kept hg9 (fun e => by obtain h := Option.some.inj e; have := HROW.out.lt; omega))
        have cr0 := HR19.out.1 0 _ rfl; have cfr := HR19.out.2.1; have cu0 := HU19.out.1 0 _ rfl
        clear hg9 hrow'
        go_wp2
        refine bodyPost_ret (v := .tuple #[.agg #[.slice (some ⟨gr, 0, none⟩) L.length cap], .int .i64 0]) (by simp [results, Tryz.results47, go_sem, cr0, cfr]) rfl ?_
        rw [HE.out, HEX.out]
        exact TreF.mk (HB19.out.setCell (by have := HGw1.out; have := HGw2.out; show w.heap.size ≤ w2.heap.size; omega) _) rfl ((HOW.out.grownb (grown_one w19 w2.heap.size 0 _) (fun x hx => by have := HSB.out x hx; have := HB.out; have := HGw1.out; have := HGw2.out; omega) HSZ.out.1).low HSZ.out.2)
     ·
      have eqx2 : (y.kind == d.kind) = false := by simpa using hq
      have eq2 : (y.kind != d.kind) = true := by rw [bne, eqx2]; rfl
      have HMV := Lib.hid (show movedB y d = true by unfold movedB; simp [hq]); clear hq
      clear ct0 cfr
      have cp1 := pw5.out.1 1 _ rfl
      have cp3 := pw5.out.1 3 _ rfl
      have cp7 := pw5.out.1 7 _ rfl
      have cr0 := rw5.out.1 0 _ rfl
      have cfr := rw5.out.2.1
      have co1 := HXow5.out.1 1 _ rfl
      have co3 := HXow5.out.1 3 _ rfl
      have co7 := HXow5.out.1 7 _ rfl
      have HE := Lib.hid (show chgE L d = 42 by rw [HCE.out, if_neg (by rw [HC.out]; decide), if_pos HMV.out])
      have HEX := Lib.hid (show chgX L d = [] by unfold chgX; rw [HE.out]; rfl)
      go_wp2
      refine bodyPost_ret (v := .tuple #[.agg #[.slice none 0 0], .int .i64 42]) (by simp [results, Tryz.results47, go_sem, cr0, cfr]) rfl ?_
      rw [HE.out, HEX.out]
      exact TreF.err (HBw5.out.setCell (by have := HGw1.out; have := HGw2.out; show w.heap.size ≤ w2.heap.size; omega) _) rfl
    ·
     have eqx1 : (y.orig.toList == d.orig.toList) = false := by rw [ba_beq]; exact decide_eq_false hq
     have eq1 : (y.orig.toList != d.orig.toList) = true := by rw [bne, eqx1]; rfl
     have HMV := Lib.hid (show movedB y d = true by unfold movedB; simp [hq]); clear hq
     clear ct0 cfr
     have cp1 := pw5.out.1 1 _ rfl
     have cp3 := pw5.out.1 3 _ rfl
     have cp7 := pw5.out.1 7 _ rfl
     have cr0 := rw5.out.1 0 _ rfl
     have cfr := rw5.out.2.1
     have co1 := HXow5.out.1 1 _ rfl
     have co3 := HXow5.out.1 3 _ rfl
     have co7 := HXow5.out.1 7 _ rfl
     have HE := Lib.hid (show chgE L d = 42 by rw [HCE.out, if_neg (by rw [HC.out]; decide), if_pos HMV.out])
     have HEX := Lib.hid (show chgX L d = [] by unfold chgX; rw [HE.out]; rfl)
     go_wp2
     refine bodyPost_ret (v := .tuple #[.agg #[.slice none 0 0], .int .i64 42]) (by simp [results, Tryz.results47, go_sem, cr0, cfr]) rfl ?_
     rw [HE.out, HEX.out]
     exact TreF.err (HBw5.out.setCell (by have := HGw1.out; have := HGw2.out; show w.heap.size ≤ w2.heap.size; omega) _) rfl
   ·
    have eqx0 : (y.par == d.par) = false := by simpa using hq
    have eq0 : (y.par != d.par) = true := by rw [bne, eqx0]; rfl
    have HMV := Lib.hid (show movedB y d = true by unfold movedB; simp [hq]); clear hq
    clear ct0 cfr
    have cp1 := pw5.out.1 1 _ rfl
    have cp3 := pw5.out.1 3 _ rfl
    have cp7 := pw5.out.1 7 _ rfl
    have cr0 := rw5.out.1 0 _ rfl
    have cfr := rw5.out.2.1
    have co1 := HXow5.out.1 1 _ rfl
    have co3 := HXow5.out.1 3 _ rfl
    have co7 := HXow5.out.1 7 _ rfl
    have HE := Lib.hid (show chgE L d = 42 by rw [HCE.out, if_neg (by rw [HC.out]; decide), if_pos HMV.out])
    have HEX := Lib.hid (show chgX L d = [] by unfold chgX; rw [HE.out]; rfl)
    go_wp2
    refine bodyPost_ret (v := .tuple #[.agg #[.slice none 0 0], .int .i64 42]) (by simp [results, Tryz.results47, go_sem, cr0, cfr]) rfl ?_
    rw [HE.out, HEX.out]
    exact TreF.err (HBw5.out.setCell (by have := HGw1.out; have := HGw2.out; show w.heap.size ≤ w2.heap.size; omega) _) rfl
  ·
   have ec : (checkD d != 0) = true := by simpa using hc
   have HC := Lib.hid hc; clear hc
   have cr0 := rw4.out.1 0 _ rfl
   have cfr := rw4.out.2.1
   have HE := Lib.hid (show chgE L d = 41 by rw [HCE.out, if_pos HC.out])
   have HEX := Lib.hid (show chgX L d = [] by unfold chgX; rw [HE.out]; rfl)
   go_wp2
   refine bodyPost_ret (v := .tuple #[.agg #[.slice none 0 0], .int .i64 41]) (by simp [results, Tryz.results47, go_sem, cr0, cfr]) rfl ?_
   rw [HE.out, HEX.out]
   exact TreF.err (HBw4.out.setCell (by have := HGw1.out; have := HGw2.out; show w.heap.size ≤ w2.heap.size; omega) _) rfl
end Go.Proofs.YtidhbckalcjdpaaGreatDoor
