/-
  The walk of package tree's Remove.
-/
import Derived.Test.YtomcebcaendilaaGreatDoorIS
import Derived.Test.YtomcebcaendilaaGreatDoorIU
import Derived.Test.YtomcebcaendilaaGreatDoorIP
set_option linter.unusedSimpArgs false
set_option linter.unusedVariables false
namespace Go.Cold
open Go Go.RowKit
theorem grown_far {a b c : World} {g k : Nat} (h : a.grownBy b (some g)) (hk : b.grownBy c (some k)) (hl : a.heap.size ≤ k) : a.grownBy c (some g) := by
 obtain ⟨h1, h2, h3, h4, h5⟩ := h
 obtain ⟨k1, k2, k3, k4, k5⟩ := hk
 exact ⟨k1.trans h1, k2.trans h2, k3.trans h3, Nat.le_trans h4 k4, fun i hi hne => (k5 i (by omega) (fun e => by have := Option.some.inj e; omega)).trans (h5 i hi hne)⟩
section
variable {P : Program} {tI tB : TypeId} {base X Y : World} {bg : Nat}
/-- What the range of Remove keeps: its map holds the numbers met; nothing else of the caller's is written. -/
def GoneJ (P : Program) (tI tB : TypeId) (base : World) (bg : Nat) (pre : List DevX) (_ : Nat) (W : World) : Prop :=
 base.grownBy W (some bg) ∧ bg < base.heap.size ∧ MapV P tI tB W bg pre.length (insF (pre.map (fun x => x.1.idx)).reverse)
theorem GoneJ.far {pre : List DevX} {N k : Nat} (h : GoneJ P tI tB base bg pre N X) (hg : X.grownBy Y (some k)) (hl : base.heap.size ≤ k) : GoneJ P tI tB base bg pre N Y := by
 obtain ⟨h1, h2, h3⟩ := h
 exact ⟨grown_far h1 hg hl, h2, h3.kept hg (fun e => by have := Option.some.inj e; omega)⟩
theorem GoneJ.abid {k0 : Nat} (h1 : base.heap.size ≤ k0) : Abid (fun k => k = k0) (GoneJ P tI tB base bg) := fun pre N X Y h hst => by
 rcases hst with hb | ⟨k, rfl, hg⟩
 ·
  obtain ⟨a1, a2, a3⟩ := h
  exact ⟨grown_seq a1 (grown_wide (grown_none hb)), a2, a3.next hb⟩
 · exact h.far hg h1
theorem GoneJ.putl {l : Nat} (h1 : base.heap.size ≤ l) : ∀ pre N X o, GoneJ P tI tB base bg pre N X → GoneJ P tI tB base bg pre N (X.putObj l o) := fun pre N X o h => h.far (grownBy_putObj' X l o) h1
theorem GoneJ.round {pre : List DevX} {x : DevX} {N l D : Nat} {Z : Nat → Prop} {W W' : World} {a : Act} (h : GoneJ P tI tB base bg pre N W) (hg : W.grownBy W' (some bg)) (hm : MapV P tI tB W' bg (pre.length + 1) (updF (insF (pre.map (fun x => x.1.idx)).reverse) x.1.idx true))
  (hZ : ¬ Z bg) (hN : bg < N) (hl : bg ≠ l ∧ bg ≠ D) (hlt : l < W.heap.size ∧ D < W.heap.size) : roundP (GoneJ P tI tB base bg) Z l D (pre ++ [x]) N W .normal a W' := by
 obtain ⟨h1, h2, h3⟩ := h
 refine ⟨⟨grown_seq h1 hg, h2, ?_⟩, KpZ.grown hg (fun hz => hz.elim hZ (fun h => by omega)), hg.block l hlt.1 (fun e => hl.1 (Option.some.inj e).symm), hg.block D hlt.2 (fun e => hl.2 (Option.some.inj e).symm)⟩
 rw [insF_put] at hm
 rw [List.length_append, List.map_append, List.reverse_append]
 exact hm
end
section
variable {α : Type} [El α] {P : Program} {k e t : TypeId} {w : World} {b n : Nat} {f : Int → Option α} {ops : Array Oper} {rest : List Oper} {o : Oper} {a : Act} {Q : Exit → Act → World → Prop}
/-- 'len(m)' in a walk. -/
theorem wpList_lenV (h : MapV P k e w b n f) (ht : P.underlying t = some (.map k e)) (hg : o.guard = none) (m : Operand) (hop : o.op = Op.call { callee := Callee.builtin Builtin.len, args := #[m], argTypes := #[t] }) (hm : a.eval m = .map (some b))
  (hK : ∀ m : Nat, m ≤ n → (m = 0 → ∀ i, okI i → f i = none) → wpList P ops Q rest (a.put o.dst (.int .i64 m)) w) : wpList P ops Q (o :: rest) a w := by
 refine wpList_plain hg fun K' hK' => ?_
 obtain ⟨z, hr, hz1, hz2, -⟩ := h.len_pos ht o.type
 unfold Oper.wp
 simp [execOp, hop, resolve, invoke, builtin, hm, hr, Result.andThen]
 exact hK' _ _ (hK z hz1 hz2)
end
theorem gone_mem {L : List Dev} {n : Int} {d : Dev} (hd : d ∈ L) (ins : List Int) (hi : ∀ k, k ∈ ins ↔ k ∈ idxs (subR L n)) : decide (d.idx ∈ ins) = belowR L n d.idx := by
 rw [Bool.eq_iff_iff, decide_eq_true_eq, hi]
 constructor
 ·
  intro h
  obtain ⟨e, he, hei⟩ := List.mem_map.1 h
  have := (List.mem_filter.1 he).2
  rw [hei] at this; exact this
 ·
  intro h
  exact mem_idxs (List.mem_filter.2 ⟨hd, h⟩)
theorem rem_filter {L : List Dev} {n : Int} (ins : List Int) (hi : ∀ k, k ∈ ins ↔ k ∈ idxs (subR L n)) : (L.filter fun d => !decide (d.idx ∈ ins)) = remL L n := by
 unfold remL
 exact List.filter_congr fun d hd => by rw [gone_mem hd ins hi]
theorem sub_some {L : List Dev} {n : Int} (h : WF L) (hn : n ∈ idxs L) : n ∈ idxs (subR L n) := by
 obtain ⟨d, hd, rfl⟩ := List.mem_map.1 hn
 refine mem_idxs (List.mem_filter.2 ⟨hd, ?_⟩)
 rw [below_cons h hd]; simp
theorem sub_nil {L : List Dev} {n : Int} (h : WF L) (hn : n ∉ idxs L) : subR L n = [] := by
 unfold subR
 rw [List.filter_eq_nil_iff]
 intro d hd hb
 unfold belowR at hb
 rw [List.any_eq_true] at hb
 obtain ⟨e, he, h1⟩ := hb
 have := chain_mem L _ _ e he
 exact hn (of_decide_eq_true h1 ▸ mem_idxs this)
end Go.Cold
namespace Go.Proofs.YtomcebcaendilaaGreatDoor
open Go.RowKit Go.Cold Go.Shelf
attribute [local go_sem] Oper.semAt_some
set_option maxRecDepth 100000 in
theorem remove1_pred (g bg N B : Nat) (ins : List Int) (w : World) (hv : BoxL w g [.map (some bg)]) (hm : MapV Tryz.prog 3 4 w bg N (insF ins)) :
  PredD 56 #[.pointer (some ⟨g, 0, none⟩)] w B (fun _ => True) (fun d => decide (d.idx ∈ ins)) := by
 refine ⟨enters_of Tryz.func56 (by kernel_rfl) rfl, fun x A2 c2 W hxo hat hq hW => ?_⟩
 have HO := Lib.hid hxo; have HV := Lib.hid (hv.kept (grown_none hW) (fun e => by cases e)); have HM := Lib.hid (hm.next hW); clear hxo hat hq hW hv hm
 go_enter Tryz.func56, Tryz.ntmps56
 go_upto_region 1 with fail
 obtain ⟨w1, hw1⟩ : ∃ w1, W.alloc (.cells #[.int .i64 x.idx, .int .i64 x.par, .string x.nm, .string x.orig, .string x.sub, .string x.drv, .string x.ali, .int .i64 x.kind, .int .i64 x.num, .slice A2 x.attrs.length c2] 34) = w1 := ⟨_, rfl⟩
 have hbw1 : Below W.heap.size W w1 := by rw [← hw1]; exact (Below.refl _ _).alloc (Nat.le_refl _) _
 have HGw1 := Lib.hid (show w1.heap.size = W.heap.size + 1 by rw [← hw1]; simp)
 have HXxw1 := Lib.hid (show BoxL w1 W.heap.size [.int .i64 x.idx, .int .i64 x.par, .string x.nm, .string x.orig, .string x.sub, .string x.drv, .string x.ali, .int .i64 x.kind, .int .i64 x.num, .slice A2 x.attrs.length c2] from box_mk hw1)
 try simp only [hw1]
 have HBw1 := Lib.hid hbw1
 have vw1 := Lib.hid (HV.out.kept (grown_none hbw1) (fun e => by cases e))
 have HMw1 := Lib.hid (HM.out.next hbw1)
 clear hw1 hbw1
 try rw [show W.heap.size + 1 = w1.heap.size from HGw1.out.symm]
 have cv0 := vw1.out.1 0 _ rfl
 have cx0 := HXxw1.out.1 0 _ rfl
 have hlk := look_in HMw1.out HO.out.1
 go_wp2
 go_ret
 exact ⟨rfl, HBw1.out⟩
set_option maxRecDepth 100000 in
set_option maxHeartbeats 4000000 in
/-- tree.Remove. -/
theorem Remove_any (A : Option Addr) (c : Nat) (L : List Dev) (n : Int) (w : World) (B : Nat) (hB : B ≤ w.heap.size) (hx : Sl w B A c L) (hv : VT L) (hn : okI n) : Calls Tryz.prog 33 #[.agg #[.slice A L.length c], .int .i64 n] w (TreF (fun b => w.heap.size ≤ b) (remE L n) (remX L n) w) := by
 have hx1 := hx.1; have hx2 := hx.2.1
 unfold maxLen at hx2
 have HX := Lib.hid hx; have HB := Lib.hid hB; have HV := Lib.hid hv; have HN := Lib.hid hn
 clear hx hB hv hn
 refine callsIn_wide.1 (callsIn_of_wp_marks (n := 3) Tryz.func33 rfl trivial ?_ rfl)
 simp only [Tryz.ntmps33, List.size_toArray, List.length_cons, List.length_nil, Nat.reduceAdd, Nat.reduceSub, Array.replicate_succ, Array.replicate_zero, List.push_toArray, List.append_toArray, List.nil_append, List.cons_append]
 rw [wpIn_wide]
 go_upto_region 1 with fail
 obtain ⟨w1, hw1⟩ : ∃ w1, w.alloc (.cells #[.slice A L.length c] 27) = w1 := ⟨_, rfl⟩
 have hbw1 : Below w.heap.size w w1 := by rw [← hw1]; exact (Below.refl _ _).alloc (Nat.le_refl _) _
 have HGw1 := Lib.hid (show w1.heap.size = w.heap.size + 1 by rw [← hw1]; simp)
 have HXtw1 := Lib.hid (show BoxL w1 w.heap.size [.slice A L.length c] from box_mk hw1)
 try simp only [hw1]
 have HSw1 := Lib.hid (show w.heap.size ≤ w1.heap.size from hbw1.size)
 have HBw1 := Lib.hid hbw1
 clear hw1 hbw1
 try rw [show w.heap.size + 1 = w1.heap.size from HGw1.out.symm]
 obtain ⟨w2, hw2⟩ : ∃ w2, w1.alloc (.cells #[.slice none 0 0] 27) = w2 := ⟨_, rfl⟩
 have hbw2 : Below w1.heap.size w1 w2 := by rw [← hw2]; exact (Below.refl _ _).alloc (Nat.le_refl _) _
 have HGw2 := Lib.hid (show w2.heap.size = w1.heap.size + 1 by rw [← hw2]; simp)
 have HXrw2 := Lib.hid (show BoxL w2 w1.heap.size [.slice none 0 0] from box_mk hw2)
 try simp only [hw2]
 have HSw2 := Lib.hid (show w1.heap.size ≤ w2.heap.size from hbw2.size)
 have HBw2 := Lib.hid (HBw1.out.trans (hbw2.mono HBw1.out.size))
 have tw2 := Lib.hid (HXtw1.out.kept (grown_none hbw2) (fun e => by cases e))
 clear hw2 hbw2
 try rw [show w1.heap.size + 1 = w2.heap.size from HGw2.out.symm]
 have cfr := HXrw2.out.2.1
 have hmk1 := fun z => run_makeMap (P := Tryz.prog) 79 z
 go_upto_region 2 with fail
 clear hmk1
 obtain ⟨w3, hw3⟩ : ∃ z, w2.alloc (.map #[] 0) = z := ⟨_, rfl⟩
 have hb_ : Below w2.heap.size w2 w3 := by rw [← hw3]; exact (Below.refl _ _).alloc (Nat.le_refl _) _
 have HGw3 := Lib.hid (show w3.heap.size = w2.heap.size + 1 by rw [← hw3]; simp)
 have HMV := Lib.hid (show MapV Tryz.prog 3 4 w3 w2.heap.size 0 (fun _ => (none : Option Bool)) by rw [← hw3]; exact MapV.made w2 _ _ _)
 simp only [hw3]
 try rw [show w2.heap.size + 1 = w3.heap.size from HGw3.out.symm]
 clear hw3
 clear cfr
 have HSw3 := Lib.hid (show w2.heap.size ≤ w3.heap.size from hb_.size)
 have HBw3 := Lib.hid (HBw2.out.trans (hb_.mono HBw2.out.size))
 have tw3 := Lib.hid (tw2.out.kept (grown_none hb_) (fun e => by cases e))
 have rw3 := Lib.hid (HXrw2.out.kept (grown_none hb_) (fun e => by cases e))
 clear hb_
 obtain ⟨w4, hw4⟩ : ∃ w4, w3.alloc (.cells #[.map (some w2.heap.size)] 79) = w4 := ⟨_, rfl⟩
 have hbw4 : Below w3.heap.size w3 w4 := by rw [← hw4]; exact (Below.refl _ _).alloc (Nat.le_refl _) _
 have HGw4 := Lib.hid (show w4.heap.size = w3.heap.size + 1 by rw [← hw4]; simp)
 have HXgw4 := Lib.hid (show BoxL w4 w3.heap.size [.map (some w2.heap.size)] from box_mk hw4)
 try simp only [hw4]
 have HSw4 := Lib.hid (show w3.heap.size ≤ w4.heap.size from hbw4.size)
 have HBw4 := Lib.hid (HBw3.out.trans (hbw4.mono HBw3.out.size))
 have tw4 := Lib.hid (tw3.out.kept (grown_none hbw4) (fun e => by cases e))
 have rw4 := Lib.hid (rw3.out.kept (grown_none hbw4) (fun e => by cases e))
 have HMVw4 := Lib.hid (HMV.out.next hbw4)
 clear hw4 hbw4
 try rw [show w3.heap.size + 1 = w4.heap.size from HGw4.out.symm]
 have ct0 := tw4.out.1 0 _ rfl
 have cfr := rw4.out.2.1
 go_wp2_with fail
 refine (subtree_any _ n _).mono ?_
 rintro e w6 ⟨rfl, hw_⟩
 obtain ⟨w5, hw5⟩ : ∃ z, w4.alloc (.cells #[.slice A L.length c] 27) = z := ⟨_, rfl⟩
 have hb_ : Below w4.heap.size w4 w5 := by rw [← hw5]; exact (Below.refl _ _).alloc (Nat.le_refl _) _
 have HGw5 := Lib.hid (show w5.heap.size = w4.heap.size + 1 by rw [← hw5]; simp)
 have HXt2 := Lib.hid (show BoxL w5 w4.heap.size [.slice A L.length c] from box_mk hw5)
 rw [hw5] at hw_
 try rw [show w4.heap.size + 1 = w5.heap.size from HGw5.out.symm]
 clear hw5
 clear ct0 cfr
 have HSw5 := Lib.hid (show w4.heap.size ≤ w5.heap.size from hb_.size)
 have HBw5 := Lib.hid (HBw4.out.trans (hb_.mono HBw4.out.size))
 have tw5 := Lib.hid (tw4.out.kept (grown_none hb_) (fun e => by cases e))
 have rw5 := Lib.hid (rw4.out.kept (grown_none hb_) (fun e => by cases e))
 have gw5 := Lib.hid (HXgw4.out.kept (grown_none hb_) (fun e => by cases e))
 have HMVw5 := Lib.hid (HMVw4.out.next hb_)
 clear hb_
 have hb_ : Below w5.heap.size w5 w6 := by rw [hw_]; exact (Below.refl _ _).alloc (Nat.le_refl _) _
 have HGw6 := Lib.hid (show w6.heap.size = w5.heap.size + 1 by rw [hw_]; simp)
 have HXi := Lib.hid (show BoxL w6 w5.heap.size [.int .i64 n] from box_mk hw_.symm)
 clear hw_
 have HSw6 := Lib.hid (show w5.heap.size ≤ w6.heap.size from hb_.size)
 have HBw6 := Lib.hid (HBw5.out.trans (hb_.mono HBw5.out.size))
 have tw6 := Lib.hid (tw5.out.kept (grown_none hb_) (fun e => by cases e))
 have rw6 := Lib.hid (rw5.out.kept (grown_none hb_) (fun e => by cases e))
 have gw6 := Lib.hid (gw5.out.kept (grown_none hb_) (fun e => by cases e))
 have Tw6 := Lib.hid (HXt2.out.kept (grown_none hb_) (fun e => by cases e))
 have HMVw6 := Lib.hid (HMVw5.out.next hb_)
 clear hb_
 have HNUM := Lib.hid (show B ≤ w.heap.size ∧ w.heap.size + 1 ≤ w2.heap.size ∧ w2.heap.size < w3.heap.size ∧ w3.heap.size < w4.heap.size ∧ w4.heap.size < w5.heap.size ∧ w5.heap.size < w6.heap.size from ⟨HB.out, by have := HGw1.out; have := HGw2.out; omega, by have := HGw3.out; omega, by have := HGw4.out; omega, by have := HGw5.out; omega, by have := HGw6.out; omega⟩)
 have HDL := Lib.hid (show ∀ (pre : List DevX) (y : Dev) t, pre.map (·.1) ++ y :: t = subGo n L [] → y ∈ L ∧ pre.length + 1 ≤ 256 from fun pre y t h => by rw [sub_same HV.out.wf] at h; exact ⟨(List.mem_filter.1 (show y ∈ subR L n by rw [← h]; simp)).1, by have h1 : (subR L n).length ≤ L.length := List.length_filter_le _ _; rw [← h] at h1; simp at h1; have := HV.out.size; omega⟩)
 have HGB := gw6; have HMVW := HMVw6
 go_wp2_with fail
 refine wpIn_wide.1 (wpIn_rangeB (n := 3) 12 7 rfl (by omega) rfl trivial (enters_of Tryz.func87 (by kernel_rfl) rfl) (subtree1_seq 2 (w4.heap.size) (w5.heap.size) A c B L n w6 (Nat.le_trans HB.out HBw6.out.size) Tw6.out HXi.out (HX.out.keep (HBw6.out.mono HB.out)) HV.out.wf.uniq (by have := HV.out.size; omega) (by have := HNUM.out; omega)) (fun k hk => by show k ≠ _ ∧ k ≠ _; have hk : k = w6.heap.size + 2 := hk; omega) (fun h => by have := HNUM.out; unfold suZ at h; omega) (GoneJ Tryz.prog 3 4 w6 w2.heap.size) (GoneJ.abid (by omega)) (GoneJ.putl (by omega)) (fun W0 hW0 hs0 => ⟨grown_wide (grown_none hW0), by have := HNUM.out; omega, (HMVW.out.next hW0).congr (fun _ _ => rfl)⟩) (nxX_keep (by have := HNUM.out; omega)) (fun x => #[.int .i64 x.1.idx, .int .i64 x.1.par, .string x.1.nm, .string x.1.orig, .string x.1.sub, .string x.1.drv, .string x.1.ali, .int .i64 x.1.kind, .int .i64 x.1.num, .slice x.2.1 x.1.attrs.length x.2.2]) 34 ?assign ?body ?done)
 case assign =>
  intro l x W0 K hK
  simp only [encV] at hK ⊢
  gi_wp2
  exact hK
 case body =>
  rintro pre ⟨y, A2, c2⟩ N W0 g7 hJ hN hNg hNx hbox hsz
  obtain ⟨⟨t, ht⟩, hok, hat⟩ := hNx
  obtain ⟨hym, hpl⟩ := HDL.out pre y t ht
  have hgb := (HGB.out.kept hJ.1 (fun e => by have := Option.some.inj e; have := HNUM.out; omega)).1 0 _ rfl
  have hm0 := hJ.2.2
  have HJ := Lib.hid hJ; have HM0 := Lib.hid hm0; have HOK := Lib.hid hok; have HNN := Lib.hid hN; have HSZ := Lib.hid hsz
  have y0 := hbox.1 0 _ rfl
  clear hJ hm0 hok hat hbox hNg ht hym hN hsz
  simp only [encV]
  gi_wp2_with (gi_at_mapUpdate; refine wpListIn_put rfl _ _ _ _ rfl HM0.out Tryz.underlying79 Tryz.underlying3 Tryz.underlying4 rfl y.idx true HOK.out.1 trivial (by unfold maxLen; omega) rfl rfl ?_; intro w5 hm_ hg_; have HM5 := Lib.hid hm_; have HG5 := Lib.hid hg_; clear hm_ hg_)
  exact GoneJ.round (x := (y, A2, c2)) HJ.out HG5.out HM5.out (fun h => by have := HNUM.out; unfold suZ at h; omega) (by have := HNUM.out; have := HNN.out; omega) (by have := HNUM.out; omega) (by have := HSZ.out; omega)
 case done =>
  intro xs N W0 hS hJ hD
  obtain ⟨hgr, -, hmv⟩ := hJ
  have hbr : Below w.heap.size w W0 := HBw6.out.grown hgr HBw6.out.size (fun q hq => by have := Option.some.inj hq; have := HNUM.out; omega)
  have HZt := Lib.hid (tw6.out.kept hgr (fun e => by have := Option.some.inj e; have := HNUM.out; have := HGw1.out; have := HGw2.out; omega))
  have HZr := Lib.hid (rw6.out.kept hgr (fun e => by have := Option.some.inj e; have := HNUM.out; have := HGw1.out; have := HGw2.out; omega))
  have HZg := Lib.hid (gw6.out.kept hgr (fun e => by have := Option.some.inj e; have := HNUM.out; have := HGw1.out; have := HGw2.out; omega))
  have HSUB := Lib.hid (show xs.map (·.1) = subR L n by rw [← sub_same HV.out.wf]; exact hS)
  obtain ⟨ins, hins⟩ : ∃ z, (xs.map (fun x => x.1.idx)).reverse = z := ⟨_, rfl⟩
  rw [hins] at hmv
  have HIN := Lib.hid (show ∀ k, k ∈ ins ↔ k ∈ idxs (subR L n) from fun k => by rw [← hins, ← HSUB.out]; unfold idxs; simp)
  have HXL := Lib.hid (show xs.length = (subR L n).length by rw [← HSUB.out]; simp)
  have HD := Lib.hid hD; have HMV0 := Lib.hid hmv; have HBW0 := Lib.hid hbr; have HS0 := Lib.hid (show w6.heap.size < W0.heap.size ∧ w6.heap.size ≤ W0.heap.size from ⟨(Array.getElem?_eq_some_iff.1 hD).1, hgr.size⟩)
  clear hS hgr hmv hbr hD hins
  have ct0 := HZt.out.1 0 _ rfl
  have cr0 := HZr.out.1 0 _ rfl
  have cfr := HZr.out.2.1
  have cg0 := HZg.out.1 0 _ rfl
  go_upto_if 18 with (at_len; refine wpList_lenV HMV0.out Tryz.underlying79 rfl _ rfl rfl ?_; intro m hm1 hm2; have HM1 := Lib.hid hm1; have HM2 := Lib.hid hm2; clear hm1 hm2)
  by_cases hm : m = 0
  ·
   have em : ((m : Int) == 0) = true := by simp [hm]
   have HNI := Lib.hid (show n ∉ idxs L from fun h => by have h2 := HM2.out hm n HN.out; unfold insF at h2; rw [if_pos ((HIN.out n).2 (sub_some HV.out.wf h))] at h2; cases h2)
   clear hm
   clear ct0 cr0 cfr cg0
   have cr0 := HZr.out.1 0 _ rfl; have cfr := HZr.out.2.1
   go_wp2
   have hgx := grown_one W0 w1.heap.size 0 (.slice none 0 0)
   have hrx := HZr.out.set_ (j := 0) (by simp) (.slice none 0 0)
   obtain ⟨wx, hwx⟩ : ∃ z, W0.setCell ⟨w1.heap.size, 0, none⟩ (.slice none 0 0) = z := ⟨_, rfl⟩
   rw [hwx] at hgx hrx ⊢
   clear hwx
   have HNQ := Lib.hid (show w1.heap.size < w6.heap.size ∧ w.heap.size ≤ w1.heap.size ∧ w6.heap.size < W0.heap.size ∧ W0.heap.size ≤ W0.heap.size from ⟨by have := HNUM.out; have := HGw2.out; omega, by have := HGw1.out; omega, HS0.out.1, Nat.le_refl _⟩)
   have hdx : wx.heap[w6.heap.size]? = some _ := (hgx.block w6.heap.size (by have := HNQ.out; omega) (fun e => by have := Option.some.inj e; have := HNQ.out; omega)).trans HD.out
   have hgf := grownBy_putObj' wx w6.heap.size (.deferred none)
   have hrf := hrx.kept hgf (fun e => by have := Option.some.inj e; have := HNQ.out; omega)
   have cr0 := hrf.1 0 _ rfl
   have hbf : Below w.heap.size w (wx.putObj w6.heap.size (.deferred none)) := (HBW0.out.grown hgx HBW0.out.size (fun q hq => by have := Option.some.inj hq; have := HNQ.out; omega)).grown hgf (by have := HBW0.out.size; have := hgx.size; omega) (fun q hq => by have := Option.some.inj hq; have := HNQ.out; omega)
   refine ⟨by simp, .inl ⟨_, _, rfl, run_takeDeferred hdx, ?_⟩⟩
   refine ⟨.tuple #[.agg #[.slice none 0 0], .int .i64 45], by simp [results, Tryz.results33, go_sem, cr0], ?_⟩
   rw [show remE L n = 45 from if_neg HNI.out, show remX L n = [] from if_neg HNI.out]
   exact TreF.err hbf rfl
  ·
   have em : ((m : Int) == 0) = false := by simp [hm]
   have HNI := Lib.hid (show n ∈ idxs L from Classical.byContradiction fun h => by have h1 := HM1.out; have h2 := HXL.out; rw [sub_nil HV.out.wf h, List.length_nil] at h2; omega)
   clear hm
   clear ct0 cr0 cfr cg0
   have ct0 := HZt.out.1 0 _ rfl
   have cfr := HZr.out.2.1
   go_wp2_with fail
   refine (copies_any A c L _ B (Nat.le_trans HB.out HBW0.out.size) (HX.out.keep (HBW0.out.mono HB.out)) (by have := HV.out.size; omega) (fun x hx => attrs_le (HV.out.chk x hx))).mono ?_
   rintro e w7 ⟨hbw7, v, rfl, hown⟩
   clear ct0 cfr
   have HSw7 := Lib.hid (show W0.heap.size ≤ w7.heap.size from hbw7.size)
   have HBw7 := Lib.hid (HBW0.out.trans (hbw7.mono HBW0.out.size))
   have tw7 := Lib.hid (HZt.out.kept (grown_none hbw7) (fun e => by cases e))
   have rw7 := Lib.hid (HZr.out.kept (grown_none hbw7) (fun e => by cases e))
   have gw7 := Lib.hid (HZg.out.kept (grown_none hbw7) (fun e => by cases e))
   have HMVw7 := Lib.hid (HMV0.out.next hbw7)
   have HWV := Lib.hid hbw7
   clear hbw7
   rw [filter_any] at hown
   have HOW := Lib.hid hown; clear hown
   go_wp2_with fail
   refine (SlDelete_any (fun b => W0.heap.size ≤ b) W0.heap.size v L _ _ (fun _ => True) (fun d => decide (d.idx ∈ ins)) W0 w7 HOW.out (remove1_pred w3.heap.size w2.heap.size _ _ ins W0 HZg.out HMV0.out) (fun _ _ => trivial) (by have := HV.out.size; omega) (Nat.le_refl _) HWV.out HWV.out.size).mono ?_
   rintro e wz ⟨v2, rfl, hown2, hg2⟩
   rw [rem_filter ins HIN.out] at hown2
   have hlow : ∀ k, v.ownBlock = some k → W0.heap.size ≤ k := fun k hk => (HOW.out.lt k hk).1
   have HBz := Lib.hid (below_own HBw7.out hg2 HBw7.out.size (fun k hk => by have := hlow k hk; have := HNUM.out; have := HS0.out; omega))
   have HRz := Lib.hid (rw7.out.kept hg2 (fun e => by have := hlow _ e.symm; have := HNUM.out; have := HS0.out; have := HGw2.out; omega))
   have HDz := Lib.hid ((hg2.block w6.heap.size (by have := HS0.out; have := HWV.out.size; omega) (fun e => by have := hlow _ e.symm; have := HS0.out; omega)).trans ((HWV.out.block w6.heap.size (by have := HS0.out; omega)).trans HD.out))
   have HSZz := Lib.hid (show W0.heap.size ≤ wz.heap.size from Nat.le_trans HWV.out.size hg2.size)
   have HOWz := Lib.hid hown2
   obtain ⟨A9, c9, hv9, -⟩ := HOWz.out.sl
   subst hv9
   clear hown2 hg2 hlow
   have cr0 := HRz.out.1 0 _ rfl; have cfr := HRz.out.2.1
   go_wp2
   have hgx := grown_one wz w1.heap.size 0 (.slice A9 (remL L n).length c9)
   have hrx := HRz.out.set_ (j := 0) (by simp) (.slice A9 (remL L n).length c9)
   obtain ⟨wx, hwx⟩ : ∃ z, wz.setCell ⟨w1.heap.size, 0, none⟩ (.slice A9 (remL L n).length c9) = z := ⟨_, rfl⟩
   rw [hwx] at hgx hrx ⊢
   clear hwx
   have HNQ := Lib.hid (show w1.heap.size < w6.heap.size ∧ w.heap.size ≤ w1.heap.size ∧ w6.heap.size < W0.heap.size ∧ W0.heap.size ≤ wz.heap.size from ⟨by have := HNUM.out; have := HGw2.out; omega, by have := HGw1.out; omega, HS0.out.1, HSZz.out⟩)
   have hdx : wx.heap[w6.heap.size]? = some _ := (hgx.block w6.heap.size (by have := HNQ.out; omega) (fun e => by have := Option.some.inj e; have := HNQ.out; omega)).trans HDz.out
   have hgf := grownBy_putObj' wx w6.heap.size (.deferred none)
   have hrf := hrx.kept hgf (fun e => by have := Option.some.inj e; have := HNQ.out; omega)
   have cr0 := hrf.1 0 _ rfl
   have hbf : Below w.heap.size w (wx.putObj w6.heap.size (.deferred none)) := (HBz.out.grown hgx HBz.out.size (fun q hq => by have := Option.some.inj hq; have := HNQ.out; omega)).grown hgf (by have := HBz.out.size; have := hgx.size; omega) (fun q hq => by have := Option.some.inj hq; have := HNQ.out; omega)
   have hof := (HOWz.out.grownb hgx (fun x (hx : W0.heap.size ≤ x) => by have := HNQ.out; omega) (by have := HNQ.out; omega)).grownb hgf (fun x (hx : W0.heap.size ≤ x) => by have := HNQ.out; omega) (by have := HNQ.out; omega)
   refine ⟨by simp, .inl ⟨_, _, rfl, run_takeDeferred hdx, ?_⟩⟩
   refine ⟨.tuple #[.agg #[.slice A9 (remL L n).length c9], .int .i64 0], by simp [results, Tryz.results33, go_sem, cr0], ?_⟩
   rw [show remE L n = 0 from if_pos HNI.out, show remX L n = remL L n from if_pos HNI.out]
   exact TreF.mk hbf rfl ((hof.wide (fun b (hb : W0.heap.size ≤ b) => by have := HNQ.out; show w.heap.size ≤ b; omega)).low (by have := HNQ.out; omega))
end Go.Proofs.YtomcebcaendilaaGreatDoor
namespace Go.Cold
open Go Go.RowKit
end Go.Cold
namespace Go.Proofs.YtomcebcaendilaaGreatDoor
open Go.RowKit Go.Cold
end Go.Proofs.YtomcebcaendilaaGreatDoor
namespace Go.Cold
open Go Go.RowKit
end Go.Cold
namespace Go.Proofs.YtomcebcaendilaaGreatDoor
open Go.RowKit Go.Cold
end Go.Proofs.YtomcebcaendilaaGreatDoor
