/-
  The walk of layer 7's reference: the reader of contents.
-/
import Derived.Test.YtnlocdhhecockaaGreatDoorRdC
import Derived.Test.YtnlocdhhecockaaGreatDoorCqA
import Derived.Deep.RegionHeld3
import Derived.Deep.DeepCutAuto
set_option linter.unusedSimpArgs false
set_option linter.unusedVariables false
namespace Go.Cold
open Go Go.RowKit Go.Proofs.YtnlocdhhecockaaGreatDoor
theorem split_size (sep : ByteArray) : ∀ (k : Nat) (s x : ByteArray), x ∈ Lib.splitB sep 0 k s → x.size ≤ s.size
  | 0, s, x, h => by simp [Lib.splitB] at h; subst h; exact Nat.le_refl _
  | k + 1, s, x, h => by
    unfold Lib.splitB at h
    split at h
    · simp at h; subst h; exact Nat.le_refl _
    · rcases List.mem_cons.1 h with rfl | h
      · rw [ByteArray.size_extract]; omega
      · have := split_size sep k _ x h
        rw [ByteArray.size_extract] at this; omega
theorem parts_size {c : UInt8} {s x : ByteArray} (h : x ∈ partsB c s) : x.size ≤ s.size := split_size _ _ _ _ h
theorem parts_length (c : UInt8) (s : ByteArray) : (partsB c s).length = Lib.countB s ⟨#[c]⟩ + 1 := Lib.splitB_all ⟨#[c]⟩ (by show 1 ≤ 1; omega) 0 _ s rfl
theorem numR_bound (s : ByteArray) : 0 ≤ numR s ∧ numR s ≤ 99 := by
  unfold numR
  split
  · split <;> omega
  · split <;> omega
  · omega
theorem headP_kind {P : List ByteArray} {c : Cont} (h : headP P = some c) : ∃ k i l s t e, c = .mk k i l s t e [] := by
  unfold headP at h
  simp only at h
  repeat' split at h
  all_goals first | (cases h; done) | (obtain rfl := Option.some.inj h; exact ⟨_, _, _, _, _, _, rfl⟩)
theorem loop_len (f : ByteArray → Option (Cont × ByteArray)) (hf : ∀ s c r, f s = some (c, r) → nodesC c + r.size ≤ s.size + 1) : ∀ (n : Nat) (rest : ByteArray) (acc l : List Cont) (r : ByteArray), rest.size > 0 →
    loopR f n rest acc = some (l, r) → nodesL l + r.size ≤ nodesL acc + rest.size ∧ 0 < r.size
  | 0, _, _, _, _, _, h => by cases h
  | n + 1, rest, acc, l, r, hpos, h => by
    rw [loopR] at h
    split at h
    · obtain ⟨rfl, rfl⟩ := Prod.mk.inj (Option.some.inj h); exact ⟨Nat.le_refl _, hpos⟩
    · split at h
      · cases h
      · rename_i x more hx
        split at h
        · cases h
        · have h1 := hf _ _ _ hx
          obtain ⟨h2, h3⟩ := loop_len f hf n more (acc ++ [x]) l r (by omega) h
          rw [nodesL_app] at h2
          rw [ByteArray.size_extract] at h1
          exact ⟨by omega, h3⟩
theorem read_len : ∀ (d : Nat) (s : ByteArray) (c : Cont) (r : ByteArray), readR d s = some (c, r) → nodesC c + r.size ≤ s.size + 1 := by
  have hz : nodesC zeroC = 1 := by unfold zeroC; rw [nodesC, nodesL]
  intro d
  induction d with
  | zero =>
    intro s c r h
    rw [readR] at h
    split at h
    · obtain ⟨rfl, rfl⟩ := Prod.mk.inj (Option.some.inj h); rw [hz]; omega
    · cases h
  | succ d ih =>
    intro s c r h
    rw [readR] at h
    split at h
    · obtain ⟨rfl, rfl⟩ := Prod.mk.inj (Option.some.inj h); rw [hz]; omega
    · unfold readS at h
      have hr : (s.extract (untilN s brE) s.size).size ≤ s.size := by rw [ByteArray.size_extract]; omega
      simp only at h
      split at h
      · cases h
      · rename_i c0 hc0
        obtain ⟨k, i, l, sl, t, e, rfl⟩ := headP_kind hc0
        split at h
        · obtain ⟨rfl, rfl⟩ := Prod.mk.inj (Option.some.inj h); rw [nodesC, nodesL]; omega
        · split at h
          · split at h
            · cases h
            · rename_i hhead _ l1 r1 hl
              obtain ⟨rfl, rfl⟩ := Prod.mk.inj (Option.some.inj h)
              have hpos : 0 < (s.extract (untilN s brE) s.size).size := by
                rcases Nat.eq_zero_or_pos (s.extract (untilN s brE) s.size).size with h0 | h0
                · rw [← ba_size] at h0; rw [List.eq_nil_of_length_eq_zero h0] at hhead; cases hhead
                · exact h0
              obtain ⟨h1, h2⟩ := loop_len _ ih _ _ _ _ _ hpos hl
              unfold putIn
              rw [nodesC, ByteArray.size_extract]
              rw [nodesL] at h1
              omega
          · cases h
theorem read_end {d : Nat} {s : ByteArray} (h : headE s.data.toList.head? = true) : readR d s = some (zeroC, s) := by
  cases d <;> rw [readR, if_pos h]
theorem readS_none {f : ByteArray → Option (Cont × ByteArray)} {s : ByteArray} (h : headP (partsB 58 (s.extract 0 (untilN s brE))) = none) : readS f s = none := by
  unfold readS; simp only [h]
theorem readS_fs {f : ByteArray → Option (Cont × ByteArray)} {s : ByteArray} {c : Cont} (h : headP (partsB 58 (s.extract 0 (untilN s brE))) = some c) (hk : kindOf c = 1) : readS f s = some (c, s.extract (untilN s brE) s.size) := by
  unfold readS; simp only [h]; rw [if_pos hk]
theorem readS_nobr {f : ByteArray → Option (Cont × ByteArray)} {s : ByteArray} {c : Cont} (h : headP (partsB 58 (s.extract 0 (untilN s brE))) = some c) (hk : kindOf c ≠ 1) (hb : (s.extract (untilN s brE) s.size).data.toList.head? ≠ some 40) : readS f s = none := by
  unfold readS; simp only [h]; rw [if_neg hk, if_neg hb]
theorem readS_loop {f : ByteArray → Option (Cont × ByteArray)} {s : ByteArray} {c : Cont} (h : headP (partsB 58 (s.extract 0 (untilN s brE))) = some c) (hk : kindOf c ≠ 1) (hb : (s.extract (untilN s brE) s.size).data.toList.head? = some 40) :
    readS f s = (loopR f (s.extract (untilN s brE) s.size).size (s.extract (untilN s brE) s.size) []).map fun x => (putIn c x.1, x.2.extract 1 x.2.size) := by
  unfold readS; simp only [h]; rw [if_neg hk, if_pos hb]
  cases loopR f (s.extract (untilN s brE) s.size).size (s.extract (untilN s brE) s.size) [] <;> rfl
theorem head_none {s : ByteArray} {x : UInt8} (hx : s.data.toList[0]? = some x) (h1 : x.toNat ≠ 44) (h2 : x.toNat ≠ 41) : headE s.data.toList.head? = false := by
  rw [List.head?_eq_getElem?, hx]
  unfold headE
  have a1 : x ≠ 44 := fun e => h1 (by rw [e]; rfl)
  have a2 : x ≠ 41 := fun e => h2 (by rw [e]; rfl)
  simp [a1, a2]
theorem head_some {s : ByteArray} {x : UInt8} (hx : s.data.toList[0]? = some x) (h : x.toNat = 44 ∨ x.toNat = 41) : headE s.data.toList.head? = true := by
  rw [List.head?_eq_getElem?, hx]
  unfold headE
  rcases h with h | h
  · have : x = 44 := UInt8.toNat_inj.1 h
    subst this; rfl
  · have : x = 41 := UInt8.toNat_inj.1 h
    subst this; rfl
theorem head_empty {s : ByteArray} (h : s.size = 0) : headE s.data.toList.head? = true := by
  rw [← ba_size] at h; rw [List.eq_nil_of_length_eq_zero h]; rfl
theorem head_is {s : ByteArray} {x : UInt8} (hx : s.data.toList[0]? = some x) {n : Nat} (hn : n < 256) : s.data.toList.head? = some (UInt8.ofNat n) ↔ x.toNat = n := by
  rw [List.head?_eq_getElem?, hx]
  constructor
  · intro h; obtain rfl := Option.some.inj h; simp; omega
  · intro h; congr 1; apply UInt8.toNat_inj.1; simp; omega
/-- Where the reader stands: the content so far lies in block gc, the result's in gr. -/
def StQ (w0 : World) (gr gc : Nat) (w : World) (cs : List Value) : Prop := Below w0.heap.size w0 w ∧ BoxL w gc cs ∧ BoxL w gr zeroL ∧ (w0.heap.size ≤ gr ∧ gr < gc)
section
variable {w0 w w' : World} {gr gc : Nat} {cs : List Value}
theorem StQ.below (h : StQ w0 gr gc w cs) (hb : Below w.heap.size w w') : StQ w0 gr gc w' cs := by
  obtain ⟨h1, h2, h3, h4⟩ := h
  exact ⟨h1.trans (hb.mono h1.size), h2.kept (grown_none hb) (fun e => by cases e), h3.kept (grown_none hb) (fun e => by cases e), h4⟩
theorem StQ.set_ (h : StQ w0 gr gc w cs) {j : Nat} (hj : j < cs.length) (v : Value) : StQ w0 gr gc (w.setCell ⟨gc, j, none⟩ v) (cs.set j v) := by
  obtain ⟨h1, h2, h3, h4, h5⟩ := h
  exact ⟨h1.setCell (by show w0.heap.size ≤ gc; omega) _, h2.set_ hj v, h3.far (by omega) v, h4, h5⟩
theorem StQ.row {row : Option Nat} (h : StQ w0 gr gc w cs) (hg : w.grownBy w' row) (hr : ∀ q, row = some q → gc < q) : StQ w0 gr gc w' cs := by
  obtain ⟨h1, h2, h3, h4, h5⟩ := h
  exact ⟨h1.grown hg h1.size (fun q hq => by have := hr q hq; omega), h2.kept hg (fun e => by have := hr gc e.symm; omega), h3.kept hg (fun e => by have := hr gr e.symm; omega), h4, h5⟩
end
theorem below7 {B gr : Nat} {a w : World} (h : Below B a w) (hg : B ≤ gr) (v0 v1 v2 v3 v4 v5 v6 : Value) : Below B a (((((((w.setCell ⟨gr, 0, none⟩ v0).setCell ⟨gr, 1, none⟩ v1).setCell ⟨gr, 2, none⟩ v2).setCell ⟨gr, 3, none⟩ v3).setCell ⟨gr, 4, none⟩ v4).setCell ⟨gr, 5, none⟩ v5).setCell ⟨gr, 6, none⟩ v6) :=
  ((((((h.setCell (by exact hg) _).setCell (by exact hg) _).setCell (by exact hg) _).setCell (by exact hg) _).setCell (by exact hg) _).setCell (by exact hg) _).setCell (by exact hg) _
theorem below7d {B gr : Nat} {a w : World} (h : Below B a w) (hg : B ≤ gr) (v0 v1 v2 v3 v4 v5 v6 : Value) : Below B a ((((((((w.setCell ⟨gr, 0, none⟩ v0).setCell ⟨gr, 1, none⟩ v1).setCell ⟨gr, 2, none⟩ v2).setCell ⟨gr, 3, none⟩ v3).setCell ⟨gr, 4, none⟩ v4).setCell ⟨gr, 5, none⟩ v5).setCell ⟨gr, 6, none⟩ v6)).drew := below_drewN (below7 h hg v0 v1 v2 v3 v4 v5 v6) 1
theorem NewC.drew {w w' : World} {c : Cont} {cs : List Value} (h : NewC w w' c cs) : NewC w w'.drew c cs := by
  unfold NewC at h
  show CRdS w'.drew (fun b => w.heap.size ≤ b ∧ b < w'.heap.size) c cs
  exact CRdS_mono (w := w') (w' := w'.drew) (fun _ h => h) (fun y o u hy hu => ((below_drewN_self w' w'.heap.size 1).cell (p := ⟨y, o, none⟩) (by exact hy.2)).trans hu) c cs h
theorem BoxL.drew {w : World} {g : Nat} {cs : List Value} (h : BoxL w g cs) : BoxL w.drew g cs := h.kept (grown_none (below_drewN_self w _ 1)) (fun e => by cases e)
theorem box_mk {w w' : World} {t : TypeId} {cs : Array Value} (h : w.alloc (.cells cs t) = w') : BoxL w' w.heap.size cs.toList := by
  refine ⟨fun j u hu => ?_, box7f h, by rw [← h]; simp⟩
  rw [← h, World.cell?_alloc_at _ _ _ _ rfl]
  simpa using hu
end Go.Cold
namespace Go.Proofs.YtnlocdhhecockaaGreatDoor
open Go.RowKit Go.Cold

/-- The variable of the library that Split reads. -/
def Ok8 (w : World) : Prop := ∃ m, w.cell? ⟨1, 0, none⟩ = some (.int .i64 m)
theorem Ok8.below {w w' : World} (h : Ok8 w) (hb : Below w.heap.size w w') : Ok8 w' := by
  obtain ⟨m, hm⟩ := h
  exact ⟨m, (hb.cell (p := ⟨_, 0, none⟩) (by exact block_lt_of_cell hm)).trans hm⟩
theorem RSplit_one (s : ByteArray) (c : UInt8) (w : World) (hs : s.size ≤ 1000) (hok : Ok8 w) : Calls Tryz.prog 32 #[.string s, .string ⟨#[c]⟩] w fun e w' => e = .returned (.slice (some ⟨w.heap.size, 0, none⟩) (partsB c s).length (partsB c s).length) ∧ w' = w.alloc (.cells ((partsB c s).map Value.string).toArray 9) := by
  obtain ⟨m, hm⟩ := hok
  rw [parts_length]
  exact Tryz.strings_Split s ⟨#[c]⟩ m w (by omega) hm (by show 1 ≤ 1; omega)
def ReadPost (R : Option (Cont × ByteArray)) (w : World) (e : Ending) (w' : World) : Prop := Below w.heap.size w w' ∧
  ((∃ c cs r, R = some (c, r) ∧ e = .returned (.tuple #[.agg cs.toArray, .string r, .bool true]) ∧ NewC w w' c cs) ∨
   (R = none ∧ ∃ k i l s t le A n cp, e = .returned (.tuple #[.agg #[.int .i64 k, .string i, .string l, .int .i64 s, .int .i64 t, .int .i64 le, .slice A n cp], .string ⟨#[]⟩, .bool false])))
def ReadCalls (d : Nat) : Prop := ∀ (s : ByteArray) (w : World), s.size ≤ 256 → Ok8 w → Calls Tryz.prog 17 #[.string s, .int .i64 d] w (ReadPost (readR d s) w)
theorem zero_post {d : Nat} {s : ByteArray} (h : headE s.data.toList.head? = true) {w w5 : World} (hb : Below w.heap.size w w5) :
    ReadPost (readR d s) w (.returned (.tuple #[.agg #[.int .i64 0, .string ByteArray.empty, .string ByteArray.empty, .int .i64 0, .int .i64 0, .int .i64 0, .slice none 0 0], .string s, .bool true])) (((((((w5.setCell ⟨w.heap.size, 0, none⟩ (.int .i64 0)).setCell ⟨w.heap.size, 1, none⟩ (.string ByteArray.empty)).setCell ⟨w.heap.size, 2, none⟩ (.string ByteArray.empty)).setCell ⟨w.heap.size, 3, none⟩ (.int .i64 0)).setCell ⟨w.heap.size, 4, none⟩ (.int .i64 0)).setCell ⟨w.heap.size, 5, none⟩ (.int .i64 0)).setCell ⟨w.heap.size, 6, none⟩ (.slice none 0 0)) := by
  refine ⟨below7 hb (Nat.le_refl _) _ _ _ _ _ _ _, .inl ⟨zeroC, zeroL, s, read_end h, rfl, ?_⟩⟩
  unfold NewC zeroC zeroL
  rw [CRdS]
  exact ⟨none, 0, rfl, ⟨by unfold okInt; omega, by unfold maxLen; decide, by unfold maxLen; decide, by unfold okInt; omega, by unfold okInt; omega, by unfold okInt; omega⟩, Nat.le_refl _, by unfold maxLen; omega, fun h => by simp at h⟩
theorem fail_post {R : Option (Cont × ByteArray)} (h : R = none) {w w5 : World} (hb : Below w.heap.size w w5) {gr : Nat} (hg : w.heap.size ≤ gr) (k : Int) (i l : ByteArray) (s t le : Int) (A : Option Addr) (n cp : Nat) :
    ReadPost R w (.returned (.tuple #[.agg #[.int .i64 k, .string i, .string l, .int .i64 s, .int .i64 t, .int .i64 le, .slice A n cp], .string ⟨#[]⟩, .bool false])) (((((((w5.setCell ⟨gr, 0, none⟩ (.int .i64 k)).setCell ⟨gr, 1, none⟩ (.string i)).setCell ⟨gr, 2, none⟩ (.string l)).setCell ⟨gr, 3, none⟩ (.int .i64 s)).setCell ⟨gr, 4, none⟩ (.int .i64 t)).setCell ⟨gr, 5, none⟩ (.int .i64 le)).setCell ⟨gr, 6, none⟩ (.slice A n cp)) :=
  ⟨below7 hb hg _ _ _ _ _ _ _, .inr ⟨h, _, _, _, _, _, _, _, _, _, rfl⟩⟩
/-- The loop of the reader: what is read, and what is still to be read. -/
def RdRel (w0 : World) (gr gc lo : Nat) (T : TypeId) (K : Int) (p1 : ByteArray) (S Tt L : Int) (f : ByteArray → Option (Cont × ByteArray)) (spec : Option (List Cont × ByteArray)) (rest : ByteArray) (wr : World) : Prop :=
  ∃ (v : Value) (acc : List Cont) (n : Nat), StQ w0 gr gc wr [.int .i64 K, .string p1, .string ByteArray.empty, .int .i64 S, .int .i64 Tt, .int .i64 L, v] ∧ OwnsC (fun x => lo ≤ x) wr lo T v acc ∧ loopR f n rest acc = spec ∧
    (rest.size ≤ n ∧ 0 < rest.size ∧ nodesL acc + rest.size ≤ 257 ∧ rest.size ≤ 256 ∧ lo ≤ wr.heap.size)
def strSize : Value → Nat
  | .string r => r.size
  | _ => 0

end Go.Proofs.YtnlocdhhecockaaGreatDoor
