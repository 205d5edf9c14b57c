/-
  Words for memory that all walks of this claim share: how a list of data lies in a slice. No program is named here.
-/
import Derived.WalkKit
import Derived.WalkSpells
import Derived.WalkLawsBesides
import Derived.Deep.QuietTactic
import Derived.BigQuiet
import Derived.Deep.Draws
import Derived.Laws.OwnMore
import Derived.Lib.Hide
import Derived.Deep.DeepMust
import Derived.Deep.DeepFit
import Derived.Deep.LoopGhost
import Derived.Lib.Strings
import Derived.Laws.Rows
import Derived.Laws.Tables
import Derived.Deep.WholeRow
import Derived.Lib.AsciiSet
import Derived.Laws.IdiomStrings
import Derived.Laws.AppendOwn
import Derived.Maps.AppendAt
import Derived.Lib.SlTrimSet
import Derived.Lib.Split
import Derived.Lib.Join
import Derived.Lib.SplitLaws
import Derived.Lib.IndexAny
import Derived.WideShapes
import Derived.Lib.Replace
import Derived.Lib.IndexBytes
import Derived.Test.YtehmidmoiamcfaaGreatDoorRows
import Derived.Test.YtehmidmoiamcfaaGreatDoorHShf
import Derived.Shelf.Abstract
import Derived.Deep.DeepCutAuto
import Derived.Lib.QuietBelow
set_option linter.unusedSimpArgs false
set_option linter.unusedVariables false
namespace Go.Cold
open Go Go.RowKit

/-- How data of a Lean type lie in cells: 'rd w B a cs': the cells cs read as a, and all that is reached lies below block B. -/
class Rep (α : Type) where
 size : Nat
 rd : World → Nat → α → List Value → Prop
 len : ∀ {w B a cs}, rd w B a cs → cs.length = size
 keep : ∀ {w w' B a cs}, Below B w w' → rd w B a cs → rd w' B a cs
 more : ∀ {w B B' a cs}, B ≤ B' → rd w B a cs → rd w B' a cs

instance : Rep ByteArray where
 size := 1
 rd _ _ s cs := cs = [.string s] ∧ s.size ≤ maxLen
 len h := by rw [h.1]; rfl
 keep _ h := h
 more _ h := h

instance : Rep Int where
 size := 1
 rd _ _ n cs := cs = [.int .i64 n] ∧ -9223372036854775808 ≤ n ∧ n ≤ 9223372036854775807
 len h := by rw [h.1]; rfl
 keep _ h := h
 more _ h := h

instance : Rep Bool where
 size := 1
 rd _ _ b cs := cs = [.bool b]
 len h := by rw [h]; rfl
 keep _ h := h
 more _ h := h

/-- The slice '.slice A xs.length c' reads as the list xs, in blocks below B. -/
def Sl {α : Type} [Rep α] (w : World) (B : Nat) (A : Option Addr) (c : Nat) (xs : List α) : Prop :=
 xs.length ≤ c ∧ c ≤ maxLen ∧ (0 < xs.length → ∃ b o, A = some ⟨b, o, none⟩ ∧ b < B ∧
  ∀ i x, xs[i]? = some x → ∃ cs, Rep.rd w B x cs ∧ ∀ j u, cs[j]? = some u → w.cell? ⟨b, o + (i * Rep.size α + j), none⟩ = some u)

theorem add_mk (b o n : Nat) : (⟨b, o, none⟩ : Addr).add n = ⟨b, o + n, none⟩ := by
 unfold Addr.add; split <;> simp_all

section
variable {α : Type} [Rep α] {w w' : World} {B B' c : Nat} {A : Option Addr} {xs : List α}

theorem Sl.keep (h : Sl w B A c xs) (hb : Below B w w') : Sl w' B A c xs :=
 ⟨h.1, h.2.1, fun hn => by
  obtain ⟨b, o, e, hlt, hc⟩ := h.2.2 hn
  refine ⟨b, o, e, hlt, fun i x hx => ?_⟩
  obtain ⟨cs, hr, hcs⟩ := hc i x hx
  exact ⟨cs, Rep.keep hb hr, fun j u hu => (hb.cell (by exact hlt)).trans (hcs j u hu)⟩⟩
theorem Sl.more (h : Sl w B A c xs) (hB : B ≤ B') : Sl w B' A c xs :=
 ⟨h.1, h.2.1, fun hn => by
  obtain ⟨b, o, e, hlt, hc⟩ := h.2.2 hn
  refine ⟨b, o, e, by omega, fun i x hx => ?_⟩
  obtain ⟨cs, hr, hcs⟩ := hc i x hx
  exact ⟨cs, Rep.more hB hr, hcs⟩⟩
theorem below_drewN_self (w : World) (B n : Nat) : Below B w (w.drewN n) := ⟨rfl, rfl, rfl, Nat.le_refl _, fun _ _ => rfl⟩
/-- To the world behind a call that leaves all that there was, and up to its heap's size. -/
theorem Sl.next (h : Sl w B A c xs) (hB : B ≤ w.heap.size) (hb : Below w.heap.size w w') : Sl w' w'.heap.size A c xs := (h.keep (hb.mono hB)).more (by have := hb.size; omega)
theorem Sl.nil_ : Sl w B A 0 ([] : List α) := ⟨by simp, by simp [maxLen], fun h => absurd h (by simp)⟩
theorem Sl.at_ (h : Sl w B A c xs) {i : Nat} (hi : i < xs.length) : ∃ b o, A = some ⟨b, o, none⟩ ∧ b < B ∧ ∃ cs, Rep.rd w B xs[i] cs ∧ ∀ j u, cs[j]? = some u → w.cell? ⟨b, o + (i * Rep.size α + j), none⟩ = some u := by
 obtain ⟨b, o, e, hlt, hc⟩ := h.2.2 (by omega)
 exact ⟨b, o, e, hlt, hc i _ (List.getElem?_eq_getElem hi)⟩
end

/-- The cell of a string in a slice of strings. -/
theorem Sl.str {w : World} {B c : Nat} {A : Option Addr} {xs : List ByteArray} (h : Sl w B A c xs) {i : Nat} (hi : i < xs.length) :
  ∃ b o, A = some ⟨b, o, none⟩ ∧ b < B ∧ w.cell? ⟨b, o + i, none⟩ = some (.string xs[i]) ∧ xs[i].size ≤ maxLen := by
 obtain ⟨b, o, e, hlt, cs, hr, hc⟩ := h.at_ hi
 obtain ⟨rfl, hs⟩ := hr
 exact ⟨b, o, e, hlt, by have := hc 0 _ rfl; simpa [Rep.size] using this, hs⟩
/-- All cells of a slice of strings, as the shelf's contracts ask them. -/
theorem Sl.strs {w : World} {B c : Nat} {A : Option Addr} {xs : List ByteArray} (h : Sl w B A c xs) (h0 : 0 < xs.length) :
  ∃ b o, A = some ⟨b, o, none⟩ ∧ b < B ∧ ∀ (i : Nat) x, xs[i]? = some x → w.cell? ⟨b, o + i, none⟩ = some (.string x) := by
 obtain ⟨b, o, e, hlt, hc⟩ := h.2.2 h0
 refine ⟨b, o, e, hlt, fun i x hx => ?_⟩
 obtain ⟨cs, hr, hcs⟩ := hc i x hx
 obtain ⟨rfl, hs⟩ := hr
 have := hcs 0 _ rfl
 simpa [Rep.size] using this
theorem Sl.ofStrs {w : World} {B c b o : Nat} {xs : List ByteArray} (hc : xs.length ≤ c) (hm : c ≤ maxLen) (hb : b < B) (hs : ∀ x ∈ xs, x.size ≤ maxLen)
  (h : ∀ (i : Nat) x, xs[i]? = some x → w.cell? ⟨b, o + i, none⟩ = some (.string x)) : Sl w B (some ⟨b, o, none⟩) c xs :=
 ⟨hc, hm, fun _ => ⟨b, o, rfl, hb, fun i x hx => ⟨[.string x], ⟨rfl, hs x (List.mem_of_getElem? hx)⟩, fun j u hu => by
  have hj : j = 0 := by
   rcases j with _ | j
   · rfl
   · simp at hu
  subst hj
  simp at hu
  subst hu
  have := h i x hx
  simpa [Rep.size] using this⟩⟩⟩
theorem Sl.int {w : World} {B c : Nat} {A : Option Addr} {xs : List Int} (h : Sl w B A c xs) {i : Nat} (hi : i < xs.length) :
  ∃ b o, A = some ⟨b, o, none⟩ ∧ b < B ∧ w.cell? ⟨b, o + i, none⟩ = some (.int .i64 xs[i]) ∧ -9223372036854775808 ≤ xs[i] ∧ xs[i] ≤ 9223372036854775807 := by
 obtain ⟨b, o, e, hlt, cs, hr, hc⟩ := h.at_ hi
 obtain ⟨rfl, hs⟩ := hr
 exact ⟨b, o, e, hlt, by have := hc 0 _ rfl; simpa [Rep.size] using this, hs⟩

theorem ba_beq (a b : ByteArray) : (a.toList == b.toList) = decide (a = b) := by
 rw [Bool.eq_iff_iff]
 simp only [beq_iff_eq, decide_eq_true_eq]
 constructor
 ·
  intro h
  rw [Lib.toList_data, Lib.toList_data] at h
  cases a; cases b; simp at h; rw [h]
 · rintro rfl; rfl
theorem take_all {α : Type} {xs ys : List α} {k : Nat} (h : xs.take k = ys.take k) (hx : xs.length ≤ k) (hy : ys.length ≤ k) : xs = ys := by
 rwa [List.take_of_length_le hx, List.take_of_length_le hy] at h

theorem all_step {α : Type} {p : α → Bool} {l : List α} {k : Nat} {x : α} (h : (l.take k).all p = true) (hx : l[k]? = some x) (hp : p x = true) : (l.take (k + 1)).all p = true := by
 rw [List.take_add_one, hx]
 simp [Option.toList, List.all_append, h, hp]
theorem all_stop {α : Type} {p : α → Bool} {l : List α} {k : Nat} {x : α} (hx : l[k]? = some x) (hp : p x = false) : l.all p = false := by
 rw [List.all_eq_false]
 exact ⟨x, List.mem_of_getElem? hx, by rw [hp]; decide⟩
theorem all_end {α : Type} {p : α → Bool} {l : List α} {k : Nat} (h : (l.take k).all p = true) (hk : l.length ≤ k) : l.all p = true := by
 rwa [List.take_of_length_le hk] at h
theorem getElem_all {α : Type} {p : α → Bool} {l : List α} {k : Nat} {x : α} (h : l.all p = true) (hx : l[k]? = some x) : p x = true :=
 List.all_eq_true.1 h x (List.mem_of_getElem? hx)
theorem ba_size (s : ByteArray) : s.data.toList.length = s.size := (Lib.size_eq s).symm

/-- What slices.IndexFunc hands back. -/
def idxInt {α : Type} (p : α → Bool) (xs : List α) : Int := match xs.findIdx? p with | some i => (i : Int) | none => -1
theorem idxInt_none {α : Type} {p : α → Bool} {l : List α} (h : l.all (fun x => !p x) = true) : idxInt p l = -1 := by
 have : l.findIdx? p = none := by
  rw [List.findIdx?_eq_none_iff]
  intro x hx
  have := List.all_eq_true.1 h x hx
  simpa using this
 simp [idxInt, this]
theorem idxInt_some {α : Type} {p : α → Bool} {l : List α} {k : Nat} (hk : k < l.length) (h : (l.take k).all (fun x => !p x) = true) (hp : p l[k] = true) : idxInt p l = k := by
 have : l.findIdx? p = some k := by
  rw [List.findIdx?_eq_some_iff_getElem]
  refine ⟨hk, hp, fun j hj => ?_⟩
  have := getElem_all h (k := j) (x := l[j]) (by rw [List.getElem?_take]; simp [hj, List.getElem?_eq_getElem (show j < l.length by omega)])
  simpa using this
 simp [idxInt, this]
theorem idxInt_any {α : Type} (p : α → Bool) (l : List α) : decide (0 ≤ idxInt p l) = l.any p := by
 unfold idxInt
 cases h : l.findIdx? p with
 | none =>
  rw [List.findIdx?_eq_none_iff] at h
  symm
  simp only [Int.reduceNeg, Int.reduceLE, decide_false, List.any_eq_false]
  intro x hx
  simp [h x hx]
 | some i =>
  rw [List.findIdx?_eq_some_iff_getElem] at h
  obtain ⟨hi, hp, _⟩ := h
  symm
  simp only [Int.natCast_nonneg, decide_true, List.any_eq_true]
  exact ⟨_, List.getElem_mem hi, hp⟩

theorem ret_bool {a b : Bool} (h : a = b) : Ending.returned (.bool a) = .returned (.bool b) := by rw [h]
theorem ret_str {a b : ByteArray} (h : a = b) : Ending.returned (.string a) = .returned (.string b) := by rw [h]
theorem ret_int {k : IntKind} {a b : Int} (h : a = b) : Ending.returned (.int k a) = .returned (.int k b) := by rw [h]

theorem below_drewN {B : Nat} {a w : World} (h : Below B a w) (n : Nat) : Below B a (w.drewN n) := ⟨h.os, h.tape, h.output, h.size, h.block⟩
end Go.Cold
namespace Go.Cold
open Go Go.RowKit

def Blk (w : World) (g : Nat) (t : TypeId) (cs : Array Value) : Prop := w.heap[g]? = some (.cells cs t (0, 0))

section
variable {w w' : World} {g : Nat} {t : TypeId} {cs : Array Value}
theorem Blk.lt (h : Blk w g t cs) : g < w.heap.size := by
 rcases Nat.lt_or_ge g w.heap.size with hlt | hge
 · exact hlt
 · unfold Blk at h; rw [Array.getElem?_eq_none hge] at h; cases h
theorem Blk.cell (h : Blk w g t cs) (i : Nat) : w.cell? ⟨g, i, none⟩ = cs[i]? := cell_of_row w g i cs t (0, 0) h
theorem Blk.frozen (h : Blk w g t cs) (i : Nat) : w.frozen? ⟨g, i, none⟩ = false := by
 unfold Blk at h
 simp [World.frozen?, h]
theorem Blk.new (w : World) (t : TypeId) (cs : Array Value) : Blk (w.alloc (.cells cs t)) w.heap.size t cs := heap_alloc_new w _
theorem Blk.alloc (h : Blk w g t cs) (o : Obj) : Blk (w.alloc o) g t cs := (Below.heap_alloc w o g h.lt).trans h
theorem Blk.set_ (h : Blk w g t cs) (i : Nat) (u : Value) : Blk (w.setCell ⟨g, i, none⟩ u) g t (cs.setIfInBounds i u) := by
 unfold Blk at h ⊢
 simp [World.setCell, Array.getElem?_modify, h]
theorem Blk.far (h : Blk w g t cs) {p : Addr} (hp : g ≠ p.block) (u : Value) : Blk (w.setCell p u) g t cs := (Below.heap_setCell w p u g hp).trans h
theorem Blk.below {B : Nat} (h : Blk w g t cs) (hb : Below B w w') (hg : g < B) : Blk w' g t cs := (hb.block g hg).trans h
theorem Blk.setRow_ (h : Blk w g t cs) (cs' : Array Value) : Blk (w.setRow g cs') g t cs' := setRow_heap w g cs cs' t _ h
end

theorem below_setRow {B : Nat} {a w : World} (h : Below B a w) {g : Nat} (hg : B ≤ g) (cs : Array Value) : Below B a (w.setRow g cs) :=
 h.trans ⟨rfl, rfl, rfl, by simp, fun k hk => setRow_other w g k cs (by omega)⟩

/-- Guards for an arm of the walk: the operation that writes slot d; the store of an operand into another. -/
theorem at_dst {P : Program} {ops : Array Oper} {Q : Exit → Act → World → Prop} {rest : List Oper} {a : Act} {w : World} (d : Nat) {op : Op} {t : TypeId} {p : String} {af : Array Edge} {g : Option (Nat × Bool)}
  (h : wpList P ops Q (⟨some d, op, t, p, af, g⟩ :: rest) a w) : wpList P ops Q (⟨some d, op, t, p, af, g⟩ :: rest) a w := h
theorem at_store {P : Program} {ops : Array Oper} {Q : Exit → Act → World → Prop} {rest : List Oper} {a : Act} {w : World} (x v : Nat) {t ty : TypeId} {p : String} {af : Array Edge} {g : Option (Nat × Bool)}
  (h : wpList P ops Q (⟨none, .store ty (.tmp x) (.tmp v), t, p, af, g⟩ :: rest) a w) : wpList P ops Q (⟨none, .store ty (.tmp x) (.tmp v), t, p, af, g⟩ :: rest) a w := h

section
variable {P : Program}
theorem wp_store_blk {o : Oper} {a : Act} {w : World} {K : Act → World → Prop} {Q : Exit → Act → World → Prop} (ty : TypeId) (x v : Operand) (ho : o.op = .store ty x v)
  (g : Nat) (hx : a.eval x = .pointer (some ⟨g, 0, none⟩)) (cells : Array Value) (hv : a.eval v = .agg cells) (t : TypeId) (old : Array Value) (hg : Blk w g t old)
  (hi : (P.info? ty).map (·.size) = some cells.size) (hs : old.size = cells.size) (h1 : cells.all (·.oneCell') = true)
  (h : K (a.put o.dst undef) (w.setRow g cells)) : o.wp P a w K Q := by
 unfold Oper.wp execOp
 simp only [ho, hx, hv, Instr.storeAt, Instr.sureAddr, Sem.run_bind, Sem.run_pure, Result.andThen_ok, run_storeVar_row w g t ty old cells hg hi hs h1]
 exact h

theorem wpList_load_blk {ops : Array Oper} {rest : List Oper} {o : Oper} {a : Act} {w : World} {Q : Exit → Act → World → Prop} (hgd : o.guard = none) (ty : TypeId) (x : Operand) (ho : o.op = .load ty x)
  (g : Nat) (hx : a.eval x = .pointer (some ⟨g, 0, none⟩)) (t : TypeId) (cs : Array Value) (d : TypeDesc) (hg : Blk w g t cs)
  (hu : P.underlying ty = some d) (hd : (match d with | .struct _ | .array _ _ => true | _ => false) = true) (hi : (P.info? ty).map (·.size) = some cs.size)
  (h : wpList P ops Q rest (a.put o.dst (.agg cs)) w) : wpList P ops Q (o :: rest) a w :=
 wpList_load_row hgd ty x ho g hx t cs (0, 0) d hg hu hd hi h
theorem results_cell_blk {fn : Func} {p : Tmp} {ty : TypeId} (h : fn.results = #[.cell p ty]) (tmps : Array Value) (w : World) (g : Nat) (t : TypeId) (cs : Array Value) (d : TypeDesc)
  (hp : tmps.getD p undef = .pointer (some ⟨g, 0, none⟩)) (hg : Blk w g t cs)
  (hu : P.underlying ty = some d) (hd : (match d with | .struct _ | .array _ _ => true | _ => false) = true) (hi : (P.info? ty).map (·.size) = some cs.size) :
  (results fn tmps).run P w = .ok (.agg cs) w := results_cell_row h tmps w g t cs (0, 0) d hp hg hu hd hi

theorem wpList_store_blk {ops : Array Oper} {rest : List Oper} {o : Oper} {a : Act} {w : World} {Q : Exit → Act → World → Prop} (hgd : o.guard = none) (ty : TypeId) (x v : Operand) (ho : o.op = .store ty x v)
  (g : Nat) (hx : a.eval x = .pointer (some ⟨g, 0, none⟩)) (cells : Array Value) (hv : a.eval v = .agg cells) (t : TypeId) (old : Array Value) (hg : Blk w g t old)
  (hi : (P.info? ty).map (·.size) = some cells.size) (hs : old.size = cells.size) (h1 : cells.all (·.oneCell') = true)
  (h : wpList P ops Q rest (a.put o.dst undef) (w.setRow g cells)) : wpList P ops Q (o :: rest) a w :=
 wpList_plain hgd fun _ hK => wp_store_blk ty x v ho g hx cells hv t old hg hi hs h1 (hK _ _ h)
end
end Go.Cold
namespace Go.Cold
open Go Go.RowKit

/-- Block g holds the bytes l at its beginning, and they may be written. -/
def ByteRow (w : World) (g : Nat) (l : List UInt8) : Prop := ∀ i b, l[i]? = some b → w.cell? ⟨g, i, none⟩ = some (.int .u8 (b.toNat : Int)) ∧ w.frozen? ⟨g, i, none⟩ = false

section
variable {w w' : World} {g : Nat} {l : List UInt8}
end

section
variable {P : Program}
/-- '[]byte(s)'. -/
theorem wp_conv_bytes {o : Oper} {a : Act} {w : World} {K : Act → World → Prop} {Q : Exit → Act → World → Prop} (src dst e : TypeId) (x : Operand) (ho : o.op = .convert src dst x)
  (s : ByteArray) (hx : a.eval x = .string s) (hs : P.underlying src = some .string) (hd : P.underlying dst = some (.slice e)) (he : P.underlying e = some (.int .u8))
  (h : ∀ cap w', s.size ≤ cap → ByteRow w' w.heap.size s.data.toList → w.heap.size < w'.heap.size → Below w.heap.size w w' → K (a.put o.dst (.slice (some ⟨w.heap.size, 0, none⟩) s.size cap)) w') : o.wp P a w K Q := by
 have hr := run_bytes_of_string (P := P) w src dst e s hs hd he
 unfold Oper.wp execOp
 simp only [ho, hx, Sem.run_bind, Sem.run_pure, Result.andThen_ok, hr]
 refine h _ _ (grownCap_ge _ _ _ _) (fun i b hi => ?_) (by simp) ?_
 ·
  have hsz : i < s.data.size := by
   have := (List.getElem?_eq_some_iff.1 hi).1
   simpa using this
  have hb : s.data[i] = b := by
   have := (List.getElem?_eq_some_iff.1 hi).2
   simpa using this
  have h1 := World.cell?_alloc_mark w.drew (bytesRow s (grownCap w s.size 0 e)) e ((bytesRow s (grownCap w s.size 0 e)).size, (bytesRow s (grownCap w s.size 0 e)).size + 1) i
  have h2 := World.frozen?_alloc_mark w.drew (bytesRow s (grownCap w s.size 0 e)) e (bytesRow s (grownCap w s.size 0 e)).size ((bytesRow s (grownCap w s.size 0 e)).size + 1) i
  have h3 := bytesRow_at s (grownCap w s.size 0 e) i hsz
  rw [hb] at h3
  refine ⟨h1.trans h3, h2.trans ?_⟩
  have : i < (bytesRow s (grownCap w s.size 0 e)).size := (Array.getElem?_eq_some_iff.1 h3).1
  simp; omega
 · exact ((Below.refl _ _).drew).alloc (Nat.le_refl _) _
theorem wpList_conv_bytes {ops : Array Oper} {rest : List Oper} {o : Oper} {a : Act} {w : World} {Q : Exit → Act → World → Prop} (hgd : o.guard = none) (src dst e : TypeId) (x : Operand) (ho : o.op = .convert src dst x)
  (s : ByteArray) (hx : a.eval x = .string s) (hs : P.underlying src = some .string) (hd : P.underlying dst = some (.slice e)) (he : P.underlying e = some (.int .u8))
  (h : ∀ cap w', s.size ≤ cap → ByteRow w' w.heap.size s.data.toList → w.heap.size < w'.heap.size → Below w.heap.size w w' → wpList P ops Q rest (a.put o.dst (.slice (some ⟨w.heap.size, 0, none⟩) s.size cap)) w') : wpList P ops Q (o :: rest) a w :=
 wpList_plain hgd fun _ hK => wp_conv_bytes src dst e x ho s hx hs hd he fun cap w' h1 h2 h3 h4 => hK _ _ (h cap w' h1 h2 h3 h4)
end

/-- A list of texts that a call has gathered reads as a slice. -/
theorem Sl.ofOwn {w : World} {base n : Nat} {e : TypeId} {v : Value} {xs : List ByteArray} (h : w.ownsRow base e 1 v n (xs.map Value.string)) (hs : ∀ x ∈ xs, x.size ≤ maxLen) :
  ∃ A c, v = .slice A xs.length c ∧ Sl w w.heap.size A c xs := by
 have hlen : xs.length = n := by have := h.1; simpa using this
 obtain ⟨h1, h2⟩ := h
 rcases h2 with ⟨rfl, rfl⟩ | ⟨g, cap, cur, rfl, hg, hh, hnc, hcm, hcs, htk⟩
 ·
  have : xs = [] := List.eq_nil_of_length_eq_zero hlen
  subst this
  exact ⟨none, 0, rfl, Sl.nil_⟩
 ·
  subst hlen
  refine ⟨_, cap, rfl, Sl.ofStrs hnc hcm ?_ hs (fun i x hx => ?_)⟩
  ·
   rcases Nat.lt_or_ge g w.heap.size with hlt | hge
   · exact hlt
   · rw [Array.getElem?_eq_none hge] at hh; cases hh
  ·
   rw [Nat.zero_add, cell_of_row w g i cur e (0, 0) hh]
   have hi : i < xs.length := (List.getElem?_eq_some_iff.1 hx).1
   have := congrArg (fun l => l[i]?) htk
   simp only [Nat.mul_one, List.getElem?_take, hi, if_true, List.getElem?_map, hx, Option.map_some] at this
   simpa using this
end Go.Cold
namespace Go.Cold
open Go Go.RowKit

/-- A kind of value that lies in cells and may reach blocks of a set. -/
class RepS (α : Type) extends Rep α where
 rdS : World → (Nat → Prop) → α → List Value → Prop
 pos : 0 < size
 lenS : ∀ {w S a cs}, rdS w S a cs → cs.length = size
 one : ∀ {w S a cs}, rdS w S a cs → ∀ u ∈ cs, u.oneCell' = true
 mono : ∀ {w w' S S' a cs}, (∀ b, S b → S' b) → (∀ b o u, S b → w.cell? ⟨b, o, none⟩ = some u → w'.cell? ⟨b, o, none⟩ = some u) → rdS w S a cs → rdS w' S' a cs
 rd_iff : ∀ {w B a cs}, rd w B a cs ↔ rdS w (fun b => b < B) a cs
instance : RepS ByteArray where
 rdS _ _ s cs := cs = [.string s] ∧ s.size ≤ maxLen
 pos := by show 0 < 1; omega
 lenS h := by rw [h.1]; rfl
 one h u hu := by rw [h.1] at hu; simp at hu; subst hu; rfl
 mono _ _ h := h
 rd_iff := Iff.rfl
/-- The slice '.slice A xs.length c' reads as the list xs, in blocks of S. -/
def SlS {α : Type} [RepS α] (w : World) (S : Nat → Prop) (A : Option Addr) (c : Nat) (xs : List α) : Prop :=
 xs.length ≤ c ∧ c ≤ maxLen ∧ (0 < xs.length → ∃ b o, A = some ⟨b, o, none⟩ ∧ S b ∧
  ∀ i x, xs[i]? = some x → ∃ cs, RepS.rdS w S x cs ∧ ∀ j u, cs[j]? = some u → w.cell? ⟨b, o + (i * Rep.size α + j), none⟩ = some u)
section
variable {α : Type} [RepS α] {w w' : World} {S S' : Nat → Prop} {A : Option Addr} {c : Nat} {xs : List α}
theorem SlS.mono (hS : ∀ b, S b → S' b) (hc : ∀ b o u, S b → w.cell? ⟨b, o, none⟩ = some u → w'.cell? ⟨b, o, none⟩ = some u) (h : SlS w S A c xs) : SlS w' S' A c xs := by
 obtain ⟨h1, h2, h3⟩ := h
 refine ⟨h1, h2, fun hn => ?_⟩
 obtain ⟨b, o, e, hb, h4⟩ := h3 hn
 refine ⟨b, o, e, hS b hb, fun i x hx => ?_⟩
 obtain ⟨cs, h5, h6⟩ := h4 i x hx
 exact ⟨cs, RepS.mono hS hc h5, fun j u hu => hc _ _ _ hb (h6 j u hu)⟩
theorem SlS.nil_ : SlS w S A 0 ([] : List α) := ⟨by simp, by simp [maxLen], fun h => absurd h (by simp)⟩
theorem SlS_iff {B : Nat} : Sl w B A c xs ↔ SlS w (fun b => b < B) A c xs := by
 unfold Sl SlS
 constructor
 ·
  rintro ⟨h1, h2, h3⟩
  refine ⟨h1, h2, fun hn => ?_⟩
  obtain ⟨b, o, e, hb, h4⟩ := h3 hn
  exact ⟨b, o, e, hb, fun i x hx => by obtain ⟨cs, h5, h6⟩ := h4 i x hx; exact ⟨cs, RepS.rd_iff.1 h5, h6⟩⟩
 ·
  rintro ⟨h1, h2, h3⟩
  refine ⟨h1, h2, fun hn => ?_⟩
  obtain ⟨b, o, e, hb, h4⟩ := h3 hn
  exact ⟨b, o, e, hb, fun i x hx => by obtain ⟨cs, h5, h6⟩ := h4 i x hx; exact ⟨cs, RepS.rd_iff.2 h5, h6⟩⟩
end
/-- The call's own row v holds the list xs, and what its values reach lies in blocks of F, none of them the row's. -/
def OwnsS {α : Type} [RepS α] (F : Nat → Prop) (w : World) (base : Nat) (e : TypeId) (v : Value) (xs : List α) : Prop :=
 ∃ css : List (List Value), w.ownsRow base e (Rep.size α) v xs.length css.flatten ∧ css.length = xs.length ∧
  ∀ (i : Nat) (x : α) (cs : List Value), xs[i]? = some x → css[i]? = some cs → RepS.rdS w (fun b => F b ∧ b < w.heap.size ∧ v.ownBlock ≠ some b) x cs
theorem flatten_row {n : Nat} {css : List (List Value)} (h7 : ∀ cs ∈ css, cs.length = n) : ∀ {i j : Nat} {cs : List Value}, css[i]? = some cs → j < n → css.flatten[i * n + j]? = cs[j]? := by
 induction css with
 | nil => intro i j cs h; simp at h
 | cons c r ih =>
  intro i j cs h hj
  have hc := h7 c List.mem_cons_self
  rw [List.flatten_cons]
  cases i with
  | zero =>
   simp at h; subst h
   rw [List.getElem?_append_left (by omega), show 0 * n + j = j by omega]
  | succ i =>
   rw [Nat.succ_mul, List.getElem?_append_right (by omega), show i * n + n + j - c.length = i * n + j by omega]
   exact ih (fun cs hcs => h7 cs (List.mem_cons_of_mem _ hcs)) (by simpa using h) hj
section
variable {α : Type} [RepS α] {F : Nat → Prop} {w w' : World} {base : Nat} {e : TypeId} {v : Value} {xs : List α}
theorem OwnsS.nil_ (F : Nat → Prop) (w : World) (base : Nat) (e : TypeId) : OwnsS F w base e (.slice none 0 0) ([] : List α) := ⟨[], World.ownsRow_nil _ _ _ _, rfl, fun i x cs h => by simp at h⟩
/-- Behind a call, or an alloc, that leaves all that there was. -/
theorem OwnsS.below (h : OwnsS F w base e v xs) (hb : Below w.heap.size w w') : OwnsS F w' base e v xs := by
 obtain ⟨css, h1, h2, h3⟩ := h
 have hg : w.grownBy w' none := ⟨hb.os, hb.tape, hb.output, hb.size, fun k hk _ => hb.block k hk⟩
 refine ⟨css, h1.kept hg (by
  cases hv : v.ownBlock with
  | none => exact .inl rfl
  | some k => exact .inr (by simp)), h2, fun i x cs hx hcs => RepS.mono (fun b ⟨hf, hb1, hb2⟩ => ⟨hf, by have := hb.size; omega, hb2⟩) (fun b o u ⟨_, hb1, _⟩ hu => (hb.cell (p := ⟨b, o, none⟩) (by exact hb1)).trans hu) (h3 i x cs hx hcs)⟩
theorem OwnsS.lt (h : OwnsS F w base e v xs) : ∀ k, v.ownBlock = some k → base ≤ k ∧ k < w.heap.size := by
 obtain ⟨css, h1, _⟩ := h
 exact h1.lt
/-- Behind a call that may have written one other old block. -/
theorem OwnsS.grownb {b : Nat} (h : OwnsS F w base e v xs) (hg : w.grownBy w' (some b)) (hF : ∀ x, F x → x ≠ b) (hbase : b < base) : OwnsS F w' base e v xs := by
 obtain ⟨css, h1, h2, h3⟩ := h
 refine ⟨css, h1.kept hg ?_, h2, fun i x cs hx hcs => RepS.mono (fun y ⟨hf, q1, q2⟩ => ⟨hf, by have := hg.size; omega, q2⟩) (fun y o u ⟨hf, _, _⟩ hu => hg.cell hu (fun e => hF y hf (Option.some.inj e))) (h3 i x cs hx hcs)⟩
 cases hv : v.ownBlock with
 | none => exact .inl rfl
 | some q =>
  right
  intro e
  have h4 := (h1.lt q hv).1
  have h5 := Option.some.inj e
  omega
/-- Behind an append of one value: v' is the row then; x's blocks are none of the rows'. -/
theorem OwnsS.app {v' : Value} {x : α} {cs : List Value} {css : List (List Value)} (h1 : w.ownsRow base e (Rep.size α) v xs.length css.flatten) (h2 : css.length = xs.length)
  (h3 : ∀ (i : Nat) (x : α) (cs : List Value), xs[i]? = some x → css[i]? = some cs → RepS.rdS w (fun b => F b ∧ b < w.heap.size ∧ v.ownBlock ≠ some b) x cs)
  (hx : RepS.rdS w (fun b => F b ∧ b < w.heap.size ∧ v.ownBlock ≠ some b) x cs) (hown : w'.ownsRow base e (Rep.size α) v' (xs.length + 1) (css.flatten ++ cs)) (hg : w.grownBy w' v.ownBlock)
  (hnew : ∀ k, v'.ownBlock = some k → v.ownBlock = some k ∨ w.heap.size ≤ k) : OwnsS F w' base e v' (xs ++ [x]) := by
 have hmono : ∀ y ds, RepS.rdS w (fun b => F b ∧ b < w.heap.size ∧ v.ownBlock ≠ some b) (y : α) ds → RepS.rdS w' (fun b => F b ∧ b < w'.heap.size ∧ v'.ownBlock ≠ some b) y ds := fun y ds =>
  RepS.mono (fun b ⟨hf, hb1, hb2⟩ => ⟨hf, by have := hg.size; omega, fun e => by
   rcases hnew b e with h | h
   · exact hb2 h
   · omega⟩) (fun b o u ⟨_, _, hb2⟩ hu => hg.cell hu (fun e => hb2 e.symm))
 refine ⟨css ++ [cs], by rw [List.length_append]; simpa using hown, by simp [h2], fun i y ds hy hds => ?_⟩
 by_cases hi : i < xs.length
 ·
  rw [List.getElem?_append_left hi] at hy
  rw [List.getElem?_append_left (by omega)] at hds
  exact hmono y ds (h3 i y ds hy hds)
 ·
  rw [List.getElem?_append_right (by omega)] at hy hds
  rw [h2] at hds
  have hi0 : i - xs.length = 0 := by
   have := (List.getElem?_eq_some_iff.1 hy).1
   simp at this; omega
  rw [hi0] at hy hds
  simp at hy hds
  subst hy; subst hds
  exact hmono _ _ hx
/-- A gathered list, in its block. -/
theorem OwnsS.cs (h : OwnsS F w base e v xs) : ∃ A c, v = .slice A xs.length c ∧ SlS w (fun b => (F b ∨ base ≤ b) ∧ b < w.heap.size) A c xs := by
 obtain ⟨css, h1, h2, h3⟩ := h
 have h7 : ∀ cs ∈ css, cs.length = Rep.size α := fun cs hcs => by
  obtain ⟨i, hi, rfl⟩ := List.getElem_of_mem hcs
  exact RepS.lenS (h3 i xs[i] css[i] (List.getElem?_eq_getElem (by omega)) (List.getElem?_eq_getElem hi))
 obtain ⟨_, h4⟩ := h1
 rcases h4 with ⟨rfl, h0⟩ | ⟨g, cap, cur, rfl, hg, hh, hnc, hcm, hcs, htk⟩
 ·
  have : xs = [] := List.eq_nil_of_length_eq_zero h0
  subst this
  exact ⟨none, 0, rfl, SlS.nil_⟩
 ·
  have hgl : g < w.heap.size := (Array.getElem?_eq_some_iff.1 hh).1
  refine ⟨_, cap, rfl, hnc, hcm, fun _ => ⟨g, 0, rfl, ⟨.inr hg, hgl⟩, fun i x hx => ?_⟩⟩
  have hi : i < xs.length := (List.getElem?_eq_some_iff.1 hx).1
  have hci : css[i]? = some css[i] := List.getElem?_eq_getElem (by omega)
  have hrd := h3 i x css[i] hx hci
  refine ⟨css[i], RepS.mono (fun b ⟨hf, hb1, _⟩ => ⟨.inl hf, hb1⟩) (fun _ _ _ _ hu => hu) hrd, fun j u hu => ?_⟩
  have hj : j < Rep.size α := by
   have := (List.getElem?_eq_some_iff.1 hu).1
   rw [RepS.lenS hrd] at this; exact this
  rw [Nat.zero_add, cell_of_row w g (i * Rep.size α + j) cur e (0, 0) hh]
  have := flatten_row h7 hci hj
  have hlt : i * Rep.size α + j < xs.length * Rep.size α := by
   have := Nat.mul_le_mul_right (Rep.size α) (show i + 1 ≤ xs.length from hi)
   rw [Nat.succ_mul] at this; omega
  rw [← htk, List.getElem?_take, if_pos hlt, hu] at this
  simpa using this
/-- A gathered list reads as a slice. -/
theorem OwnsS.sl (h : OwnsS F w base e v xs) : ∃ A c, v = .slice A xs.length c ∧ Sl w w.heap.size A c xs := by
 obtain ⟨A, c, hv, h1⟩ := h.cs
 exact ⟨A, c, hv, SlS_iff.2 (h1.mono (fun b hb => hb.2) (fun _ _ _ _ hu => hu))⟩
end

def okI (n : Int) : Prop := -9223372036854775808 ≤ n ∧ n ≤ 9223372036854775807
/-- An attribute. -/
structure Attr where
 name : ByteArray
 value : ByteArray
def attrCells (a : Attr) : List Value := [.string a.name, .string a.value]
instance : RepS Attr where
 size := 2
 rd _ _ a cs := cs = attrCells a ∧ a.name.size ≤ maxLen ∧ a.value.size ≤ maxLen
 len h := by rw [h.1]; rfl
 keep _ h := h
 more _ h := h
 rdS _ _ a cs := cs = attrCells a ∧ a.name.size ≤ maxLen ∧ a.value.size ≤ maxLen
 pos := by show 0 < 2; omega
 lenS h := by rw [h.1]; rfl
 one h u hu := by rw [h.1] at hu; simp [attrCells] at hu; rcases hu with rfl | rfl <;> rfl
 mono _ _ h := h
 rd_iff := Iff.rfl
/-- A device. -/
structure Dev where
 idx : Int
 par : Int
 nm : ByteArray
 orig : ByteArray
 sub : ByteArray
 drv : ByteArray
 ali : ByteArray
 kind : Int
 num : Int
 attrs : List Attr
def devCells (d : Dev) (A : Option Addr) (c : Nat) : List Value :=
 [.int .i64 d.idx, .int .i64 d.par, .string d.nm, .string d.orig, .string d.sub, .string d.drv, .string d.ali, .int .i64 d.kind, .int .i64 d.num, .slice A d.attrs.length c]
/-- The facts on a device's own fields that hold of every value of its type. -/
def devOk (d : Dev) : Prop := okI d.idx ∧ okI d.par ∧ d.nm.size ≤ maxLen ∧ d.orig.size ≤ maxLen ∧ d.sub.size ≤ maxLen ∧ d.drv.size ≤ maxLen ∧ d.ali.size ≤ maxLen ∧ okI d.kind ∧ okI d.num
/-- The ten cells cs read as the device; its attributes lie in blocks of S. -/
def DRdS (w : World) (S : Nat → Prop) (d : Dev) (cs : List Value) : Prop := ∃ A c, cs = devCells d A c ∧ devOk d ∧ SlS w S A c d.attrs
def DRd (w : World) (B : Nat) (d : Dev) (cs : List Value) : Prop := DRdS w (fun b => b < B) d cs
theorem DRdS.mono {w w' : World} {S S' : Nat → Prop} {d : Dev} {cs : List Value} (hS : ∀ b, S b → S' b) (hc : ∀ b o u, S b → w.cell? ⟨b, o, none⟩ = some u → w'.cell? ⟨b, o, none⟩ = some u) (h : DRdS w S d cs) : DRdS w' S' d cs := by
 obtain ⟨A, c, h1, h2, h3⟩ := h
 exact ⟨A, c, h1, h2, h3.mono hS hc⟩
instance : RepS Dev where
 size := 10
 rd := DRd
 len h := by obtain ⟨A, c, rfl, _⟩ := h; rfl
 keep hb h := DRdS.mono (fun _ h => h) (fun b o u hlt hu => (hb.cell (p := ⟨b, o, none⟩) (by exact hlt)).trans hu) h
 more hB h := DRdS.mono (fun b (h : b < _) => (by omega : b < _)) (fun _ _ _ _ hu => hu) h
 rdS := DRdS
 pos := by show 0 < 10; omega
 lenS h := by obtain ⟨A, c, rfl, _⟩ := h; rfl
 one h u hu := by
  obtain ⟨A, c, rfl, _⟩ := h
  simp only [devCells, List.mem_cons, List.not_mem_nil, or_false] at hu
  rcases hu with rfl | rfl | rfl | rfl | rfl | rfl | rfl | rfl | rfl | rfl <;> rfl
 mono := DRdS.mono
 rd_iff := Iff.rfl
end Go.Cold
namespace Go.Cold
open Go Go.RowKit

def upperL : List UInt8 := [65, 66, 67, 68, 69, 70, 71, 72, 73, 74, 75, 76, 77, 78, 79, 80, 81, 82, 83, 84, 85, 86, 87, 88, 89, 90]
def lowerL : List UInt8 := [97, 98, 99, 100, 101, 102, 103, 104, 105, 106, 107, 108, 109, 110, 111, 112, 113, 114, 115, 116, 117, 118, 119, 120, 121, 122]
def digitL : List UInt8 := [48, 49, 50, 51, 52, 53, 54, 55, 56, 57]
def commonL : List UInt8 := upperL ++ lowerL ++ digitL ++ [95, 46, 58, 43, 45]
/-- All bytes of a text are in a list. -/
def inB (S : List UInt8) (s : ByteArray) : Bool := s.data.toList.all S.contains
def dotsB (s : ByteArray) : Bool := s.toList == [46] || s.toList == [46, 46]
theorem ba_ext {a b : ByteArray} (h : a.data.toList = b.data.toList) : a = b := WideShapes.bytes_inj h
def nameL : List UInt8 := commonL ++ [33]
def validB (s : ByteArray) : Bool := !s.toList.isEmpty && (decide ((s.size : Int) ≤ 32) && (!dotsB s && inB nameL s))
/-! ### Splitting at a byte -/
end Go.Cold
namespace Go.Cold
open Go Go.RowKit

end Go.Cold
namespace Go.Cold
open Go Go.RowKit

end Go.Cold
namespace Go.Cold
open Go Go.RowKit

end Go.Cold
namespace Go.Cold
open Go Go.RowKit

instance : DecidableEq ByteArray := inferInstance
end Go.Cold
namespace Go.Cold
open Go Go.RowKit

end Go.Cold
namespace Go.Cold
open Go Go.RowKit

theorem app_data (a b : ByteArray) : (a ++ b).data.toList = a.data.toList ++ b.data.toList := by simp
end Go.Cold
namespace Go.Cold
open Go Go.RowKit

end Go.Cold
namespace Go.Cold
open Go Go.RowKit

end Go.Cold
namespace Go.Cold
open Go Go.RowKit
end Go.Cold
namespace Go.Cold
open Go Go.RowKit
/-- An element of a slice of attributes. -/
theorem Sl.attr {w : World} {B c : Nat} {A : Option Addr} {xs : List Attr} (h : Sl w B A c xs) {i : Nat} (hi : i < xs.length) :
  ∃ b o, A = some ⟨b, o, none⟩ ∧ b < B ∧ (xs[i].name.size ≤ maxLen ∧ xs[i].value.size ≤ maxLen) ∧ w.cell? ⟨b, o + i * 2, none⟩ = some (.string xs[i].name) ∧ w.cell? ⟨b, o + i * 2 + 1, none⟩ = some (.string xs[i].value) := by
 obtain ⟨b, o, e, hlt, cs, hr, hc⟩ := h.at_ hi
 obtain ⟨rfl, h1, h2⟩ := hr
 refine ⟨b, o, e, hlt, ⟨h1, h2⟩, ?_, ?_⟩
 · have h3 := hc 0 _ rfl; rw [Nat.add_zero] at h3; exact h3
 · have := hc 1 _ rfl; rw [← Nat.add_assoc] at this; exact this
end Go.Cold
namespace Go.Cold
open Go Go.RowKit
theorem cell_set_far (w : World) (a : Addr) (v : Value) (b o : Nat) (h : a.block ≠ b) : (w.setCell a v).cell? ⟨b, o, none⟩ = w.cell? ⟨b, o, none⟩ :=
 World.cell?_setCell_other w a ⟨b, o, none⟩ v (fun e => h (by rw [e]))
theorem box7f {w w0 : World} {ty : TypeId} {cs : Array Value} (h : w.alloc (.cells cs ty) = w0) : ∀ j, w0.frozen? ⟨w.heap.size, j, none⟩ = false := by
 subst h
 intro j
 exact World.frozen?_alloc_at _ _ _ _ rfl
theorem cell_heap {w w' : World} {b : Nat} (h : w'.heap[b]? = w.heap[b]?) (o : Nat) : w'.cell? ⟨b, o, none⟩ = w.cell? ⟨b, o, none⟩ := by
 simp [World.cell?, h]
theorem frozen_heap {w w' : World} {b : Nat} (h : w'.heap[b]? = w.heap[b]?) (o : Nat) : w'.frozen? ⟨b, o, none⟩ = w.frozen? ⟨b, o, none⟩ := by
 simp [World.frozen?, h]
theorem grown_new {a w w' : World} {row row2 : Option Nat} (h : a.grownBy w row) (hg : w.grownBy w' row2) (h2 : ∀ k, row2 = some k → a.heap.size ≤ k) : a.grownBy w' row :=
 ⟨hg.os.trans h.os, hg.tape.trans h.tape, hg.output.trans h.output, Nat.le_trans h.size hg.size, fun k hk hne => (hg.block k (Nat.lt_of_lt_of_le hk h.size) (fun e => by have := h2 k e.symm; omega)).trans (h.block k hk hne)⟩
theorem grown_below {a w w' : World} {row : Option Nat} (h : a.grownBy w row) (hb : Below w.heap.size w w') : a.grownBy w' row :=
 ⟨hb.os.trans h.os, hb.tape.trans h.tape, hb.output.trans h.output, Nat.le_trans h.size hb.size, fun k hk hne => (hb.block k (Nat.lt_of_lt_of_le hk h.size)).trans (h.block k hk hne)⟩
theorem grown_trans {a b c : World} {row : Option Nat} (h : a.grownBy b row) (k : b.grownBy c row) : a.grownBy c row :=
 ⟨k.os.trans h.os, k.tape.trans h.tape, k.output.trans h.output, Nat.le_trans h.size k.size, fun i hi hne => (k.block i (Nat.lt_of_lt_of_le hi h.size) hne).trans (h.block i hi hne)⟩

theorem below_of_grown {B b : Nat} {a w w' : World} (h : Below B a w) (hg : w.grownBy w' (some b)) (hB : B ≤ w.heap.size) (hb : B ≤ b) : Below B a w' :=
 h.grown hg hB (fun k hk => by have := Option.some.inj hk; omega)
/-- A block that holds these cells at its beginning, and may be written. -/
def BoxL (w : World) (g : Nat) (cs : List Value) : Prop := (∀ (j : Nat) u, cs[j]? = some u → w.cell? ⟨g, j, none⟩ = some u) ∧ (∀ j, w.frozen? ⟨g, j, none⟩ = false) ∧ g < w.heap.size
theorem BoxL.kept {w w' : World} {g : Nat} {cs : List Value} {row : Option Nat} (h : BoxL w g cs) (hg : w.grownBy w' row) (hne : some g ≠ row) : BoxL w' g cs := by
 obtain ⟨h1, hf, hlt⟩ := h
 have hh := hg.block g hlt hne
 exact ⟨fun j u hu => (cell_heap hh j).trans (h1 j u hu), fun j => (frozen_heap hh j).trans (hf j), Nat.lt_of_lt_of_le hlt hg.size⟩
theorem BoxL.set_ {w : World} {g : Nat} {cs : List Value} (h : BoxL w g cs) {j : Nat} (hj : j < cs.length) (v : Value) : BoxL (w.setCell ⟨g, j, none⟩ v) g (cs.set j v) := by
 obtain ⟨h1, hf, hlt⟩ := h
 refine ⟨fun i u hu => ?_, fun i => (World.frozen?_setCell w _ _ _).trans (hf i), by simpa using hlt⟩
 rw [List.getElem?_set] at hu
 split at hu
 ·
  rename_i he
  subst he
  obtain rfl := Option.some.inj hu
  exact World.cell?_setCell_same' w ⟨g, j, none⟩ _ (by rw [h1 j _ (List.getElem?_eq_getElem hj)]; rfl)
 ·
  rename_i he
  exact (World.cell?_setCell_other w ⟨g, j, none⟩ ⟨g, i, none⟩ _ (fun e => he (by injection e))).trans (h1 i u hu)
theorem BoxL.far {w : World} {g g' j : Nat} {cs : List Value} (h : BoxL w g cs) (hne : g' ≠ g) (v : Value) : BoxL (w.setCell ⟨g', j, none⟩ v) g cs :=
 ⟨fun i u hu => (cell_set_far w ⟨g', j, none⟩ v g i hne).trans (h.1 i u hu), fun i => (World.frozen?_setCell w _ _ _).trans (h.2.1 i), by simpa using h.2.2⟩
theorem grown_set {a w : World} {row : Option Nat} {g j : Nat} (h : a.grownBy w row) (hg : a.heap.size ≤ g) (v : Value) : a.grownBy (w.setCell ⟨g, j, none⟩ v) row :=
 ⟨h.os, h.tape, h.output, by simpa using h.size, fun i hi hne => (Below.heap_setCell _ _ _ _ (fun e => by have e : i = g := e; omega)).trans (h.block i hi hne)⟩
theorem grown_none {w w' : World} (hb : Below w.heap.size w w') : w.grownBy w' none := ⟨hb.os, hb.tape, hb.output, hb.size, fun k hk _ => hb.block k hk⟩
theorem grown_one (w : World) (g j : Nat) (v : Value) : w.grownBy (w.setCell ⟨g, j, none⟩ v) (some g) :=
 ⟨rfl, rfl, rfl, by simp, fun i hi hne => Below.heap_setCell _ _ _ _ (fun e => hne (by have e : i = g := e; rw [e]))⟩
theorem BoxL.drew {w : World} {g : Nat} {cs : List Value} (h : BoxL w g cs) : BoxL w.drew g cs := h.kept (grown_none (below_drewN_self w _ 1)) (fun e => by cases e)
theorem box_mk {w w' : World} {t : TypeId} {cs : Array Value} (h : w.alloc (.cells cs t) = w') : BoxL w' w.heap.size cs.toList := by
 refine ⟨fun j u hu => ?_, box7f h, by rw [← h]; simp⟩
 rw [← h, World.cell?_alloc_at _ _ _ _ rfl]
 simpa using hu
end Go.Cold
namespace Go.Cold
open Go Go.RowKit
end Go.Cold
namespace Go.Proofs.YtehmidmoiamcfaaGreatDoor
open Go.RowKit Go.Cold

theorem info_set : (Tryz.prog.info? 105).map (fun i => (i.zero, i.size)) = some (some (.agg (Array.replicate 256 (.bool false))), 256) := by kernel_rfl

/-- (set).plus. -/
theorem plus_any (S : List UInt8) (s : ByteArray) (w : World) (hs : s.size ≤ maxLen) :
  Calls Tryz.prog 68 #[.agg (Lib.setCells S), .string s] w fun e w' => e = .returned (.agg (Lib.setCells (S ++ s.data.toList))) ∧ Below w.heap.size w w' := by
 obtain ⟨hz, hi⟩ := zero_of_info info_set
 unfold maxLen at hs
 rw [← Lib.setCells_nil] at hz
 have HI := Lib.hid hi; clear hi
 go_enter Tryz.func68, Tryz.ntmps68
 go_wp2
 go_loopw [8] (fun i wr => ∃ k : Nat, k ≤ s.size ∧ i = .int .i64 k ∧ Blk wr w.heap.size 105 (Lib.setCells (S ++ s.data.toList.take k)) ∧ Blk wr (w.heap.size + 1) 105 (Lib.setCells []) ∧ Below w.heap.size w wr) (fun i _ => s.size - (intOf i).toNat)
 case atStart =>
  refine ⟨0, Nat.zero_le _, rfl, ?_, ?_, ((Below.refl _ _).alloc (Nat.le_refl _) _).alloc (by simp) _⟩
  · simpa using (Blk.new w 105 (Lib.setCells S)).alloc _
  ·
   have := Blk.new (w.alloc (Obj.cells (Lib.setCells S) 105)) 105 (Lib.setCells [])
   simpa using this
 case round =>
  obtain ⟨k, hk, rfl, h1, h2, hb⟩ := hrel
  by_cases hlt : k < s.size
  ·
   obtain ⟨x, hx⟩ : ∃ x : UInt8, s[k]'hlt = x := ⟨_, rfl⟩
   have hxl : s.data.toList[k]? = some x := by rw [← hx]; exact Lib.data_getElem? s k hlt
   have hx256 : (x.toNat : Int) < 256 := by have := UInt8.toNat_lt x; omega
   have hcell := (h1.cell x.toNat).trans (Lib.setCells_at _ x)
   have hfr := h1.frozen x.toNat
   have HX := Lib.hid hxl; clear hxl
   have H1 := Lib.hid h1; clear h1
   have H2 := Lib.hid h2; clear h2
   go_wp2
   go_roundw
   case rel =>
    refine ⟨k + 1, by omega, by go_num, ?_, H2.out.far (by simp) _, hb.setCell (by simp) _⟩
    rw [List.take_add_one, HX.out, Option.toList, ← List.append_assoc, Lib.setCells_snoc]
    exact H1.out.set_ _ _
   case measure => simp [intOf]; omega
  ·
   rw [List.take_of_length_le (by rw [← Lib.size_eq]; omega)] at h1
   have H1 := Lib.hid h1; clear h1
   have H2 := Lib.hid h2; clear h2
   go_wp2_with (first
    | (with_reducible refine at_dst 16 ?_; go_must (refine wpList_load_blk rfl 105 _ rfl w.heap.size rfl 105 _ _ H1.out Tryz.underlying105 rfl (by rw [Lib.setCells_size]; exact HI.out) ?_))
    | (with_reducible refine at_store 4 16 ?_; go_must (refine wpList_store_blk rfl 105 _ _ rfl (w.heap.size + 1) rfl (Lib.setCells (S ++ s.data.toList)) rfl 105 _ H2.out (by rw [Lib.setCells_size]; exact HI.out) (by rw [Lib.setCells_size, Lib.setCells_size]) (Lib.setCells_one _) ?_)))
   refine bodyPost_ret (v := .agg (Lib.setCells (S ++ s.data.toList))) ?_ rfl ⟨rfl, below_setRow hb (by omega) _⟩
   exact results_cell_blk rfl _ _ (w.heap.size + 1) 105 _ _ rfl (H2.out.setRow_ _) Tryz.underlying105 rfl (by rw [Lib.setCells_size]; exact HI.out)

/-- (set).has. -/
theorem has_any (S : List UInt8) (s : ByteArray) (w : World) (hs : s.size ≤ maxLen) :
  Calls Tryz.prog 69 #[.agg (Lib.setCells S), .string s] w fun e w' => e = .returned (.bool (inB S s)) ∧ Below w.heap.size w w' := by
 unfold maxLen at hs
 go_enter Tryz.func69, Tryz.ntmps69
 go_wp2
 go_loop [8] (fun i => ∃ k : Nat, k ≤ s.size ∧ i = .int .i64 k ∧ Hid ((s.data.toList.take k).all S.contains = true)) (fun i => s.size - (intOf i).toNat)
 case atStart => exact ⟨0, Nat.zero_le _, rfl, rfl⟩
 case round =>
  obtain ⟨k, hk, rfl, HA⟩ := hrel
  have h1 := Blk.new w 105 (Lib.setCells S)
  by_cases hlt : k < s.size
  ·
   obtain ⟨x, hx⟩ : ∃ x : UInt8, s[k]'hlt = x := ⟨_, rfl⟩
   have hxl : s.data.toList[k]? = some x := by rw [← hx]; exact Lib.data_getElem? s k hlt
   have hx256 : (x.toNat : Int) < 256 := by have := UInt8.toNat_lt x; omega
   have hcell := (h1.cell x.toNat).trans (Lib.setCells_at _ x)
   have HX := Lib.hid hxl; clear hxl
   clear h1
   obtain ⟨c, hc⟩ : ∃ c, S.contains x = c := ⟨_, rfl⟩
   rw [hc] at hcell
   have HC := Lib.hid hc; clear hc
   cases c with
   | false =>
    go_wp2
    go_ret
    refine ⟨ret_bool ?_, (Below.refl _ _).alloc (Nat.le_refl _) _⟩
    symm
    rw [inB, List.all_eq_false]
    exact ⟨x, List.mem_of_getElem? HX.out, by rw [HC.out]; decide⟩
   | true =>
    go_wp2
    go_round
    case rel =>
     refine ⟨k + 1, by omega, by go_num, ?_⟩
     show _ = true
     rw [List.take_add_one, HX.out]
     simp only [Option.toList, List.all_append, HA.out, List.all_cons, List.all_nil, HC.out, Bool.and_self]
    case measure => simp [intOf]; omega
  ·
   clear h1
   go_wp2
   go_ret
   refine ⟨ret_bool ?_, (Below.refl _ _).alloc (Nat.le_refl _) _⟩
   have := HA.out
   rw [List.take_of_length_le (by rw [← Lib.size_eq]; omega)] at this
   exact this.symm

/-- common. -/
theorem common_any (w : World) : Calls Tryz.prog 67 #[] w fun e w' => e = .returned (.agg (Lib.setCells commonL)) ∧ Below w.heap.size w w' := by
 obtain ⟨hz, hi⟩ := zero_of_info info_set
 rw [← Lib.setCells_nil] at hz
 have HI := Lib.hid hi; clear hi
 go_enter Tryz.func67, Tryz.ntmps67
 go_wp2_with fail
 have hb0 : Below w.heap.size w (w.alloc (Obj.cells (Lib.setCells []) 105)) := (Below.refl _ _).alloc (Nat.le_refl _) _
 have k0 : Blk (w.alloc (Obj.cells (Lib.setCells []) 105)) w.heap.size 105 (Lib.setCells []) := Blk.new _ _ _
 generalize w.alloc (Obj.cells (Lib.setCells []) 105) = w0 at *
 refine (plus_any [] _ _ (by decide)).mono ?_; rintro e w1 ⟨rfl, hb1⟩
 have k1 := k0.below hb1 k0.lt; have b1 := hb0.trans (hb1.mono hb0.size)
 clear hb0 hb1 k0
 go_wp2_with fail
 refine (Tryz.strings_ToLower_ascii _ _ (by decide) (fun j b hj => of_decide_eq_true (List.all_eq_true.1 (by decide : upperL.all (fun b => decide (b.toNat < 128)) = true) b (List.mem_of_getElem? hj)))).mono ?_
 rintro e w2 ⟨rfl, hb2⟩
 have k2 := k1.below hb2 k1.lt; have b2 := b1.trans (hb2.mono b1.size)
 clear hb2 k1 b1
 go_wp2_with fail
 refine (plus_any _ _ _ (by decide)).mono ?_; rintro e w3 ⟨rfl, hb3⟩
 have k3 := k2.below hb3 k2.lt; have b3 := b2.trans (hb3.mono b2.size)
 clear hb3 k2 b2
 go_wp2_with fail
 refine (plus_any _ _ _ (by decide)).mono ?_; rintro e w4 ⟨rfl, hb4⟩
 have k4 := k3.below hb4 k3.lt; have b4 := b3.trans (hb4.mono b3.size)
 clear hb4 k3 b3
 go_wp2_with fail
 refine (plus_any _ _ _ (by decide)).mono ?_; rintro e w5 ⟨rfl, hb5⟩
 have k5 := k4.below hb5 k4.lt; have b5 := b4.trans (hb5.mono b4.size)
 clear hb5 k4 b4
 go_wp2_with (with_reducible refine at_store 0 6 ?_; go_must (refine wpList_store_blk rfl 105 _ _ rfl w.heap.size rfl (Lib.setCells commonL) rfl 105 _ k5 (by rw [Lib.setCells_size]; exact HI.out) (by rw [Lib.setCells_size, Lib.setCells_size]) (Lib.setCells_one _) ?_))
 refine bodyPost_ret (v := .agg (Lib.setCells commonL)) ?_ rfl ⟨rfl, below_setRow b5 (Nat.le_refl _) _⟩
 exact results_cell_blk rfl _ _ w.heap.size 105 _ _ rfl (k5.setRow_ _) Tryz.underlying105 rfl (by rw [Lib.setCells_size]; exact HI.out)
end Go.Proofs.YtehmidmoiamcfaaGreatDoor
namespace Go.Proofs.YtehmidmoiamcfaaGreatDoor
open Go.RowKit Go.Cold

/-- dots. -/
theorem dots_any (s : ByteArray) (w : World) : Calls Tryz.prog 66 #[.string s] w fun e w' => e = .returned (.bool (dotsB s)) ∧ w = w' := by
 go_enter Tryz.func66, Tryz.ntmps66
 go_wp2
 ·
  have h : s.toList = [46] := by assumption
  go_ret
  exact ⟨ret_bool (by simp [dotsB, h]), rfl⟩
 ·
  go_ret
  exact ⟨rfl, rfl⟩

/-- The reference's 'in'. -/
theorem in_any (s t : ByteArray) (T : List UInt8) (w : World) (hs : s.size ≤ maxLen) (hT : t.data.toList = T) : Calls Tryz.prog 70 #[.string s, .string t] w fun e w' => e = .returned (.bool (inB T s)) ∧ w = w' := by
 subst hT
 unfold maxLen at hs
 go_enter Tryz.func70, Tryz.ntmps70
 go_wp2
 go_loop [5] (fun i => ∃ k : Nat, k ≤ s.size ∧ i = .int .i64 k ∧ Hid ((s.data.toList.take k).all t.data.toList.contains = true)) (fun i => s.size - (intOf i).toNat)
 case atStart => exact ⟨0, Nat.zero_le _, rfl, rfl⟩
 case round =>
  obtain ⟨k, hk, rfl, HA⟩ := hrel
  by_cases hlt : k < s.size
  ·
   obtain ⟨x, hx⟩ : ∃ x : UInt8, s[k]'hlt = x := ⟨_, rfl⟩
   have hxl : s.data.toList[k]? = some x := by rw [← hx]; exact Lib.data_getElem? s k hlt
   have HX := Lib.hid hxl; clear hxl
   go_wp2_with (go_at_call 108; refine (Tryz.strings_IndexByte _ _ _).mono ?_; rintro e w' ⟨rfl, rfl⟩)
   ·
    have hn : Lib.indexByte t.data.toList x < 0 := by assumption
    go_ret
    exact ⟨ret_bool (all_stop HX.out (by rw [Lib.contains_iff_indexByte]; simp; omega)).symm, rfl⟩
   ·
    have hn : 0 ≤ Lib.indexByte t.data.toList x := by assumption
    go_round
    case rel => exact ⟨k + 1, by omega, by go_num, all_step HA.out HX.out (by rw [Lib.contains_iff_indexByte]; simpa using hn)⟩
    case measure => simp [intOf]; omega
  ·
   go_wp2
   go_ret
   exact ⟨ret_bool (all_end HA.out (by rw [ba_size]; omega)).symm, rfl⟩

end Go.Proofs.YtehmidmoiamcfaaGreatDoor
namespace Go.Proofs.YtehmidmoiamcfaaGreatDoor
open Go.RowKit Go.Cold

/-- name.Valid. -/
theorem Valid_any (s : ByteArray) (w : World) (hs : s.size ≤ maxLen) : Calls Tryz.prog 35 #[.string s] w fun e w' => e = .returned (.bool (validB s)) ∧ Below w.heap.size w w' := by
 go_enter Tryz.func35, Tryz.ntmps35
 go_wp2_with (first
  | (go_at_call 66; go_must (refine (dots_any _ _).mono ?_); rintro e w' ⟨rfl, rfl⟩)
  | (go_at_call 67; go_must (refine (common_any _).mono ?_); rintro e w1 ⟨rfl, hb1⟩)
  | (go_at_call 68; go_must (refine (plus_any _ _ _ (by decide)).mono ?_); rintro e w2 ⟨rfl, hb2⟩)
  | (go_at_call 69; go_must (refine (has_any _ _ _ hs).mono ?_); rintro e w3 ⟨rfl, hb3⟩))
 ·
  go_ret
  exact ⟨ret_bool (by simp [validB, *]), Below.refl _ _⟩
 ·
  go_ret
  exact ⟨ret_bool (by simp [validB, *]), Below.refl _ _⟩
 ·
  go_ret
  refine ⟨ret_bool (by simp [validB, nameL, *]), ?_⟩
  have h2 := hb1.trans (hb2.mono hb1.size)
  exact h2.trans (hb3.mono h2.size)
 ·
  go_ret
  exact ⟨ret_bool (by simp [validB, *]; omega), Below.refl _ _⟩

/-- The reference's Valid. -/
theorem RValid_any (s : ByteArray) (w : World) (hs : s.size ≤ maxLen) : Calls Tryz.prog 36 #[.string s] w fun e w' => e = .returned (.bool (validB s)) ∧ w = w' := by
 go_enter Tryz.func36, Tryz.ntmps36
 go_wp2_with (go_at_call 70; go_must (refine (in_any _ _ nameL _ hs rfl).mono ?_); rintro e w' ⟨rfl, rfl⟩)
 all_goals (go_ret; exact ⟨ret_bool (by first | (simp [validB, dotsB, *]; done) | (simp [validB, dotsB, *]; omega) | simp [validB, dotsB, Bool.and_assoc, *]), rfl⟩)

end Go.Proofs.YtehmidmoiamcfaaGreatDoor
namespace Go.Proofs.YtehmidmoiamcfaaGreatDoor
open Go.RowKit Go.Cold

/-- What all walks ask of the library's own variables. -/
def Ok (w : World) : Prop := ∃ m, w.cell? ⟨1, 0, none⟩ = some (.int .i64 m)
end Go.Proofs.YtehmidmoiamcfaaGreatDoor
namespace Go.Proofs.YtehmidmoiamcfaaGreatDoor
open Go.RowKit Go.Cold

end Go.Proofs.YtehmidmoiamcfaaGreatDoor
namespace Go.Proofs.YtehmidmoiamcfaaGreatDoor
open Go.RowKit Go.Cold

end Go.Proofs.YtehmidmoiamcfaaGreatDoor
namespace Go.Proofs.YtehmidmoiamcfaaGreatDoor
open Go.RowKit Go.Cold

end Go.Proofs.YtehmidmoiamcfaaGreatDoor
namespace Go.Proofs.YtehmidmoiamcfaaGreatDoor
open Go.RowKit Go.Cold

end Go.Proofs.YtehmidmoiamcfaaGreatDoor
namespace Go.Cold
open Go Go.RowKit

end Go.Cold
namespace Go.Cold
open Go Go.RowKit
end Go.Cold
namespace Go.Proofs.YtehmidmoiamcfaaGreatDoor
open Go.RowKit Go.Cold

end Go.Proofs.YtehmidmoiamcfaaGreatDoor
namespace Go.Cold
open Go Go.RowKit
theorem below10 {B gr : Nat} {a w : World} (h : Below B a w) (hg : B ≤ gr) (v0 v1 v2 v3 v4 v5 v6 v7 v8 v9 : Value) : Below B a ((((((((((w.setCell ⟨gr, 0, none⟩ (v0)).setCell ⟨gr, 1, none⟩ (v1)).setCell ⟨gr, 2, none⟩ (v2)).setCell ⟨gr, 3, none⟩ (v3)).setCell ⟨gr, 4, none⟩ (v4)).setCell ⟨gr, 5, none⟩ (v5)).setCell ⟨gr, 6, none⟩ (v6)).setCell ⟨gr, 7, none⟩ (v7)).setCell ⟨gr, 8, none⟩ (v8)).setCell ⟨gr, 9, none⟩ (v9)) :=
 (((((((((h.setCell (by exact hg) _).setCell (by exact hg) _).setCell (by exact hg) _).setCell (by exact hg) _).setCell (by exact hg) _).setCell (by exact hg) _).setCell (by exact hg) _).setCell (by exact hg) _).setCell (by exact hg) _).setCell (by exact hg) _
end Go.Cold
namespace Go.Proofs.YtehmidmoiamcfaaGreatDoor
open Go.RowKit Go.Cold
theorem info_dev2 : (Tryz.prog.info? 43).map (fun i => (i.zero, i.size)) = some (some (.agg #[.int .i64 0, .int .i64 0, .string ByteArray.empty, .string ByteArray.empty, .string ByteArray.empty, .string ByteArray.empty, .string ByteArray.empty, .int .i64 0, .int .i64 0, .slice none 0 0]), 10) := by kernel_rfl
end Go.Proofs.YtehmidmoiamcfaaGreatDoor
namespace Go.Cold
open Go Go.RowKit
end Go.Cold
namespace Go.Proofs.YtehmidmoiamcfaaGreatDoor
open Go.RowKit Go.Cold
end Go.Proofs.YtehmidmoiamcfaaGreatDoor
namespace Go.Cold
open Go Go.RowKit
end Go.Cold
namespace Go.Proofs.YtehmidmoiamcfaaGreatDoor
open Go.RowKit Go.Cold
theorem info_txt : (Tryz.prog.info? 9).map (fun i => (i.zero, i.size, i.bytes)) = some (some (.string ByteArray.empty), 1, 16) := by kernel_rfl
end Go.Proofs.YtehmidmoiamcfaaGreatDoor
namespace Go.Cold
open Go Go.RowKit
end Go.Cold
namespace Go.Proofs.YtehmidmoiamcfaaGreatDoor
open Go.RowKit Go.Cold
end Go.Proofs.YtehmidmoiamcfaaGreatDoor
namespace Go.Proofs.YtehmidmoiamcfaaGreatDoor
open Go.RowKit Go.Cold
end Go.Proofs.YtehmidmoiamcfaaGreatDoor
namespace Go.Proofs.YtehmidmoiamcfaaGreatDoor
open Go.RowKit Go.Cold
end Go.Proofs.YtehmidmoiamcfaaGreatDoor
namespace Go.Proofs.YtehmidmoiamcfaaGreatDoor
open Go.RowKit Go.Cold Go.Sort
end Go.Proofs.YtehmidmoiamcfaaGreatDoor
