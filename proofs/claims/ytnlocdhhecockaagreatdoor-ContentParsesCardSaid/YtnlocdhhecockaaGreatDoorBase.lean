/-
  Words for memory that all walks of this claim share: how a list of data lies in a slice. No program is named here.
-/
import Derived.WalkKit
import Derived.WalkSpells
import Derived.WalkLawsBesides
import Derived.Deep.QuietTactic
import Derived.BigQuiet
import Derived.Deep.Draws
import Derived.Laws.OwnMore
import Derived.Lib.Hide
import Derived.Deep.DeepMust
import Derived.Deep.DeepFit
import Derived.Deep.LoopGhost
import Derived.Lib.Strings
namespace Go.Cold
open Go Go.RowKit

/-- How data of a Lean type lie in cells: 'rd w B a cs': the cells cs read as a, and all that is reached lies below block B. -/
class Rep (α : Type) where
  size : Nat
  rd : World → Nat → α → List Value → Prop
  len : ∀ {w B a cs}, rd w B a cs → cs.length = size
  keep : ∀ {w w' B a cs}, Below B w w' → rd w B a cs → rd w' B a cs
  more : ∀ {w B B' a cs}, B ≤ B' → rd w B a cs → rd w B' a cs

instance : Rep ByteArray where
  size := 1
  rd _ _ s cs := cs = [.string s] ∧ s.size ≤ maxLen
  len h := by rw [h.1]; rfl
  keep _ h := h
  more _ h := h

instance : Rep Int where
  size := 1
  rd _ _ n cs := cs = [.int .i64 n] ∧ -9223372036854775808 ≤ n ∧ n ≤ 9223372036854775807
  len h := by rw [h.1]; rfl
  keep _ h := h
  more _ h := h

instance : Rep Bool where
  size := 1
  rd _ _ b cs := cs = [.bool b]
  len h := by rw [h]; rfl
  keep _ h := h
  more _ h := h

/-- The slice '.slice A xs.length c' reads as the list xs, in blocks below B. -/
def Sl {α : Type} [Rep α] (w : World) (B : Nat) (A : Option Addr) (c : Nat) (xs : List α) : Prop :=
  xs.length ≤ c ∧ c ≤ maxLen ∧ (0 < xs.length → ∃ b o, A = some ⟨b, o, none⟩ ∧ b < B ∧
    ∀ i x, xs[i]? = some x → ∃ cs, Rep.rd w B x cs ∧ ∀ j u, cs[j]? = some u → w.cell? ⟨b, o + (i * Rep.size α + j), none⟩ = some u)

theorem block_of_add (a : Addr) (n : Nat) : (a.add n).block = a.block := by unfold Addr.add; split <;> rfl
theorem add_of_add (a : Addr) (i j : Nat) : (a.add i).add j = a.add (i + j) := by
  unfold Addr.add
  by_cases hi : i = 0 <;> by_cases hj : j = 0 <;> simp [hi, hj, Nat.add_assoc]
theorem add_mk (b o n : Nat) : (⟨b, o, none⟩ : Addr).add n = ⟨b, o + n, none⟩ := by
  unfold Addr.add; split <;> simp_all

section
variable {α : Type} [Rep α] {w w' : World} {B B' c : Nat} {A : Option Addr} {xs : List α}

theorem Sl.keep (h : Sl w B A c xs) (hb : Below B w w') : Sl w' B A c xs :=
  ⟨h.1, h.2.1, fun hn => by
    obtain ⟨b, o, e, hlt, hc⟩ := h.2.2 hn
    refine ⟨b, o, e, hlt, fun i x hx => ?_⟩
    obtain ⟨cs, hr, hcs⟩ := hc i x hx
    exact ⟨cs, Rep.keep hb hr, fun j u hu => (hb.cell (by exact hlt)).trans (hcs j u hu)⟩⟩
theorem Sl.more (h : Sl w B A c xs) (hB : B ≤ B') : Sl w B' A c xs :=
  ⟨h.1, h.2.1, fun hn => by
    obtain ⟨b, o, e, hlt, hc⟩ := h.2.2 hn
    refine ⟨b, o, e, by omega, fun i x hx => ?_⟩
    obtain ⟨cs, hr, hcs⟩ := hc i x hx
    exact ⟨cs, Rep.more hB hr, hcs⟩⟩
theorem below_drewN_self (w : World) (B n : Nat) : Below B w (w.drewN n) := ⟨rfl, rfl, rfl, Nat.le_refl _, fun _ _ => rfl⟩
theorem Sl.drewN (h : Sl w B A c xs) (n : Nat) : Sl (w.drewN n) B A c xs := h.keep (below_drewN_self _ _ _)
/-- To the world behind a call that leaves all that there was, and up to its heap's size. -/
theorem Sl.next (h : Sl w B A c xs) (hB : B ≤ w.heap.size) (hb : Below w.heap.size w w') : Sl w' w'.heap.size A c xs := (h.keep (hb.mono hB)).more (by have := hb.size; omega)
theorem Sl.nil_ : Sl w B A 0 ([] : List α) := ⟨by simp, by simp [maxLen], fun h => absurd h (by simp)⟩
theorem Sl.at_ (h : Sl w B A c xs) {i : Nat} (hi : i < xs.length) : ∃ b o, A = some ⟨b, o, none⟩ ∧ b < B ∧ ∃ cs, Rep.rd w B xs[i] cs ∧ ∀ j u, cs[j]? = some u → w.cell? ⟨b, o + (i * Rep.size α + j), none⟩ = some u := by
  obtain ⟨b, o, e, hlt, hc⟩ := h.2.2 (by omega)
  exact ⟨b, o, e, hlt, hc i _ (List.getElem?_eq_getElem hi)⟩
end

/-- The cell of a string in a slice of strings. -/
theorem Sl.str {w : World} {B c : Nat} {A : Option Addr} {xs : List ByteArray} (h : Sl w B A c xs) {i : Nat} (hi : i < xs.length) :
    ∃ b o, A = some ⟨b, o, none⟩ ∧ b < B ∧ w.cell? ⟨b, o + i, none⟩ = some (.string xs[i]) ∧ xs[i].size ≤ maxLen := by
  obtain ⟨b, o, e, hlt, cs, hr, hc⟩ := h.at_ hi
  obtain ⟨rfl, hs⟩ := hr
  exact ⟨b, o, e, hlt, by have := hc 0 _ rfl; simpa [Rep.size] using this, hs⟩
/-- All cells of a slice of strings, as the shelf's contracts ask them. -/
theorem Sl.strs {w : World} {B c : Nat} {A : Option Addr} {xs : List ByteArray} (h : Sl w B A c xs) (h0 : 0 < xs.length) :
    ∃ b o, A = some ⟨b, o, none⟩ ∧ b < B ∧ ∀ (i : Nat) x, xs[i]? = some x → w.cell? ⟨b, o + i, none⟩ = some (.string x) := by
  obtain ⟨b, o, e, hlt, hc⟩ := h.2.2 h0
  refine ⟨b, o, e, hlt, fun i x hx => ?_⟩
  obtain ⟨cs, hr, hcs⟩ := hc i x hx
  obtain ⟨rfl, hs⟩ := hr
  have := hcs 0 _ rfl
  simpa [Rep.size] using this
theorem Sl.ofStrs {w : World} {B c b o : Nat} {xs : List ByteArray} (hc : xs.length ≤ c) (hm : c ≤ maxLen) (hb : b < B) (hs : ∀ x ∈ xs, x.size ≤ maxLen)
    (h : ∀ (i : Nat) x, xs[i]? = some x → w.cell? ⟨b, o + i, none⟩ = some (.string x)) : Sl w B (some ⟨b, o, none⟩) c xs :=
  ⟨hc, hm, fun _ => ⟨b, o, rfl, hb, fun i x hx => ⟨[.string x], ⟨rfl, hs x (List.mem_of_getElem? hx)⟩, fun j u hu => by
    have hj : j = 0 := by
      rcases j with _ | j
      · rfl
      · simp at hu
    subst hj
    simp at hu
    subst hu
    have := h i x hx
    simpa [Rep.size] using this⟩⟩⟩
theorem Sl.int {w : World} {B c : Nat} {A : Option Addr} {xs : List Int} (h : Sl w B A c xs) {i : Nat} (hi : i < xs.length) :
    ∃ b o, A = some ⟨b, o, none⟩ ∧ b < B ∧ w.cell? ⟨b, o + i, none⟩ = some (.int .i64 xs[i]) ∧ -9223372036854775808 ≤ xs[i] ∧ xs[i] ≤ 9223372036854775807 := by
  obtain ⟨b, o, e, hlt, cs, hr, hc⟩ := h.at_ hi
  obtain ⟨rfl, hs⟩ := hr
  exact ⟨b, o, e, hlt, by have := hc 0 _ rfl; simpa [Rep.size] using this, hs⟩

theorem Sl.take {α : Type} [Rep α] {w : World} {B c n : Nat} {A : Option Addr} {xs : List α} (h : Sl w B A c xs) (hn : n ≤ xs.length) : Sl w B A c (xs.take n) := by
  refine ⟨by rw [List.length_take]; have := h.1; omega, h.2.1, fun h0 => ?_⟩
  rw [List.length_take] at h0
  obtain ⟨b, o, e, hlt, hc⟩ := h.2.2 (by omega)
  refine ⟨b, o, e, hlt, fun i x hx => hc i x ?_⟩
  rw [List.getElem?_take] at hx
  split at hx
  · exact hx
  · cases hx

theorem ba_beq (a b : ByteArray) : (a.toList == b.toList) = decide (a = b) := by
  rw [Bool.eq_iff_iff]
  simp only [beq_iff_eq, decide_eq_true_eq]
  constructor
  · intro h
    rw [Lib.toList_data, Lib.toList_data] at h
    cases a; cases b; simp at h; rw [h]
  · rintro rfl; rfl
theorem ba_ne {a b : ByteArray} (h : (!a.toList == b.toList) = true) : a ≠ b := by
  rintro rfl; simp at h
theorem ba_eq {a b : ByteArray} (h : (!a.toList == b.toList) = false) : a = b := by
  rw [ba_beq] at h; simpa using h
theorem take_succ_iff {α : Type} {xs ys : List α} {k : Nat} (hk : k < xs.length) (hk' : k < ys.length) (h : xs.take k = ys.take k) (he : xs[k] = ys[k]) : xs.take (k + 1) = ys.take (k + 1) := by
  rw [List.take_succ_eq_append_getElem hk, List.take_succ_eq_append_getElem hk', h, he]
theorem take_all {α : Type} {xs ys : List α} {k : Nat} (h : xs.take k = ys.take k) (hx : xs.length ≤ k) (hy : ys.length ≤ k) : xs = ys := by
  rwa [List.take_of_length_le hx, List.take_of_length_le hy] at h

theorem all_step {α : Type} {p : α → Bool} {l : List α} {k : Nat} {x : α} (h : (l.take k).all p = true) (hx : l[k]? = some x) (hp : p x = true) : (l.take (k + 1)).all p = true := by
  rw [List.take_add_one, hx]
  simp [Option.toList, List.all_append, h, hp]
theorem all_stop {α : Type} {p : α → Bool} {l : List α} {k : Nat} {x : α} (hx : l[k]? = some x) (hp : p x = false) : l.all p = false := by
  rw [List.all_eq_false]
  exact ⟨x, List.mem_of_getElem? hx, by rw [hp]; decide⟩
theorem all_end {α : Type} {p : α → Bool} {l : List α} {k : Nat} (h : (l.take k).all p = true) (hk : l.length ≤ k) : l.all p = true := by
  rwa [List.take_of_length_le hk] at h
theorem getElem_all {α : Type} {p : α → Bool} {l : List α} {k : Nat} {x : α} (h : l.all p = true) (hx : l[k]? = some x) : p x = true :=
  List.all_eq_true.1 h x (List.mem_of_getElem? hx)
theorem ba_size (s : ByteArray) : s.data.toList.length = s.size := (Lib.size_eq s).symm

/-- What slices.IndexFunc hands back. -/
def idxInt {α : Type} (p : α → Bool) (xs : List α) : Int := match xs.findIdx? p with | some i => (i : Int) | none => -1
theorem idxInt_none {α : Type} {p : α → Bool} {l : List α} (h : l.all (fun x => !p x) = true) : idxInt p l = -1 := by
  have : l.findIdx? p = none := by
    rw [List.findIdx?_eq_none_iff]
    intro x hx
    have := List.all_eq_true.1 h x hx
    simpa using this
  simp [idxInt, this]
theorem idxInt_some {α : Type} {p : α → Bool} {l : List α} {k : Nat} (hk : k < l.length) (h : (l.take k).all (fun x => !p x) = true) (hp : p l[k] = true) : idxInt p l = k := by
  have : l.findIdx? p = some k := by
    rw [List.findIdx?_eq_some_iff_getElem]
    refine ⟨hk, hp, fun j hj => ?_⟩
    have := getElem_all h (k := j) (x := l[j]) (by rw [List.getElem?_take]; simp [hj, List.getElem?_eq_getElem (show j < l.length by omega)])
    simpa using this
  simp [idxInt, this]
theorem idxInt_any {α : Type} (p : α → Bool) (l : List α) : decide (0 ≤ idxInt p l) = l.any p := by
  unfold idxInt
  cases h : l.findIdx? p with
  | none =>
    rw [List.findIdx?_eq_none_iff] at h
    symm
    simp only [Int.reduceNeg, Int.reduceLE, decide_false, List.any_eq_false]
    intro x hx
    simp [h x hx]
  | some i =>
    rw [List.findIdx?_eq_some_iff_getElem] at h
    obtain ⟨hi, hp, _⟩ := h
    symm
    simp only [Int.natCast_nonneg, decide_true, List.any_eq_true]
    exact ⟨_, List.getElem_mem hi, hp⟩

theorem quiet_add {P : Program} {f : FuncId} {args : Array Value} {w : World} {a n : Nat} {v : Value}
    (h : Calls P f args (w.drewN (a + n)) fun e w' => e = .returned v ∧ ∃ m, w' = (w.drewN (a + n)).drewN m) :
    Calls P f args (w.drewN (a + n)) fun e w'' => e = .returned v ∧ ∃ m, w'' = w.drewN (a + m) :=
  h.mono fun _ _ ⟨he, m, hm⟩ => ⟨he, n + m, by rw [hm, World.drewN_drewN, Nat.add_assoc]⟩
theorem quiet_add_same {P : Program} {f : FuncId} {args : Array Value} {w : World} {a n : Nat} {v : Value}
    (h : Calls P f args (w.drewN (a + n)) fun e w' => e = .returned v ∧ w' = w.drewN (a + n)) :
    Calls P f args (w.drewN (a + n)) fun e w'' => e = .returned v ∧ ∃ m, w'' = w.drewN (a + m) :=
  h.mono fun _ _ ⟨he, hm⟩ => ⟨he, n, hm⟩
theorem quiet_add_left {P : Program} {f : FuncId} {args : Array Value} {w : World} {a n : Nat} {v : Value}
    (h : Calls P f args (w.drewN (a + n)) fun e w' => e = .returned v ∧ w.drewN (a + n) = w') :
    Calls P f args (w.drewN (a + n)) fun e w'' => e = .returned v ∧ ∃ m, w'' = w.drewN (a + m) :=
  h.mono fun _ _ ⟨he, hm⟩ => ⟨he, n, hm.symm⟩
theorem quiet_left {P : Program} {f : FuncId} {args : Array Value} {w : World} {n : Nat} {v : Value}
    (h : Calls P f args (w.drewN n) fun e w' => e = .returned v ∧ w.drewN n = w') : Calls P f args (w.drewN n) fun e w'' => e = .returned v ∧ ∃ m, w'' = w.drewN m :=
  h.mono fun _ _ ⟨he, hm⟩ => ⟨he, n, hm.symm⟩

theorem ret_bool {a b : Bool} (h : a = b) : Ending.returned (.bool a) = .returned (.bool b) := by rw [h]
theorem ret_str {a b : ByteArray} (h : a = b) : Ending.returned (.string a) = .returned (.string b) := by rw [h]
theorem ret_int {k : IntKind} {a b : Int} (h : a = b) : Ending.returned (.int k a) = .returned (.int k b) := by rw [h]

theorem below_drewN {B : Nat} {a w : World} (h : Below B a w) (n : Nat) : Below B a (w.drewN n) := ⟨h.os, h.tape, h.output, h.size, h.block⟩
theorem bcell {W w1 : World} (hb : Below W.heap.size W w1) : (∀ b o, b < W.heap.size → w1.cell? ⟨b, o, none⟩ = W.cell? ⟨b, o, none⟩) ∧ (∀ b o, b < W.heap.size → w1.frozen? ⟨b, o, none⟩ = W.frozen? ⟨b, o, none⟩) :=
  ⟨fun b o h => hb.cell (p := ⟨b, o, none⟩) h, fun b o h => hb.frozen (p := ⟨b, o, none⟩) h⟩
end Go.Cold
