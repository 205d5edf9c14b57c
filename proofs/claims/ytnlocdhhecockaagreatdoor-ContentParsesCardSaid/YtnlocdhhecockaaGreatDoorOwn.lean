/-
  Rows that a call owns: bytes of a text laid in memory and written, appended lists of texts read as slices. No program is named here.
-/
import Derived.Test.YtnlocdhhecockaaGreatDoorArr
import Derived.Laws.IdiomStrings
import Derived.Laws.AppendOwn
namespace Go.Cold
open Go Go.RowKit

/-- Block g holds the bytes l at its beginning, and they may be written. -/
def ByteRow (w : World) (g : Nat) (l : List UInt8) : Prop := ∀ i b, l[i]? = some b → w.cell? ⟨g, i, none⟩ = some (.int .u8 (b.toNat : Int)) ∧ w.frozen? ⟨g, i, none⟩ = false

section
variable {w w' : World} {g : Nat} {l : List UInt8}
theorem ByteRow.below {B : Nat} (h : ByteRow w g l) (hb : Below B w w') (hg : g < B) : ByteRow w' g l := fun i b hi =>
  ⟨(hb.cell (p := ⟨g, i, none⟩) hg).trans (h i b hi).1, (hb.frozen (p := ⟨g, i, none⟩) hg).trans (h i b hi).2⟩
theorem ByteRow.set_ (h : ByteRow w g l) {k : Nat} (hk : k < l.length) (u : UInt8) : ByteRow (w.setCell ⟨g, k, none⟩ (.int .u8 (u.toNat : Int))) g (l.set k u) := by
  intro i b hi
  rw [List.getElem?_set] at hi
  have hw := h k l[k] (List.getElem?_eq_getElem hk)
  split at hi
  · rename_i he
    subst he
    obtain rfl := Option.some.inj hi
    exact ⟨World.cell?_setCell_same' w ⟨g, k, none⟩ _ (by rw [hw.1]; rfl), (World.frozen?_setCell w _ _ _).trans hw.2⟩
  · rename_i he
    have h1 := h i b hi
    refine ⟨(World.cell?_setCell_other w ⟨g, k, none⟩ ⟨g, i, none⟩ _ (fun e => he (by injection e))).trans h1.1, (World.frozen?_setCell w _ _ _).trans h1.2⟩
end

section
variable {P : Program}
/-- '[]byte(s)'. -/
theorem wp_conv_bytes {o : Oper} {a : Act} {w : World} {K : Act → World → Prop} {Q : Exit → Act → World → Prop} (src dst e : TypeId) (x : Operand) (ho : o.op = .convert src dst x)
    (s : ByteArray) (hx : a.eval x = .string s) (hs : P.underlying src = some .string) (hd : P.underlying dst = some (.slice e)) (he : P.underlying e = some (.int .u8))
    (h : ∀ cap w', s.size ≤ cap → ByteRow w' w.heap.size s.data.toList → w.heap.size < w'.heap.size → Below w.heap.size w w' → K (a.put o.dst (.slice (some ⟨w.heap.size, 0, none⟩) s.size cap)) w') : o.wp P a w K Q := by
  have hr := run_bytes_of_string (P := P) w src dst e s hs hd he
  unfold Oper.wp execOp
  simp only [ho, hx, Sem.run_bind, Sem.run_pure, Result.andThen_ok, hr]
  refine h _ _ (grownCap_ge _ _ _ _) (fun i b hi => ?_) (by simp) ?_
  · have hsz : i < s.data.size := by
      have := (List.getElem?_eq_some_iff.1 hi).1
      simpa using this
    have hb : s.data[i] = b := by
      have := (List.getElem?_eq_some_iff.1 hi).2
      simpa using this
    have h1 := World.cell?_alloc_mark w.drew (bytesRow s (grownCap w s.size 0 e)) e ((bytesRow s (grownCap w s.size 0 e)).size, (bytesRow s (grownCap w s.size 0 e)).size + 1) i
    have h2 := World.frozen?_alloc_mark w.drew (bytesRow s (grownCap w s.size 0 e)) e (bytesRow s (grownCap w s.size 0 e)).size ((bytesRow s (grownCap w s.size 0 e)).size + 1) i
    have h3 := bytesRow_at s (grownCap w s.size 0 e) i hsz
    rw [hb] at h3
    refine ⟨h1.trans h3, h2.trans ?_⟩
    have : i < (bytesRow s (grownCap w s.size 0 e)).size := (Array.getElem?_eq_some_iff.1 h3).1
    simp; omega
  · exact ((Below.refl _ _).drew).alloc (Nat.le_refl _) _
theorem wpList_conv_bytes {ops : Array Oper} {rest : List Oper} {o : Oper} {a : Act} {w : World} {Q : Exit → Act → World → Prop} (hgd : o.guard = none) (src dst e : TypeId) (x : Operand) (ho : o.op = .convert src dst x)
    (s : ByteArray) (hx : a.eval x = .string s) (hs : P.underlying src = some .string) (hd : P.underlying dst = some (.slice e)) (he : P.underlying e = some (.int .u8))
    (h : ∀ cap w', s.size ≤ cap → ByteRow w' w.heap.size s.data.toList → w.heap.size < w'.heap.size → Below w.heap.size w w' → wpList P ops Q rest (a.put o.dst (.slice (some ⟨w.heap.size, 0, none⟩) s.size cap)) w') : wpList P ops Q (o :: rest) a w :=
  wpList_plain hgd fun _ hK => wp_conv_bytes src dst e x ho s hx hs hd he fun cap w' h1 h2 h3 h4 => hK _ _ (h cap w' h1 h2 h3 h4)
/-- 'string(b)'. -/
theorem wp_conv_string {o : Oper} {a : Act} {w : World} {K : Act → World → Prop} {Q : Exit → Act → World → Prop} (src dst e : TypeId) (x : Operand) (ho : o.op = .convert src dst x)
    (g cap n : Nat) (l : List UInt8) (hn : l.length = n) (hx : a.eval x = .slice (some ⟨g, 0, none⟩) n cap) (hl : ByteRow w g l) (hs : P.underlying src = some (.slice e)) (he : P.underlying e = some (.int .u8)) (hd : P.underlying dst = some .string)
    (h : K (a.put o.dst (.string ⟨l.toArray⟩)) w) : o.wp P a w K Q := by
  subst hn
  have hr := run_convert_bytes_back (P := P) w src dst e ⟨g, 0, none⟩ cap l hs he hd (fun j hj => by
    rw [add_mk, Nat.zero_add]
    exact (hl j l[j] (List.getElem?_eq_getElem hj)).1)
  unfold Oper.wp execOp
  simp only [ho, hx, Sem.run_bind, Sem.run_pure, Result.andThen_ok, hr]
  exact h
theorem wpList_conv_string {ops : Array Oper} {rest : List Oper} {o : Oper} {a : Act} {w : World} {Q : Exit → Act → World → Prop} (hgd : o.guard = none) (src dst e : TypeId) (x : Operand) (ho : o.op = .convert src dst x)
    (g cap n : Nat) (l : List UInt8) (hn : l.length = n) (hx : a.eval x = .slice (some ⟨g, 0, none⟩) n cap) (hl : ByteRow w g l) (hs : P.underlying src = some (.slice e)) (he : P.underlying e = some (.int .u8)) (hd : P.underlying dst = some .string)
    (h : wpList P ops Q rest (a.put o.dst (.string ⟨l.toArray⟩)) w) : wpList P ops Q (o :: rest) a w :=
  wpList_plain hgd fun _ hK => wp_conv_string src dst e x ho g cap n l hn hx hl hs he hd (hK _ _ h)
end

/-- A list of texts that a call has gathered reads as a slice. -/
theorem Sl.ofOwn {w : World} {base n : Nat} {e : TypeId} {v : Value} {xs : List ByteArray} (h : w.ownsRow base e 1 v n (xs.map Value.string)) (hs : ∀ x ∈ xs, x.size ≤ maxLen) :
    ∃ A c, v = .slice A xs.length c ∧ Sl w w.heap.size A c xs := by
  have hlen : xs.length = n := by have := h.1; simpa using this
  obtain ⟨h1, h2⟩ := h
  rcases h2 with ⟨rfl, rfl⟩ | ⟨g, cap, cur, rfl, hg, hh, hnc, hcm, hcs, htk⟩
  · have : xs = [] := List.eq_nil_of_length_eq_zero hlen
    subst this
    exact ⟨none, 0, rfl, Sl.nil_⟩
  · subst hlen
    refine ⟨_, cap, rfl, Sl.ofStrs hnc hcm ?_ hs (fun i x hx => ?_)⟩
    · rcases Nat.lt_or_ge g w.heap.size with hlt | hge
      · exact hlt
      · rw [Array.getElem?_eq_none hge] at hh; cases hh
    · rw [Nat.zero_add, cell_of_row w g i cur e (0, 0) hh]
      have hi : i < xs.length := (List.getElem?_eq_some_iff.1 hx).1
      have := congrArg (fun l => l[i]?) htk
      simp only [Nat.mul_one, List.getElem?_take, hi, if_true, List.getElem?_map, hx, Option.map_some] at this
      simpa using this
end Go.Cold
