/-
  The walks of layer 3: both Sorted.
-/
import Derived.Test.YtehmidmoiamcfaaGreatDoorHA
import Derived.Shelf.Abstract
import Derived.Maps.Views
import Derived.Maps.OwnSet
import Derived.Maps.Keyed
import Derived.Test.YtehmidmoiamcfaaGreatDoorHShf
import Derived.Maps.OwnIn
import Derived.Lib.ItoaNum
import Derived.Lib.AtoiAllCases
import Derived.Lib.AppendIntMem
set_option linter.unusedSimpArgs false
set_option linter.unusedVariables false
namespace Go.Cold
open Go Go.RowKit
end Go.Cold
namespace Go.Proofs.YtehmidmoiamcfaaGreatDoor
open Go.RowKit Go.Cold
end Go.Proofs.YtehmidmoiamcfaaGreatDoor
namespace Go.Proofs.YtehmidmoiamcfaaGreatDoor
open Go.RowKit Go.Cold

end Go.Proofs.YtehmidmoiamcfaaGreatDoor
namespace Go.Cold
open Go Go.RowKit
end Go.Cold
namespace Go.Proofs.YtehmidmoiamcfaaGreatDoor
open Go.RowKit Go.Cold
end Go.Proofs.YtehmidmoiamcfaaGreatDoor
namespace Go.Cold
open Go Go.RowKit
/-- A kind of a map's elements. -/
class El (α : Type) where
 val : α → Value
 lit : α → Lit
 desc : TypeDesc
 ok : α → Prop
 zero : α
 zero_ok : ok zero
 rd : ∀ {P : Program} {e : TypeId} {a : α}, P.underlying e = some desc → ok a → plainElem (H := Unit) P e (val a) = some (.lit (lit a), [])
 inv : ∀ {P : Program} {e : TypeId} {v : Value} {z : DataW Unit × List MemPlace}, P.underlying e = some desc → plainElem (H := Unit) P e v = some z → ∃ a, v = val a ∧ ok a ∧ z.1 = .lit (lit a)
 inj : ∀ {a b : α}, lit a = lit b → a = b
instance : El ByteArray where
 val s := .string s
 lit s := .string s.data.toList
 desc := .string
 ok s := s.size ≤ maxLen
 zero := ByteArray.empty
 zero_ok := Nat.zero_le _
 rd he h := plainElem_string he h
 inv {P e v z} he h := by
  unfold plainElem at h
  rw [he] at h
  cases v <;> simp at h
  obtain ⟨hs, rfl⟩ := h
  exact ⟨_, rfl, hs, rfl⟩
 inj {a b} h := by
  injection h with h
  have h2 := Array.toList_inj.1 h
  cases a; cases b; simp at h2; rw [h2]
theorem wf_i64 {a : Int} : (Lit.int .i64 a).wf = true ↔ okI a := by
 unfold okI
 simp [Lit.wf, IntKind.min, IntKind.max, IntKind.signed, IntKind.bits]
instance : El Int where
 val n := .int .i64 n
 lit n := .int .i64 n
 desc := .int .i64
 ok n := okI n
 zero := 0
 zero_ok := ⟨by decide, by decide⟩
 rd he h := plainElem_int he (wf_i64.2 h)
 inv {P e v z} he h := by
  obtain ⟨a, rfl, rfl, hw⟩ := plainElem_int_inv he h
  exact ⟨a, rfl, wf_i64.1 hw, rfl⟩
 inj h := by injection h
instance : El Bool where
 val x := .bool x
 lit x := .bool x
 desc := .bool
 ok _ := True
 zero := false
 zero_ok := trivial
 rd he _ := plainElem_bool he _
 inv {P e v z} he h := by
  unfold plainElem at h
  rw [he] at h
  cases v <;> simp at h
  subst h
  exact ⟨_, rfl, trivial, rfl⟩
 inj h := by injection h
section
variable {α : Type} [El α] {P : Program} {k e t : TypeId} {w w' : World} {b n : Nat} {f : Int → Option α}
end
end Go.Cold
namespace Go.Cold
open Go Go.RowKit
/-- The facts on an element's type that an append asks. -/
structure ElemT (P : Program) (n : Nat) (T TS : TypeId) (bytes : Nat) : Prop where
 sl : P.underlying TS = some (.slice T)
 info : ∃ i z, P.info? T = some i ∧ i.zero = some z ∧ i.size = n ∧ i.bytes = bytes ∧ z.cells.size = n
section
variable {P : Program} {α : Type} [RepS α] {F : Nat → Prop} {w : World} {base bytes : Nat} {T TS : TypeId} {ops : Array Oper} {rest : List Oper} {o : Oper} {a : Act} {Q : Exit → Act → World → Prop}
/-- 'append(out, x)' in a walk: the new value lies in block g. -/
theorem wpList_app1 (E : ElemT P (Rep.size α) T TS bytes) (hgd : o.guard = none) (s x : Operand) (ho : o.op = .call { callee := .builtin .append, args := #[s, x], argTypes := #[TS, TS] })
  (v : Value) (acc : List α) (hs : a.eval s = v) (h : OwnsS F w base T v acc) (g : Nat) (hx : a.eval x = .slice (some ⟨g, 0, none⟩) 1 1) (y : α) (cs : List Value)
  (hc : ∀ (j : Nat) u, cs[j]? = some u → w.cell? ⟨g, j, none⟩ = some u) (hr : RepS.rdS w (fun b => F b ∧ b < w.heap.size ∧ v.ownBlock ≠ some b) y cs)
  (h1 : acc.length + 1 ≤ maxLen) (h2 : (acc.length + 1) * bytes ≤ 140737488355328) (hb : base ≤ w.heap.size)
  (hK : ∀ v' w', OwnsS F w' base T v' (acc ++ [y]) → w.grownBy w' v.ownBlock → (∀ k, v'.ownBlock = some k → v.ownBlock = some k ∨ w.heap.size ≤ k) → wpList P ops Q rest (a.put o.dst v') w') : wpList P ops Q (o :: rest) a w := by
 obtain ⟨i, z, hi, hz, hs1, hs2, hs3⟩ := E.info
 obtain ⟨css, o1, o2, o3⟩ := h
 refine wpList_append_own_at w hgd s x TS ho base T i z (Rep.size α) bytes E.sl hi hz hs1 hs2 hs3 RepS.pos v acc.length css.flatten hs o1 ⟨g, 0, none⟩ 1 1 cs hx (by rw [RepS.lenS hr, Nat.one_mul]) (fun j u hu => by rw [add_mk, Nat.zero_add]; exact hc j u hu) (RepS.one hr) h1 h2 hb ?_
 intro v' w' hown hg _ hat
 have hnew : ∀ k, v'.ownBlock = some k → v.ownBlock = some k ∨ w.heap.size ≤ k := fun k hk => hat.elim (fun h => .inl (h.symm.trans hk)) (fun h => .inr (by rw [hk] at h; have := Option.some.inj h; omega))
 exact hK v' w' (OwnsS.app o1 o2 o3 hr hown hg hnew) hg hnew
end
theorem lit_cells {w w' : World} {T : TypeId} {cs : Array Value} {l : List Value} (h : w.alloc (.cells cs T) = w') (hl : l = cs.toList) : ∀ (j : Nat) u, l[j]? = some u → w'.cell? ⟨w.heap.size, j, none⟩ = some u := by
 subst hl
 exact (box_mk h).1
/-- The list is one's own from any lower base, too. -/
theorem ownsRow_low {w : World} {base base' n size : Nat} {T : TypeId} {v : Value} {xs : List Value} (h : w.ownsRow base T size v n xs) (hb : base' ≤ base) : w.ownsRow base' T size v n xs := by
 obtain ⟨h1, h2⟩ := h
 refine ⟨h1, ?_⟩
 rcases h2 with h2 | ⟨g, cap, cur, e, hg, h3⟩
 · exact .inl h2
 · exact .inr ⟨g, cap, cur, e, Nat.le_trans hb hg, h3⟩
theorem OwnsS.low {α : Type} [RepS α] {F : Nat → Prop} {w : World} {base base' : Nat} {T : TypeId} {v : Value} {xs : List α} (h : OwnsS F w base T v xs) (hb : base' ≤ base) : OwnsS F w base' T v xs := by
 obtain ⟨css, h1, h2⟩ := h
 exact ⟨css, ownsRow_low h1 hb, h2⟩
/-- Behind a growth that may have written one's own row. -/
theorem below_own {B : Nat} {a w w' : World} {v : Value} (h : Below B a w) (hg : w.grownBy w' v.ownBlock) (hB : B ≤ w.heap.size) (hv : ∀ k, v.ownBlock = some k → B ≤ k) : Below B a w' := h.grown hg hB hv
end Go.Cold
namespace Go.Cold
open Go Go.RowKit
/-- A number from 0 to n - 1. -/
def foldI (v n : Int) : Int := if n ≤ 1 then 0 else if v.tmod n < 0 then v.tmod n + n else v.tmod n
theorem foldI_range {v n : Int} (h : 1 < n) : 0 ≤ foldI v n ∧ foldI v n < n := by
 unfold foldI
 rw [if_neg (by omega)]
 have h1 := Int.tmod_lt_of_pos v (show 0 < n by omega)
 have h2 : -n < v.tmod n := by
  have := Int.lt_tmod_of_pos v (show 0 < n by omega)
  exact this
 split <;> omega
/-- The tape in block b, at its place number k. -/
def TapeAt (w : World) (B b : Nat) (xs : List Int) (k : Nat) : Prop := ∃ A c, w.cell? ⟨b, 0, none⟩ = some (.slice A xs.length c) ∧ w.cell? ⟨b, 1, none⟩ = some (.int .i64 k) ∧
 (∀ j, w.frozen? ⟨b, j, none⟩ = false) ∧ Sl w B A c xs ∧ B ≤ b ∧ b < w.heap.size
/-- What the tape reads at a place. -/
def tapeI (xs : List Int) (k : Nat) : Int := match xs[k]? with
 | some v => v
 | none => ((k : Int) * 7).tmod 11
end Go.Cold
namespace Go.Proofs.YtehmidmoiamcfaaGreatDoor
open Go.RowKit Go.Cold

theorem Fold_any (v n : Int) (w : World) (hv : okI v) (hn : okI n) : Calls Tryz.prog 29 #[.int .i64 v, .int .i64 n] w fun e w' => e = .returned (.int .i64 (foldI v n)) ∧ w = w' := by
 unfold okI at hv hn
 by_cases h1 : n ≤ 1
 ·
  go_enter Tryz.func29, Tryz.ntmps29
  go_wp2
  go_ret
  exact ⟨ret_int (by rw [foldI, if_pos h1]), rfl⟩
 ·
  have h2 : ¬ n = 0 := by omega
  have hlt := Int.tmod_lt_of_pos v (show 0 < n by omega)
  have hgt := Int.lt_tmod_of_pos v (show 0 < n by omega)
  have hnn : ¬ n = -1 := by omega
  have hf : foldI v n = if v.tmod n < 0 then v.tmod n + n else v.tmod n := by rw [foldI, if_neg h1]
  have HF := Lib.hid hf; clear hf
  by_cases h3 : v.tmod n < 0
  ·
   go_enter Tryz.func29, Tryz.ntmps29
   go_wp2
   go_ret
   exact ⟨ret_int (by rw [HF.out, if_pos h3]), rfl⟩
  ·
   go_enter Tryz.func29, Tryz.ntmps29
   go_wp2
   go_ret
   exact ⟨ret_int (by rw [HF.out, if_neg (by omega)]), rfl⟩

theorem set_at (w : World) (a : Addr) (v : Value) (h : (w.cell? a).isSome) : (w.setCell a v).cell? a = some v := World.cell?_setCell_same' w a v h
/-- The tape behind one reading. -/
theorem tape_next {w : World} {B b c k : Nat} {A : Option Addr} {xs : List Int} (nq : Nat) (h0 : w.cell? ⟨b, 0, none⟩ = some (.slice A xs.length c)) (h1 : w.cell? ⟨b, 1, none⟩ = some (.int .i64 k))
  (hfr : ∀ j, w.frozen? ⟨b, j, none⟩ = false) (hsl : Sl w B A c xs) (hB : B ≤ b) (hlt : b < w.heap.size) : TapeAt ((w.setCell ⟨b, 1, none⟩ (.int .i64 ((k : Int) + 1))).drewN nq) B b xs (k + 1) := by
 have hb : Below B w ((w.setCell ⟨b, 1, none⟩ (.int .i64 ((k : Int) + 1))).drewN nq) := below_drewN ((Below.refl _ _).setCell hB _) nq
 refine ⟨A, c, ?_, ?_, fun j => ?_, hsl.keep hb, hB, by simpa using hlt⟩
 · exact (World.cell?_setCell_other w ⟨b, 1, none⟩ ⟨b, 0, none⟩ _ (fun e => by injection e with _ e; cases e)).trans h0
 · exact (set_at w _ _ (by rw [h1]; rfl)).trans (by simp)
 · exact (World.frozen?_setCell w _ _ _).trans (hfr j)
theorem grown_next {w : World} {b : Nat} {v : Value} (nq : Nat) (_hlt : b < w.heap.size) : w.grownBy ((w.setCell ⟨b, 1, none⟩ v).drewN nq) (some b) := by
 refine ⟨rfl, rfl, rfl, by simp, fun k hk hne => ?_⟩
 have hne' : ¬ k = b := fun e => hne (by rw [e])
 exact Below.heap_setCell _ _ _ _ (by show ¬ _ ; simp; omega)
theorem tape_step {w : World} {B b c k : Nat} {A : Option Addr} {xs : List Int} (nq : Nat) (h0 : w.cell? ⟨b, 0, none⟩ = some (.slice A xs.length c)) (h1 : w.cell? ⟨b, 1, none⟩ = some (.int .i64 k))
  (hfr : ∀ j, w.frozen? ⟨b, j, none⟩ = false) (hsl : Sl w B A c xs) (hB : B ≤ b) (hlt : b < w.heap.size) : TapeAt ((w.setCell ⟨b, 1, none⟩ (.int .i64 ((k : Int) + 1))).drewN nq) B b xs (k + 1) ∧ w.grownBy ((w.setCell ⟨b, 1, none⟩ (.int .i64 ((k : Int) + 1))).drewN nq) (some b) :=
 ⟨tape_next nq h0 h1 hfr hsl hB hlt, grown_next nq hlt⟩
def NextPost (xs : List Int) (k : Nat) (B b : Nat) (n : Int) (w : World) (e : Ending) (w' : World) : Prop := e = .returned (.int .i64 (foldI (tapeI xs k) n)) ∧ TapeAt w' B b xs (k + 1) ∧ w.grownBy w' (some b)
set_option maxRecDepth 10000 in
theorem Next_any (xs : List Int) (k B b : Nat) (n : Int) (w : World) (hn : okI n) (hk : k ≤ 2 ^ 40) (ht : TapeAt w B b xs k) : Calls Tryz.prog 23 #[.pointer (some ⟨b, 0, none⟩), .int .i64 n] w (NextPost xs k B b n w) := by
 obtain ⟨A, c, h0, h1, hfr, hsl, hB, hlt⟩ := ht
 have hx1 := hsl.1; have hx2 := hsl.2.1
 unfold maxLen at hx2
 have HSL := Lib.hid hsl; clear hsl
 by_cases hin : k < xs.length
 ·
  obtain ⟨b3, o3, rfl, hb3, cx, hr⟩ := HSL.out.int hin
  have hv : tapeI xs k = xs[k] := by unfold tapeI; rw [List.getElem?_eq_getElem hin]
  obtain ⟨v, hvv⟩ : ∃ v, xs[k] = v := ⟨_, rfl⟩
  rw [hvv] at cx hr hv
  have HV := Lib.hid hv; clear hv hvv
  have i1 : (k : Int) < (xs.length : Int) := by omega
  have hok : okI v := by unfold okI; omega
  go_enter Tryz.func23, Tryz.ntmps23
  go_wp2_with fail
  go_quiet (fail)
  go_wp2_with fail
  go_quiet (fail)
  go_wp2_with fail
  refine (Fold_any v n _ hok hn).mono ?_; rintro e w' ⟨rfl, rfl⟩
  obtain ⟨z, hz⟩ : ∃ z, foldI v n = z := ⟨_, rfl⟩
  rw [hz]
  have HZ := Lib.hid hz; clear hz
  go_wp2
  go_ret
  exact ⟨ret_int (by rw [HV.out, HZ.out]), tape_step _ h0 h1 hfr HSL.out hB hlt⟩
 ·
  have hv : tapeI xs k = ((k : Int) * 7) % 11 := by
   unfold tapeI
   rw [List.getElem?_eq_none (by omega)]
   show ((k : Int) * 7).tmod 11 = _
   rw [Int.tmod_eq_emod_of_nonneg (by omega)]
  have HV := Lib.hid hv; clear hv
  have i1 : ¬ (k : Int) < (xs.length : Int) := by omega
  have hok : okI (((k : Int) * 7) % 11) := by unfold okI; omega
  go_enter Tryz.func23, Tryz.ntmps23
  go_wp2_with fail
  go_quiet (fail)
  go_wp2_with fail
  refine (Fold_any _ n _ hok hn).mono ?_; rintro e w' ⟨rfl, rfl⟩
  obtain ⟨z, hz⟩ : ∃ z, foldI (((k : Int) * 7) % 11) n = z := ⟨_, rfl⟩
  rw [hz]
  have HZ := Lib.hid hz; clear hz
  go_wp2
  go_ret
  exact ⟨ret_int (by rw [HV.out, HZ.out]), tape_step _ h0 h1 hfr HSL.out hB hlt⟩

def OnePost (xs : List Int) (k B b : Nat) (ys : List ByteArray) (w : World) (e : Ending) (w' : World) : Prop := e = .returned (.string (ys.getD (foldI (tapeI xs k) ys.length).toNat ⟨#[]⟩)) ∧ TapeAt w' B b xs (k + 1) ∧ w.grownBy w' (some b)
set_option maxRecDepth 10000 in
theorem One_any (xs : List Int) (k B b : Nat) (ys : List ByteArray) (b2 o2 c2 : Nat) (w : World) (hk : k ≤ 2 ^ 40) (ht : TapeAt w B b xs k) (h0 : 1 < ys.length) (hy : ys.length ≤ 100) (hc : ys.length ≤ c2) (hc2 : c2 ≤ maxLen) (hne : ¬ b2 = b)
  (hcell : ∀ (i : Nat) y, ys[i]? = some y → w.cell? ⟨b2, o2 + i, none⟩ = some (.string y)) :
  Calls Tryz.prog 22 #[.pointer (some ⟨b, 0, none⟩), .slice (some ⟨b2, o2, none⟩) ys.length c2] w (OnePost xs k B b ys w) := by
 have hf := @foldI_range (tapeI xs k) ys.length (by omega)
 have hz : ((ys.length : Int) == 0) = false := by simp; rintro rfl; simp at h0
 have hcall := Next_any xs k B b ys.length w (by unfold okI; omega) hk ht
 have HCALL := Lib.hid hcall; clear hcall ht
 have HCELL := Lib.hid hcell; clear hcell
 unfold maxLen at hc2
 go_enter Tryz.func22, Tryz.ntmps22
 go_wp2_with fail
 refine HCALL.out.mono ?_
 rintro e w1 ⟨rfl, htape, hg⟩
 obtain ⟨m, hm⟩ := Int.eq_ofNat_of_zero_le hf.1
 have hml : m < ys.length := by omega
 have hget : ys[m]? = some ys[m] := List.getElem?_eq_getElem hml
 have hD : ys.getD (foldI (tapeI xs k) ys.length).toNat ⟨#[]⟩ = ys[m] := by rw [hm, List.getD_eq_getElem?_getD, Int.toNat_natCast, hget]; rfl
 have hc1 := hg.cell (HCELL.out m ys[m] hget) (fun e => hne (Option.some.inj e))
 rw [hm] at hf ⊢
 obtain ⟨y, hyy⟩ : ∃ y, ys[m] = y := ⟨_, rfl⟩
 rw [hyy] at hc1 hD
 have HD := Lib.hid hD; clear hD hget hyy hm
 have HT := Lib.hid htape; have HG := Lib.hid hg; clear htape hg
 have i1 : (m : Int) < (ys.length : Int) := by omega
 go_wp2
 go_ret
 exact ⟨ret_str (by rw [HD.out]), HT.out, HG.out⟩
end Go.Proofs.YtehmidmoiamcfaaGreatDoor
namespace Go.Cold
open Go Go.RowKit
theorem TapeAt.kept {w w' : World} {B b k : Nat} {xs : List Int} {row : Option Nat} (h : TapeAt w B b xs k) (hg : w.grownBy w' row) (hne : some b ≠ row) (hB : ∀ g, row = some g → B ≤ g) : TapeAt w' B b xs k := by
 obtain ⟨A, c, h0, h1, hf, hsl, hBb, hlt⟩ := h
 have hh := hg.block b hlt hne
 have hbl : Below B w w' := (Below.refl B w).grown hg (by omega) hB
 exact ⟨A, c, (cell_heap hh 0).trans h0, (cell_heap hh 1).trans h1, fun j => (frozen_heap hh j).trans (hf j), hsl.keep hbl, hBb, Nat.lt_of_lt_of_le hlt hg.size⟩
theorem foldI_pos {v n : Int} (h : 1 ≤ n) : 0 ≤ foldI v n ∧ foldI v n < n := by
 by_cases h1 : 1 < n
 · exact foldI_range h1
 · unfold foldI; rw [if_pos (by omega)]; omega
end Go.Cold
namespace Go.Cold
open Go Go.RowKit
end Go.Cold
namespace Go.Cold
open Go Go.RowKit
section
variable {P : Program} {k e t : TypeId} {w w' : World} {b n : Nat} {s : Int → Bool}
end
end Go.Cold
namespace Go.Cold
open Go Go.RowKit
instance : RepS Int where
 rdS _ _ n cs := cs = [.int .i64 n] ∧ -9223372036854775808 ≤ n ∧ n ≤ 9223372036854775807
 pos := by show 0 < 1; omega
 lenS h := by rw [h.1]; rfl
 one h u hu := by rw [h.1] at hu; simp at hu; subst hu; rfl
 mono _ _ h := h
 rd_iff := Iff.rfl
end Go.Cold
namespace Go.Cold
open Go Go.RowKit
end Go.Cold
namespace Go.Cold
open Go Go.RowKit
/-- The name of a partition. -/
def itB (k : Nat) : ByteArray := ⟨(Lib.itoa (k : Int)).toArray⟩
def partS (p : ByteArray) (k : Nat) : ByteArray := (p ++ ⟨#[112]⟩) ++ itB k
/-- The reference's number of a partition, 0 if there is none: the first that fits. -/
def numGo (p o : ByteArray) : Nat → Nat → Nat
 | 0, _ => 0
 | m + 1, k => if o = partS p k then k else numGo p o m (k + 1)
def numR (p o : ByteArray) : Nat := numGo p o 16 1
theorem numGo_step (p o : ByteArray) (m k : Nat) : numGo p o (m + 1) k = if o = partS p k then k else numGo p o m (k + 1) := rfl
theorem itoa_inj {a b : Nat} (ha : a ≤ 17) (hb : b ≤ 17) (h : Lib.itoa (a : Int) = Lib.itoa (b : Int)) : a = b := by
 have : ∀ a : Nat, a < 18 → ∀ b : Nat, b < 18 → Lib.itoa (a : Int) = Lib.itoa (b : Int) → a = b := by decide +kernel
 exact this a (by omega) b (by omega) h
theorem partS_inj {p : ByteArray} {a b : Nat} (ha : a ≤ 17) (hb : b ≤ 17) (h : partS p a = partS p b) : a = b := by
 have h1 : (partS p a).data.toList = (partS p b).data.toList := by rw [h]
 unfold partS at h1
 rw [app_data (p ++ ⟨#[112]⟩) (itB a), app_data (p ++ ⟨#[112]⟩) (itB b)] at h1
 exact itoa_inj ha hb (List.append_cancel_left h1)
theorem numGo_none {p o : ByteArray} : ∀ {m k : Nat}, (∀ j, k ≤ j → j < k + m → o ≠ partS p j) → numGo p o m k = 0
 | 0, _, _ => rfl
 | m + 1, k, h => by
  rw [numGo, if_neg (h k (Nat.le_refl _) (by omega))]
  exact numGo_none fun j h1 h2 => h j (by omega) (by omega)
theorem numGo_some {p o : ByteArray} : ∀ {m k j : Nat}, k ≤ j → j < k + m → k + m ≤ 18 → o = partS p j → numGo p o m k = j
 | 0, k, j, h1, h2, _, _ => by omega
 | m + 1, k, j, h1, h2, h3, h4 => by
  by_cases hk : k = j
  · subst hk; rw [numGo, if_pos h4]
  ·
   rw [numGo, if_neg (fun h5 => hk (partS_inj (by omega) (by omega) (h5.symm.trans h4)))]
   exact numGo_some (by omega) (by omega) (by omega) h4
/-- The number is that of the only name that fits. -/
theorem numR_cases (p o : ByteArray) : (numR p o = 0 ∧ ∀ k, 1 ≤ k → k ≤ 16 → o ≠ partS p k) ∨ (1 ≤ numR p o ∧ numR p o ≤ 16 ∧ o = partS p (numR p o)) := by
 by_cases h : ∃ k, 1 ≤ k ∧ k ≤ 16 ∧ o = partS p k
 ·
  obtain ⟨k, h1, h2, h3⟩ := h
  have h4 : numR p o = k := numGo_some h1 (by omega) (by omega) h3
  exact .inr ⟨by omega, by omega, by rw [h4]; exact h3⟩
 ·
  have h4 : ∀ k, 1 ≤ k → k ≤ 16 → o ≠ partS p k := fun k h1 h2 h3 => h ⟨k, h1, h2, h3⟩
  exact .inl ⟨numGo_none fun j h1 h2 => h4 j h1 (by omega), h4⟩
end Go.Cold
namespace Go.Cold
open Go Go.RowKit
end Go.Cold
namespace Go.Cold
open Go Go.RowKit
end Go.Cold
namespace Go.Cold
open Go Go.RowKit
end Go.Cold
namespace Go.Cold
open Go Go.RowKit
end Go.Cold
namespace Go.Cold
open Go Go.RowKit
end Go.Cold
namespace Go.Proofs.YtehmidmoiamcfaaGreatDoor
open Go.RowKit Go.Cold
end Go.Proofs.YtehmidmoiamcfaaGreatDoor
namespace Go.Cold
open Go Go.RowKit
theorem itB_dec (k : Nat) : (⟨(Lib.decDigits k).toArray⟩ : ByteArray) = itB k := by
 unfold itB Lib.itoa
 rw [if_neg (by omega)]
 rfl
theorem itB_size {k : Nat} (h : k ≤ 16) : (itB k).size ≤ 2 := by
 have : ∀ k : Nat, k < 17 → (itB k).size ≤ 2 := by decide +kernel
 exact this k (by omega)
end Go.Cold
namespace Go.Proofs.YtehmidmoiamcfaaGreatDoor
open Go.RowKit Go.Cold
def ifaceW (ev : Value) : Prop := ev = .nilIface ∨ ∃ te pe, ev = .iface te pe
/-- The variables that the library's Atoi reads. -/
def OkA (w : World) : Prop := (∃ ev, w.cell? ⟨3, 0, none⟩ = some ev ∧ ifaceW ev) ∧ (∃ ev, w.cell? ⟨4, 0, none⟩ = some ev ∧ ifaceW ev)
theorem ItoaS_any (k : Nat) (w : World) (hk : k ≤ 16) : Calls Tryz.prog 34 #[.int .i64 (k : Int)] w fun e w' => e = .returned (.string (itB k)) ∧ w' = w := by
 refine (Tryz.strconv_Itoa_small k (by omega) w).mono ?_
 rintro e w' ⟨rfl, rfl⟩
 exact ⟨by rw [itB_dec], rfl⟩
/-- The reference's Number. -/
theorem RNumber27_any (p o : ByteArray) (w : World) (hp : p.size ≤ maxLen - 10) : Calls Tryz.prog 37 #[.string p, .string o] w fun e w' => e = .returned (.int .i64 (numR p o : Int)) ∧ w' = w := by
 unfold maxLen at hp
 have HS := Lib.hid hp; clear hp
 go_enter Tryz.func37, Tryz.ntmps37
 go_wp2_with fail
 go_loop [5] (fun i => ∃ k : Nat, (1 ≤ k ∧ k ≤ 17) ∧ i = .int .i64 (k : Int) ∧ Hid (numR p o = numGo p o (17 - k) k)) (fun i => 17 - (intOf i).toNat)
 case atStart => exact ⟨1, by omega, rfl, rfl⟩
 case round =>
  obtain ⟨k, hk, rfl, HA⟩ := hrel
  by_cases hlt : k ≤ 16
  ·
   have i1 : (k : Int) ≤ 16 := by omega
   have hadd1 : ¬ 9223372036854775807 < p.size + 1 := by have := HS.out; omega
   go_wp2_with fail
   refine (ItoaS_any k _ hlt).mono ?_
   rintro e w1 ⟨rfl, rfl⟩
   obtain ⟨n, hn⟩ : ∃ n, 17 - k = n + 1 := ⟨16 - k, by omega⟩
   have h1 := HA.out
   rw [hn, numGo_step] at h1
   have hsz := itB_size hlt
   obtain ⟨z, hz⟩ : ∃ z, itB k = z := ⟨_, rfl⟩
   rw [show partS p k = (p ++ ⟨#[112]⟩) ++ z by unfold partS; rw [hz]] at h1
   rw [hz] at hsz ⊢
   have hadd2 : ¬ 9223372036854775807 < (p ++ ⟨#[112]⟩ : ByteArray).size + z.size := by
    have := HS.out
    rw [ByteArray.size_append]
    have h5 : (⟨#[112]⟩ : ByteArray).size = 1 := rfl
    omega
   by_cases heq : o = (p ++ ⟨#[112]⟩) ++ z
   ·
    rw [if_pos heq] at h1
    have p1 : (o.toList == ((p ++ ⟨#[112]⟩) ++ z).toList) = true := by rw [ba_beq]; exact decide_eq_true heq
    have H1 := Lib.hid h1; clear h1 heq hz hn
    go_wp2
    go_ret
    exact ⟨ret_int (by rw [H1.out]), rfl⟩
   ·
    rw [if_neg heq] at h1
    have p1 : (o.toList == ((p ++ ⟨#[112]⟩) ++ z).toList) = false := by rw [ba_beq]; exact decide_eq_false heq
    have H1 := Lib.hid (show numR p o = numGo p o (17 - (k + 1)) (k + 1) by rw [h1]; congr 1; omega); clear h1 heq hz hn
    go_wp2
    go_round
    case rel => exact ⟨k + 1, by omega, by go_num, H1⟩
    case measure => simp [intOf]; omega
  ·
   have hk2 : k = 17 := by omega
   have i1 : ¬ (k : Int) ≤ 16 := by omega
   have HR := Lib.hid (show numR p o = 0 by have := HA.out; rw [this, hk2]; rfl)
   go_wp2
   go_ret
   exact ⟨ret_int (by rw [HR.out]; rfl), rfl⟩
end Go.Proofs.YtehmidmoiamcfaaGreatDoor
namespace Go.Cold
open Go Go.RowKit
end Go.Cold
