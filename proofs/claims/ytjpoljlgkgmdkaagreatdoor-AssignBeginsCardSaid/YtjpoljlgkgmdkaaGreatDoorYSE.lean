/-
  The walk of layer 7's text, at contents that are valid all through.
-/
import Derived.Test.YtjpoljlgkgmdkaaGreatDoorYVC
import Derived.BigQuiet
import Derived.Test.YtjpoljlgkgmdkaaGreatDoorYA
import Derived.Test.YtjpoljlgkgmdkaaGreatDoorYG
import Derived.Lib.AtoiAllCases
import Derived.Lib.AppendIntMem
import Derived.Lib.SmallJoins
import Derived.Test.YtjpoljlgkgmdkaaGreatDoorYC
import Derived.Deep.DeepCutAuto
import Derived.Deep.AppendLies
import Derived.Deep.RegionHeld3
import Derived.Test.YtjpoljlgkgmdkaaGreatDoorYH
import Derived.Lib.ItoaLen
set_option linter.unusedSimpArgs false
set_option linter.unusedVariables false
namespace Go.Cold
open Go Go.RowKit
theorem numT_size {n : Nat} (h : n < 100) : (numT n).size ≤ 2 := by
 have : ∀ m : Fin 100, (numT m.val).size ≤ 2 := by decide +kernel
 exact this ⟨n, h⟩
theorem comma_len (xs : List ByteArray) : (commaB xs).size = (Lib.join (xs.map (·.data.toList)) [44]).length := by
 unfold commaB
 rw [show (⟨(Lib.join (xs.map (·.data.toList)) [44]).toArray⟩ : ByteArray).size = (Lib.join (xs.map (·.data.toList)) [44]).toArray.size from rfl]; simp
theorem join_size (xs : List ByteArray) : (commaB xs).size + 1 ≤ (xs.map (fun x => x.size + 1)).sum + 1 := by
 have h0 := comma_len xs
 rw [h0]
 cases xs with
 | nil => simp [Lib.join_nil]
 | cons x r =>
  rw [List.map_cons, Lib.join_cons, List.length_append, List.map_cons, List.sum_cons]
  have h1 : ∀ r : List ByteArray, (Lib.joinTail [44] (r.map (·.data.toList))).length = (r.map (fun x => x.size + 1)).sum := by
   intro r
   induction r with
   | nil => simp [Lib.joinTail]
   | cons y r ih =>
    unfold Lib.joinTail at ih ⊢
    rw [List.map_cons, List.map_cons, List.flatten_cons, List.length_append, List.map_cons, List.sum_cons, ← ih]
    simp
    try omega
  rw [h1]
  have : x.data.toList.length = x.size := ba_size x
  omega
theorem own_nums {k : Int} {i l : ByteArray} {s t e : Int} {xs : List Cont} (h : ownB (.mk k i l s t e xs) = true) :
  (k = 0 ∨ k = 1 ∨ k = 2 ∨ k = 3 ∨ k = 4 ∨ k = 5) ∧ i.size ≤ 16 ∧ l.size ≤ 16 ∧ (0 ≤ s ∧ s ≤ 16) ∧ (0 ≤ t ∧ t ≤ 16) ∧ (0 ≤ e ∧ e ≤ 16) := by
 have hid : ∀ z : ByteArray, idB z = true → z.size ≤ 16 := fun z hz => by
  unfold idB at hz; simp only [Bool.and_eq_true, decide_eq_true_eq] at hz; omega
 have hem : ∀ z : ByteArray, z.toList.isEmpty = true → z.size ≤ 16 := fun z hz => by
  rw [isEmpty_iff] at hz; subst hz; decide
 unfold ownB noneB slots2 c7withinB at h
 dsimp only at h
 by_cases h0 : k = 0
 ·
  simp only [h0, if_true, Bool.and_eq_true, decide_eq_true_eq] at h
  exact ⟨.inl h0, hem _ h.1, hem _ h.2.1, by omega, by omega, by omega⟩
 rw [if_neg h0, Bool.and_eq_true] at h
 obtain ⟨hi, h⟩ := h
 have hi' := hid _ hi
 by_cases h1 : k = 1
 ·
  simp only [h1, if_true, Bool.and_eq_true, decide_eq_true_eq, Bool.or_eq_true] at h
  exact ⟨by omega, hi', h.1.elim (hem _) (hid _), by omega, by omega, by omega⟩
 by_cases h2 : k = 2
 ·
  simp [h2] at h
  exact ⟨by omega, hi', hem _ (by simpa using h.1), by omega, by omega, by omega⟩
 by_cases h3 : k = 3
 ·
  simp [h3] at h
  exact ⟨by omega, hi', hem _ (by simpa using h.1), by omega, by omega, by omega⟩
 by_cases h4 : k = 4
 ·
  simp [h4] at h
  exact ⟨by omega, hi', hem _ (by simpa using h.1), by omega, by omega, by omega⟩
 by_cases h5 : k = 5
 ·
  simp [h5] at h
  exact ⟨by omega, hi', hem _ (by simpa using h.1), by omega, by omega, by omega⟩
 simp [h1, h2, h3, h4, h5] at h
theorem numT_int {z : Int} (h : 0 ≤ z ∧ z ≤ 16) : (numT z).size ≤ 2 := by
 obtain ⟨n, rfl⟩ := Int.eq_ofNat_of_zero_le h.1
 exact numT_size (by omega)
mutual
theorem text_size : ∀ c : Cont, AllOk c → (textC c).size + 1 ≤ 40 * nodesC c
 | .mk k i l s t e xs, h => by
  obtain ⟨h1, h2⟩ := AllOk_mk.1 h
  have h3 := text_sizeL xs h2
  obtain ⟨-, hi, hl, hs, ht, he⟩ := own_nums h1
  have hs := numT_int hs
  have ht := numT_int ht
  have he := numT_int he
  have lit : ∀ a : Array UInt8, (⟨a⟩ : ByteArray).size = a.size := fun _ => rfl
  rw [textC, nodesC]
  split
  · simp only [ByteArray.size_append, lit]; simp; omega
  split
  · simp only [ByteArray.size_append, lit]; simp; omega
  split
  · simp only [ByteArray.size_append, lit]; simp; omega
  split
  · simp only [ByteArray.size_append, lit]; simp; omega
  split
  · simp only [ByteArray.size_append, lit]; simp; omega
  · simp only [lit]; simp; omega
theorem text_sizeL : ∀ xs : List Cont, (∀ x ∈ xs, AllOk x) → (commaB (textL xs)).size ≤ 40 * nodesL xs
 | xs, h => by
  have h1 := join_size (textL xs)
  have h2 := text_sum xs h
  omega
theorem text_sum : ∀ xs : List Cont, (∀ x ∈ xs, AllOk x) → ((textL xs).map (fun x => x.size + 1)).sum ≤ 40 * nodesL xs
 | [], _ => by rw [textL, nodesL]; simp
 | x :: xs, h => by
  have h1 := text_size x (h x List.mem_cons_self)
  have h2 := text_sum xs (fun y hy => h y (List.mem_cons_of_mem _ hy))
  rw [textL, nodesL, List.map_cons, List.sum_cons]
  omega
end
end Go.Cold
namespace Go.Proofs.YtjpoljlgkgmdkaaGreatDoor
open Go.RowKit Go.Cold

theorem info_str : (Tryz.prog.info? 9).map (fun i => (i.zero, i.size, i.bytes)) = some (some (.string ByteArray.empty), 1, 16) := by kernel_rfl
end Go.Proofs.YtjpoljlgkgmdkaaGreatDoor
namespace Go.Cold
open Go Go.RowKit
def pieceP (s ends : ByteArray) (k : Nat) : ByteArray := (s.extract k s.size).extract 0 (untilN (s.extract k s.size) ends)
def afterP (s ends : ByteArray) (k : Nat) : Nat := k + untilN (s.extract k s.size) ends
def wantP (s t : ByteArray) (k : Nat) : Option Nat := if skipB s k t then some (k + t.size) else none
def numP (t : ByteArray) : Option Int := match Lib.atoiAll t.data.toList with
 | .ok n => if Lib.itoa n = t.data.toList then some n else none
 | _ => none
def numAt (s : ByteArray) (k : Nat) : Option (Int × Nat) := (numP (pieceP s ⟨#[47, 40, 44, 41, 58]⟩ k)).map fun n => (n, afterP s ⟨#[47, 40, 44, 41, 58]⟩ k)
mutual
def contP (s : ByteArray) : Nat → Nat → Option (Cont × Nat)
 | 0, _ => none
 | f + 1, k =>
  let kind := pieceP s ⟨#[58, 44, 41]⟩ k
  let k1 := afterP s ⟨#[58, 44, 41]⟩ k
  if kind = ⟨#[]⟩ then some (.mk 0 ⟨#[]⟩ ⟨#[]⟩ 0 0 0 [], k1) else
  (wantP s ⟨#[58]⟩ k1).bind fun k2 =>
  let i := pieceP s ⟨#[58, 40, 44, 41]⟩ k2
  let k3 := afterP s ⟨#[58, 40, 44, 41]⟩ k2
  if kind = ⟨#[102, 115]⟩ then (wantP s ⟨#[58]⟩ k3).bind fun k4 => some (.mk 1 i (pieceP s ⟨#[44, 41]⟩ k4) 0 0 0 [], afterP s ⟨#[44, 41]⟩ k4)
  else if kind = ⟨#[114, 97, 105, 100]⟩ then
   (wantP s ⟨#[58]⟩ k3).bind fun k4 => (numAt s k4).bind fun (n1, k5) => (wantP s ⟨#[47]⟩ k5).bind fun k6 => (numAt s k6).bind fun (n2, k7) => (wantP s ⟨#[47]⟩ k7).bind fun k8 => (numAt s k8).bind fun (n3, k9) =>
   (wantP s ⟨#[40]⟩ k9).bind fun k10 => (innerP s f k10 []).map fun (xs, k11) => (.mk 2 i ⟨#[]⟩ n1 n2 n3 xs, k11)
  else if kind = ⟨#[99, 114, 121, 112, 116]⟩ then (wantP s ⟨#[40]⟩ k3).bind fun k10 => (innerP s f k10 []).map fun (xs, k11) => (.mk 3 i ⟨#[]⟩ 0 0 0 xs, k11)
  else if kind = ⟨#[112, 118]⟩ then
   (wantP s ⟨#[58]⟩ k3).bind fun k4 => (numAt s k4).bind fun (n1, k5) => (wantP s ⟨#[47]⟩ k5).bind fun k6 => (numAt s k6).bind fun (n2, k7) =>
   (wantP s ⟨#[40]⟩ k7).bind fun k10 => (innerP s f k10 []).map fun (xs, k11) => (.mk 4 i ⟨#[]⟩ n1 n2 0 xs, k11)
  else if kind = ⟨#[116, 97, 98, 108, 101]⟩ then (wantP s ⟨#[40]⟩ k3).bind fun k10 => (innerP s f k10 []).map fun (xs, k11) => (.mk 5 i ⟨#[]⟩ 0 0 0 xs, k11)
  else none
def innerP (s : ByteArray) : Nat → Nat → List Cont → Option (List Cont × Nat)
 | 0, _, _ => none
 | f + 1, k, xs => (contP s f k).bind fun (x, k1) => if skipB s k1 ⟨#[41]⟩ then some (xs ++ [x], k1 + 1) else (wantP s ⟨#[44]⟩ k1).bind fun k2 => innerP s f k2 (xs ++ [x])
end
end Go.Cold
namespace Go.Cold
open Go Go.RowKit
def Shut (L : List Dev) (p : Dev → Bool) : Prop := ∀ d ∈ L, p d = true → ∀ e ∈ L, e.idx = d.par → p e = true
end Go.Cold
namespace Go.Cold
open Go Go.RowKit
end Go.Cold
namespace Go.Cold
open Go Go.RowKit
def FreeS {α : Type} [RepS α] (N : Nat → Prop) (w : World) (A : Option Addr) (c : Nat) (l : List α) : Prop := SlS w (fun x => x < w.heap.size ∧ ¬ N x) A c l
section
variable {α : Type} [RepS α] {N N' F : Nat → Prop} {w w' : World} {A : Option Addr} {c q base : Nat} {T : TypeId} {v : Value} {l : List α}
theorem FreeS.below (h : FreeS N w A c l) (hb : Below w.heap.size w w') : FreeS N w' A c l :=
 SlS.mono (fun x hx => ⟨Nat.lt_of_lt_of_le hx.1 hb.size, hx.2⟩) (fun _ _ _ _ hu => hu) (SlS.below h hb (fun x hx => hx.1))
theorem FreeS.grown (h : FreeS N w A c l) (hg : w.grownBy w' (some q)) (hq : N q ∨ w.heap.size ≤ q) : FreeS N w' A c l :=
 SlS.mono (fun x hx => ⟨Nat.lt_of_lt_of_le hx.1 hg.size, hx.2⟩) (fun b o u hb hu => hg.cell hu (fun e => by have e : b = q := Option.some.inj e; subst e; rcases hq with h1 | h1; exact hb.2 h1; have := hb.1; omega)) h
theorem FreeS.set_ (h : FreeS N w A c l) (hq : N q) (j : Nat) (v : Value) : FreeS N (w.setCell ⟨q, j, none⟩ v) A c l := h.grown (grown_one w q j v) (.inl hq)
theorem FreeS.out (h : FreeS N w A c l) : Sl w w.heap.size A c l := SlS.sl h (fun x hx => hx.1)
theorem FreeS.more (h : FreeS N w A c l) (hN : ∀ x, x < w.heap.size → N' x → N x) : FreeS N' w A c l := SlS.mono (fun x hx => ⟨hx.1, fun h1 => hx.2 (hN x hx.1 h1)⟩) (fun _ _ _ _ hu => hu) h
theorem FreeS.nil_ : FreeS N w none 0 ([] : List α) := ⟨by simp, by simp [maxLen], fun h => absurd h (by simp)⟩
theorem OwnsS.free (h : OwnsS F w base T v l) (hN : ∀ x, N x → x < base ∧ ¬ F x) : ∃ A c, v = .slice A l.length c ∧ FreeS N w A c l := by
 obtain ⟨A, c, h1, h2⟩ := h.cs
 exact ⟨A, c, h1, SlS.mono (fun x hx => ⟨hx.2, fun hn => by obtain ⟨h3, h4⟩ := hN x hn; rcases hx.1 with h5 | h5; exact h4 h5; omega⟩) (fun _ _ _ _ hu => hu) h2⟩
theorem SlS.free {S : Nat → Prop} (h : SlS w S A c l) (hS : ∀ x, S x → x < w.heap.size ∧ ¬ N x) : FreeS N w A c l := SlS.mono hS (fun _ _ _ _ hu => hu) h
end
theorem below_next {a b c : World} (h : Below a.heap.size a b) (k : Below b.heap.size b c) : Below a.heap.size a c := h.trans (k.mono h.size)
def DIn (w : World) (b o : Nat) (d : Dev) (A : Option Addr) (c : Nat) : Prop := DCells w b o d A c ∧ b < w.heap.size
theorem DIn.below {w w' : World} {b o c : Nat} {d : Dev} {A : Option Addr} (h : DIn w b o d A c) (hb : Below w.heap.size w w') : DIn w' b o d A c := ⟨h.1.keep hb h.2, Nat.lt_of_lt_of_le h.2 hb.size⟩
theorem DIn.grown {w w' : World} {b o c q : Nat} {d : Dev} {A : Option Addr} (h : DIn w b o d A c) (hg : w.grownBy w' (some q)) (hq : b ≠ q) : DIn w' b o d A c := by
 obtain ⟨⟨h0, h1, h2, h3, h4, h5, h6, h7, h8, h9⟩, hlt⟩ := h
 have hc : ∀ j u, w.cell? ⟨b, j, none⟩ = some u → w'.cell? ⟨b, j, none⟩ = some u := fun j u hu => hg.cell hu (fun e => hq (Option.some.inj e))
 exact ⟨⟨hc _ _ h0, hc _ _ h1, hc _ _ h2, hc _ _ h3, hc _ _ h4, hc _ _ h5, hc _ _ h6, hc _ _ h7, hc _ _ h8, hc _ _ h9⟩, Nat.lt_of_lt_of_le hlt hg.size⟩
theorem DIn.drew {w : World} {b o c : Nat} {d : Dev} {A : Option Addr} (h : DIn w b o d A c) : DIn w.drew b o d A c := h.below (below_drewN_self w w.heap.size 1)
end Go.Cold
namespace Go.Cold
open Go Go.RowKit
def slashE : ByteArray := ⟨#[47, 40, 44, 41, 58]⟩
theorem isNone_no {t : ByteArray} (h : ∀ n, Lib.atoiAll t.data.toList ≠ .ok n) : (numP t).isNone = true := by
 unfold numP
 split
 · exact absurd (by assumption) (h _)
 · rfl
end Go.Cold
namespace Go.Proofs.YtjpoljlgkgmdkaaGreatDoor
open Go.RowKit Go.Cold

def ifaceV (ev : Value) : Prop := ev = .nilIface ∨ ∃ te pe, ev = .iface te pe
def Ok7 (w : World) : Prop := (∃ ev, w.cell? ⟨2, 0, none⟩ = some ev ∧ ifaceV ev) ∧ (∃ ev, w.cell? ⟨3, 0, none⟩ = some ev ∧ ifaceV ev) ∧
 Lib.TabIs Tryz.prog w "internal/strconv.uint64pow10" .u64 Lib.pow10Tab
theorem tab_named : Tryz.prog.globalNamed "internal/strconv.uint64pow10" = some 1 := by kernel_rfl
theorem var_keep {P : Program} {w w' : World} {n : String} {g : Nat} (hg : P.globalNamed n = some g) (h : w'.heap[g]? = w.heap[g]?) : w'.var? P n = w.var? P n := by
 simp [World.var?, hg, h]
theorem Ok7.lt {w : World} (h : Ok7 w) : 2 < w.heap.size ∧ 3 < w.heap.size ∧ 1 < w.heap.size := by
 obtain ⟨⟨e1, h1, _⟩, ⟨e2, h2, _⟩, h3⟩ := h
 refine ⟨block_lt_of_cell h1, block_lt_of_cell h2, ?_⟩
 unfold Lib.TabIs World.var? at h3
 rw [tab_named] at h3
 simp only [Option.bind_some] at h3
 by_cases hlt : 1 < w.heap.size
 · exact hlt
 ·
  rw [Array.getElem?_eq_none (by omega)] at h3
  cases h3
theorem Ok7.below {w w' : World} (h : Ok7 w) (hb : Below w.heap.size w w') : Ok7 w' := by
 obtain ⟨l1, l2, l3⟩ := h.lt
 obtain ⟨⟨e1, h1, q1⟩, ⟨e2, h2, q2⟩, h3⟩ := h
 refine ⟨⟨e1, (hb.cell (p := ⟨_, 0, none⟩) (by exact l1)).trans h1, q1⟩, ⟨e2, (hb.cell (p := ⟨_, 0, none⟩) (by exact l2)).trans h2, q2⟩, ?_⟩
 unfold Lib.TabIs at h3 ⊢
 rw [var_keep tab_named (hb.block _ l3)]; exact h3
def GB (b : Nat) : Prop := 2 ≠ b ∧ 3 ≠ b ∧ 1 ≠ b
theorem Ok7.grown {w w' : World} {b : Nat} (h : Ok7 w) (hg : w.grownBy w' (some b)) (hb : GB b) : Ok7 w' := by
 obtain ⟨l1, l2, l3⟩ := h.lt
 obtain ⟨⟨e1, h1, q1⟩, ⟨e2, h2, q2⟩, h3⟩ := h
 refine ⟨⟨e1, hg.cell h1 (fun e => hb.1 (Option.some.inj e)), q1⟩, ⟨e2, hg.cell h2 (fun e => hb.2.1 (Option.some.inj e)), q2⟩, ?_⟩
 unfold Lib.TabIs at h3 ⊢
 rw [var_keep tab_named (hg.block _ l3 (fun e => hb.2.2 (Option.some.inj e)))]; exact h3

def AtoiPost (t : ByteArray) (w : World) (e : Ending) (w' : World) : Prop := Below w.heap.size w w' ∧ ∃ n ev, e = .returned (.tuple #[.int .i64 n, ev]) ∧ okInt n ∧
 ((Lib.atoiAll t.data.toList = .ok n ∧ ev = .nilIface) ∨ ((numP t).isNone = true ∧ ∃ te pe, ev = .iface te pe))
theorem Atoi_any (t : ByteArray) (w : World) (hok : Ok7 w) (ht : t.size ≤ 1000) : Calls Tryz.prog 128 #[.string t] w (AtoiPost t w) := by
 cases h : Lib.atoiAll t.data.toList
 ·
  rename_i n
  refine (Tryz.strconv_Atoi_ok t (by omega) n h w).mono ?_
  rintro e w' ⟨rfl, hw⟩
  refine ⟨?_, n, .nilIface, rfl, Lib.atoiAll_bounds h, .inl ⟨h, rfl⟩⟩
  rcases hw with rfl | ⟨u, rfl⟩
  · exact Below.refl _ _
  · exact Lib.bytesWorld_below _ _ _
 ·
  obtain ⟨⟨ev, h1, h2⟩, _⟩ := hok
  refine (Any.strconv_Atoi_syntax Tryz.laysC172 t (by omega) h ev w h1 h2).mono ?_
  rintro e w' ⟨N, rfl, _, _, hb⟩
  exact ⟨hb, 0, _, rfl, by unfold okInt; omega, .inr ⟨isNone_no (fun n hn => by rw [h] at hn; cases hn), _, _, rfl⟩⟩
 ·
  obtain ⟨_, ⟨ev, h1, h2⟩, _⟩ := hok
  refine (Any.strconv_Atoi_range Tryz.laysC172 t (by omega) h ev w h1 h2).mono ?_
  rintro e w' ⟨N, rfl, _, _, hb⟩
  exact ⟨hb, _, _, rfl, by unfold okInt Lib.atoiSat; split <;> omega, .inr ⟨isNone_no (fun n hn => by rw [h] at hn; cases hn), _, _, rfl⟩⟩
theorem Itoa_any (n : Int) (w : World) (hok : Ok7 w) (hn : okInt n) : Calls Tryz.prog 52 #[.int .i64 n] w fun e w' => e = .returned (.string ⟨(Lib.itoa n).toArray⟩) ∧ Below w.heap.size w w' := by
 refine (Tryz.strconv_Itoa n hn.1 hn.2 w hok.2.2).mono ?_
 rintro e w' ⟨rfl, k, os, rfl⟩
 exact ⟨rfl, Lib.below_grow _ _ (Nat.le_refl _) _ _⟩

def IxOk (s : ByteArray) : Prop := ∀ ends ∈ [slashE, ⟨#[58, 44, 41]⟩, ⟨#[58, 40, 44, 41]⟩, ⟨#[44, 41]⟩], ∀ k, k ≤ s.size → ∀ W,
 Calls Tryz.prog 150 #[.string (s.extract k s.size), .string ends] W fun e W' => e = .returned (.int .i64 (Lib.indexAny (s.extract k s.size).data.toList ends.data.toList)) ∧ Below W.heap.size W W'

end Go.Proofs.YtjpoljlgkgmdkaaGreatDoor
namespace Go.Cold
open Go Go.RowKit
theorem CurAt.kept {w w' : World} {b k : Nat} {s : ByteArray} {bad : Bool} {row : Option Nat} (h : CurAt w b s k bad) (hg : w.grownBy w' row) (hne : some b ≠ row) : CurAt w' b s k bad := by
 obtain ⟨h0, h1, h2, hf, hlt⟩ := h
 have hh := hg.block b hlt hne
 exact ⟨(cell_heap hh 0).trans h0, (cell_heap hh 1).trans h1, (cell_heap hh 2).trans h2, fun j => (frozen_heap hh j).trans (hf j), Nat.lt_of_lt_of_le hlt hg.size⟩
end Go.Cold
namespace Go.Proofs.YtjpoljlgkgmdkaaGreatDoor
open Go.RowKit Go.Cold

end Go.Proofs.YtjpoljlgkgmdkaaGreatDoor
namespace Go.Cold
open Go Go.RowKit
theorem CurAt.set_ {w : World} {b k g j : Nat} {s : ByteArray} {bad : Bool} (h : CurAt w b s k bad) (hne : g ≠ b) (v : Value) : CurAt (w.setCell ⟨g, j, none⟩ v) b s k bad := by
 obtain ⟨h0, h1, h2, hf, hlt⟩ := h
 exact ⟨(cell_set_far w ⟨g, j, none⟩ v b 0 hne).trans h0, (cell_set_far w ⟨g, j, none⟩ v b 1 hne).trans h1, (cell_set_far w ⟨g, j, none⟩ v b 2 hne).trans h2, fun i => (World.frozen?_setCell w _ _ _).trans (hf i), by simpa using hlt⟩
def zeroL : List Value := [.int .i64 0, .string ByteArray.empty, .string ByteArray.empty, .int .i64 0, .int .i64 0, .int .i64 0, .slice none 0 0]
end Go.Cold
namespace Go.Proofs.YtjpoljlgkgmdkaaGreatDoor
open Go.RowKit Go.Cold
def StP (w0 : World) (b gr gc : Nat) (s : ByteArray) (k0 : Nat) (bad0 : Bool) (w : World) (k : Nat) (bad : Bool) (cs : List Value) : Prop :=
 CurAt w b s k bad ∧ w0.grownBy w (some b) ∧ BoxL w gc cs ∧ BoxL w gr zeroL ∧ (k0 ≤ k ∧ k ≤ s.size ∧ w0.heap.size ≤ gr ∧ gr < gc ∧ b < w0.heap.size) ∧ (bad = false → bad0 = false ∧ k0 + 1 ≤ k)
section
variable {w0 w w' : World} {b gr gc k0 k : Nat} {s : ByteArray} {bad0 bad : Bool} {cs : List Value}
theorem StP.set_ (h : StP w0 b gr gc s k0 bad0 w k bad cs) {j : Nat} (hj : j < cs.length) (v : Value) : StP w0 b gr gc s k0 bad0 (w.setCell ⟨gc, j, none⟩ v) k bad (cs.set j v) := by
 obtain ⟨h1, h2, h3, h4, ⟨h5, h6, h7, h8, h9⟩, h10⟩ := h
 exact ⟨h1.set_ (by omega) v, grown_set h2 (by omega) v, h3.set_ hj v, h4.far (by omega) v, ⟨h5, h6, h7, h8, h9⟩, h10⟩
end
def InS (w : World) (lo : Nat) (A : Option Addr) (c : Nat) (xs : List Cont) : Prop := xs.length ≤ c ∧ c ≤ maxLen ∧
 (0 < xs.length → ∃ bb o, A = some ⟨bb, o, none⟩ ∧ (lo ≤ bb ∧ bb < w.heap.size) ∧ CsAtS w (fun x => lo ≤ x ∧ x < w.heap.size) bb xs o)
theorem InS.set_ {w : World} {lo g j c : Nat} {A : Option Addr} {xs : List Cont} (h : InS w lo A c xs) (hg : g < lo) (v : Value) : InS (w.setCell ⟨g, j, none⟩ v) lo A c xs := by
 obtain ⟨h1, h2, h3⟩ := h
 refine ⟨h1, h2, fun hn => ?_⟩
 obtain ⟨bb, o, hA, hbb, hcs⟩ := h3 hn
 have hs : (w.setCell ⟨g, j, none⟩ v).heap.size = w.heap.size := by simp
 rw [hs]
 exact ⟨bb, o, hA, hbb, CsAtS_mono (fun _ h => h) (fun y o u hy hu => (cell_set_far w ⟨g, j, none⟩ v y o (by show g ≠ y; have := hy.1; omega)).trans hu) bb hbb xs o hcs⟩
section
variable {s : ByteArray} {f k : Nat}
end

end Go.Proofs.YtjpoljlgkgmdkaaGreatDoor
namespace Go.Cold
open Go Go.RowKit
noncomputable def parseC (s : ByteArray) : Option Cont := if 256 < s.size then none else match contP s (s.size + 1) 0 with
 | some (c, k) => if k = s.size ∧ badC c = false then some c else none
 | none => none
end Go.Cold
namespace Go.Proofs.YtjpoljlgkgmdkaaGreatDoor
open Go.RowKit Go.Cold

end Go.Proofs.YtjpoljlgkgmdkaaGreatDoor
namespace Go.Cold
open Go Go.RowKit
end Go.Cold
namespace Go.Proofs.YtjpoljlgkgmdkaaGreatDoor
open Go.RowKit Go.Cold

end Go.Proofs.YtjpoljlgkgmdkaaGreatDoor
namespace Go.Cold
open Go Go.RowKit
section
variable {w0 w w' : World} {B b gr gc k k' : Nat} {xs : List Int} {cs : List Value}
end
end Go.Cold
namespace Go.Proofs.YtjpoljlgkgmdkaaGreatDoor
open Go.RowKit Go.Cold

end Go.Proofs.YtjpoljlgkgmdkaaGreatDoor
namespace Go.Cold
open Go Go.RowKit
end Go.Cold
namespace Go.Cold
open Go Go.RowKit
end Go.Cold
namespace Go.Cold
open Go Go.RowKit Go.Proofs.YtjpoljlgkgmdkaaGreatDoor
end Go.Cold
namespace Go.Cold
open Go Go.RowKit Go.Proofs.YtjpoljlgkgmdkaaGreatDoor
end Go.Cold
namespace Go.Cold
open Go Go.RowKit
def getA : List Attr → ByteArray → Option ByteArray
 | [], _ => none
 | a :: l, n => if a.name = n then some a.value else getA l n
theorem getA_yes {xs : List Attr} {n : ByteArray} {k : Nat} {y : Attr} (hlt : k < xs.length) (hy : xs[k] = y) (h : y.name = n) : getA (xs.drop k) n = some y.value := by
 rw [List.drop_eq_getElem_cons hlt, hy, getA, if_pos h]
theorem getA_no {xs : List Attr} {n : ByteArray} {k : Nat} {y : Attr} (hlt : k < xs.length) (hy : xs[k] = y) (h : y.name ≠ n) : getA (xs.drop k) n = getA (xs.drop (k + 1)) n := by
 rw [List.drop_eq_getElem_cons hlt, hy, getA, if_neg h]
theorem ret_get {o : Option ByteArray} {s : ByteArray} {b : Bool} (h : o.getD ByteArray.empty = s ∧ o.isSome = b) : Ending.returned (.tuple #[.string s, .bool b]) = .returned (.tuple #[.string (o.getD ByteArray.empty), .bool o.isSome]) := by rw [h.1, h.2]
end Go.Cold
namespace Go.Proofs.YtjpoljlgkgmdkaaGreatDoor
open Go.RowKit Go.Cold
theorem Get_any (A : Option Addr) (c : Nat) (xs : List Attr) (n : ByteArray) (w : World) (B : Nat) (hB : B ≤ w.heap.size) (hx : Sl w B A c xs) :
  Calls Tryz.prog 110 #[.slice A xs.length c, .string n] w fun e w' => e = .returned (.tuple #[.string ((getA xs n).getD ByteArray.empty), .bool (getA xs n).isSome]) ∧ Below w.heap.size w w' := by
 have hx1 := hx.1; have hx2 := hx.2.1
 unfold maxLen at hx2
 have HX := Lib.hid hx; have HB := Lib.hid hB; have HL := Lib.hid hx2; clear hx hB
 go_enter Tryz.func110, Tryz.ntmps110
 go_wp2_with fail
 go_loopw [10] (fun i wr => ∃ k : Nat, k ≤ xs.length ∧ i = .int .i64 k ∧ Hid (Below w.heap.size w wr) ∧ Hid (getA xs n = getA (xs.drop k) n)) (fun i _ => xs.length - (intOf i).toNat)
 case atStart => exact ⟨0, Nat.zero_le _, rfl, Below.refl _ _, rfl⟩
 case round =>
  obtain ⟨k, hk, rfl, HBR, HA⟩ := hrel
  by_cases hlt : k < xs.length
  ·
   have i1 : (k : Int) < (xs.length : Int) := by omega
   obtain ⟨b, o, rfl, hb, hsz, hc0, hc1⟩ := (HX.out.keep (HBR.out.mono HB.out)).attr hlt
   obtain ⟨y, hy⟩ : ∃ y, xs[k]'hlt = y := ⟨_, rfl⟩
   rw [hy] at hsz hc0 hc1
   have HY := Lib.hid hy; have HLT := Lib.hid hlt
   clear hy hsz hb
   go_upto_region 4 with fail
   obtain ⟨w1, hw1⟩ : ∃ w1, wr.alloc (.cells #[.string y.name, .string y.value] 53) = w1 := ⟨_, rfl⟩
   have hb1 : Below wr.heap.size wr w1 := by rw [← hw1]; exact (Below.refl _ _).alloc (Nat.le_refl _) _
   have hbx : BoxL w1 wr.heap.size [.string y.name, .string y.value] := box_mk hw1
   try rw [hw1]
   have t0 := hbx.1 0 _ rfl
   have t1 := hbx.1 1 _ rfl
   have HB1 := Lib.hid (HBR.out.trans (hb1.mono HBR.out.size))
   clear hw1 hb1 hbx hc0 hc1
   by_cases hn : y.name = n
   ·
    have p1 : (y.name.toList == n.toList) = true := by rw [ba_beq]; exact decide_eq_true hn
    have HG := Lib.hid (show getA xs n = some y.value by rw [HA.out]; exact getA_yes HLT.out HY.out hn)
    clear hn
    go_wp2
    go_ret2
    exact ⟨ret_get (by rw [HG.out]; exact ⟨rfl, rfl⟩), HB1.out⟩
   ·
    have p1 : (y.name.toList == n.toList) = false := by rw [ba_beq]; exact decide_eq_false hn
    have HG := Lib.hid (show getA xs n = getA (xs.drop (k + 1)) n by rw [HA.out]; exact getA_no HLT.out HY.out hn)
    clear hn
    go_wp2
    go_roundw
    case rel => exact ⟨k + 1, by omega, by go_num, HB1, HG⟩
    case measure => simp [intOf]; omega
  ·
   have hk2 : k = xs.length := by omega
   have HG := Lib.hid (show getA xs n = none by rw [HA.out, hk2, List.drop_length]; rfl)
   clear HA
   subst hk2
   go_wp2
   go_ret2
   exact ⟨ret_get (by rw [HG.out]; exact ⟨rfl, rfl⟩), HBR.out⟩
def nmContent : ByteArray := ⟨#[99, 111, 110, 116, 101, 110, 116]⟩
def contD (d : Dev) : ByteArray := (getA d.attrs nmContent).getD ByteArray.empty
end Go.Proofs.YtjpoljlgkgmdkaaGreatDoor
namespace Go.Cold
open Go Go.RowKit
theorem strLt_iff {a b : ByteArray} : strLt a b = true ↔ cmpB a b < 0 := by
 unfold strLt
 constructor
 · intro h; rw [cmpB_less h]; decide
 ·
  intro h
  cases hl : Op.bytesLess a.toList b.toList with
  | true => rfl
  | false =>
   by_cases he : a = b
   · rw [cmpB_eq he] at h; exact absurd h (by decide)
   · rw [cmpB_more hl he] at h; exact absurd h (by decide)
theorem strLt_irr (a : ByteArray) : strLt a a = false := by
 cases h : strLt a a with
 | false => rfl
 | true => have := strLt_iff.1 h; rw [cmpB_eq rfl] at this; exact absurd this (by decide)
theorem strLt_trans {a b c : ByteArray} (h1 : strLt a b = true) (h2 : strLt b c = true) : strLt a c = true :=
 strLt_iff.2 (cmpB_total.lt a b c (strLt_iff.1 h1) (strLt_iff.1 h2))
theorem strLt_asym {a b : ByteArray} (h : strLt a b = true) : strLt b a = false := by
 cases h2 : strLt b a with
 | false => rfl
 | true => have := strLt_trans h h2; rw [strLt_irr] at this; cases this
theorem strLt_tri {a b : ByteArray} (h1 : strLt a b = false) (h2 : strLt b a = false) : a = b := by
 by_cases h : cmpB a b = 0
 · exact cmpB_zero h
 ·
  exfalso
  rcases cmpB_cases a b with h3 | h3 | h3
  · rw [strLt_iff.2 (by omega)] at h1; cases h1
  · exact h h3
  ·
   have := cmpB_total.anti a b
   rw [strLt_iff.2 (by omega)] at h2; cases h2
theorem sortedA_cons {a : Attr} {l : List Attr} : sortedA (a :: l) = true ↔ (∀ b ∈ l, strLt a.name b.name = true) ∧ sortedA l = true := by
 induction l generalizing a with
 | nil => simp [sortedA]
 | cons b r ih =>
  rw [sortedA, Bool.and_eq_true]
  constructor
  ·
   rintro ⟨h1, h2⟩
   refine ⟨fun c hc => ?_, h2⟩
   rcases List.mem_cons.1 hc with rfl | hc
   · exact h1
   · exact strLt_trans h1 ((ih.1 h2).1 c hc)
  ·
   rintro ⟨h1, h2⟩
   exact ⟨h1 b List.mem_cons_self, h2⟩
theorem sortedA_append {l r : List Attr} : sortedA (l ++ r) = true ↔ sortedA l = true ∧ sortedA r = true ∧ ∀ a ∈ l, ∀ b ∈ r, strLt a.name b.name = true := by
 induction l with
 | nil => simp [sortedA]
 | cons x l ih =>
  rw [List.cons_append, sortedA_cons, sortedA_cons, ih]
  constructor
  ·
   rintro ⟨h1, h2, h3, h4⟩
   exact ⟨⟨fun b hb => h1 b (List.mem_append_left _ hb), h2⟩, h3, fun a ha b hb => by
    rcases List.mem_cons.1 ha with rfl | ha
    · exact h1 b (List.mem_append_right _ hb)
    · exact h4 a ha b hb⟩
  ·
   rintro ⟨⟨h1, h2⟩, h3, h4⟩
   exact ⟨fun b hb => by
    rcases List.mem_append.1 hb with hb | hb
    · exact h1 b hb
    · exact h4 x List.mem_cons_self b hb, h2, h3, fun a ha b hb => h4 a (List.mem_cons_of_mem _ ha) b hb⟩
def ltP (n : ByteArray) (a : Attr) : Bool := strLt a.name n
def posA (l : List Attr) (n : ByteArray) : Nat := (l.takeWhile (ltP n)).length
theorem posA_le (l : List Attr) (n : ByteArray) : posA l n ≤ l.length := by
 unfold posA
 exact (List.takeWhile_prefix (ltP n)).length_le
theorem posA_spec {l : List Attr} (h : sortedA l = true) (n : ByteArray) : (∀ (i : Nat) (a : Attr), l[i]? = some a → (strLt a.name n = true ↔ i < posA l n)) := by
 induction l with
 | nil => intro i a hi; simp at hi
 | cons x r ih =>
  obtain ⟨h1, h2⟩ := sortedA_cons.1 h
  intro i a hi
  unfold posA
  rw [List.takeWhile_cons]
  cases hx : ltP n x with
  | true =>
   simp only [if_true, List.length_cons]
   cases i with
   | zero => simp at hi; subst hi; exact ⟨fun _ => by omega, fun _ => hx⟩
   | succ i =>
    simp at hi
    have := ih h2 i a hi
    unfold posA at this
    rw [this]; omega
  | false =>
   simp only [Bool.false_eq_true, if_false, List.length_nil, Nat.not_lt_zero, iff_false]
   intro ha
   cases i with
   | zero => simp at hi; subst hi; unfold ltP at hx; rw [hx] at ha; cases ha
   | succ i =>
    simp at hi
    have := strLt_trans (h1 a (List.mem_of_getElem? hi)) ha
    unfold ltP at hx
    rw [hx] at this; cases this
theorem posA_unique {l : List Attr} {n : ByteArray} {k : Nat} (h : sortedA l = true) (hk : k ≤ l.length) (h1 : ∀ (i : Nat) (a : Attr), l[i]? = some a → i < k → strLt a.name n = true) (h2 : ∀ (i : Nat) (a : Attr), l[i]? = some a → k ≤ i → strLt a.name n = false) : posA l n = k := by
 have hs := posA_spec h n
 have hp := posA_le l n
 rcases Nat.lt_trichotomy (posA l n) k with hlt | he | hgt
 ·
  exfalso
  have hl : posA l n < l.length := by omega
  have ha := List.getElem?_eq_getElem hl
  have h3 := h1 _ _ ha hlt
  have := (hs _ _ ha).1 h3
  omega
 · exact he
 ·
  exfalso
  have hl : k < l.length := by omega
  have ha := List.getElem?_eq_getElem hl
  have h3 := h2 _ _ ha (Nat.le_refl _)
  have := (hs _ _ ha).2 hgt
  rw [h3] at this; cases this
def atA (l : List Attr) (n : ByteArray) : Bool := match l[posA l n]? with | some a => decide (a.name = n) | none => false
theorem setGo_lt {n v : ByteArray} : ∀ {A B : List Attr} {d : Bool}, (∀ a ∈ A, strLt a.name n = true) → setGo n v d (A ++ B) = A ++ setGo n v d B
 | [], B, d, _ => rfl
 | a :: A, B, d, h => by
  have ha := h a List.mem_cons_self
  have hne : a.name ≠ n := fun e => by rw [e, strLt_irr] at ha; cases ha
  rw [List.cons_append, setGo, if_neg hne, setGo_lt (fun b hb => h b (List.mem_cons_of_mem _ hb))]
  have hg : geA a.name n = false := by unfold geA; rw [ha]; rfl
  rw [hg, Bool.and_false, Bool.or_false]
  simp
theorem setGo_gt {n v : ByteArray} : ∀ {B : List Attr}, (∀ b ∈ B, b.name ≠ n) → setGo n v true B = B
 | [], _ => rfl
 | b :: B, h => by
  rw [setGo, if_neg (h b List.mem_cons_self), Bool.true_or, setGo_gt (fun c hc => h c (List.mem_cons_of_mem _ hc))]
  simp
def putL (l : List Attr) (n v : ByteArray) : List Attr :=
 l.take (posA l n) ++ ((if v.toList.isEmpty then [] else [⟨n, v⟩]) ++ l.drop (posA l n + (if atA l n then 1 else 0)))
theorem set_put {l : List Attr} (h : sortedA l = true) (n v : ByteArray) : setA l n v = putL l n v := by
 have hs := posA_spec h n
 have hp := posA_le l n
 unfold putL setA
 obtain ⟨k, hk⟩ : ∃ k, posA l n = k := ⟨_, rfl⟩
 have hA : ∀ a ∈ l.take k, strLt a.name n = true := fun a ha => by
  obtain ⟨i, hi, rfl⟩ := List.getElem_of_mem ha
  rw [List.length_take] at hi
  exact (hs i _ (by rw [List.getElem_take]; exact List.getElem?_eq_getElem (by omega))).2 (by omega)
 have hB : ∀ b ∈ l.drop k, strLt b.name n = false := fun b hb => by
  obtain ⟨i, hi, rfl⟩ := List.getElem_of_mem hb
  rw [List.length_drop] at hi
  cases hc : strLt (l.drop k)[i].name n with
  | false => rfl
  | true =>
   have := (hs (k + i) _ (by rw [List.getElem_drop]; exact List.getElem?_eq_getElem (by omega))).1 hc
   omega
 rw [hk]
 have hat : atA l n = (match (l.drop k).head? with | some a => decide (a.name = n) | none => false) := by
  unfold atA; rw [hk, List.head?_drop]
 conv => lhs; rw [← List.take_append_drop k l]
 rw [setGo_lt hA]
 congr 1
 have hd : sortedA (l.drop k) = true := by
  have := h
  rw [← List.take_append_drop k l] at this
  exact (sortedA_append.1 this).2.1
 rw [hat]
 rw [show l.drop (k + (if (match (l.drop k).head? with | some a => decide (a.name = n) | none => false) = true then 1 else 0)) = (l.drop k).drop (if (match (l.drop k).head? with | some a => decide (a.name = n) | none => false) = true then 1 else 0) by rw [List.drop_drop]]
 obtain ⟨B, hBe⟩ : ∃ B, l.drop k = B := ⟨_, rfl⟩
 rw [hBe] at hB hd ⊢
 cases B with
 | nil => cases hv : v.toList.isEmpty <;> simp [setGo]
 | cons b r =>
  have hb := hB b List.mem_cons_self
  have hg : geA b.name n = true := by unfold geA; rw [hb]; rfl
  have hr : ∀ c ∈ r, c.name ≠ n := fun c hc e => by
   have := (sortedA_cons.1 hd).1 c hc
   rw [e, hb] at this; cases this
  rw [setGo, hg, Bool.or_true, setGo_gt hr]
  by_cases he : b.name = n
  ·
   have : decide (b.name = n) = true := decide_eq_true he
   simp only [List.head?_cons, this, if_true, if_pos he, List.drop_succ_cons, List.drop_zero, List.nil_append]
   cases hv : v.toList.isEmpty <;> simp
  ·
   have : decide (b.name = n) = false := decide_eq_false he
   simp only [List.head?_cons, this, Bool.false_eq_true, if_false, if_neg he, List.drop_zero]
   cases hv : v.toList.isEmpty <;> simp
theorem setA_sorted {l : List Attr} (h : sortedA l = true) (n v : ByteArray) : sortedA (setA l n v) = true := by
 rw [set_put h]
 have hs := posA_spec h n
 unfold putL
 have h1 := h
 rw [← List.take_append_drop (posA l n) l] at h1
 obtain ⟨s1, s2, s3⟩ := sortedA_append.1 h1
 have hd : ∀ k, sortedA ((l.drop (posA l n)).drop k) = true := fun k => by
  have := s2
  rw [← List.take_append_drop k (l.drop (posA l n))] at this
  exact (sortedA_append.1 this).2.1
 have hlt : ∀ a ∈ l.take (posA l n), strLt a.name n = true := fun a ha => by
  obtain ⟨i, hi, rfl⟩ := List.getElem_of_mem ha
  rw [List.length_take] at hi
  exact (hs i _ (by rw [List.getElem_take]; exact List.getElem?_eq_getElem (by omega))).2 (by omega)
 have hgt : ∀ b ∈ l.drop (posA l n + (if atA l n then 1 else 0)), strLt n b.name = true := fun b hb => by
  have hmem : b ∈ l.drop (posA l n) := by rw [← List.drop_drop] at hb; exact List.mem_of_mem_drop hb
  have hnl : strLt b.name n = false := by
   obtain ⟨i, hi, rfl⟩ := List.getElem_of_mem hmem
   rw [List.length_drop] at hi
   cases hc : strLt (l.drop (posA l n))[i].name n with
   | false => rfl
   | true =>
    have := (hs (posA l n + i) _ (by rw [List.getElem_drop]; exact List.getElem?_eq_getElem (by omega))).1 hc
    omega
  cases hc : strLt n b.name with
  | true => rfl
  | false =>
   exfalso
   have hbn := strLt_tri hnl hc
   cases hd0 : l.drop (posA l n) with
   | nil => rw [hd0] at hmem; cases hmem
   | cons x r =>
    have hx0 : l[posA l n]? = some x := by
     have : (l.drop (posA l n))[0]? = some x := by rw [hd0]; rfl
     rw [List.getElem?_drop, Nat.add_zero] at this; exact this
    rw [hd0] at s2
    by_cases hxn : x.name = n
    ·
     have hat : atA l n = true := by unfold atA; rw [hx0]; exact decide_eq_true hxn
     rw [hat, if_pos rfl, ← List.drop_drop, hd0, List.drop_succ_cons, List.drop_zero] at hb
     have := (sortedA_cons.1 s2).1 b hb
     rw [hbn, hxn, strLt_irr] at this; cases this
    ·
     rw [hd0] at hmem
     rcases List.mem_cons.1 hmem with rfl | hm
     · exact hxn hbn
     ·
      have h5 := (sortedA_cons.1 s2).1 b hm
      rw [hbn] at h5
      have hx2 : strLt x.name n = false := by
       cases hq : strLt x.name n with
       | false => rfl
       | true => have := (hs _ _ hx0).1 hq; omega
      rw [hx2] at h5; cases h5
 have hl : sortedA (l.drop (posA l n + (if atA l n then 1 else 0))) = true := by rw [← List.drop_drop]; exact hd _
 have hmd : ∀ b ∈ l.drop (posA l n + (if atA l n then 1 else 0)), b ∈ l.drop (posA l n) := fun b hb => by rw [← List.drop_drop] at hb; exact List.mem_of_mem_drop hb
 rw [sortedA_append]
 cases hv : v.toList.isEmpty with
 | true =>
  simp only [if_true, List.nil_append]
  exact ⟨s1, hl, fun a ha b hb => s3 a ha b (hmd b hb)⟩
 | false =>
  simp only [Bool.false_eq_true, if_false, List.singleton_append]
  refine ⟨s1, sortedA_cons.2 ⟨hgt, hl⟩, fun a ha b hb => ?_⟩
  rcases List.mem_cons.1 hb with rfl | hb
  · exact hlt a ha
  · exact s3 a ha b (hmd b hb)
end Go.Cold
namespace Go.Cold
open Go Go.RowKit
theorem getA_none {l : List Attr} {n : ByteArray} : getA l n = none ↔ ∀ a ∈ l, a.name ≠ n := by
 induction l with
 | nil => simp [getA]
 | cons a r ih =>
  rw [getA]
  by_cases h : a.name = n
  · rw [if_pos h]; simp [h]
  · rw [if_neg h, ih]; simp [h]
theorem getA_mem {l : List Attr} {n v : ByteArray} (h : getA l n = some v) : (⟨n, v⟩ : Attr) ∈ l := by
 induction l with
 | nil => cases h
 | cons a r ih =>
  rw [getA] at h
  by_cases he : a.name = n
  ·
   rw [if_pos he] at h
   have : a = ⟨n, v⟩ := by cases a; simp_all
   rw [this]; exact List.mem_cons_self
  ·
   rw [if_neg he] at h
   exact List.mem_cons_of_mem _ (ih h)
theorem getA_of {l : List Attr} (h : sortedA l = true) {a : Attr} (ha : a ∈ l) : getA l a.name = some a.value := by
 induction l with
 | nil => cases ha
 | cons b r ih =>
  obtain ⟨h1, h2⟩ := sortedA_cons.1 h
  rw [getA]
  rcases List.mem_cons.1 ha with rfl | ha
  · rw [if_pos rfl]
  ·
   rw [if_neg (fun e => by have := h1 a ha; rw [e, strLt_irr] at this; cases this)]
   exact ih h2 ha
theorem getA_append {l r : List Attr} {n : ByteArray} : getA (l ++ r) n = (getA l n).or (getA r n) := by
 induction l with
 | nil => simp [getA]
 | cons a l ih =>
  rw [List.cons_append, getA, getA]
  by_cases h : a.name = n
  · rw [if_pos h, if_pos h]; rfl
  · rw [if_neg h, if_neg h, ih]
theorem sorted_ext : ∀ {l r : List Attr}, sortedA l = true → sortedA r = true → (∀ n, getA l n = getA r n) → l = r
 | [], [], _, _, _ => rfl
 | [], b :: r, _, _, h => by
  have := h b.name
  rw [getA, getA, if_pos rfl] at this; cases this
 | a :: l, [], _, _, h => by
  have := h a.name
  rw [getA, getA, if_pos rfl] at this; cases this
 | a :: l, b :: r, hl, hr, h => by
  obtain ⟨l1, l2⟩ := sortedA_cons.1 hl
  obtain ⟨r1, r2⟩ := sortedA_cons.1 hr
  have ha : (⟨a.name, a.value⟩ : Attr) ∈ b :: r := getA_mem (by rw [← h, getA, if_pos rfl])
  have hb : (⟨b.name, b.value⟩ : Attr) ∈ a :: l := getA_mem (by rw [h, getA, if_pos rfl])
  have hab : a = b := by
   rcases List.mem_cons.1 ha with h1 | h1
   · cases a; cases b; simpa using h1
   ·
    rcases List.mem_cons.1 hb with h2 | h2
    · cases a; cases b; simpa using h2.symm
    ·
     have q1 := r1 _ h1
     have q2 := l1 _ h2
     have q3 : strLt b.name a.name = true := q1
     have q4 : strLt a.name b.name = true := q2
     rw [strLt_asym q3] at q4; cases q4
  subst hab
  congr 1
  refine sorted_ext l2 r2 fun n => ?_
  by_cases hn : a.name = n
  ·
   have e1 : getA l n = none := getA_none.2 fun c hc e => by
    have := l1 c hc; rw [e, ← hn, strLt_irr] at this; cases this
   have e2 : getA r n = none := getA_none.2 fun c hc e => by
    have := r1 c hc; rw [e, ← hn, strLt_irr] at this; cases this
   rw [e1, e2]
  ·
   have := h n
   rw [getA, getA, if_neg hn, if_neg hn] at this
   exact this
def valO (v : ByteArray) : Option ByteArray := if v.toList.isEmpty then none else some v
theorem getA_set {l : List Attr} (h : sortedA l = true) (k v n : ByteArray) : getA (setA l k v) n = if n = k then valO v else getA l n := by
 have hs := posA_spec h k
 have hp := posA_le l k
 rw [set_put h]
 unfold putL
 have h1 := h
 rw [← List.take_append_drop (posA l k) l] at h1
 obtain ⟨s1, s2, s3⟩ := sortedA_append.1 h1
 have hlt : ∀ a ∈ l.take (posA l k), a.name ≠ k := fun a ha e => by
  obtain ⟨i, hi, rfl⟩ := List.getElem_of_mem ha
  rw [List.length_take] at hi
  have hh := (hs i (l.take (posA l k))[i] (by rw [List.getElem_take]; exact List.getElem?_eq_getElem (by omega))).2 (by omega)
  rw [e, strLt_irr] at hh; cases hh
 -- what is dropped bears the name, and nothing behind it does
 have hdr : ∀ n, n ≠ k → getA (l.drop (posA l k + (if atA l k then 1 else 0))) n = getA (l.drop (posA l k)) n := fun n hn => by
  cases hat : atA l k with
  | false => simp
  | true =>
   unfold atA at hat
   cases hx : l[posA l k]? with
   | none => rw [hx] at hat; cases hat
   | some x =>
    rw [hx] at hat
    have hxk : x.name = k := of_decide_eq_true hat
    have hlt2 := (List.getElem?_eq_some_iff.1 hx).1
    have hxe := (List.getElem?_eq_some_iff.1 hx).2
    rw [if_pos rfl, List.drop_eq_getElem_cons hlt2, hxe, getA, if_neg (by rw [hxk]; exact fun e => hn e.symm)]
 have hno : ∀ b ∈ l.drop (posA l k + (if atA l k then 1 else 0)), b.name ≠ k := fun b hb e => by
  have hmem : b ∈ l.drop (posA l k) := by rw [← List.drop_drop] at hb; exact List.mem_of_mem_drop hb
  cases hd0 : l.drop (posA l k) with
  | nil => rw [hd0] at hmem; cases hmem
  | cons x r =>
   have hx0 : l[posA l k]? = some x := by
    have : (l.drop (posA l k))[0]? = some x := by rw [hd0]; rfl
    rw [List.getElem?_drop, Nat.add_zero] at this; exact this
   rw [hd0] at s2
   by_cases hxk : x.name = k
   ·
    have hat : atA l k = true := by unfold atA; rw [hx0]; exact decide_eq_true hxk
    rw [hat, if_pos rfl, ← List.drop_drop, hd0, List.drop_succ_cons, List.drop_zero] at hb
    have := (sortedA_cons.1 s2).1 b hb
    rw [e, hxk, strLt_irr] at this; cases this
   ·
    rw [hd0] at hmem
    rcases List.mem_cons.1 hmem with rfl | hm
    · exact hxk e
    ·
     have h5 := (sortedA_cons.1 s2).1 b hm
     rw [e] at h5
     have := (hs _ _ hx0).1 h5
     omega
 rw [getA_append, getA_append]
 by_cases hn : n = k
 ·
  subst hn
  rw [if_pos rfl, getA_none.2 hlt, getA_none.2 hno]
  unfold valO
  cases hv : v.toList.isEmpty <;> simp [getA]
 ·
  rw [if_neg hn, hdr n hn]
  have e1 : getA (if v.toList.isEmpty = true then [] else [(⟨k, v⟩ : Attr)]) n = none := by
   cases hv : v.toList.isEmpty
   · simp only [Bool.false_eq_true, if_false]; rw [getA, if_neg (fun e => hn e.symm)]; rfl
   · rfl
  rw [e1, Option.none_or, ← getA_append, List.take_append_drop]
def putAll (ps : List (ByteArray × ByteArray)) : List Attr := ps.foldl (fun l p => setA l p.1 p.2) []
theorem putAll_len (ps : List (ByteArray × ByteArray)) : (putAll ps).length ≤ ps.length := by
 have : ∀ (ps : List (ByteArray × ByteArray)) (l : List Attr), (ps.foldl (fun l p => setA l p.1 p.2) l).length ≤ l.length + ps.length := by
  intro ps
  induction ps with
  | nil => intro l; simp
  | cons p ps ih =>
   intro l
   have h1 := ih (setA l p.1 p.2)
   have h2 := setA_len l p.1 p.2
   rw [List.foldl_cons, List.length_cons]; omega
 have h := this ps []
 rw [List.length_nil, Nat.zero_add] at h
 exact h
end Go.Cold
namespace Go.Cold
open Go Go.RowKit Go.Proofs.YtjpoljlgkgmdkaaGreatDoor
def kDevname : ByteArray := ⟨#[68, 69, 86, 78, 65, 77, 69]⟩
def kDevpath : ByteArray := ⟨#[68, 69, 86, 80, 65, 84, 72]⟩
def kDriver : ByteArray := ⟨#[68, 82, 73, 86, 69, 82]⟩
def kInterface : ByteArray := ⟨#[73, 78, 84, 69, 82, 70, 65, 67, 69]⟩
def kModalias : ByteArray := ⟨#[77, 79, 68, 65, 76, 73, 65, 83]⟩
def kNumber : ByteArray := ⟨#[78, 85, 77, 66, 69, 82]⟩
def kSubsystem : ByteArray := ⟨#[83, 85, 66, 83, 89, 83, 84, 69, 77]⟩
def kFsLabel : ByteArray := ⟨#[73, 68, 95, 70, 83, 95, 76, 65, 66, 69, 76]⟩
def kFsUsage : ByteArray := ⟨#[73, 68, 95, 70, 83, 95, 85, 83, 65, 71, 69]⟩
def kFsUuid : ByteArray := ⟨#[73, 68, 95, 70, 83, 95, 85, 85, 73, 68]⟩
def tFile : ByteArray := ⟨#[102, 105, 108, 101, 115, 121, 115, 116, 101, 109]⟩
def tRaid : ByteArray := ⟨#[114, 97, 105, 100]⟩
def tCrypto : ByteArray := ⟨#[99, 114, 121, 112, 116, 111]⟩
def tMember : ByteArray := ⟨#[109, 101, 109, 98, 101, 114]⟩
def tTable : ByteArray := ⟨#[116, 97, 98, 108, 101]⟩
def baseKeys : List ByteArray := [kDevname, kDevpath, kDriver, kInterface, kModalias, kNumber, kSubsystem]
def itoaT (n : Int) : ByteArray := ⟨(Lib.itoa n).toArray⟩
def baseP (o : ByteArray) (d : Dev) : List (ByteArray × ByteArray) :=
 [(kDevpath, o), (kSubsystem, d.sub), (kDriver, d.drv), (kModalias, d.ali)] ++ ((if (nodeD d).isSome then [(kDevname, nodeV d), (kNumber, itoaT d.num)] else []) ++ (if d.kind = 4 then [(kInterface, d.orig)] else []))
def baseL (L : List Dev) (n : Int) : List Attr := match findD L n with | none => [] | some d => putAll (baseP (strF L n) d)
def cutT (s : ByteArray) : ByteArray := s.extract 0 (min s.size 256)
def usageT (k : Int) : ByteArray := if k = 1 then tFile else if k = 2 then tRaid else if k = 3 then tCrypto else if k = 4 then tMember else tTable
def contA (c : Cont) : List Attr := if c.kind = 0 then [] else putAll [(kFsLabel, c.label), (kFsUsage, usageT c.kind), (kFsUuid, c.id)]
noncomputable def contAt (d : Dev) : List Attr := if d.kind = 2 then (match parseC (contD d) with | some c => contA c | none => []) else []
noncomputable def contL (L : List Dev) (n : Int) : List Attr := contAt ((findD L n).getD zeroD)
end Go.Cold
namespace Go.Cold
open Go Go.RowKit Go.Proofs.YtjpoljlgkgmdkaaGreatDoor
theorem cut_data (s : ByteArray) : (cutT s).data.toList = s.data.toList.take 256 := by
 unfold cutT
 rw [ByteArray.data_extract, Array.toList_extract, List.extract_eq_take_drop, List.drop_zero, Nat.sub_zero]
 rw [← ba_size]
 by_cases h : s.data.toList.length ≤ 256
 · rw [Nat.min_eq_left h, List.take_length, List.take_of_length_le h]
 · rw [Nat.min_eq_right (by omega)]
theorem cut_size (s : ByteArray) : (cutT s).size = min 256 s.size := by rw [← ba_size, cut_data, List.length_take, ba_size]
-- what may be printed
end Go.Cold
namespace Go.Cold
open Go Go.RowKit Go.Proofs.YtjpoljlgkgmdkaaGreatDoor
def goodA (a : Attr) : Prop := keyB a.name = true ∧ textB a.value = true ∧ a.value.toList.isEmpty = false
-- a change of driver and name
end Go.Cold
