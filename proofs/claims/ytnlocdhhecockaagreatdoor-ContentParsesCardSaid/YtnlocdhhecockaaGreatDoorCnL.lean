/-
  The walks of coldplugmake's Fold and Tape.
-/
import Derived.Test.YtnlocdhhecockaaGreatDoorCnA
set_option linter.unusedSimpArgs false
set_option linter.unusedVariables false
namespace Go.Cold
open Go Go.RowKit
/-- A number from 0 to n - 1. -/
def foldI (v n : Int) : Int := if n ≤ 1 then 0 else if v.tmod n < 0 then v.tmod n + n else v.tmod n
theorem foldI_range {v n : Int} (h : 1 < n) : 0 ≤ foldI v n ∧ foldI v n < n := by
  unfold foldI
  rw [if_neg (by omega)]
  have h1 := Int.tmod_lt_of_pos v (show 0 < n by omega)
  have h2 : -n < v.tmod n := by
    have := Int.lt_tmod_of_pos v (show 0 < n by omega)
    exact this
  split <;> omega
/-- The tape in block b, at its place number k. -/
def TapeAt (w : World) (B b : Nat) (xs : List Int) (k : Nat) : Prop := ∃ A c, w.cell? ⟨b, 0, none⟩ = some (.slice A xs.length c) ∧ w.cell? ⟨b, 1, none⟩ = some (.int .i64 k) ∧
  (∀ j, w.frozen? ⟨b, j, none⟩ = false) ∧ Sl w B A c xs ∧ B ≤ b ∧ b < w.heap.size
/-- What the tape reads at a place. -/
def tapeI (xs : List Int) (k : Nat) : Int := match xs[k]? with
  | some v => v
  | none => ((k : Int) * 7).tmod 11
end Go.Cold
namespace Go.Proofs.YtnlocdhhecockaaGreatDoor
open Go.RowKit Go.Cold

theorem Fold_any (v n : Int) (w : World) (hv : okInt v) (hn : okInt n) : Calls Tryz.prog 22 #[.int .i64 v, .int .i64 n] w fun e w' => e = .returned (.int .i64 (foldI v n)) ∧ w = w' := by
  unfold okInt at hv hn
  by_cases h1 : n ≤ 1
  · go_enter Tryz.func22, Tryz.ntmps22
    go_wp2
    go_ret
    exact ⟨ret_int (by rw [foldI, if_pos h1]), rfl⟩
  · have h2 : ¬ n = 0 := by omega
    have hlt := Int.tmod_lt_of_pos v (show 0 < n by omega)
    have hgt := Int.lt_tmod_of_pos v (show 0 < n by omega)
    have hnn : ¬ n = -1 := by omega
    have hf : foldI v n = if v.tmod n < 0 then v.tmod n + n else v.tmod n := by rw [foldI, if_neg h1]
    have HF := Lib.hid hf; clear hf
    by_cases h3 : v.tmod n < 0
    · go_enter Tryz.func22, Tryz.ntmps22
      go_wp2
      go_ret
      exact ⟨ret_int (by rw [HF.out, if_pos h3]), rfl⟩
    · go_enter Tryz.func22, Tryz.ntmps22
      go_wp2
      go_ret
      exact ⟨ret_int (by rw [HF.out, if_neg (by omega)]), rfl⟩

theorem set_at (w : World) (a : Addr) (v : Value) (h : (w.cell? a).isSome) : (w.setCell a v).cell? a = some v := World.cell?_setCell_same' w a v h
/-- The tape behind one reading. -/
theorem tape_next {w : World} {B b c k : Nat} {A : Option Addr} {xs : List Int} (nq : Nat) (h0 : w.cell? ⟨b, 0, none⟩ = some (.slice A xs.length c)) (h1 : w.cell? ⟨b, 1, none⟩ = some (.int .i64 k))
    (hfr : ∀ j, w.frozen? ⟨b, j, none⟩ = false) (hsl : Sl w B A c xs) (hB : B ≤ b) (hlt : b < w.heap.size) : TapeAt ((w.setCell ⟨b, 1, none⟩ (.int .i64 ((k : Int) + 1))).drewN nq) B b xs (k + 1) := by
  have hb : Below B w ((w.setCell ⟨b, 1, none⟩ (.int .i64 ((k : Int) + 1))).drewN nq) := below_drewN ((Below.refl _ _).setCell hB _) nq
  refine ⟨A, c, ?_, ?_, fun j => ?_, hsl.keep hb, hB, by simpa using hlt⟩
  · exact (World.cell?_setCell_other w ⟨b, 1, none⟩ ⟨b, 0, none⟩ _ (fun e => by injection e with _ e; cases e)).trans h0
  · exact (set_at w _ _ (by rw [h1]; rfl)).trans (by simp)
  · exact (World.frozen?_setCell w _ _ _).trans (hfr j)
theorem grown_next {w : World} {b : Nat} {v : Value} (nq : Nat) (_hlt : b < w.heap.size) : w.grownBy ((w.setCell ⟨b, 1, none⟩ v).drewN nq) (some b) := by
  refine ⟨rfl, rfl, rfl, by simp, fun k hk hne => ?_⟩
  have hne' : ¬ k = b := fun e => hne (by rw [e])
  exact Below.heap_setCell _ _ _ _ (by show ¬ _ ; simp; omega)
theorem tape_step {w : World} {B b c k : Nat} {A : Option Addr} {xs : List Int} (nq : Nat) (h0 : w.cell? ⟨b, 0, none⟩ = some (.slice A xs.length c)) (h1 : w.cell? ⟨b, 1, none⟩ = some (.int .i64 k))
    (hfr : ∀ j, w.frozen? ⟨b, j, none⟩ = false) (hsl : Sl w B A c xs) (hB : B ≤ b) (hlt : b < w.heap.size) : TapeAt ((w.setCell ⟨b, 1, none⟩ (.int .i64 ((k : Int) + 1))).drewN nq) B b xs (k + 1) ∧ w.grownBy ((w.setCell ⟨b, 1, none⟩ (.int .i64 ((k : Int) + 1))).drewN nq) (some b) :=
  ⟨tape_next nq h0 h1 hfr hsl hB hlt, grown_next nq hlt⟩
def NextPost (xs : List Int) (k : Nat) (B b : Nat) (n : Int) (w : World) (e : Ending) (w' : World) : Prop := e = .returned (.int .i64 (foldI (tapeI xs k) n)) ∧ TapeAt w' B b xs (k + 1) ∧ w.grownBy w' (some b)
set_option maxRecDepth 10000 in
theorem Next_any (xs : List Int) (k B b : Nat) (n : Int) (w : World) (hn : okInt n) (hk : k ≤ 2 ^ 40) (ht : TapeAt w B b xs k) : Calls Tryz.prog 13 #[.pointer (some ⟨b, 0, none⟩), .int .i64 n] w (NextPost xs k B b n w) := by
  obtain ⟨A, c, h0, h1, hfr, hsl, hB, hlt⟩ := ht
  have hx1 := hsl.1; have hx2 := hsl.2.1
  unfold maxLen at hx2
  have HSL := Lib.hid hsl; clear hsl
  by_cases hin : k < xs.length
  · obtain ⟨b3, o3, rfl, hb3, cx, hr⟩ := HSL.out.int hin
    have hv : tapeI xs k = xs[k] := by unfold tapeI; rw [List.getElem?_eq_getElem hin]
    obtain ⟨v, hvv⟩ : ∃ v, xs[k] = v := ⟨_, rfl⟩
    rw [hvv] at cx hr hv
    have HV := Lib.hid hv; clear hv hvv
    have i1 : (k : Int) < (xs.length : Int) := by omega
    have hok : okInt v := by unfold okInt; omega
    go_enter Tryz.func13, Tryz.ntmps13
    go_wp2_with fail
    go_quiet (fail)
    go_wp2_with fail
    go_quiet (fail)
    go_wp2_with fail
    refine (Fold_any v n _ hok hn).mono ?_; rintro e w' ⟨rfl, rfl⟩
    obtain ⟨z, hz⟩ : ∃ z, foldI v n = z := ⟨_, rfl⟩
    rw [hz]
    have HZ := Lib.hid hz; clear hz
    go_wp2
    go_ret
    exact ⟨ret_int (by rw [HV.out, HZ.out]), tape_step _ h0 h1 hfr HSL.out hB hlt⟩
  · have hv : tapeI xs k = ((k : Int) * 7) % 11 := by
      unfold tapeI
      rw [List.getElem?_eq_none (by omega)]
      show ((k : Int) * 7).tmod 11 = _
      rw [Int.tmod_eq_emod_of_nonneg (by omega)]
    have HV := Lib.hid hv; clear hv
    have i1 : ¬ (k : Int) < (xs.length : Int) := by omega
    have hok : okInt (((k : Int) * 7) % 11) := by unfold okInt; omega
    go_enter Tryz.func13, Tryz.ntmps13
    go_wp2_with fail
    go_quiet (fail)
    go_wp2_with fail
    refine (Fold_any _ n _ hok hn).mono ?_; rintro e w' ⟨rfl, rfl⟩
    obtain ⟨z, hz⟩ : ∃ z, foldI (((k : Int) * 7) % 11) n = z := ⟨_, rfl⟩
    rw [hz]
    have HZ := Lib.hid hz; clear hz
    go_wp2
    go_ret
    exact ⟨ret_int (by rw [HV.out, HZ.out]), tape_step _ h0 h1 hfr HSL.out hB hlt⟩

def OnePost (xs : List Int) (k B b : Nat) (ys : List ByteArray) (w : World) (e : Ending) (w' : World) : Prop := e = .returned (.string (ys.getD (foldI (tapeI xs k) ys.length).toNat ⟨#[]⟩)) ∧ TapeAt w' B b xs (k + 1) ∧ w.grownBy w' (some b)
set_option maxRecDepth 10000 in
theorem One_any (xs : List Int) (k B b : Nat) (ys : List ByteArray) (b2 o2 c2 : Nat) (w : World) (hk : k ≤ 2 ^ 40) (ht : TapeAt w B b xs k) (h0 : 1 < ys.length) (hy : ys.length ≤ 100) (hc : ys.length ≤ c2) (hc2 : c2 ≤ maxLen) (hne : ¬ b2 = b)
    (hcell : ∀ (i : Nat) y, ys[i]? = some y → w.cell? ⟨b2, o2 + i, none⟩ = some (.string y)) :
    Calls Tryz.prog 14 #[.pointer (some ⟨b, 0, none⟩), .slice (some ⟨b2, o2, none⟩) ys.length c2] w (OnePost xs k B b ys w) := by
  have hf := @foldI_range (tapeI xs k) ys.length (by omega)
  have hz : ((ys.length : Int) == 0) = false := by simp; rintro rfl; simp at h0
  have hcall := Next_any xs k B b ys.length w (by unfold okInt; omega) hk ht
  have HCALL := Lib.hid hcall; clear hcall ht
  have HCELL := Lib.hid hcell; clear hcell
  unfold maxLen at hc2
  go_enter Tryz.func14, Tryz.ntmps14
  go_wp2_with fail
  refine HCALL.out.mono ?_
  rintro e w1 ⟨rfl, htape, hg⟩
  obtain ⟨m, hm⟩ := Int.eq_ofNat_of_zero_le hf.1
  have hml : m < ys.length := by omega
  have hget : ys[m]? = some ys[m] := List.getElem?_eq_getElem hml
  have hD : ys.getD (foldI (tapeI xs k) ys.length).toNat ⟨#[]⟩ = ys[m] := by rw [hm, List.getD_eq_getElem?_getD, Int.toNat_natCast, hget]; rfl
  have hc1 := hg.cell (HCELL.out m ys[m] hget) (fun e => hne (Option.some.inj e))
  rw [hm] at hf ⊢
  obtain ⟨y, hyy⟩ : ∃ y, ys[m] = y := ⟨_, rfl⟩
  rw [hyy] at hc1 hD
  have HD := Lib.hid hD; clear hD hget hyy hm
  have HT := Lib.hid htape; have HG := Lib.hid hg; clear htape hg
  have i1 : (m : Int) < (ys.length : Int) := by omega
  go_wp2
  go_ret
  exact ⟨ret_str (by rw [HD.out]), HT.out, HG.out⟩
end Go.Proofs.YtnlocdhhecockaaGreatDoor
