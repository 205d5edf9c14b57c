/-
  The walk of layer 7's parser: inner, given what content does.
-/
import Derived.Test.YtnlocdhhecockaaGreatDoorCpA
import Derived.Test.YtnlocdhhecockaaGreatDoorCnE
set_option linter.unusedSimpArgs false
set_option linter.unusedVariables false
namespace Go.Cold
open Go Go.RowKit
theorem cell_heap {w w' : World} {b : Nat} (h : w'.heap[b]? = w.heap[b]?) (o : Nat) : w'.cell? ⟨b, o, none⟩ = w.cell? ⟨b, o, none⟩ := by
  simp [World.cell?, h]
theorem frozen_heap {w w' : World} {b : Nat} (h : w'.heap[b]? = w.heap[b]?) (o : Nat) : w'.frozen? ⟨b, o, none⟩ = w.frozen? ⟨b, o, none⟩ := by
  simp [World.frozen?, h]
theorem CurAt.kept {w w' : World} {b k : Nat} {s : ByteArray} {bad : Bool} {row : Option Nat} (h : CurAt w b s k bad) (hg : w.grownBy w' row) (hne : some b ≠ row) : CurAt w' b s k bad := by
  obtain ⟨h0, h1, h2, hf, hlt⟩ := h
  have hh := hg.block b hlt hne
  exact ⟨(cell_heap hh 0).trans h0, (cell_heap hh 1).trans h1, (cell_heap hh 2).trans h2, fun j => (frozen_heap hh j).trans (hf j), Nat.lt_of_lt_of_le hlt hg.size⟩
theorem grown_new {a w w' : World} {row row2 : Option Nat} (h : a.grownBy w row) (hg : w.grownBy w' row2) (h2 : ∀ k, row2 = some k → a.heap.size ≤ k) : a.grownBy w' row :=
  ⟨hg.os.trans h.os, hg.tape.trans h.tape, hg.output.trans h.output, Nat.le_trans h.size hg.size, fun k hk hne => (hg.block k (Nat.lt_of_lt_of_le hk h.size) (fun e => by have := h2 k e.symm; omega)).trans (h.block k hk hne)⟩
theorem grown_below {a w w' : World} {row : Option Nat} (h : a.grownBy w row) (hb : Below w.heap.size w w') : a.grownBy w' row :=
  ⟨hb.os.trans h.os, hb.tape.trans h.tape, hb.output.trans h.output, Nat.le_trans h.size hb.size, fun k hk hne => (hb.block k (Nat.lt_of_lt_of_le hk h.size)).trans (h.block k hk hne)⟩
theorem OwnsC.grownb {F : Nat → Prop} {w w' : World} {base b : Nat} {e : TypeId} {v : Value} {xs : List Cont} (h : OwnsC F w base e v xs) (hg : w.grownBy w' (some b)) (hF : ∀ x, F x → x ≠ b) (hbase : b < base) : OwnsC F w' base e v xs := by
  obtain ⟨css, h1, h2, h3⟩ := h
  refine ⟨css, h1.kept hg ?_, h2, fun i x cs hx hcs => CRdS_mono (fun y ⟨hf, q1, q2⟩ => ⟨hf, by have := hg.size; omega, q2⟩) (fun y o u ⟨hf, _, _⟩ hu => hg.cell hu (fun e => hF y hf (Option.some.inj e))) x cs (h3 i x cs hx hcs)⟩
  cases hv : v.ownBlock with
  | none => exact .inl rfl
  | some q =>
    right
    intro e
    have h4 := (h1.lt q hv).1
    have h5 := Option.some.inj e
    omega
/-- One step of the parser: a text that must stand here. -/
theorem step_want {α : Type} (s t : ByteArray) (k : Nat) (bad : Bool) (R : Nat → Option α) :
    (if bad then none else (wantP s t k).bind R) = (if (!skipB s k t || bad) then none else R (if skipB s k t then k + t.size else k)) := by
  cases bad <;> cases h : skipB s k t <;> simp [wantP, h]
/-- How far a loop of the parser has to go. -/
def measP (size b : Nat) (w : World) : Nat := match w.cell? ⟨b, 1, none⟩, w.cell? ⟨b, 2, none⟩ with
  | some (.int _ n), some (.bool bad) => 2 * (size - n.toNat) + (if bad then 0 else 1)
  | _, _ => 0
theorem measP_at {w : World} {b k : Nat} {s : ByteArray} {bad : Bool} (h : CurAt w b s k bad) (size : Nat) : measP size b w = 2 * (size - k) + (if bad then 0 else 1) := by
  obtain ⟨_, h1, h2, _⟩ := h
  unfold measP
  rw [h1, h2]
  simp
theorem skip_bound {s t : ByteArray} {k : Nat} (hk : k ≤ s.size) : (if skipB s k t then k + t.size else k) ≤ s.size ∧ k ≤ (if skipB s k t then k + t.size else k) := by
  split
  · exact ⟨skipB_le hk (by assumption), by omega⟩
  · exact ⟨hk, Nat.le_refl _⟩
/-- The loop of 'inner': the contents that are read, the place, and what is still to be read. -/
def InnerRel (s : ByteArray) (N b : Nat) (T : TypeId) (w0 : World) (k : Nat) (spec : Option (List Cont × Nat)) (v : Value) (wr : World) : Prop :=
  ∃ (kr : Nat) (badr : Bool) (xs : List Cont) (fr : Nat), OwnsC (fun x => w0.heap.size ≤ x) wr w0.heap.size T v xs ∧ CurAt wr b s kr badr ∧ w0.grownBy wr (some b) ∧ (kr ≤ s.size ∧ k ≤ kr ∧ nodesL xs + k ≤ kr) ∧
    (badr = false → nodesL xs + k + 1 ≤ kr ∧ s.size + 1 < fr + kr ∧ s.size < N + kr) ∧ spec = (if badr then none else innerP s fr kr xs)
end Go.Cold
namespace Go.Proofs.YtnlocdhhecockaaGreatDoor
open Go.RowKit Go.Cold

def ContPost (s : ByteArray) (k f b : Nat) (bad : Bool) (w : World) (e : Ending) (w' : World) : Prop := ∃ (cs : List Value) (c : Cont) (k' : Nat) (bad' : Bool), e = .returned (.agg cs.toArray) ∧ NewC w w' c cs ∧ CurAt w' b s k' bad' ∧ w.grownBy w' (some b) ∧
  (k ≤ k' ∧ k' ≤ s.size ∧ nodesC c + k ≤ k' + 1) ∧ (if bad then none else contP s f k) = (if bad' then none else some (c, k'))
/-- What 'content' does at a place from which less than N bytes are left. -/
def ContCalls (s : ByteArray) (N : Nat) : Prop := ∀ (k f : Nat) (bad : Bool) (b : Nat) (w : World), s.size < N + k → k ≤ s.size → (bad = false → s.size < f + k) → CurAt w b s k bad → Ok7 w → GB b →
  Calls Tryz.prog 15 #[.pointer (some ⟨b, 0, none⟩)] w (ContPost s k f b bad w)
def NewL (w w' : World) (A : Option Addr) (c : Nat) (xs : List Cont) : Prop := xs.length ≤ c ∧ c ≤ maxLen ∧
  (0 < xs.length → ∃ bb o, A = some ⟨bb, o, none⟩ ∧ (w.heap.size ≤ bb ∧ bb < w'.heap.size) ∧ CsAtS w' (fun x => w.heap.size ≤ x ∧ x < w'.heap.size) bb xs o)
def InnerPost (s : ByteArray) (k f b : Nat) (bad : Bool) (w : World) (e : Ending) (w' : World) : Prop := ∃ (A : Option Addr) (c : Nat) (xs : List Cont) (k' : Nat) (bad' : Bool), e = .returned (.slice A xs.length c) ∧ NewL w w' A c xs ∧ CurAt w' b s k' bad' ∧ w.grownBy w' (some b) ∧
  (k ≤ k' ∧ k' ≤ s.size ∧ nodesL xs + k ≤ k') ∧ (if bad then none else (wantP s ⟨#[40]⟩ k).bind fun k1 => innerP s f k1 []) = (if bad' then none else some (xs, k'))

set_option maxHeartbeats 4000000 in
set_option maxRecDepth 100000 in
theorem inner_any (s : ByteArray) (hs : s.size ≤ 1000) (N : Nat) (H : ContCalls s N) (k f : Nat) (bad : Bool) (b : Nat) (w : World) (hk : k ≤ s.size) (hf : bad = false → s.size < N + (k + 1) ∧ s.size + 1 < f + (k + 1))
    (hc : CurAt w b s k bad) (hok : Ok7 w) (hgb : GB b) : Calls Tryz.prog 26 #[.pointer (some ⟨b, 0, none⟩)] w (InnerPost s k f b bad w) := by
  obtain ⟨i0, hi0, hz0, hz1, hz2⟩ := info_parts info_cont
  have HI0 := Lib.hid hi0; clear hi0
  have HZ0 := Lib.hid hz0; clear hz0
  have HZ1 := Lib.hid hz1; clear hz1
  have HZ2 := Lib.hid hz2; clear hz2
  have hcall := want_any s ⟨#[40]⟩ k b bad w hs hk hc
  have hbw : b < w.heap.size := hc.2.2.2.2
  have HCALL := Lib.hid hcall; have HH := Lib.hid H; have HOK := Lib.hid hok; have HGB := Lib.hid hgb
  have hbd := @skip_bound s ⟨#[40]⟩ k hk
  have hspec := step_want s ⟨#[40]⟩ k bad (fun k1 => innerP s f k1 [])
  have hon : (!skipB s k ⟨#[40]⟩ || bad) = false → bad = false ∧ k + 1 ≤ (if skipB s k ⟨#[40]⟩ then k + (⟨#[40]⟩ : ByteArray).size else k) := by
    intro h
    cases hq : skipB s k ⟨#[40]⟩ with
    | true => rw [hq] at h; simp at h; exact ⟨h, by rw [if_pos rfl]; exact Nat.le_refl _⟩
    | false => rw [hq] at h; simp at h
  clear hcall H hok hgb hc
  go_enter Tryz.func26, Tryz.ntmps26
  go_wp2_with fail
  refine HCALL.out.mono ?_
  rintro e w1 ⟨rfl, hc1, hg1⟩
  obtain ⟨k1, hk1⟩ : ∃ k1, (if skipB s k ⟨#[40]⟩ then k + (⟨#[40]⟩ : ByteArray).size else k) = k1 := ⟨_, rfl⟩
  obtain ⟨bad1, hbad1⟩ : ∃ bad1, (!skipB s k ⟨#[40]⟩ || bad) = bad1 := ⟨_, rfl⟩
  rw [hk1] at hc1 hbd hspec hon
  rw [hbad1] at hc1 hspec hon
  obtain ⟨spec, hspc⟩ : ∃ spec, (if bad then none else (wantP s ⟨#[40]⟩ k).bind fun k1 => innerP s f k1 []) = spec := ⟨_, rfl⟩
  rw [hspc] at hspec
  have hrel0 : InnerRel s N b 31 w k spec (.slice none 0 0) w1 := by
    refine ⟨k1, bad1, [], f, OwnsC.nil_ _ _ _ _, hc1, hg1, ⟨hbd.1, hbd.2, by rw [nodesL]; omega⟩, fun h => ?_, hspec⟩
    obtain ⟨h1, h2⟩ := hon h
    obtain ⟨h3, h4⟩ := hf h1
    exact ⟨by rw [nodesL]; omega, by omega, by omega⟩
  have HSPC := Lib.hid hspc; have HREL0 := Lib.hid hrel0
  have HK := Lib.hid hk
  clear hspc hrel0 hspec hon hbd hk1 hbad1 hc1 hf hk
  have hh0 : ∃ kr badr, CurAt w1 b s kr badr := by obtain ⟨kr, badr, xs, fr, _, h, _⟩ := HREL0.out; exact ⟨kr, badr, h⟩
  have HG1 := Lib.hid hg1; clear hg1 hh0
  go_wp2_with fail
  go_loopw [3] (fun v wr => Hid (InnerRel s N b 31 w k spec v wr)) (fun _ wr => measP s.size b wr)
  case atStart => exact HREL0
  case round =>
    obtain ⟨kr, badr, xs, fr, howns, hcr, hgr, hbnd, hgood, hsp⟩ := hrel.out
    clear HREL0 hrel
    have hmeas := measP_at hcr s.size
    obtain ⟨h0, h1, h2, hfz, hlt⟩ := id hcr
    have HOWN := Lib.hid howns; have HCR := Lib.hid hcr; have HGR := Lib.hid hgr; have HBND := Lib.hid hbnd; have HGOOD := Lib.hid hgood; have HSP := Lib.hid hsp; have HMEAS := Lib.hid hmeas
    clear howns hcr hgr hbnd hgood hsp hmeas
    cases badr with
    | true =>
      go_wp2
      go_ret
      refine ⟨none, 0, [], kr, true, rfl, ⟨Nat.le_refl _, by unfold maxLen; omega, fun h => by simp at h⟩, HCR.out, HGR.out, ⟨HBND.out.2.1, HBND.out.1, by rw [nodesL]; have := HBND.out.2.1; omega⟩, ?_⟩
      rw [HSPC.out, HSP.out]; rfl
    | false =>
      obtain ⟨hn1, hfu, hNN⟩ := HGOOD.out rfl
      obtain ⟨hb1, hb2, hb3⟩ := HBND.out
      obtain ⟨f', rfl⟩ : ∃ f', fr = f' + 1 := ⟨fr - 1, by omega⟩
      have hcall := HH.out kr f' false b wr hNN hb1 (fun _ => by omega) HCR.out (HOK.out.grown HGR.out HGB.out) HGB.out
      have HCALL2 := Lib.hid hcall; clear hcall
      have HN1 := Lib.hid hn1; have HFU := Lib.hid hfu; have HNN := Lib.hid hNN; have HB := Lib.hid (And.intro hb1 (And.intro hb2 hb3)); clear hn1 hfu hb1 hb2 hb3 hNN
      go_wp2_with fail
      refine HCALL2.out.mono ?_
      rintro e' w3 ⟨cs3, x, k3, bad3, rfl, hnew, hc3, hg3, hbd3, hsp3⟩
      clear h0 h1 h2 hfz hlt
      obtain ⟨kk2, i2, l2, s2, t2, e2, xs2⟩ := x
      obtain ⟨A3, c3', rfl⟩ := CRdS_cells hnew
      simp only [contCells]
      have HNEW := Lib.hid hnew; have HC3 := Lib.hid hc3; have HG3 := Lib.hid hg3; have HBD3 := Lib.hid hbd3; have HSP3 := Lib.hid hsp3
      clear hnew hc3 hg3 hbd3 hsp3
      obtain ⟨w4, hw4⟩ : ∃ w4, w3.alloc (.cells #[.int .i64 kk2, .string i2, .string l2, .int .i64 s2, .int .i64 t2, .int .i64 e2, .slice A3 xs2.length c3'] 31) = w4 := ⟨_, rfl⟩
      have hnews := cell7_new w3 31 kk2 i2 l2 s2 t2 e2 A3 xs2.length c3'
      obtain ⟨hb4, hg4, -⟩ := box7 hw4
      rw [hw4] at hnews
      have hsz0 := HGR.out.size
      have hsz3 := HG3.out.size
      have hown3 := HOWN.out.grownb HG3.out (fun y hy e => by omega) hbw
      have hown4 := hown3.below hb4
      have hwl := hown3.lt
      obtain ⟨css, o1, o2, o3'⟩ := hown4
      have hlenx : xs.length ≤ 1000 := by have := nodesL_length xs; have := HB.out; omega
      have HO3 := Lib.hid o3'; clear o3'
      have HNEWS := Lib.hid hnews; clear hnews
      have HLENX := Lib.hid hlenx; clear hlenx
      have HW4 := Lib.hid hg4; clear hg4
      go_wp2_with (at_builtin; go_must (refine wpList_append_own_at _ rfl _ _ 29 rfl w.heap.size 31 i0 _ 7 88 Tryz.underlying29 HI0.out HZ0.out HZ1.out HZ2.out rfl (by decide) _ _ _ rfl o1 ⟨w3.heap.size, 0, none⟩ 1 1 _ rfl rfl HNEWS.out (CRdS_one HNEW.out) (by have := HLENX.out; unfold maxLen; omega) (by have := HLENX.out; omega) (by have := HW4.out; omega) ?_); intro v' w5 hown' hgrow _ hat)
      have hg4 := HW4.out
      have hnewb : ∀ q, v'.ownBlock = some q → u3.ownBlock = some q ∨ w4.heap.size ≤ q := fun q hq => by
        rcases hat with h | h
        · exact .inl (h.symm.trans hq)
        · rw [hq] at h; exact .inr (by have := Option.some.inj h; omega)
      have hx4 : CRdS w4 (fun y => w.heap.size ≤ y ∧ y < w4.heap.size ∧ u3.ownBlock ≠ some y) (.mk kk2 i2 l2 s2 t2 e2 xs2) (contCells kk2 i2 l2 s2 t2 e2 A3 xs2.length c3') :=
        CRdS_mono (fun y ⟨q1, q2⟩ => ⟨by omega, by omega, fun h => by
          have := (HOWN.out.lt y h).2; omega⟩) (fun y o u ⟨_, q2⟩ hu => (hb4.cell (p := ⟨y, o, none⟩) (by exact q2)).trans hu) _ _ HNEW.out
      have hOwn5 : OwnsC (fun y => w.heap.size ≤ y) w5 w.heap.size 31 v' (xs ++ [.mk kk2 i2 l2 s2 t2 e2 xs2]) :=
        OwnsC.app (w := w4) o1 o2 HO3.out hx4 hown' hgrow hnewb
      have hcur4 := (HC3.out.below hb4).1
      have hcur5 : CurAt w5 b s k3 bad3 := hcur4.kept hgrow (fun e => by have := (hwl b e.symm).1; omega)
      have hg5 : w.grownBy w5 (some b) := grown_new (grown_below (grown_trans HGR.out HG3.out) hb4) hgrow (fun q hq => (hwl q hq).1)
      obtain ⟨hq1, hq2, hq3⟩ := HBD3.out
      obtain ⟨hr1, hr2, hr3⟩ := HB.out
      have hnodes : nodesL (xs ++ [.mk kk2 i2 l2 s2 t2 e2 xs2]) + k ≤ k3 := by have := HN1.out; rw [nodesL_app]; omega
      have hspecn : spec = (if bad3 then none else if skipB s k3 ⟨#[41]⟩ then some (xs ++ [.mk kk2 i2 l2 s2 t2 e2 xs2], k3 + 1) else (wantP s ⟨#[44]⟩ k3).bind fun k2 => innerP s f' k2 (xs ++ [.mk kk2 i2 l2 s2 t2 e2 xs2])) := by
        have h := HSP.out
        rw [if_neg (by decide), innerP] at h
        have h3 := HSP3.out
        rw [if_neg (by decide)] at h3
        rw [h, h3]
        cases bad3 <;> rfl
      have HOWN5 := Lib.hid hOwn5; have HCUR5 := Lib.hid hcur5; have HG5 := Lib.hid hg5; have HNODES := Lib.hid hnodes; have HSPN := Lib.hid hspecn
      have HQ1 := Lib.hid hq1; have HQ2 := Lib.hid hq2; have HR1 := Lib.hid hr1; have HR2 := Lib.hid hr2
      clear hOwn5 hcur5 hg5 hnodes hspecn hcur4 hx4 hnewb hown' hgrow hat o1 o2 hown3 hb4 hg4 hsz0 hsz3 hwl hw4 hq1 hq2 hq3 hr1 hr2 hr3
      go_wp2_with fail
      refine (skip_any s ⟨#[41]⟩ k3 b bad3 w5 hs HQ2.out HCUR5.out).mono ?_
      rintro e' w6 ⟨rfl, hc6, hg6⟩
      have hown6 := HOWN5.out.grownb hg6 (fun y hy e => by omega) hbw
      have HOWN6 := Lib.hid hown6; have HG6 := Lib.hid (grown_trans HG5.out hg6); have HC6 := Lib.hid hc6
      clear hown6 hg6 hc6
      cases hsk : skipB s k3 ⟨#[41]⟩ with
      | true =>
        have HSK := Lib.hid hsk; clear hsk
        go_wp2
        obtain ⟨A5, c5, rfl, hc51, hc52, hc53⟩ := HOWN6.out.cs
        go_ret
        have hle := skipB_le HQ2.out HSK.out
        have hsz1 : (⟨#[41]⟩ : ByteArray).size = 1 := rfl
        rw [hsz1] at hle
        have hc6 := HC6.out
        rw [HSK.out, if_pos rfl, hsz1] at hc6
        refine ⟨A5, c5, _, k3 + 1, bad3, rfl, ⟨hc51, hc52, hc53⟩, hc6, HG6.out, ⟨by have := HQ1.out; have := HR2.out; omega, hle, by have := HNODES.out; omega⟩, ?_⟩
        rw [HSPC.out, HSPN.out, HSK.out]
        cases bad3 <;> rfl
      | false =>
        have HSK := Lib.hid hsk; clear hsk
        have hc6 := HC6.out
        rw [HSK.out, if_neg (by decide)] at hc6
        have HC6' := Lib.hid hc6; clear hc6
        go_wp2_with fail
        refine (want_any s ⟨#[44]⟩ k3 b bad3 w6 hs HQ2.out HC6'.out).mono ?_
        rintro e' w7 ⟨rfl, hc7, hg7⟩
        have hbd7 := @skip_bound s ⟨#[44]⟩ k3 HQ2.out
        have hon7 : (!skipB s k3 ⟨#[44]⟩ || bad3) = false → k3 + 1 ≤ (if skipB s k3 ⟨#[44]⟩ then k3 + (⟨#[44]⟩ : ByteArray).size else k3) := by
          intro h
          cases hq : skipB s k3 ⟨#[44]⟩ with
          | true => rw [if_pos rfl]; exact Nat.le_refl _
          | false => rw [hq] at h; simp at h
        have hspec7 := step_want s ⟨#[44]⟩ k3 bad3 (fun k2 => innerP s f' k2 (xs ++ [.mk kk2 i2 l2 s2 t2 e2 xs2]))
        have hspn := HSPN.out
        rw [HSK.out] at hspn
        simp only [Bool.false_eq_true, if_false] at hspn
        rw [← hspn] at hspec7
        obtain ⟨k7, hk7⟩ : ∃ k7, (if skipB s k3 ⟨#[44]⟩ then k3 + (⟨#[44]⟩ : ByteArray).size else k3) = k7 := ⟨_, rfl⟩
        obtain ⟨bad7, hbad7⟩ : ∃ bad7, (!skipB s k3 ⟨#[44]⟩ || bad3) = bad7 := ⟨_, rfl⟩
        rw [hk7] at hc7 hbd7 hspec7 hon7
        rw [hbad7] at hc7 hspec7 hon7
        have hrel7 : InnerRel s N b 31 w k spec v' w7 := by
          refine ⟨k7, bad7, xs ++ [.mk kk2 i2 l2 s2 t2 e2 xs2], f', HOWN6.out.grownb hg7 (fun y hy e => by omega) hbw, hc7, grown_trans HG6.out hg7, ⟨hbd7.1, by have := HQ1.out; have := HR2.out; omega, by have := HNODES.out; omega⟩, fun h => ?_, hspec7⟩
          have h1 := hon7 h
          have := HNODES.out
          have := HFU.out
          have := HQ1.out
          have := HR1.out
          have := HNN.out
          exact ⟨by omega, by omega, by omega⟩
        have hmeas7 := measP_at hc7 s.size
        have hlt7 : measP s.size b w7 < measP s.size b wr := by
          rw [hmeas7, HMEAS.out]
          have := HQ1.out; have := HQ2.out; have := HR1.out
          cases bad7 with
          | true => simp; omega
          | false => have := hon7 rfl; simp; omega
        have HREL7 := Lib.hid hrel7; have HLT7 := Lib.hid hlt7
        clear hrel7 hmeas7 hlt7 hc7 hg7 hbd7 hon7 hspec7 hspn hk7 hbad7
        go_wp2
        go_roundw
        case rel => exact HREL7
        case measure => exact HLT7.out
end Go.Proofs.YtnlocdhhecockaaGreatDoor
