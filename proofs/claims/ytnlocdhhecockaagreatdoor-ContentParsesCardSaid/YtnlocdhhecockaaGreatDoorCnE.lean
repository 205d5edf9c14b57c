/-
  The walk of layer 7's copied.
-/
import Derived.Test.YtnlocdhhecockaaGreatDoorCnA
import Derived.Test.YtnlocdhhecockaaGreatDoorCnO
set_option linter.unusedSimpArgs false
set_option linter.unusedVariables false
namespace Go.Proofs.YtnlocdhhecockaaGreatDoor
open Go.RowKit Go.Cold

theorem info_cont : (Tryz.prog.info? 31).map (fun i => (i.zero, i.size, i.bytes)) = some (some (.agg #[.int .i64 0, .string ByteArray.empty, .string ByteArray.empty, .int .i64 0, .int .i64 0, .int .i64 0, .slice none 0 0]), 7, 88) := by kernel_rfl

theorem info_cont2 : (Tryz.prog.info? 31).map (fun i => (i.zero, i.size)) = some (some (.agg #[.int .i64 0, .string ByteArray.empty, .string ByteArray.empty, .int .i64 0, .int .i64 0, .int .i64 0, .slice none 0 0]), 7) := by kernel_rfl
theorem CRdS_cells {w : World} {S : Nat → Prop} {k : Int} {i l : ByteArray} {s t e : Int} {xs : List Cont} {cs : List Value} (h : CRdS w S (.mk k i l s t e xs) cs) : ∃ A c, cs = contCells k i l s t e A xs.length c := by
  rw [CRdS] at h
  obtain ⟨A, c, h, _⟩ := h
  exact ⟨A, c, h⟩

/-- A content that a call has made: it lies in new blocks. -/
def NewC (w w' : World) (a : Cont) (cs : List Value) : Prop := CRdS w' (fun b => w.heap.size ≤ b ∧ b < w'.heap.size) a cs
theorem NewC.crd {w w' : World} {a : Cont} {cs : List Value} (h : NewC w w' a cs) : CRd w' w'.heap.size a cs := CRdS_mono (fun _ h => h.2) (fun _ _ _ _ hu => hu) a cs h
def CopiedPost (a : Cont) (w : World) (e : Ending) (w' : World) : Prop := ∃ cs, e = .returned (.agg cs.toArray) ∧ NewC w w' a cs ∧ Below w.heap.size w w'

set_option maxRecDepth 100000 in
theorem copied_all (N : Nat) : ∀ (a : Cont) (cs : List Value) (w : World), szC a < N → CRd w w.heap.size a cs → nodesC a ≤ 2 ^ 40 → Calls Tryz.prog 43 #[.agg cs.toArray] w (CopiedPost a w) := by
  induction N with
  | zero => intro a cs w h; omega
  | succ N ih =>
    intro a cs w hsz hrd hnod
    obtain ⟨kk, i, l, s, t, e, xs⟩ := a
    obtain ⟨A, c, rfl, hok, hsl⟩ := CRd_iff.1 hrd
    clear hrd
    obtain ⟨i0, hi0, hz0, hz1, hz2⟩ := info_parts info_cont
    have hzv := (zero_of_info (P := Tryz.prog) (t := 31) info_cont2).1
    have HI0 := Lib.hid hi0; clear hi0
    have HZ0 := Lib.hid hz0; clear hz0
    have HZ1 := Lib.hid hz1; clear hz1
    have HZ2 := Lib.hid hz2; clear hz2
    have IH := Lib.hid ih; clear ih
    have hx1 := hsl.1; have hx2 := hsl.2.1
    unfold maxLen at hx2
    have HSl := Lib.hid hsl; clear hsl
    have HSZ := Lib.hid hsz; clear hsz
    have HNOD := Lib.hid hnod; clear hnod
    have HOK := Lib.hid hok; clear hok
    simp only [contCells]
    obtain ⟨w0, hw0⟩ : ∃ w0, w.alloc (.cells #[.int .i64 kk, .string i, .string l, .int .i64 s, .int .i64 t, .int .i64 e, .slice A xs.length c] 31) = w0 := ⟨_, rfl⟩
    obtain ⟨w1, hw1⟩ : ∃ w1, w0.alloc (.cells #[.int .i64 0, .string ByteArray.empty, .string ByteArray.empty, .int .i64 0, .int .i64 0, .int .i64 0, .slice none 0 0] 31) = w1 := ⟨_, rfl⟩
    obtain ⟨hb0, hg0, hbox⟩ := box7 hw0
    obtain ⟨hb1, hg1, hboxz⟩ := box7 hw1
    rw [hg0] at hboxz
    have hfr0 : ∀ j, w1.frozen? ⟨w.heap.size, j, none⟩ = false := fun j => (hb1.frozen (p := ⟨w.heap.size, j, none⟩) (by show w.heap.size < w0.heap.size; omega)).trans (box7f hw0 j)
    have hfr1 : ∀ j, w1.frozen? ⟨w.heap.size + 1, j, none⟩ = false := fun j => by have := box7f hw1 j; rwa [hg0] at this
    have HF0 := Lib.hid hfr0; have HF1 := Lib.hid hfr1; clear hfr0 hfr1
    have hbox' := hbox.keep hb1 (by omega)
    obtain ⟨d0, d1, d2, d3, d4, d5, d6⟩ := hbox'.zero
    have hb01 : Below w.heap.size w w1 := hb0.trans (hb1.mono (by omega))
    go_enter Tryz.func43, Tryz.ntmps43
    go_wp2_with fail
    have HBOX := Lib.hid hbox'; have HBOXZ := Lib.hid hboxz
    clear hbox' hbox hboxz hw0 hw1 d0 d1 d2 d3 d4 d5 d6 hb0 hb1
    generalize hgg : w.heap.size = g at *
    have hg2 : w1.heap.size = g + 2 := by omega
    clear hg1
    go_loopw [3, 9] (fun v i wr => ∃ k : Nat, k ≤ xs.length ∧ i = .int .i64 k ∧ Hid (OwnsC (fun b => g + 2 ≤ b) wr (g + 2) 31 v (xs.take k)) ∧ Below w1.heap.size w1 wr) (fun _ i _ => xs.length - (intOf i).toNat)
    case atStart => exact ⟨0, Nat.zero_le _, rfl, OwnsC.nil_ _ _ _ _, Below.refl _ _⟩
    case round =>
      obtain ⟨k, hk, rfl, HOwn, hb⟩ := hrel
      have hbw : Below g w wr := hb01.trans (hb.mono (by omega))
      by_cases hlt : k < xs.length
      · have hslr := HSl.out.next (by omega) (hgg ▸ hbw)
        obtain ⟨b3, o3, rfl, hb3, cs, hcs, hcells⟩ := hslr.cont hlt
        obtain ⟨x, hx⟩ : ∃ x, xs[k] = x := ⟨_, rfl⟩
        have hxm : x ∈ xs := hx ▸ List.getElem_mem hlt
        have htk : xs.take (k + 1) = xs.take k ++ [x] := by rw [← hx]; exact List.take_succ_eq_append_getElem hlt
        rw [hx] at hcs
        clear hslr
        have hszx := szC_mem (k := kk) (i := i) (l := l) (s := s) (t := t) (e := e) hxm
        have hlen : (xs.take k).length = k := by rw [List.length_take]; omega
        have hnl : xs.length ≤ nodesL xs := nodesL_length xs
        have hnx : nodesC x ≤ 2 ^ 40 := by
          have h1 := nodesL_mem hxm
          have h2 := HNOD.out
          rw [nodesC] at h2; omega
        have hkb : k + 1 ≤ 2 ^ 40 := by
          have h2 := HNOD.out
          rw [nodesC] at h2; omega
        obtain ⟨kk2, i2, l2, s2, t2, e2, xs2⟩ := x
        obtain ⟨A2, c2, rfl, hok2, hsl2⟩ := CRd_iff.1 hcs
        obtain ⟨c0, c1, c2', c3, c4, c5, c6⟩ := cells7 hcells
        have i1 : (k : Int) < (xs.length : Int) := by omega
        obtain ⟨w2, hw2⟩ : ∃ w2, wr.alloc (.cells #[.int .i64 kk2, .string i2, .string l2, .int .i64 s2, .int .i64 t2, .int .i64 e2, .slice A2 xs2.length c2] 31) = w2 := ⟨_, rfl⟩
        obtain ⟨hb2, hg2', hbox2⟩ := box7 hw2
        obtain ⟨f0, f1, f2, f3, f4, f5, f6⟩ := hbox2.zero
        have hcall := IH.out (.mk kk2 i2 l2 s2 t2 e2 xs2) _ w2 (by have := HSZ.out; omega) (CRd_more (by omega) _ _ (CRd_keep hb2 _ _ hcs)) hnx
        clear hcells hcs hok2 hsl2 hx hxm hszx hnx hnl
        have HCALL := Lib.hid hcall; clear hcall
        have HTK := Lib.hid htk; clear htk
        have HLEN := Lib.hid hlen; clear hlen
        have HKB := Lib.hid hkb; clear hkb
        go_wp2_with fail
        refine HCALL.out.mono ?_
        rintro e' w3 ⟨cs3, rfl, hnew, hb3'⟩
        obtain ⟨A3, c3', rfl⟩ := CRdS_cells hnew
        clear c0 c1 c2' c3 c4 c5 c6 f0 f1 f2 f3 f4 f5 f6 hw2 hbox2
        simp only [contCells]
        have HNEW := Lib.hid hnew; clear hnew
        obtain ⟨w4, hw4⟩ : ∃ w4, w3.alloc (.cells #[.int .i64 kk2, .string i2, .string l2, .int .i64 s2, .int .i64 t2, .int .i64 e2, .slice A3 xs2.length c3'] 31) = w4 := ⟨_, rfl⟩
        have hnews := cell7_new w3 31 kk2 i2 l2 s2 t2 e2 A3 xs2.length c3'
        obtain ⟨hb4, hg4, -⟩ := box7 hw4
        rw [hw4] at hnews
        have hbr4 : Below wr.heap.size wr w4 := (hb2.trans (hb3'.mono (by omega))).trans (hb4.mono (by have := hb3'.size; omega))
        have hown4 := HOwn.out.below hbr4
        have hwl := HOwn.out.lt
        obtain ⟨css, o1, o2, o3'⟩ := hown4
        rw [HLEN.out] at o1
        have HO3 := Lib.hid o3'; clear o3'
        have HNEWS := Lib.hid hnews; clear hnews
        go_wp2_with (at_builtin; go_must (refine wpList_append_own_at _ rfl _ _ 29 rfl (g + 2) 31 i0 _ 7 88 Tryz.underlying29 HI0.out HZ0.out HZ1.out HZ2.out rfl (by decide) _ _ _ rfl o1 ⟨w3.heap.size, 0, none⟩ 1 1 _ rfl rfl HNEWS.out (CRdS_one HNEW.out) (by have := HKB.out; unfold maxLen; omega) (by have := HKB.out; omega) (by have := hb.size; have := hb3'.size; omega) ?_); intro v' w5 hown' hgrow _ hat)
        have hnewb : ∀ b, v'.ownBlock = some b → u3.ownBlock = some b ∨ w4.heap.size ≤ b := fun b hb' => by
          rcases hat with h | h
          · exact .inl (h.symm.trans hb')
          · rw [hb'] at h; exact .inr (by have := Option.some.inj h; omega)
        have hx4 : CRdS w4 (fun b => g + 2 ≤ b ∧ b < w4.heap.size ∧ u3.ownBlock ≠ some b) (.mk kk2 i2 l2 s2 t2 e2 xs2) (contCells kk2 i2 l2 s2 t2 e2 A3 xs2.length c3') :=
          CRdS_mono (fun b ⟨h1, h2⟩ => ⟨by have := hb.size; omega, by omega, fun h => by have := (hwl b h).2; omega⟩) (fun b o u ⟨_, h2⟩ hu => (hb4.cell (p := ⟨b, o, none⟩) (by exact h2)).trans hu) _ _ HNEW.out
        have hOwn5 : OwnsC (fun b => g + 2 ≤ b) w5 (g + 2) 31 v' (xs.take (k + 1)) := by
          rw [HTK.out]
          refine OwnsC.app (w := w4) ?_ o2 HO3.out hx4 ?_ hgrow hnewb
          · rw [HLEN.out]; exact o1
          · rw [HLEN.out]; exact hown'
        have hb5 : Below w1.heap.size w1 w5 := (hb.trans (hbr4.mono hb.size)).grown hgrow (by have := hbr4.size; have := hb.size; omega) (fun q hq => by have := (hwl q hq).1; omega)
        go_roundw
        case rel => exact ⟨k + 1, by omega, by go_num, hOwn5, hb5⟩
        case measure => simp [intOf]; omega
      · have hkk : k = xs.length := by omega
        subst hkk
        rw [List.take_length] at HOwn
        obtain ⟨A5, c5, rfl, hc51, hc52, hc53⟩ := HOwn.out.cs
        obtain ⟨d0, d1, d2, d3, d4, d5, d6⟩ := (HBOX.out.keep hb (by omega)).zero
        obtain ⟨z0, z1, z2, z3, z4, z5, z6⟩ := (HBOXZ.out.keep hb (by omega)).zero
        have hfr0 : ∀ j, wr.frozen? ⟨g, j, none⟩ = false := fun j => (hb.frozen (p := ⟨g, j, none⟩) (by show g < w1.heap.size; omega)).trans (HF0.out j)
        have hfr1 : ∀ j, wr.frozen? ⟨g + 1, j, none⟩ = false := fun j => (hb.frozen (p := ⟨g + 1, j, none⟩) (by show g + 1 < w1.heap.size; omega)).trans (HF1.out j)
        clear d6
        have hbf : Below g w ((((((((wr.setCell ⟨g, 6, none⟩ (.slice A5 xs.length c5)).setCell ⟨g + 1, 0, none⟩ (.int .i64 kk)).setCell ⟨g + 1, 1, none⟩ (.string i)).setCell ⟨g + 1, 2, none⟩ (.string l)).setCell ⟨g + 1, 3, none⟩ (.int .i64 s)).setCell ⟨g + 1, 4, none⟩ (.int .i64 t)).setCell ⟨g + 1, 5, none⟩ (.int .i64 e)).setCell ⟨g + 1, 6, none⟩ (.slice A5 xs.length c5)) :=
          (((((((hbw.setCell (by simp) _).setCell (by simp) _).setCell (by simp) _).setCell (by simp) _).setCell (by simp) _).setCell (by simp) _).setCell (by simp) _).setCell (by simp) _
        have hcell : ∀ b o u, (g + 2 ≤ b ∧ b < wr.heap.size) → wr.cell? ⟨b, o, none⟩ = some u → ((((((((wr.setCell ⟨g, 6, none⟩ (.slice A5 xs.length c5)).setCell ⟨g + 1, 0, none⟩ (.int .i64 kk)).setCell ⟨g + 1, 1, none⟩ (.string i)).setCell ⟨g + 1, 2, none⟩ (.string l)).setCell ⟨g + 1, 3, none⟩ (.int .i64 s)).setCell ⟨g + 1, 4, none⟩ (.int .i64 t)).setCell ⟨g + 1, 5, none⟩ (.int .i64 e)).setCell ⟨g + 1, 6, none⟩ (.slice A5 xs.length c5)).cell? ⟨b, o, none⟩ = some u := by
          intro b o u hb' hu
          have n1 : g + 1 ≠ b := by omega
          have n0 : g ≠ b := by omega
          rw [cell_set_far _ _ _ _ _ n1, cell_set_far _ _ _ _ _ n1, cell_set_far _ _ _ _ _ n1, cell_set_far _ _ _ _ _ n1, cell_set_far _ _ _ _ _ n1, cell_set_far _ _ _ _ _ n1, cell_set_far _ _ _ _ _ n1, cell_set_far _ _ _ _ _ n0]
          exact hu
        have hsz : ((((((((wr.setCell ⟨g, 6, none⟩ (.slice A5 xs.length c5)).setCell ⟨g + 1, 0, none⟩ (.int .i64 kk)).setCell ⟨g + 1, 1, none⟩ (.string i)).setCell ⟨g + 1, 2, none⟩ (.string l)).setCell ⟨g + 1, 3, none⟩ (.int .i64 s)).setCell ⟨g + 1, 4, none⟩ (.int .i64 t)).setCell ⟨g + 1, 5, none⟩ (.int .i64 e)).setCell ⟨g + 1, 6, none⟩ (.slice A5 xs.length c5)).heap.size = wr.heap.size := by simp
        have d6 := (HBOX.out.keep hb (by omega)).zero.2.2.2.2.2.2
        have HBF := Lib.hid hbf; have HCELL := Lib.hid hcell; have HSZF := Lib.hid hsz
        clear hbf hcell hsz
        go_wp2
        refine bodyPost_ret (v := .agg #[.int .i64 kk, .string i, .string l, .int .i64 s, .int .i64 t, .int .i64 e, .slice A5 xs.length c5]) (by simp [results, Tryz.results43, go_sem, z0, z1, z2, z3, z4, z5, z6]) rfl ⟨contCells kk i l s t e A5 xs.length c5, rfl, ?_, by rw [hgg]; exact HBF.out⟩
        unfold NewC
        rw [CRdS, HSZF.out]
        refine ⟨A5, c5, rfl, HOK.out, hc51, hc52, fun hn => ?_⟩
        obtain ⟨b, o, hA, hbb, hcs⟩ := hc53 hn
        exact ⟨b, o, hA, ⟨by omega, hbb.2⟩, CsAtS_mono (fun b hb' => ⟨by have := hb'.1; omega, hb'.2⟩) (fun b o u hb' hu => HCELL.out b o u hb' hu) b ⟨hbb.1, hbb.2⟩ xs o hcs⟩
theorem copied_any (a : Cont) (cs : List Value) (w : World) (h : CRd w w.heap.size a cs) (hn : nodesC a ≤ 2 ^ 40) : Calls Tryz.prog 43 #[.agg cs.toArray] w (CopiedPost a w) :=
  copied_all _ a cs w (Nat.lt_succ_self _) h hn
end Go.Proofs.YtnlocdhhecockaaGreatDoor
