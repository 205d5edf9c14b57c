/-
  The walk of layer 7's Walk.
-/
import Derived.Test.YtnlocdhhecockaaGreatDoorCnE
import Derived.Deep.AppendLies
set_option linter.unusedSimpArgs false
set_option linter.unusedVariables false
namespace Go.Proofs.YtnlocdhhecockaaGreatDoor
open Go.RowKit Go.Cold

def WalkPost (a : Cont) (w : World) (e : Ending) (w' : World) : Prop := ∃ v, e = .returned v ∧ OwnsC (fun b => w.heap.size ≤ b) w' w.heap.size 31 v (walkC a) ∧ Below w.heap.size w w'

set_option maxRecDepth 100000 in
theorem Walk_all (N : Nat) : ∀ (a : Cont) (cs : List Value) (w : World), szC a < N → CRd w w.heap.size a cs → nodesC a ≤ 2 ^ 40 → Calls Tryz.prog 28 #[.agg cs.toArray] w (WalkPost a w) := by
  induction N with
  | zero => intro a cs w h; omega
  | succ N ih =>
    intro a cs w hsz hrd hnod
    obtain ⟨kk, i, l, s, t, e, xs⟩ := a
    obtain ⟨A, c, rfl, hok, hsl⟩ := CRd_iff.1 hrd
    clear hrd
    obtain ⟨i0, hi0, hz0, hz1, hz2⟩ := info_parts info_cont
    have HI0 := Lib.hid hi0; clear hi0
    have HZ0 := Lib.hid hz0; clear hz0
    have HZ1 := Lib.hid hz1; clear hz1
    have HZ2 := Lib.hid hz2; clear hz2
    have IH := Lib.hid ih; clear ih
    have hx1 := hsl.1; have hx2 := hsl.2.1
    unfold maxLen at hx2
    have HSl := Lib.hid hsl; clear hsl
    have HSZ := Lib.hid hsz; clear hsz
    have HNOD := Lib.hid hnod; clear hnod
    have HOK := Lib.hid hok; clear hok
    simp only [contCells]
    obtain ⟨w0, hw0⟩ : ∃ w0, w.alloc (.cells #[.int .i64 kk, .string i, .string l, .int .i64 s, .int .i64 t, .int .i64 e, .slice A xs.length c] 31) = w0 := ⟨_, rfl⟩
    obtain ⟨hb0, hg0, hbox⟩ := box7 hw0
    obtain ⟨d0, d1, d2, d3, d4, d5, d6⟩ := hbox.zero
    have hcopy := copied_any (.mk kk i l s t e xs) _ w0 (CRd_more (by omega) _ _ (CRd_keep hb0 _ _ (CRd_iff.2 ⟨A, c, rfl, HOK.out, HSl.out⟩))) HNOD.out
    have HCOPY := Lib.hid hcopy; clear hcopy
    go_enter Tryz.func28, Tryz.ntmps28
    go_wp2_with fail
    refine HCOPY.out.mono ?_
    rintro e' wa ⟨csa, rfl, hnew, hba⟩
    obtain ⟨Aa, ca, rfl⟩ := CRdS_cells hnew
    simp only [contCells]
    obtain ⟨w1, hw1⟩ : ∃ w1, wa.alloc (.cells #[.int .i64 kk, .string i, .string l, .int .i64 s, .int .i64 t, .int .i64 e, .slice Aa xs.length ca] 31) = w1 := ⟨_, rfl⟩
    obtain ⟨hb1, hg1, -⟩ := box7 hw1
    have hbx := (hbox.keep hba (by omega)).keep hb1 (by have := hba.size; omega)
    clear d0 d1 d2 d3 d4 d5 d6
    obtain ⟨d0, d1, d2, d3, d4, d5, d6⟩ := hbx.zero
    have hb01 : Below w.heap.size w w1 := (hb0.trans (hba.mono (by omega))).trans (hb1.mono (by have := hba.size; omega))
    have hown1 : OwnsC (fun b => w.heap.size ≤ b) w1 (w.heap.size + 1) 31 (.slice (some ⟨wa.heap.size, 0, none⟩) 1 1) [.mk kk i l s t e xs] := by
      refine ⟨[contCells kk i l s t e Aa xs.length ca], ?_, rfl, fun q x cs hx hcs => ?_⟩
      · have := World.ownsRow_lit (size := 7) (base := w.heap.size + 1) (e := 31) wa #[.int .i64 kk, .string i, .string l, .int .i64 s, .int .i64 t, .int .i64 e, .slice Aa xs.length ca] 1 (by have := hba.size; omega) (by simp [maxLen]) rfl
        rw [hw1] at this
        simpa [contCells] using this
      · have hq : q = 0 := by
          have := (List.getElem?_eq_some_iff.1 hx).1
          simp at this; exact this
        subst hq
        simp at hx hcs
        subst hx; subst hcs
        exact CRdS_mono (fun b ⟨h1, h2⟩ => ⟨by omega, by omega, fun h => by simp [Value.ownBlock] at h; omega⟩) (fun b o u ⟨_, h2⟩ hu => (hb1.cell (p := ⟨b, o, none⟩) (by exact h2)).trans hu) _ _ hnew
    go_wp2_with fail
    have HBOX := Lib.hid hbx
    have HOWN1 := Lib.hid hown1
    clear hbox hbx hw0 hw1 d0 d1 d2 d3 d4 d5 d6 hb0 hnew hown1
    have hga : w.heap.size + 1 ≤ wa.heap.size := by have := hba.size; omega
    clear hba
    generalize hgg : w.heap.size = g at *
    go_loopw [3, 12] (fun v q wr => ∃ k : Nat, k ≤ xs.length ∧ q = .int .i64 k ∧ Hid (OwnsC (fun b => g ≤ b) wr (g + 1) 31 v (.mk kk i l s t e xs :: walkL (xs.take k))) ∧ Below (g + 1) w1 wr) (fun _ i _ => xs.length - (intOf i).toNat)
    case atStart => exact ⟨0, Nat.zero_le _, rfl, by rw [List.take_zero, walkL]; exact HOWN1.out, Below.refl _ _⟩
    case round =>
      obtain ⟨k, hk, rfl, HOwn, hb⟩ := hrel
      have hbw : Below g w wr := hb01.trans (hb.mono (by omega))
      by_cases hlt : k < xs.length
      · have hslr := HSl.out.next (by omega) (hgg ▸ hbw)
        obtain ⟨b3, o3, rfl, hb3, cs, hcs, hcells⟩ := hslr.cont hlt
        obtain ⟨x, hx⟩ : ∃ x, xs[k] = x := ⟨_, rfl⟩
        have hxm : x ∈ xs := hx ▸ List.getElem_mem hlt
        have htk : xs.take (k + 1) = xs.take k ++ [x] := by rw [← hx]; exact List.take_succ_eq_append_getElem hlt
        rw [hx] at hcs
        clear hslr
        have hszx := szC_mem (k := kk) (i := i) (l := l) (s := s) (t := t) (e := e) hxm
        have hnx : nodesC x ≤ 2 ^ 40 := by
          have h1 := nodesL_mem hxm
          have h2 := HNOD.out
          rw [nodesC] at h2; omega
        have hwx := walkC_length x
        have hlen : (.mk kk i l s t e xs :: walkL (xs.take k) : List Cont).length = nodesL (xs.take k) + 1 := by rw [List.length_cons, walkL_length]
        have hkb : nodesL (xs.take k) + 1 + nodesC x ≤ 2 ^ 40 := by
          have h1 := nodesL_app x (xs.take k)
          rw [← htk] at h1
          have h3 := nodesL_take xs (k + 1)
          have h2 := HNOD.out
          rw [nodesC] at h2; omega
        have hpx := nodesC_pos x
        have hwk : walkL (xs.take (k + 1)) = walkL (xs.take k) ++ walkC x := by rw [htk, walkL_app]
        clear htk
        obtain ⟨kk2, i2, l2, s2, t2, e2, xs2⟩ := x
        obtain ⟨A2, c2, rfl, hok2, hsl2⟩ := CRd_iff.1 hcs
        obtain ⟨c0, c1, c2', c3, c4, c5, c6⟩ := cells7 hcells
        have i1 : (k : Int) < (xs.length : Int) := by omega
        obtain ⟨w2, hw2⟩ : ∃ w2, wr.alloc (.cells #[.int .i64 kk2, .string i2, .string l2, .int .i64 s2, .int .i64 t2, .int .i64 e2, .slice A2 xs2.length c2] 31) = w2 := ⟨_, rfl⟩
        obtain ⟨hb2, hg2', hbox2⟩ := box7 hw2
        obtain ⟨f0, f1, f2, f3, f4, f5, f6⟩ := hbox2.zero
        have hcall := IH.out (.mk kk2 i2 l2 s2 t2 e2 xs2) _ w2 (by have := HSZ.out; omega) (CRd_more (by omega) _ _ (CRd_keep hb2 _ _ hcs)) hnx
        clear hcells hcs hok2 hsl2 hx hxm hszx hnx
        have HCALL := Lib.hid hcall; clear hcall
        have HWK := Lib.hid hwk; clear hwk
        have HWX := Lib.hid hwx; clear hwx
        have HPX := Lib.hid hpx; clear hpx
        have HLEN := Lib.hid hlen; clear hlen
        have HKB := Lib.hid hkb; clear hkb
        go_wp2_with fail
        refine HCALL.out.mono ?_
        rintro e' w3 ⟨v3, rfl, hown3, hb3'⟩
        clear c0 c1 c2' c3 c4 c5 c6 f0 f1 f2 f3 f4 f5 f6 hw2 hbox2
        have hbr3 : Below wr.heap.size wr w3 := hb2.trans (hb3'.mono (by omega))
        obtain ⟨dss, p1, p2, p3⟩ := hown3
        rw [HWX.out] at p1
        have hform := p1.form HPX.out
        obtain ⟨g3, cap3, rfl, hg31, hg32⟩ := hform
        have hcells3 := p1.cells (g := g3) rfl
        have hplen := p1.1
        have hone : ∀ u ∈ dss.flatten, u.oneCell' = true := by
          intro u hu
          obtain ⟨ds, hds, hu'⟩ := List.mem_flatten.1 hu
          obtain ⟨q, hq, rfl⟩ := List.getElem_of_mem hds
          exact CRdS_one (p3 q (walkC (.mk kk2 i2 l2 s2 t2 e2 xs2))[q] dss[q] (List.getElem?_eq_getElem (by omega)) (List.getElem?_eq_getElem hq)) u hu'
        have hown4 := HOwn.out.below hbr3
        have hwl := HOwn.out.lt
        obtain ⟨css, o1, o2, o3'⟩ := hown4
        rw [HLEN.out] at o1
        have HO3 := Lib.hid o3'; clear o3'
        have HP3 := Lib.hid p3; clear p3
        have HONE := Lib.hid hone; clear hone
        have HC3 := Lib.hid hcells3; clear hcells3
        have HPL := Lib.hid hplen; clear hplen
        have HO1 := Lib.hid o1; clear o1
        obtain ⟨m3, hm3⟩ : ∃ m3, nodesC (.mk kk2 i2 l2 s2 t2 e2 xs2) = m3 := ⟨_, rfl⟩
        rw [hm3] at HPL HKB HWX HPX ⊢
        obtain ⟨n3, hn3⟩ : ∃ n3, nodesL (xs.take k) = n3 := ⟨_, rfl⟩
        rw [hn3] at HKB HLEN HO1
        clear p1
        go_wp2_with (at_builtin; go_must (refine wpList_append_own_at _ rfl _ _ 29 rfl (g + 1) 31 i0 _ 7 88 Tryz.underlying29 HI0.out HZ0.out HZ1.out HZ2.out rfl (by decide) _ _ _ rfl HO1.out ⟨g3, 0, none⟩ m3 cap3 _ rfl HPL.out HC3.out HONE.out (by have := HKB.out; unfold maxLen; omega) (by have := HKB.out; omega) (by have := hb.size; have := hb3'.size; omega) ?_); intro v' w5 hown' hgrow _ hat)
        have hnewb : ∀ b, v'.ownBlock = some b → u3.ownBlock = some b ∨ w3.heap.size ≤ b := fun b hb' => by
          rcases hat with h | h
          · exact .inl (h.symm.trans hb')
          · rw [hb'] at h; exact .inr (by have := Option.some.inj h; omega)
        have hOwn5 : OwnsC (fun b => g ≤ b) w5 (g + 1) 31 v' (.mk kk i l s t e xs :: walkL (xs.take (k + 1))) := by
          rw [HWK.out, ← List.cons_append]
          refine OwnsC.appL (w := w3) ?_ o2 HO3.out p2 (fun q y ds hy hds => ?_) ?_ hgrow hnewb
          · rw [HLEN.out]; exact HO1.out
          · exact CRdS_mono (fun b ⟨h1, h2, _⟩ => ⟨by have := hb.size; omega, h2, fun h => by have := (hwl b h).2; omega⟩) (fun _ _ _ _ hu => hu) y ds (HP3.out q y ds hy hds)
          · rw [HLEN.out, HWX.out]; exact hown'
        have hb5 : Below (g + 1) w1 w5 := (hb.trans (hbr3.mono (by have := hb.size; omega))).grown hgrow (by have := hbr3.size; have := hb.size; omega) (fun q hq => (hwl q hq).1)
        go_roundw
        case rel => exact ⟨k + 1, by omega, by go_num, hOwn5, hb5⟩
        case measure => simp [intOf]; omega
      · have hkk : k = xs.length := by omega
        subst hkk
        rw [List.take_length] at HOwn
        go_wp2
        go_ret
        exact ⟨_, rfl, by rw [hgg, walkC]; exact HOwn.out.base_ (by omega), by first | exact hbw | (rw [hgg]; exact hbw)⟩
theorem Walk_any (a : Cont) (cs : List Value) (w : World) (h : CRd w w.heap.size a cs) (hn : nodesC a ≤ 2 ^ 40) : Calls Tryz.prog 28 #[.agg cs.toArray] w (WalkPost a w) :=
  Walk_all _ a cs w (Nat.lt_succ_self _) h hn
end Go.Proofs.YtnlocdhhecockaaGreatDoor
