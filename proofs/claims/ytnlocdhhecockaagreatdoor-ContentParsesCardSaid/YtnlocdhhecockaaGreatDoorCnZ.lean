/-
  The walk of layer 7's reference: valid.
-/
import Derived.Test.YtnlocdhhecockaaGreatDoorCnX
import Derived.Test.YtnlocdhhecockaaGreatDoorCnM
import Derived.Test.YtnlocdhhecockaaGreatDoorCnN
import Derived.Deep.DeepCutAuto
set_option linter.unusedSimpArgs false
set_option linter.unusedVariables false
namespace Go.Proofs.YtnlocdhhecockaaGreatDoor
open Go.RowKit Go.Cold

set_option maxHeartbeats 16000000 in
set_option maxRecDepth 100000 in
theorem rvalid_all (N : Nat) : ∀ (a : Cont) (cs : List Value) (d : Nat) (w : World), szC a < N → CRd w w.heap.size a cs → d ≤ 100 → Calls Tryz.prog 34 #[.agg cs.toArray, .int .i64 d] w fun e' w' => e' = .returned (.bool (refB d a)) ∧ Below w.heap.size w w' := by
  induction N with
  | zero => intro a cs d w h; omega
  | succ N ih =>
    intro a cs d w hsz hrd hd
    obtain ⟨kk, i, l, s, t, e, xs⟩ := a
    obtain ⟨A, c, rfl, hok, hsl⟩ := CRd_iff.1 hrd
    clear hrd
    have hiz := hok.2.1; have hlz := hok.2.2.1
    have HIZ := Lib.hid hiz; have HLZ := Lib.hid hlz; clear hiz hlz
    have HOK := Lib.hid hok; clear hok
    have IH := Lib.hid ih; clear ih
    have hx1 := hsl.1; have hx2 := hsl.2.1
    unfold maxLen at hx2
    have HSl := Lib.hid hsl; clear hsl
    have HSZ := Lib.hid hsz; clear hsz
    simp only [contCells]
    obtain ⟨w0, hw0⟩ : ∃ w0, w.alloc (.cells #[.int .i64 kk, .string i, .string l, .int .i64 s, .int .i64 t, .int .i64 e, .slice A xs.length c] 31) = w0 := ⟨_, rfl⟩
    obtain ⟨hb0, hg0, hbox⟩ := box7 hw0
    obtain ⟨d0, d1, d2, d3, d4, d5, d6⟩ := hbox.zero
    go_enter Tryz.func34, Tryz.ntmps34
    go_wp2_with fail
    have HBOX := Lib.hid hbox
    clear hbox hw0 d0 d1 d2 d3 d4 d5 d6
    have hrefB : refB d (.mk kk i l s t e xs) = (refL d xs && ((decide (kk = 0) || decide (0 < d)) && ownB (.mk kk i l s t e xs))) := by rw [refB]
    have HREF := Lib.hid hrefB; clear hrefB
    generalize hgg : w.heap.size = g at *
    go_loopw [5] (fun i wr => ∃ k : Nat, k ≤ xs.length ∧ i = .int .i64 k ∧ Hid (refL d (xs.take k) = true) ∧ Below w0.heap.size w0 wr) (fun i _ => xs.length - (intOf i).toNat)
    case atStart => exact ⟨0, Nat.zero_le _, rfl, (by rw [List.take_zero, refL]; exact Lib.hid rfl), Below.refl _ _⟩
    case round =>
      obtain ⟨k, hk, rfl, HT, hb⟩ := hrel
      have hbw : Below g w wr := hb0.trans (hb.mono (by omega))
      obtain ⟨d0, d1, d2, d3, d4, d5, d6⟩ := (HBOX.out.keep hb (by omega)).zero
      by_cases hlt : k < xs.length
      · have hslr := HSl.out.next (by omega) (hgg ▸ hbw)
        obtain ⟨b3, o3, rfl, hb3, cs, hcs, hcells⟩ := hslr.cont hlt
        obtain ⟨x, hx⟩ : ∃ x, xs[k] = x := ⟨_, rfl⟩
        have hxm : x ∈ xs := hx ▸ List.getElem_mem hlt
        have htk : xs.take (k + 1) = xs.take k ++ [x] := by rw [← hx]; exact List.take_succ_eq_append_getElem hlt
        have hxk : xs[k]? = some x := by rw [← hx]; exact List.getElem?_eq_getElem hlt
        rw [hx] at hcs
        clear hslr
        have hszx := szC_mem (k := kk) (i := i) (l := l) (s := s) (t := t) (e := e) hxm
        have HTK := Lib.hid htk; have HXK := Lib.hid hxk; clear htk hxk hx hxm
        obtain ⟨kk2, i2, l2, s2, t2, e2, xs2⟩ := x
        obtain ⟨A2, c2, rfl, hok2, hsl2⟩ := CRd_iff.1 hcs
        obtain ⟨c0, c1, c2', c3, c4, c5, c6⟩ := cells7 hcells
        have i1 : (k : Int) < (xs.length : Int) := by omega
        rcases Nat.eq_zero_or_pos d with hd0 | hd0
        · have hd1 : (d : Int) ≤ 0 := by omega
          have HD0 := Lib.hid hd0; clear hd0
          go_wp2
          go_ret
          exact ⟨ret_bool (by rw [HREF.out, refL_bad HXK.out (by rw [HD0.out]; rfl)]; rfl), by first | exact hbw | (rw [hgg]; exact hbw)⟩
        · have hcall := IH.out (.mk kk2 i2 l2 s2 t2 e2 xs2) _ (d - 1) wr (by have := HSZ.out; omega) (CRd_more (by have := hbw.size; omega) _ _ hcs) (by omega)
          have HCALL := Lib.hid hcall; clear hcall hcells hcs hok2 hsl2 hszx
          have jq2 : ¬ (d : Int) ≤ 0 := by omega
          have jq3 : (d : Int) - 1 = ((d - 1 : Nat) : Int) := by omega
          have HD0 := Lib.hid hd0; clear hd0
          have JQ3 := Lib.hid jq3; clear jq3
          go_wp2_with fail
          rw [JQ3.out]
          refine HCALL.out.mono ?_
          rintro e' w3 ⟨rfl, hb3'⟩
          have hb5 : Below w0.heap.size w0 w3 := hb.trans (hb3'.mono hb.size)
          have hb6 : Below g w w3 := hb0.trans (hb5.mono (by omega))
          cases hq : refB (d - 1) (.mk kk2 i2 l2 s2 t2 e2 xs2) with
          | true =>
            have HQ := Lib.hid hq; clear hq
            clear c0 c1 c2' c3 c4 c5 c6 d0 d1 d2 d3 d4 d5 d6
            go_wp2
            go_roundw
            case rel =>
              have hnext : Hid (refL d (xs.take (k + 1)) = true) := Lib.hid (by
                rw [HTK.out, refL_app, HT.out, HQ.out]
                simp [HD0.out])
              first | exact ⟨k + 1, by omega, by go_num, hnext, hb5⟩ | (trace_state; (repeat apply Exists.intro); exact ⟨⟨k + 1, by omega, by go_num, hnext, hb5⟩, rfl⟩)
            case measure => simp [intOf]; omega
          | false =>
            have HQ := Lib.hid hq; clear hq
            clear c0 c1 c2' c3 c4 c5 c6 d0 d1 d2 d3 d4 d5 d6
            go_wp2
            go_ret
            exact ⟨ret_bool (by rw [HREF.out, refL_bad HXK.out (by rw [HQ.out]; simp)]; rfl), by first | exact hb6 | (rw [hgg]; exact hb6)⟩
      · have hkk : k = xs.length := by omega
        subst hkk
        rw [List.take_length] at HT
        have hz0 : ¬ (xs.length : Int) < (xs.length : Int) := by omega
        have hr2 : refB d (.mk kk i l s t e xs) = ((decide (kk = 0) || decide (0 < d)) && ownB (.mk kk i l s t e xs)) := by rw [HREF.out, HT.out]; rfl
        have HR2 := Lib.hid hr2; clear hr2 HREF HT
        go_upto_region 6 with fail
        go_cut [6] (fun cv wx => cv = .bool (slots2 s t) ∧ wx = wr)
        case first =>
          by_cases h1 : 1 ≤ t
          · by_cases h2 : t ≤ 16
            · by_cases h3 : 1 ≤ s
              · by_cases h4 : s ≤ t
                · go_wp2_with fail
                  go_meet
                  exact ⟨by simp [slots2, withinB, h1, h2, h3, h4] <;> omega, rfl⟩
                · go_wp2_with fail
                  go_meet
                  exact ⟨by simp [slots2, withinB, h1, h2, h3, h4] <;> omega, rfl⟩
              · go_wp2_with fail
                go_meet
                exact ⟨by simp [slots2, withinB, h1, h2, h3] <;> omega, rfl⟩
            · go_wp2_with fail
              go_meet
              exact ⟨by simp [slots2, withinB, h1, h2] <;> omega, rfl⟩
          · go_wp2_with fail
            go_meet
            exact ⟨by simp [slots2, withinB, h1] <;> omega, rfl⟩
        case rest =>
        obtain ⟨hc6, hc7⟩ := hcut
        subst hc7
        obtain rfl := hc6
        go_upto_region 7 with fail
        go_cut [7] (fun cv wx => cv = .bool (noneB s t e) ∧ wx = wc)
        case first =>
          by_cases h1 : t = 0
          · by_cases h2 : s = 0
            · by_cases h3 : e = 0
              · subst h1; subst h2; subst h3
                go_wp2_with fail
                go_meet
                exact ⟨by simp [noneB] <;> omega, rfl⟩
              · have e3 : (e == 0) = false := by simpa using h3
                subst h1; subst h2
                go_wp2_with fail
                go_meet
                exact ⟨by simp [noneB, h3] <;> omega, rfl⟩
            · have e2 : (s == 0) = false := by simpa using h2
              subst h1
              go_wp2_with fail
              go_meet
              exact ⟨by simp [noneB, h2] <;> omega, rfl⟩
          · have e1 : (t == 0) = false := by simpa using h1
            go_wp2_with fail
            go_meet
            exact ⟨by simp [noneB, h1] <;> omega, rfl⟩
        case rest =>
        obtain ⟨hc6, hc7⟩ := hcut
        subst hc7
        obtain rfl := hc6
        obtain ⟨z6, hz6⟩ : ∃ z, slots2 s t = z := ⟨_, rfl⟩
        obtain ⟨z7, hz7⟩ : ∃ z, noneB s t e = z := ⟨_, rfl⟩
        rw [hz6, hz7]
        have HZ6 := Lib.hid hz6; have HZ7 := Lib.hid hz7; clear hz6 hz7 hz0 hk
        obtain ⟨n, hn⟩ : ∃ n, xs.length = n := ⟨_, rfl⟩
        rw [hn] at d6 ⊢
        have HN := Lib.hid hn
        rw [hn] at hx1
        clear hn
        by_cases g0 : kk = 0
        · subst g0
          cases hi : i.toList.isEmpty with
          | true =>
            have hi1 : i.toList = [] := by simpa using hi
            have HIE := Lib.hid hi; have HIF := Lib.hid hi1
            cases hl : l.toList.isEmpty with
            | true =>
              have hl1 : l.toList = [] := by simpa using hl
              have HLE := Lib.hid hl; have HLF := Lib.hid hl1
              cases z7 with
              | true =>
                by_cases q0 : n = 0
                · have b0 : ((n : Int) == 0) = true := by simp [q0]
                  have Q0 := Lib.hid q0; clear q0
                  go_wp2
                  go_ret
                  exact ⟨ret_bool (by rw [HR2.out]; simp [ownB, HIF.out, HLF.out, HZ7.out, HN.out, Q0.out] <;> (intros; omega)), by first | assumption | (rw [hgg]; assumption)⟩
                · have b0 : ((n : Int) == 0) = false := by simp; omega
                  have Q0 := Lib.hid q0; clear q0
                  go_wp2
                  go_ret
                  exact ⟨ret_bool (by rw [HR2.out]; simp [ownB, HIF.out, HLF.out, HZ7.out, HN.out, Q0.out] <;> (intros; omega)), by first | assumption | (rw [hgg]; assumption)⟩
              | false =>
                go_wp2
                go_ret
                exact ⟨ret_bool (by rw [HR2.out]; simp [ownB, HIF.out, HLF.out, HZ7.out] <;> (intros; omega)), by first | assumption | (rw [hgg]; assumption)⟩
            | false =>
              have hl1 : ¬ l.toList = [] := by simpa using hl
              have HLE := Lib.hid hl; have HLF := Lib.hid hl1
              go_wp2
              go_ret
              exact ⟨ret_bool (by rw [HR2.out]; simp [ownB, HIF.out, HLF.out] <;> (intros; omega)), by first | assumption | (rw [hgg]; assumption)⟩
          | false =>
            have hi1 : ¬ i.toList = [] := by simpa using hi
            have HIE := Lib.hid hi; have HIF := Lib.hid hi1
            go_wp2
            go_ret
            exact ⟨ret_bool (by rw [HR2.out]; simp [ownB, HIF.out] <;> (intros; omega)), by first | assumption | (rw [hgg]; assumption)⟩
        have k0 : (kk == 0) = false := by simpa using g0
        have G0 := Lib.hid g0; clear g0
        rcases Nat.eq_zero_or_pos d with hd0 | hd0
        · have hd1 : (d : Int) ≤ 0 := by omega
          have HD0 := Lib.hid hd0; clear hd0
          go_wp2
          go_ret
          exact ⟨ret_bool (by rw [HR2.out]; simp [ownB, HD0.out, G0.out] <;> (intros; omega)), by first | assumption | (rw [hgg]; assumption)⟩
        have hd1 : ¬ (d : Int) ≤ 0 := by omega
        have HD0 := Lib.hid hd0; clear hd0
        go_wp2_with fail
        refine (RID_any i _ HIZ.out).mono ?_; rintro e' w' ⟨rfl, rfl⟩
        cases hid : idB i with
        | false =>
          have HI := Lib.hid hid; clear hid
          go_wp2
          go_ret
          exact ⟨ret_bool (by rw [HR2.out]; simp [ownB, HD0.out, G0.out, HI.out] <;> (intros; omega)), by first | assumption | (rw [hgg]; assumption)⟩
        | true =>
          have HI := Lib.hid hid; clear hid
          by_cases g1 : kk = 1
          · subst g1
            cases hl : l.toList.isEmpty with
            | true =>
              have hl1 : l.toList = [] := by simpa using hl
              have HLE := Lib.hid hl; have HLF := Lib.hid hl1
              cases z7 with
              | true =>
                by_cases q0 : n = 0
                · have b0 : ((n : Int) == 0) = true := by simp [q0]
                  have Q0 := Lib.hid q0; clear q0
                  go_wp2
                  go_ret
                  exact ⟨ret_bool (by rw [HR2.out]; simp [ownB, HD0.out, HI.out, HLF.out, HZ7.out, HN.out, Q0.out] <;> (intros; omega)), by first | assumption | (rw [hgg]; assumption)⟩
                · have b0 : ((n : Int) == 0) = false := by simp; omega
                  have Q0 := Lib.hid q0; clear q0
                  go_wp2
                  go_ret
                  exact ⟨ret_bool (by rw [HR2.out]; simp [ownB, HD0.out, HI.out, HLF.out, HZ7.out, HN.out, Q0.out] <;> (intros; omega)), by first | assumption | (rw [hgg]; assumption)⟩
              | false =>
                go_wp2
                go_ret
                exact ⟨ret_bool (by rw [HR2.out]; simp [ownB, HD0.out, HI.out, HLF.out, HZ7.out] <;> (intros; omega)), by first | assumption | (rw [hgg]; assumption)⟩
            | false =>
              have hl1 : ¬ l.toList = [] := by simpa using hl
              have HLE := Lib.hid hl; have HLF := Lib.hid hl1
              go_wp2_with fail
              refine (RID_any l _ HLZ.out).mono ?_; rintro e' w' ⟨rfl, rfl⟩
              cases hil : idB l with
              | true =>
                have HIL := Lib.hid hil; clear hil
                cases z7 with
                | true =>
                  by_cases q0 : n = 0
                  · have b0 : ((n : Int) == 0) = true := by simp [q0]
                    have Q0 := Lib.hid q0; clear q0
                    go_wp2
                    go_ret
                    exact ⟨ret_bool (by rw [HR2.out]; simp [ownB, HD0.out, HI.out, HLF.out, HIL.out, HZ7.out, HN.out, Q0.out] <;> (intros; omega)), by first | assumption | (rw [hgg]; assumption)⟩
                  · have b0 : ((n : Int) == 0) = false := by simp; omega
                    have Q0 := Lib.hid q0; clear q0
                    go_wp2
                    go_ret
                    exact ⟨ret_bool (by rw [HR2.out]; simp [ownB, HD0.out, HI.out, HLF.out, HIL.out, HZ7.out, HN.out, Q0.out] <;> (intros; omega)), by first | assumption | (rw [hgg]; assumption)⟩
                | false =>
                  go_wp2
                  go_ret
                  exact ⟨ret_bool (by rw [HR2.out]; simp [ownB, HD0.out, HI.out, HLF.out, HIL.out, HZ7.out] <;> (intros; omega)), by first | assumption | (rw [hgg]; assumption)⟩
              | false =>
                have HIL := Lib.hid hil; clear hil
                go_wp2
                go_ret
                exact ⟨ret_bool (by rw [HR2.out]; simp [ownB, HD0.out, HI.out, HLF.out, HIL.out] <;> (intros; omega)), by first | assumption | (rw [hgg]; assumption)⟩
          have k1 : (kk == 1) = false := by simpa using g1
          have G1 := Lib.hid g1; clear g1
          by_cases g2 : kk = 2
          · subst g2
            cases hl : l.toList.isEmpty with
            | true =>
              have hl1 : l.toList = [] := by simpa using hl
              have HLE := Lib.hid hl; have HLF := Lib.hid hl1
              cases z6 with
              | true =>
                by_cases re : 1 ≤ e
                · have RE3 := Lib.hid re
                  by_cases rt : e ≤ t
                  · have RT3 := Lib.hid rt
                    by_cases q1 : n = 1
                    · have b1 : ((n : Int) == 1) = true := by simp [q1]
                      have Q1 := Lib.hid q1; clear q1
                      go_wp2
                      go_ret
                      exact ⟨ret_bool (by rw [HR2.out]; simp [ownB, HD0.out, HI.out, HLF.out, HZ6.out, withinB, RE3.out, withinB, RT3.out, HN.out, Q1.out] <;> (intros; omega)), by first | assumption | (rw [hgg]; assumption)⟩
                    · have b1 : ((n : Int) == 1) = false := by simp; omega
                      have Q1 := Lib.hid q1; clear q1
                      go_wp2
                      go_ret
                      exact ⟨ret_bool (by rw [HR2.out]; simp [ownB, HD0.out, HI.out, HLF.out, HZ6.out, withinB, RE3.out, withinB, RT3.out, HN.out, Q1.out] <;> (intros; omega)), by first | assumption | (rw [hgg]; assumption)⟩
                  · have RT3 := Lib.hid rt
                    go_wp2
                    go_ret
                    exact ⟨ret_bool (by rw [HR2.out]; simp [ownB, HD0.out, HI.out, HLF.out, HZ6.out, withinB, RE3.out, withinB, RT3.out] <;> (intros; omega)), by first | assumption | (rw [hgg]; assumption)⟩
                · have RE3 := Lib.hid re
                  go_wp2
                  go_ret
                  exact ⟨ret_bool (by rw [HR2.out]; simp [ownB, HD0.out, HI.out, HLF.out, HZ6.out, withinB, RE3.out] <;> (intros; omega)), by first | assumption | (rw [hgg]; assumption)⟩
              | false =>
                go_wp2
                go_ret
                exact ⟨ret_bool (by rw [HR2.out]; simp [ownB, HD0.out, HI.out, HLF.out, HZ6.out] <;> (intros; omega)), by first | assumption | (rw [hgg]; assumption)⟩
            | false =>
              have hl1 : ¬ l.toList = [] := by simpa using hl
              have HLE := Lib.hid hl; have HLF := Lib.hid hl1
              go_wp2
              go_ret
              exact ⟨ret_bool (by rw [HR2.out]; simp [ownB, HD0.out, HI.out, HLF.out] <;> (intros; omega)), by first | assumption | (rw [hgg]; assumption)⟩
          have k2 : (kk == 2) = false := by simpa using g2
          have G2 := Lib.hid g2; clear g2
          by_cases g3 : kk = 3
          · subst g3
            cases hl : l.toList.isEmpty with
            | true =>
              have hl1 : l.toList = [] := by simpa using hl
              have HLE := Lib.hid hl; have HLF := Lib.hid hl1
              cases z7 with
              | true =>
                by_cases q1 : n = 1
                · have b1 : ((n : Int) == 1) = true := by simp [q1]
                  have Q1 := Lib.hid q1; clear q1
                  go_wp2
                  go_ret
                  exact ⟨ret_bool (by rw [HR2.out]; simp [ownB, HD0.out, HI.out, HLF.out, HZ7.out, HN.out, Q1.out] <;> (intros; omega)), by first | assumption | (rw [hgg]; assumption)⟩
                · have b1 : ((n : Int) == 1) = false := by simp; omega
                  have Q1 := Lib.hid q1; clear q1
                  go_wp2
                  go_ret
                  exact ⟨ret_bool (by rw [HR2.out]; simp [ownB, HD0.out, HI.out, HLF.out, HZ7.out, HN.out, Q1.out] <;> (intros; omega)), by first | assumption | (rw [hgg]; assumption)⟩
              | false =>
                go_wp2
                go_ret
                exact ⟨ret_bool (by rw [HR2.out]; simp [ownB, HD0.out, HI.out, HLF.out, HZ7.out] <;> (intros; omega)), by first | assumption | (rw [hgg]; assumption)⟩
            | false =>
              have hl1 : ¬ l.toList = [] := by simpa using hl
              have HLE := Lib.hid hl; have HLF := Lib.hid hl1
              go_wp2
              go_ret
              exact ⟨ret_bool (by rw [HR2.out]; simp [ownB, HD0.out, HI.out, HLF.out] <;> (intros; omega)), by first | assumption | (rw [hgg]; assumption)⟩
          have k3 : (kk == 3) = false := by simpa using g3
          have G3 := Lib.hid g3; clear g3
          by_cases g4 : kk = 4
          · subst g4
            cases hl : l.toList.isEmpty with
            | true =>
              have hl1 : l.toList = [] := by simpa using hl
              have HLE := Lib.hid hl; have HLF := Lib.hid hl1
              cases z6 with
              | true =>
                by_cases r0 : e = 0
                · have b0 : (e == 0) = true := by simpa using r0
                  have R0 := Lib.hid r0; clear r0
                  by_cases qg : 1 ≤ (n : Int)
                  · have qg2 : 0 < n := by omega
                    have QG3 := Lib.hid qg
                    by_cases ql : (n : Int) ≤ 16
                    · have ql2 : n ≤ 16 := by omega
                      have QL3 := Lib.hid ql
                      go_wp2
                      go_ret
                      exact ⟨ret_bool (by rw [HR2.out]; simp [ownB, HD0.out, HI.out, HLF.out, HZ6.out, R0.out, withinB, HN.out, QG3.out, withinB, HN.out, QL3.out] <;> (intros; omega)), by first | assumption | (rw [hgg]; assumption)⟩
                    · have ql2 : ¬ n ≤ 16 := by omega
                      have QL3 := Lib.hid ql
                      go_wp2
                      go_ret
                      exact ⟨ret_bool (by rw [HR2.out]; simp [ownB, HD0.out, HI.out, HLF.out, HZ6.out, R0.out, withinB, HN.out, QG3.out, withinB, HN.out, QL3.out] <;> (intros; omega)), by first | assumption | (rw [hgg]; assumption)⟩
                  · have qg2 : ¬ 0 < n := by omega
                    have QG3 := Lib.hid qg
                    go_wp2
                    go_ret
                    exact ⟨ret_bool (by rw [HR2.out]; simp [ownB, HD0.out, HI.out, HLF.out, HZ6.out, R0.out, withinB, HN.out, QG3.out] <;> (intros; omega)), by first | assumption | (rw [hgg]; assumption)⟩
                · have b0 : (e == 0) = false := by simpa using r0
                  have R0 := Lib.hid r0; clear r0
                  go_wp2
                  go_ret
                  exact ⟨ret_bool (by rw [HR2.out]; simp [ownB, HD0.out, HI.out, HLF.out, HZ6.out, R0.out] <;> (intros; omega)), by first | assumption | (rw [hgg]; assumption)⟩
              | false =>
                go_wp2
                go_ret
                exact ⟨ret_bool (by rw [HR2.out]; simp [ownB, HD0.out, HI.out, HLF.out, HZ6.out] <;> (intros; omega)), by first | assumption | (rw [hgg]; assumption)⟩
            | false =>
              have hl1 : ¬ l.toList = [] := by simpa using hl
              have HLE := Lib.hid hl; have HLF := Lib.hid hl1
              go_wp2
              go_ret
              exact ⟨ret_bool (by rw [HR2.out]; simp [ownB, HD0.out, HI.out, HLF.out] <;> (intros; omega)), by first | assumption | (rw [hgg]; assumption)⟩
          have k4 : (kk == 4) = false := by simpa using g4
          have G4 := Lib.hid g4; clear g4
          by_cases g5 : kk = 5
          · subst g5
            cases hl : l.toList.isEmpty with
            | true =>
              have hl1 : l.toList = [] := by simpa using hl
              have HLE := Lib.hid hl; have HLF := Lib.hid hl1
              cases z7 with
              | true =>
                by_cases qg : 1 ≤ (n : Int)
                · have qg2 : 0 < n := by omega
                  have QG3 := Lib.hid qg
                  by_cases ql : (n : Int) ≤ 16
                  · have ql2 : n ≤ 16 := by omega
                    have QL3 := Lib.hid ql
                    go_wp2
                    go_ret
                    exact ⟨ret_bool (by rw [HR2.out]; simp [ownB, HD0.out, HI.out, HLF.out, HZ7.out, withinB, HN.out, QG3.out, withinB, HN.out, QL3.out] <;> (intros; omega)), by first | assumption | (rw [hgg]; assumption)⟩
                  · have ql2 : ¬ n ≤ 16 := by omega
                    have QL3 := Lib.hid ql
                    go_wp2
                    go_ret
                    exact ⟨ret_bool (by rw [HR2.out]; simp [ownB, HD0.out, HI.out, HLF.out, HZ7.out, withinB, HN.out, QG3.out, withinB, HN.out, QL3.out] <;> (intros; omega)), by first | assumption | (rw [hgg]; assumption)⟩
                · have qg2 : ¬ 0 < n := by omega
                  have QG3 := Lib.hid qg
                  go_wp2
                  go_ret
                  exact ⟨ret_bool (by rw [HR2.out]; simp [ownB, HD0.out, HI.out, HLF.out, HZ7.out, withinB, HN.out, QG3.out] <;> (intros; omega)), by first | assumption | (rw [hgg]; assumption)⟩
              | false =>
                go_wp2
                go_ret
                exact ⟨ret_bool (by rw [HR2.out]; simp [ownB, HD0.out, HI.out, HLF.out, HZ7.out] <;> (intros; omega)), by first | assumption | (rw [hgg]; assumption)⟩
            | false =>
              have hl1 : ¬ l.toList = [] := by simpa using hl
              have HLE := Lib.hid hl; have HLF := Lib.hid hl1
              go_wp2
              go_ret
              exact ⟨ret_bool (by rw [HR2.out]; simp [ownB, HD0.out, HI.out, HLF.out] <;> (intros; omega)), by first | assumption | (rw [hgg]; assumption)⟩
          have k5 : (kk == 5) = false := by simpa using g5
          have G5 := Lib.hid g5; clear g5
          go_wp2
          go_ret
          exact ⟨ret_bool (by rw [HR2.out]; simp [ownB, HD0.out, HI.out, G0.out, G1.out, G2.out, G3.out, G4.out, G5.out] <;> (intros; omega)), by first | assumption | (rw [hgg]; assumption)⟩
theorem rvalid_any (a : Cont) (cs : List Value) (d : Nat) (w : World) (h : CRd w w.heap.size a cs) (hd : d ≤ 100) : Calls Tryz.prog 34 #[.agg cs.toArray, .int .i64 d] w fun e' w' => e' = .returned (.bool (refB d a)) ∧ Below w.heap.size w w' :=
  rvalid_all _ a cs d w (Nat.lt_succ_self _) h hd
end Go.Proofs.YtnlocdhhecockaaGreatDoor
