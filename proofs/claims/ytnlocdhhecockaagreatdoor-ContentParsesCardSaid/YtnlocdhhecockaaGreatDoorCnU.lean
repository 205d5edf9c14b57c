/-
  The walk of layer 7's text, at contents that are valid all through.
-/
import Derived.Test.YtnlocdhhecockaaGreatDoorCnX
import Derived.Test.YtnlocdhhecockaaGreatDoorCnN
import Derived.Test.YtnlocdhhecockaaGreatDoorCnT
import Derived.BigQuiet
set_option linter.unusedSimpArgs false
set_option linter.unusedVariables false
namespace Go.Cold
open Go Go.RowKit
theorem ownsRow_below {w w' : World} {base n : Nat} {e : TypeId} {v : Value} {l : List Value} (h : w.ownsRow base e 1 v n l) (hb : Below w.heap.size w w') : w'.ownsRow base e 1 v n l := by
  have hg : w.grownBy w' none := ⟨hb.os, hb.tape, hb.output, hb.size, fun k hk _ => hb.block k hk⟩
  exact h.kept hg (by
    cases hv : v.ownBlock with
    | none => exact .inl rfl
    | some k => exact .inr (by simp))
theorem numT_size {n : Nat} (h : n < 100) : (numT n).size ≤ 2 := by
  have : ∀ m : Fin 100, (numT m.val).size ≤ 2 := by decide +kernel
  exact this ⟨n, h⟩
theorem comma_len (xs : List ByteArray) : (commaB xs).size = (Lib.join (xs.map (·.data.toList)) [44]).length := by
  unfold commaB
  rw [show (⟨(Lib.join (xs.map (·.data.toList)) [44]).toArray⟩ : ByteArray).size = (Lib.join (xs.map (·.data.toList)) [44]).toArray.size from rfl]; simp
theorem join_size (xs : List ByteArray) : (commaB xs).size + 1 ≤ (xs.map (fun x => x.size + 1)).sum + 1 := by
  have h0 := comma_len xs
  rw [h0]
  cases xs with
  | nil => simp [Lib.join_nil]
  | cons x r =>
    rw [List.map_cons, Lib.join_cons, List.length_append, List.map_cons, List.sum_cons]
    have h1 : ∀ r : List ByteArray, (Lib.joinTail [44] (r.map (·.data.toList))).length = (r.map (fun x => x.size + 1)).sum := by
      intro r
      induction r with
      | nil => simp [Lib.joinTail]
      | cons y r ih =>
        unfold Lib.joinTail at ih ⊢
        rw [List.map_cons, List.map_cons, List.flatten_cons, List.length_append, List.map_cons, List.sum_cons, ← ih]
        simp
        try omega
    rw [h1]
    have : x.data.toList.length = x.size := ba_size x
    omega
theorem own_nums {k : Int} {i l : ByteArray} {s t e : Int} {xs : List Cont} (h : ownB (.mk k i l s t e xs) = true) :
    (k = 0 ∨ k = 1 ∨ k = 2 ∨ k = 3 ∨ k = 4 ∨ k = 5) ∧ i.size ≤ 16 ∧ l.size ≤ 16 ∧ (0 ≤ s ∧ s ≤ 16) ∧ (0 ≤ t ∧ t ≤ 16) ∧ (0 ≤ e ∧ e ≤ 16) := by
  have hid : ∀ z : ByteArray, idB z = true → z.size ≤ 16 := fun z hz => by
    unfold idB at hz; simp only [Bool.and_eq_true, decide_eq_true_eq] at hz; omega
  have hem : ∀ z : ByteArray, z.toList.isEmpty = true → z.size ≤ 16 := fun z hz => by
    rw [isEmpty_iff] at hz; subst hz; decide
  unfold ownB noneB slots2 withinB at h
  dsimp only at h
  by_cases h0 : k = 0
  · simp only [h0, if_true, Bool.and_eq_true, decide_eq_true_eq] at h
    exact ⟨.inl h0, hem _ h.1, hem _ h.2.1, by omega, by omega, by omega⟩
  rw [if_neg h0, Bool.and_eq_true] at h
  obtain ⟨hi, h⟩ := h
  have hi' := hid _ hi
  by_cases h1 : k = 1
  · simp only [h1, if_true, Bool.and_eq_true, decide_eq_true_eq, Bool.or_eq_true] at h
    exact ⟨by omega, hi', h.1.elim (hem _) (hid _), by omega, by omega, by omega⟩
  by_cases h2 : k = 2
  · simp [h2] at h
    exact ⟨by omega, hi', hem _ (by simpa using h.1), by omega, by omega, by omega⟩
  by_cases h3 : k = 3
  · simp [h3] at h
    exact ⟨by omega, hi', hem _ (by simpa using h.1), by omega, by omega, by omega⟩
  by_cases h4 : k = 4
  · simp [h4] at h
    exact ⟨by omega, hi', hem _ (by simpa using h.1), by omega, by omega, by omega⟩
  by_cases h5 : k = 5
  · simp [h5] at h
    exact ⟨by omega, hi', hem _ (by simpa using h.1), by omega, by omega, by omega⟩
  simp [h1, h2, h3, h4, h5] at h
theorem lit_size (a : Array UInt8) : (⟨a⟩ : ByteArray).size = a.size := rfl
theorem numT_int {z : Int} (h : 0 ≤ z ∧ z ≤ 16) : (numT z).size ≤ 2 := by
  obtain ⟨n, rfl⟩ := Int.eq_ofNat_of_zero_le h.1
  exact numT_size (by omega)
mutual
theorem text_size : ∀ c : Cont, AllOk c → (textC c).size + 1 ≤ 40 * nodesC c
  | .mk k i l s t e xs, h => by
    obtain ⟨h1, h2⟩ := AllOk_mk.1 h
    have h3 := text_sizeL xs h2
    obtain ⟨-, hi, hl, hs, ht, he⟩ := own_nums h1
    have hs := numT_int hs
    have ht := numT_int ht
    have he := numT_int he
    have lit : ∀ a : Array UInt8, (⟨a⟩ : ByteArray).size = a.size := fun _ => rfl
    rw [textC, nodesC]
    split
    · simp only [ByteArray.size_append, lit]; simp; omega
    split
    · simp only [ByteArray.size_append, lit]; simp; omega
    split
    · simp only [ByteArray.size_append, lit]; simp; omega
    split
    · simp only [ByteArray.size_append, lit]; simp; omega
    split
    · simp only [ByteArray.size_append, lit]; simp; omega
    · simp only [lit]; simp; omega
theorem text_sizeL : ∀ xs : List Cont, (∀ x ∈ xs, AllOk x) → (commaB (textL xs)).size ≤ 40 * nodesL xs
  | xs, h => by
    have h1 := join_size (textL xs)
    have h2 := text_sum xs h
    omega
theorem text_sum : ∀ xs : List Cont, (∀ x ∈ xs, AllOk x) → ((textL xs).map (fun x => x.size + 1)).sum ≤ 40 * nodesL xs
  | [], _ => by rw [textL, nodesL]; simp
  | x :: xs, h => by
    have h1 := text_size x (h x List.mem_cons_self)
    have h2 := text_sum xs (fun y hy => h y (List.mem_cons_of_mem _ hy))
    rw [textL, nodesL, List.map_cons, List.sum_cons]
    omega
end
theorem text_mem : ∀ {xs : List Cont} {t : ByteArray}, t ∈ textL xs → ∃ x ∈ xs, t = textC x
  | [], t, h => by rw [textL] at h; cases h
  | x :: xs, t, h => by
    rw [textL, List.mem_cons] at h
    rcases h with rfl | h
    · exact ⟨x, List.mem_cons_self, rfl⟩
    · obtain ⟨y, hy, rfl⟩ := text_mem h
      exact ⟨y, List.mem_cons_of_mem _ hy, rfl⟩
end Go.Cold
namespace Go.Proofs.YtnlocdhhecockaaGreatDoor
open Go.RowKit Go.Cold

theorem info_str : (Tryz.prog.info? 9).map (fun i => (i.zero, i.size, i.bytes)) = some (some (.string ByteArray.empty), 1, 16) := by kernel_rfl
theorem JoinComma_any (A : Option Addr) (c : Nat) (xs : List ByteArray) (w : World) (hx : Sl w w.heap.size A c xs) (hlen : (commaB xs).size ≤ 140737488355328) (hn : xs.length ≤ 140737488355328) :
    Calls Tryz.prog 21 #[.slice A xs.length c, .string ⟨#[44]⟩] w fun e w' => e = .returned (.string (commaB xs)) ∧ Below w.heap.size w w' := by
  rcases Nat.eq_zero_or_pos xs.length with h0 | h0
  · have hx0 : xs = [] := List.eq_nil_of_length_eq_zero h0
    subst hx0
    exact (Tryz.strings_Join_none A c ⟨#[44]⟩ w).mono fun e w' ⟨he, hw⟩ => ⟨he, by rw [hw]; exact Below.refl _ _⟩
  · obtain ⟨b, o, rfl, hb, h1⟩ := hx.strs h0
    exact Tryz.strings_Join b o c xs ⟨#[44]⟩ w h1 hb hn hx.1 (by rw [← comma_len]; exact hlen)
theorem itoa_small (n : Nat) (h : n < 100) (w : World) : Calls Tryz.prog 20 #[.int .i64 n] w fun e w' => e = .returned (.string (numT n)) ∧ w' = w := Tryz.strconv_Itoa_small n h w

set_option maxHeartbeats 8000000 in
set_option maxRecDepth 100000 in
theorem text_all (N : Nat) : ∀ (a : Cont) (cs : List Value) (w : World), szC a < N → CRd w w.heap.size a cs → AllOk a → nodesC a ≤ 2 ^ 40 → Calls Tryz.prog 19 #[.agg cs.toArray] w fun e' w' => e' = .returned (.string (textC a)) ∧ Below w.heap.size w w' := by
  induction N with
  | zero => intro a cs w h; omega
  | succ N ih =>
    intro a cs w hsz hrd hall hnod
    obtain ⟨kk, i, l, s, t, e, xs⟩ := a
    obtain ⟨A, c, rfl, hok, hsl⟩ := CRd_iff.1 hrd
    clear hrd hok
    obtain ⟨i0, hi0, hz0, hz1, hz2⟩ := info_parts info_str
    have HI0 := Lib.hid hi0; clear hi0
    have HZ0 := Lib.hid hz0; clear hz0
    have HZ1 := Lib.hid hz1; clear hz1
    have HZ2 := Lib.hid hz2; clear hz2
    have IH := Lib.hid ih; clear ih
    have hx1 := hsl.1; have hx2 := hsl.2.1
    unfold maxLen at hx2
    have HSl := Lib.hid hsl; clear hsl
    have HSZ := Lib.hid hsz; clear hsz
    have hnL : nodesL xs ≤ 2 ^ 40 := by rw [nodesC] at hnod; omega
    have HNOD := Lib.hid hnL; clear hnod hnL
    obtain ⟨hown, hin⟩ := AllOk_mk.1 hall
    have HALL := Lib.hid hin; clear hall hin
    obtain ⟨hkind, hisz, hlsz, hs0, ht0, he0⟩ := own_nums hown
    clear hown
    obtain ⟨s, rfl⟩ := Int.eq_ofNat_of_zero_le hs0.1
    obtain ⟨t, rfl⟩ := Int.eq_ofNat_of_zero_le ht0.1
    obtain ⟨e, rfl⟩ := Int.eq_ofNat_of_zero_le he0.1
    have HS0 := Lib.hid (show s < 100 by omega); have HT0 := Lib.hid (show t < 100 by omega); have HE0 := Lib.hid (show e < 100 by omega)
    have HIS := Lib.hid hisz; have HLS := Lib.hid hlsz
    clear hs0 ht0 he0 hisz hlsz
    simp only [contCells]
    obtain ⟨w0, hw0⟩ : ∃ w0, w.alloc (.cells #[.int .i64 kk, .string i, .string l, .int .i64 s, .int .i64 t, .int .i64 e, .slice A xs.length c] 31) = w0 := ⟨_, rfl⟩
    obtain ⟨hb0, hg0, hbox⟩ := box7 hw0
    obtain ⟨d0, d1, d2, d3, d4, d5, d6⟩ := hbox.zero
    go_enter Tryz.func19, Tryz.ntmps19
    go_wp2_with fail
    have HBOX := Lib.hid hbox
    have HKIND := Lib.hid hkind
    clear hkind hbox hw0 d0 d1 d2 d3 d4 d5 d6
    generalize hgg : w.heap.size = g at *
    go_loopw [3, 11] (fun v i wr => ∃ k : Nat, k ≤ xs.length ∧ i = .int .i64 k ∧ Hid (wr.ownsRow (g + 1) 9 1 v k ((textL (xs.take k)).map Value.string)) ∧ Below w0.heap.size w0 wr) (fun _ i _ => xs.length - (intOf i).toNat)
    case atStart => exact ⟨0, Nat.zero_le _, rfl, (by rw [List.take_zero, textL]; exact World.ownsRow_nil _ _ _ _), Below.refl _ _⟩
    case round =>
      obtain ⟨k, hk, rfl, HOwn, hb⟩ := hrel
      have hbw : Below g w wr := hb0.trans (hb.mono (by omega))
      by_cases hlt : k < xs.length
      · have hslr := HSl.out.next (by omega) (hgg ▸ hbw)
        obtain ⟨b3, o3, rfl, hb3, cs, hcs, hcells⟩ := hslr.cont hlt
        obtain ⟨x, hx⟩ : ∃ x, xs[k] = x := ⟨_, rfl⟩
        have hxm : x ∈ xs := hx ▸ List.getElem_mem hlt
        have htk : xs.take (k + 1) = xs.take k ++ [x] := by rw [← hx]; exact List.take_succ_eq_append_getElem hlt
        rw [hx] at hcs
        clear hslr
        have hszx := szC_mem (k := kk) (i := i) (l := l) (s := s) (t := t) (e := e) hxm
        have hnl : xs.length ≤ nodesL xs := nodesL_length xs
        have hnx : nodesC x ≤ 2 ^ 40 := by
          have h1 := nodesL_mem hxm
          have h2 := HNOD.out
          omega
        have hax := HALL.out x hxm
        have hkb : k + 1 ≤ 2 ^ 40 := by
          have h2 := HNOD.out
          omega
        obtain ⟨kk2, i2, l2, s2, t2, e2, xs2⟩ := x
        obtain ⟨A2, c2, rfl, hok2, hsl2⟩ := CRd_iff.1 hcs
        obtain ⟨c0, c1, c2', c3, c4, c5, c6⟩ := cells7 hcells
        have i1 : (k : Int) < (xs.length : Int) := by omega
        obtain ⟨w2, hw2⟩ : ∃ w2, wr.alloc (.cells #[.int .i64 kk2, .string i2, .string l2, .int .i64 s2, .int .i64 t2, .int .i64 e2, .slice A2 xs2.length c2] 31) = w2 := ⟨_, rfl⟩
        obtain ⟨hb2, hg2', hbox2⟩ := box7 hw2
        obtain ⟨f0, f1, f2, f3, f4, f5, f6⟩ := hbox2.zero
        have hcall := IH.out (.mk kk2 i2 l2 s2 t2 e2 xs2) _ w2 (by have := HSZ.out; omega) (CRd_more (by omega) _ _ (CRd_keep hb2 _ _ hcs)) hax hnx
        clear hcells hcs hok2 hsl2 hx hxm hszx hnx hnl hax
        have HCALL := Lib.hid hcall; clear hcall
        have HTK := Lib.hid htk; clear htk
        have HKB := Lib.hid hkb; clear hkb
        go_wp2_with fail
        refine HCALL.out.mono ?_
        rintro e' w3 ⟨rfl, hb3'⟩
        clear c0 c1 c2' c3 c4 c5 c6 f0 f1 f2 f3 f4 f5 f6 hw2 hbox2
        obtain ⟨T, hT⟩ : ∃ T, textC (.mk kk2 i2 l2 s2 t2 e2 xs2) = T := ⟨_, rfl⟩
        rw [hT]
        have HT := Lib.hid hT; clear hT
        have hbr3 : Below wr.heap.size wr w3 := hb2.trans (hb3'.mono (by omega))
        have HOwn3 := Lib.hid (ownsRow_below HOwn.out hbr3)
        go_wp2_with (at_builtin; go_must (refine wpList_append_own _ rfl _ _ 28 rfl (g + 1) 9 i0 (.string ByteArray.empty) 1 16 Tryz.underlying28 HI0.out HZ0.out HZ1.out HZ2.out rfl (by decide) _ _ _ rfl (HOwn3.out.alloc _) ⟨w3.heap.size, 0, none⟩ 1 1 [.string T] rfl rfl (cell_one_new _ _ _) (by intro u hu; simp at hu; subst hu; rfl) (by have := HKB.out; unfold maxLen; omega) (by have := HKB.out; omega) (by have := hb.size; have := hbr3.size; simp; omega) ?_); intro v' w5 hown' hgrow _)
        have hb5 : Below w0.heap.size w0 w5 := ((hb.trans (hbr3.mono hb.size)).alloc (by have := hb.size; have := hbr3.size; omega) _).grown hgrow (by have := hb.size; have := hbr3.size; simp; omega) (fun q hq => by have := (HOwn3.out.lt q hq).1; omega)
        have HOwn5 := Lib.hid hown'; clear hown' hgrow
        clear hb hbw hbr3 hb3' hb2
        go_wp2
        go_roundw
        case rel =>
          refine ⟨k + 1, by omega, by go_num, ?_, hb5⟩
          show Hid _
          refine Lib.hid ?_
          rw [HTK.out, textL_app, HT.out, List.map_append]
          exact HOwn5.out
        case measure => simp [intOf]; omega
      · have hkk : k = xs.length := by omega
        subst hkk
        rw [List.take_length] at HOwn
        have hown := HOwn.out
        rw [← textL_length xs] at hown
        have hts := text_sizeL xs HALL.out
        obtain ⟨A5, c5, rfl, hsl5⟩ := Sl.ofOwn hown (fun x hx => by
          obtain ⟨y, hy, rfl⟩ := text_mem hx
          have h1 := text_size y (HALL.out y hy)
          have h2 := nodesL_mem hy
          have h3 := HNOD.out
          unfold maxLen; omega)
        rw [textL_length]
        have hjoin := JoinComma_any A5 c5 (textL xs) wr hsl5 (by have := HNOD.out; omega) (by have := HNOD.out; have := nodesL_length xs; rw [textL_length]; omega)
        rw [textL_length] at hjoin
        obtain ⟨J, hJ⟩ : ∃ J, commaB (textL xs) = J := ⟨_, rfl⟩
        have hJs : J.size ≤ 2 ^ 60 := by have := HNOD.out; rw [← hJ]; omega
        have HJS := Lib.hid hJs; clear hJs
        rw [hJ] at hjoin
        have HJ := Lib.hid hJ; have HJOIN := Lib.hid hjoin; clear hJ hjoin hsl5 hown HOwn hts
        obtain ⟨d0, d1, d2, d3, d4, d5, d6⟩ := (HBOX.out.keep hb (by omega)).zero
        go_wp2_with fail
        refine HJOIN.out.mono ?_
        rintro e' w6 ⟨rfl, hb6⟩
        clear d0 d1 d2 d3 d4 d5 d6
        obtain ⟨d0, d1, d2, d3, d4, d5, d6⟩ := ((HBOX.out.keep hb (by omega)).keep hb6 (by have := hb.size; omega)).zero
        have hb06 : Below g w w6 := hbw.trans (hb6.mono (by have := hbw.size; omega))
        have HB06 := Lib.hid hb06; clear hb06 hb6 hbw
        have hgr : ∀ n, Below g w (w6.drewN n) := fun n => below_drewN HB06.out n
        have HGR := Lib.hid hgr; clear hgr
        have his := HIS.out; have hls := HLS.out; have hjs := HJS.out
        have n1 := numT_size HS0.out; have n2 := numT_size HT0.out; have n3 := numT_size HE0.out
        rcases HKIND.out with rfl | rfl | rfl | rfl | rfl | rfl
        · go_wp2
          go_ret
          refine ⟨ret_str ?_, by first | (rw [hgg]; exact HB06.out) | exact HB06.out | (rw [hgg]; exact HGR.out _) | exact HGR.out _⟩
          rw [textC, HJ.out]
          simp
        · go_wp2
          go_ret
          refine ⟨ret_str ?_, by first | (rw [hgg]; exact HB06.out) | exact HB06.out | (rw [hgg]; exact HGR.out _) | exact HGR.out _⟩
          rw [textC, HJ.out]
          simp
        · go_wp2_with fail
          go_quiet ((first | (go_at_call 20; first | exact quiet_same (itoa_small s HS0.out _) | exact quiet_same (itoa_small t HT0.out _) | exact quiet_same (itoa_small e HE0.out _)) | (rw [if_neg (by first | omega | (simp only [ByteArray.size_append, lit_size]; simp; omega))]; exact ⟨rfl, rfl⟩)))
          go_wp2
          go_ret
          refine ⟨ret_str ?_, by first | (rw [hgg]; exact HB06.out) | exact HB06.out | (rw [hgg]; exact HGR.out _) | exact HGR.out _⟩
          rw [textC, HJ.out]
          simp
        · go_wp2
          go_ret
          refine ⟨ret_str ?_, by first | (rw [hgg]; exact HB06.out) | exact HB06.out | (rw [hgg]; exact HGR.out _) | exact HGR.out _⟩
          rw [textC, HJ.out]
          simp
        · go_wp2_with fail
          go_quiet ((first | (go_at_call 20; first | exact quiet_same (itoa_small s HS0.out _) | exact quiet_same (itoa_small t HT0.out _) | exact quiet_same (itoa_small e HE0.out _)) | (rw [if_neg (by first | omega | (simp only [ByteArray.size_append, lit_size]; simp; omega))]; exact ⟨rfl, rfl⟩)))
          go_wp2
          go_ret
          refine ⟨ret_str ?_, by first | (rw [hgg]; exact HB06.out) | exact HB06.out | (rw [hgg]; exact HGR.out _) | exact HGR.out _⟩
          rw [textC, HJ.out]
          simp
        · go_wp2
          go_ret
          refine ⟨ret_str ?_, by first | (rw [hgg]; exact HB06.out) | exact HB06.out | (rw [hgg]; exact HGR.out _) | exact HGR.out _⟩
          rw [textC, HJ.out]
          simp
theorem text_any (a : Cont) (cs : List Value) (w : World) (h : CRd w w.heap.size a cs) (ha : AllOk a) (hn : nodesC a ≤ 2 ^ 40) : Calls Tryz.prog 19 #[.agg cs.toArray] w fun e' w' => e' = .returned (.string (textC a)) ∧ Below w.heap.size w w' :=
  text_all _ a cs w (Nat.lt_succ_self _) h ha hn
end Go.Proofs.YtnlocdhhecockaaGreatDoor
