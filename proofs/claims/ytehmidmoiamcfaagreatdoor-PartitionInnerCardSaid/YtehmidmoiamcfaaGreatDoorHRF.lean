/-
  The walks of coldplugmade: Contents and Device.
-/
import Derived.Test.YtehmidmoiamcfaaGreatDoorHSH
import Derived.Test.YtehmidmoiamcfaaGreatDoorHD
import Derived.Deep.DeepCutAuto
import Derived.StillTailTactics
import Derived.Test.YtehmidmoiamcfaaGreatDoorHSC
set_option linter.unusedSimpArgs false
set_option linter.unusedVariables false
namespace Go.Cold
open Go Go.RowKit
def contM : List ByteArray := [⟨#[]⟩, ⟨#[102, 115, 58, 102, 58]⟩, ⟨#[102, 115, 58, 103, 58, 76]⟩, ⟨#[114, 97, 105, 100, 58, 114, 58, 49, 47, 50, 47, 49, 40, 102, 115, 58, 102, 58, 41]⟩, ⟨#[114, 97, 105, 100, 58, 114, 58, 50, 47, 50, 47, 49, 40, 102, 115, 58, 102, 58, 41]⟩, ⟨#[99, 114, 121, 112, 116, 58, 99, 40, 102, 115, 58, 103, 58, 41]⟩, ⟨#[112, 118, 58, 118, 58, 49, 47, 49, 40, 102, 115, 58, 102, 58, 44, 99, 114, 121, 112, 116, 58, 99, 40, 102, 115, 58, 104, 58, 41, 41]⟩, ⟨#[116, 97, 98, 108, 101, 58, 116, 40, 102, 115, 58, 102, 58, 44, 99, 114, 121, 112, 116, 58, 99, 40, 114, 97, 105, 100, 58, 114, 58, 49, 47, 50, 47, 49, 40, 102, 115, 58, 120, 58, 41, 41, 41]⟩, ⟨#[116, 97, 98, 108, 101, 58, 116, 40, 114, 97, 105, 100, 58, 114, 58, 49, 47, 50, 47, 49, 40, 116, 97, 98, 108, 101, 58, 117, 40, 102, 115, 58, 102, 58, 41, 41, 44, 114, 97, 105, 100, 58, 114, 58, 50, 47, 50, 47, 49, 40, 116, 97, 98, 108, 101, 58, 117, 40, 102, 115, 58, 102, 58, 41, 41, 41]⟩, ⟨#[114, 97, 105, 100, 58, 114, 58, 49, 47, 49, 47, 49, 40, 114, 97, 105, 100, 58, 114, 58, 49, 47, 49, 47, 49, 40, 102, 115, 58, 102, 58, 41, 41]⟩, ⟨#[112, 118, 58, 118, 58, 49, 47, 50, 40, 102, 115, 58, 102, 58, 41]⟩, ⟨#[112, 118, 58, 118, 58, 50, 47, 50, 40, 102, 115, 58, 102, 58, 41]⟩, ⟨#[99, 114, 121, 112, 116, 58, 100, 40, 112, 118, 58, 118, 58, 49, 47, 49, 40, 114, 97, 105, 100, 58, 115, 58, 49, 47, 51, 47, 50, 40, 102, 115, 58, 121, 58, 41, 41, 41]⟩, ⟨#[114, 97, 105, 100, 58, 115, 58, 50, 47, 51, 47, 50, 40, 102, 115, 58, 121, 58, 41]⟩, ⟨#[114, 97, 105, 100, 58, 115, 58, 51, 47, 51, 47, 50, 40, 102, 115, 58, 121, 58, 41]⟩, ⟨#[110, 111, 110, 115, 101, 110, 115, 101]⟩]
theorem sls_one {w : World} {g : Nat} {n v : ByteArray} (h : BoxL w g [.string n, .string v]) (hn : n.size ≤ maxLen) (hv : v.size ≤ maxLen) : SlS w (fun x => x = g) (some ⟨g, 0, none⟩) 1 [(⟨n, v⟩ : Attr)] :=
 ⟨Nat.le_refl _, by unfold maxLen; omega, fun _ => ⟨g, 0, rfl, rfl, fun i x hx => by
  rcases i with _ | i
  ·
   simp at hx
   subst hx
   exact ⟨_, ⟨rfl, hn, hv⟩, fun j u hu => by rw [show 0 + (0 * Rep.size Attr + j) = j by omega]; exact h.1 j u hu⟩
  · simp at hx⟩⟩
end Go.Cold
namespace Go.Proofs.YtehmidmoiamcfaaGreatDoor
open Go.RowKit Go.Cold
theorem contM_cells : contM.map Value.string = [.string ⟨#[]⟩, .string ⟨#[102, 115, 58, 102, 58]⟩, .string ⟨#[102, 115, 58, 103, 58, 76]⟩, .string ⟨#[114, 97, 105, 100, 58, 114, 58, 49, 47, 50, 47, 49, 40, 102, 115, 58, 102, 58, 41]⟩, .string ⟨#[114, 97, 105, 100, 58, 114, 58, 50, 47, 50, 47, 49, 40, 102, 115, 58, 102, 58, 41]⟩, .string ⟨#[99, 114, 121, 112, 116, 58, 99, 40, 102, 115, 58, 103, 58, 41]⟩, .string ⟨#[112, 118, 58, 118, 58, 49, 47, 49, 40, 102, 115, 58, 102, 58, 44, 99, 114, 121, 112, 116, 58, 99, 40, 102, 115, 58, 104, 58, 41, 41]⟩, .string ⟨#[116, 97, 98, 108, 101, 58, 116, 40, 102, 115, 58, 102, 58, 44, 99, 114, 121, 112, 116, 58, 99, 40, 114, 97, 105, 100, 58, 114, 58, 49, 47, 50, 47, 49, 40, 102, 115, 58, 120, 58, 41, 41, 41]⟩, .string ⟨#[116, 97, 98, 108, 101, 58, 116, 40, 114, 97, 105, 100, 58, 114, 58, 49, 47, 50, 47, 49, 40, 116, 97, 98, 108, 101, 58, 117, 40, 102, 115, 58, 102, 58, 41, 41, 44, 114, 97, 105, 100, 58, 114, 58, 50, 47, 50, 47, 49, 40, 116, 97, 98, 108, 101, 58, 117, 40, 102, 115, 58, 102, 58, 41, 41, 41]⟩, .string ⟨#[114, 97, 105, 100, 58, 114, 58, 49, 47, 49, 47, 49, 40, 114, 97, 105, 100, 58, 114, 58, 49, 47, 49, 47, 49, 40, 102, 115, 58, 102, 58, 41, 41]⟩, .string ⟨#[112, 118, 58, 118, 58, 49, 47, 50, 40, 102, 115, 58, 102, 58, 41]⟩, .string ⟨#[112, 118, 58, 118, 58, 50, 47, 50, 40, 102, 115, 58, 102, 58, 41]⟩, .string ⟨#[99, 114, 121, 112, 116, 58, 100, 40, 112, 118, 58, 118, 58, 49, 47, 49, 40, 114, 97, 105, 100, 58, 115, 58, 49, 47, 51, 47, 50, 40, 102, 115, 58, 121, 58, 41, 41, 41]⟩, .string ⟨#[114, 97, 105, 100, 58, 115, 58, 50, 47, 51, 47, 50, 40, 102, 115, 58, 121, 58, 41]⟩, .string ⟨#[114, 97, 105, 100, 58, 115, 58, 51, 47, 51, 47, 50, 40, 102, 115, 58, 121, 58, 41]⟩, .string ⟨#[110, 111, 110, 115, 101, 110, 115, 101]⟩] := by kernel_rfl
theorem ContentsM_any (w : World) : Calls Tryz.prog 38 #[] w fun e w' => e = .returned (.slice (some ⟨w.heap.size, 0, none⟩) 16 16) ∧ Below w.heap.size w w' ∧ BoxL w' w.heap.size (contM.map Value.string) := by
 go_enter Tryz.func38, Tryz.ntmps38
 go_wp2
 go_ret
 refine ⟨rfl, (Below.refl _ _).alloc (Nat.le_refl _) _, ?_⟩
 rw [contM_cells]
 exact box_mk rfl
end Go.Proofs.YtehmidmoiamcfaaGreatDoor
namespace Go.Proofs.YtehmidmoiamcfaaGreatDoor
open Go.RowKit Go.Cold

set_option maxHeartbeats 8000000 in
set_option maxRecDepth 100000 in
theorem rtext_all (N : Nat) : ∀ (a : Cont) (cs : List Value) (w : World), szC a < N → CRd w w.heap.size a cs → AllOk a → nodesC a ≤ 2 ^ 40 → Calls Tryz.prog 47 #[.agg cs.toArray] w fun e' w' => e' = .returned (.string (textC a)) ∧ Below w.heap.size w w' := by
 induction N with
 | zero => intro a cs w h; omega
 | succ N ih =>
  intro a cs w hsz hrd hall hnod
  obtain ⟨kk, i, l, s, t, e, xs⟩ := a
  obtain ⟨A, c, rfl, hok, hsl⟩ := CRd_iff.1 hrd
  clear hrd hok
  obtain ⟨i0, hi0, hz0, hz1, hz2⟩ := info_parts info_str
  have HI0 := Lib.hid hi0; clear hi0
  have HZ0 := Lib.hid hz0; clear hz0
  have HZ1 := Lib.hid hz1; clear hz1
  have HZ2 := Lib.hid hz2; clear hz2
  have IH := Lib.hid ih; clear ih
  have hx1 := hsl.1; have hx2 := hsl.2.1
  unfold maxLen at hx2
  have HSl := Lib.hid hsl; clear hsl
  have HSZ := Lib.hid hsz; clear hsz
  have hnL : nodesL xs ≤ 2 ^ 40 := by rw [nodesC] at hnod; omega
  have HNOD := Lib.hid hnL; clear hnod hnL
  obtain ⟨hown, hin⟩ := AllOk_mk.1 hall
  have HALL := Lib.hid hin; clear hall hin
  obtain ⟨hkind, hisz, hlsz, hs0, ht0, he0⟩ := own_nums hown
  clear hown
  obtain ⟨s, rfl⟩ := Int.eq_ofNat_of_zero_le hs0.1
  obtain ⟨t, rfl⟩ := Int.eq_ofNat_of_zero_le ht0.1
  obtain ⟨e, rfl⟩ := Int.eq_ofNat_of_zero_le he0.1
  have HS0 := Lib.hid (show s < 100 by omega); have HT0 := Lib.hid (show t < 100 by omega); have HE0 := Lib.hid (show e < 100 by omega)
  have HIS := Lib.hid hisz; have HLS := Lib.hid hlsz
  clear hs0 ht0 he0 hisz hlsz
  simp only [contCells]
  obtain ⟨w0, hw0⟩ : ∃ w0, w.alloc (.cells #[.int .i64 kk, .string i, .string l, .int .i64 s, .int .i64 t, .int .i64 e, .slice A xs.length c] 36) = w0 := ⟨_, rfl⟩
  obtain ⟨hb0, hg0, hbox⟩ := box7 hw0
  obtain ⟨d0, d1, d2, d3, d4, d5, d6⟩ := hbox.zero
  have HBOX := Lib.hid hbox
  clear hbox
  have his := HIS.out; have hls := HLS.out
  have n1 := numT_size HS0.out; have n2 := numT_size HT0.out; have n3 := numT_size HE0.out
  have hbn : ∀ n, Below w0.heap.size w0 (w0.drewN n) := fun n => below_drewN_self w0 _ n
  have HBN := Lib.hid hbn; clear hbn
  rcases hkind with rfl | rfl | rfl | rfl | rfl | rfl
  ·
   go_enter Tryz.func47, Tryz.ntmps47
   go_wp2
   go_ret
   refine ⟨ret_str ?_, hb0⟩
   rw [textC]
   simp
  ·
   go_enter Tryz.func47, Tryz.ntmps47
   go_wp2
   go_ret
   refine ⟨ret_str ?_, hb0⟩
   rw [textC]
   simp
  ·
   go_enter Tryz.func47, Tryz.ntmps47
   go_wp2_with fail
   go_quiet ((first | (go_at_call 34; first | exact quiet_same (itoa_small s HS0.out _) | exact quiet_same (itoa_small t HT0.out _) | exact quiet_same (itoa_small e HE0.out _)) | (rw [if_neg (by first | omega | (simp only [ByteArray.size_append, lit_size]; simp; omega))]; exact ⟨rfl, rfl⟩)))
   go_wp2_with fail
   clear hw0 d0 d1 d2 d3 d4 d5 d6
   have hb0' : Below w.heap.size w (w0.drewN nq) := hb0.trans ((HBN.out nq).mono (by omega))
   have HBOX := Lib.hid (HBOX.out.keep (HBN.out nq) (by omega))
   have hg0 : (w0.drewN nq).heap.size = w.heap.size + 1 := hg0
   have hb0 := hb0'
   clear hb0' HBN
   obtain ⟨w0', hw0'⟩ : ∃ w0', w0.drewN nq = w0' := ⟨_, rfl⟩
   rw [hw0'] at hb0 HBOX hg0 ⊢
   clear hw0'
   generalize hgg : w.heap.size = g at *
   go_loopw [4, 5] (fun v i wr => ∃ k : Nat, k ≤ xs.length ∧ i = .int .i64 k ∧ Hid (wr.ownsRow (g + 1) 9 1 v k ((textL (xs.take k)).map Value.string)) ∧ Below w0'.heap.size w0' wr) (fun _ i _ => xs.length - (intOf i).toNat)
   case atStart => exact ⟨0, Nat.zero_le _, rfl, (by rw [List.take_zero, textL]; exact World.ownsRow_nil _ _ _ _), Below.refl _ _⟩
   case round =>
    obtain ⟨k, hk, rfl, HOwn, hb⟩ := hrel
    have hbw : Below g w wr := hb0.trans (hb.mono (by omega))
    obtain ⟨f0, f1, f2, f3, f4, f5, f6⟩ := (HBOX.out.keep hb (by omega)).zero
    by_cases hlt : k < xs.length
    ·
     have hslr := HSl.out.next (by omega) (hgg ▸ hbw)
     obtain ⟨b3, o3, rfl, hb3, cs, hcs, hcells⟩ := hslr.cont hlt
     obtain ⟨x, hx⟩ : ∃ x, xs[k] = x := ⟨_, rfl⟩
     have hxm : x ∈ xs := hx ▸ List.getElem_mem hlt
     have htk : xs.take (k + 1) = xs.take k ++ [x] := by rw [← hx]; exact List.take_succ_eq_append_getElem hlt
     rw [hx] at hcs
     clear hslr
     have hszx := szC_mem (k := 2) (i := i) (l := l) (s := s) (t := t) (e := e) hxm
     have hnl : xs.length ≤ nodesL xs := nodesL_length xs
     have hnx : nodesC x ≤ 2 ^ 40 := by
      have h1 := nodesL_mem hxm
      have h2 := HNOD.out
      omega
     have hax := HALL.out x hxm
     have hkb : k + 1 ≤ 2 ^ 40 := by
      have h2 := HNOD.out
      omega
     obtain ⟨kk2, i2, l2, s2, t2, e2, xs2⟩ := x
     obtain ⟨A2, c2, rfl, hok2, hsl2⟩ := CRd_iff.1 hcs
     obtain ⟨c0, c1, c2', c3, c4, c5, c6⟩ := cells7 hcells
     have i1 : (k : Int) < (xs.length : Int) := by omega
     have hcall := IH.out (.mk kk2 i2 l2 s2 t2 e2 xs2) _ wr (by have := HSZ.out; omega) (CRd_more (by have := hbw.size; omega) _ _ hcs) hax hnx
     clear hcells hcs hok2 hsl2 hx hxm hszx hnx hnl hax
     have HCALL := Lib.hid hcall; clear hcall
     have HTK := Lib.hid htk; clear htk
     have HKB := Lib.hid hkb; clear hkb
     go_wp2_with fail
     refine HCALL.out.mono ?_
     rintro e' w3 ⟨rfl, hb3'⟩
     clear c0 c1 c2' c3 c4 c5 c6 f0 f1 f2 f3 f4 f5 f6
     obtain ⟨T, hT⟩ : ∃ T, textC (.mk kk2 i2 l2 s2 t2 e2 xs2) = T := ⟨_, rfl⟩
     rw [hT]
     have HT := Lib.hid hT; clear hT
     have hbr3 : Below wr.heap.size wr w3 := hb3'
     have HOwn3 := Lib.hid (ownsRow_below HOwn.out hbr3)
     go_wp2_with (at_builtin; go_must (refine wpList_append_own _ rfl _ _ 72 rfl (g + 1) 9 i0 (.string ByteArray.empty) 1 16 Tryz.underlying72 HI0.out HZ0.out HZ1.out HZ2.out rfl (by decide) _ _ _ rfl (HOwn3.out.alloc _) ⟨w3.heap.size, 0, none⟩ 1 1 [.string T] rfl rfl (cell_one_new _ _ _) (by intro u hu; simp at hu; subst hu; rfl) (by have := HKB.out; unfold maxLen; omega) (by have := HKB.out; omega) (by have := hb.size; have := hbr3.size; simp; omega) ?_); intro v' w5 hown' hgrow _)
     have hb5 : Below w0'.heap.size w0' w5 := ((hb.trans (hbr3.mono hb.size)).alloc (by have := hb.size; have := hbr3.size; omega) _).grown hgrow (by have := hb.size; have := hbr3.size; simp; omega) (fun q hq => by have := (HOwn3.out.lt q hq).1; omega)
     have HOwn5 := Lib.hid hown'; clear hown' hgrow
     clear hb hbw hbr3 hb3'
     go_wp2
     go_roundw
     case rel =>
      refine ⟨k + 1, by omega, by go_num, ?_, hb5⟩
      show Hid _
      refine Lib.hid ?_
      rw [HTK.out, textL_app, HT.out, List.map_append]
      exact HOwn5.out
     case measure => simp [intOf]; omega
    ·
     have hkk : k = xs.length := by omega
     subst hkk
     rw [List.take_length] at HOwn
     have hown := HOwn.out
     rw [← textL_length xs] at hown
     have hts := text_sizeL xs HALL.out
     obtain ⟨A5, c5, rfl, hsl5⟩ := Sl.ofOwn hown (fun x hx => by
      obtain ⟨y, hy, rfl⟩ := text_mem hx
      have h1 := text_size y (HALL.out y hy)
      have h2 := nodesL_mem hy
      have h3 := HNOD.out
      unfold maxLen; omega)
     rw [textL_length]
     have hjoin := JoinComma_any A5 c5 (textL xs) wr hsl5 (by have := HNOD.out; omega) (by have := HNOD.out; have := nodesL_length xs; rw [textL_length]; omega)
     rw [textL_length] at hjoin
     obtain ⟨J, hJ⟩ : ∃ J, commaB (textL xs) = J := ⟨_, rfl⟩
     have hJs : J.size ≤ 2 ^ 60 := by have := HNOD.out; rw [← hJ]; omega
     have HJS := Lib.hid hJs; clear hJs
     rw [hJ] at hjoin
     have HJ := Lib.hid hJ; have HJOIN := Lib.hid hjoin; clear hJ hjoin hsl5 hown HOwn hts
     go_wp2_with fail
     refine HJOIN.out.mono ?_
     rintro e' w6 ⟨rfl, hb6⟩
     have hb06 : Below g w w6 := hbw.trans (hb6.mono (by have := hbw.size; omega))
     have HB06 := Lib.hid hb06; clear hb06 hb6 hbw f0 f1 f2 f3 f4 f5 f6
     have his := HIS.out; have hls := HLS.out; have hjs := HJS.out
     have n1 := numT_size HS0.out; have n2 := numT_size HT0.out; have n3 := numT_size HE0.out
     go_wp2
     go_ret
     refine ⟨ret_str ?_, by first | exact HB06.out | (rw [hgg]; exact HB06.out)⟩
     rw [textC, HJ.out]
     simp [ByteArray.append_assoc]
  ·
   go_enter Tryz.func47, Tryz.ntmps47
   go_wp2_with fail
   clear hw0 d0 d1 d2 d3 d4 d5 d6
   generalize hgg : w.heap.size = g at *
   go_loopw [4, 5] (fun v i wr => ∃ k : Nat, k ≤ xs.length ∧ i = .int .i64 k ∧ Hid (wr.ownsRow (g + 1) 9 1 v k ((textL (xs.take k)).map Value.string)) ∧ Below w0.heap.size w0 wr) (fun _ i _ => xs.length - (intOf i).toNat)
   case atStart => exact ⟨0, Nat.zero_le _, rfl, (by rw [List.take_zero, textL]; exact World.ownsRow_nil _ _ _ _), Below.refl _ _⟩
   case round =>
    obtain ⟨k, hk, rfl, HOwn, hb⟩ := hrel
    have hbw : Below g w wr := hb0.trans (hb.mono (by omega))
    obtain ⟨f0, f1, f2, f3, f4, f5, f6⟩ := (HBOX.out.keep hb (by omega)).zero
    by_cases hlt : k < xs.length
    ·
     have hslr := HSl.out.next (by omega) (hgg ▸ hbw)
     obtain ⟨b3, o3, rfl, hb3, cs, hcs, hcells⟩ := hslr.cont hlt
     obtain ⟨x, hx⟩ : ∃ x, xs[k] = x := ⟨_, rfl⟩
     have hxm : x ∈ xs := hx ▸ List.getElem_mem hlt
     have htk : xs.take (k + 1) = xs.take k ++ [x] := by rw [← hx]; exact List.take_succ_eq_append_getElem hlt
     rw [hx] at hcs
     clear hslr
     have hszx := szC_mem (k := 3) (i := i) (l := l) (s := s) (t := t) (e := e) hxm
     have hnl : xs.length ≤ nodesL xs := nodesL_length xs
     have hnx : nodesC x ≤ 2 ^ 40 := by
      have h1 := nodesL_mem hxm
      have h2 := HNOD.out
      omega
     have hax := HALL.out x hxm
     have hkb : k + 1 ≤ 2 ^ 40 := by
      have h2 := HNOD.out
      omega
     obtain ⟨kk2, i2, l2, s2, t2, e2, xs2⟩ := x
     obtain ⟨A2, c2, rfl, hok2, hsl2⟩ := CRd_iff.1 hcs
     obtain ⟨c0, c1, c2', c3, c4, c5, c6⟩ := cells7 hcells
     have i1 : (k : Int) < (xs.length : Int) := by omega
     have hcall := IH.out (.mk kk2 i2 l2 s2 t2 e2 xs2) _ wr (by have := HSZ.out; omega) (CRd_more (by have := hbw.size; omega) _ _ hcs) hax hnx
     clear hcells hcs hok2 hsl2 hx hxm hszx hnx hnl hax
     have HCALL := Lib.hid hcall; clear hcall
     have HTK := Lib.hid htk; clear htk
     have HKB := Lib.hid hkb; clear hkb
     go_wp2_with fail
     refine HCALL.out.mono ?_
     rintro e' w3 ⟨rfl, hb3'⟩
     clear c0 c1 c2' c3 c4 c5 c6 f0 f1 f2 f3 f4 f5 f6
     obtain ⟨T, hT⟩ : ∃ T, textC (.mk kk2 i2 l2 s2 t2 e2 xs2) = T := ⟨_, rfl⟩
     rw [hT]
     have HT := Lib.hid hT; clear hT
     have hbr3 : Below wr.heap.size wr w3 := hb3'
     have HOwn3 := Lib.hid (ownsRow_below HOwn.out hbr3)
     go_wp2_with (at_builtin; go_must (refine wpList_append_own _ rfl _ _ 72 rfl (g + 1) 9 i0 (.string ByteArray.empty) 1 16 Tryz.underlying72 HI0.out HZ0.out HZ1.out HZ2.out rfl (by decide) _ _ _ rfl (HOwn3.out.alloc _) ⟨w3.heap.size, 0, none⟩ 1 1 [.string T] rfl rfl (cell_one_new _ _ _) (by intro u hu; simp at hu; subst hu; rfl) (by have := HKB.out; unfold maxLen; omega) (by have := HKB.out; omega) (by have := hb.size; have := hbr3.size; simp; omega) ?_); intro v' w5 hown' hgrow _)
     have hb5 : Below w0.heap.size w0 w5 := ((hb.trans (hbr3.mono hb.size)).alloc (by have := hb.size; have := hbr3.size; omega) _).grown hgrow (by have := hb.size; have := hbr3.size; simp; omega) (fun q hq => by have := (HOwn3.out.lt q hq).1; omega)
     have HOwn5 := Lib.hid hown'; clear hown' hgrow
     clear hb hbw hbr3 hb3'
     go_wp2
     go_roundw
     case rel =>
      refine ⟨k + 1, by omega, by go_num, ?_, hb5⟩
      show Hid _
      refine Lib.hid ?_
      rw [HTK.out, textL_app, HT.out, List.map_append]
      exact HOwn5.out
     case measure => simp [intOf]; omega
    ·
     have hkk : k = xs.length := by omega
     subst hkk
     rw [List.take_length] at HOwn
     have hown := HOwn.out
     rw [← textL_length xs] at hown
     have hts := text_sizeL xs HALL.out
     obtain ⟨A5, c5, rfl, hsl5⟩ := Sl.ofOwn hown (fun x hx => by
      obtain ⟨y, hy, rfl⟩ := text_mem hx
      have h1 := text_size y (HALL.out y hy)
      have h2 := nodesL_mem hy
      have h3 := HNOD.out
      unfold maxLen; omega)
     rw [textL_length]
     have hjoin := JoinComma_any A5 c5 (textL xs) wr hsl5 (by have := HNOD.out; omega) (by have := HNOD.out; have := nodesL_length xs; rw [textL_length]; omega)
     rw [textL_length] at hjoin
     obtain ⟨J, hJ⟩ : ∃ J, commaB (textL xs) = J := ⟨_, rfl⟩
     have hJs : J.size ≤ 2 ^ 60 := by have := HNOD.out; rw [← hJ]; omega
     have HJS := Lib.hid hJs; clear hJs
     rw [hJ] at hjoin
     have HJ := Lib.hid hJ; have HJOIN := Lib.hid hjoin; clear hJ hjoin hsl5 hown HOwn hts
     go_wp2_with fail
     refine HJOIN.out.mono ?_
     rintro e' w6 ⟨rfl, hb6⟩
     have hb06 : Below g w w6 := hbw.trans (hb6.mono (by have := hbw.size; omega))
     have HB06 := Lib.hid hb06; clear hb06 hb6 hbw f0 f1 f2 f3 f4 f5 f6
     have his := HIS.out; have hls := HLS.out; have hjs := HJS.out
     have n1 := numT_size HS0.out; have n2 := numT_size HT0.out; have n3 := numT_size HE0.out
     go_wp2
     go_ret
     refine ⟨ret_str ?_, by first | exact HB06.out | (rw [hgg]; exact HB06.out)⟩
     rw [textC, HJ.out]
     simp [ByteArray.append_assoc]
  ·
   go_enter Tryz.func47, Tryz.ntmps47
   go_wp2_with fail
   go_quiet ((first | (go_at_call 34; first | exact quiet_same (itoa_small s HS0.out _) | exact quiet_same (itoa_small t HT0.out _) | exact quiet_same (itoa_small e HE0.out _)) | (rw [if_neg (by first | omega | (simp only [ByteArray.size_append, lit_size]; simp; omega))]; exact ⟨rfl, rfl⟩)))
   go_wp2_with fail
   clear hw0 d0 d1 d2 d3 d4 d5 d6
   have hb0' : Below w.heap.size w (w0.drewN nq) := hb0.trans ((HBN.out nq).mono (by omega))
   have HBOX := Lib.hid (HBOX.out.keep (HBN.out nq) (by omega))
   have hg0 : (w0.drewN nq).heap.size = w.heap.size + 1 := hg0
   have hb0 := hb0'
   clear hb0' HBN
   obtain ⟨w0', hw0'⟩ : ∃ w0', w0.drewN nq = w0' := ⟨_, rfl⟩
   rw [hw0'] at hb0 HBOX hg0 ⊢
   clear hw0'
   generalize hgg : w.heap.size = g at *
   go_loopw [4, 5] (fun v i wr => ∃ k : Nat, k ≤ xs.length ∧ i = .int .i64 k ∧ Hid (wr.ownsRow (g + 1) 9 1 v k ((textL (xs.take k)).map Value.string)) ∧ Below w0'.heap.size w0' wr) (fun _ i _ => xs.length - (intOf i).toNat)
   case atStart => exact ⟨0, Nat.zero_le _, rfl, (by rw [List.take_zero, textL]; exact World.ownsRow_nil _ _ _ _), Below.refl _ _⟩
   case round =>
    obtain ⟨k, hk, rfl, HOwn, hb⟩ := hrel
    have hbw : Below g w wr := hb0.trans (hb.mono (by omega))
    obtain ⟨f0, f1, f2, f3, f4, f5, f6⟩ := (HBOX.out.keep hb (by omega)).zero
    by_cases hlt : k < xs.length
    ·
     have hslr := HSl.out.next (by omega) (hgg ▸ hbw)
     obtain ⟨b3, o3, rfl, hb3, cs, hcs, hcells⟩ := hslr.cont hlt
     obtain ⟨x, hx⟩ : ∃ x, xs[k] = x := ⟨_, rfl⟩
     have hxm : x ∈ xs := hx ▸ List.getElem_mem hlt
     have htk : xs.take (k + 1) = xs.take k ++ [x] := by rw [← hx]; exact List.take_succ_eq_append_getElem hlt
     rw [hx] at hcs
     clear hslr
     have hszx := szC_mem (k := 4) (i := i) (l := l) (s := s) (t := t) (e := e) hxm
     have hnl : xs.length ≤ nodesL xs := nodesL_length xs
     have hnx : nodesC x ≤ 2 ^ 40 := by
      have h1 := nodesL_mem hxm
      have h2 := HNOD.out
      omega
     have hax := HALL.out x hxm
     have hkb : k + 1 ≤ 2 ^ 40 := by
      have h2 := HNOD.out
      omega
     obtain ⟨kk2, i2, l2, s2, t2, e2, xs2⟩ := x
     obtain ⟨A2, c2, rfl, hok2, hsl2⟩ := CRd_iff.1 hcs
     obtain ⟨c0, c1, c2', c3, c4, c5, c6⟩ := cells7 hcells
     have i1 : (k : Int) < (xs.length : Int) := by omega
     have hcall := IH.out (.mk kk2 i2 l2 s2 t2 e2 xs2) _ wr (by have := HSZ.out; omega) (CRd_more (by have := hbw.size; omega) _ _ hcs) hax hnx
     clear hcells hcs hok2 hsl2 hx hxm hszx hnx hnl hax
     have HCALL := Lib.hid hcall; clear hcall
     have HTK := Lib.hid htk; clear htk
     have HKB := Lib.hid hkb; clear hkb
     go_wp2_with fail
     refine HCALL.out.mono ?_
     rintro e' w3 ⟨rfl, hb3'⟩
     clear c0 c1 c2' c3 c4 c5 c6 f0 f1 f2 f3 f4 f5 f6
     obtain ⟨T, hT⟩ : ∃ T, textC (.mk kk2 i2 l2 s2 t2 e2 xs2) = T := ⟨_, rfl⟩
     rw [hT]
     have HT := Lib.hid hT; clear hT
     have hbr3 : Below wr.heap.size wr w3 := hb3'
     have HOwn3 := Lib.hid (ownsRow_below HOwn.out hbr3)
     go_wp2_with (at_builtin; go_must (refine wpList_append_own _ rfl _ _ 72 rfl (g + 1) 9 i0 (.string ByteArray.empty) 1 16 Tryz.underlying72 HI0.out HZ0.out HZ1.out HZ2.out rfl (by decide) _ _ _ rfl (HOwn3.out.alloc _) ⟨w3.heap.size, 0, none⟩ 1 1 [.string T] rfl rfl (cell_one_new _ _ _) (by intro u hu; simp at hu; subst hu; rfl) (by have := HKB.out; unfold maxLen; omega) (by have := HKB.out; omega) (by have := hb.size; have := hbr3.size; simp; omega) ?_); intro v' w5 hown' hgrow _)
     have hb5 : Below w0'.heap.size w0' w5 := ((hb.trans (hbr3.mono hb.size)).alloc (by have := hb.size; have := hbr3.size; omega) _).grown hgrow (by have := hb.size; have := hbr3.size; simp; omega) (fun q hq => by have := (HOwn3.out.lt q hq).1; omega)
     have HOwn5 := Lib.hid hown'; clear hown' hgrow
     clear hb hbw hbr3 hb3'
     go_wp2
     go_roundw
     case rel =>
      refine ⟨k + 1, by omega, by go_num, ?_, hb5⟩
      show Hid _
      refine Lib.hid ?_
      rw [HTK.out, textL_app, HT.out, List.map_append]
      exact HOwn5.out
     case measure => simp [intOf]; omega
    ·
     have hkk : k = xs.length := by omega
     subst hkk
     rw [List.take_length] at HOwn
     have hown := HOwn.out
     rw [← textL_length xs] at hown
     have hts := text_sizeL xs HALL.out
     obtain ⟨A5, c5, rfl, hsl5⟩ := Sl.ofOwn hown (fun x hx => by
      obtain ⟨y, hy, rfl⟩ := text_mem hx
      have h1 := text_size y (HALL.out y hy)
      have h2 := nodesL_mem hy
      have h3 := HNOD.out
      unfold maxLen; omega)
     rw [textL_length]
     have hjoin := JoinComma_any A5 c5 (textL xs) wr hsl5 (by have := HNOD.out; omega) (by have := HNOD.out; have := nodesL_length xs; rw [textL_length]; omega)
     rw [textL_length] at hjoin
     obtain ⟨J, hJ⟩ : ∃ J, commaB (textL xs) = J := ⟨_, rfl⟩
     have hJs : J.size ≤ 2 ^ 60 := by have := HNOD.out; rw [← hJ]; omega
     have HJS := Lib.hid hJs; clear hJs
     rw [hJ] at hjoin
     have HJ := Lib.hid hJ; have HJOIN := Lib.hid hjoin; clear hJ hjoin hsl5 hown HOwn hts
     go_wp2_with fail
     refine HJOIN.out.mono ?_
     rintro e' w6 ⟨rfl, hb6⟩
     have hb06 : Below g w w6 := hbw.trans (hb6.mono (by have := hbw.size; omega))
     have HB06 := Lib.hid hb06; clear hb06 hb6 hbw f0 f1 f2 f3 f4 f5 f6
     have his := HIS.out; have hls := HLS.out; have hjs := HJS.out
     have n1 := numT_size HS0.out; have n2 := numT_size HT0.out; have n3 := numT_size HE0.out
     go_wp2
     go_ret
     refine ⟨ret_str ?_, by first | exact HB06.out | (rw [hgg]; exact HB06.out)⟩
     rw [textC, HJ.out]
     simp [ByteArray.append_assoc]
  ·
   go_enter Tryz.func47, Tryz.ntmps47
   go_wp2_with fail
   clear hw0 d0 d1 d2 d3 d4 d5 d6
   generalize hgg : w.heap.size = g at *
   go_loopw [4, 5] (fun v i wr => ∃ k : Nat, k ≤ xs.length ∧ i = .int .i64 k ∧ Hid (wr.ownsRow (g + 1) 9 1 v k ((textL (xs.take k)).map Value.string)) ∧ Below w0.heap.size w0 wr) (fun _ i _ => xs.length - (intOf i).toNat)
   case atStart => exact ⟨0, Nat.zero_le _, rfl, (by rw [List.take_zero, textL]; exact World.ownsRow_nil _ _ _ _), Below.refl _ _⟩
   case round =>
    obtain ⟨k, hk, rfl, HOwn, hb⟩ := hrel
    have hbw : Below g w wr := hb0.trans (hb.mono (by omega))
    obtain ⟨f0, f1, f2, f3, f4, f5, f6⟩ := (HBOX.out.keep hb (by omega)).zero
    by_cases hlt : k < xs.length
    ·
     have hslr := HSl.out.next (by omega) (hgg ▸ hbw)
     obtain ⟨b3, o3, rfl, hb3, cs, hcs, hcells⟩ := hslr.cont hlt
     obtain ⟨x, hx⟩ : ∃ x, xs[k] = x := ⟨_, rfl⟩
     have hxm : x ∈ xs := hx ▸ List.getElem_mem hlt
     have htk : xs.take (k + 1) = xs.take k ++ [x] := by rw [← hx]; exact List.take_succ_eq_append_getElem hlt
     rw [hx] at hcs
     clear hslr
     have hszx := szC_mem (k := 5) (i := i) (l := l) (s := s) (t := t) (e := e) hxm
     have hnl : xs.length ≤ nodesL xs := nodesL_length xs
     have hnx : nodesC x ≤ 2 ^ 40 := by
      have h1 := nodesL_mem hxm
      have h2 := HNOD.out
      omega
     have hax := HALL.out x hxm
     have hkb : k + 1 ≤ 2 ^ 40 := by
      have h2 := HNOD.out
      omega
     obtain ⟨kk2, i2, l2, s2, t2, e2, xs2⟩ := x
     obtain ⟨A2, c2, rfl, hok2, hsl2⟩ := CRd_iff.1 hcs
     obtain ⟨c0, c1, c2', c3, c4, c5, c6⟩ := cells7 hcells
     have i1 : (k : Int) < (xs.length : Int) := by omega
     have hcall := IH.out (.mk kk2 i2 l2 s2 t2 e2 xs2) _ wr (by have := HSZ.out; omega) (CRd_more (by have := hbw.size; omega) _ _ hcs) hax hnx
     clear hcells hcs hok2 hsl2 hx hxm hszx hnx hnl hax
     have HCALL := Lib.hid hcall; clear hcall
     have HTK := Lib.hid htk; clear htk
     have HKB := Lib.hid hkb; clear hkb
     go_wp2_with fail
     refine HCALL.out.mono ?_
     rintro e' w3 ⟨rfl, hb3'⟩
     clear c0 c1 c2' c3 c4 c5 c6 f0 f1 f2 f3 f4 f5 f6
     obtain ⟨T, hT⟩ : ∃ T, textC (.mk kk2 i2 l2 s2 t2 e2 xs2) = T := ⟨_, rfl⟩
     rw [hT]
     have HT := Lib.hid hT; clear hT
     have hbr3 : Below wr.heap.size wr w3 := hb3'
     have HOwn3 := Lib.hid (ownsRow_below HOwn.out hbr3)
     go_wp2_with (at_builtin; go_must (refine wpList_append_own _ rfl _ _ 72 rfl (g + 1) 9 i0 (.string ByteArray.empty) 1 16 Tryz.underlying72 HI0.out HZ0.out HZ1.out HZ2.out rfl (by decide) _ _ _ rfl (HOwn3.out.alloc _) ⟨w3.heap.size, 0, none⟩ 1 1 [.string T] rfl rfl (cell_one_new _ _ _) (by intro u hu; simp at hu; subst hu; rfl) (by have := HKB.out; unfold maxLen; omega) (by have := HKB.out; omega) (by have := hb.size; have := hbr3.size; simp; omega) ?_); intro v' w5 hown' hgrow _)
     have hb5 : Below w0.heap.size w0 w5 := ((hb.trans (hbr3.mono hb.size)).alloc (by have := hb.size; have := hbr3.size; omega) _).grown hgrow (by have := hb.size; have := hbr3.size; simp; omega) (fun q hq => by have := (HOwn3.out.lt q hq).1; omega)
     have HOwn5 := Lib.hid hown'; clear hown' hgrow
     clear hb hbw hbr3 hb3'
     go_wp2
     go_roundw
     case rel =>
      refine ⟨k + 1, by omega, by go_num, ?_, hb5⟩
      show Hid _
      refine Lib.hid ?_
      rw [HTK.out, textL_app, HT.out, List.map_append]
      exact HOwn5.out
     case measure => simp [intOf]; omega
    ·
     have hkk : k = xs.length := by omega
     subst hkk
     rw [List.take_length] at HOwn
     have hown := HOwn.out
     rw [← textL_length xs] at hown
     have hts := text_sizeL xs HALL.out
     obtain ⟨A5, c5, rfl, hsl5⟩ := Sl.ofOwn hown (fun x hx => by
      obtain ⟨y, hy, rfl⟩ := text_mem hx
      have h1 := text_size y (HALL.out y hy)
      have h2 := nodesL_mem hy
      have h3 := HNOD.out
      unfold maxLen; omega)
     rw [textL_length]
     have hjoin := JoinComma_any A5 c5 (textL xs) wr hsl5 (by have := HNOD.out; omega) (by have := HNOD.out; have := nodesL_length xs; rw [textL_length]; omega)
     rw [textL_length] at hjoin
     obtain ⟨J, hJ⟩ : ∃ J, commaB (textL xs) = J := ⟨_, rfl⟩
     have hJs : J.size ≤ 2 ^ 60 := by have := HNOD.out; rw [← hJ]; omega
     have HJS := Lib.hid hJs; clear hJs
     rw [hJ] at hjoin
     have HJ := Lib.hid hJ; have HJOIN := Lib.hid hjoin; clear hJ hjoin hsl5 hown HOwn hts
     go_wp2_with fail
     refine HJOIN.out.mono ?_
     rintro e' w6 ⟨rfl, hb6⟩
     have hb06 : Below g w w6 := hbw.trans (hb6.mono (by have := hbw.size; omega))
     have HB06 := Lib.hid hb06; clear hb06 hb6 hbw f0 f1 f2 f3 f4 f5 f6
     have his := HIS.out; have hls := HLS.out; have hjs := HJS.out
     have n1 := numT_size HS0.out; have n2 := numT_size HT0.out; have n3 := numT_size HE0.out
     go_wp2
     go_ret
     refine ⟨ret_str ?_, by first | exact HB06.out | (rw [hgg]; exact HB06.out)⟩
     rw [textC, HJ.out]
     simp [ByteArray.append_assoc]
theorem rtext_any (a : Cont) (cs : List Value) (w : World) (h : CRd w w.heap.size a cs) (ha : AllOk a) (hn : nodesC a ≤ 2 ^ 40) : Calls Tryz.prog 47 #[.agg cs.toArray] w fun e' w' => e' = .returned (.string (textC a)) ∧ Below w.heap.size w w' :=
 rtext_all _ a cs w (Nat.lt_succ_self _) h ha hn
end Go.Proofs.YtehmidmoiamcfaaGreatDoor
