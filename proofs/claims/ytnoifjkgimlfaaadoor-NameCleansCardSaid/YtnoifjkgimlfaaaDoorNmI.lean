/-
  The walk of the reference's Clean.
-/
import Derived.Test.YtnoifjkgimlfaaaDoorNmH
import Derived.Test.YtnoifjkgimlfaaaDoorNmS
namespace Go.Proofs.YtnoifjkgimlfaaaDoor
open Go.RowKit Go.Cold

def RCleanPost (s : ByteArray) (w : World) (e : Ending) (w' : World) : Prop := Below w.heap.size w w' ∧ e = .returned (match cleanR s with | some t => .tuple #[.string t, .bool true] | none => .tuple #[.string ⟨#[]⟩, .bool false])
theorem cleanR_dd {s : ByteArray} (h : (piecesL (s.data.toList.map cleanP)).any ddB = true) : cleanR s = none := by rw [cleanR, if_pos h]
theorem any_of {p : ByteArray → Bool} {xs : List ByteArray} {k : Nat} {x : ByteArray} (hx : xs[k]? = some x) (h : p x = true) : xs.any p = true :=
  List.any_eq_true.2 ⟨x, List.mem_of_getElem? hx, h⟩
theorem none_step {p : ByteArray → Bool} {xs : List ByteArray} {k : Nat} {x : ByteArray} (hx : xs[k]? = some x) (ha : (xs.take k).any p = false) (h : p x = false) : (xs.take (k + 1)).any p = false := by
  rw [List.take_add_one, hx, List.any_append, ha]; simp [h]

theorem IndexByte_at (t : ByteArray) (T : List UInt8) (hT : t.data.toList = T) (x : UInt8) (w : World) : Calls Tryd.prog 44 #[.string t, .int .u8 x.toNat] w fun e w' => e = .returned (.int .i64 (Lib.indexByte T x)) ∧ w' = w := by
  refine (Tryd.strings_IndexByte t x.toNat w).mono ?_
  rintro e w' ⟨rfl, rfl⟩
  rw [hT, show ((x.toNat : Int).toNat).toUInt8 = x by simp]
  exact ⟨rfl, rfl⟩

set_option maxRecDepth 100000 in
/-- The reference's Clean. -/
theorem RClean_any (s : ByteArray) (w : World) (hs : s.size ≤ 4096) (hok : Ok w) : Calls Tryd.prog 17 #[.string s] w (RCleanPost s w) := by
  have HOK := Lib.hid hok; clear hok
  obtain ⟨i0, hi0, hz0, hz1, hz2⟩ := info_parts info_str
  have HI0 := Lib.hid hi0; clear hi0
  have HZ0 := Lib.hid hz0; clear hz0
  have HZ1 := Lib.hid hz1; clear hz1
  have HZ2 := Lib.hid hz2; clear hz2
  go_enter Tryd.func17, Tryd.ntmps17
  go_wp2_with (with_reducible refine at_dst 11 ?_; go_must (refine wpList_conv_bytes rfl 9 52 5 _ rfl s rfl Tryd.underlying9 Tryd.underlying52 Tryd.underlying5 ?_); intro cap w3 hcap hrow hlt3 hb5)
  have HRow := Lib.hid hrow; clear hrow
  generalize hg : w.heap.size = g at *
  go_loopw [5] (fun i wr => ∃ k : Nat, k ≤ s.size ∧ i = .int .i64 k ∧ Hid (ByteRow wr g (cleanK s.data.toList k)) ∧ g < wr.heap.size ∧ Below g w wr) (fun i _ => s.size - (intOf i).toNat)
  case atStart => exact ⟨0, Nat.zero_le _, rfl, by rw [cleanK_zero]; exact HRow, hlt3, hb5⟩
  case round =>
    clear HRow hlt3 hb5
    obtain ⟨k, hk, rfl, HRow, hlt3, hb5⟩ := hrel
    by_cases hlt : k < s.size
    · obtain ⟨x, hx⟩ : ∃ x : UInt8, s[k]'hlt = x := ⟨_, rfl⟩
      have hxl : s.data.toList[k]? = some x := by rw [← hx]; exact Lib.data_getElem? s k hlt
      obtain ⟨hbc, hbf⟩ := HRow.out k x (cleanK_at hxl)
      have hkl : k < (cleanK s.data.toList k).length := by rw [cleanK_length _ _ (by rw [ba_size]; omega), ba_size]; exact hlt
      have HKL := Lib.hid hkl; clear hkl
      have HX := Lib.hid hxl; clear hxl hx
      have i1 : (k : Int) < (s.size : Int) := by omega
      by_cases h47 : x = 47
      · subst h47
        go_wp2_with fail
        go_roundw
        case rel => exact ⟨k + 1, by omega, by go_num, by rw [cleanK_same HX.out (by decide)]; exact HRow, hlt3, hb5⟩
        case measure => simp [intOf]; omega
      · have hx47 : ¬ (x.toNat : Int) = 47 := by
          intro e
          apply h47
          apply UInt8.toNat_inj.1
          simpa using (show x.toNat = 47 by omega)
        have hps := part_slash x
        have h47b : (x == 47) = false := by simpa using h47
        rw [h47b, Bool.or_false] at hps
        have HPS := Lib.hid hps; clear hps h47 h47b
        go_wp2_with fail
        refine (IndexByte_at _ partL rfl x _).mono ?_; rintro e w' ⟨rfl, rfl⟩
        have hin := Lib.contains_iff_indexByte partL x
        obtain ⟨z, hz⟩ : ∃ z, Lib.indexByte partL x = z := ⟨_, rfl⟩
        rw [hz] at hin ⊢
        have HIN := Lib.hid hin; clear hin hz
        by_cases hz0 : z < 0
        · have hc : (partL ++ [47]).contains x = false := by rw [HPS.out, HIN.out]; simp; omega
          have HC := Lib.hid hc; clear hc
          go_wp2
          go_roundw
          case rel =>
            refine ⟨k + 1, by omega, by go_num, ?_, by simpa using hlt3, hb5.setCell (by simp) _⟩
            rw [cleanK_succ HX.out, cleanP_bad HC.out]
            exact HRow.out.set_ HKL.out 95
          case measure => simp [intOf]; omega
        · have hc : (partL ++ [47]).contains x = true := by rw [HPS.out, HIN.out]; simp; omega
          have HC := Lib.hid hc; clear hc
          go_wp2
          go_roundw
          case rel => exact ⟨k + 1, by omega, by go_num, by rw [cleanK_same HX.out (cleanP_good HC.out)]; exact HRow, hlt3, hb5⟩
          case measure => simp [intOf]; omega
    · have hall : ByteRow wr g (s.data.toList.map cleanP) := by
        have := HRow.out
        rwa [cleanK_all _ (by rw [ba_size]; omega)] at this
      have HAll := Lib.hid hall; clear hall HRow
      go_wp2_with (with_reducible refine at_dst 35 ?_; go_must (refine wpList_conv_string rfl 52 9 5 _ rfl g cap s.size (s.data.toList.map cleanP) (by rw [List.length_map, ba_size]) rfl HAll.out Tryd.underlying52 Tryd.underlying5 Tryd.underlying9 ?_))
      clear hlt3 hcap
      subst hg
      refine (SplitSlash_any (toB (s.data.toList.map cleanP)) wr (by rw [toB_size, List.length_map, ba_size]; omega) (HOK.out.next hb5)).mono ?_
      rintro e w5 ⟨A, c, rfl, hsl, hb6⟩
      have hb7 := hb5.trans (hb6.mono hb5.size)
      rw [toB_data] at hsl ⊢
      have hlen : (piecesL (s.data.toList.map cleanP)).length ≤ s.size + 1 := by
        unfold piecesL
        rw [List.length_map]
        have := splitOn_count 47 (s.data.toList.map cleanP)
        rwa [List.length_map, ba_size] at this
      obtain ⟨xs, hxs⟩ : ∃ xs, piecesL (s.data.toList.map cleanP) = xs := ⟨_, rfl⟩
      rw [hxs] at hsl hlen ⊢
      have HXS := Lib.hid hxs; clear hxs
      have HSl := Lib.hid hsl; clear hsl HAll hb5 hb6
      go_wp2_with fail
      go_loopw [7, 8] (fun v i wr => ∃ k : Nat, k ≤ xs.length ∧ i = .int .i64 k ∧ wr.ownsRow w5.heap.size 9 1 v ((xs.take k).filter keepB).length (((xs.take k).filter keepB).map Value.string) ∧ Hid ((xs.take k).any ddB = false) ∧ Below w5.heap.size w5 wr) (fun _ i _ => xs.length - (intOf i).toNat)
      case atStart => exact ⟨0, Nat.zero_le _, rfl, World.ownsRow_nil _ _ _ _, rfl, Below.refl _ _⟩
      case round =>
        obtain ⟨k2, hk2, rfl, hown, HDD, hbr⟩ := hrel
        have HOwn := Lib.hid hown; clear hown
        by_cases hlt2 : k2 < xs.length
        · obtain ⟨b3, o3, rfl, hb3, cx, hsk⟩ := HSl.out.str hlt2
          have cx' := (hbr.cell (p := ⟨b3, o3 + k2, none⟩) hb3).trans cx
          have hxk : xs[k2]? = some xs[k2] := List.getElem?_eq_getElem hlt2
          obtain ⟨x, hx⟩ : ∃ x, xs[k2] = x := ⟨_, rfl⟩
          rw [hx] at cx' hsk hxk
          clear cx
          have HX := Lib.hid hxk; clear hxk hx
          have i1 : (k2 : Int) < (xs.length : Int) := by omega
          have hfl : ((xs.take k2).filter keepB).length ≤ k2 := Nat.le_trans (List.length_filter_le _ _) (List.length_take_le _ _)
          have HFL := Lib.hid hfl; clear hfl
          cases hkp : keepB x with
          | true =>
            have h1 : x.toList.isEmpty = false := by
              unfold keepB at hkp; simp only [Bool.and_eq_true] at hkp; simpa using hkp.1
            have h2 : (x.toList == [46]) = false := by
              unfold keepB at hkp; simp only [Bool.and_eq_true] at hkp; simpa using hkp.2
            have HKP := Lib.hid hkp; clear hkp
            cases hd : ddB x with
            | true =>
              have hany := any_of HX.out hd
              have HANY := Lib.hid hany; clear hany
              have h3 : (x.toList == [46, 46]) = true := hd
              clear hd
              go_wp2_with fail
              go_ret2
              exact ⟨hb7.trans (hbr.mono hb7.size), by rw [cleanR_dd (by rw [HXS.out]; exact HANY.out)]; rfl⟩
            | false =>
              have h3 : (x.toList == [46, 46]) = false := hd
              have HD := Lib.hid hd; clear hd
              go_wp2_with (at_builtin; go_must (refine wpList_append_own _ rfl _ _ 23 rfl w5.heap.size 9 i0 (.string ByteArray.empty) 1 16 Tryd.underlying23 HI0.out HZ0.out HZ1.out HZ2.out rfl (by decide) _ _ _ rfl (HOwn.out.alloc _) ⟨wr.heap.size, 0, none⟩ 1 1 [.string x] rfl rfl (cell_one_new _ _ _) (by intro u hu; simp at hu; subst hu; rfl) (by have := HFL.out; unfold maxLen; omega) (by have := HFL.out; omega) (by have := hbr.size; simp; omega) ?_); intro v' w1 hown' hgrow _)
              have hbr' : Below w5.heap.size w5 w1 := (hbr.alloc hbr.size _).grown hgrow (by have := hbr.size; simp; omega) (fun g' hg' => (HOwn.out.lt g' hg').1)
              have HOwn' := Lib.hid hown'; clear hown' hgrow cx' hbr
              go_wp2
              go_roundw
              case rel =>
                refine ⟨k2 + 1, by omega, by go_num, ?_, none_step HX.out HDD.out HD.out, hbr'⟩
                have e : (xs.take (k2 + 1)).filter keepB = (xs.take k2).filter keepB ++ [x] := by
                  rw [List.take_add_one, HX.out, List.filter_append]; simp [HKP.out]
                rw [e, List.length_append, List.map_append]
                exact HOwn'.out
              case measure => simp [intOf]; omega
          | false =>
            have hor : x.toList = [] ∨ ((x.toList.isEmpty) = false ∧ (x.toList == [46]) = true) := by
              unfold keepB at hkp
              cases h1 : x.toList.isEmpty with
              | true => left; simpa using h1
              | false =>
                right
                rw [h1] at hkp
                simpa using hkp
            have hd : ddB x = false := by
              unfold ddB
              rcases hor with h | ⟨_, h⟩
              · rw [h]; rfl
              · have h : x.toList = [46] := by simpa using h
                rw [h]; rfl
            have HD := Lib.hid hd; clear hd
            have HKP := Lib.hid hkp; clear hkp
            have hnext : (xs.take (k2 + 1)).filter keepB = (xs.take k2).filter keepB := by
              rw [List.take_add_one, HX.out, List.filter_append]; simp [HKP.out]
            have HNext := Lib.hid hnext; clear hnext
            rcases hor with h1 | ⟨h1, h2⟩
            · go_wp2
              go_roundw
              case rel => exact ⟨k2 + 1, by omega, by go_num, by rw [HNext.out]; exact HOwn.out, none_step HX.out HDD.out HD.out, hbr⟩
              case measure => simp [intOf]; omega
            · go_wp2
              go_roundw
              case rel => exact ⟨k2 + 1, by omega, by go_num, by rw [HNext.out]; exact HOwn.out, none_step HX.out HDD.out HD.out, hbr⟩
              case measure => simp [intOf]; omega
        · have hfs : fsOf s = xs.filter keepB := by rw [fsOf, HXS.out]
          have hown := HOwn.out
          rw [List.take_of_length_le (by omega), ← hfs] at hown
          have hdd := HDD.out
          rw [List.take_of_length_le (by omega), ← HXS.out] at hdd
          have HDA := Lib.hid hdd; clear hdd HDD
          obtain ⟨A2, c2, rfl, hsl2⟩ := Sl.ofOwn hown (fun x hx => by have := fsOf_sizes hx; unfold maxLen; omega)
          have hb8 := hb7.trans (hbr.mono hb7.size)
          have HSl2 := Lib.hid hsl2
          clear HSl HOwn hown hsl2 hfs hbr hb7
          go_wp2_with fail
          refine (JoinSlash_any A2 c2 (fsOf s) wr HSl2.out (by have := fsOf_join_size s; omega) (by have := fsOf_length s; omega)).mono ?_
          rintro e w6 ⟨rfl, hb9⟩
          have hb10 := hb8.trans (hb9.mono hb8.size)
          have hjs := fsOf_join_size s
          have hR : cleanR s = if (joinB (fsOf s)).toList.isEmpty || decide ((256 : Int) < (joinB (fsOf s)).size) then none else some (joinB (fsOf s)) := by
            rw [cleanR, HDA.out]; rfl
          obtain ⟨j, hj⟩ : ∃ j, joinB (fsOf s) = j := ⟨_, rfl⟩
          rw [hj] at hjs hR ⊢
          clear hj HSl2 hb8 hb9 HDA
          cases he : j.toList.isEmpty with
          | true =>
            rw [he, Bool.true_or, if_pos rfl] at hR
            have HR := Lib.hid hR; clear hR
            have he' : j.toList = [] := by simpa using he
            clear he
            go_wp2
            go_ret2
            exact ⟨hb10, by rw [HR.out]; rfl⟩
          | false =>
            rw [he, Bool.false_or] at hR
            by_cases h256 : (256 : Int) < j.size
            · rw [if_pos (by simpa using h256)] at hR
              have HR := Lib.hid hR; clear hR
              go_wp2
              go_ret2
              exact ⟨hb10, by rw [HR.out]; rfl⟩
            · rw [if_neg (by simpa using h256)] at hR
              have HR := Lib.hid hR; clear hR
              go_wp2
              go_ret2
              exact ⟨hb10, by rw [HR.out]; rfl⟩
end Go.Proofs.YtnoifjkgimlfaaaDoor
