/-
  The walks of both Cleans.
-/
import Derived.Test.YtnoifjkgimlfaaaDoorNmG
import Derived.Test.YtnoifjkgimlfaaaDoorNmR
import Derived.Test.YtnoifjkgimlfaaaDoorOwn
namespace Go.Proofs.YtnoifjkgimlfaaaDoor
open Go.RowKit Go.Cold

theorem info_str : (Tryd.prog.info? 9).map (fun i => (i.zero, i.size, i.bytes)) = some (some (.string ByteArray.empty), 1, 16) := by kernel_rfl

def CleanPost (s : ByteArray) (w : World) (e : Ending) (w' : World) : Prop := Below w.heap.size w w' ∧ e = .returned (match cleanOf s with | some t => .tuple #[.string t, .bool true] | none => .tuple #[.string ⟨#[]⟩, .bool false])

set_option maxRecDepth 100000 in
/-- name.Clean. -/
theorem Clean_any (s : ByteArray) (w : World) (hs : s.size ≤ 4096) (hok : Ok w) : Calls Tryd.prog 16 #[.string s] w (CleanPost s w) := by
  obtain ⟨hz, hi⟩ := zero_of_info info_set
  rw [← Lib.setCells_nil] at hz
  have HI := Lib.hid hi; clear hi
  have HOK := Lib.hid hok; clear hok
  obtain ⟨i0, hi0, hz0, hz1, hz2⟩ := info_parts info_str
  have HI0 := Lib.hid hi0; clear hi0
  have HZ0 := Lib.hid hz0; clear hz0
  have HZ1 := Lib.hid hz1; clear hz1
  have HZ2 := Lib.hid hz2; clear hz2
  go_enter Tryd.func16, Tryd.ntmps16
  go_wp2_with fail
  refine (parts_any _).mono ?_; rintro e w1 ⟨rfl, hb1⟩
  go_wp2_with fail
  refine (plus_any _ _ _ (by decide)).mono ?_; rintro e w2 ⟨rfl, hb2⟩
  have hk0 : Blk (w2.alloc (Obj.cells (Lib.setCells []) 49)) w2.heap.size 49 (Lib.setCells []) := Blk.new _ _ _
  go_wp2_with (first
    | (with_reducible refine at_store 4 13 ?_; go_must (refine wpList_store_blk rfl 49 _ _ rfl w2.heap.size rfl (Lib.setCells (partL ++ [47])) rfl 49 _ hk0 (by rw [Lib.setCells_size]; exact HI.out) (by rw [Lib.setCells_size, Lib.setCells_size]) (Lib.setCells_one _) ?_))
    | (with_reducible refine at_dst 15 ?_; go_must (refine wpList_conv_bytes rfl 9 52 5 _ rfl s rfl Tryd.underlying9 Tryd.underlying52 Tryd.underlying5 ?_); intro cap w3 hcap hrow hlt3 hb3))
  have hb4 := hb1.trans (hb2.mono hb1.size)
  have hsz : ((w2.alloc (Obj.cells (Lib.setCells []) 49)).setRow w2.heap.size (Lib.setCells (partL ++ [47]))).heap.size = w2.heap.size + 1 := by simp
  have hk1 := (hk0.setRow_ (Lib.setCells (partL ++ [47]))).below hb3 (by rw [hsz]; omega)
  have hb5 : Below w.heap.size w w3 := by
    have h1 : Below w.heap.size w ((w2.alloc (Obj.cells (Lib.setCells []) 49)).setRow w2.heap.size (Lib.setCells (partL ++ [47]))) := below_setRow (hb4.alloc hb4.size _) hb4.size _
    exact h1.trans (hb3.mono h1.size)
  have hg : w.heap.size ≤ w2.heap.size := hb4.size
  rw [hsz] at hrow hlt3
  clear hb1 hb2 hb3 hb4 hk0 hsz
  have HRow := Lib.hid hrow; clear hrow
  have HK := Lib.hid hk1; clear hk1
  generalize w2.heap.size = g at *
  go_loopw [18] (fun i wr => ∃ k : Nat, k ≤ s.size ∧ i = .int .i64 k ∧ Hid (ByteRow wr (g + 1) (cleanK s.data.toList k)) ∧ Hid (Blk wr g 49 (Lib.setCells (partL ++ [47]))) ∧ g + 1 < wr.heap.size ∧ Below w.heap.size w wr) (fun i _ => s.size - (intOf i).toNat)
  case atStart => exact ⟨0, Nat.zero_le _, rfl, by rw [cleanK_zero]; exact HRow, HK, hlt3, hb5⟩
  case round =>
    clear HRow HK hlt3 hb5
    obtain ⟨k, hk, rfl, HRow, HK, hlt3, hb5⟩ := hrel
    by_cases hlt : k < s.size
    · obtain ⟨x, hx⟩ : ∃ x : UInt8, s[k]'hlt = x := ⟨_, rfl⟩
      have hxl : s.data.toList[k]? = some x := by rw [← hx]; exact Lib.data_getElem? s k hlt
      have hx256 : (x.toNat : Int) < 256 := by have := UInt8.toNat_lt x; omega
      have hcell := (HK.out.cell x.toNat).trans (Lib.setCells_at _ x)
      obtain ⟨hbc, hbf⟩ := HRow.out k x (cleanK_at hxl)
      have hkl : k < (cleanK s.data.toList k).length := by rw [cleanK_length _ _ (by rw [ba_size]; omega), ba_size]; exact hlt
      have HKL := Lib.hid hkl; clear hkl
      have HX := Lib.hid hxl; clear hxl hx
      have i1 : (k : Int) < (s.size : Int) := by omega
      obtain ⟨c, hc⟩ : ∃ c, (partL ++ [47]).contains x = c := ⟨_, rfl⟩
      rw [hc] at hcell
      have HC := Lib.hid hc; clear hc
      cases c with
      | true =>
        go_wp2
        go_roundw
        case rel => exact ⟨k + 1, by omega, by go_num, by rw [cleanK_same HX.out (cleanP_good HC.out)]; exact HRow, HK, hlt3, hb5⟩
        case measure => simp [intOf]; omega
      | false =>
        go_wp2
        go_roundw
        case rel =>
          refine ⟨k + 1, by omega, by go_num, ?_, HK.out.far (by simp) _, by simpa using hlt3, hb5.setCell (by simp; omega) _⟩
          rw [cleanK_succ HX.out, cleanP_bad HC.out]
          exact HRow.out.set_ HKL.out 95
        case measure => simp [intOf]; omega
    · have hall : ByteRow wr (g + 1) (s.data.toList.map cleanP) := by
        have := HRow.out
        rwa [cleanK_all _ (by rw [ba_size]; omega)] at this
      have HAll := Lib.hid hall; clear hall HRow HK
      go_wp2_with (with_reducible refine at_dst 32 ?_; go_must (refine wpList_conv_string rfl 52 9 5 _ rfl (g + 1) cap s.size (s.data.toList.map cleanP) (by rw [List.length_map, ba_size]) rfl HAll.out Tryd.underlying52 Tryd.underlying5 Tryd.underlying9 ?_))
      clear hlt3 hcap
      refine (SplitSlash_any (toB (s.data.toList.map cleanP)) wr (by rw [toB_size, List.length_map, ba_size]; omega) (HOK.out.next hb5)).mono ?_
      rintro e w5 ⟨A, c, rfl, hsl, hb6⟩
      have hb7 := hb5.trans (hb6.mono hb5.size)
      rw [toB_data] at hsl ⊢
      have hlen : (piecesL (s.data.toList.map cleanP)).length ≤ s.size + 1 := by
        unfold piecesL
        rw [List.length_map]
        have := splitOn_count 47 (s.data.toList.map cleanP)
        rwa [List.length_map, ba_size] at this
      obtain ⟨xs, hxs⟩ : ∃ xs, piecesL (s.data.toList.map cleanP) = xs := ⟨_, rfl⟩
      rw [hxs] at hsl hlen ⊢
      have HXS := Lib.hid hxs; clear hxs
      have HSl := Lib.hid hsl; clear hsl HAll hb5 hb6 hg
      go_wp2_with fail
      go_loopw [8, 35] (fun v i wr => ∃ k : Nat, k ≤ xs.length ∧ i = .int .i64 k ∧ wr.ownsRow w5.heap.size 9 1 v ((xs.take k).filter keepB).length (((xs.take k).filter keepB).map Value.string) ∧ Below w5.heap.size w5 wr) (fun _ i _ => xs.length - (intOf i).toNat)
      case atStart => exact ⟨0, Nat.zero_le _, rfl, World.ownsRow_nil _ _ _ _, Below.refl _ _⟩
      case round =>
        obtain ⟨k2, hk2, rfl, hown, hbr⟩ := hrel
        have HOwn := Lib.hid hown; clear hown
        by_cases hlt2 : k2 < xs.length
        · obtain ⟨b3, o3, rfl, hb3, cx, hsk⟩ := HSl.out.str hlt2
          have cx' := (hbr.cell (p := ⟨b3, o3 + k2, none⟩) hb3).trans cx
          have hxk : xs[k2]? = some xs[k2] := List.getElem?_eq_getElem hlt2
          obtain ⟨x, hx⟩ : ∃ x, xs[k2] = x := ⟨_, rfl⟩
          rw [hx] at cx' hsk hxk
          clear cx
          have HX := Lib.hid hxk; clear hxk hx
          have i1 : (k2 : Int) < (xs.length : Int) := by omega
          have hfl : ((xs.take k2).filter keepB).length ≤ k2 := Nat.le_trans (List.length_filter_le _ _) (List.length_take_le _ _)
          have HFL := Lib.hid hfl; clear hfl
          cases hkp : keepB x with
          | true =>
            have h1 : x.toList.isEmpty = false := by
              unfold keepB at hkp; simp only [Bool.and_eq_true] at hkp; simpa using hkp.1
            have h2 : (x.toList == [46]) = false := by
              unfold keepB at hkp; simp only [Bool.and_eq_true] at hkp; simpa using hkp.2
            have HKP := Lib.hid hkp; clear hkp
            go_wp2_with (at_builtin; go_must (refine wpList_append_own _ rfl _ _ 23 rfl w5.heap.size 9 i0 (.string ByteArray.empty) 1 16 Tryd.underlying23 HI0.out HZ0.out HZ1.out HZ2.out rfl (by decide) _ _ _ rfl (HOwn.out.alloc _) ⟨wr.heap.size, 0, none⟩ 1 1 [.string x] rfl rfl (cell_one_new _ _ _) (by intro u hu; simp at hu; subst hu; rfl) (by have := HFL.out; unfold maxLen; omega) (by have := HFL.out; omega) (by have := hbr.size; simp; omega) ?_); intro v' w1 hown' hgrow _)
            have hbr' : Below w5.heap.size w5 w1 := (hbr.alloc hbr.size _).grown hgrow (by have := hbr.size; simp; omega) (fun g' hg' => (HOwn.out.lt g' hg').1)
            have HOwn' := Lib.hid hown'; clear hown' hgrow cx' hbr
            go_wp2
            go_roundw
            case rel =>
              refine ⟨k2 + 1, by omega, by go_num, ?_, hbr'⟩
              have e : (xs.take (k2 + 1)).filter keepB = (xs.take k2).filter keepB ++ [x] := by
                rw [List.take_add_one, HX.out, List.filter_append]; simp [HKP.out]
              rw [e, List.length_append, List.map_append]
              exact HOwn'.out
            case measure => simp [intOf]; omega
          | false =>
            have hor : x.toList = [] ∨ ((x.toList.isEmpty) = false ∧ (x.toList == [46]) = true) := by
              unfold keepB at hkp
              cases h1 : x.toList.isEmpty with
              | true => left; simpa using h1
              | false =>
                right
                rw [h1] at hkp
                simpa using hkp
            have HKP := Lib.hid hkp; clear hkp
            have hnext : (xs.take (k2 + 1)).filter keepB = (xs.take k2).filter keepB := by
              rw [List.take_add_one, HX.out, List.filter_append]; simp [HKP.out]
            have HNext := Lib.hid hnext; clear hnext
            rcases hor with h1 | ⟨h1, h2⟩
            · go_wp2
              go_roundw
              case rel => exact ⟨k2 + 1, by omega, by go_num, by rw [HNext.out]; exact HOwn.out, hbr⟩
              case measure => simp [intOf]; omega
            · go_wp2
              go_roundw
              case rel => exact ⟨k2 + 1, by omega, by go_num, by rw [HNext.out]; exact HOwn.out, hbr⟩
              case measure => simp [intOf]; omega
        · have hfs : fsOf s = xs.filter keepB := by rw [fsOf, HXS.out]
          have hown := HOwn.out
          rw [List.take_of_length_le (by omega), ← hfs] at hown
          obtain ⟨A2, c2, rfl, hsl2⟩ := Sl.ofOwn hown (fun x hx => by have := fsOf_sizes hx; unfold maxLen; omega)
          have hb8 := hb7.trans (hbr.mono hb7.size)
          have HSl2 := Lib.hid hsl2
          clear HSl HOwn hown hsl2 hfs hbr hb7
          go_wp2_with fail
          refine (JoinSlash_any A2 c2 (fsOf s) wr HSl2.out (by have := fsOf_join_size s; omega) (by have := fsOf_length s; omega)).mono ?_
          rintro e w6 ⟨rfl, hb9⟩
          have hb10 := hb8.trans (hb9.mono hb8.size)
          have hjs := fsOf_join_size s
          obtain ⟨j, hj⟩ : ∃ j, joinB (fsOf s) = j := ⟨_, rfl⟩
          rw [hj] at hjs ⊢
          have HJ := Lib.hid hj; clear hj HSl2 hb8 hb9
          go_wp2_with fail
          refine (Link_any j w6 (by omega) (HOK.out.next hb10)).mono ?_
          rintro e w7 ⟨rfl, hb11⟩
          have hb12 := hb10.trans (hb11.mono hb10.size)
          cases hl : linkB j with
          | true =>
            have HL := Lib.hid hl; clear hl
            go_wp2
            go_ret2
            exact ⟨hb12, by rw [cleanOf, HJ.out, HL.out]; rfl⟩
          | false =>
            have HL := Lib.hid hl; clear hl
            go_wp2
            go_ret2
            exact ⟨hb12, by rw [cleanOf, HJ.out, HL.out]; rfl⟩
end Go.Proofs.YtnoifjkgimlfaaaDoor
