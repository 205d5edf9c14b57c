/-
  The walks of package name's sets of bytes.
-/
import Derived.Test.YtnoifjkgimlfaaaDoorRows
import Derived.Test.YtnoifjkgimlfaaaDoorArr
import Derived.Test.YtnoifjkgimlfaaaDoorNmP
import Derived.Test.YtnoifjkgimlfaaaDoorShelf
namespace Go.Proofs.YtnoifjkgimlfaaaDoor
open Go.RowKit Go.Cold

theorem info_set : (Tryd.prog.info? 49).map (fun i => (i.zero, i.size)) = some (some (.agg (Array.replicate 256 (.bool false))), 256) := by kernel_rfl

/-- (set).plus. -/
theorem plus_any (S : List UInt8) (s : ByteArray) (w : World) (hs : s.size ≤ maxLen) :
    Calls Tryd.prog 42 #[.agg (Lib.setCells S), .string s] w fun e w' => e = .returned (.agg (Lib.setCells (S ++ s.data.toList))) ∧ Below w.heap.size w w' := by
  obtain ⟨hz, hi⟩ := zero_of_info info_set
  unfold maxLen at hs
  rw [← Lib.setCells_nil] at hz
  have HI := Lib.hid hi; clear hi
  go_enter Tryd.func42, Tryd.ntmps42
  go_wp2
  go_loopw [8] (fun i wr => ∃ k : Nat, k ≤ s.size ∧ i = .int .i64 k ∧ Blk wr w.heap.size 49 (Lib.setCells (S ++ s.data.toList.take k)) ∧ Blk wr (w.heap.size + 1) 49 (Lib.setCells []) ∧ Below w.heap.size w wr) (fun i _ => s.size - (intOf i).toNat)
  case atStart =>
    refine ⟨0, Nat.zero_le _, rfl, ?_, ?_, ((Below.refl _ _).alloc (Nat.le_refl _) _).alloc (by simp) _⟩
    · simpa using (Blk.new w 49 (Lib.setCells S)).alloc _
    · have := Blk.new (w.alloc (Obj.cells (Lib.setCells S) 49)) 49 (Lib.setCells [])
      simpa using this
  case round =>
    obtain ⟨k, hk, rfl, h1, h2, hb⟩ := hrel
    by_cases hlt : k < s.size
    · obtain ⟨x, hx⟩ : ∃ x : UInt8, s[k]'hlt = x := ⟨_, rfl⟩
      have hxl : s.data.toList[k]? = some x := by rw [← hx]; exact Lib.data_getElem? s k hlt
      have hx256 : (x.toNat : Int) < 256 := by have := UInt8.toNat_lt x; omega
      have hcell := (h1.cell x.toNat).trans (Lib.setCells_at _ x)
      have hfr := h1.frozen x.toNat
      have HX := Lib.hid hxl; clear hxl
      have H1 := Lib.hid h1; clear h1
      have H2 := Lib.hid h2; clear h2
      go_wp2
      go_roundw
      case rel =>
        refine ⟨k + 1, by omega, by go_num, ?_, H2.out.far (by simp) _, hb.setCell (by simp) _⟩
        rw [List.take_add_one, HX.out, Option.toList, ← List.append_assoc, Lib.setCells_snoc]
        exact H1.out.set_ _ _
      case measure => simp [intOf]; omega
    · rw [List.take_of_length_le (by rw [← Lib.size_eq]; omega)] at h1
      have H1 := Lib.hid h1; clear h1
      have H2 := Lib.hid h2; clear h2
      go_wp2_with (first
        | (with_reducible refine at_dst 16 ?_; go_must (refine wpList_load_blk rfl 49 _ rfl w.heap.size rfl 49 _ _ H1.out Tryd.underlying49 rfl (by rw [Lib.setCells_size]; exact HI.out) ?_))
        | (with_reducible refine at_store 4 16 ?_; go_must (refine wpList_store_blk rfl 49 _ _ rfl (w.heap.size + 1) rfl (Lib.setCells (S ++ s.data.toList)) rfl 49 _ H2.out (by rw [Lib.setCells_size]; exact HI.out) (by rw [Lib.setCells_size, Lib.setCells_size]) (Lib.setCells_one _) ?_)))
      refine bodyPost_ret (v := .agg (Lib.setCells (S ++ s.data.toList))) ?_ rfl ⟨rfl, below_setRow hb (by omega) _⟩
      exact results_cell_blk rfl _ _ (w.heap.size + 1) 49 _ _ rfl (H2.out.setRow_ _) Tryd.underlying49 rfl (by rw [Lib.setCells_size]; exact HI.out)

/-- (set).has. -/
theorem has_any (S : List UInt8) (s : ByteArray) (w : World) (hs : s.size ≤ maxLen) :
    Calls Tryd.prog 47 #[.agg (Lib.setCells S), .string s] w fun e w' => e = .returned (.bool (inB S s)) ∧ Below w.heap.size w w' := by
  unfold maxLen at hs
  go_enter Tryd.func47, Tryd.ntmps47
  go_wp2
  go_loop [8] (fun i => ∃ k : Nat, k ≤ s.size ∧ i = .int .i64 k ∧ Hid ((s.data.toList.take k).all S.contains = true)) (fun i => s.size - (intOf i).toNat)
  case atStart => exact ⟨0, Nat.zero_le _, rfl, rfl⟩
  case round =>
    obtain ⟨k, hk, rfl, HA⟩ := hrel
    have h1 := Blk.new w 49 (Lib.setCells S)
    by_cases hlt : k < s.size
    · obtain ⟨x, hx⟩ : ∃ x : UInt8, s[k]'hlt = x := ⟨_, rfl⟩
      have hxl : s.data.toList[k]? = some x := by rw [← hx]; exact Lib.data_getElem? s k hlt
      have hx256 : (x.toNat : Int) < 256 := by have := UInt8.toNat_lt x; omega
      have hcell := (h1.cell x.toNat).trans (Lib.setCells_at _ x)
      have HX := Lib.hid hxl; clear hxl
      clear h1
      obtain ⟨c, hc⟩ : ∃ c, S.contains x = c := ⟨_, rfl⟩
      rw [hc] at hcell
      have HC := Lib.hid hc; clear hc
      cases c with
      | false =>
        go_wp2
        go_ret
        refine ⟨ret_bool ?_, (Below.refl _ _).alloc (Nat.le_refl _) _⟩
        symm
        rw [inB, List.all_eq_false]
        exact ⟨x, List.mem_of_getElem? HX.out, by rw [HC.out]; decide⟩
      | true =>
        go_wp2
        go_round
        case rel =>
          refine ⟨k + 1, by omega, by go_num, ?_⟩
          show _ = true
          rw [List.take_add_one, HX.out]
          simp only [Option.toList, List.all_append, HA.out, List.all_cons, List.all_nil, HC.out, Bool.and_self]
        case measure => simp [intOf]; omega
    · clear h1
      go_wp2
      go_ret
      refine ⟨ret_bool ?_, (Below.refl _ _).alloc (Nat.le_refl _) _⟩
      have := HA.out
      rw [List.take_of_length_le (by rw [← Lib.size_eq]; omega)] at this
      exact this.symm

/-- common. -/
theorem common_any (w : World) : Calls Tryd.prog 55 #[] w fun e w' => e = .returned (.agg (Lib.setCells commonL)) ∧ Below w.heap.size w w' := by
  obtain ⟨hz, hi⟩ := zero_of_info info_set
  rw [← Lib.setCells_nil] at hz
  have HI := Lib.hid hi; clear hi
  go_enter Tryd.func55, Tryd.ntmps55
  go_wp2_with fail
  have hb0 : Below w.heap.size w (w.alloc (Obj.cells (Lib.setCells []) 49)) := (Below.refl _ _).alloc (Nat.le_refl _) _
  have k0 : Blk (w.alloc (Obj.cells (Lib.setCells []) 49)) w.heap.size 49 (Lib.setCells []) := Blk.new _ _ _
  generalize w.alloc (Obj.cells (Lib.setCells []) 49) = w0 at *
  refine (plus_any [] _ _ (by decide)).mono ?_; rintro e w1 ⟨rfl, hb1⟩
  have k1 := k0.below hb1 k0.lt; have b1 := hb0.trans (hb1.mono hb0.size)
  clear hb0 hb1 k0
  go_wp2_with fail
  refine (Tryd.strings_ToLower_ascii _ _ (by decide) (fun j b hj => of_decide_eq_true (List.all_eq_true.1 (by decide : upperL.all (fun b => decide (b.toNat < 128)) = true) b (List.mem_of_getElem? hj)))).mono ?_
  rintro e w2 ⟨rfl, hb2⟩
  have k2 := k1.below hb2 k1.lt; have b2 := b1.trans (hb2.mono b1.size)
  clear hb2 k1 b1
  go_wp2_with fail
  refine (plus_any _ _ _ (by decide)).mono ?_; rintro e w3 ⟨rfl, hb3⟩
  have k3 := k2.below hb3 k2.lt; have b3 := b2.trans (hb3.mono b2.size)
  clear hb3 k2 b2
  go_wp2_with fail
  refine (plus_any _ _ _ (by decide)).mono ?_; rintro e w4 ⟨rfl, hb4⟩
  have k4 := k3.below hb4 k3.lt; have b4 := b3.trans (hb4.mono b3.size)
  clear hb4 k3 b3
  go_wp2_with fail
  refine (plus_any _ _ _ (by decide)).mono ?_; rintro e w5 ⟨rfl, hb5⟩
  have k5 := k4.below hb5 k4.lt; have b5 := b4.trans (hb5.mono b4.size)
  clear hb5 k4 b4
  go_wp2_with (with_reducible refine at_store 0 6 ?_; go_must (refine wpList_store_blk rfl 49 _ _ rfl w.heap.size rfl (Lib.setCells commonL) rfl 49 _ k5 (by rw [Lib.setCells_size]; exact HI.out) (by rw [Lib.setCells_size, Lib.setCells_size]) (Lib.setCells_one _) ?_))
  refine bodyPost_ret (v := .agg (Lib.setCells commonL)) ?_ rfl ⟨rfl, below_setRow b5 (Nat.le_refl _) _⟩
  exact results_cell_blk rfl _ _ w.heap.size 49 _ _ rfl (k5.setRow_ _) Tryd.underlying49 rfl (by rw [Lib.setCells_size]; exact HI.out)
end Go.Proofs.YtnoifjkgimlfaaaDoor
