/-
  The walks of parts and of both Links.
-/
import Derived.Test.YtnoifjkgimlfaaaDoorNmF
namespace Go.Proofs.YtnoifjkgimlfaaaDoor
open Go.RowKit Go.Cold

/-- parts. -/
theorem parts_any (w : World) : Calls Tryd.prog 41 #[] w fun e w' => e = .returned (.agg (Lib.setCells partL)) ∧ Below w.heap.size w w' := by
  obtain ⟨hz, hi⟩ := zero_of_info info_set
  rw [← Lib.setCells_nil] at hz
  have HI := Lib.hid hi; clear hi
  go_enter Tryd.func41, Tryd.ntmps41
  go_wp2_with fail
  have hb0 : Below w.heap.size w (w.alloc (Obj.cells (Lib.setCells []) 49)) := (Below.refl _ _).alloc (Nat.le_refl _) _
  have k0 : Blk (w.alloc (Obj.cells (Lib.setCells []) 49)) w.heap.size 49 (Lib.setCells []) := Blk.new _ _ _
  generalize w.alloc (Obj.cells (Lib.setCells []) 49) = w0 at *
  refine (common_any _).mono ?_; rintro e w1 ⟨rfl, hb1⟩
  have k1 := k0.below hb1 k0.lt; have b1 := hb0.trans (hb1.mono hb0.size)
  clear hb0 hb1 k0
  go_wp2_with fail
  refine (plus_any _ _ _ (by decide)).mono ?_; rintro e w2 ⟨rfl, hb2⟩
  have k2 := k1.below hb2 k1.lt; have b2 := b1.trans (hb2.mono b1.size)
  clear hb2 k1 b1
  go_wp2_with (with_reducible refine at_store 0 2 ?_; go_must (refine wpList_store_blk rfl 49 _ _ rfl w.heap.size rfl (Lib.setCells partL) rfl 49 _ k2 (by rw [Lib.setCells_size]; exact HI.out) (by rw [Lib.setCells_size, Lib.setCells_size]) (Lib.setCells_one _) ?_))
  refine bodyPost_ret (v := .agg (Lib.setCells partL)) ?_ rfl ⟨rfl, below_setRow b2 (Nat.le_refl _) _⟩
  exact results_cell_blk rfl _ _ w.heap.size 49 _ _ rfl (k2.setRow_ _) Tryd.underlying49 rfl (by rw [Lib.setCells_size]; exact HI.out)

/-- Link$1: is a text a component of a link? -/
theorem link1_any (w : World) (b : Nat) (hk : Blk w b 49 (Lib.setCells partL)) : PredS 45 #[.pointer (some ⟨b, 0, none⟩)] w compB := by
  obtain ⟨_, hi⟩ := zero_of_info info_set
  have HI := Lib.hid hi; clear hi
  refine ⟨enters_of Tryd.func45 (by kernel_rfl) rfl, fun x W hx hW => ?_⟩
  have HK := Lib.hid (hk.below hW hk.lt); clear hk hW
  by_cases h0 : x.toList = []
  · go_enter Tryd.func45, Tryd.ntmps45
    go_wp2_with fail
    go_ret
    exact ⟨ret_bool (by simp [compB, h0]), Below.refl _ _⟩
  · have h0' : (x.toList.isEmpty) = false := by simpa using h0
    go_enter Tryd.func45, Tryd.ntmps45
    go_wp2_with fail
    refine (dots_any _ _).mono ?_
    rintro e w' ⟨rfl, rfl⟩
    cases hd : dotsB x with
    | true =>
      go_wp2_with fail
      go_ret
      exact ⟨ret_bool (by simp [compB, hd]), Below.refl _ _⟩
    | false =>
      go_wp2_with (first
        | (with_reducible refine at_dst 12 ?_; go_must (refine wpList_load_blk_w (by simp [Region.wanted, yielded]) 49 _ rfl b rfl 49 _ _ HK.out Tryd.underlying49 rfl (by rw [Lib.setCells_size]; exact HI.out) ?_))
        | (go_at_call 47; go_must (refine (has_any _ _ _ hx).mono ?_); rintro e w1 ⟨rfl, hb1⟩))
      go_ret
      exact ⟨ret_bool (by simp [compB, hd, h0']), hb1⟩

/-- name.Link. -/
theorem Link_any (s : ByteArray) (w : World) (hs : s.size < 4294967281) (hok : Ok w) : Calls Tryd.prog 18 #[.string s] w fun e w' => e = .returned (.bool (linkB s)) ∧ Below w.heap.size w w' := by
  obtain ⟨hz, hi⟩ := zero_of_info info_set
  rw [← Lib.setCells_nil] at hz
  have HI := Lib.hid hi; clear hi
  have HS := Lib.hid hs; clear hs
  by_cases h256 : s.size ≤ 256
  · have hd : decide ((s.size : Int) ≤ 256) = true := by simp; omega
    have H256 := Lib.hid h256; clear h256
    go_enter Tryd.func18, Tryd.ntmps18
    go_wp2_with fail
    refine (parts_any _).mono ?_; rintro e w1 ⟨rfl, hb1⟩
    have hk0 : Blk (w1.alloc (Obj.cells (Lib.setCells []) 49)) w1.heap.size 49 (Lib.setCells []) := Blk.new _ _ _
    go_wp2_with (with_reducible refine at_store 3 4 ?_; go_must (refine wpList_store_blk rfl 49 _ _ rfl w1.heap.size rfl (Lib.setCells partL) rfl 49 _ hk0 (by rw [Lib.setCells_size]; exact HI.out) (by rw [Lib.setCells_size, Lib.setCells_size]) (Lib.setCells_one _) ?_))
    have hb2 : Below w.heap.size w ((w1.alloc (Obj.cells (Lib.setCells []) 49)).setRow w1.heap.size (Lib.setCells partL)) := below_setRow (hb1.alloc hb1.size _) hb1.size _
    have hk : Blk ((w1.alloc (Obj.cells (Lib.setCells []) 49)).setRow w1.heap.size (Lib.setCells partL)) w1.heap.size 49 (Lib.setCells partL) := (Blk.new _ _ _).setRow_ _
    generalize (w1.alloc (Obj.cells (Lib.setCells []) 49)).setRow w1.heap.size (Lib.setCells partL) = w2 at *
    generalize w1.heap.size = g at *
    clear hb1
    go_wp2_with fail
    refine (SplitSlash_any s w2 HS.out (hok.next hb2)).mono ?_
    rintro e w3 ⟨A, c, rfl, hsl, hb3⟩
    have hk3 := hk.below hb3 hk.lt
    have hb4 := hb2.trans (hb3.mono hb2.size)
    have HSl := Lib.hid hsl
    have HK := Lib.hid hk3
    clear hb2 hb3 hk hk3 hsl
    go_wp2_with fail
    refine (all_any A c _ _ _ _ w3 HSl.out (link1_any w3 g HK.out)).mono ?_
    rintro e w4 ⟨rfl, hb5⟩
    have hb6 := hb4.trans (hb5.mono hb4.size)
    obtain ⟨z, hz⟩ : ∃ z, (piecesL s.data.toList).all compB = z := ⟨_, rfl⟩
    rw [hz]
    have HZ := Lib.hid hz; clear hz
    go_wp2
    go_ret
    exact ⟨ret_bool (by have := H256.out; rw [linkB, HZ.out]; simp; omega), hb6⟩
  · have hd : decide ((s.size : Int) ≤ 256) = false := by simp; omega
    have H256 := Lib.hid h256; clear h256
    go_enter Tryd.func18, Tryd.ntmps18
    go_wp2_with fail
    refine (parts_any _).mono ?_; rintro e w1 ⟨rfl, hb1⟩
    have hk0 : Blk (w1.alloc (Obj.cells (Lib.setCells []) 49)) w1.heap.size 49 (Lib.setCells []) := Blk.new _ _ _
    go_wp2_with (with_reducible refine at_store 3 4 ?_; go_must (refine wpList_store_blk rfl 49 _ _ rfl w1.heap.size rfl (Lib.setCells partL) rfl 49 _ hk0 (by rw [Lib.setCells_size]; exact HI.out) (by rw [Lib.setCells_size, Lib.setCells_size]) (Lib.setCells_one _) ?_))
    go_ret
    exact ⟨ret_bool (by have := H256.out; rw [linkB]; simp; omega), below_setRow (hb1.alloc hb1.size _) hb1.size _⟩

/-- The reference's Link. -/
theorem RLink_any (s : ByteArray) (w : World) (hs : s.size < 4294967281) (hok : Ok w) : Calls Tryd.prog 37 #[.string s] w fun e w' => e = .returned (.bool (linkB s)) ∧ Below w.heap.size w w' := by
  have HS := Lib.hid hs; clear hs
  go_enter Tryd.func37, Tryd.ntmps37
  go_wp2_with fail
  refine (SplitSlash_any s w HS.out hok).mono ?_
  rintro e w1 ⟨A, c, rfl, hsl, hb⟩
  obtain ⟨xs, hxs⟩ : ∃ xs, piecesL s.data.toList = xs := ⟨_, rfl⟩
  rw [hxs] at hsl ⊢
  have HXS := Lib.hid hxs; clear hxs
  have hc := hsl.1; have hc2 := hsl.2.1
  unfold maxLen at hc2
  have HSl := Lib.hid hsl; clear hsl
  go_wp2_with fail
  go_loop [4] (fun i => ∃ k : Nat, k ≤ xs.length ∧ i = .int .i64 k ∧ Hid ((xs.take k).all compB = true)) (fun i => xs.length - (intOf i).toNat)
  case atStart => exact ⟨0, Nat.zero_le _, rfl, rfl⟩
  case round =>
    obtain ⟨k, hk, rfl, HA⟩ := hrel
    by_cases hlt : k < xs.length
    · obtain ⟨b3, o3, rfl, _, cx, hsk⟩ := HSl.out.str hlt
      have hxk : xs[k]? = some xs[k] := List.getElem?_eq_getElem hlt
      obtain ⟨x, hx⟩ : ∃ x, xs[k] = x := ⟨_, rfl⟩
      rw [hx] at cx hsk hxk
      have HX := Lib.hid hxk; clear hxk hx
      have i1 : (k : Int) < (xs.length : Int) := by omega
      cases hv : compB x with
      | true =>
        have h1 : x.toList.isEmpty = false := by
          unfold compB at hv; simp only [Bool.and_eq_true] at hv; simpa using hv.1
        have h2 : (x.toList == [46]) = false ∧ (x.toList == [46, 46]) = false := by
          unfold compB dotsB at hv; simp only [Bool.and_eq_true, Bool.not_eq_true', Bool.or_eq_false_iff] at hv; exact hv.2.1
        have h3 : inB partL x = true := by
          unfold compB at hv; simp only [Bool.and_eq_true] at hv; exact hv.2.2
        obtain ⟨h21, h22⟩ := h2
        have HV := Lib.hid hv; clear hv
        go_wp2_with (go_at_call 49; go_must (refine (in_any _ _ partL _ hsk rfl).mono ?_); rintro e w' ⟨rfl, rfl⟩)
        go_round
        case rel => exact ⟨k + 1, by omega, by go_num, all_step HA.out HX.out HV.out⟩
        case measure => simp [intOf]; omega
      | false =>
        have HV := Lib.hid hv; clear hv
        have hfin : false = linkB s := by rw [linkB, HXS.out, all_stop HX.out HV.out]; simp
        have HF := Lib.hid hfin; clear hfin
        go_wp2_with (go_at_call 49; go_must (refine (in_any _ _ partL _ hsk rfl).mono ?_); rintro e w' ⟨rfl, rfl⟩)
        all_goals first
          | (go_ret; exact ⟨ret_bool HF.out, hb⟩)
          | (exfalso
             have := HV.out
             simp_all [compB, dotsB])
    · go_wp2
      go_ret
      exact ⟨ret_bool (by rw [linkB, HXS.out, all_end HA.out (by omega)]; simp), hb⟩
end Go.Proofs.YtnoifjkgimlfaaaDoor
