/-
  The walks of the reference's Split and of both Joins.
-/
import Derived.Test.YtnoifjkgimlfaaaDoorNmE
namespace Go.Proofs.YtnoifjkgimlfaaaDoor
open Go.RowKit Go.Cold

def RSplitPost (s : ByteArray) (w : World) (e : Ending) (w' : World) : Prop := Below w.heap.size w w' ∧
    ((∃ xs A c, pathOf s = some xs ∧ e = .returned (.tuple #[.slice A xs.length c, .bool true]) ∧ Sl w' w'.heap.size A c xs) ∨
     (pathOf s = none ∧ e = .returned (.tuple #[.slice none 0 0, .bool false])))
/-- The reference's Split. -/
theorem RSplit_any (s : ByteArray) (w : World) (hs : s.size < 4294967281) (hok : Ok w) : Calls Tryd.prog 14 #[.string s] w (RSplitPost s w) := by
  by_cases he : s.toList = []
  · have hp : pathOf s = none := by
      apply pathOf_no
      cases hh : slashB s with
      | false => rfl
      | true => obtain ⟨h0, _⟩ := slash_at hh; rw [toList_nil he] at h0; omega
    have HP := Lib.hid hp; clear hp
    go_enter Tryd.func14, Tryd.ntmps14
    go_wp2_with fail
    go_ret2
    exact ⟨Below.refl _ _, .inr ⟨HP.out, rfl⟩⟩
  have h0 := size_pos he
  have he' : (s.toList.isEmpty) = false := by simpa using he
  obtain ⟨x, hx⟩ : ∃ x, s[0]'h0 = x := ⟨_, rfl⟩
  cases hp : slashB s with
  | false =>
    have h47 : ¬ (x.toNat : Int) = 47 := by
      intro e
      have : x = 47 := by apply UInt8.toNat_inj.1; simpa using (show x.toNat = 47 by omega)
      rw [slash_of h0 (hx.trans this)] at hp; cases hp
    have hn := pathOf_no hp
    have HN := Lib.hid hn; clear hn hp
    go_enter Tryd.func14, Tryd.ntmps14
    go_wp2_with fail
    go_ret2
    exact ⟨Below.refl _ _, .inr ⟨HN.out, rfl⟩⟩
  | true =>
    have h47 : (x.toNat : Int) = 47 := by
      obtain ⟨h0', hh⟩ := slash_at hp
      rw [← hx, hh]; rfl
    have hr := slash_rest hp
    have HP := Lib.hid hp; clear hp
    have HS := Lib.hid hs; clear hs
    go_enter Tryd.func14, Tryd.ntmps14
    go_wp2_with fail
    refine (SplitSlash_any (restOf s) w (by have := HS.out; have := restOf_size s; omega) hok).mono ?_
    rintro e w1 ⟨A, c, rfl, hsl, hb⟩
    have hsz : ∀ x ∈ piecesL (restOf s).data.toList, x.size ≤ maxLen := fun x hx => by
      have h1 := pieces_sizes hx
      have h2 := restOf_size s
      have h3 := HS.out
      rw [ba_size] at h1
      unfold maxLen; omega
    obtain ⟨xs, hxs⟩ : ∃ xs, piecesL (restOf s).data.toList = xs := ⟨_, rfl⟩
    rw [hxs] at hsl hsz ⊢
    have HXS := Lib.hid hxs; clear hxs
    have hc := hsl.1; have hc2 := hsl.2.1
    unfold maxLen at hc2
    have HSZ := Lib.hid hsz; clear hsz
    have HSl := Lib.hid hsl; clear hsl
    clear hr
    go_wp2_with fail
    go_loop [5] (fun i => ∃ k : Nat, k ≤ xs.length ∧ i = .int .i64 k ∧ Hid ((xs.take k).all validB = true)) (fun i => xs.length - (intOf i).toNat)
    case atStart => exact ⟨0, Nat.zero_le _, rfl, rfl⟩
    case round =>
      obtain ⟨k, hk, rfl, HA⟩ := hrel
      by_cases hlt : k < xs.length
      · obtain ⟨b3, o3, rfl, _, cx, hsk⟩ := HSl.out.str hlt
        have hxk : xs[k]? = some xs[k] := List.getElem?_eq_getElem hlt
        have HX := Lib.hid hxk; clear hxk
        have i1 : (k : Int) < (xs.length : Int) := by omega
        go_wp2_with fail
        refine (RValid_any _ _ hsk).mono ?_
        rintro e w' ⟨rfl, rfl⟩
        cases hv : validB xs[k] with
        | true =>
          have HV := Lib.hid hv; clear hv
          go_wp2
          go_round
          case rel => exact ⟨k + 1, by omega, by go_num, all_step HA.out HX.out HV.out⟩
          case measure => simp [intOf]; omega
        | false =>
          have HV := Lib.hid hv; clear hv
          go_wp2
          go_ret2
          exact ⟨hb, .inr ⟨pathOf_bad (by rw [HXS.out]; exact all_stop HX.out HV.out), rfl⟩⟩
      · go_wp2
        go_ret2
        exact ⟨hb, .inl ⟨xs, A, c, by rw [pathOf_yes HP.out (by rw [HXS.out]; exact all_end HA.out (by omega)), HXS.out], rfl, HSl.out⟩⟩

/-- strings.Join with the slash. -/
theorem JoinSlash_any (A : Option Addr) (c : Nat) (xs : List ByteArray) (w : World) (hx : Sl w w.heap.size A c xs) (hlen : (joinB xs).size ≤ 140737488355328) (hn : xs.length ≤ 140737488355328) :
    Calls Tryd.prog 43 #[.slice A xs.length c, .string ⟨#[47]⟩] w fun e w' => e = .returned (.string (joinB xs)) ∧ Below w.heap.size w w' := by
  rcases Nat.eq_zero_or_pos xs.length with h0 | h0
  · have hx0 : xs = [] := List.eq_nil_of_length_eq_zero h0
    subst hx0
    exact (Tryd.strings_Join_none A c ⟨#[47]⟩ w).mono fun e w' ⟨he, hw⟩ => ⟨he, by rw [hw]; exact Below.refl _ _⟩
  · obtain ⟨b, o, rfl, hb, h1⟩ := hx.strs h0
    exact Tryd.strings_Join b o c xs ⟨#[47]⟩ w h1 hb hn hx.1 hlen

/-- The reference's Join. -/
theorem RJoin_any (A : Option Addr) (c : Nat) (xs : List ByteArray) (w : World) (hx : Sl w w.heap.size A c xs) (hlen : (joinB xs).size ≤ 4294967280) (hn : xs.length ≤ 4294967280) :
    Calls Tryd.prog 23 #[.slice A xs.length c] w fun e w' => e = .returned (.string (toB (47 :: (joinB xs).data.toList))) ∧ Below w.heap.size w w' := by
  go_enter Tryd.func23, Tryd.ntmps23
  go_wp2_with fail
  refine (JoinSlash_any A c xs w hx (by omega) (by omega)).mono ?_
  rintro e w1 ⟨rfl, hb⟩
  obtain ⟨j, hj⟩ : ∃ j, joinB xs = j := ⟨_, rfl⟩
  rw [hj] at hlen ⊢
  clear hx
  have HJ := Lib.hid hj; clear hj
  go_wp2
  go_ret
  exact ⟨ret_str (by rw [HJ.out]; exact slash_app j), hb⟩

def JoinPost (xs : List ByteArray) (w : World) (e : Ending) (w' : World) : Prop := Below w.heap.size w w' ∧
    ((xs ≠ [] ∧ xs.all validB = true ∧ e = .returned (.tuple #[.string (toB (47 :: (joinB xs).data.toList)), .int .i64 0])) ∨
     ((xs = [] ∨ xs.all validB = false) ∧ e = .returned (.tuple #[.string ⟨#[]⟩, .int .i64 10])))
/-- name.Join. -/
theorem Join_any (A : Option Addr) (c : Nat) (xs : List ByteArray) (w : World) (hx : Sl w w.heap.size A c xs) (hlen : (joinB xs).size ≤ 4294967280) (hn : xs.length ≤ 4294967280) :
    Calls Tryd.prog 22 #[.slice A xs.length c] w (JoinPost xs w) := by
  have HSl := Lib.hid hx; clear hx
  rcases Nat.eq_zero_or_pos xs.length with h0 | h0
  · have h0' : ((xs.length : Int) == 0) = true := by simpa using h0
    have H0 := Lib.hid h0; clear h0
    go_enter Tryd.func22, Tryd.ntmps22
    go_wp2_with fail
    go_ret2
    exact ⟨Below.refl _ _, .inr ⟨.inl (List.eq_nil_of_length_eq_zero H0.out), rfl⟩⟩
  · have h0' : ((xs.length : Int) == 0) = false := by simpa using (show ¬ (xs.length : Int) = 0 by omega)
    go_enter Tryd.func22, Tryd.ntmps22
    go_wp2_with fail
    refine (all_any A c xs _ _ _ w HSl.out (valid_pred w)).mono ?_
    rintro e w1 ⟨rfl, hb⟩
    have HSl2 := Lib.hid (HSl.out.next (Nat.le_refl _) hb)
    cases ha : xs.all validB with
    | false =>
      have HA := Lib.hid ha; clear ha
      go_wp2
      go_ret2
      exact ⟨hb, .inr ⟨.inr HA.out, rfl⟩⟩
    | true =>
      have HA := Lib.hid ha; clear ha
      go_wp2_with fail
      refine (JoinSlash_any A c xs w1 HSl2.out (by omega) (by omega)).mono ?_
      rintro e w2 ⟨rfl, hb2⟩
      have hb3 := hb.trans (hb2.mono hb.size)
      obtain ⟨j, hj⟩ : ∃ j, joinB xs = j := ⟨_, rfl⟩
      rw [hj] at hlen ⊢
      have HJ := Lib.hid hj; clear hj
      go_wp2
      go_ret2
      refine ⟨hb3, .inl ⟨by rintro rfl; simp at h0, HA.out, ?_⟩⟩
      rw [HJ.out, ← slash_app]
      rfl
end Go.Proofs.YtnoifjkgimlfaaaDoor
