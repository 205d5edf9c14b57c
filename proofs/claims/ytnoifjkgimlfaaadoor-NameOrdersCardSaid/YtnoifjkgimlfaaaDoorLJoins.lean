/-
  NameJoins answers true for every list of texts: the path of the names, the names of that path.
  Conditions: those of the given row and card, nothing else.
-/
import Derived.Test.YtnoifjkgimlfaaaDoorNmK
import Derived.Test.YtnoifjkgimlfaaaDoorNmR
import Derived.Test.YtnoifjkgimlfaaaDoorMake
namespace Go.Cold
open Go Go.RowKit

theorem splitOn_none (c : UInt8) : ∀ (x : List UInt8), x.all (fun b => !(b == c)) = true → splitOn c x = [x]
  | [], _ => rfl
  | b :: x, h => by
    rw [List.all_cons, Bool.and_eq_true] at h
    have hb : ¬ b = c := by simpa using h.1
    rw [splitOn, if_neg hb, splitOn_none c x h.2]
theorem splitOn_app (c : UInt8) (l : List UInt8) : ∀ (x : List UInt8), x.all (fun b => !(b == c)) = true → splitOn c (x ++ c :: l) = x :: splitOn c l
  | [], _ => by rw [List.nil_append, splitOn, if_pos rfl]
  | b :: x, h => by
    rw [List.all_cons, Bool.and_eq_true] at h
    have hb : ¬ b = c := by simpa using h.1
    rw [List.cons_append, splitOn, if_neg hb, splitOn_app c l x h.2]
theorem splitOn_join (c : UInt8) : ∀ (x : List UInt8) (r : List (List UInt8)), (x :: r).all (fun y => y.all (fun b => !(b == c))) = true → splitOn c (Lib.join (x :: r) [c]) = x :: r
  | x, [], h => by
    rw [List.all_cons, Bool.and_eq_true] at h
    rw [Lib.join_cons]
    simp only [Lib.joinTail, List.flatMap_nil, List.append_nil, List.flatten_nil, List.map_nil]
    exact splitOn_none c x h.1
  | x, y :: r, h => by
    have ih := splitOn_join c y r (by rw [List.all_cons, Bool.and_eq_true] at h; exact h.2)
    rw [List.all_cons, Bool.and_eq_true] at h
    rw [Lib.join_cons] at ih ⊢
    have e : Lib.joinTail [c] (y :: r) = c :: (y ++ Lib.joinTail [c] r) := by simp [Lib.joinTail]
    rw [e, splitOn_app c _ x h.1, ih]
theorem valid_slash {s : ByteArray} (h : validB s = true) : s.data.toList.all (fun b => !(b == 47)) = true := by
  unfold validB at h
  simp only [Bool.and_eq_true] at h
  rw [List.all_eq_true]
  intro b hb
  have h1 := List.all_eq_true.1 h.2.2.2 b hb
  exact List.all_eq_true.1 (by decide : nameL.all (fun b => !(b == 47)) = true) b (List.contains_iff_mem.1 h1)
theorem pieces_join {xs : List ByteArray} (hn : xs ≠ []) (h : xs.all (fun x => x.data.toList.all (fun b => !(b == 47))) = true) : piecesL (joinB xs).data.toList = xs := by
  cases xs with
  | nil => exact absurd rfl hn
  | cons x r =>
    unfold piecesL joinB
    rw [toB_data, List.map_cons, splitOn_join 47 _ _ (by rw [← List.map_cons (f := fun x : ByteArray => x.data.toList), List.all_map]; exact h)]
    rw [List.map_cons, List.map_map]
    rw [data_toB]
    congr 1
    conv => rhs; rw [← List.map_id r]
    apply List.map_congr_left
    intro y _
    exact data_toB y
theorem pathOf_join {xs : List ByteArray} (hn : xs ≠ []) (h : xs.all validB = true) : pathOf (toB (47 :: (joinB xs).data.toList)) = some xs := by
  have hs : slashB (toB (47 :: (joinB xs).data.toList)) = true := by
    unfold slashB Lib.hasPrefix; rw [toB_data]; simp
  have hr : restOf (toB (47 :: (joinB xs).data.toList)) = joinB xs := by
    apply ba_ext
    have := slash_cons hs
    rw [toB_data] at this
    exact (List.cons.inj this).2.symm
  have hp : piecesL (joinB xs).data.toList = xs := pieces_join hn (by
    rw [List.all_eq_true] at h ⊢
    exact fun x hx => valid_slash (h x hx))
  rw [pathOf_yes hs (by rw [hr, hp]; exact h), hr, hp]
theorem joinB_size_le {n : Nat} : ∀ {xs : List ByteArray}, (∀ x ∈ xs, x.size ≤ n) → (joinB xs).size ≤ (n + 1) * xs.length := by
  intro xs h
  unfold joinB
  rw [toB_size]
  by_cases hn : xs = []
  · subst hn; simp [Lib.join_nil]
  · have h1 := join_length 47 (xs.map (·.data.toList)) (by simpa using hn)
    have h2 : ∀ ys : List ByteArray, (∀ x ∈ ys, x.size ≤ n) → tot (ys.map (·.data.toList)) ≤ (n + 1) * ys.length := by
      intro ys
      induction ys with
      | nil => intro _; simp [tot]
      | cons y ys ih =>
        intro h
        have h3 := ih (fun x hx => h x (List.mem_cons_of_mem _ hx))
        have h4 := h y List.mem_cons_self
        rw [← ba_size] at h4
        simp only [tot, List.map_cons, List.sum_cons, List.length_cons] at h3 ⊢
        rw [Nat.mul_add]
        omega
    have := h2 xs h
    omega
end Go.Cold
namespace Go.Proofs.YtnoifjkgimlfaaaDoor
open Go.RowKit Go.Cold

set_option maxRecDepth 20000 in
theorem lawJoins_any (A : Option Addr) (c : Nat) (xs : List ByteArray) (w : World) (hok : Ok w) (hx : Sl w w.heap.size A c xs) : Calls Tryd.prog 7 #[.slice A xs.length c] w fun e w' => e = .returned (.bool true) ∧ Below w.heap.size w w' := by
  have HOK := Lib.hid hok; clear hok
  have hc := hx.1; have hc2 := hx.2.1
  unfold maxLen at hc2
  have HSl := Lib.hid hx; clear hx
  by_cases hl : xs.length ≤ 20
  · go_enter Tryd.func7, Tryd.ntmps7
    go_wp2_with fail
    go_loop [3, 4] (fun o i => ∃ k : Nat, k ≤ xs.length ∧ i = .int .i64 k ∧ o = .bool (decide ((0 : Int) < xs.length) && (xs.take k).all validB) ∧ Hid (∀ x ∈ xs.take k, x.size ≤ 100)) (fun _ i => xs.length - (intOf i).toNat)
    case atStart => exact ⟨0, Nat.zero_le _, rfl, by simp, fun x hx => by simp at hx⟩
    case round =>
      obtain ⟨k, hk, rfl, rfl, HZ⟩ := hrel
      by_cases hlt : k < xs.length
      · obtain ⟨b3, o3, rfl, _, cx, hsk⟩ := HSl.out.str hlt
        have hxk : xs[k]? = some xs[k] := List.getElem?_eq_getElem hlt
        have htk : xs.take (k + 1) = xs.take k ++ [xs[k]] := List.take_succ_eq_append_getElem hlt
        have HX := Lib.hid hxk; clear hxk
        have HT := Lib.hid htk; clear htk
        have i1 : (k : Int) < (xs.length : Int) := by omega
        have i2 : decide ((0 : Int) < xs.length) = true := by simp; omega
        obtain ⟨x, hxx⟩ : ∃ x, xs[k] = x := ⟨_, rfl⟩
        rw [hxx] at HX HT hsk cx
        clear hxx
        by_cases h100 : x.size ≤ 100
        · have HZ2 : Hid (∀ y ∈ xs.take (k + 1), y.size ≤ 100) := by
            show ∀ y ∈ xs.take (k + 1), y.size ≤ 100
            intro y hy
            rw [HT.out, List.mem_append, List.mem_singleton] at hy
            rcases hy with hy | rfl
            · exact HZ.out y hy
            · exact h100
          cases ha : (xs.take k).all validB with
          | true =>
            have HA := Lib.hid ha; clear ha
            rw [i2]
            go_wp2_with fail
            refine (RValid_any _ _ hsk).mono ?_
            rintro e w' ⟨rfl, rfl⟩
            have hall : (decide ((0 : Int) < xs.length) && (xs.take (k + 1)).all validB) = validB x := by
              rw [i2, HT.out, List.all_append, HA.out]; simp
            obtain ⟨v, hv⟩ : ∃ v, validB x = v := ⟨_, rfl⟩
            rw [hv] at hall ⊢
            have HV := Lib.hid hall; clear hall hv
            go_wp2
            go_round
            case rel => exact ⟨k + 1, by omega, by go_num, by rw [← i2, HV.out], HZ2⟩
            case measure => simp [intOf]; omega
          | false =>
            have hall : (decide ((0 : Int) < xs.length) && (xs.take (k + 1)).all validB) = false := by
              rw [HT.out, List.all_append, ha]; simp
            have HV := Lib.hid hall; clear hall
            clear ha
            rw [i2]
            go_wp2
            go_round
            case rel => exact ⟨k + 1, by omega, by go_num, by rw [← i2, HV.out], HZ2⟩
            case measure => simp [intOf]; omega
        · obtain ⟨o, ho⟩ : ∃ o, (decide ((0 : Int) < xs.length) && (xs.take k).all validB) = o := ⟨_, rfl⟩
          rw [ho]
          clear ho
          go_wp2_with fail
          refine (known_any _ HOK.out).mono ?_
          rintro e w1 ⟨rfl, hb1⟩
          go_wp2
          go_ret
          exact ⟨rfl, hb1⟩
      · have hkk : k = xs.length := by omega
        subst hkk
        have hz := HZ.out
        rw [List.take_length] at hz
        have hj := joinB_size_le hz
        have HJS := Lib.hid (show (joinB xs).size ≤ 4000 by omega); clear hj hz HZ
        rw [List.take_length]
        obtain ⟨o, ho⟩ : ∃ o, (decide ((0 : Int) < xs.length) && xs.all validB) = o := ⟨_, rfl⟩
        rw [ho]
        have HO := Lib.hid ho; clear ho
        cases o with
        | false =>
          go_wp2_with fail
          refine (Join_any A c xs w HSl.out (by have := HJS.out; omega) (by omega)).mono ?_
          rintro e w1 ⟨hb1, hr⟩
          rcases hr with ⟨hn, hv, rfl⟩ | ⟨hn, rfl⟩
          · exfalso
            have h1 := HO.out
            rw [hv, Bool.and_true] at h1
            have h0 : 0 < xs.length := List.length_pos_iff.2 hn
            have := of_decide_eq_false h1
            omega
          · clear hn
            go_wp2_with fail
            refine (known_any _ (HOK.out.next hb1)).mono ?_
            rintro e w2 ⟨rfl, hb2⟩
            go_wp2
            go_ret
            exact ⟨rfl, hb1.trans (hb2.mono hb1.size)⟩
        | true =>
          go_wp2_with fail
          refine (Join_any A c xs w HSl.out (by have := HJS.out; omega) (by omega)).mono ?_
          rintro e w1 ⟨hb1, hr⟩
          have HOK1 := Lib.hid (HOK.out.next hb1); clear HOK
          have HSl1 := Lib.hid (HSl.out.next (Nat.le_refl _) hb1); clear HSl
          rcases hr with ⟨hn, hv, rfl⟩ | ⟨hn, _⟩
          · have hpo := pathOf_join hn hv
            have hsz : (toB (47 :: (joinB xs).data.toList)).size < 4294967281 := by
              rw [toB_size, List.length_cons, ba_size]; have := HJS.out; omega
            clear hn hv
            obtain ⟨p, hp⟩ : ∃ p, toB (47 :: (joinB xs).data.toList) = p := ⟨_, rfl⟩
            rw [hp] at hpo hsz ⊢
            have HP := Lib.hid hp; clear hp
            have HPO := Lib.hid hpo; clear hpo
            have HSZ := Lib.hid hsz; clear hsz
            go_wp2_with fail
            refine (Split_any p _ HSZ.out HOK1.out).mono ?_; rintro e w2 ⟨hb2, hr⟩
            have hb3 := hb1.trans (hb2.mono hb1.size)
            have HOK2 := Lib.hid (HOK1.out.next hb2); clear HOK1
            have HSl2 := Lib.hid (HSl1.out.next (Nat.le_refl _) hb2); clear HSl1 hb1 hb2
            rcases hr with ⟨ys, B, d, hys, rfl, hsy⟩ | ⟨hn, _⟩
            · rw [HPO.out] at hys
              obtain rfl := Option.some.inj hys; clear hys
              have HSY := Lib.hid hsy; clear hsy
              go_wp2_with fail
              refine (RJoin_any A c xs w2 HSl2.out (by have := HJS.out; omega) (by omega)).mono ?_
              rintro e w3 ⟨rfl, hb4⟩
              rw [HP.out]
              have hb5 := hb3.trans (hb4.mono hb3.size)
              have HOK3 := Lib.hid (HOK2.out.next hb4); clear HOK2
              have HSl3 := Lib.hid (HSl2.out.next (Nat.le_refl _) hb4); clear HSl2
              have HSY3 := Lib.hid (HSY.out.next (Nat.le_refl _) hb4); clear HSY hb3 hb4
              go_wp2_with fail
              refine (SameTexts_any B A d c xs xs w3 _ _ HSY3.out HSl3.out).mono ?_; rintro e w4 ⟨rfl, n, rfl⟩
              rw [show decide (xs = xs) = true by simp]
              have hb6 := below_drewN hb5 n
              have HOK4 := Lib.hid (HOK3.out.next (below_drewN_self w3 _ n)); clear HOK3
              go_wp2_with fail
              refine (known_any _ HOK4.out).mono ?_; rintro e w5 ⟨rfl, hb7⟩
              go_wp2
              go_ret
              exact ⟨rfl, hb6.trans (hb7.mono hb6.size)⟩
            · rw [HPO.out] at hn; cases hn
          · exfalso
            have := HO.out
            rcases hn with hn | hn
            · subst hn; simp at this
            · rw [hn] at this; simp at this
  · go_enter Tryd.func7, Tryd.ntmps7
    go_wp2_with fail
    refine (known_any _ HOK.out).mono ?_
    rintro e w1 ⟨rfl, hb1⟩
    go_wp2
    go_ret
    exact ⟨rfl, hb1⟩
end Go.Proofs.YtnoifjkgimlfaaaDoor
