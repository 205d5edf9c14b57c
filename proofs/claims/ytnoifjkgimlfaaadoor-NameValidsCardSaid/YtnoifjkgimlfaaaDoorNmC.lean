/-
  The walks of slices.IndexFunc and ContainsFunc at lists of texts, of package name's 'all', and of Split.
-/
import Derived.Test.YtnoifjkgimlfaaaDoorNmB
import Derived.Shelf.Abstract
namespace Go.Proofs.YtnoifjkgimlfaaaDoor
open Go.RowKit Go.Cold

/-- A function value that decides a text: behind whatever world that left alone what was there. -/
structure PredS (g : FuncId) (caps : Array Value) (w : World) (p : ByteArray → Bool) : Prop where
  enters : ∀ args w, (callFunc g args).run Tryd.prog w = .ok (.enter g args) w
  gives : ∀ (x : ByteArray) (W : World), x.size ≤ maxLen → Below w.heap.size w W → Calls Tryd.prog g (#[.string x] ++ caps) W fun e W' => e = .returned (.bool (p x)) ∧ Below W.heap.size W W'
theorem PredS.next {g : FuncId} {caps : Array Value} {w w' : World} {p : ByteArray → Bool} (h : PredS g caps w p) (hb : Below w.heap.size w w') : PredS g caps w' p :=
  ⟨h.enters, fun x W hx hW => h.gives x W hx (hb.trans (hW.mono hb.size))⟩

set_option maxRecDepth 10000 in
/-- slices.IndexFunc at a list of texts. -/
theorem IndexFunc_any (A : Option Addr) (c : Nat) (xs : List ByteArray) (g : FuncId) (caps : Array Value) (p : ByteArray → Bool) (w : World) (hx : Sl w w.heap.size A c xs) (hp : PredS g caps w p) :
    Calls Tryd.prog 79 #[.slice A xs.length c, .func (.func g) #[] caps] w fun e w' => e = .returned (.int .i64 (idxInt p xs)) ∧ Below w.heap.size w w' := by
  have hc := hx.1; have hc2 := hx.2.1
  unfold maxLen at hc2
  have hen := hp.enters
  have HP := Lib.hid hp; clear hp
  have HSl := Lib.hid hx; clear hx
  go_enter Tryd.func79, Tryd.ntmps79
  go_wp2
  go_loopw [8] (fun i wr => ∃ k : Nat, k ≤ xs.length ∧ i = .int .i64 k ∧ Hid ((xs.take k).all (fun x => !p x) = true) ∧ Below w.heap.size w wr) (fun i _ => xs.length - (intOf i).toNat)
  case atStart => exact ⟨0, Nat.zero_le _, rfl, rfl, Below.refl _ _⟩
  case round =>
    obtain ⟨k, hk, rfl, HA, hb⟩ := hrel
    by_cases hlt : k < xs.length
    · obtain ⟨b3, o3, rfl, hb3, cx, hsz⟩ := (HSl.out.keep hb).str hlt
      have hxk : xs[k]? = some xs[k] := List.getElem?_eq_getElem hlt
      obtain ⟨x, hx⟩ : ∃ x, xs[k] = x := ⟨_, rfl⟩
      rw [hx] at cx hsz hxk
      have HX := Lib.hid hxk; clear hxk
      have HXX := Lib.hid hx; clear hx
      have i1 : (k : Int) < (xs.length : Int) := by omega
      go_wp2_with fail
      have hcall := HP.out.gives x wr hsz hb
      refine Calls.mono (R := fun e W' => e = .returned (.bool (p x)) ∧ Below wr.heap.size wr W') ?_ ?_
      · first | exact hcall | simpa using hcall
      rintro e w1 ⟨rfl, hb1⟩
      have hb2 := hb.trans (hb1.mono hb.size)
      clear hcall hb1 hb cx
      cases hpx : p x with
      | true =>
        have HPX := Lib.hid hpx; clear hpx
        go_wp2
        go_ret
        exact ⟨ret_int (idxInt_some hlt HA.out (by rw [HXX.out]; exact HPX.out)).symm, hb2⟩
      | false =>
        have HPX := Lib.hid hpx; clear hpx
        go_wp2
        go_roundw
        case rel => exact ⟨k + 1, by omega, by go_num, all_step HA.out HX.out (by rw [HPX.out]; rfl), hb2⟩
        case measure => simp [intOf]; omega
    · go_wp2
      go_ret
      exact ⟨ret_int (idxInt_none (all_end HA.out (by omega))).symm, hb⟩

/-- slices.ContainsFunc at a list of texts. -/
theorem ContainsFunc_any (A : Option Addr) (c : Nat) (xs : List ByteArray) (g : FuncId) (caps : Array Value) (p : ByteArray → Bool) (w : World) (hx : Sl w w.heap.size A c xs) (hp : PredS g caps w p) :
    Calls Tryd.prog 61 #[.slice A xs.length c, .func (.func g) #[] caps] w fun e w' => e = .returned (.bool (xs.any p)) ∧ Below w.heap.size w w' := by
  have HP := Lib.hid hp; clear hp
  have HSl := Lib.hid hx; clear hx
  go_enter Tryd.func61, Tryd.ntmps61
  go_wp2_with fail
  refine (IndexFunc_any A c xs g caps p w HSl.out HP.out).mono ?_
  rintro e w1 ⟨rfl, hb1⟩
  go_wp2
  go_ret
  exact ⟨ret_bool (idxInt_any _ _), hb1⟩

/-- all$1: the opposite of a test. -/
theorem all1_any (g : FuncId) (caps : Array Value) (p : ByteArray → Bool) (w : World) (b : Nat) (hb : b < w.heap.size) (hc : w.cell? ⟨b, 0, none⟩ = some (.func (.func g) #[] caps)) (hp : PredS g caps w p) :
    PredS 62 #[.pointer (some ⟨b, 0, none⟩)] w (fun x => !p x) := by
  refine ⟨enters_of Tryd.func62 (by kernel_rfl) rfl, fun x W hx hW => ?_⟩
  have hcell := (hW.cell (p := ⟨b, 0, none⟩) hb).trans hc
  have hen := hp.enters
  have HP := Lib.hid hp; clear hp hc
  go_enter Tryd.func62, Tryd.ntmps62
  go_wp2_with fail
  have hcall := HP.out.gives x W hx hW
  refine Calls.mono (R := fun e W' => e = .returned (.bool (p x)) ∧ Below W.heap.size W W') ?_ ?_
  · first | exact hcall | simpa using hcall
  rintro e w1 ⟨rfl, hb1⟩
  clear hcall
  go_wp2
  go_ret
  exact ⟨rfl, hb1⟩

/-- all. -/
theorem all_any (A : Option Addr) (c : Nat) (xs : List ByteArray) (g : FuncId) (caps : Array Value) (p : ByteArray → Bool) (w : World) (hx : Sl w w.heap.size A c xs) (hp : PredS g caps w p) :
    Calls Tryd.prog 40 #[.slice A xs.length c, .func (.func g) #[] caps] w fun e w' => e = .returned (.bool (xs.all p)) ∧ Below w.heap.size w w' := by
  have HP := Lib.hid hp; clear hp
  have HSl := Lib.hid hx; clear hx
  go_enter Tryd.func40, Tryd.ntmps40
  go_wp2_with fail
  have hba : Below w.heap.size w (w.alloc (Obj.cells #[Value.func (Fn.func g) #[] caps] 30)) := (Below.refl _ _).alloc (Nat.le_refl _) _
  have hsz : (w.alloc (Obj.cells #[Value.func (Fn.func g) #[] caps] 30)).heap.size = w.heap.size + 1 := by simp
  have hpa := all1_any g caps p (w.alloc (Obj.cells #[Value.func (Fn.func g) #[] caps] 30)) w.heap.size (by rw [hsz]; omega) (by rw [World.cell?_alloc_at _ _ _ _ rfl]; rfl) (HP.out.next hba)
  refine (ContainsFunc_any A c xs _ _ _ _ (HSl.out.next (Nat.le_refl _) hba) hpa).mono ?_
  rintro e w1 ⟨rfl, hb1⟩
  have hb2 := hba.trans (hb1.mono hba.size)
  clear hba hsz hpa hb1
  obtain ⟨r, hr⟩ : ∃ r, xs.any (fun x => !p x) = r := ⟨_, rfl⟩
  rw [hr]
  have HR := Lib.hid hr; clear hr
  go_wp2
  go_ret
  refine ⟨ret_bool ?_, hb2⟩
  rw [← HR.out, List.not_any_eq_all_not]
  simp

theorem valid_pred (w : World) : PredS 30 #[] w validB :=
  ⟨enters_of Tryd.func30 (by kernel_rfl) rfl, fun x W hx _ => by simpa using Valid_any x W hx⟩

/-- What all walks ask of the library's own variables. -/
def Ok (w : World) : Prop := ∃ m, w.cell? ⟨0, 0, none⟩ = some (.int .i64 m)
theorem Ok.next {w w' : World} (h : Ok w) (hb : Below w.heap.size w w') : Ok w' := by
  obtain ⟨m, hm⟩ := h
  exact ⟨m, (hb.cell (p := ⟨0, 0, none⟩) (block_lt_of_cell hm)).trans hm⟩

theorem CutSlash_any (s : ByteArray) (w : World) : Calls Tryd.prog 38 #[.string s, .string ⟨#[47]⟩] w fun e w' => e = .returned (.tuple #[.string (restOf s), .bool (slashB s)]) ∧ w = w' :=
  (Tryd.strings_CutPrefix s ⟨#[47]⟩ w).mono fun e w' ⟨he, hw⟩ => ⟨he, hw.symm⟩

/-- strings.Split at the slash. -/
theorem SplitSlash_any (s : ByteArray) (w : World) (hs : s.size < 4294967281) (hok : Ok w) : Calls Tryd.prog 39 #[.string s, .string ⟨#[47]⟩] w fun e w' =>
    ∃ A c, e = .returned (.slice A (piecesL s.data.toList).length c) ∧ Sl w' w'.heap.size A c (piecesL s.data.toList) ∧ Below w.heap.size w w' := by
  obtain ⟨m, hm⟩ := hok
  refine (Tryd.strings_Split s ⟨#[47]⟩ m w hs hm (by decide)).mono ?_
  rintro e w' ⟨rfl, rfl⟩
  have hlen := pieces_length s ⟨#[47]⟩ rfl
  have hcnt := splitOn_count 47 s.data.toList
  have hb : Below w.heap.size w (w.alloc (.cells ((Lib.splitB ⟨#[47]⟩ 0 (Lib.countB s ⟨#[47]⟩) s).map Value.string).toArray 9)) := (Below.refl _ _).alloc (Nat.le_refl _) _
  refine ⟨_, (piecesL s.data.toList).length, by rw [hlen], ?_, hb⟩
  refine Sl.ofStrs (Nat.le_refl _) ?_ (by simp) (fun x hx => ?_) (fun i x hx => ?_)
  · unfold piecesL maxLen; rw [List.length_map]; rw [ba_size] at hcnt; omega
  · have := pieces_sizes hx; rw [ba_size] at this; unfold maxLen; omega
  · rw [splitB_eq s ⟨#[47]⟩ rfl, World.cell?_alloc_at _ _ _ _ rfl]
    simp [hx]

/-- name.Split. -/
theorem Split_any (s : ByteArray) (w : World) (hs : s.size < 4294967281) (hok : Ok w) : Calls Tryd.prog 13 #[.string s] w fun e w' => Below w.heap.size w w' ∧
    ((∃ xs A c, pathOf s = some xs ∧ e = .returned (.tuple #[.slice A xs.length c, .int .i64 0]) ∧ Sl w' w'.heap.size A c xs) ∨
     (pathOf s = none ∧ e = .returned (.tuple #[.slice none 0 0, .int .i64 10]))) := by
  have HS := Lib.hid hs; clear hs
  go_enter Tryd.func13, Tryd.ntmps13
  go_wp2_with fail
  refine (CutSlash_any _ _).mono ?_
  rintro e w1 ⟨rfl, rfl⟩
  go_wp2_with fail
  refine (SplitSlash_any (restOf s) w (by have := HS.out; have := restOf_size s; omega) hok).mono ?_
  rintro e w1 ⟨A, c, rfl, hsl, hb⟩
  have HSl := Lib.hid hsl; clear hsl
  cases hp : slashB s with
  | false =>
    have HP := Lib.hid hp; clear hp
    go_wp2
    go_ret2
    exact ⟨hb, .inr ⟨pathOf_no HP.out, rfl⟩⟩
  | true =>
    have HP := Lib.hid hp; clear hp
    obtain ⟨xs, hx⟩ : ∃ xs, piecesL (restOf s).data.toList = xs := ⟨_, rfl⟩
    rw [hx] at HSl ⊢
    have HX := Lib.hid hx; clear hx
    go_wp2_with fail
    refine (all_any A c xs _ _ _ w1 HSl.out (valid_pred w1)).mono ?_
    rintro e w2 ⟨rfl, hb2⟩
    have hb3 := hb.trans (hb2.mono hb.size)
    have HSl2 := Lib.hid (HSl.out.next (Nat.le_refl _) hb2)
    clear hb hb2 HSl
    cases ha : xs.all validB with
    | false =>
      have HA := Lib.hid ha; clear ha
      go_wp2
      go_ret2
      exact ⟨hb3, .inr ⟨pathOf_bad (by rw [HX.out]; exact HA.out), rfl⟩⟩
    | true =>
      have HA := Lib.hid ha; clear ha
      go_wp2
      go_ret2
      exact ⟨hb3, .inl ⟨xs, A, c, by rw [pathOf_yes HP.out (by rw [HX.out]; exact HA.out), HX.out], rfl, HSl2.out⟩⟩
end Go.Proofs.YtnoifjkgimlfaaaDoor
