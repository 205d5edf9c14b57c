/-
  The walks of layer 7: depths.
-/
import Derived.Test.YtnlocdhhecockaaGreatDoorRows
import Derived.Test.YtnlocdhhecockaaGreatDoorOwn
import Derived.Test.YtnlocdhhecockaaGreatDoorCnP
import Derived.Test.YtnlocdhhecockaaGreatDoorShelf
set_option linter.unusedSimpArgs false
set_option linter.unusedVariables false
namespace Go.Cold
open Go Go.RowKit
noncomputable def szC (a : Cont) : Nat := SizeOf.sizeOf a
theorem szC_mem {k : Int} {i l : ByteArray} {s t e : Int} {xs : List Cont} {x : Cont} (h : x ∈ xs) : szC x < szC (.mk k i l s t e xs) := by
  have := List.sizeOf_lt_of_mem h
  unfold szC
  simp only [Cont.mk.sizeOf_spec]
  omega
theorem depthL_app (x : Cont) : ∀ xs : List Cont, depthL (xs ++ [x]) = max (depthL xs) (depthC x)
  | [] => by rw [List.nil_append, depthL, depthL, depthL, Int.max_comm]
  | y :: ys => by rw [List.cons_append, depthL, depthL, depthL_app x ys, Int.max_assoc]
theorem depthL_mem : ∀ {xs : List Cont} {x : Cont}, x ∈ xs → depthC x ≤ depthL xs
  | y :: ys, x, h => by
    rw [depthL]
    rcases List.mem_cons.1 h with rfl | h
    · omega
    · have := depthL_mem h; omega
mutual
theorem depthC_nonneg : ∀ a : Cont, 0 ≤ depthC a
  | .mk k _ _ _ _ _ xs => by
    have := depthL_nonneg xs
    rw [depthC]; split <;> omega
theorem depthL_nonneg : ∀ xs : List Cont, 0 ≤ depthL xs
  | [] => by rw [depthL]; omega
  | x :: xs => by
    have := depthC_nonneg x
    have := depthL_nonneg xs
    rw [depthL]; omega
end
theorem depthL_le {k : Int} {i l : ByteArray} {s t e : Int} {xs : List Cont} : depthL xs ≤ depthC (.mk k i l s t e xs) := by
  rw [depthC]; split <;> omega
/-- Seven cells that hold a content, one by one. -/
def Cells7 (w : World) (b o : Nat) (k : Int) (i l : ByteArray) (s t e : Int) (A : Option Addr) (n c : Nat) : Prop :=
  w.cell? ⟨b, o, none⟩ = some (.int .i64 k) ∧ w.cell? ⟨b, o + 1, none⟩ = some (.string i) ∧ w.cell? ⟨b, o + 2, none⟩ = some (.string l) ∧ w.cell? ⟨b, o + 3, none⟩ = some (.int .i64 s) ∧
    w.cell? ⟨b, o + 4, none⟩ = some (.int .i64 t) ∧ w.cell? ⟨b, o + 5, none⟩ = some (.int .i64 e) ∧ w.cell? ⟨b, o + 6, none⟩ = some (.slice A n c)
theorem cells7 {w : World} {b o : Nat} {k : Int} {i l : ByteArray} {s t e : Int} {A : Option Addr} {n c : Nat} (h : ∀ j u, (contCells k i l s t e A n c)[j]? = some u → w.cell? ⟨b, o + j, none⟩ = some u) :
    Cells7 w b o k i l s t e A n c :=
  ⟨h 0 _ rfl, h 1 _ rfl, h 2 _ rfl, h 3 _ rfl, h 4 _ rfl, h 5 _ rfl, h 6 _ rfl⟩
theorem Cells7.keep {w w' : World} {B b o : Nat} {k : Int} {i l : ByteArray} {s t e : Int} {A : Option Addr} {n c : Nat} (h : Cells7 w b o k i l s t e A n c) (hb : Below B w w') (hlt : b < B) : Cells7 w' b o k i l s t e A n c := by
  obtain ⟨h0, h1, h2, h3, h4, h5, h6⟩ := h
  exact ⟨(hb.cell (by exact hlt)).trans h0, (hb.cell (by exact hlt)).trans h1, (hb.cell (by exact hlt)).trans h2, (hb.cell (by exact hlt)).trans h3, (hb.cell (by exact hlt)).trans h4, (hb.cell (by exact hlt)).trans h5, (hb.cell (by exact hlt)).trans h6⟩
/-- The same, of a block's own first cells, as a walk says them. -/
theorem Cells7.zero {w : World} {b : Nat} {k : Int} {i l : ByteArray} {s t e : Int} {A : Option Addr} {n c : Nat} (h : Cells7 w b 0 k i l s t e A n c) :
    w.cell? ⟨b, 0, none⟩ = some (.int .i64 k) ∧ w.cell? ⟨b, 1, none⟩ = some (.string i) ∧ w.cell? ⟨b, 2, none⟩ = some (.string l) ∧ w.cell? ⟨b, 3, none⟩ = some (.int .i64 s) ∧
    w.cell? ⟨b, 4, none⟩ = some (.int .i64 t) ∧ w.cell? ⟨b, 5, none⟩ = some (.int .i64 e) ∧ w.cell? ⟨b, 6, none⟩ = some (.slice A n c) := by
  obtain ⟨h0, h1, h2, h3, h4, h5, h6⟩ := h
  exact ⟨h0, by simpa using h1, by simpa using h2, by simpa using h3, by simpa using h4, by simpa using h5, by simpa using h6⟩
/-- A content laid in a new block. -/
theorem box7 {w w0 : World} {ty : TypeId} {k : Int} {i l : ByteArray} {s t e : Int} {A : Option Addr} {n c : Nat}
    (h : w.alloc (.cells #[.int .i64 k, .string i, .string l, .int .i64 s, .int .i64 t, .int .i64 e, .slice A n c] ty) = w0) :
    Below w.heap.size w w0 ∧ w0.heap.size = w.heap.size + 1 ∧ Cells7 w0 w.heap.size 0 k i l s t e A n c := by
  subst h
  refine ⟨(Below.refl _ _).alloc (Nat.le_refl _) _, by simp, ?_⟩
  refine ⟨?_, ?_, ?_, ?_, ?_, ?_, ?_⟩ <;> (rw [World.cell?_alloc_at _ _ _ _ rfl]; rfl)
theorem cell_set_far (w : World) (a : Addr) (v : Value) (b o : Nat) (h : a.block ≠ b) : (w.setCell a v).cell? ⟨b, o, none⟩ = w.cell? ⟨b, o, none⟩ :=
  World.cell?_setCell_other w a ⟨b, o, none⟩ v (fun e => h (by rw [e]))
theorem box7f {w w0 : World} {ty : TypeId} {cs : Array Value} (h : w.alloc (.cells cs ty) = w0) : ∀ j, w0.frozen? ⟨w.heap.size, j, none⟩ = false := by
  subst h
  intro j
  exact World.frozen?_alloc_at _ _ _ _ rfl
/-- An element of a slice of contents. -/
theorem Sl.cont {w : World} {B c : Nat} {A : Option Addr} {xs : List Cont} (h : Sl w B A c xs) {i : Nat} (hi : i < xs.length) :
    ∃ b o, A = some ⟨b, o, none⟩ ∧ b < B ∧ ∃ cs, CRd w B xs[i] cs ∧ ∀ j u, cs[j]? = some u → w.cell? ⟨b, o + i * 7 + j, none⟩ = some u := by
  obtain ⟨b, o, e, hlt, cs, hr, hc⟩ := h.at_ hi
  exact ⟨b, o, e, hlt, cs, hr, fun j u hu => by have := hc j u hu; rwa [← Nat.add_assoc] at this⟩
end Go.Cold
namespace Go.Proofs.YtnlocdhhecockaaGreatDoor
open Go.RowKit Go.Cold

set_option maxRecDepth 100000 in
theorem Depth_all (N : Nat) : ∀ (a : Cont) (cs : List Value) (w : World), szC a < N → CRd w w.heap.size a cs → depthC a ≤ 2 ^ 60 → Calls Tryz.prog 10 #[.agg cs.toArray] w fun e w' => e = .returned (.int .i64 (depthC a)) ∧ Below w.heap.size w w' := by
  induction N with
  | zero => intro a cs w h; omega
  | succ N ih =>
    intro a cs w hsz hrd hdep
    obtain ⟨kk, i, l, s, t, e, xs⟩ := a
    obtain ⟨A, c, rfl, hok, hsl⟩ := CRd_iff.1 hrd
    clear hrd
    have IH := Lib.hid ih; clear ih
    have hx1 := hsl.1; have hx2 := hsl.2.1
    unfold maxLen at hx2
    have HSl := Lib.hid hsl; clear hsl
    have HSZ := Lib.hid hsz; clear hsz
    have HD := Lib.hid hdep; clear hdep
    have HOK := Lib.hid hok; clear hok
    simp only [contCells]
    obtain ⟨w0, hw0⟩ : ∃ w0, w.alloc (.cells #[.int .i64 kk, .string i, .string l, .int .i64 s, .int .i64 t, .int .i64 e, .slice A xs.length c] 31) = w0 := ⟨_, rfl⟩
    obtain ⟨hb0, hg0, hbox⟩ := box7 hw0
    obtain ⟨d0, d1, d2, d3, d4, d5, d6⟩ := hbox.zero
    go_enter Tryz.func10, Tryz.ntmps10
    go_wp2_with fail
    have HBOX := Lib.hid hbox; clear hbox hw0 d0 d1 d2 d3 d4 d5 d6
    generalize hgg : w.heap.size = g at *
    go_loopw [3, 9] (fun d i wr => ∃ k : Nat, k ≤ xs.length ∧ i = .int .i64 k ∧ d = .int .i64 (depthL (xs.take k)) ∧ Below w0.heap.size w0 wr) (fun _ i _ => xs.length - (intOf i).toNat)
    case atStart => exact ⟨0, Nat.zero_le _, rfl, by simp [depthL], Below.refl _ _⟩
    case round =>
      obtain ⟨k, hk, rfl, rfl, hb⟩ := hrel
      have hbw : Below g w wr := hb0.trans (hb.mono (by omega))
      by_cases hlt : k < xs.length
      · have hslr := HSl.out.next (by omega) (hgg ▸ hbw)
        obtain ⟨b3, o3, rfl, hb3, cs, hcs, hcells⟩ := hslr.cont hlt
        obtain ⟨x, hx⟩ : ∃ x, xs[k] = x := ⟨_, rfl⟩
        have hxm : x ∈ xs := hx ▸ List.getElem_mem hlt
        have htk : xs.take (k + 1) = xs.take k ++ [x] := by rw [← hx]; exact List.take_succ_eq_append_getElem hlt
        rw [hx] at hcs
        clear hslr
        have hszx := szC_mem (k := kk) (i := i) (l := l) (s := s) (t := t) (e := e) hxm
        have hdx : depthC x ≤ 2 ^ 60 := Int.le_trans (Int.le_trans (depthL_mem hxm) depthL_le) HD.out
        obtain ⟨kk2, i2, l2, s2, t2, e2, xs2⟩ := x
        obtain ⟨A2, c2, rfl, hok2, hsl2⟩ := CRd_iff.1 hcs
        obtain ⟨c0, c1, c2', c3, c4, c5, c6⟩ := cells7 hcells
        have i1 : (k : Int) < (xs.length : Int) := by omega
        obtain ⟨w1, hw1⟩ : ∃ w1, wr.alloc (.cells #[.int .i64 kk2, .string i2, .string l2, .int .i64 s2, .int .i64 t2, .int .i64 e2, .slice A2 xs2.length c2] 31) = w1 := ⟨_, rfl⟩
        obtain ⟨hb1, hg1, hbox1⟩ := box7 hw1
        obtain ⟨f0, f1, f2, f3, f4, f5, f6⟩ := hbox1.zero
        have hcall := IH.out (.mk kk2 i2 l2 s2 t2 e2 xs2) _ w1 (by have := HSZ.out; omega) (CRd_more (by omega) _ _ (CRd_keep hb1 _ _ hcs)) hdx
        clear hcells hcs hok2 hsl2 hx hxm hdx hszx
        have HCALL := Lib.hid hcall; clear hcall
        have HTK := Lib.hid htk; clear htk
        go_wp2_with fail
        refine HCALL.out.mono ?_
        rintro e' w2 ⟨rfl, hb2⟩
        have hdep : depthL (xs.take (k + 1)) = max (depthL (xs.take k)) (depthC (.mk kk2 i2 l2 s2 t2 e2 xs2)) := by rw [HTK.out, depthL_app]
        have hbn : Below w0.heap.size w0 w2 := hb.trans ((hb1.trans (hb2.mono hb1.size)).mono hb.size)
        obtain ⟨z, hz⟩ : ∃ z, depthC (.mk kk2 i2 l2 s2 t2 e2 xs2) = z := ⟨_, rfl⟩
        rw [hz] at hdep ⊢
        obtain ⟨y, hy⟩ : ∃ y, depthL (xs.take k) = y := ⟨_, rfl⟩
        rw [hy] at hdep ⊢
        have HDEP := Lib.hid hdep; clear hdep hz hy
        clear c0 c1 c2' c3 c4 c5 c6 f0 f1 f2 f3 f4 f5 f6 hw1 hbox1
        go_wp2
        go_roundw
        case rel => exact ⟨k + 1, by omega, by go_num, by rw [HDEP.out], hbn⟩
        case measure => simp [intOf]; omega
      · have hkk : k = xs.length := by omega
        subst hkk
        obtain ⟨d0, d1, d2, d3, d4, d5, d6⟩ := (HBOX.out.keep hb (by omega)).zero
        rw [List.take_length]
        have hd3 := depthL_nonneg xs
        by_cases hk0 : kk = 0
        · have hd : depthL xs = depthC (.mk kk i l s t e xs) := by rw [depthC, if_pos hk0]
          obtain ⟨y, hy⟩ : ∃ y, depthL xs = y := ⟨_, rfl⟩
          rw [hy] at hd ⊢
          have HDD := Lib.hid hd; clear hd hy hd3
          have hk1 : (kk == 0) = true := by simpa using hk0
          go_wp2
          go_ret
          exact ⟨ret_int HDD.out, by rw [hgg]; exact hbw⟩
        · have hd : depthL xs + 1 = depthC (.mk kk i l s t e xs) := by rw [depthC, if_neg hk0]
          have hd2 := HD.out
          rw [← hd] at hd2
          obtain ⟨y, hy⟩ : ∃ y, depthL xs = y := ⟨_, rfl⟩
          rw [hy] at hd hd2 hd3 ⊢
          have HDD := Lib.hid hd; clear hd hy
          have hk1 : (kk == 0) = false := by simpa using hk0
          go_wp2
          go_ret
          exact ⟨ret_int (by rw [← HDD.out]), by rw [hgg]; exact hbw⟩
theorem Depth_any (a : Cont) (cs : List Value) (w : World) (h : CRd w w.heap.size a cs) (hd : depthC a ≤ 2 ^ 60) : Calls Tryz.prog 10 #[.agg cs.toArray] w fun e w' => e = .returned (.int .i64 (depthC a)) ∧ Below w.heap.size w w' :=
  Depth_all _ a cs w (Nat.lt_succ_self _) h hd
end Go.Proofs.YtnlocdhhecockaaGreatDoor
