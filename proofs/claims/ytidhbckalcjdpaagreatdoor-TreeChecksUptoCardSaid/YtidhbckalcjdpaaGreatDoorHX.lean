/-
  A device, and a list of devices, that came in, opened.
-/
import Derived.ChangeSlices
import Derived.ProofKit
import Derived.OpenShut
import Derived.WideKeyArgs
import Derived.Test.YtidhbckalcjdpaaGreatDoorHC
import Derived.Test.YtidhbckalcjdpaaGreatDoorRows
set_option linter.unusedSimpArgs false
set_option linter.unusedVariables false
namespace Go.Proofs.YtidhbckalcjdpaaGreatDoor
open Go.ChangeShapes Go.WideShapes Go.ChangeAt Go.RowKit Go.Cold
set_option maxRecDepth 100000
section
variable {H : Type} {enc : TypeId × Value → H}
theorem ncells_int : Tryz.prog.cellsOf 3 = 1 := by kernel_rfl
theorem ncells_str : Tryz.prog.cellsOf 9 = 1 := by kernel_rfl
theorem ncells_attrs : Tryz.prog.cellsOf 32 = 1 := by kernel_rfl
theorem ncells_attr : Tryz.prog.cellsOf 96 = 2 := by kernel_rfl
theorem ncells_dev : Tryz.prog.cellsOf 34 = 10 := by kernel_rfl
theorem wit_list {α : Type} {p : Nat → α → Prop} : ∀ n : Nat, (∀ i, i < n → ∃ x, p i x) → ∃ xs : List α, xs.length = n ∧ ∀ (i : Nat) x, xs[i]? = some x → p i x
 | 0, _ => ⟨[], rfl, fun i x h => by simp at h⟩
 | n + 1, h => by
  obtain ⟨xs, h1, h2⟩ := wit_list n (fun i hi => h i (by omega))
  obtain ⟨y, hy⟩ := h n (by omega)
  refine ⟨xs ++ [y], by simp [h1], fun i x hx => ?_⟩
  by_cases hi : i < xs.length
  · rw [List.getElem?_append_left hi] at hx; exact h2 i x hx
  ·
   rw [List.getElem?_append_right (by omega)] at hx
   have hi0 : i - xs.length = 0 := by
    have := (List.getElem?_eq_some_iff.1 hx).1
    simp at this; omega
   rw [hi0] at hx
   simp at hx
   subst hx
   rw [show i = n by omega]; exact hy
theorem wf_okI {n : Int} (h : (Lit.int .i64 n).wf = true) : okI n := by
 simp only [Lit.wf, Bool.and_eq_true, decide_eq_true_eq] at h
 exact ⟨h.1, h.2⟩
theorem sl_each {α : Type} [RepS α] {W : World} {a : Addr} {len cap : Nat} (hlc : len ≤ cap) (hcm : cap ≤ maxLen)
  (each : ∀ j, j < len → ∃ x : α, ∃ ds, Rep.rd W W.heap.size x ds ∧ W.cells? 0 (a.add (j * Rep.size α)) (Rep.size α) = some ds) : ∃ xs : List α, xs.length = len ∧ Sl W W.heap.size (some a) cap xs := by
 obtain ⟨xs, hl, hxs⟩ := wit_list len each
 subst hl
 refine ⟨xs, rfl, hlc, hcm, fun h0 => ?_⟩
 have hpos := RepS.pos (α := α)
 obtain ⟨x0, ds0, hr0, h00⟩ := each 0 h0
 have hb := World.cells?_block h00 (by omega)
 have eb : (a.add (0 * Rep.size α)).block = a.block := by unfold Addr.add; split <;> rfl
 rw [eb] at hb
 obtain ⟨-, hs00, hs0⟩ := World.cells?_some h00
 have h000 := hs0 0 (by omega)
 have hspot : a.spot = none := by
  cases hs : a.spot with
  | none => rfl
  | some z =>
   exfalso
   have hlen0 : 0 < ds0.length := by rw [Rep.len hr0]; exact hpos
   rw [List.getElem?_eq_getElem hlen0] at h000
   simp [World.cell?, Addr.add, hs] at h000
   split at h000 <;> simp_all
 obtain ⟨b, o, sp⟩ := a
 simp only at hspot
 subst hspot
 refine ⟨b, o, rfl, hb, fun j x hx => ?_⟩
 obtain ⟨ds, h1, h2⟩ := hxs j x hx
 refine ⟨ds, h1, fun q u hu => ?_⟩
 obtain ⟨-, hdl, hds⟩ := World.cells?_some h2
 have hq : q < Rep.size α := by have := (List.getElem?_eq_some_iff.1 hu).1; have := Rep.len h1; omega
 have h3 := hds q hq
 rw [hu, add_mk, add_mk] at h3
 show W.cell? ⟨b, o + (j * Rep.size α + q), none⟩ = some u
 rw [← Nat.add_assoc]
 exact h3
theorem trod_attr {W : World} {fuel : Nat} {cs : List Value} {x : DataW H × List MemPlace} (h : DataW.trod enc Tryz.prog W 0 (fun _ => true) true fuel 96 cs = some x) : ∃ a : Attr, Rep.rd W W.heap.size a cs := by
 obtain ⟨xs, n, rfl, -, hl, hlen, hf⟩ := DataW.trod_struct Tryz.underlying96 h
 rw [ncells_attr] at hl
 match cs, hl with
 | [c0, c1], _ =>
 have hx7 : xs.length = 2 := hlen
 have f0 : DataW.trod enc Tryz.prog W 0 (fun _ => true) true n 9 (([c0, c1].drop 0).take (Tryz.prog.cellsOf 9)) = xs[0]? := hf 0 _ rfl
 have f1 : DataW.trod enc Tryz.prog W 0 (fun _ => true) true n 9 (([c0, c1].drop 1).take (Tryz.prog.cellsOf 9)) = xs[1]? := hf 1 _ rfl
 rw [List.getElem?_eq_getElem (by omega)] at f0 f1
 rw [ncells_str] at f0 f1
 simp only [List.drop_succ_cons, List.drop_zero, List.take_succ_cons, List.take_zero] at f0 f1
 obtain ⟨i, e0, -, w0⟩ := DataW.trod_string Tryz.underlying9 f0
 obtain ⟨l, e1, -, w1⟩ := DataW.trod_string Tryz.underlying9 f1
 simp only [List.cons.injEq, and_true] at e0 e1
 subst e0 e1
 exact ⟨⟨i, l⟩, rfl, w0, w1⟩
theorem trod_dev {W : World} {fuel : Nat} {cs : List Value} {x : DataW H × List MemPlace} (h : DataW.trod enc Tryz.prog W 0 (fun _ => true) true fuel 34 cs = some x) : ∃ d : Dev, DRd W W.heap.size d cs := by
 obtain ⟨xs, n, rfl, -, hl, hlen, hf⟩ := DataW.trod_struct Tryz.underlying34 h
 rw [ncells_dev] at hl
 match cs, hl with
 | [c0, c1, c2, c3, c4, c5, c6, c7, c8, c9], _ =>
 have hx7 : xs.length = 10 := hlen
 have f0 : DataW.trod enc Tryz.prog W 0 (fun _ => true) true n 3 (([c0, c1, c2, c3, c4, c5, c6, c7, c8, c9].drop 0).take (Tryz.prog.cellsOf 3)) = xs[0]? := hf 0 _ rfl
 have f1 : DataW.trod enc Tryz.prog W 0 (fun _ => true) true n 3 (([c0, c1, c2, c3, c4, c5, c6, c7, c8, c9].drop 1).take (Tryz.prog.cellsOf 3)) = xs[1]? := hf 1 _ rfl
 have f2 : DataW.trod enc Tryz.prog W 0 (fun _ => true) true n 9 (([c0, c1, c2, c3, c4, c5, c6, c7, c8, c9].drop 2).take (Tryz.prog.cellsOf 9)) = xs[2]? := hf 2 _ rfl
 have f3 : DataW.trod enc Tryz.prog W 0 (fun _ => true) true n 9 (([c0, c1, c2, c3, c4, c5, c6, c7, c8, c9].drop 3).take (Tryz.prog.cellsOf 9)) = xs[3]? := hf 3 _ rfl
 have f4 : DataW.trod enc Tryz.prog W 0 (fun _ => true) true n 9 (([c0, c1, c2, c3, c4, c5, c6, c7, c8, c9].drop 4).take (Tryz.prog.cellsOf 9)) = xs[4]? := hf 4 _ rfl
 have f5 : DataW.trod enc Tryz.prog W 0 (fun _ => true) true n 9 (([c0, c1, c2, c3, c4, c5, c6, c7, c8, c9].drop 5).take (Tryz.prog.cellsOf 9)) = xs[5]? := hf 5 _ rfl
 have f6 : DataW.trod enc Tryz.prog W 0 (fun _ => true) true n 9 (([c0, c1, c2, c3, c4, c5, c6, c7, c8, c9].drop 6).take (Tryz.prog.cellsOf 9)) = xs[6]? := hf 6 _ rfl
 have f7 : DataW.trod enc Tryz.prog W 0 (fun _ => true) true n 3 (([c0, c1, c2, c3, c4, c5, c6, c7, c8, c9].drop 7).take (Tryz.prog.cellsOf 3)) = xs[7]? := hf 7 _ rfl
 have f8 : DataW.trod enc Tryz.prog W 0 (fun _ => true) true n 3 (([c0, c1, c2, c3, c4, c5, c6, c7, c8, c9].drop 8).take (Tryz.prog.cellsOf 3)) = xs[8]? := hf 8 _ rfl
 have f9 : DataW.trod enc Tryz.prog W 0 (fun _ => true) true n 32 (([c0, c1, c2, c3, c4, c5, c6, c7, c8, c9].drop 9).take (Tryz.prog.cellsOf 32)) = xs[9]? := hf 9 _ rfl
 rw [List.getElem?_eq_getElem (by omega)] at f0 f1 f2 f3 f4 f5 f6 f7 f8 f9
 rw [ncells_int] at f0 f1 f7 f8
 rw [ncells_str] at f2 f3 f4 f5 f6
 rw [ncells_attrs] at f9
 simp only [List.drop_succ_cons, List.drop_zero, List.take_succ_cons, List.take_zero] at f0 f1 f2 f3 f4 f5 f6 f7 f8 f9
 obtain ⟨z0, e0, -, w0⟩ := DataW.trod_int Tryz.underlying3 f0
 obtain ⟨z1, e1, -, w1⟩ := DataW.trod_int Tryz.underlying3 f1
 obtain ⟨z2, e2, -, w2⟩ := DataW.trod_string Tryz.underlying9 f2
 obtain ⟨z3, e3, -, w3⟩ := DataW.trod_string Tryz.underlying9 f3
 obtain ⟨z4, e4, -, w4⟩ := DataW.trod_string Tryz.underlying9 f4
 obtain ⟨z5, e5, -, w5⟩ := DataW.trod_string Tryz.underlying9 f5
 obtain ⟨z6, e6, -, w6⟩ := DataW.trod_string Tryz.underlying9 f6
 obtain ⟨z7, e7, -, w7⟩ := DataW.trod_int Tryz.underlying3 f7
 obtain ⟨z8, e8, -, w8⟩ := DataW.trod_int Tryz.underlying3 f8
 simp only [List.cons.injEq, and_true] at e0 e1 e2 e3 e4 e5 e6 e7 e8
 subst e0 e1 e2 e3 e4 e5 e6 e7 e8
 have hok : ∀ l, devOk ⟨z0, z1, z2, z3, z4, z5, z6, z7, z8, l⟩ := fun l => ⟨wf_okI w0, wf_okI w1, w2, w3, w4, w5, w6, wf_okI w7, wf_okI w8⟩
 rcases DataW.trod_slice Tryz.underlying32 f9 with ⟨e6, -⟩ | ⟨a, len, cap, elems, rest, m, rfl, e6, -, -, hlc, hcm, hel, hat, -, -⟩
 ·
  simp only [List.cons.injEq, and_true] at e6
  subst e6
  exact ⟨⟨z0, z1, z2, z3, z4, z5, z6, z7, z8, []⟩, DRd_iff.2 ⟨none, 0, rfl, hok _, Sl.nil_⟩⟩
 ·
  simp only [List.cons.injEq, and_true] at e6
  subst e6
  have each : ∀ j, j < len → ∃ x : Attr, ∃ ds, Rep.rd W W.heap.size x ds ∧ W.cells? 0 (a.add (j * 2)) 2 = some ds := by
   intro j hj
   have h1 := hat j hj
   rw [List.getElem?_eq_getElem (by omega), ncells_attr, Option.bind_eq_some_iff] at h1
   obtain ⟨ds, h2, h3⟩ := h1
   obtain ⟨C, hC⟩ := trod_attr h3
   exact ⟨C, ds, hC, h2⟩
  obtain ⟨ats, hal, has⟩ := sl_each hlc hcm each
  subst hal
  exact ⟨⟨z0, z1, z2, z3, z4, z5, z6, z7, z8, ats⟩, DRd_iff.2 ⟨some a, cap, rfl, hok _, has⟩⟩
theorem open_dev {W : World} {base : Nat} {v : Value} {d : DataW H} {ps : List MemPlace} (hok : Value.okWide Tryz.prog W .any base 34 v) (h : DataW.Trod enc Tryz.prog W 0 (fun _ => true) true 34 v d ps) :
  ∃ (D : Dev) (A : Option Addr) (c : Nat), v = .agg #[.int .i64 D.idx, .int .i64 D.par, .string D.nm, .string D.orig, .string D.sub, .string D.drv, .string D.ali, .int .i64 D.kind, .int .i64 D.num, .slice A D.attrs.length c] ∧ devOk D ∧ Sl W W.heap.size A c D.attrs := by
 obtain ⟨cs, rfl, -⟩ := okWide_struct Tryz.underlying34 hok
 obtain ⟨fuel, hf⟩ := h
 obtain ⟨D, hD⟩ := trod_dev hf
 obtain ⟨A, c, h1, h2, h3⟩ := DRd_iff.1 hD
 refine ⟨D, A, c, ?_, h2, h3⟩
 have h4 : cs.toList = devCells D A c := by simpa [Value.cells] using h1
 have h5 : cs = (devCells D A c).toArray := by rw [← h4]
 rw [h5]; rfl
theorem open_devs {W : World} {base : Nat} {v : Value} {d : DataW H} {ps : List MemPlace} (hok : Value.okWide Tryz.prog W .any base 22 v) (h : DataW.Trod enc Tryz.prog W 0 (fun _ => true) true 22 v d ps) :
  ∃ (A : Option Addr) (c : Nat) (L : List Dev), v = .slice A L.length c ∧ Sl W W.heap.size A c L := by
 obtain ⟨a0, len0, cap0, rfl⟩ := okWide_slice Tryz.underlying22 hok
 obtain ⟨fuel, hf⟩ := h
 rcases DataW.trod_slice Tryz.underlying22 hf with ⟨e6, -⟩ | ⟨a, len, cap, elems, rest, m, rfl, e6, -, -, hlc, hcm, hel, hat, -, -⟩
 ·
  simp [Value.cells] at e6
  obtain ⟨rfl, rfl, rfl⟩ := e6
  exact ⟨none, 0, [], rfl, Sl.nil_⟩
 ·
  simp [Value.cells] at e6
  obtain ⟨rfl, rfl, rfl⟩ := e6
  have each : ∀ j, j < len0 → ∃ x : Dev, ∃ ds, Rep.rd W W.heap.size x ds ∧ W.cells? 0 (a.add (j * 10)) 10 = some ds := by
   intro j hj
   have h1 := hat j hj
   rw [List.getElem?_eq_getElem (by omega), ncells_dev, Option.bind_eq_some_iff] at h1
   obtain ⟨ds, h2, h3⟩ := h1
   obtain ⟨C, hC⟩ := trod_dev h3
   exact ⟨C, ds, hC, h2⟩
  obtain ⟨L, hal, has⟩ := sl_each hlc hcm each
  subst hal
  exact ⟨some a, cap0, L, rfl, has⟩
end
end Go.Proofs.YtidhbckalcjdpaaGreatDoor
namespace Go.Proofs.YtidhbckalcjdpaaGreatDoor
open Go.ChangeShapes Go.WideShapes Go.ChangeAt Go.RowKit Go.Cold
set_option maxRecDepth 100000
section
variable {H : Type} {enc : TypeId × Value → H}
theorem bulk_in {d : DataW H} : ∀ {l : List (DataW H)}, d ∈ l → Rows.uptoBulk d ≤ Rows.uptoBulkAll l
 | [], h => by cases h
 | e :: l, h => by
  rw [Rows.uptoBulkAll]
  rcases List.mem_cons.1 h with rfl | h
  · omega
  · have := bulk_in h; omega
theorem trod_dev_bulk {W : World} {fuel : Nat} {cs : List Value} {x : DataW H × List MemPlace} (h : DataW.trod enc Tryz.prog W 0 (fun _ => true) true fuel 34 cs = some x) {d : Dev} {B : Nat} (hd : DRd W B d cs) : d.orig.size ≤ Rows.uptoBulk x.1 := by
 obtain ⟨xs, n, rfl, rfl, hl, hlen, hf⟩ := DataW.trod_struct Tryz.underlying34 h
 obtain ⟨A, c, rfl, -, -⟩ := DRd_iff.1 hd
 have hx7 : xs.length = 10 := hlen
 have f3 : DataW.trod enc Tryz.prog W 0 (fun _ => true) true n 9 (((devCells d A c).drop 3).take (Tryz.prog.cellsOf 9)) = xs[3]? := hf 3 _ rfl
 rw [List.getElem?_eq_getElem (by omega), ncells_str] at f3
 obtain ⟨s, e1, e2, -⟩ := DataW.trod_string Tryz.underlying9 f3
 have e3 : d.orig = s := by
  have e4 : [Value.string d.orig] = [Value.string s] := e1
  injection e4 with e5 e6
  injection e5
 have h2 : xs[3].1 ∈ xs.map (·.1) := List.mem_map.2 ⟨xs[3], List.getElem_mem _, rfl⟩
 have h3 := bulk_in h2
 rw [e2, Rows.uptoBulk] at h3
 rw [Rows.uptoBulk, e3]
 have h4 : s.data.toList.length = s.size := Array.length_toList
 omega
theorem open_devU {W : World} {base : Nat} {v : Value} {d : DataW H} {ps : List MemPlace} (hok : Value.okWide Tryz.prog W .any base 34 v) (h : DataW.Trod enc Tryz.prog W 0 (fun _ => true) true 34 v d ps) :
  ∃ (D : Dev) (A : Option Addr) (c : Nat), v = .agg #[.int .i64 D.idx, .int .i64 D.par, .string D.nm, .string D.orig, .string D.sub, .string D.drv, .string D.ali, .int .i64 D.kind, .int .i64 D.num, .slice A D.attrs.length c] ∧ devOk D ∧ Sl W W.heap.size A c D.attrs ∧ D.orig.size ≤ Rows.uptoBulk d := by
 obtain ⟨cs, rfl, -⟩ := okWide_struct Tryz.underlying34 hok
 obtain ⟨fuel, hf⟩ := h
 obtain ⟨D, hD⟩ := trod_dev hf
 have hbk := trod_dev_bulk hf hD
 obtain ⟨A, c, h1, h2, h3⟩ := DRd_iff.1 hD
 refine ⟨D, A, c, ?_, h2, h3, hbk⟩
 have h4 : cs.toList = devCells D A c := by simpa [Value.cells] using h1
 have h5 : cs = (devCells D A c).toArray := by rw [← h4]
 rw [h5]; rfl
theorem open_devsU {W : World} {base : Nat} {v : Value} {d : DataW H} {ps : List MemPlace} (hok : Value.okWide Tryz.prog W .any base 22 v) (h : DataW.Trod enc Tryz.prog W 0 (fun _ => true) true 22 v d ps) :
  ∃ (A : Option Addr) (c : Nat) (L : List Dev), v = .slice A L.length c ∧ Sl W W.heap.size A c L ∧ ∀ D ∈ L, D.orig.size ≤ Rows.uptoBulk d := by
 obtain ⟨a0, len0, cap0, rfl⟩ := okWide_slice Tryz.underlying22 hok
 obtain ⟨fuel, hf⟩ := h
 rcases DataW.trod_slice Tryz.underlying22 hf with ⟨e6, -⟩ | ⟨a, len, cap, elems, rest, m, rfl, e6, e7, -, hlc, hcm, hel, hat, -, -⟩
 ·
  simp [Value.cells] at e6
  obtain ⟨rfl, rfl, rfl⟩ := e6
  exact ⟨none, 0, [], rfl, Sl.nil_, fun D hD => by cases hD⟩
 ·
  simp [Value.cells] at e6
  obtain ⟨rfl, rfl, rfl⟩ := e6
  have hdd : d = .slice (elems.map (·.1)) (rest.map (·.1)) := congrArg Prod.fst e7
  subst hdd
  have each : ∀ j, j < len0 → ∃ x : Dev, ∃ ds, (Rep.rd W W.heap.size x ds ∧ W.cells? 0 (a.add (j * 10)) 10 = some ds) ∧ x.orig.size ≤ Rows.uptoBulk (.slice (elems.map (·.1)) (rest.map (·.1)) : DataW H) := by
   intro j hj
   have h1 := hat j hj
   rw [List.getElem?_eq_getElem (by omega), ncells_dev, Option.bind_eq_some_iff] at h1
   obtain ⟨ds, h2, h3⟩ := h1
   obtain ⟨C, hC⟩ := trod_dev h3
   have hb := trod_dev_bulk h3 hC
   refine ⟨C, ds, ⟨hC, h2⟩, ?_⟩
   have h4 := bulk_in (List.mem_map.2 ⟨elems[j]'(by omega), List.getElem_mem _, rfl⟩ : (elems[j]'(by omega)).1 ∈ elems.map (·.1))
   rw [Rows.uptoBulk]
   omega
  obtain ⟨L0, hl0, hL0⟩ := wit_list len0 each
  have each2 : ∀ j, j < len0 → ∃ x : Dev, ∃ ds, Rep.rd W W.heap.size x ds ∧ W.cells? 0 (a.add (j * 10)) 10 = some ds := fun j hj => by
   obtain ⟨x, ds, h1, -⟩ := each j hj
   exact ⟨x, ds, h1⟩
  obtain ⟨L, hal, has⟩ := sl_each hlc hcm each2
  subst hal
  refine ⟨some a, cap0, L, rfl, has, fun D hD => ?_⟩
  obtain ⟨j, hj, hjD⟩ := List.getElem_of_mem hD
  obtain ⟨b, o, e, -, cs, hr, hcs⟩ := has.at_ hj
  obtain ⟨x, ds, ⟨h1, h2⟩, h3⟩ := each j hj
  obtain ⟨A1, c1, rfl, -, -⟩ := DRd_iff.1 hr
  obtain ⟨A3, c3, rfl, -, -⟩ := DRd_iff.1 h1
  obtain rfl := Option.some.inj e
  obtain ⟨-, hdl, hds⟩ := World.cells?_some h2
  have q1 := hds 3 (by decide)
  have q2 := hcs 3 _ (rfl : (devCells L[j] A1 c1)[3]? = some (.string L[j].orig))
  rw [add_mk, add_mk] at q1
  have q3 : W.cell? ⟨b, o + (j * 10 + 3), none⟩ = some (.string L[j].orig) := q2
  have q4 : W.cell? ⟨b, o + j * 10 + 3, none⟩ = some (.string x.orig) := q1
  rw [← Nat.add_assoc] at q3
  have q5 := q3.symm.trans q4
  injection q5 with q6
  injection q6 with q7
  rw [← hjD, q7]
  exact h3
end
end Go.Proofs.YtidhbckalcjdpaaGreatDoor
