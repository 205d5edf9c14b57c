/-
  The walk of the reference's Insert.
-/
import Derived.Test.YtjpoljlgkgmdkaaGreatDoorYF
import Derived.Test.YtjpoljlgkgmdkaaGreatDoorYB
set_option linter.unusedSimpArgs false
set_option linter.unusedVariables false
namespace Go.Cold
open Go Go.RowKit
theorem idx_contains (n : Int) : ∀ L : List Dev, decide (0 ≤ idxInt (fun d : Dev => decide (d.idx = n)) L) = (idxs L).contains n := by
 intro L
 rw [idxInt_any]
 induction L with
 | nil => rfl
 | cons d r ih =>
  show (decide (d.idx = n) || r.any _) = (d.idx :: idxs r).contains n
  rw [List.contains_cons, ih, Bool.eq_iff_iff]
  simp only [Bool.or_eq_true, decide_eq_true_eq, beq_iff_eq]
  exact ⟨fun h => h.imp Eq.symm id, fun h => h.imp Eq.symm id⟩
theorem chainO_org {L : List Dev} (h : WF L) (n : Int) : (chainO L n).reverse.map (·.orig) = orgF L n := chain_all h n
def insR (L : List Dev) (d : Dev) : List Dev := if insE L d = 0 then insL L d else []
theorem SlS.take_ {α : Type} [RepS α] {w : World} {S : Nat → Prop} {A : Option Addr} {c n : Nat} {xs : List α} (h : SlS w S A c xs) (hn : n ≤ xs.length) : SlS w S A c (xs.take n) := by
 refine ⟨by rw [List.length_take]; have := h.1; omega, h.2.1, fun h0 => ?_⟩
 rw [List.length_take] at h0
 obtain ⟨b, o, e, hb, hc⟩ := h.2.2 (by omega)
 refine ⟨b, o, e, hb, fun i x hx => hc i x ?_⟩
 rw [List.getElem?_take] at hx
 split at hx
 · exact hx
 · cases hx
theorem SlS.drop_ {α : Type} [RepS α] {w : World} {S : Nat → Prop} {A : Option Addr} {c m : Nat} {xs : List α} (h : SlS w S A c xs) :
  SlS w S (if c = m then A else A.map (·.add (m * Rep.size α))) (c - m) (xs.drop m) ∨ xs.drop m = [] := by
 by_cases hm : m < xs.length
 ·
  left
  obtain ⟨b, o, e, hb, hc⟩ := h.2.2 (by omega)
  have hcm : ¬ c = m := by have := h.1; omega
  refine ⟨by rw [List.length_drop]; have := h.1; omega, by have := h.2.1; omega, fun _ => ⟨b, o + m * Rep.size α, by rw [if_neg hcm, e]; simp [add_mk], hb, fun i x hx => ?_⟩⟩
  rw [List.getElem?_drop] at hx
  obtain ⟨cs, h1, h2⟩ := hc (m + i) x hx
  refine ⟨cs, h1, fun j u hu => ?_⟩
  have := h2 j u hu
  rw [Nat.add_mul] at this
  rw [← this]; congr 2; omega
 ·
  right
  exact List.drop_eq_nil_of_le (by omega)
theorem sliced_take {A : Option Addr} {c m s : Nat} : sliced A 0 m c s = .slice A m c := by
 unfold sliced
 cases A with
 | none => simp
 | some ad => simp [Addr.add]
theorem any_take_step {α : Type} {p : α → Bool} {l : List α} {k : Nat} {x : α} (h : (l.take k).any p = false) (hx : l[k]? = some x) (hp : p x = false) : (l.take (k + 1)).any p = false := by
 rw [List.take_add_one, hx, List.any_append, h]; simp [hp]
theorem any_stop {α : Type} {p : α → Bool} {l : List α} {k : Nat} {x : α} (hx : l[k]? = some x) (hp : p x = true) : l.any p = true :=
 List.any_eq_true.2 ⟨x, List.mem_of_getElem? hx, hp⟩
theorem VT.small {L : List Dev} (h : VT L) : ∀ d ∈ L, d.orig.size ≤ 32 ∧ (0 ≤ d.idx ∧ d.idx ≤ 1073741824) := fun d hd =>
 ⟨valid_size (check_names (h.chk d hd)).2.1, by have := check_range (h.chk d hd); omega⟩
theorem own_len {L : List Dev} (h : VT L) (d : Dev) : (ownL L d).length ≤ L.length + 1 := by
 unfold ownL
 rw [List.length_append, List.length_singleton]
 have := org_len h.wf d.par
 omega
def atK (L : List Dev) (own : List ByteArray) (k : Nat) : Nat := ((L.take k).takeWhile (lessP L own)).length
theorem atK_all (L : List Dev) (own : List ByteArray) : atK L own L.length = atN L own := by unfold atK atN; rw [List.take_length]
theorem atK_le (L : List Dev) (own : List ByteArray) (k : Nat) : atK L own k ≤ k := by
 unfold atK
 have h1 := (List.takeWhile_prefix (l := L.take k) (lessP L own)).length_le
 rw [List.length_take] at h1; omega
theorem SlS.low {α : Type} [RepS α] {w : World} {S : Nat → Prop} {A : Option Addr} {c B : Nat} {xs : List α} (h : SlS w S A c xs) (hS : ∀ x, S x → x < B) (hB : B ≤ w.heap.size) : Sl w w.heap.size A c xs := (h.sl hS).more hB
end Go.Cold
namespace Go.Proofs.YtjpoljlgkgmdkaaGreatDoor
open Go.RowKit Go.Cold
theorem index_any2 (A : Option Addr) (c : Nat) (L : List Dev) (n : Int) (w : World) (B : Nat) (hx : Sl w B A c L) : Calls Tryz.prog 91 #[.slice A L.length c, .int .i64 n] w fun e w' => e = .returned (.int .i64 (idxInt (fun d : Dev => decide (d.idx = n)) L)) ∧ w = w' :=
 (index_any A c L n w B hx).mono fun _ _ ⟨h1, h2⟩ => ⟨h1, h2.symm⟩
theorem E_txt : ElemT Tryz.prog (Rep.size ByteArray) 9 27 16 := ⟨Tryz.underlying27, by obtain ⟨i, hi, hz, h1, h2⟩ := info_parts info_txt; exact ⟨i, _, hi, hz, h1, h2, rfl⟩⟩
def InsPost (L : List Dev) (d : Dev) (S : Nat → Prop) (w : World) (e : Ending) (w' : World) : Prop := Below w.heap.size w w' ∧ ∃ v, e = .returned (.tuple #[.agg #[v], .int .i64 (insE L d)]) ∧ OwnsS S w' w.heap.size 84 v (insR L d)
set_option maxRecDepth 100000 in
set_option maxHeartbeats 8000000 in
theorem RInsert_any (A : Option Addr) (c : Nat) (L : List Dev) (d : Dev) (A2 : Option Addr) (c2 : Nat) (S : Nat → Prop) (w : World) (hx : SlS w S A c L) (hS : ∀ x, S x → x < w.heap.size) (hd : devOk d) (ha : SlS w S A2 c2 d.attrs) (hvt : VT L) (hok : Ok w) : Calls Tryz.prog 53 #[.agg #[.slice A L.length c], .agg #[.int .i64 d.idx, .int .i64 d.par, .string d.nm, .string d.orig, .string d.sub, .string d.drv, .string d.ali, .int .i64 d.kind, .int .i64 d.num, .slice A2 d.attrs.length c2]] w (InsPost L d S w) := by
 have hvs := hvt.small
 have hvl := hvt.size
 have hx1 := hx.1; have hx2 := hx.2.1
 unfold maxLen at hx2
 have hox := own_len hvt d
 have HX := Lib.hid hx; have HS := Lib.hid hS; have HD := Lib.hid hd; have HA := Lib.hid ha; have HVT := Lib.hid hvt; have HOK := Lib.hid hok; have HVS := Lib.hid hvs; have HVL := Lib.hid hvl; have HOX := Lib.hid hox
 clear hx hS hd ha hvt hok hvs hvl hox
 go_enter Tryz.func53, Tryz.ntmps53
 go_upto_region 1 with fail
 obtain ⟨w1, hw1⟩ : ∃ w1, w.alloc (.cells #[.slice A L.length c] 47) = w1 := ⟨_, rfl⟩
 have hbw1 : Below w.heap.size w w1 := by rw [← hw1]; exact (Below.refl _ _).alloc (Nat.le_refl _) _
 have HGw1 := Lib.hid (show w1.heap.size = w.heap.size + 1 by rw [← hw1]; simp)
 have HXtw1 := Lib.hid (show BoxL w1 w.heap.size [.slice A L.length c] from box_mk hw1)
 try simp only [hw1]
 have HBw1 := Lib.hid hbw1
 clear hw1 hbw1
 try rw [show w.heap.size + 1 = w1.heap.size from HGw1.out.symm]
 obtain ⟨w2, hw2⟩ : ∃ w2, w1.alloc (.cells #[.int .i64 d.idx, .int .i64 d.par, .string d.nm, .string d.orig, .string d.sub, .string d.drv, .string d.ali, .int .i64 d.kind, .int .i64 d.num, .slice A2 d.attrs.length c2] 84) = w2 := ⟨_, rfl⟩
 have hbw2 : Below w1.heap.size w1 w2 := by rw [← hw2]; exact (Below.refl _ _).alloc (Nat.le_refl _) _
 have HGw2 := Lib.hid (show w2.heap.size = w1.heap.size + 1 by rw [← hw2]; simp)
 have HXpw2 := Lib.hid (show BoxL w2 w1.heap.size [.int .i64 d.idx, .int .i64 d.par, .string d.nm, .string d.orig, .string d.sub, .string d.drv, .string d.ali, .int .i64 d.kind, .int .i64 d.num, .slice A2 d.attrs.length c2] from box_mk hw2)
 try simp only [hw2]
 have HBw2 := Lib.hid (HBw1.out.trans (hbw2.mono HBw1.out.size))
 have tw2 := Lib.hid (HXtw1.out.kept (grown_none hbw2) (fun e => by cases e))
 clear hw2 hbw2
 try rw [show w1.heap.size + 1 = w2.heap.size from HGw2.out.symm]
 obtain ⟨w3, hw3⟩ : ∃ w3, w2.alloc (.cells #[.slice none 0 0] 47) = w3 := ⟨_, rfl⟩
 have hbw3 : Below w2.heap.size w2 w3 := by rw [← hw3]; exact (Below.refl _ _).alloc (Nat.le_refl _) _
 have HGw3 := Lib.hid (show w3.heap.size = w2.heap.size + 1 by rw [← hw3]; simp)
 have HXrw3 := Lib.hid (show BoxL w3 w2.heap.size [.slice none 0 0] from box_mk hw3)
 try simp only [hw3]
 have HBw3 := Lib.hid (HBw2.out.trans (hbw3.mono HBw2.out.size))
 have tw3 := Lib.hid (tw2.out.kept (grown_none hbw3) (fun e => by cases e))
 have pw3 := Lib.hid (HXpw2.out.kept (grown_none hbw3) (fun e => by cases e))
 clear hw3 hbw3
 try rw [show w2.heap.size + 1 = w3.heap.size from HGw3.out.symm]
 have ct0 := tw3.out.1 0 _ rfl
 have cp0 := pw3.out.1 0 _ rfl
 have cp1 := pw3.out.1 1 _ rfl
 have cp2 := pw3.out.1 2 _ rfl
 have cp3 := pw3.out.1 3 _ rfl
 have cp4 := pw3.out.1 4 _ rfl
 have cp5 := pw3.out.1 5 _ rfl
 have cp6 := pw3.out.1 6 _ rfl
 have cp7 := pw3.out.1 7 _ rfl
 have cp8 := pw3.out.1 8 _ rfl
 have cp9 := pw3.out.1 9 _ rfl
 have cr0 := HXrw3.out.1 0 _ rfl
 have cfr := HXrw3.out.2.1
 go_wp2_with fail
 refine (RCheck_any d A2 c2 _ w.heap.size HBw3.out.size HD.out (((HA.out.sl HS.out)).keep HBw3.out) (HOK.out.next HBw3.out)).mono ?_
 rintro e w4 ⟨rfl, hbw4⟩
 clear ct0 cp0 cp1 cp2 cp3 cp4 cp5 cp6 cp7 cp8 cp9 cr0 cfr
 have HBw4 := Lib.hid (HBw3.out.trans (hbw4.mono HBw3.out.size))
 have tw4 := Lib.hid (tw3.out.kept (grown_none hbw4) (fun e => by cases e))
 have pw4 := Lib.hid (pw3.out.kept (grown_none hbw4) (fun e => by cases e))
 have rw4 := Lib.hid (HXrw3.out.kept (grown_none hbw4) (fun e => by cases e))
 clear hbw4
 have ct0 := tw4.out.1 0 _ rfl
 have cp0 := pw4.out.1 0 _ rfl
 have cp1 := pw4.out.1 1 _ rfl
 have cp2 := pw4.out.1 2 _ rfl
 have cp3 := pw4.out.1 3 _ rfl
 have cp4 := pw4.out.1 4 _ rfl
 have cp5 := pw4.out.1 5 _ rfl
 have cp6 := pw4.out.1 6 _ rfl
 have cp7 := pw4.out.1 7 _ rfl
 have cp8 := pw4.out.1 8 _ rfl
 have cp9 := pw4.out.1 9 _ rfl
 have cr0 := rw4.out.1 0 _ rfl
 have cfr := rw4.out.2.1
 by_cases hc : checkD d = 0
 ·
  have HDS := Lib.hid (show d.orig.size ≤ 32 from valid_size (check_names hc).2.1)
  have ec : (checkD d != 0) = false := by rw [hc]; rfl
  have HC := Lib.hid hc; try rw [hc]
  clear hc
  go_wp2_with fail
  refine (index_any2 A c L d.idx _ w.heap.size ((HX.out.sl HS.out).keep HBw4.out)).mono ?_
  rintro e w' ⟨rfl, rfl⟩
  have hcon := idx_contains d.idx L
  obtain ⟨z, hz⟩ : ∃ z, idxInt (fun d_1 : Dev => decide (d_1.idx = d.idx)) L = z := ⟨_, rfl⟩
  rw [hz] at hcon ⊢
  clear hz
  cases hin : (idxs L).contains d.idx with
  | true =>
   rw [hin] at hcon
   have i1 : 0 ≤ z := of_decide_eq_true hcon
   have HIN := Lib.hid hin; clear hin hcon
   have HE := Lib.hid (show insE L d = 44 by unfold insE; rw [if_neg (by rw [HC.out]; decide), if_pos HIN.out])
   have HER := Lib.hid (show insR L d = [] by unfold insR; rw [HE.out]; rfl)
   go_wp2
   refine bodyPost_ret (v := .tuple #[.agg #[.slice none 0 0], .int .i64 44]) (by simp [results, Tryz.results53, go_sem, cr0, cfr]) rfl ⟨HBw4.out.setCell (by have := HGw1.out; have := HGw2.out; show w.heap.size ≤ w2.heap.size; omega) _, .slice none 0 0, by rw [HE.out], by rw [HER.out]; exact OwnsS.nil_ _ _ _ _⟩
  | false =>
   rw [hin] at hcon
   have i1 : ¬ 0 ≤ z := of_decide_eq_false hcon
   have HIN := Lib.hid hin; clear hin hcon
   obtain ⟨bp, hbp⟩ : ∃ b, (decide (d.par ≠ 0) && !(idxs L).contains d.par) = b := ⟨_, rfl⟩
   have HBP := Lib.hid hbp; clear hbp
   go_upto_region 5 with fail
   go_cut [32] (fun s32 wx => s32 = .bool bp ∧ w4 = wx)
   case first =>
    by_cases hp : d.par = 0
    ·
     have ep : (d.par != 0) = false := by rw [hp]; rfl
     have HR := Lib.hid (show false = bp by rw [← HBP.out]; simp [hp]); clear hp
     go_wp2_with fail
     go_meet
     exact ⟨by rw [HR.out], rfl⟩
    ·
     have ep : (d.par != 0) = true := by simpa using hp
     go_wp2_with fail
     refine (index_any2 A c L d.par _ w.heap.size ((HX.out.sl HS.out).keep HBw4.out)).mono ?_
     rintro e w' ⟨rfl, rfl⟩
     have hcon := idx_contains d.par L
     obtain ⟨y, hy⟩ : ∃ y, idxInt (fun d_1 : Dev => decide (d_1.idx = d.par)) L = y := ⟨_, rfl⟩
     rw [hy] at hcon ⊢
     clear hy
     have hr : decide (y < 0) = bp := by rw [← HBP.out, ← hcon]; simp [hp]; by_cases h : y < 0 <;> simp [h] <;> omega
     have HR := Lib.hid hr; clear hr hp hcon
     go_wp2_with fail
     go_meet
     exact ⟨by rw [HR.out], rfl⟩
   case rest =>
   obtain ⟨rfl, rfl⟩ := hcut
   cases bp with
   | true =>
    have HPB := Lib.hid (show d.par ≠ 0 ∧ (idxs L).contains d.par = false by have h := HBP.out; simpa using h)
    have HE := Lib.hid (show insE L d = 42 by unfold insE; rw [if_neg (by rw [HC.out]; decide), if_neg (by rw [HIN.out]; decide), if_pos HPB.out])
    have HER := Lib.hid (show insR L d = [] by unfold insR; rw [HE.out]; rfl)
    go_wp2
    refine bodyPost_ret (v := .tuple #[.agg #[.slice none 0 0], .int .i64 42]) (by simp [results, Tryz.results53, go_sem, cr0, cfr]) rfl ⟨HBw4.out.setCell (by have := HGw1.out; have := HGw2.out; show w.heap.size ≤ w2.heap.size; omega) _, .slice none 0 0, by rw [HE.out], by rw [HER.out]; exact OwnsS.nil_ _ _ _ _⟩
   | false =>
    have HP := Lib.hid (show ¬ (d.par ≠ 0 ∧ (idxs L).contains d.par = false) by have h := HBP.out; intro hh; simp [hh.1, hh.2] at h; first | exact absurd h (by decide) | (have := hh.2; simp_all))
    by_cases hl : 256 ≤ L.length
    ·
     have i4 : (256 : Int) ≤ (L.length : Int) := by omega
     have HL := Lib.hid hl; clear hl
     have HE := Lib.hid (show insE L d = 40 by unfold insE; rw [if_neg (by rw [HC.out]; decide), if_neg (by rw [HIN.out]; decide), if_neg HP.out, if_pos HL.out])
     have HER := Lib.hid (show insR L d = [] by unfold insR; rw [HE.out]; rfl)
     go_wp2
     refine bodyPost_ret (v := .tuple #[.agg #[.slice none 0 0], .int .i64 40]) (by simp [results, Tryz.results53, go_sem, cr0, cfr]) rfl ⟨HBw4.out.setCell (by have := HGw1.out; have := HGw2.out; show w.heap.size ≤ w2.heap.size; omega) _, .slice none 0 0, by rw [HE.out], by rw [HER.out]; exact OwnsS.nil_ _ _ _ _⟩
    ·
     have i4 : ¬ (256 : Int) ≤ (L.length : Int) := by omega
     have HL := Lib.hid hl; clear hl
     go_upto_region 9 with fail
     go_cut [6] (fun s6 wx => ∃ (A6 : Option Addr) (c6 : Nat), s6 = .slice A6 (ownL L d).length c6 ∧ Hid (Below w4.heap.size w4 wx ∧ Sl wx wx.heap.size A6 c6 (ownL L d)))
     case first =>
      refine wp_region_held_drew (S := fun w' => BoxL w' w.heap.size [.slice A L.length c] ∧ BoxL w' w1.heap.size [.int .i64 d.idx, .int .i64 d.par, .string d.nm, .string d.orig, .string d.sub, .string d.drv, .string d.ali, .int .i64 d.kind, .int .i64 d.num, .slice A2 d.attrs.length c2]) (by kernel_rfl) ⟨tw4.out.drew, pw4.out.drew⟩ (fun hS0 => ?_)
      obtain ⟨wd, hwd⟩ : ∃ z, w4.drew = z := ⟨_, rfl⟩
      rw [hwd] at hS0 ⊢
      have hbd : Below w4.heap.size w4 wd := by rw [← hwd]; exact below_drewN_self _ _ 1
      clear hwd
      have HDD := Lib.hid hbd
      have HBwd := Lib.hid (HBw4.out.trans (hbd.mono HBw4.out.size))
      have twd := Lib.hid (tw4.out.kept (grown_none hbd) (fun e => by cases e))
      have pwd := Lib.hid (pw4.out.kept (grown_none hbd) (fun e => by cases e))
      have rwd := Lib.hid (rw4.out.kept (grown_none hbd) (fun e => by cases e))
      clear hbd
      refine wpAnyH_take (i := 0) (oi := ⟨some 39, _, _, _, _, _⟩) (v := .agg #[.slice A L.length c]) rfl (by kernel_rfl) (by kernel_rfl) (by kernel_rfl) (fun _ _ _ h => h) (Or.inl ⟨by rfl, fun w' hS => by (have u := hS.1.1 0 _ rfl; go_simp)⟩) ⟨twd.out, pwd.out⟩ ?_
      try simp only [Act.put, List.setIfInBounds_toArray, List.set_cons_zero, List.set_cons_succ]
      refine wpAnyH_take (i := 1) (oi := ⟨some 40, _, _, _, _, _⟩) (v := .pointer (some ⟨w1.heap.size, 1, none⟩)) rfl (by kernel_rfl) (by kernel_rfl) (by kernel_rfl) (fun _ _ _ h => h) (Or.inl ⟨by rfl, fun w' hS => by go_simp⟩) ⟨twd.out, pwd.out⟩ ?_
      try simp only [Act.put, List.setIfInBounds_toArray, List.set_cons_zero, List.set_cons_succ]
      refine wpAnyH_take (i := 2) (oi := ⟨some 41, _, _, _, _, _⟩) (v := .int .i64 d.par) rfl (by kernel_rfl) (by kernel_rfl) (by kernel_rfl) (fun _ _ _ h => h) (Or.inl ⟨by rfl, fun w' hS => by (have u := hS.2.1 1 _ rfl; go_simp)⟩) ⟨twd.out, pwd.out⟩ ?_
      try simp only [Act.put, List.setIfInBounds_toArray, List.set_cons_zero, List.set_cons_succ]
      refine wpAnyH_take (i := 4) (oi := ⟨some 43, _, _, _, _, _⟩) (v := .pointer (some ⟨w1.heap.size, 3, none⟩)) rfl (by kernel_rfl) (by kernel_rfl) (by kernel_rfl) (fun _ _ _ h => h) (Or.inl ⟨by rfl, fun w' hS => by go_simp⟩) ⟨twd.out, pwd.out⟩ ?_
      try simp only [Act.put, List.setIfInBounds_toArray, List.set_cons_zero, List.set_cons_succ]
      refine wpAnyH_take (i := 5) (oi := ⟨some 44, _, _, _, _, _⟩) (v := .string d.orig) rfl (by kernel_rfl) (by kernel_rfl) (by kernel_rfl) (fun _ _ _ h => h) (Or.inl ⟨by rfl, fun w' hS => by (have u := hS.2.1 3 _ rfl; go_simp)⟩) ⟨twd.out, pwd.out⟩ ?_
      try simp only [Act.put, List.setIfInBounds_toArray, List.set_cons_zero, List.set_cons_succ]
      have HLW := Lib.hid (show w.heap.size < w4.heap.size ∧ w1.heap.size < w4.heap.size from ⟨tw4.out.2.2, pw4.out.2.2⟩)
      refine wpAnyH_ready (rs := [3, 6]) (by kernel_rfl) (by simp) ?_
      refine AllReadyH.cons (o := ⟨some 42, .call ⟨_, _, _⟩, _, _, _, _⟩) rfl (fun K hK => ?_) (AllReadyH.cons (o := ⟨some 45, .buildSlice _ _ _, _, _, _, _⟩) rfl (fun K hK => ?_) AllReadyH.nil)
      ·
       go_simp
       go_at_call 92
       refine (ROrigin_any A c L d.par _ w.heap.size HBwd.out.size ((HX.out.sl HS.out).keep HBwd.out) (by have := HVL.out; omega) HD.out.2.1).mono ?_
       rintro e' q5 ⟨hb_, v, rfl, hown_⟩
       rw [chainO_org HVT.out.wf] at hown_
       have HOWNq5 := Lib.hid hown_; clear hown_
       have HTq5 := Lib.hid hb_
       have HBq5 := Lib.hid (HBwd.out.trans (hb_.mono HBwd.out.size))
       have tq5 := Lib.hid (twd.out.kept (grown_none hb_) (fun e => by cases e))
       have pq5 := Lib.hid (pwd.out.kept (grown_none hb_) (fun e => by cases e))
       have rq5 := Lib.hid (rwd.out.kept (grown_none hb_) (fun e => by cases e))
       clear hb_
       refine hK.out _ _ ⟨tq5.out, pq5.out⟩ (fun _ => ?_)
       clear hK K
       try simp only [Act.put, List.setIfInBounds_toArray, List.set_cons_zero, List.set_cons_succ]
       refine wpAnyH_ready (rs := [6]) (by kernel_rfl) (by simp) ?_
       refine AllReadyH.cons (o := ⟨some 45, .buildSlice _ _ _, _, _, _, _⟩) rfl (fun K hK => ?_) AllReadyH.nil
       go_simp
       obtain ⟨q6, hq6⟩ : ∃ z, q5.alloc (.cells #[.string d.orig] 9) = z := ⟨_, rfl⟩
       have hb_ : Below q5.heap.size q5 q6 := by rw [← hq6]; exact (Below.refl _ _).alloc (Nat.le_refl _) _
       have HBXq6 := Lib.hid (show BoxL q6 q5.heap.size [.string d.orig] from box_mk hq6)
       try rw [hq6]
       clear hq6
       have HTq6 := Lib.hid hb_
       have HBq6 := Lib.hid (HBq5.out.trans (hb_.mono HBq5.out.size))
       have tq6 := Lib.hid (tq5.out.kept (grown_none hb_) (fun e => by cases e))
       have pq6 := Lib.hid (pq5.out.kept (grown_none hb_) (fun e => by cases e))
       have rq6 := Lib.hid (rq5.out.kept (grown_none hb_) (fun e => by cases e))
       clear hb_
       refine hK.out _ _ ⟨tq6.out, pq6.out⟩ (fun _ => ?_)
       clear hK K
       try simp only [Act.put, List.setIfInBounds_toArray, List.set_cons_zero, List.set_cons_succ]
       have HOWNb := Lib.hid (HOWNq5.out.below HTq6.out)
       refine wpAnyH_ready (rs := [7]) (by kernel_rfl) (by simp) ?_
       refine AllReadyH.cons (o := ⟨some 46, .call ⟨_, _, _⟩, _, _, _, _⟩) rfl (fun K hK => ?_) AllReadyH.nil
       have hbs : wd.heap.size ≤ q6.heap.size := by have := HTq5.out.size; have := HTq6.out.size; omega
       have hlow : ∀ k, v.ownBlock = some k → w4.heap.size ≤ k := fun k hk => by have := (HOWNb.out.lt k hk).1; have := HDD.out.size; have := HTq5.out.size; omega
       refine step_app rfl _ _ rfl v (.slice (some ⟨q5.heap.size, 0, none⟩) 1 1) (by simp [Act.eval, Act.put]) (by simp [Act.eval, Act.put]) (run_app1 E_txt _ v (orgF L d.par) HOWNb.out q5.heap.size d.orig [.string d.orig] HBXq6.out.1 ⟨rfl, HD.out.2.2.2.1⟩ (by have := org_len HVT.out.wf d.par; have := HVL.out; unfold maxLen; omega) (by have := org_len HVT.out.wf d.par; have := HVL.out; omega) hbs) ?_
       rintro v2 q7 ⟨hown_, hg_, hnew_⟩
       have HBQ := Lib.hid (show Below w4.heap.size w4 q7 from below_own (HDD.out.trans ((HTq5.out.trans (HTq6.out.mono HTq5.out.size)).mono HDD.out.size)) hg_ (by have := HDD.out.size; have := HTq5.out.size; have := HTq6.out.size; omega) hlow)
       have HKT := Lib.hid (tq6.out.kept hg_ (fun e => by have := hlow _ e.symm; have := HLW.out; omega)); have HKP := Lib.hid (pq6.out.kept hg_ (fun e => by have := hlow _ e.symm; have := HLW.out; omega))
       obtain ⟨A6, c6, hv_, hsl_⟩ := hown_.sl
       have hln : (orgF L d.par ++ [d.orig]).length = (ownL L d).length := rfl
       rw [hln] at hv_
       subst hv_
       have HSL := Lib.hid (show Sl q7 q7.heap.size A6 c6 (ownL L d) from hsl_)
       clear hown_ hg_ hnew_ hsl_ hlow hbs hln
       refine hK.out _ _ ⟨HKT.out, HKP.out⟩ (fun _ => ?_)
       clear hK K
       try simp only [Act.put, List.setIfInBounds_toArray, List.set_cons_zero, List.set_cons_succ]
       refine wpAnyH_take (i := 8) (oi := ⟨some 6, _, _, _, _, _⟩) (v := .slice A6 (ownL L d).length c6) rfl (by kernel_rfl) (by kernel_rfl) (by kernel_rfl) (fun _ _ _ h => h) (Or.inl ⟨by rfl, fun w' hS => by go_simp⟩) ⟨HKT.out, HKP.out⟩ ?_
       try simp only [Act.put, List.setIfInBounds_toArray, List.set_cons_zero, List.set_cons_succ]
       refine wpAnyH_done (by kernel_rfl) ?_ _
       go_wp2_with fail
       go_meet
       exact ⟨A6, c6, rfl, ⟨HBQ.out, HSL.out⟩⟩
      ·
       go_simp
       obtain ⟨q8, hq8⟩ : ∃ z, wd.alloc (.cells #[.string d.orig] 9) = z := ⟨_, rfl⟩
       have hb_ : Below wd.heap.size wd q8 := by rw [← hq8]; exact (Below.refl _ _).alloc (Nat.le_refl _) _
       have HBXq8 := Lib.hid (show BoxL q8 wd.heap.size [.string d.orig] from box_mk hq8)
       try rw [hq8]
       clear hq8
       have HTq8 := Lib.hid hb_
       have HBq8 := Lib.hid (HBwd.out.trans (hb_.mono HBwd.out.size))
       have tq8 := Lib.hid (twd.out.kept (grown_none hb_) (fun e => by cases e))
       have pq8 := Lib.hid (pwd.out.kept (grown_none hb_) (fun e => by cases e))
       have rq8 := Lib.hid (rwd.out.kept (grown_none hb_) (fun e => by cases e))
       clear hb_
       refine hK.out _ _ ⟨tq8.out, pq8.out⟩ (fun _ => ?_)
       clear hK K
       try simp only [Act.put, List.setIfInBounds_toArray, List.set_cons_zero, List.set_cons_succ]
       refine wpAnyH_ready (rs := [3]) (by kernel_rfl) (by simp) ?_
       refine AllReadyH.cons (o := ⟨some 42, .call ⟨_, _, _⟩, _, _, _, _⟩) rfl (fun K hK => ?_) AllReadyH.nil
       go_simp
       go_at_call 92
       refine (ROrigin_any A c L d.par _ w.heap.size HBq8.out.size ((HX.out.sl HS.out).keep HBq8.out) (by have := HVL.out; omega) HD.out.2.1).mono ?_
       rintro e' q9 ⟨hb_, v, rfl, hown_⟩
       rw [chainO_org HVT.out.wf] at hown_
       have HOWNq9 := Lib.hid hown_; clear hown_
       have HTq9 := Lib.hid hb_
       have HBq9 := Lib.hid (HBq8.out.trans (hb_.mono HBq8.out.size))
       have tq9 := Lib.hid (tq8.out.kept (grown_none hb_) (fun e => by cases e))
       have pq9 := Lib.hid (pq8.out.kept (grown_none hb_) (fun e => by cases e))
       have rq9 := Lib.hid (rq8.out.kept (grown_none hb_) (fun e => by cases e))
       clear hb_
       refine hK.out _ _ ⟨tq9.out, pq9.out⟩ (fun _ => ?_)
       clear hK K
       try simp only [Act.put, List.setIfInBounds_toArray, List.set_cons_zero, List.set_cons_succ]
       have HBXc := Lib.hid (HBXq8.out.kept (grown_none HTq9.out) (fun e => by cases e))
       refine wpAnyH_ready (rs := [7]) (by kernel_rfl) (by simp) ?_
       refine AllReadyH.cons (o := ⟨some 46, .call ⟨_, _, _⟩, _, _, _, _⟩) rfl (fun K hK => ?_) AllReadyH.nil
       have hbs : q8.heap.size ≤ q9.heap.size := by have := HTq8.out.size; have := HTq9.out.size; omega
       have hlow : ∀ k, v.ownBlock = some k → w4.heap.size ≤ k := fun k hk => by have := (HOWNq9.out.lt k hk).1; have := HDD.out.size; have := HTq8.out.size; omega
       refine step_app rfl _ _ rfl v (.slice (some ⟨wd.heap.size, 0, none⟩) 1 1) (by simp [Act.eval, Act.put]) (by simp [Act.eval, Act.put]) (run_app1 E_txt _ v (orgF L d.par) HOWNq9.out wd.heap.size d.orig [.string d.orig] HBXc.out.1 ⟨rfl, HD.out.2.2.2.1⟩ (by have := org_len HVT.out.wf d.par; have := HVL.out; unfold maxLen; omega) (by have := org_len HVT.out.wf d.par; have := HVL.out; omega) hbs) ?_
       rintro v2 q10 ⟨hown_, hg_, hnew_⟩
       have HBQ := Lib.hid (show Below w4.heap.size w4 q10 from below_own (HDD.out.trans ((HTq8.out.trans (HTq9.out.mono HTq8.out.size)).mono HDD.out.size)) hg_ (by have := HDD.out.size; have := HTq8.out.size; have := HTq9.out.size; omega) hlow)
       have HKT := Lib.hid (tq9.out.kept hg_ (fun e => by have := hlow _ e.symm; have := HLW.out; omega)); have HKP := Lib.hid (pq9.out.kept hg_ (fun e => by have := hlow _ e.symm; have := HLW.out; omega))
       obtain ⟨A6, c6, hv_, hsl_⟩ := hown_.sl
       have hln : (orgF L d.par ++ [d.orig]).length = (ownL L d).length := rfl
       rw [hln] at hv_
       subst hv_
       have HSL := Lib.hid (show Sl q10 q10.heap.size A6 c6 (ownL L d) from hsl_)
       clear hown_ hg_ hnew_ hsl_ hlow hbs hln
       refine hK.out _ _ ⟨HKT.out, HKP.out⟩ (fun _ => ?_)
       clear hK K
       try simp only [Act.put, List.setIfInBounds_toArray, List.set_cons_zero, List.set_cons_succ]
       refine wpAnyH_take (i := 8) (oi := ⟨some 6, _, _, _, _, _⟩) (v := .slice A6 (ownL L d).length c6) rfl (by kernel_rfl) (by kernel_rfl) (by kernel_rfl) (fun _ _ _ h => h) (Or.inl ⟨by rfl, fun w' hS => by go_simp⟩) ⟨HKT.out, HKP.out⟩ ?_
       try simp only [Act.put, List.setIfInBounds_toArray, List.set_cons_zero, List.set_cons_succ]
       refine wpAnyH_done (by kernel_rfl) ?_ _
       go_wp2_with fail
       go_meet
       exact ⟨A6, c6, rfl, ⟨HBQ.out, HSL.out⟩⟩
     case rest =>
     obtain ⟨A6, c6, rfl, hq⟩ := hcut
     have hbq := hq.out.1
     have HOWNS := Lib.hid hq.out.2
     clear hq
     clear ct0 cp0 cp1 cp2 cp3 cp4 cp5 cp6 cp7 cp8 cp9 cr0 cfr
     have HBwc := Lib.hid (HBw4.out.trans (hbq.mono HBw4.out.size))
     have twc := Lib.hid (tw4.out.kept (grown_none hbq) (fun e => by cases e))
     have pwc := Lib.hid (pw4.out.kept (grown_none hbq) (fun e => by cases e))
     have rwc := Lib.hid (rw4.out.kept (grown_none hbq) (fun e => by cases e))
     clear hbq
     have ct0 := twc.out.1 0 _ rfl
     have cp0 := pwc.out.1 0 _ rfl
     have cp1 := pwc.out.1 1 _ rfl
     have cp2 := pwc.out.1 2 _ rfl
     have cp3 := pwc.out.1 3 _ rfl
     have cp4 := pwc.out.1 4 _ rfl
     have cp5 := pwc.out.1 5 _ rfl
     have cp6 := pwc.out.1 6 _ rfl
     have cp7 := pwc.out.1 7 _ rfl
     have cp8 := pwc.out.1 8 _ rfl
     have cp9 := pwc.out.1 9 _ rfl
     have cr0 := rwc.out.1 0 _ rfl
     have cfr := rwc.out.2.1
     by_cases ho : 7 < (ownL L d).length
     ·
      have i5 : (7 : Int) < ((ownL L d).length : Int) := by omega
      have HO := Lib.hid ho; clear ho
      have HE := Lib.hid (show insE L d = 46 by unfold insE; rw [if_neg (by rw [HC.out]; decide), if_neg (by rw [HIN.out]; decide), if_neg HP.out, if_neg HL.out, if_pos HO.out])
      have HER := Lib.hid (show insR L d = [] by unfold insR; rw [HE.out]; rfl)
      go_wp2
      refine bodyPost_ret (v := .tuple #[.agg #[.slice none 0 0], .int .i64 46]) (by simp [results, Tryz.results53, go_sem, cr0, cfr]) rfl ⟨HBwc.out.setCell (by have := HGw1.out; have := HGw2.out; show w.heap.size ≤ w2.heap.size; omega) _, .slice none 0 0, by rw [HE.out], by rw [HER.out]; exact OwnsS.nil_ _ _ _ _⟩
     ·
      have i5 : ¬ (7 : Int) < ((ownL L d).length : Int) := by omega
      have HO := Lib.hid ho; clear ho
      go_wp2_with fail
      go_loopw [7, 8] (fun s7 s8 wr => ∃ k : Nat, k ≤ L.length ∧ s8 = .int .i64 k ∧ s7 = .int .i64 (atK L (ownL L d) k) ∧ Hid ((L.take k).any (badP L d) = false) ∧ Hid (Below wc.heap.size wc wr)) (fun _ i _ => L.length - (intOf i).toNat)
      case atStart => exact ⟨0, Nat.zero_le _, rfl, rfl, rfl, Below.refl _ _⟩
      case round =>
       obtain ⟨k, hk, rfl, rfl, HBD, HBR⟩ := hrel
       have hbr := HBR.out
       clear ct0 cp0 cp1 cp2 cp3 cp4 cp5 cp6 cp7 cp8 cp9 cr0 cfr
       have HBwr := Lib.hid (HBwc.out.trans (hbr.mono HBwc.out.size))
       have twr := Lib.hid (twc.out.kept (grown_none hbr) (fun e => by cases e))
       have pwr := Lib.hid (pwc.out.kept (grown_none hbr) (fun e => by cases e))
       have rwr := Lib.hid (rwc.out.kept (grown_none hbr) (fun e => by cases e))
       have HOWNR := Lib.hid (HOWNS.out.keep hbr)
       clear hbr
       have ct0 := twr.out.1 0 _ rfl
       have cfr := rwr.out.2.1
       by_cases hlt : k < L.length
       ·
        have i6 : (k : Int) < (L.length : Int) := by omega
        have HXW := Lib.hid ((HX.out.sl HS.out).keep HBwr.out)
        obtain ⟨b3, o3, rfl, hb3, A3, c3, hok3, hat3, hcs3⟩ := HXW.out.dev hlt
        have hxk : L[k]? = some L[k] := List.getElem?_eq_getElem hlt
        have hvk := HVS.out _ (List.getElem_mem hlt)
        have hst := at_step HVT.out (ownL L d) hlt
        obtain ⟨y, hy⟩ : ∃ y, L[k]'hlt = y := ⟨_, rfl⟩
        rw [hy] at hok3 hat3 hcs3 hxk hvk hst
        have HXK := Lib.hid hxk; have HVK := Lib.hid hvk; have HAT3 := Lib.hid hat3; have HCS := Lib.hid hcs3; have HOK3 := Lib.hid hok3; have HB3 := Lib.hid hb3
        have HST := Lib.hid (show atK L (ownL L d) (k + 1) = if lessP L (ownL L d) y then k + 1 else atK L (ownL L d) k from hst)
        clear hxk hvk hat3 hok3 hb3 hst hy hcs3
        have y0 := HCS.out.1
        go_wp2_with fail
        refine wp_region_held_drew (S := fun w' => BoxL w' w.heap.size [.slice (some ⟨b3, o3, none⟩) L.length c] ∧ w'.cell? ⟨b3, o3 + k * 10, none⟩ = some (.int .i64 y.idx)) (by kernel_rfl) ⟨twr.out.drew, y0⟩ (fun hS0 => ?_)
        obtain ⟨wd, hwd⟩ : ∃ z, wr.drew = z := ⟨_, rfl⟩
        rw [hwd] at hS0 ⊢
        have hbd : Below wr.heap.size wr wd := by rw [← hwd]; exact below_drewN_self _ _ 1
        clear hwd y0
        clear ct0 cfr
        have HBwd := Lib.hid (HBwr.out.trans (hbd.mono HBwr.out.size))
        have twd := Lib.hid (twr.out.kept (grown_none hbd) (fun e => by cases e))
        have pwd := Lib.hid (pwr.out.kept (grown_none hbd) (fun e => by cases e))
        have rwd := Lib.hid (rwr.out.kept (grown_none hbd) (fun e => by cases e))
        have HOWND := Lib.hid (HOWNR.out.keep (hbd.mono HBR.out.size))
        have HDD := Lib.hid hbd
        clear hbd
        have HS0 := Lib.hid hS0; clear hS0
        refine wpAnyH_take (i := 0) (oi := ⟨some 58, _, _, _, _, _⟩) (v := .agg #[.slice (some ⟨b3, o3, none⟩) L.length c]) rfl (by kernel_rfl) (by kernel_rfl) (by kernel_rfl) (fun _ _ _ h => h) (Or.inl ⟨by rfl, fun w' hS => by (have u := hS.1.1 0 _ rfl; go_simp)⟩) HS0.out ?_
        try simp only [Act.put, List.setIfInBounds_toArray, List.set_cons_zero, List.set_cons_succ]
        refine wpAnyH_take (i := 1) (oi := ⟨some 59, _, _, _, _, _⟩) (v := .pointer (some ⟨w.heap.size, 0, none⟩)) rfl (by kernel_rfl) (by kernel_rfl) (by kernel_rfl) (fun _ _ _ h => h) (Or.inl ⟨by rfl, fun w' hS => by go_simp⟩) HS0.out ?_
        try simp only [Act.put, List.setIfInBounds_toArray, List.set_cons_zero, List.set_cons_succ]
        refine wpAnyH_take (i := 2) (oi := ⟨some 60, _, _, _, _, _⟩) (v := .slice (some ⟨b3, o3, none⟩) L.length c) rfl (by kernel_rfl) (by kernel_rfl) (by kernel_rfl) (fun _ _ _ h => h) (Or.inl ⟨by rfl, fun w' hS => by (have u := hS.1.1 0 _ rfl; go_simp)⟩) HS0.out ?_
        try simp only [Act.put, List.setIfInBounds_toArray, List.set_cons_zero, List.set_cons_succ]
        refine wpAnyH_take (i := 3) (oi := ⟨some 61, _, _, _, _, _⟩) (v := .int .i64 k) rfl (by kernel_rfl) (by kernel_rfl) (by kernel_rfl) (fun _ _ _ h => h) (Or.inl ⟨by rfl, fun w' hS => by go_simp⟩) HS0.out ?_
        try simp only [Act.put, List.setIfInBounds_toArray, List.set_cons_zero, List.set_cons_succ]
        refine wpAnyH_take (i := 4) (oi := ⟨some 62, _, _, _, _, _⟩) (v := .pointer (some ⟨b3, o3 + k * 10, none⟩)) rfl (by kernel_rfl) (by kernel_rfl) (by kernel_rfl) (fun _ _ _ h => h) (Or.inl ⟨by rfl, fun w' hS => by go_simp⟩) HS0.out ?_
        try simp only [Act.put, List.setIfInBounds_toArray, List.set_cons_zero, List.set_cons_succ]
        refine wpAnyH_take (i := 5) (oi := ⟨some 63, _, _, _, _, _⟩) (v := .pointer (some ⟨b3, o3 + k * 10, none⟩)) rfl (by kernel_rfl) (by kernel_rfl) (by kernel_rfl) (fun _ _ _ h => h) (Or.inl ⟨by rfl, fun w' hS => by go_simp⟩) HS0.out ?_
        try simp only [Act.put, List.setIfInBounds_toArray, List.set_cons_zero, List.set_cons_succ]
        refine wpAnyH_take (i := 6) (oi := ⟨some 64, _, _, _, _, _⟩) (v := .int .i64 y.idx) rfl (by kernel_rfl) (by kernel_rfl) (by kernel_rfl) (fun _ _ _ h => h) (Or.inl ⟨by rfl, fun w' hS => by (have u := hS.2; go_simp)⟩) HS0.out ?_
        try simp only [Act.put, List.setIfInBounds_toArray, List.set_cons_zero, List.set_cons_succ]
        refine wpAnyH_take (i := 8) (oi := ⟨some 66, _, _, _, _, _⟩) (v := .slice A6 (ownL L d).length c6) rfl (by kernel_rfl) (by kernel_rfl) (by kernel_rfl) (fun _ _ _ h => h) (Or.inl ⟨by rfl, fun w' hS => by go_simp⟩) HS0.out ?_
        try simp only [Act.put, List.setIfInBounds_toArray, List.set_cons_zero, List.set_cons_succ]
        refine wpAnyH_ready (rs := [7]) (by kernel_rfl) (by simp) ?_
        refine AllReadyH.cons (o := ⟨some 65, .call ⟨_, _, _⟩, _, _, _, _⟩) rfl (fun K hK => ?_) AllReadyH.nil
        go_simp
        go_at_call 92
        refine (ROrigin_any (some ⟨b3, o3, none⟩) c L y.idx _ w.heap.size HBwd.out.size ((HX.out.sl HS.out).keep HBwd.out) (by have := HVL.out; omega) HOK3.out.1).mono ?_
        rintro e' e1 ⟨hb_, v, rfl, hown_⟩
        rw [chainO_org HVT.out.wf] at hown_
        obtain ⟨A7, c7, hv_, hsl_⟩ := hown_.sl
        subst hv_
        have HSL7 := Lib.hid hsl_; clear hsl_ hown_
        have HS1 := Lib.hid (show BoxL e1 w.heap.size [.slice (some ⟨b3, o3, none⟩) L.length c] ∧ e1.cell? ⟨b3, o3 + k * 10, none⟩ = some (.int .i64 y.idx) from ⟨HS0.out.1.kept (grown_none hb_) (fun e => by cases e), (hb_.cell (by show b3 < _; have := HB3.out; have := HBwd.out.size; omega)).trans HS0.out.2⟩)
        have HOWNE := Lib.hid (HOWND.out.keep (hb_.mono (Nat.le_trans HBR.out.size HDD.out.size)))
        have HBe1 := Lib.hid (HBwd.out.trans (hb_.mono HBwd.out.size))
        have te1 := Lib.hid (twd.out.kept (grown_none hb_) (fun e => by cases e))
        have pe1 := Lib.hid (pwd.out.kept (grown_none hb_) (fun e => by cases e))
        have re1 := Lib.hid (rwd.out.kept (grown_none hb_) (fun e => by cases e))
        have HT1 := Lib.hid hb_
        clear hb_
        refine hK.out _ _ HS1.out (fun _ => ?_)
        clear hK K
        try simp only [Act.put, List.setIfInBounds_toArray, List.set_cons_zero, List.set_cons_succ]
        refine wpAnyH_ready (rs := [9]) (by kernel_rfl) (by simp) ?_
        refine AllReadyH.cons (o := ⟨some 67, .call ⟨_, _, _⟩, _, _, _, _⟩) rfl (fun K hK => ?_) AllReadyH.nil
        go_simp
        go_at_call 97
        refine (RCompare_any A7 A6 c7 c6 (orgF L y.idx) (ownL L d) _ _ _ HSL7.out HOWNE.out).mono ?_
        rintro e' e2 ⟨rfl, nq, rfl⟩
        obtain ⟨e2, he2⟩ : ∃ z, e1.drewN nq = z := ⟨_, rfl⟩
        rw [he2]
        have hb_ : Below e1.heap.size e1 e2 := by rw [← he2]; exact below_drewN_self _ _ nq
        clear he2
        obtain ⟨cv, hcv⟩ : ∃ z, cmpL (orgF L y.idx) (ownL L d) = z := ⟨_, rfl⟩
        rw [hcv]
        have HCV := Lib.hid hcv; clear hcv
        have HS2 := Lib.hid (show BoxL e2 w.heap.size [.slice (some ⟨b3, o3, none⟩) L.length c] ∧ e2.cell? ⟨b3, o3 + k * 10, none⟩ = some (.int .i64 y.idx) from ⟨HS1.out.1.kept (grown_none hb_) (fun e => by cases e), (hb_.cell (by show b3 < _; have := HB3.out; have := HBe1.out.size; omega)).trans HS1.out.2⟩)
        have HBe2 := Lib.hid (HBe1.out.trans (hb_.mono HBe1.out.size))
        have te2 := Lib.hid (te1.out.kept (grown_none hb_) (fun e => by cases e))
        have pe2 := Lib.hid (pe1.out.kept (grown_none hb_) (fun e => by cases e))
        have re2 := Lib.hid (re1.out.kept (grown_none hb_) (fun e => by cases e))
        have HT2 := Lib.hid hb_
        clear hb_
        refine hK.out _ _ HS2.out (fun _ => ?_)
        clear hK K
        try simp only [Act.put, List.setIfInBounds_toArray, List.set_cons_zero, List.set_cons_succ]
        refine wpAnyH_take (i := 10) (oi := ⟨some 9, _, _, _, _, _⟩) (v := .int .i64 cv) rfl (by kernel_rfl) (by kernel_rfl) (by kernel_rfl) (fun _ _ _ h => h) (Or.inl ⟨by rfl, fun w' hS => by go_simp⟩) HS2.out ?_
        try simp only [Act.put, List.setIfInBounds_toArray, List.set_cons_zero, List.set_cons_succ]
        refine wpAnyH_done (by kernel_rfl) ?_ _
        have HTE := Lib.hid (show Below wc.heap.size wc e2 from (HBR.out.trans ((HDD.out.trans ((HT1.out.trans (HT2.out.mono HT1.out.size)).mono HDD.out.size)).mono HBR.out.size)))
        go_upto_region 17 with fail
        go_cut [78] (fun s78 wx => s78 = .bool (badP L d y) ∧ Hid (Below e2.heap.size e2 wx))
        case first =>
         have HCE := Lib.hid (show DCells e2 b3 (o3 + k * 10) y A3 c3 from HCS.out.keep (HDD.out.trans ((HT1.out.trans (HT2.out.mono HT1.out.size)).mono HDD.out.size)) (by have := HB3.out; have := HBwr.out.size; omega))
         by_cases hz : cv = 0
         ·
          have ez : (cv == 0) = true := by simp [hz]
          have HBP2 := Lib.hid (show true = badP L d y by unfold badP; rw [HCV.out, hz]; rfl)
          have HZ := Lib.hid hz; clear hz
          refine wp_region_held_drew (S := fun w' => BoxL w' w.heap.size [.slice (some ⟨b3, o3, none⟩) L.length c] ∧ BoxL w' w1.heap.size [.int .i64 d.idx, .int .i64 d.par, .string d.nm, .string d.orig, .string d.sub, .string d.drv, .string d.ali, .int .i64 d.kind, .int .i64 d.num, .slice A2 d.attrs.length c2] ∧ DCells w' b3 (o3 + k * 10) y A3 c3) (by kernel_rfl) ⟨te2.out.drew, pe2.out.drew, HCE.out.keep (below_drewN_self _ _ 1) (by have := HB3.out; have := HBe2.out.size; omega)⟩ (fun hS0 => ?_)
          obtain ⟨wf, hwf⟩ : ∃ z, e2.drew = z := ⟨_, rfl⟩
          rw [hwf] at hS0 ⊢
          have hbd : Below e2.heap.size e2 wf := by rw [← hwf]; exact below_drewN_self _ _ 1
          clear hwf
          have HS0f := Lib.hid hS0; have HDF := Lib.hid hbd; clear hS0 hbd
          refine wpAnyH_take (i := 0) (oi := ⟨some 68, _, _, _, _, _⟩) (v := .int .i64 cv) rfl (by kernel_rfl) (by kernel_rfl) (by kernel_rfl) (fun _ _ _ h => h) (Or.inl ⟨by rfl, fun w' hS => by go_simp⟩) HS0f.out ?_
          try simp only [Act.put, List.setIfInBounds_toArray, List.set_cons_zero, List.set_cons_succ]
          refine wpAnyH_take (i := 1) (oi := ⟨some 69, _, _, _, _, _⟩) (v := .bool true) rfl (by kernel_rfl) (by kernel_rfl) (by kernel_rfl) (fun _ _ _ h => h) (Or.inl ⟨by rfl, fun w' hS => by go_simp⟩) HS0f.out ?_
          try simp only [Act.put, List.setIfInBounds_toArray, List.set_cons_zero, List.set_cons_succ]
          refine wpAnyH_take (i := 2) (oi := ⟨some 70, _, _, _, _, _⟩) (v := .bool true) rfl (by kernel_rfl) (by kernel_rfl) (by kernel_rfl) (fun _ _ _ h => h) (Or.inl ⟨by rfl, fun w' hS => by go_simp⟩) HS0f.out ?_
          try simp only [Act.put, List.setIfInBounds_toArray, List.set_cons_zero, List.set_cons_succ]
          refine wpAnyH_take (i := 3) (oi := ⟨some 71, _, _, _, _, _⟩) (v := undef) rfl (by kernel_rfl) (by kernel_rfl) (by kernel_rfl) (fun _ _ _ h => h) (Or.inr ⟨by rfl, rfl⟩) HS0f.out ?_
          try simp only [Act.put, List.setIfInBounds_toArray, List.set_cons_zero, List.set_cons_succ]
          refine wpAnyH_take (i := 4) (oi := ⟨some 72, _, _, _, _, _⟩) (v := undef) rfl (by kernel_rfl) (by kernel_rfl) (by kernel_rfl) (fun _ _ _ h => h) (Or.inr ⟨by rfl, rfl⟩) HS0f.out ?_
          try simp only [Act.put, List.setIfInBounds_toArray, List.set_cons_zero, List.set_cons_succ]
          refine wpAnyH_take (i := 5) (oi := ⟨some 73, _, _, _, _, _⟩) (v := undef) rfl (by kernel_rfl) (by kernel_rfl) (by kernel_rfl) (fun _ _ _ h => h) (Or.inr ⟨by rfl, rfl⟩) HS0f.out ?_
          try simp only [Act.put, List.setIfInBounds_toArray, List.set_cons_zero, List.set_cons_succ]
          refine wpAnyH_take (i := 6) (oi := ⟨some 74, _, _, _, _, _⟩) (v := undef) rfl (by kernel_rfl) (by kernel_rfl) (by kernel_rfl) (fun _ _ _ h => h) (Or.inr ⟨by rfl, rfl⟩) HS0f.out ?_
          try simp only [Act.put, List.setIfInBounds_toArray, List.set_cons_zero, List.set_cons_succ]
          refine wpAnyH_take (i := 7) (oi := ⟨some 75, _, _, _, _, _⟩) (v := undef) rfl (by kernel_rfl) (by kernel_rfl) (by kernel_rfl) (fun _ _ _ h => h) (Or.inr ⟨by rfl, rfl⟩) HS0f.out ?_
          try simp only [Act.put, List.setIfInBounds_toArray, List.set_cons_zero, List.set_cons_succ]
          refine wpAnyH_take (i := 8) (oi := ⟨some 76, _, _, _, _, _⟩) (v := undef) rfl (by kernel_rfl) (by kernel_rfl) (by kernel_rfl) (fun _ _ _ h => h) (Or.inr ⟨by rfl, rfl⟩) HS0f.out ?_
          try simp only [Act.put, List.setIfInBounds_toArray, List.set_cons_zero, List.set_cons_succ]
          refine wpAnyH_take (i := 9) (oi := ⟨some 77, _, _, _, _, _⟩) (v := undef) rfl (by kernel_rfl) (by kernel_rfl) (by kernel_rfl) (fun _ _ _ h => h) (Or.inr ⟨by rfl, rfl⟩) HS0f.out ?_
          try simp only [Act.put, List.setIfInBounds_toArray, List.set_cons_zero, List.set_cons_succ]
          refine wpAnyH_take (i := 10) (oi := ⟨some 78, _, _, _, _, _⟩) (v := .bool true) rfl (by kernel_rfl) (by kernel_rfl) (by kernel_rfl) (fun _ _ _ h => h) (Or.inl ⟨by rfl, fun w' hS => by go_simp⟩) HS0f.out ?_
          try simp only [Act.put, List.setIfInBounds_toArray, List.set_cons_zero, List.set_cons_succ]
          refine wpAnyH_done (by kernel_rfl) ?_ _
          go_wp2_with fail
          go_meet
          exact ⟨by rw [HBP2.out], HDF⟩
         ·
          have ez : (cv == 0) = false := by simp [hz]
          have HBP2 := Lib.hid (show clashB y d = badP L d y by unfold badP; rw [HCV.out, decide_eq_false hz]; rfl)
          have HZ := Lib.hid hz; clear hz
          refine wp_region_held_drew (S := fun w' => BoxL w' w.heap.size [.slice (some ⟨b3, o3, none⟩) L.length c] ∧ BoxL w' w1.heap.size [.int .i64 d.idx, .int .i64 d.par, .string d.nm, .string d.orig, .string d.sub, .string d.drv, .string d.ali, .int .i64 d.kind, .int .i64 d.num, .slice A2 d.attrs.length c2] ∧ DCells w' b3 (o3 + k * 10) y A3 c3) (by kernel_rfl) ⟨te2.out.drew, pe2.out.drew, HCE.out.keep (below_drewN_self _ _ 1) (by have := HB3.out; have := HBe2.out.size; omega)⟩ (fun hS0 => ?_)
          obtain ⟨wf, hwf⟩ : ∃ z, e2.drew = z := ⟨_, rfl⟩
          rw [hwf] at hS0 ⊢
          have hbd : Below e2.heap.size e2 wf := by rw [← hwf]; exact below_drewN_self _ _ 1
          clear hwf
          have HS0f := Lib.hid hS0; have HDF := Lib.hid hbd; clear hS0 hbd
          refine wpAnyH_take (i := 0) (oi := ⟨some 68, _, _, _, _, _⟩) (v := .int .i64 cv) rfl (by kernel_rfl) (by kernel_rfl) (by kernel_rfl) (fun _ _ _ h => h) (Or.inl ⟨by rfl, fun w' hS => by go_simp⟩) HS0f.out ?_
          try simp only [Act.put, List.setIfInBounds_toArray, List.set_cons_zero, List.set_cons_succ]
          refine wpAnyH_take (i := 1) (oi := ⟨some 69, _, _, _, _, _⟩) (v := .bool false) rfl (by kernel_rfl) (by kernel_rfl) (by kernel_rfl) (fun _ _ _ h => h) (Or.inl ⟨by rfl, fun w' hS => by go_simp⟩) HS0f.out ?_
          try simp only [Act.put, List.setIfInBounds_toArray, List.set_cons_zero, List.set_cons_succ]
          refine wpAnyH_take (i := 2) (oi := ⟨some 70, _, _, _, _, _⟩) (v := .bool false) rfl (by kernel_rfl) (by kernel_rfl) (by kernel_rfl) (fun _ _ _ h => h) (Or.inl ⟨by rfl, fun w' hS => by go_simp⟩) HS0f.out ?_
          try simp only [Act.put, List.setIfInBounds_toArray, List.set_cons_zero, List.set_cons_succ]
          refine wpAnyH_take (i := 3) (oi := ⟨some 71, _, _, _, _, _⟩) (v := .pointer (some ⟨w.heap.size, 0, none⟩)) rfl (by kernel_rfl) (by kernel_rfl) (by kernel_rfl) (fun _ _ _ h => h) (Or.inl ⟨by rfl, fun w' hS => by go_simp⟩) HS0f.out ?_
          try simp only [Act.put, List.setIfInBounds_toArray, List.set_cons_zero, List.set_cons_succ]
          refine wpAnyH_take (i := 4) (oi := ⟨some 72, _, _, _, _, _⟩) (v := .slice (some ⟨b3, o3, none⟩) L.length c) rfl (by kernel_rfl) (by kernel_rfl) (by kernel_rfl) (fun _ _ _ h => h) (Or.inl ⟨by rfl, fun w' hS => by (have u := hS.1.1 0 _ rfl; go_simp)⟩) HS0f.out ?_
          try simp only [Act.put, List.setIfInBounds_toArray, List.set_cons_zero, List.set_cons_succ]
          refine wpAnyH_take (i := 5) (oi := ⟨some 73, _, _, _, _, _⟩) (v := .int .i64 k) rfl (by kernel_rfl) (by kernel_rfl) (by kernel_rfl) (fun _ _ _ h => h) (Or.inl ⟨by rfl, fun w' hS => by go_simp⟩) HS0f.out ?_
          try simp only [Act.put, List.setIfInBounds_toArray, List.set_cons_zero, List.set_cons_succ]
          refine wpAnyH_take (i := 6) (oi := ⟨some 74, _, _, _, _, _⟩) (v := .pointer (some ⟨b3, o3 + k * 10, none⟩)) rfl (by kernel_rfl) (by kernel_rfl) (by kernel_rfl) (fun _ _ _ h => h) (Or.inl ⟨by rfl, fun w' hS => by go_simp⟩) HS0f.out ?_
          try simp only [Act.put, List.setIfInBounds_toArray, List.set_cons_zero, List.set_cons_succ]
          refine wpAnyH_take (i := 7) (oi := ⟨some 75, _, _, _, _, _⟩) (v := .agg #[.int .i64 y.idx, .int .i64 y.par, .string y.nm, .string y.orig, .string y.sub, .string y.drv, .string y.ali, .int .i64 y.kind, .int .i64 y.num, .slice A3 y.attrs.length c3]) rfl (by kernel_rfl) (by kernel_rfl) (by kernel_rfl) (fun _ _ _ h => h) (Or.inl ⟨by rfl, fun w' hS => by (obtain ⟨u0, u1, u2, u3, u4, u5, u6, u7, u8, u9⟩ := hS.2.2; go_simp)⟩) HS0f.out ?_
          try simp only [Act.put, List.setIfInBounds_toArray, List.set_cons_zero, List.set_cons_succ]
          refine wpAnyH_take (i := 8) (oi := ⟨some 76, _, _, _, _, _⟩) (v := .agg #[.int .i64 d.idx, .int .i64 d.par, .string d.nm, .string d.orig, .string d.sub, .string d.drv, .string d.ali, .int .i64 d.kind, .int .i64 d.num, .slice A2 d.attrs.length c2]) rfl (by kernel_rfl) (by kernel_rfl) (by kernel_rfl) (fun _ _ _ h => h) (Or.inl ⟨by rfl, fun w' hS => by (have u0 := hS.2.1.1 0 _ rfl; have u1 := hS.2.1.1 1 _ rfl; have u2 := hS.2.1.1 2 _ rfl; have u3 := hS.2.1.1 3 _ rfl; have u4 := hS.2.1.1 4 _ rfl; have u5 := hS.2.1.1 5 _ rfl; have u6 := hS.2.1.1 6 _ rfl; have u7 := hS.2.1.1 7 _ rfl; have u8 := hS.2.1.1 8 _ rfl; have u9 := hS.2.1.1 9 _ rfl; go_simp)⟩) HS0f.out ?_
          try simp only [Act.put, List.setIfInBounds_toArray, List.set_cons_zero, List.set_cons_succ]
          refine wpAnyH_ready (rs := [9]) (by kernel_rfl) (by simp) ?_
          refine AllReadyH.cons (o := ⟨some 77, .call ⟨_, _, _⟩, _, _, _, _⟩) rfl (fun K hK => ?_) AllReadyH.nil
          go_simp
          go_at_call 98
          refine (RClash_any y d A3 A2 c3 c2 _ (by have := HVK.out.1; omega) (by have := HDS.out; omega) (HOK.out.next (HBe2.out.trans (HDF.out.mono HBe2.out.size)))).mono ?_
          rintro e' wg ⟨rfl, hb_⟩
          have HTG := Lib.hid (HDF.out.trans (hb_.mono HDF.out.size))
          have HSG := Lib.hid (show BoxL wg w.heap.size [.slice (some ⟨b3, o3, none⟩) L.length c] ∧ BoxL wg w1.heap.size [.int .i64 d.idx, .int .i64 d.par, .string d.nm, .string d.orig, .string d.sub, .string d.drv, .string d.ali, .int .i64 d.kind, .int .i64 d.num, .slice A2 d.attrs.length c2] ∧ DCells wg b3 (o3 + k * 10) y A3 c3 from ⟨HS0f.out.1.kept (grown_none hb_) (fun e => by cases e), HS0f.out.2.1.kept (grown_none hb_) (fun e => by cases e), HS0f.out.2.2.keep hb_ (by have := HB3.out; have := HBe2.out.size; have := HDF.out.size; omega)⟩)
          clear hb_
          refine hK.out _ _ HSG.out (fun _ => ?_)
          clear hK K
          try simp only [Act.put, List.setIfInBounds_toArray, List.set_cons_zero, List.set_cons_succ]
          refine wpAnyH_take (i := 10) (oi := ⟨some 78, _, _, _, _, _⟩) (v := .bool (clashB y d)) rfl (by kernel_rfl) (by kernel_rfl) (by kernel_rfl) (fun _ _ _ h => h) (Or.inl ⟨by rfl, fun w' hS => by go_simp⟩) HSG.out ?_
          try simp only [Act.put, List.setIfInBounds_toArray, List.set_cons_zero, List.set_cons_succ]
          refine wpAnyH_done (by kernel_rfl) ?_ _
          go_wp2_with fail
          go_meet
          exact ⟨by rw [HBP2.out], HTG⟩
        case rest =>
        obtain ⟨rfl, hq⟩ := hcut
        have hbq := hq.out
        have HTQ := Lib.hid (HTE.out.trans (hbq.mono HTE.out.size))
        clear hq
        have HQ := Lib.hid hbq; clear hbq
        have HBwcx := Lib.hid (HBe2.out.trans (HQ.out.mono HBe2.out.size))
        have twcx := Lib.hid (te2.out.kept (grown_none HQ.out) (fun e => by cases e))
        have pwcx := Lib.hid (pe2.out.kept (grown_none HQ.out) (fun e => by cases e))
        have rwcx := Lib.hid (re2.out.kept (grown_none HQ.out) (fun e => by cases e))
        cases hbp2 : badP L d y with
        | true =>
         have HBP3 := Lib.hid hbp2; clear hbp2
         have cr0 := rwcx.out.1 0 _ rfl
         have cfr := rwcx.out.2.1
         have HE := Lib.hid (show insE L d = 44 by unfold insE; rw [if_neg (by rw [HC.out]; decide), if_neg (by rw [HIN.out]; decide), if_neg HP.out, if_neg HL.out, if_neg HO.out, if_pos (any_stop HXK.out HBP3.out)])
         have HER := Lib.hid (show insR L d = [] by unfold insR; rw [HE.out]; rfl)
         go_wp2
         refine bodyPost_ret (v := .tuple #[.agg #[.slice none 0 0], .int .i64 44]) (by simp [results, Tryz.results53, go_sem, cr0, cfr]) rfl ⟨HBwcx.out.setCell (by have := HGw1.out; have := HGw2.out; show w.heap.size ≤ w2.heap.size; omega) _, .slice none 0 0, by rw [HE.out], by rw [HER.out]; exact OwnsS.nil_ _ _ _ _⟩
        | false =>
         have HBP3 := Lib.hid hbp2; clear hbp2
         by_cases hl0 : cv < 0
         ·
          have HLS := Lib.hid (show atK L (ownL L d) (k + 1) = k + 1 by rw [HST.out, if_pos (by unfold lessP; rw [HCV.out]; exact decide_eq_true hl0)])
          go_wp2
          go_roundw
          case rel => exact ⟨k + 1, by omega, by go_num, by rw [HLS.out]; go_num, any_take_step HBD.out HXK.out HBP3.out, HTQ⟩
          case measure => simp [intOf]; omega
         ·
          have HLS := Lib.hid (show atK L (ownL L d) (k + 1) = atK L (ownL L d) k by rw [HST.out, if_neg (by unfold lessP; rw [HCV.out, decide_eq_false hl0]; decide)])
          go_wp2
          go_roundw
          case rel => exact ⟨k + 1, by omega, by go_num, by rw [HLS.out], any_take_step HBD.out HXK.out HBP3.out, HTQ⟩
          case measure => simp [intOf]; omega
       ·
        have i6 : ¬ (k : Int) < (L.length : Int) := by omega
        obtain rfl : k = L.length := by omega
        have hat : atK L (ownL L d) L.length = atN L (ownL L d) := atK_all _ _
        have hatl : atN L (ownL L d) ≤ L.length := by rw [← hat]; exact atK_le _ _ _
        have hall := HBD.out
        rw [List.take_length] at hall
        have HE := Lib.hid (show insE L d = 0 by unfold insE; rw [if_neg (by rw [HC.out]; decide), if_neg (by rw [HIN.out]; decide), if_neg HP.out, if_neg HL.out, if_neg HO.out, if_neg (by rw [hall]; decide)])
        rw [hat]
        obtain ⟨m, hm⟩ : ∃ m, atN L (ownL L d) = m := ⟨_, rfl⟩
        rw [hm] at hatl ⊢
        have HM := Lib.hid hm; clear hat hall hm
        clear i6
        go_upto_region 22 with fail
        obtain ⟨w11, hw11⟩ : ∃ w11, wr.alloc (.cells #[.slice none 0 0] 47) = w11 := ⟨_, rfl⟩
        have hbw11 : Below wr.heap.size wr w11 := by rw [← hw11]; exact (Below.refl _ _).alloc (Nat.le_refl _) _
        have HGw11 := Lib.hid (show w11.heap.size = wr.heap.size + 1 by rw [← hw11]; simp)
        have HXnw11 := Lib.hid (show BoxL w11 wr.heap.size [.slice none 0 0] from box_mk hw11)
        try simp only [hw11]
        have HBw11 := Lib.hid (HBwr.out.trans (hbw11.mono HBwr.out.size))
        have tw11 := Lib.hid (twr.out.kept (grown_none hbw11) (fun e => by cases e))
        have pw11 := Lib.hid (pwr.out.kept (grown_none hbw11) (fun e => by cases e))
        have rw11 := Lib.hid (rwr.out.kept (grown_none hbw11) (fun e => by cases e))
        clear hw11 hbw11
        try rw [show wr.heap.size + 1 = w11.heap.size from HGw11.out.symm]
        clear ct0 cfr
        have HLW := Lib.hid (show (w.heap.size < w11.heap.size ∧ w1.heap.size < w11.heap.size) ∧ w2.heap.size < w11.heap.size ∧ wr.heap.size < w11.heap.size from ⟨⟨tw11.out.2.2, pw11.out.2.2⟩, rw11.out.2.2, HXnw11.out.2.2⟩)
        go_cut [] (fun wx => ∃ (A9 : Option Addr) (c9 : Nat), Hid (Below w.heap.size w wx ∧ BoxL wx w2.heap.size [.slice none 0 0] ∧ OwnsS S wx w11.heap.size 84 (.slice A9 (insL L d).length c9) (insL L d) ∧ BoxL wx wr.heap.size [.slice A9 (insL L d).length c9]))
        case first =>
         refine wp_region_held_drew (S := fun w' => BoxL w' w.heap.size [.slice A L.length c] ∧ BoxL w' w1.heap.size [.int .i64 d.idx, .int .i64 d.par, .string d.nm, .string d.orig, .string d.sub, .string d.drv, .string d.ali, .int .i64 d.kind, .int .i64 d.num, .slice A2 d.attrs.length c2]) (by kernel_rfl) ⟨tw11.out.drew, pw11.out.drew⟩ (fun hS0 => ?_)
         obtain ⟨wd, hwd⟩ : ∃ z, w11.drew = z := ⟨_, rfl⟩
         rw [hwd] at hS0 ⊢
         have hbd : Below w11.heap.size w11 wd := by rw [← hwd]; exact below_drewN_self _ _ 1
         clear hwd hS0
         have HSZD := Lib.hid hbd.size
         have HBwd := Lib.hid (HBw11.out.trans (hbd.mono HBw11.out.size))
         have twd := Lib.hid (tw11.out.kept (grown_none hbd) (fun e => by cases e))
         have pwd := Lib.hid (pw11.out.kept (grown_none hbd) (fun e => by cases e))
         have rwd := Lib.hid (rw11.out.kept (grown_none hbd) (fun e => by cases e))
         have nwd := Lib.hid (HXnw11.out.kept (grown_none hbd) (fun e => by cases e))
         clear hbd
         refine wpAnyH_take (i := 0) (oi := ⟨some 84, _, _, _, _, _⟩) (v := .pointer (some ⟨wr.heap.size, 0, none⟩)) rfl (by kernel_rfl) (by kernel_rfl) (by kernel_rfl) (fun _ _ _ h => h) (Or.inl ⟨by rfl, fun w' hS => by go_simp⟩) ⟨twd.out, pwd.out⟩ ?_
         try simp only [Act.put, List.setIfInBounds_toArray, List.set_cons_zero, List.set_cons_succ]
         refine wpAnyH_take (i := 2) (oi := ⟨some 86, _, _, _, _, _⟩) (v := .pointer (some ⟨w.heap.size, 0, none⟩)) rfl (by kernel_rfl) (by kernel_rfl) (by kernel_rfl) (fun _ _ _ h => h) (Or.inl ⟨by rfl, fun w' hS => by go_simp⟩) ⟨twd.out, pwd.out⟩ ?_
         try simp only [Act.put, List.setIfInBounds_toArray, List.set_cons_zero, List.set_cons_succ]
         refine wpAnyH_take (i := 3) (oi := ⟨some 87, _, _, _, _, _⟩) (v := .slice A L.length c) rfl (by kernel_rfl) (by kernel_rfl) (by kernel_rfl) (fun _ _ _ h => h) (Or.inl ⟨by rfl, fun w' hS => by (have u := hS.1.1 0 _ rfl; go_simp)⟩) ⟨twd.out, pwd.out⟩ ?_
         try simp only [Act.put, List.setIfInBounds_toArray, List.set_cons_zero, List.set_cons_succ]
         refine wpAnyH_take (i := 4) (oi := ⟨some 88, _, _, _, _, _⟩) (v := .int .i64 m) rfl (by kernel_rfl) (by kernel_rfl) (by kernel_rfl) (fun _ _ _ h => h) (Or.inl ⟨by rfl, fun w' hS => by go_simp⟩) ⟨twd.out, pwd.out⟩ ?_
         try simp only [Act.put, List.setIfInBounds_toArray, List.set_cons_zero, List.set_cons_succ]
         have hm1 : (m : Int) ≤ (L.length : Int) := by omega
         have hm2 : (m : Int) ≤ (c : Int) := by omega
         have hm3 : m ≤ c := by omega
         refine wpAnyH_take (i := 5) (oi := ⟨some 89, _, _, _, _, _⟩) (v := .slice A m c) rfl (by kernel_rfl) (by kernel_rfl) (by kernel_rfl) (fun _ _ _ h => h) (Or.inl ⟨by rfl, fun w' hS => by (rw [← sliced_take (A := A) (c := c) (m := m) (s := 10)]; go_simp)⟩) ⟨twd.out, pwd.out⟩ ?_
         try simp only [Act.put, List.setIfInBounds_toArray, List.set_cons_zero, List.set_cons_succ]
         refine wpAnyH_take (i := 7) (oi := ⟨some 91, _, _, _, _, _⟩) (v := .agg #[.int .i64 d.idx, .int .i64 d.par, .string d.nm, .string d.orig, .string d.sub, .string d.drv, .string d.ali, .int .i64 d.kind, .int .i64 d.num, .slice A2 d.attrs.length c2]) rfl (by kernel_rfl) (by kernel_rfl) (by kernel_rfl) (fun _ _ _ h => h) (Or.inl ⟨by rfl, fun w' hS => by (have u0 := hS.2.1 0 _ rfl; have u1 := hS.2.1 1 _ rfl; have u2 := hS.2.1 2 _ rfl; have u3 := hS.2.1 3 _ rfl; have u4 := hS.2.1 4 _ rfl; have u5 := hS.2.1 5 _ rfl; have u6 := hS.2.1 6 _ rfl; have u7 := hS.2.1 7 _ rfl; have u8 := hS.2.1 8 _ rfl; have u9 := hS.2.1 9 _ rfl; go_simp)⟩) ⟨twd.out, pwd.out⟩ ?_
         try simp only [Act.put, List.setIfInBounds_toArray, List.set_cons_zero, List.set_cons_succ]
         refine wpAnyH_take (i := 10) (oi := ⟨some 94, _, _, _, _, _⟩) (v := .pointer (some ⟨w.heap.size, 0, none⟩)) rfl (by kernel_rfl) (by kernel_rfl) (by kernel_rfl) (fun _ _ _ h => h) (Or.inl ⟨by rfl, fun w' hS => by go_simp⟩) ⟨twd.out, pwd.out⟩ ?_
         try simp only [Act.put, List.setIfInBounds_toArray, List.set_cons_zero, List.set_cons_succ]
         refine wpAnyH_take (i := 11) (oi := ⟨some 95, _, _, _, _, _⟩) (v := .slice A L.length c) rfl (by kernel_rfl) (by kernel_rfl) (by kernel_rfl) (fun _ _ _ h => h) (Or.inl ⟨by rfl, fun w' hS => by (have u := hS.1.1 0 _ rfl; go_simp)⟩) ⟨twd.out, pwd.out⟩ ?_
         try simp only [Act.put, List.setIfInBounds_toArray, List.set_cons_zero, List.set_cons_succ]
         refine wpAnyH_take (i := 12) (oi := ⟨some 96, _, _, _, _, _⟩) (v := .int .i64 m) rfl (by kernel_rfl) (by kernel_rfl) (by kernel_rfl) (fun _ _ _ h => h) (Or.inl ⟨by rfl, fun w' hS => by go_simp⟩) ⟨twd.out, pwd.out⟩ ?_
         try simp only [Act.put, List.setIfInBounds_toArray, List.set_cons_zero, List.set_cons_succ]
         obtain ⟨Ad, hAd⟩ : ∃ z, (if c = m then A else A.map (·.add (m * 10))) = z := ⟨_, rfl⟩
         have HAD := Lib.hid hAd; clear hAd
         refine wpAnyH_take (i := 13) (oi := ⟨some 97, _, _, _, _, _⟩) (v := .slice Ad (L.length - m) (c - m)) rfl (by kernel_rfl) (by kernel_rfl) (by kernel_rfl) (fun _ _ _ h => h) (Or.inl ⟨by rfl, fun w' hS => by (rw [show (Value.slice Ad (L.length - m) (c - m)) = sliced A m L.length c 10 by unfold sliced; rw [HAD.out]]; go_simp)⟩) ⟨twd.out, pwd.out⟩ ?_
         try simp only [Act.put, List.setIfInBounds_toArray, List.set_cons_zero, List.set_cons_succ]
         refine wpAnyH_ready (rs := [1, 8]) (by kernel_rfl) (by simp) ?_
         refine AllReadyH.cons (o := ⟨some 85, .load _ _, _, _, _, _⟩) rfl (fun K hK => ?_) (AllReadyH.cons (o := ⟨some 92, .buildSlice _ _ _, _, _, _, _⟩) rfl (fun K hK => ?_) (AllReadyH.nil))
         ·
          have cn0 := nwd.out.1 0 _ rfl
          go_simp
          refine hK.out _ _ ⟨twd.out, pwd.out⟩ (fun _ => ?_)
          clear hK K
          try simp only [Act.put, List.setIfInBounds_toArray, List.set_cons_zero, List.set_cons_succ]
          clear cn0
          refine wpAnyH_ready (rs := [6, 8]) (by kernel_rfl) (by simp) ?_
          refine AllReadyH.cons (o := ⟨some 90, .call ⟨_, _, _⟩, _, _, _, _⟩) rfl (fun K hK => ?_) (AllReadyH.cons (o := ⟨some 92, .buildSlice _ _ _, _, _, _, _⟩) rfl (fun K hK => ?_) (AllReadyH.nil))
          ·
           have HS6 := Lib.hid (show SlS wd (fun b => S b ∧ b < wd.heap.size ∧ (.slice none 0 0 : Value).ownBlock ≠ some b) A c (L.take m) from ((HX.out.below HBwd.out HS.out).take_ hatl).mono (fun x hx => ⟨hx, by have := HS.out x hx; have := HBwd.out.size; omega, fun h => by cases h⟩) (fun _ _ _ _ hu => hu))
           have hlt6 : (L.take m).length = m := by rw [List.length_take]; omega
           refine step_app rfl _ _ rfl (.slice none 0 0) (.slice A (L.take m).length c) (by simp [Act.eval, Act.put]) (by rw [hlt6]; simp [Act.eval, Act.put]) (run_appL E_dev _ (.slice none 0 0) ([] : List Dev) (OwnsS.nil_ S _ w11.heap.size _) A c (L.take m) (.inl HS6.out) (by rw [hlt6]; have := HVL.out; simp only [List.length_nil]; unfold maxLen; omega) (by rw [hlt6]; have := HVL.out; simp only [List.length_nil]; omega) HSZD.out) ?_
           rintro v1 q12 ⟨hown_, hg_, hnew_⟩
           rw [List.nil_append] at hown_
           have hlow : ∀ k, (.slice none 0 0 : Value).ownBlock = some k → w11.heap.size ≤ k := fun k hk => ((OwnsS.nil_ S wd w11.heap.size 84 : OwnsS S wd w11.heap.size 84 (.slice none 0 0) ([] : List Dev)).lt k hk).1
           have HBq12 := Lib.hid (show Below w.heap.size w q12 from below_own HBwd.out hg_ HBwd.out.size (fun k hk => by have := hlow k hk; have := HLW.out.1.1; omega))
           have tq12 := Lib.hid (twd.out.kept hg_ (fun e => by have := hlow _ e.symm; have := HLW.out.1.1; omega))
           have pq12 := Lib.hid (pwd.out.kept hg_ (fun e => by have := hlow _ e.symm; have := HLW.out.1.2; omega))
           have rq12 := Lib.hid (rwd.out.kept hg_ (fun e => by have := hlow _ e.symm; have := HLW.out.2.1; omega))
           have nq12 := Lib.hid (nwd.out.kept hg_ (fun e => by have := hlow _ e.symm; have := HLW.out.2.2; omega))
           have HSZq12 := Lib.hid (show w11.heap.size ≤ q12.heap.size from Nat.le_trans HSZD.out hg_.size)
           have HOWNq12 := Lib.hid hown_
           clear hown_ hg_ hnew_ hlow
           refine hK.out _ _ ⟨tq12.out, pq12.out⟩ (fun _ => ?_)
           clear hK K
           try simp only [Act.put, List.setIfInBounds_toArray, List.set_cons_zero, List.set_cons_succ]
           refine wpAnyH_ready (rs := [8]) (by kernel_rfl) (by simp) ?_
           refine AllReadyH.cons (o := ⟨some 92, .buildSlice _ _ _, _, _, _, _⟩) rfl (fun K hK => ?_) (AllReadyH.nil)
           go_simp
           obtain ⟨q13, hq13⟩ : ∃ z, q12.alloc (.cells #[.int .i64 d.idx, .int .i64 d.par, .string d.nm, .string d.orig, .string d.sub, .string d.drv, .string d.ali, .int .i64 d.kind, .int .i64 d.num, .slice A2 d.attrs.length c2] 84) = z := ⟨_, rfl⟩
           have hb_ : Below q12.heap.size q12 q13 := by rw [← hq13]; exact (Below.refl _ _).alloc (Nat.le_refl _) _
           have HXq13 := Lib.hid (show BoxL q13 q12.heap.size (devCells d A2 c2) from box_mk hq13)
           try rw [hq13]
           clear hq13
           have HOWNq13 := Lib.hid (HOWNq12.out.below hb_)
           have HSZq13 := Lib.hid (show w11.heap.size ≤ q13.heap.size from Nat.le_trans HSZq12.out hb_.size)
           have HBq13 := Lib.hid (HBq12.out.trans (hb_.mono HBq12.out.size))
           have tq13 := Lib.hid (tq12.out.kept (grown_none hb_) (fun e => by cases e))
           have pq13 := Lib.hid (pq12.out.kept (grown_none hb_) (fun e => by cases e))
           have rq13 := Lib.hid (rq12.out.kept (grown_none hb_) (fun e => by cases e))
           have nq13 := Lib.hid (nq12.out.kept (grown_none hb_) (fun e => by cases e))
           clear hb_
           refine hK.out _ _ ⟨tq13.out, pq13.out⟩ (fun _ => ?_)
           clear hK K
           try simp only [Act.put, List.setIfInBounds_toArray, List.set_cons_zero, List.set_cons_succ]
           refine wpAnyH_ready (rs := [9]) (by kernel_rfl) (by simp) ?_
           refine AllReadyH.cons (o := ⟨some 93, .call ⟨_, _, _⟩, _, _, _, _⟩) rfl (fun K hK => ?_) (AllReadyH.nil)
           have HR9 := Lib.hid (show RepS.rdS q13 (fun b => S b ∧ b < q13.heap.size ∧ v1.ownBlock ≠ some b) d (devCells d A2 c2) from ⟨A2, c2, rfl, HD.out, (HA.out.below HBq13.out HS.out).mono (fun x hx => ⟨hx, by have := HS.out x hx; have := HBq13.out.size; omega, fun h => by have := (HOWNq13.out.lt _ h).1; have := HS.out x hx; have := HLW.out.1.1; omega⟩) (fun _ _ _ _ hu => hu)⟩)
           have hlt6 : (L.take m).length = m := by rw [List.length_take]; omega
           refine step_app rfl _ _ rfl v1 (.slice (some ⟨q12.heap.size, 0, none⟩) 1 1) (by simp [Act.eval, Act.put]) (by simp [Act.eval, Act.put]) (run_app1 E_dev _ v1 (L.take m) HOWNq13.out q12.heap.size d (devCells d A2 c2) HXq13.out.1 HR9.out (by rw [hlt6]; have := HVL.out; unfold maxLen; omega) (by rw [hlt6]; have := HVL.out; omega) HSZq13.out) ?_
           rintro v2 q14 ⟨hown_, hg_, hnew_⟩
           have hlow : ∀ k, (v1 : Value).ownBlock = some k → w11.heap.size ≤ k := fun k hk => (HOWNq13.out.lt k hk).1
           have HBq14 := Lib.hid (show Below w.heap.size w q14 from below_own HBq13.out hg_ HBq13.out.size (fun k hk => by have := hlow k hk; have := HLW.out.1.1; omega))
           have tq14 := Lib.hid (tq13.out.kept hg_ (fun e => by have := hlow _ e.symm; have := HLW.out.1.1; omega))
           have pq14 := Lib.hid (pq13.out.kept hg_ (fun e => by have := hlow _ e.symm; have := HLW.out.1.2; omega))
           have rq14 := Lib.hid (rq13.out.kept hg_ (fun e => by have := hlow _ e.symm; have := HLW.out.2.1; omega))
           have nq14 := Lib.hid (nq13.out.kept hg_ (fun e => by have := hlow _ e.symm; have := HLW.out.2.2; omega))
           have HSZq14 := Lib.hid (show w11.heap.size ≤ q14.heap.size from Nat.le_trans HSZq13.out hg_.size)
           have HOWNq14 := Lib.hid hown_
           clear hown_ hg_ hnew_ hlow
           refine hK.out _ _ ⟨tq14.out, pq14.out⟩ (fun _ => ?_)
           clear hK K
           try simp only [Act.put, List.setIfInBounds_toArray, List.set_cons_zero, List.set_cons_succ]
           refine wpAnyH_ready (rs := [14]) (by kernel_rfl) (by simp) ?_
           refine AllReadyH.cons (o := ⟨some 98, .call ⟨_, _, _⟩, _, _, _, _⟩) rfl (fun K hK => ?_) (AllReadyH.nil)
           have hdl : (L.drop m).length = L.length - m := List.length_drop
           have HS14 := Lib.hid (show SlS q14 (fun b => S b ∧ b < q14.heap.size ∧ v2.ownBlock ≠ some b) Ad (c - m) (L.drop m) ∨ L.drop m = [] by
            rw [← HAD.out]
            exact (SlS.drop_ (HX.out.below HBq14.out HS.out) (m := m)).imp (fun h => h.mono (fun x hx => ⟨hx, by have := HS.out x hx; have := HBq14.out.size; omega, fun h => by have := (HOWNq14.out.lt _ h).1; have := HS.out x hx; have := HLW.out.1.1; omega⟩) (fun _ _ _ _ hu => hu)) id)
           have hlt6 : (L.take m ++ [d]).length = m + 1 := by rw [List.length_append, List.length_take, List.length_singleton]; omega
           refine step_app rfl _ _ rfl v2 (.slice Ad (L.drop m).length (c - m)) (by simp [Act.eval, Act.put]) (by rw [hdl]; simp [Act.eval, Act.put]) (run_appL E_dev _ v2 (L.take m ++ [d]) HOWNq14.out _ (c - m) (L.drop m) HS14.out (by rw [hlt6, hdl]; have := HVL.out; unfold maxLen; omega) (by rw [hlt6, hdl]; have := HVL.out; omega) HSZq14.out) ?_
           rintro v3 q15 ⟨hown_, hg_, hnew_⟩
           have hins : (L.take m ++ [d]) ++ L.drop m = insL L d := by unfold insL; rw [HM.out, List.append_assoc]; rfl
           rw [hins] at hown_
           have hlow : ∀ k, (v2 : Value).ownBlock = some k → w11.heap.size ≤ k := fun k hk => (HOWNq14.out.lt k hk).1
           have HBq15 := Lib.hid (show Below w.heap.size w q15 from below_own HBq14.out hg_ HBq14.out.size (fun k hk => by have := hlow k hk; have := HLW.out.1.1; omega))
           have tq15 := Lib.hid (tq14.out.kept hg_ (fun e => by have := hlow _ e.symm; have := HLW.out.1.1; omega))
           have pq15 := Lib.hid (pq14.out.kept hg_ (fun e => by have := hlow _ e.symm; have := HLW.out.1.2; omega))
           have rq15 := Lib.hid (rq14.out.kept hg_ (fun e => by have := hlow _ e.symm; have := HLW.out.2.1; omega))
           have nq15 := Lib.hid (nq14.out.kept hg_ (fun e => by have := hlow _ e.symm; have := HLW.out.2.2; omega))
           have HSZq15 := Lib.hid (show w11.heap.size ≤ q15.heap.size from Nat.le_trans HSZq14.out hg_.size)
           have HOWNq15 := Lib.hid hown_
           clear hown_ hg_ hnew_ hlow
           obtain ⟨A9, c9, hv_, -⟩ := HOWNq15.out.sl
           subst hv_
           refine hK.out _ _ ⟨tq15.out, pq15.out⟩ (fun _ => ?_)
           clear hK K
           try simp only [Act.put, List.setIfInBounds_toArray, List.set_cons_zero, List.set_cons_succ]
           refine wpAnyH_take (i := 15) (oi := ⟨some 99, _, _, _, _, _⟩) (v := .pointer (some ⟨wr.heap.size, 0, none⟩)) rfl (by kernel_rfl) (by kernel_rfl) (by kernel_rfl) (fun _ _ _ h => h) (Or.inl ⟨by rfl, fun w' hS => by go_simp⟩) ⟨tq15.out, pq15.out⟩ ?_
           try simp only [Act.put, List.setIfInBounds_toArray, List.set_cons_zero, List.set_cons_succ]
           have cn0 := nq15.out.1 0 _ rfl; have cnf := nq15.out.2.1
           have HFB := Lib.hid (show Below w.heap.size w (q15.setCell ⟨wr.heap.size, 0, none⟩ (.slice A9 (insL L d).length c9)) from HBq15.out.setCell (by show w.heap.size ≤ wr.heap.size; exact HBwr.out.size) _)
           have hne_ : wr.heap.size ≠ w.heap.size ∧ wr.heap.size ≠ w1.heap.size ∧ wr.heap.size ≠ w2.heap.size := by have := twr.out.2.2; have := pwr.out.2.2; have := rwr.out.2.2; omega
           have HNE := Lib.hid hne_; clear hne_
           have HFR := Lib.hid (rq15.out.far (g' := wr.heap.size) (j := 0) HNE.out.2.2 (.slice A9 (insL L d).length c9)); have HFN := Lib.hid (show BoxL (q15.setCell ⟨wr.heap.size, 0, none⟩ (.slice A9 (insL L d).length c9)) wr.heap.size [.slice A9 (insL L d).length c9] from nq15.out.set_ (j := 0) (by simp) _)
           have HFT := Lib.hid (tq15.out.far (g' := wr.heap.size) (j := 0) HNE.out.1 (.slice A9 (insL L d).length c9)); have HFP := Lib.hid (pq15.out.far (g' := wr.heap.size) (j := 0) HNE.out.2.1 (.slice A9 (insL L d).length c9))
           have HFO := Lib.hid (HOWNq15.out.grownb (grown_one q15 wr.heap.size 0 (.slice A9 (insL L d).length c9)) (fun x hx => by have := HS.out x hx; have := HBwr.out.size; omega) HLW.out.2.2)
           refine wpAnyH_ready (rs := [16]) (by kernel_rfl) (by simp) ?_
           refine AllReadyH.cons (o := ⟨none, .store _ _ _, _, _, _, _⟩) rfl (fun K hK => ?_) AllReadyH.nil
           go_simp
           refine hK.out _ _ ⟨HFT.out, HFP.out⟩ (fun _ => ?_)
           clear hK K
           try simp only [Act.put, List.setIfInBounds_toArray, List.set_cons_zero, List.set_cons_succ]
           refine wpAnyH_done (by kernel_rfl) ?_ _
           go_wp2_with fail
           go_meet
           exact ⟨A9, c9, HFB.out, HFR.out, HFO.out, HFN.out⟩
          ·
           go_simp
           obtain ⟨q16, hq16⟩ : ∃ z, wd.alloc (.cells #[.int .i64 d.idx, .int .i64 d.par, .string d.nm, .string d.orig, .string d.sub, .string d.drv, .string d.ali, .int .i64 d.kind, .int .i64 d.num, .slice A2 d.attrs.length c2] 84) = z := ⟨_, rfl⟩
           have hb_ : Below wd.heap.size wd q16 := by rw [← hq16]; exact (Below.refl _ _).alloc (Nat.le_refl _) _
           have HXq16 := Lib.hid (show BoxL q16 wd.heap.size (devCells d A2 c2) from box_mk hq16)
           try rw [hq16]
           clear hq16
           have HSZq16 := Lib.hid (show w11.heap.size ≤ q16.heap.size from Nat.le_trans HSZD.out hb_.size)
           have HBq16 := Lib.hid (HBwd.out.trans (hb_.mono HBwd.out.size))
           have tq16 := Lib.hid (twd.out.kept (grown_none hb_) (fun e => by cases e))
           have pq16 := Lib.hid (pwd.out.kept (grown_none hb_) (fun e => by cases e))
           have rq16 := Lib.hid (rwd.out.kept (grown_none hb_) (fun e => by cases e))
           have nq16 := Lib.hid (nwd.out.kept (grown_none hb_) (fun e => by cases e))
           clear hb_
           refine hK.out _ _ ⟨tq16.out, pq16.out⟩ (fun _ => ?_)
           clear hK K
           try simp only [Act.put, List.setIfInBounds_toArray, List.set_cons_zero, List.set_cons_succ]
           refine wpAnyH_ready (rs := [6]) (by kernel_rfl) (by simp) ?_
           refine AllReadyH.cons (o := ⟨some 90, .call ⟨_, _, _⟩, _, _, _, _⟩) rfl (fun K hK => ?_) (AllReadyH.nil)
           have HS6 := Lib.hid (show SlS q16 (fun b => S b ∧ b < q16.heap.size ∧ (.slice none 0 0 : Value).ownBlock ≠ some b) A c (L.take m) from ((HX.out.below HBq16.out HS.out).take_ hatl).mono (fun x hx => ⟨hx, by have := HS.out x hx; have := HBq16.out.size; omega, fun h => by cases h⟩) (fun _ _ _ _ hu => hu))
           have hlt6 : (L.take m).length = m := by rw [List.length_take]; omega
           refine step_app rfl _ _ rfl (.slice none 0 0) (.slice A (L.take m).length c) (by simp [Act.eval, Act.put]) (by rw [hlt6]; simp [Act.eval, Act.put]) (run_appL E_dev _ (.slice none 0 0) ([] : List Dev) (OwnsS.nil_ S _ w11.heap.size _) A c (L.take m) (.inl HS6.out) (by rw [hlt6]; have := HVL.out; simp only [List.length_nil]; unfold maxLen; omega) (by rw [hlt6]; have := HVL.out; simp only [List.length_nil]; omega) HSZq16.out) ?_
           rintro v1 q17 ⟨hown_, hg_, hnew_⟩
           rw [List.nil_append] at hown_
           have hlow : ∀ k, (.slice none 0 0 : Value).ownBlock = some k → w11.heap.size ≤ k := fun k hk => ((OwnsS.nil_ S q16 w11.heap.size 84 : OwnsS S q16 w11.heap.size 84 (.slice none 0 0) ([] : List Dev)).lt k hk).1
           have HBq17 := Lib.hid (show Below w.heap.size w q17 from below_own HBq16.out hg_ HBq16.out.size (fun k hk => by have := hlow k hk; have := HLW.out.1.1; omega))
           have tq17 := Lib.hid (tq16.out.kept hg_ (fun e => by have := hlow _ e.symm; have := HLW.out.1.1; omega))
           have pq17 := Lib.hid (pq16.out.kept hg_ (fun e => by have := hlow _ e.symm; have := HLW.out.1.2; omega))
           have rq17 := Lib.hid (rq16.out.kept hg_ (fun e => by have := hlow _ e.symm; have := HLW.out.2.1; omega))
           have nq17 := Lib.hid (nq16.out.kept hg_ (fun e => by have := hlow _ e.symm; have := HLW.out.2.2; omega))
           have HKq17 := Lib.hid (HXq16.out.kept hg_ (fun e => by cases e))
           have HSZq17 := Lib.hid (show w11.heap.size ≤ q17.heap.size from Nat.le_trans HSZq16.out hg_.size)
           have HOWNq17 := Lib.hid hown_
           clear hown_ hg_ hnew_ hlow
           refine hK.out _ _ ⟨tq17.out, pq17.out⟩ (fun _ => ?_)
           clear hK K
           try simp only [Act.put, List.setIfInBounds_toArray, List.set_cons_zero, List.set_cons_succ]
           refine wpAnyH_ready (rs := [9]) (by kernel_rfl) (by simp) ?_
           refine AllReadyH.cons (o := ⟨some 93, .call ⟨_, _, _⟩, _, _, _, _⟩) rfl (fun K hK => ?_) (AllReadyH.nil)
           have HR9 := Lib.hid (show RepS.rdS q17 (fun b => S b ∧ b < q17.heap.size ∧ v1.ownBlock ≠ some b) d (devCells d A2 c2) from ⟨A2, c2, rfl, HD.out, (HA.out.below HBq17.out HS.out).mono (fun x hx => ⟨hx, by have := HS.out x hx; have := HBq17.out.size; omega, fun h => by have := (HOWNq17.out.lt _ h).1; have := HS.out x hx; have := HLW.out.1.1; omega⟩) (fun _ _ _ _ hu => hu)⟩)
           have hlt6 : (L.take m).length = m := by rw [List.length_take]; omega
           refine step_app rfl _ _ rfl v1 (.slice (some ⟨wd.heap.size, 0, none⟩) 1 1) (by simp [Act.eval, Act.put]) (by simp [Act.eval, Act.put]) (run_app1 E_dev _ v1 (L.take m) HOWNq17.out wd.heap.size d (devCells d A2 c2) HKq17.out.1 HR9.out (by rw [hlt6]; have := HVL.out; unfold maxLen; omega) (by rw [hlt6]; have := HVL.out; omega) HSZq17.out) ?_
           rintro v2 q18 ⟨hown_, hg_, hnew_⟩
           have hlow : ∀ k, (v1 : Value).ownBlock = some k → w11.heap.size ≤ k := fun k hk => (HOWNq17.out.lt k hk).1
           have HBq18 := Lib.hid (show Below w.heap.size w q18 from below_own HBq17.out hg_ HBq17.out.size (fun k hk => by have := hlow k hk; have := HLW.out.1.1; omega))
           have tq18 := Lib.hid (tq17.out.kept hg_ (fun e => by have := hlow _ e.symm; have := HLW.out.1.1; omega))
           have pq18 := Lib.hid (pq17.out.kept hg_ (fun e => by have := hlow _ e.symm; have := HLW.out.1.2; omega))
           have rq18 := Lib.hid (rq17.out.kept hg_ (fun e => by have := hlow _ e.symm; have := HLW.out.2.1; omega))
           have nq18 := Lib.hid (nq17.out.kept hg_ (fun e => by have := hlow _ e.symm; have := HLW.out.2.2; omega))
           have HSZq18 := Lib.hid (show w11.heap.size ≤ q18.heap.size from Nat.le_trans HSZq17.out hg_.size)
           have HOWNq18 := Lib.hid hown_
           clear hown_ hg_ hnew_ hlow
           refine hK.out _ _ ⟨tq18.out, pq18.out⟩ (fun _ => ?_)
           clear hK K
           try simp only [Act.put, List.setIfInBounds_toArray, List.set_cons_zero, List.set_cons_succ]
           refine wpAnyH_ready (rs := [14]) (by kernel_rfl) (by simp) ?_
           refine AllReadyH.cons (o := ⟨some 98, .call ⟨_, _, _⟩, _, _, _, _⟩) rfl (fun K hK => ?_) (AllReadyH.nil)
           have hdl : (L.drop m).length = L.length - m := List.length_drop
           have HS14 := Lib.hid (show SlS q18 (fun b => S b ∧ b < q18.heap.size ∧ v2.ownBlock ≠ some b) Ad (c - m) (L.drop m) ∨ L.drop m = [] by
            rw [← HAD.out]
            exact (SlS.drop_ (HX.out.below HBq18.out HS.out) (m := m)).imp (fun h => h.mono (fun x hx => ⟨hx, by have := HS.out x hx; have := HBq18.out.size; omega, fun h => by have := (HOWNq18.out.lt _ h).1; have := HS.out x hx; have := HLW.out.1.1; omega⟩) (fun _ _ _ _ hu => hu)) id)
           have hlt6 : (L.take m ++ [d]).length = m + 1 := by rw [List.length_append, List.length_take, List.length_singleton]; omega
           refine step_app rfl _ _ rfl v2 (.slice Ad (L.drop m).length (c - m)) (by simp [Act.eval, Act.put]) (by rw [hdl]; simp [Act.eval, Act.put]) (run_appL E_dev _ v2 (L.take m ++ [d]) HOWNq18.out _ (c - m) (L.drop m) HS14.out (by rw [hlt6, hdl]; have := HVL.out; unfold maxLen; omega) (by rw [hlt6, hdl]; have := HVL.out; omega) HSZq18.out) ?_
           rintro v3 q19 ⟨hown_, hg_, hnew_⟩
           have hins : (L.take m ++ [d]) ++ L.drop m = insL L d := by unfold insL; rw [HM.out, List.append_assoc]; rfl
           rw [hins] at hown_
           have hlow : ∀ k, (v2 : Value).ownBlock = some k → w11.heap.size ≤ k := fun k hk => (HOWNq18.out.lt k hk).1
           have HBq19 := Lib.hid (show Below w.heap.size w q19 from below_own HBq18.out hg_ HBq18.out.size (fun k hk => by have := hlow k hk; have := HLW.out.1.1; omega))
           have tq19 := Lib.hid (tq18.out.kept hg_ (fun e => by have := hlow _ e.symm; have := HLW.out.1.1; omega))
           have pq19 := Lib.hid (pq18.out.kept hg_ (fun e => by have := hlow _ e.symm; have := HLW.out.1.2; omega))
           have rq19 := Lib.hid (rq18.out.kept hg_ (fun e => by have := hlow _ e.symm; have := HLW.out.2.1; omega))
           have nq19 := Lib.hid (nq18.out.kept hg_ (fun e => by have := hlow _ e.symm; have := HLW.out.2.2; omega))
           have HSZq19 := Lib.hid (show w11.heap.size ≤ q19.heap.size from Nat.le_trans HSZq18.out hg_.size)
           have HOWNq19 := Lib.hid hown_
           clear hown_ hg_ hnew_ hlow
           obtain ⟨A9, c9, hv_, -⟩ := HOWNq19.out.sl
           subst hv_
           refine hK.out _ _ ⟨tq19.out, pq19.out⟩ (fun _ => ?_)
           clear hK K
           try simp only [Act.put, List.setIfInBounds_toArray, List.set_cons_zero, List.set_cons_succ]
           refine wpAnyH_take (i := 15) (oi := ⟨some 99, _, _, _, _, _⟩) (v := .pointer (some ⟨wr.heap.size, 0, none⟩)) rfl (by kernel_rfl) (by kernel_rfl) (by kernel_rfl) (fun _ _ _ h => h) (Or.inl ⟨by rfl, fun w' hS => by go_simp⟩) ⟨tq19.out, pq19.out⟩ ?_
           try simp only [Act.put, List.setIfInBounds_toArray, List.set_cons_zero, List.set_cons_succ]
           have cn0 := nq19.out.1 0 _ rfl; have cnf := nq19.out.2.1
           have HFB := Lib.hid (show Below w.heap.size w (q19.setCell ⟨wr.heap.size, 0, none⟩ (.slice A9 (insL L d).length c9)) from HBq19.out.setCell (by show w.heap.size ≤ wr.heap.size; exact HBwr.out.size) _)
           have hne_ : wr.heap.size ≠ w.heap.size ∧ wr.heap.size ≠ w1.heap.size ∧ wr.heap.size ≠ w2.heap.size := by have := twr.out.2.2; have := pwr.out.2.2; have := rwr.out.2.2; omega
           have HNE := Lib.hid hne_; clear hne_
           have HFR := Lib.hid (rq19.out.far (g' := wr.heap.size) (j := 0) HNE.out.2.2 (.slice A9 (insL L d).length c9)); have HFN := Lib.hid (show BoxL (q19.setCell ⟨wr.heap.size, 0, none⟩ (.slice A9 (insL L d).length c9)) wr.heap.size [.slice A9 (insL L d).length c9] from nq19.out.set_ (j := 0) (by simp) _)
           have HFT := Lib.hid (tq19.out.far (g' := wr.heap.size) (j := 0) HNE.out.1 (.slice A9 (insL L d).length c9)); have HFP := Lib.hid (pq19.out.far (g' := wr.heap.size) (j := 0) HNE.out.2.1 (.slice A9 (insL L d).length c9))
           have HFO := Lib.hid (HOWNq19.out.grownb (grown_one q19 wr.heap.size 0 (.slice A9 (insL L d).length c9)) (fun x hx => by have := HS.out x hx; have := HBwr.out.size; omega) HLW.out.2.2)
           refine wpAnyH_ready (rs := [16]) (by kernel_rfl) (by simp) ?_
           refine AllReadyH.cons (o := ⟨none, .store _ _ _, _, _, _, _⟩) rfl (fun K hK => ?_) AllReadyH.nil
           go_simp
           refine hK.out _ _ ⟨HFT.out, HFP.out⟩ (fun _ => ?_)
           clear hK K
           try simp only [Act.put, List.setIfInBounds_toArray, List.set_cons_zero, List.set_cons_succ]
           refine wpAnyH_done (by kernel_rfl) ?_ _
           go_wp2_with fail
           go_meet
           exact ⟨A9, c9, HFB.out, HFR.out, HFO.out, HFN.out⟩
         ·
          go_simp
          obtain ⟨q20, hq20⟩ : ∃ z, wd.alloc (.cells #[.int .i64 d.idx, .int .i64 d.par, .string d.nm, .string d.orig, .string d.sub, .string d.drv, .string d.ali, .int .i64 d.kind, .int .i64 d.num, .slice A2 d.attrs.length c2] 84) = z := ⟨_, rfl⟩
          have hb_ : Below wd.heap.size wd q20 := by rw [← hq20]; exact (Below.refl _ _).alloc (Nat.le_refl _) _
          have HXq20 := Lib.hid (show BoxL q20 wd.heap.size (devCells d A2 c2) from box_mk hq20)
          try rw [hq20]
          clear hq20
          have HSZq20 := Lib.hid (show w11.heap.size ≤ q20.heap.size from Nat.le_trans HSZD.out hb_.size)
          have HBq20 := Lib.hid (HBwd.out.trans (hb_.mono HBwd.out.size))
          have tq20 := Lib.hid (twd.out.kept (grown_none hb_) (fun e => by cases e))
          have pq20 := Lib.hid (pwd.out.kept (grown_none hb_) (fun e => by cases e))
          have rq20 := Lib.hid (rwd.out.kept (grown_none hb_) (fun e => by cases e))
          have nq20 := Lib.hid (nwd.out.kept (grown_none hb_) (fun e => by cases e))
          clear hb_
          refine hK.out _ _ ⟨tq20.out, pq20.out⟩ (fun _ => ?_)
          clear hK K
          try simp only [Act.put, List.setIfInBounds_toArray, List.set_cons_zero, List.set_cons_succ]
          refine wpAnyH_ready (rs := [1]) (by kernel_rfl) (by simp) ?_
          refine AllReadyH.cons (o := ⟨some 85, .load _ _, _, _, _, _⟩) rfl (fun K hK => ?_) (AllReadyH.nil)
          have cn0 := nq20.out.1 0 _ rfl
          go_simp
          refine hK.out _ _ ⟨tq20.out, pq20.out⟩ (fun _ => ?_)
          clear hK K
          try simp only [Act.put, List.setIfInBounds_toArray, List.set_cons_zero, List.set_cons_succ]
          clear cn0
          refine wpAnyH_ready (rs := [6]) (by kernel_rfl) (by simp) ?_
          refine AllReadyH.cons (o := ⟨some 90, .call ⟨_, _, _⟩, _, _, _, _⟩) rfl (fun K hK => ?_) (AllReadyH.nil)
          have HS6 := Lib.hid (show SlS q20 (fun b => S b ∧ b < q20.heap.size ∧ (.slice none 0 0 : Value).ownBlock ≠ some b) A c (L.take m) from ((HX.out.below HBq20.out HS.out).take_ hatl).mono (fun x hx => ⟨hx, by have := HS.out x hx; have := HBq20.out.size; omega, fun h => by cases h⟩) (fun _ _ _ _ hu => hu))
          have hlt6 : (L.take m).length = m := by rw [List.length_take]; omega
          refine step_app rfl _ _ rfl (.slice none 0 0) (.slice A (L.take m).length c) (by simp [Act.eval, Act.put]) (by rw [hlt6]; simp [Act.eval, Act.put]) (run_appL E_dev _ (.slice none 0 0) ([] : List Dev) (OwnsS.nil_ S _ w11.heap.size _) A c (L.take m) (.inl HS6.out) (by rw [hlt6]; have := HVL.out; simp only [List.length_nil]; unfold maxLen; omega) (by rw [hlt6]; have := HVL.out; simp only [List.length_nil]; omega) HSZq20.out) ?_
          rintro v1 q21 ⟨hown_, hg_, hnew_⟩
          rw [List.nil_append] at hown_
          have hlow : ∀ k, (.slice none 0 0 : Value).ownBlock = some k → w11.heap.size ≤ k := fun k hk => ((OwnsS.nil_ S q20 w11.heap.size 84 : OwnsS S q20 w11.heap.size 84 (.slice none 0 0) ([] : List Dev)).lt k hk).1
          have HBq21 := Lib.hid (show Below w.heap.size w q21 from below_own HBq20.out hg_ HBq20.out.size (fun k hk => by have := hlow k hk; have := HLW.out.1.1; omega))
          have tq21 := Lib.hid (tq20.out.kept hg_ (fun e => by have := hlow _ e.symm; have := HLW.out.1.1; omega))
          have pq21 := Lib.hid (pq20.out.kept hg_ (fun e => by have := hlow _ e.symm; have := HLW.out.1.2; omega))
          have rq21 := Lib.hid (rq20.out.kept hg_ (fun e => by have := hlow _ e.symm; have := HLW.out.2.1; omega))
          have nq21 := Lib.hid (nq20.out.kept hg_ (fun e => by have := hlow _ e.symm; have := HLW.out.2.2; omega))
          have HKq21 := Lib.hid (HXq20.out.kept hg_ (fun e => by cases e))
          have HSZq21 := Lib.hid (show w11.heap.size ≤ q21.heap.size from Nat.le_trans HSZq20.out hg_.size)
          have HOWNq21 := Lib.hid hown_
          clear hown_ hg_ hnew_ hlow
          refine hK.out _ _ ⟨tq21.out, pq21.out⟩ (fun _ => ?_)
          clear hK K
          try simp only [Act.put, List.setIfInBounds_toArray, List.set_cons_zero, List.set_cons_succ]
          refine wpAnyH_ready (rs := [9]) (by kernel_rfl) (by simp) ?_
          refine AllReadyH.cons (o := ⟨some 93, .call ⟨_, _, _⟩, _, _, _, _⟩) rfl (fun K hK => ?_) (AllReadyH.nil)
          have HR9 := Lib.hid (show RepS.rdS q21 (fun b => S b ∧ b < q21.heap.size ∧ v1.ownBlock ≠ some b) d (devCells d A2 c2) from ⟨A2, c2, rfl, HD.out, (HA.out.below HBq21.out HS.out).mono (fun x hx => ⟨hx, by have := HS.out x hx; have := HBq21.out.size; omega, fun h => by have := (HOWNq21.out.lt _ h).1; have := HS.out x hx; have := HLW.out.1.1; omega⟩) (fun _ _ _ _ hu => hu)⟩)
          have hlt6 : (L.take m).length = m := by rw [List.length_take]; omega
          refine step_app rfl _ _ rfl v1 (.slice (some ⟨wd.heap.size, 0, none⟩) 1 1) (by simp [Act.eval, Act.put]) (by simp [Act.eval, Act.put]) (run_app1 E_dev _ v1 (L.take m) HOWNq21.out wd.heap.size d (devCells d A2 c2) HKq21.out.1 HR9.out (by rw [hlt6]; have := HVL.out; unfold maxLen; omega) (by rw [hlt6]; have := HVL.out; omega) HSZq21.out) ?_
          rintro v2 q22 ⟨hown_, hg_, hnew_⟩
          have hlow : ∀ k, (v1 : Value).ownBlock = some k → w11.heap.size ≤ k := fun k hk => (HOWNq21.out.lt k hk).1
          have HBq22 := Lib.hid (show Below w.heap.size w q22 from below_own HBq21.out hg_ HBq21.out.size (fun k hk => by have := hlow k hk; have := HLW.out.1.1; omega))
          have tq22 := Lib.hid (tq21.out.kept hg_ (fun e => by have := hlow _ e.symm; have := HLW.out.1.1; omega))
          have pq22 := Lib.hid (pq21.out.kept hg_ (fun e => by have := hlow _ e.symm; have := HLW.out.1.2; omega))
          have rq22 := Lib.hid (rq21.out.kept hg_ (fun e => by have := hlow _ e.symm; have := HLW.out.2.1; omega))
          have nq22 := Lib.hid (nq21.out.kept hg_ (fun e => by have := hlow _ e.symm; have := HLW.out.2.2; omega))
          have HSZq22 := Lib.hid (show w11.heap.size ≤ q22.heap.size from Nat.le_trans HSZq21.out hg_.size)
          have HOWNq22 := Lib.hid hown_
          clear hown_ hg_ hnew_ hlow
          refine hK.out _ _ ⟨tq22.out, pq22.out⟩ (fun _ => ?_)
          clear hK K
          try simp only [Act.put, List.setIfInBounds_toArray, List.set_cons_zero, List.set_cons_succ]
          refine wpAnyH_ready (rs := [14]) (by kernel_rfl) (by simp) ?_
          refine AllReadyH.cons (o := ⟨some 98, .call ⟨_, _, _⟩, _, _, _, _⟩) rfl (fun K hK => ?_) (AllReadyH.nil)
          have hdl : (L.drop m).length = L.length - m := List.length_drop
          have HS14 := Lib.hid (show SlS q22 (fun b => S b ∧ b < q22.heap.size ∧ v2.ownBlock ≠ some b) Ad (c - m) (L.drop m) ∨ L.drop m = [] by
           rw [← HAD.out]
           exact (SlS.drop_ (HX.out.below HBq22.out HS.out) (m := m)).imp (fun h => h.mono (fun x hx => ⟨hx, by have := HS.out x hx; have := HBq22.out.size; omega, fun h => by have := (HOWNq22.out.lt _ h).1; have := HS.out x hx; have := HLW.out.1.1; omega⟩) (fun _ _ _ _ hu => hu)) id)
          have hlt6 : (L.take m ++ [d]).length = m + 1 := by rw [List.length_append, List.length_take, List.length_singleton]; omega
          refine step_app rfl _ _ rfl v2 (.slice Ad (L.drop m).length (c - m)) (by simp [Act.eval, Act.put]) (by rw [hdl]; simp [Act.eval, Act.put]) (run_appL E_dev _ v2 (L.take m ++ [d]) HOWNq22.out _ (c - m) (L.drop m) HS14.out (by rw [hlt6, hdl]; have := HVL.out; unfold maxLen; omega) (by rw [hlt6, hdl]; have := HVL.out; omega) HSZq22.out) ?_
          rintro v3 q23 ⟨hown_, hg_, hnew_⟩
          have hins : (L.take m ++ [d]) ++ L.drop m = insL L d := by unfold insL; rw [HM.out, List.append_assoc]; rfl
          rw [hins] at hown_
          have hlow : ∀ k, (v2 : Value).ownBlock = some k → w11.heap.size ≤ k := fun k hk => (HOWNq22.out.lt k hk).1
          have HBq23 := Lib.hid (show Below w.heap.size w q23 from below_own HBq22.out hg_ HBq22.out.size (fun k hk => by have := hlow k hk; have := HLW.out.1.1; omega))
          have tq23 := Lib.hid (tq22.out.kept hg_ (fun e => by have := hlow _ e.symm; have := HLW.out.1.1; omega))
          have pq23 := Lib.hid (pq22.out.kept hg_ (fun e => by have := hlow _ e.symm; have := HLW.out.1.2; omega))
          have rq23 := Lib.hid (rq22.out.kept hg_ (fun e => by have := hlow _ e.symm; have := HLW.out.2.1; omega))
          have nq23 := Lib.hid (nq22.out.kept hg_ (fun e => by have := hlow _ e.symm; have := HLW.out.2.2; omega))
          have HSZq23 := Lib.hid (show w11.heap.size ≤ q23.heap.size from Nat.le_trans HSZq22.out hg_.size)
          have HOWNq23 := Lib.hid hown_
          clear hown_ hg_ hnew_ hlow
          obtain ⟨A9, c9, hv_, -⟩ := HOWNq23.out.sl
          subst hv_
          refine hK.out _ _ ⟨tq23.out, pq23.out⟩ (fun _ => ?_)
          clear hK K
          try simp only [Act.put, List.setIfInBounds_toArray, List.set_cons_zero, List.set_cons_succ]
          refine wpAnyH_take (i := 15) (oi := ⟨some 99, _, _, _, _, _⟩) (v := .pointer (some ⟨wr.heap.size, 0, none⟩)) rfl (by kernel_rfl) (by kernel_rfl) (by kernel_rfl) (fun _ _ _ h => h) (Or.inl ⟨by rfl, fun w' hS => by go_simp⟩) ⟨tq23.out, pq23.out⟩ ?_
          try simp only [Act.put, List.setIfInBounds_toArray, List.set_cons_zero, List.set_cons_succ]
          have cn0 := nq23.out.1 0 _ rfl; have cnf := nq23.out.2.1
          have HFB := Lib.hid (show Below w.heap.size w (q23.setCell ⟨wr.heap.size, 0, none⟩ (.slice A9 (insL L d).length c9)) from HBq23.out.setCell (by show w.heap.size ≤ wr.heap.size; exact HBwr.out.size) _)
          have hne_ : wr.heap.size ≠ w.heap.size ∧ wr.heap.size ≠ w1.heap.size ∧ wr.heap.size ≠ w2.heap.size := by have := twr.out.2.2; have := pwr.out.2.2; have := rwr.out.2.2; omega
          have HNE := Lib.hid hne_; clear hne_
          have HFR := Lib.hid (rq23.out.far (g' := wr.heap.size) (j := 0) HNE.out.2.2 (.slice A9 (insL L d).length c9)); have HFN := Lib.hid (show BoxL (q23.setCell ⟨wr.heap.size, 0, none⟩ (.slice A9 (insL L d).length c9)) wr.heap.size [.slice A9 (insL L d).length c9] from nq23.out.set_ (j := 0) (by simp) _)
          have HFT := Lib.hid (tq23.out.far (g' := wr.heap.size) (j := 0) HNE.out.1 (.slice A9 (insL L d).length c9)); have HFP := Lib.hid (pq23.out.far (g' := wr.heap.size) (j := 0) HNE.out.2.1 (.slice A9 (insL L d).length c9))
          have HFO := Lib.hid (HOWNq23.out.grownb (grown_one q23 wr.heap.size 0 (.slice A9 (insL L d).length c9)) (fun x hx => by have := HS.out x hx; have := HBwr.out.size; omega) HLW.out.2.2)
          refine wpAnyH_ready (rs := [16]) (by kernel_rfl) (by simp) ?_
          refine AllReadyH.cons (o := ⟨none, .store _ _ _, _, _, _, _⟩) rfl (fun K hK => ?_) AllReadyH.nil
          go_simp
          refine hK.out _ _ ⟨HFT.out, HFP.out⟩ (fun _ => ?_)
          clear hK K
          try simp only [Act.put, List.setIfInBounds_toArray, List.set_cons_zero, List.set_cons_succ]
          refine wpAnyH_done (by kernel_rfl) ?_ _
          go_wp2_with fail
          go_meet
          exact ⟨A9, c9, HFB.out, HFR.out, HFO.out, HFN.out⟩
        case rest =>
        obtain ⟨A9, c9, hq⟩ := hcut
        obtain ⟨hfb, hfr, hfo, hfn⟩ := hq.out
        clear hq
        have n0 := hfn.1 0 _ rfl; have r0 := hfr.1 0 _ rfl; have rf := hfr.2.1
        have HFB := Lib.hid hfb; have HFO := Lib.hid hfo; clear hfb hfo hfn hfr
        have HR := Lib.hid (show insR L d = insL L d by unfold insR; rw [HE.out]; rfl)
        go_wp2
        refine bodyPost_ret (v := .tuple #[.agg #[.slice A9 (insL L d).length c9], .int .i64 0]) (by simp [results, Tryz.results53, go_sem, r0, rf]) rfl ⟨HFB.out.setCell (by have := HGw1.out; have := HGw2.out; show w.heap.size ≤ w2.heap.size; omega) _, _, by rw [HE.out], ?_⟩
        rw [HR.out]
        exact (HFO.out.grownb (grown_one wc w2.heap.size 0 _) (fun x hx => by have := HS.out x hx; have := HGw1.out; have := HGw2.out; omega) HLW.out.2.1).low (by have := HLW.out.1.1; omega)
 ·
  have ec : (checkD d != 0) = true := by simpa using hc
  have HC := Lib.hid hc; clear hc
  have HE := Lib.hid (show insE L d = 41 by unfold insE; rw [if_pos HC.out])
  have HER := Lib.hid (show insR L d = [] by unfold insR; rw [HE.out]; rfl)
  go_wp2
  refine bodyPost_ret (v := .tuple #[.agg #[.slice none 0 0], .int .i64 41]) (by simp [results, Tryz.results53, go_sem, cr0, cfr]) rfl ⟨HBw4.out.setCell (by have := HGw1.out; have := HGw2.out; show w.heap.size ≤ w2.heap.size; omega) _, .slice none 0 0, by rw [HE.out], by rw [HER.out]; exact OwnsS.nil_ _ _ _ _⟩
end Go.Proofs.YtjpoljlgkgmdkaaGreatDoor
