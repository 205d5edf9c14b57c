/-
  BuiltinStays: row and card.
 Conditions: those of the given row and card (the listed variables of the library hold what the text lays), nothing else.
-/
import Derived.Test.YtjgllhlilbchpaaGreatDoorJUF
import Derived.Test.YtjgllhlilbchpaaGreatDoorJR
import Derived.Test.YtjgllhlilbchpaaGreatDoorJW
import Derived.ShutString
set_option linter.unusedSimpArgs false
set_option linter.unusedVariables false
namespace Go.Cold
open Go Go.RowKit Go.Proofs.YtjgllhlilbchpaaGreatDoor
def Sty1 (w : World) (gt : Nat) (AT : Option Addr) (cT : Nat) (L : List Dev) (xs : List Int) (g7 k3 : Nat) (d : Dev) (A1 : Option Addr) (c1 : Nat) (wx : World) : Prop :=
 Below w.heap.size w wx ∧ BoxL wx gt [.slice AT L.length cT] ∧ BoxL wx g7 (devCells d A1 c1) ∧ FreeS (fun x => x = w.heap.size ∨ x = g7) wx AT cT L ∧ FreeS (fun x => x = w.heap.size ∨ x = g7) wx A1 c1 d.attrs ∧ TapeAt wx w.heap.size w.heap.size xs k3 ∧ k3 ≤ 5000 ∧ devOk d ∧ gt < g7
def Sty2 (w : World) (gt : Nat) (AT : Option Addr) (cT : Nat) (L : List Dev) (g7 : Nat) (e : Dev) (A1 : Option Addr) (c1 : Nat) (wx : World) : Prop :=
 Below w.heap.size w wx ∧ BoxL wx gt [.slice AT L.length cT] ∧ BoxL wx g7 (devCells e A1 c1) ∧ Sl wx wx.heap.size AT cT L ∧ Sl wx wx.heap.size A1 c1 e.attrs ∧ devOk e
def Sty3 (w W0 : World) (gt gy : Nat) (AT : Option Addr) (cT : Nat) (L : List Dev) (Ay : Option Addr) (cy : Nat) (Y : List Dev) (A6 : Option Addr) (c6 : Nat) (Ab : Option Addr) (cb : Nat) (lb : List Attr) (wx : World) : Prop :=
 Below w.heap.size w wx ∧ Below W0.heap.size W0 wx ∧ BoxL wx gt [.slice AT L.length cT] ∧ BoxL wx gy [.slice Ay Y.length cy] ∧ Sl wx wx.heap.size AT cT L ∧ Sl wx wx.heap.size Ay cy Y ∧ Sl wx wx.heap.size A6 c6 lb ∧ Sl wx wx.heap.size Ab cb lb
theorem stay_in {L : List Dev} {n : Int} {d : Dev} (hq : (L.find? (byIdx n)).isSome = true) (hd : d = (L.find? (byIdx n)).getD zeroD) : d ∈ L := by
 have h : findD L n = some d := find_is hq hd
 exact (find_some h).1
theorem drv_is (d : Dev) (v : ByteArray) : ({ d with drv := v } : Dev) = drvD d v d.nm := rfl
theorem base_len (L : List Dev) (n : Int) : (baseL L n).length ≤ 1000 := by
 unfold baseL
 cases findD L n with
 | none => exact Nat.zero_le _
 | some d =>
  have h1 := putAll_len (baseP (strF L n) d)
  have h2 : (baseP (strF L n) d).length ≤ 7 := by unfold baseP; split <;> split <;> simp
  show (putAll _).length ≤ 1000
  omega
theorem chgX_zero {L : List Dev} {d : Dev} (h : chgE L d = 0) : chgX L d = chgL L d := by unfold chgX; rw [if_pos h]
end Go.Cold
namespace Go.Proofs.YtjgllhlilbchpaaGreatDoor
open Go.RowKit Go.Cold
set_option maxRecDepth 100000 in
set_option maxHeartbeats 8000000 in
theorem lawStays11_any (A : Option Addr) (c : Nat) (xs : List Int) (w : World) (hok : Ok w) (h7 : Ok7 w) (hu : OkU w) (hx : Sl w w.heap.size A c xs) :
  Calls Tryz.prog 9 #[.slice A xs.length c] w fun e w' => e = .returned (.bool true) ∧ Below w.heap.size w w' := by
 have HOK := Lib.hid hok; have HX := Lib.hid hx; have H7 := Lib.hid h7; have HK8 := Lib.hid (show Ok8 w from hok); have HU := Lib.hid hu; clear hok hx h7 hu
 go_enter Tryz.func9, Tryz.ntmps9
 go_upto_region 2 with fail
 have htape := tape_new HX.out
 have HNG := Lib.hid (notG_of HOK.out)
 obtain ⟨w1, hw1⟩ : ∃ z, w.alloc (.cells #[.slice A xs.length c, .int .i64 0] 25) = z := ⟨_, rfl⟩
 rw [hw1] at htape
 have hb1 : Below w.heap.size w w1 := by rw [← hw1]; exact (Below.refl _ _).alloc (Nat.le_refl _) _
 have HGw1 := Lib.hid (show w1.heap.size = w.heap.size + 1 by rw [← hw1]; simp)
 try simp only [hw1]
 have HTAPE := Lib.hid htape
 clear hw1 htape
 have HSw1 := Lib.hid (show w.heap.size ≤ w1.heap.size from hb1.size)
 have HBw1 := Lib.hid hb1
 clear hb1
 go_wp2_with fail
 refine (Tree_any xs 0 w.heap.size w.heap.size 9 w1 (by decide) HTAPE.out ⟨by decide, by decide⟩ (HOK.out.next HBw1.out) HNG.out).mono ?_
 rintro e w2 ⟨AT, cT, L, k1, rfl, hvt, hln, hsl, hk1, htp, hg2⟩
 have hb2 : Below w.heap.size w w2 := below_of_grown HBw1.out hg2 HBw1.out.size (Nat.le_refl _)
 have HSB2 := Lib.hid (show w1.heap.size ≤ w2.heap.size from hg2.size)
 have hx1 := hsl.1; have hx2 := hsl.2.1
 unfold maxLen at hx2
 have hin : TreeIn w2 w.heap.size (fun x => w1.heap.size ≤ x ∧ x < w2.heap.size) AT cT L := ⟨hsl, fun x hx => by have := HGw1.out; omega, fun x hx => hx.2⟩
 have HVT := Lib.hid hvt; have HLN := Lib.hid (show L.length ≤ 9 by omega); have HIN := Lib.hid hin; have HK1 := Lib.hid hk1; have HTP := Lib.hid htp
 clear HTAPE hvt hln hsl hk1 htp hg2 hin
 have HBw2 := Lib.hid hb2
 clear hb2
 go_upto_region 3 with fail
 obtain ⟨w3, hw3⟩ : ∃ w3, w2.alloc (.cells #[.slice AT L.length cT] 28) = w3 := ⟨_, rfl⟩
 have hbw3 : Below w2.heap.size w2 w3 := by rw [← hw3]; exact (Below.refl _ _).alloc (Nat.le_refl _) _
 have HGw3 := Lib.hid (show w3.heap.size = w2.heap.size + 1 by rw [← hw3]; simp)
 have HXtw3 := Lib.hid (show BoxL w3 w2.heap.size [.slice AT L.length cT] from box_mk hw3)
 try simp only [hw3]
 have HSTEPw3 := Lib.hid hbw3
 have HSw3 := Lib.hid (show w2.heap.size ≤ w3.heap.size from hbw3.size)
 have HBw3 := Lib.hid (HBw2.out.trans (hbw3.mono HBw2.out.size))
 clear hw3 hbw3
 try rw [show w2.heap.size + 1 = w3.heap.size from HGw3.out.symm]
 have HIN3 := Lib.hid (show TreeIn w3 w.heap.size (fun x => w1.heap.size ≤ x ∧ x < w2.heap.size) AT cT L from ⟨HIN.out.sl.below (HSTEPw3.out) (fun x hx => hx.2), HIN.out.ne, fun x hx => by have := HGw3.out; have := hx.2; omega⟩)
 have HTP3 := Lib.hid (HTP.out.kept (grown_none HSTEPw3.out) (fun e => by cases e) (fun g e => by cases e))
 clear HIN HTP
 have ct0 := HXtw3.out.1 0 _ rfl
 clear ct0
 have hzv := (zero_of_info (P := Tryz.prog) (t := 32) info_dev2).1
 have HZV := Lib.hid hzv; clear hzv
 have HGY := Lib.hid (show w.heap.size < w2.heap.size by have := HGw1.out; have := HSB2.out; omega)
 have HXF := Lib.hid (show FreeS (fun x => x = w.heap.size) w3 AT cT L from HIN3.out.sl.free (fun x hx => ⟨HIN3.out.lt x hx, fun h => HIN3.out.ne x hx h⟩))
 go_cut [5, 6] (fun s5 s6 wx => ∃ (g7 k3 : Nat) (d : Dev) (A1 : Option Addr) (c1 : Nat) (q : Bool), s5 = .pointer (some ⟨g7, 0, none⟩) ∧ s6 = .bool q ∧ Hid (Sty1 w w2.heap.size AT cT L xs g7 k3 d A1 c1 wx) ∧ Hid (q = true → d ∈ L))
 case first =>
  have hzv := HZV.out
  refine wp_region_held_drew (S := fun w' => BoxL w' (w2.heap.size) [.slice AT L.length cT]) (by kernel_rfl) HXtw3.out.drew (fun hS0 => ?_)
  obtain ⟨wd, hwd⟩ : ∃ z, World.drew w3 = z := ⟨_, rfl⟩
  rw [hwd] at hS0 ⊢
  have hb_ : Below w3.heap.size w3 wd := by rw [← hwd]; exact below_drewN_self _ _ 1
  clear hwd hS0
  have HSwd := Lib.hid (show w3.heap.size ≤ wd.heap.size from hb_.size)
  have HBwd := Lib.hid (HBw3.out.trans (hb_.mono HBw3.out.size))
  have twd := Lib.hid (HXtw3.out.kept (grown_none hb_) (fun e => by cases e))
  have HTPwd := Lib.hid (HTP3.out.kept (grown_none hb_) (fun e => by cases e) (fun g e => by cases e))
  have HXFwd := Lib.hid (HXF.out.below hb_)
  clear hb_
  refine wpAnyH_take (i := 0) (oi := ⟨some 19, _, _, _, _, _⟩) (v := .agg #[.slice AT L.length cT]) rfl (by kernel_rfl) (by kernel_rfl) (by kernel_rfl) (fun _ _ _ h => h) (Or.inl ⟨by rfl, fun w' hS => by (have u0_ := hS.1 0 _ rfl; go_simp)⟩) twd.out ?_
  try simp only [Act.put, List.setIfInBounds_toArray, List.set_cons_zero, List.set_cons_succ]
  refine wpAnyH_take (i := 1) (oi := ⟨some 20, _, _, _, _, _⟩) (v := .pointer (some ⟨w.heap.size, 0, none⟩)) rfl (by kernel_rfl) (by kernel_rfl) (by kernel_rfl) (fun _ _ _ h => h) (Or.inl ⟨by rfl, fun w' hS => by go_simp⟩) twd.out ?_
  try simp only [Act.put, List.setIfInBounds_toArray, List.set_cons_zero, List.set_cons_succ]
  refine wpAnyH_take (i := 2) (oi := ⟨some 21, _, _, _, _, _⟩) (v := .agg #[.slice AT L.length cT]) rfl (by kernel_rfl) (by kernel_rfl) (by kernel_rfl) (fun _ _ _ h => h) (Or.inl ⟨by rfl, fun w' hS => by (have u0_ := hS.1 0 _ rfl; go_simp)⟩) twd.out ?_
  try simp only [Act.put, List.setIfInBounds_toArray, List.set_cons_zero, List.set_cons_succ]
  refine wpAnyH_ready (rs := [3, 8]) (by kernel_rfl) (by simp) ?_
  refine AllReadyH.cons (o := ⟨some 22, .call ⟨_, _, _⟩, _, _, _, _⟩) rfl (fun K hK => ?_) (AllReadyH.cons (o := ⟨some 5, .alloc _, _, _, _, _⟩) rfl (fun K hK => ?_) (AllReadyH.nil))
  ·
   go_simp
   go_at_call 16
   refine (Some_any xs k1 w.heap.size w.heap.size AT cT L _ wd (by have := HK1.out; omega) HTPwd.out ⟨HXFwd.out, fun x hx h => hx.2 h, fun x hx => hx.1⟩ (fun d hd => (HVT.out.small d hd).2) (by have := HLN.out; omega)).mono ?_
   rintro e' q4 ⟨n, k3, rfl, hn_, hk3_, ht_, hg_⟩
   have HBq4 := Lib.hid (HBwd.out.grown hg_ HBwd.out.size (fun q hq => by have := Option.some.inj hq; omega))
   have HTPq4 := Lib.hid ht_
   have tq4 := Lib.hid (twd.out.kept hg_ (fun e => by have := Option.some.inj e; have := HGY.out; omega))
   have HXFq4 := Lib.hid (HXFwd.out.grown hg_ (.inl rfl))
   have HK3 := Lib.hid (show k3 ≤ 5000 by have := HK1.out; omega); clear hn_ hk3_
   clear hg_ ht_
   refine hK.out _ _ tq4.out (fun _ => ?_)
   clear hK K
   try simp only [Act.put, List.setIfInBounds_toArray, List.set_cons_zero, List.set_cons_succ]
   refine wpAnyH_ready (rs := [4, 8]) (by kernel_rfl) (by simp) ?_
   refine AllReadyH.cons (o := ⟨some 23, .call ⟨_, _, _⟩, _, _, _, _⟩) rfl (fun K hK => ?_) (AllReadyH.cons (o := ⟨some 5, .alloc _, _, _, _, _⟩) rfl (fun K hK => ?_) (AllReadyH.nil))
   ·
    have HNL := Lib.hid (show w.heap.size < q4.heap.size by have := HGY.out; have := tq4.out.2.2; omega)
    go_simp
    go_at_call 34
    refine (TFind_any AT cT L n q4 _ (Nat.le_refl _) HXFq4.out.out (fun d hd => attrs_le (HVT.out.chk d hd))).mono ?_
    rintro e' q5 ⟨hb_, d, A1, c1, hd_, rfl, hok_, hs_⟩
    have HSq5 := Lib.hid (show q4.heap.size ≤ q5.heap.size from hb_.size)
    have HBq5 := Lib.hid (HBq4.out.trans (hb_.mono HBq4.out.size))
    have tq5 := Lib.hid (tq4.out.kept (grown_none hb_) (fun e => by cases e))
    have HTPq5 := Lib.hid (HTPq4.out.kept (grown_none hb_) (fun e => by cases e) (fun g e => by cases e))
    have HXFq5 := Lib.hid (HXFq4.out.below hb_)
    have HDO := Lib.hid hok_
    have HDA := Lib.hid (show FreeS (fun x => x = w.heap.size) _ A1 c1 d.attrs from hs_.free (fun x hx => ⟨hx.2, fun h => by have := hx.1; have := HNL.out; omega⟩))
    obtain ⟨qf, hqf⟩ : ∃ q, (L.find? (byIdx n)).isSome = q := ⟨_, rfl⟩
    rw [hqf]
    have HQF := Lib.hid (show qf = true → d ∈ L from fun h => stay_in (hqf.trans h) hd_)
    clear hqf hok_ hd_ hs_ HNL
    clear hb_
    refine hK.out _ _ tq5.out (fun _ => ?_)
    clear hK K
    try simp only [Act.put, List.setIfInBounds_toArray, List.set_cons_zero, List.set_cons_succ]
    refine wpAnyH_take (i := 5) (oi := ⟨some 18, _, _, _, _, _⟩) (v := .tuple #[.agg #[.int .i64 d.idx, .int .i64 d.par, .string d.nm, .string d.orig, .string d.sub, .string d.drv, .string d.ali, .int .i64 d.kind, .int .i64 d.num, .slice A1 d.attrs.length c1], .bool qf]) rfl (by kernel_rfl) (by kernel_rfl) (by kernel_rfl) (fun _ _ _ h => h) (Or.inl ⟨by rfl, fun w' hS => by go_simp⟩) tq5.out ?_
    try simp only [Act.put, List.setIfInBounds_toArray, List.set_cons_zero, List.set_cons_succ]
    refine wpAnyH_take (i := 6) (oi := ⟨some 24, _, _, _, _, _⟩) (v := .agg #[.int .i64 d.idx, .int .i64 d.par, .string d.nm, .string d.orig, .string d.sub, .string d.drv, .string d.ali, .int .i64 d.kind, .int .i64 d.num, .slice A1 d.attrs.length c1]) rfl (by kernel_rfl) (by kernel_rfl) (by kernel_rfl) (fun _ _ _ h => h) (Or.inl ⟨by rfl, fun w' hS => by go_simp⟩) tq5.out ?_
    try simp only [Act.put, List.setIfInBounds_toArray, List.set_cons_zero, List.set_cons_succ]
    refine wpAnyH_take (i := 7) (oi := ⟨some 25, _, _, _, _, _⟩) (v := .bool qf) rfl (by kernel_rfl) (by kernel_rfl) (by kernel_rfl) (fun _ _ _ h => h) (Or.inl ⟨by rfl, fun w' hS => by go_simp⟩) tq5.out ?_
    try simp only [Act.put, List.setIfInBounds_toArray, List.set_cons_zero, List.set_cons_succ]
    refine wpAnyH_ready (rs := [8]) (by kernel_rfl) (by simp) ?_
    refine AllReadyH.cons (o := ⟨some 5, .alloc _, _, _, _, _⟩) rfl (fun K hK => ?_) (AllReadyH.nil)
    have HNB := Lib.hid (show w2.heap.size < q5.heap.size from tq5.out.2.2)
    have HXFn := Lib.hid (show FreeS (fun x => x = w.heap.size ∨ x = q5.heap.size) q5 _ _ _ from HXFq5.out.more (fun x hx h => by rcases h with h | h; exact h; omega))
    have HDAn := Lib.hid (show FreeS (fun x => x = w.heap.size ∨ x = q5.heap.size) q5 _ _ _ from HDA.out.more (fun x hx h => by rcases h with h | h; exact h; omega))
    go_simp
    obtain ⟨q6, hq6⟩ : ∃ z, q5.alloc (.cells #[.int .i64 0, .int .i64 0, .string ByteArray.empty, .string ByteArray.empty, .string ByteArray.empty, .string ByteArray.empty, .string ByteArray.empty, .int .i64 0, .int .i64 0, .slice none 0 0] 32) = z := ⟨_, rfl⟩
    have hb_ : Below q5.heap.size q5 q6 := by rw [← hq6]; exact (Below.refl _ _).alloc (Nat.le_refl _) _
    have HXnq6 := Lib.hid (show BoxL q6 q5.heap.size [.int .i64 0, .int .i64 0, .string ByteArray.empty, .string ByteArray.empty, .string ByteArray.empty, .string ByteArray.empty, .string ByteArray.empty, .int .i64 0, .int .i64 0, .slice none 0 0] from box_mk hq6)
    try rw [hq6]
    clear hq6
    have HSq6 := Lib.hid (show q5.heap.size ≤ q6.heap.size from hb_.size)
    have HBq6 := Lib.hid (HBq5.out.trans (hb_.mono HBq5.out.size))
    have tq6 := Lib.hid (tq5.out.kept (grown_none hb_) (fun e => by cases e))
    have HTPq6 := Lib.hid (HTPq5.out.kept (grown_none hb_) (fun e => by cases e) (fun g e => by cases e))
    have HXFq6 := Lib.hid (HXFn.out.below hb_)
    have HDAq6 := Lib.hid (HDAn.out.below hb_)
    clear hb_
    refine hK.out _ _ tq6.out (fun _ => ?_)
    clear hK K
    try simp only [Act.put, List.setIfInBounds_toArray, List.set_cons_zero, List.set_cons_succ]
    refine wpAnyH_ready (rs := [9]) (by kernel_rfl) (by simp) ?_
    refine AllReadyH.cons (o := ⟨none, .store _ _ _, _, _, _, _⟩) rfl (fun K hK => ?_) AllReadyH.nil
    have cn0 := HXnq6.out.1 0 _ rfl
    have cn1 := HXnq6.out.1 1 _ rfl
    have cn2 := HXnq6.out.1 2 _ rfl
    have cn3 := HXnq6.out.1 3 _ rfl
    have cn4 := HXnq6.out.1 4 _ rfl
    have cn5 := HXnq6.out.1 5 _ rfl
    have cn6 := HXnq6.out.1 6 _ rfl
    have cn7 := HXnq6.out.1 7 _ rfl
    have cn8 := HXnq6.out.1 8 _ rfl
    have cn9 := HXnq6.out.1 9 _ rfl
    have cfn := HXnq6.out.2.1
    go_simp
    clear cn0 cn1 cn2 cn3 cn4 cn5 cn6 cn7 cn8 cn9 cfn
    obtain ⟨wz, hwz⟩ : ∃ z, ((((((((((q6.setCell ⟨q5.heap.size, 0, none⟩ (.int .i64 d.idx)).setCell ⟨q5.heap.size, 1, none⟩ (.int .i64 d.par)).setCell ⟨q5.heap.size, 2, none⟩ (.string d.nm)).setCell ⟨q5.heap.size, 3, none⟩ (.string d.orig)).setCell ⟨q5.heap.size, 4, none⟩ (.string d.sub)).setCell ⟨q5.heap.size, 5, none⟩ (.string d.drv)).setCell ⟨q5.heap.size, 6, none⟩ (.string d.ali)).setCell ⟨q5.heap.size, 7, none⟩ (.int .i64 d.kind)).setCell ⟨q5.heap.size, 8, none⟩ (.int .i64 d.num)).setCell ⟨q5.heap.size, 9, none⟩ (.slice A1 d.attrs.length c1)) = z := ⟨_, rfl⟩
    have HTz := Lib.hid (show BoxL wz w2.heap.size [.slice AT L.length cT] by rw [← hwz]; exact set10_ind (fun w' => BoxL w' w2.heap.size [.slice AT L.length cT]) (fun w' j v h => h.far (fun e => by have := HGY.out; have := HNB.out; omega) v) tq6.out _ _ _ _ _ _ _ _ _ _)
    have HXz := Lib.hid (show FreeS (fun x => x = w.heap.size ∨ x = q5.heap.size) wz AT cT L by rw [← hwz]; exact set10_ind (fun w' => FreeS (fun x => x = w.heap.size ∨ x = q5.heap.size) w' AT cT L) (fun w' j v h => h.set_ (.inr rfl) j v) HXFq6.out _ _ _ _ _ _ _ _ _ _)
    have HAz := Lib.hid (show FreeS (fun x => x = w.heap.size ∨ x = q5.heap.size) wz A1 c1 d.attrs by rw [← hwz]; exact set10_ind (fun w' => FreeS (fun x => x = w.heap.size ∨ x = q5.heap.size) w' A1 c1 d.attrs) (fun w' j v h => h.set_ (.inr rfl) j v) HDAq6.out _ _ _ _ _ _ _ _ _ _)
    have HTPz := Lib.hid (show TapeAt wz w.heap.size w.heap.size xs k3 by rw [← hwz]; exact set10_ind (fun w' => TapeAt w' w.heap.size w.heap.size xs k3) (fun w' j v h => h.set_ (by have := HGY.out; have := HNB.out; omega) (by have := HGY.out; have := HNB.out; omega) v) HTPq6.out _ _ _ _ _ _ _ _ _ _)
    have HNz := Lib.hid (show BoxL wz q5.heap.size [.int .i64 d.idx, .int .i64 d.par, .string d.nm, .string d.orig, .string d.sub, .string d.drv, .string d.ali, .int .i64 d.kind, .int .i64 d.num, .slice A1 d.attrs.length c1] by rw [← hwz]; exact HXnq6.out.set10 _ _ _ _ _ _ _ _ _ _)
    have HBz := Lib.hid (show Below w.heap.size w wz by rw [← hwz]; exact below10 HBq6.out (by have := HGY.out; have := HNB.out; omega) _ _ _ _ _ _ _ _ _ _)
    try rw [hwz]
    clear hwz
    refine hK.out _ _ HTz.out (fun _ => ?_)
    clear hK K
    try simp only [Act.put, List.setIfInBounds_toArray, List.set_cons_zero, List.set_cons_succ]
    refine wpAnyH_take (i := 10) (oi := ⟨some 6, _, _, _, _, _⟩) (v := .bool qf) rfl (by kernel_rfl) (by kernel_rfl) (by kernel_rfl) (fun _ _ _ h => h) (Or.inl ⟨by rfl, fun w' hS => by go_simp⟩) HTz.out ?_
    try simp only [Act.put, List.setIfInBounds_toArray, List.set_cons_zero, List.set_cons_succ]
    refine wpAnyH_done (by kernel_rfl) ?_ _
    go_wp2_with fail
    go_meet
    exact ⟨q5.heap.size, k3, d, A1, c1, qf, rfl, rfl, Lib.hid ⟨HBz.out, HTz.out, HNz.out, HXz.out, HAz.out, HTPz.out, HK3.out, HDO.out, HNB.out⟩, HQF⟩
   ·
    have HNB := Lib.hid (show w2.heap.size < q4.heap.size from tq4.out.2.2)
    have HXFn := Lib.hid (show FreeS (fun x => x = w.heap.size ∨ x = q4.heap.size) q4 _ _ _ from HXFq4.out.more (fun x hx h => by rcases h with h | h; exact h; omega))
    go_simp
    obtain ⟨q7, hq7⟩ : ∃ z, q4.alloc (.cells #[.int .i64 0, .int .i64 0, .string ByteArray.empty, .string ByteArray.empty, .string ByteArray.empty, .string ByteArray.empty, .string ByteArray.empty, .int .i64 0, .int .i64 0, .slice none 0 0] 32) = z := ⟨_, rfl⟩
    have hb_ : Below q4.heap.size q4 q7 := by rw [← hq7]; exact (Below.refl _ _).alloc (Nat.le_refl _) _
    have HXnq7 := Lib.hid (show BoxL q7 q4.heap.size [.int .i64 0, .int .i64 0, .string ByteArray.empty, .string ByteArray.empty, .string ByteArray.empty, .string ByteArray.empty, .string ByteArray.empty, .int .i64 0, .int .i64 0, .slice none 0 0] from box_mk hq7)
    try rw [hq7]
    clear hq7
    have HSq7 := Lib.hid (show q4.heap.size ≤ q7.heap.size from hb_.size)
    have HBq7 := Lib.hid (HBq4.out.trans (hb_.mono HBq4.out.size))
    have tq7 := Lib.hid (tq4.out.kept (grown_none hb_) (fun e => by cases e))
    have HTPq7 := Lib.hid (HTPq4.out.kept (grown_none hb_) (fun e => by cases e) (fun g e => by cases e))
    have HXFq7 := Lib.hid (HXFn.out.below hb_)
    clear hb_
    refine hK.out _ _ tq7.out (fun _ => ?_)
    clear hK K
    try simp only [Act.put, List.setIfInBounds_toArray, List.set_cons_zero, List.set_cons_succ]
    refine wpAnyH_ready (rs := [4]) (by kernel_rfl) (by simp) ?_
    refine AllReadyH.cons (o := ⟨some 23, .call ⟨_, _, _⟩, _, _, _, _⟩) rfl (fun K hK => ?_) (AllReadyH.nil)
    have HNW := Lib.hid (show q4.heap.size < q7.heap.size from HXnq7.out.2.2)
    have HNL := Lib.hid (show w.heap.size < q7.heap.size by have := HGY.out; have := tq7.out.2.2; omega)
    go_simp
    go_at_call 34
    refine (TFind_any AT cT L n q7 _ (Nat.le_refl _) HXFq7.out.out (fun d hd => attrs_le (HVT.out.chk d hd))).mono ?_
    rintro e' q8 ⟨hb_, d, A1, c1, hd_, rfl, hok_, hs_⟩
    have HSq8 := Lib.hid (show q7.heap.size ≤ q8.heap.size from hb_.size)
    have HBq8 := Lib.hid (HBq7.out.trans (hb_.mono HBq7.out.size))
    have tq8 := Lib.hid (tq7.out.kept (grown_none hb_) (fun e => by cases e))
    have nq8 := Lib.hid (HXnq7.out.kept (grown_none hb_) (fun e => by cases e))
    have HTPq8 := Lib.hid (HTPq7.out.kept (grown_none hb_) (fun e => by cases e) (fun g e => by cases e))
    have HXFq8 := Lib.hid (HXFq7.out.below hb_)
    have HDO := Lib.hid hok_
    have HDA := Lib.hid (show FreeS (fun x => x = w.heap.size ∨ x = q4.heap.size) _ A1 c1 d.attrs from hs_.free (fun x hx => ⟨hx.2, fun h => by have := hx.1; have := HNL.out; have := HNW.out; rcases h with h | h <;> omega⟩))
    obtain ⟨qf, hqf⟩ : ∃ q, (L.find? (byIdx n)).isSome = q := ⟨_, rfl⟩
    rw [hqf]
    have HQF := Lib.hid (show qf = true → d ∈ L from fun h => stay_in (hqf.trans h) hd_)
    clear hqf hok_ hd_ hs_ HNL HNW
    clear hb_
    refine hK.out _ _ tq8.out (fun _ => ?_)
    clear hK K
    try simp only [Act.put, List.setIfInBounds_toArray, List.set_cons_zero, List.set_cons_succ]
    refine wpAnyH_take (i := 5) (oi := ⟨some 18, _, _, _, _, _⟩) (v := .tuple #[.agg #[.int .i64 d.idx, .int .i64 d.par, .string d.nm, .string d.orig, .string d.sub, .string d.drv, .string d.ali, .int .i64 d.kind, .int .i64 d.num, .slice A1 d.attrs.length c1], .bool qf]) rfl (by kernel_rfl) (by kernel_rfl) (by kernel_rfl) (fun _ _ _ h => h) (Or.inl ⟨by rfl, fun w' hS => by go_simp⟩) tq8.out ?_
    try simp only [Act.put, List.setIfInBounds_toArray, List.set_cons_zero, List.set_cons_succ]
    refine wpAnyH_take (i := 6) (oi := ⟨some 24, _, _, _, _, _⟩) (v := .agg #[.int .i64 d.idx, .int .i64 d.par, .string d.nm, .string d.orig, .string d.sub, .string d.drv, .string d.ali, .int .i64 d.kind, .int .i64 d.num, .slice A1 d.attrs.length c1]) rfl (by kernel_rfl) (by kernel_rfl) (by kernel_rfl) (fun _ _ _ h => h) (Or.inl ⟨by rfl, fun w' hS => by go_simp⟩) tq8.out ?_
    try simp only [Act.put, List.setIfInBounds_toArray, List.set_cons_zero, List.set_cons_succ]
    refine wpAnyH_take (i := 7) (oi := ⟨some 25, _, _, _, _, _⟩) (v := .bool qf) rfl (by kernel_rfl) (by kernel_rfl) (by kernel_rfl) (fun _ _ _ h => h) (Or.inl ⟨by rfl, fun w' hS => by go_simp⟩) tq8.out ?_
    try simp only [Act.put, List.setIfInBounds_toArray, List.set_cons_zero, List.set_cons_succ]
    refine wpAnyH_ready (rs := [9]) (by kernel_rfl) (by simp) ?_
    refine AllReadyH.cons (o := ⟨none, .store _ _ _, _, _, _, _⟩) rfl (fun K hK => ?_) AllReadyH.nil
    have cn0 := nq8.out.1 0 _ rfl
    have cn1 := nq8.out.1 1 _ rfl
    have cn2 := nq8.out.1 2 _ rfl
    have cn3 := nq8.out.1 3 _ rfl
    have cn4 := nq8.out.1 4 _ rfl
    have cn5 := nq8.out.1 5 _ rfl
    have cn6 := nq8.out.1 6 _ rfl
    have cn7 := nq8.out.1 7 _ rfl
    have cn8 := nq8.out.1 8 _ rfl
    have cn9 := nq8.out.1 9 _ rfl
    have cfn := nq8.out.2.1
    go_simp
    clear cn0 cn1 cn2 cn3 cn4 cn5 cn6 cn7 cn8 cn9 cfn
    obtain ⟨wz, hwz⟩ : ∃ z, ((((((((((q8.setCell ⟨q4.heap.size, 0, none⟩ (.int .i64 d.idx)).setCell ⟨q4.heap.size, 1, none⟩ (.int .i64 d.par)).setCell ⟨q4.heap.size, 2, none⟩ (.string d.nm)).setCell ⟨q4.heap.size, 3, none⟩ (.string d.orig)).setCell ⟨q4.heap.size, 4, none⟩ (.string d.sub)).setCell ⟨q4.heap.size, 5, none⟩ (.string d.drv)).setCell ⟨q4.heap.size, 6, none⟩ (.string d.ali)).setCell ⟨q4.heap.size, 7, none⟩ (.int .i64 d.kind)).setCell ⟨q4.heap.size, 8, none⟩ (.int .i64 d.num)).setCell ⟨q4.heap.size, 9, none⟩ (.slice A1 d.attrs.length c1)) = z := ⟨_, rfl⟩
    have HTz := Lib.hid (show BoxL wz w2.heap.size [.slice AT L.length cT] by rw [← hwz]; exact set10_ind (fun w' => BoxL w' w2.heap.size [.slice AT L.length cT]) (fun w' j v h => h.far (fun e => by have := HGY.out; have := HNB.out; omega) v) tq8.out _ _ _ _ _ _ _ _ _ _)
    have HXz := Lib.hid (show FreeS (fun x => x = w.heap.size ∨ x = q4.heap.size) wz AT cT L by rw [← hwz]; exact set10_ind (fun w' => FreeS (fun x => x = w.heap.size ∨ x = q4.heap.size) w' AT cT L) (fun w' j v h => h.set_ (.inr rfl) j v) HXFq8.out _ _ _ _ _ _ _ _ _ _)
    have HAz := Lib.hid (show FreeS (fun x => x = w.heap.size ∨ x = q4.heap.size) wz A1 c1 d.attrs by rw [← hwz]; exact set10_ind (fun w' => FreeS (fun x => x = w.heap.size ∨ x = q4.heap.size) w' A1 c1 d.attrs) (fun w' j v h => h.set_ (.inr rfl) j v) HDA.out _ _ _ _ _ _ _ _ _ _)
    have HTPz := Lib.hid (show TapeAt wz w.heap.size w.heap.size xs k3 by rw [← hwz]; exact set10_ind (fun w' => TapeAt w' w.heap.size w.heap.size xs k3) (fun w' j v h => h.set_ (by have := HGY.out; have := HNB.out; omega) (by have := HGY.out; have := HNB.out; omega) v) HTPq8.out _ _ _ _ _ _ _ _ _ _)
    have HNz := Lib.hid (show BoxL wz q4.heap.size [.int .i64 d.idx, .int .i64 d.par, .string d.nm, .string d.orig, .string d.sub, .string d.drv, .string d.ali, .int .i64 d.kind, .int .i64 d.num, .slice A1 d.attrs.length c1] by rw [← hwz]; exact nq8.out.set10 _ _ _ _ _ _ _ _ _ _)
    have HBz := Lib.hid (show Below w.heap.size w wz by rw [← hwz]; exact below10 HBq8.out (by have := HGY.out; have := HNB.out; omega) _ _ _ _ _ _ _ _ _ _)
    try rw [hwz]
    clear hwz
    refine hK.out _ _ HTz.out (fun _ => ?_)
    clear hK K
    try simp only [Act.put, List.setIfInBounds_toArray, List.set_cons_zero, List.set_cons_succ]
    refine wpAnyH_take (i := 10) (oi := ⟨some 6, _, _, _, _, _⟩) (v := .bool qf) rfl (by kernel_rfl) (by kernel_rfl) (by kernel_rfl) (fun _ _ _ h => h) (Or.inl ⟨by rfl, fun w' hS => by go_simp⟩) HTz.out ?_
    try simp only [Act.put, List.setIfInBounds_toArray, List.set_cons_zero, List.set_cons_succ]
    refine wpAnyH_done (by kernel_rfl) ?_ _
    go_wp2_with fail
    go_meet
    exact ⟨q4.heap.size, k3, d, A1, c1, qf, rfl, rfl, Lib.hid ⟨HBz.out, HTz.out, HNz.out, HXz.out, HAz.out, HTPz.out, HK3.out, HDO.out, HNB.out⟩, HQF⟩
  ·
   have HNB := Lib.hid (show w2.heap.size < wd.heap.size from twd.out.2.2)
   have HXFn := Lib.hid (show FreeS (fun x => x = w.heap.size ∨ x = wd.heap.size) wd _ _ _ from HXFwd.out.more (fun x hx h => by rcases h with h | h; exact h; omega))
   go_simp
   obtain ⟨q9, hq9⟩ : ∃ z, wd.alloc (.cells #[.int .i64 0, .int .i64 0, .string ByteArray.empty, .string ByteArray.empty, .string ByteArray.empty, .string ByteArray.empty, .string ByteArray.empty, .int .i64 0, .int .i64 0, .slice none 0 0] 32) = z := ⟨_, rfl⟩
   have hb_ : Below wd.heap.size wd q9 := by rw [← hq9]; exact (Below.refl _ _).alloc (Nat.le_refl _) _
   have HXnq9 := Lib.hid (show BoxL q9 wd.heap.size [.int .i64 0, .int .i64 0, .string ByteArray.empty, .string ByteArray.empty, .string ByteArray.empty, .string ByteArray.empty, .string ByteArray.empty, .int .i64 0, .int .i64 0, .slice none 0 0] from box_mk hq9)
   try rw [hq9]
   clear hq9
   have HSq9 := Lib.hid (show wd.heap.size ≤ q9.heap.size from hb_.size)
   have HBq9 := Lib.hid (HBwd.out.trans (hb_.mono HBwd.out.size))
   have tq9 := Lib.hid (twd.out.kept (grown_none hb_) (fun e => by cases e))
   have HTPq9 := Lib.hid (HTPwd.out.kept (grown_none hb_) (fun e => by cases e) (fun g e => by cases e))
   have HXFq9 := Lib.hid (HXFn.out.below hb_)
   clear hb_
   refine hK.out _ _ tq9.out (fun _ => ?_)
   clear hK K
   try simp only [Act.put, List.setIfInBounds_toArray, List.set_cons_zero, List.set_cons_succ]
   refine wpAnyH_ready (rs := [3]) (by kernel_rfl) (by simp) ?_
   refine AllReadyH.cons (o := ⟨some 22, .call ⟨_, _, _⟩, _, _, _, _⟩) rfl (fun K hK => ?_) (AllReadyH.nil)
   go_simp
   go_at_call 16
   refine (Some_any xs k1 w.heap.size w.heap.size AT cT L _ q9 (by have := HK1.out; omega) HTPq9.out ⟨HXFq9.out, fun x hx h => hx.2 (.inl h), fun x hx => hx.1⟩ (fun d hd => (HVT.out.small d hd).2) (by have := HLN.out; omega)).mono ?_
   rintro e' q10 ⟨n, k3, rfl, hn_, hk3_, ht_, hg_⟩
   have HBq10 := Lib.hid (HBq9.out.grown hg_ HBq9.out.size (fun q hq => by have := Option.some.inj hq; omega))
   have HTPq10 := Lib.hid ht_
   have tq10 := Lib.hid (tq9.out.kept hg_ (fun e => by have := Option.some.inj e; have := HGY.out; have := HNB.out; omega))
   have nq10 := Lib.hid (HXnq9.out.kept hg_ (fun e => by have := Option.some.inj e; have := HGY.out; have := HNB.out; omega))
   have HXFq10 := Lib.hid (HXFq9.out.grown hg_ (.inl (.inl rfl)))
   have HK3 := Lib.hid (show k3 ≤ 5000 by have := HK1.out; omega); clear hn_ hk3_
   clear hg_ ht_
   refine hK.out _ _ tq10.out (fun _ => ?_)
   clear hK K
   try simp only [Act.put, List.setIfInBounds_toArray, List.set_cons_zero, List.set_cons_succ]
   refine wpAnyH_ready (rs := [4]) (by kernel_rfl) (by simp) ?_
   refine AllReadyH.cons (o := ⟨some 23, .call ⟨_, _, _⟩, _, _, _, _⟩) rfl (fun K hK => ?_) (AllReadyH.nil)
   have HNW := Lib.hid (show wd.heap.size < q10.heap.size from nq10.out.2.2)
   have HNL := Lib.hid (show w.heap.size < q10.heap.size by have := HGY.out; have := tq10.out.2.2; omega)
   go_simp
   go_at_call 34
   refine (TFind_any AT cT L n q10 _ (Nat.le_refl _) HXFq10.out.out (fun d hd => attrs_le (HVT.out.chk d hd))).mono ?_
   rintro e' q11 ⟨hb_, d, A1, c1, hd_, rfl, hok_, hs_⟩
   have HSq11 := Lib.hid (show q10.heap.size ≤ q11.heap.size from hb_.size)
   have HBq11 := Lib.hid (HBq10.out.trans (hb_.mono HBq10.out.size))
   have tq11 := Lib.hid (tq10.out.kept (grown_none hb_) (fun e => by cases e))
   have nq11 := Lib.hid (nq10.out.kept (grown_none hb_) (fun e => by cases e))
   have HTPq11 := Lib.hid (HTPq10.out.kept (grown_none hb_) (fun e => by cases e) (fun g e => by cases e))
   have HXFq11 := Lib.hid (HXFq10.out.below hb_)
   have HDO := Lib.hid hok_
   have HDA := Lib.hid (show FreeS (fun x => x = w.heap.size ∨ x = wd.heap.size) _ A1 c1 d.attrs from hs_.free (fun x hx => ⟨hx.2, fun h => by have := hx.1; have := HNL.out; have := HNW.out; rcases h with h | h <;> omega⟩))
   obtain ⟨qf, hqf⟩ : ∃ q, (L.find? (byIdx n)).isSome = q := ⟨_, rfl⟩
   rw [hqf]
   have HQF := Lib.hid (show qf = true → d ∈ L from fun h => stay_in (hqf.trans h) hd_)
   clear hqf hok_ hd_ hs_ HNL HNW
   clear hb_
   refine hK.out _ _ tq11.out (fun _ => ?_)
   clear hK K
   try simp only [Act.put, List.setIfInBounds_toArray, List.set_cons_zero, List.set_cons_succ]
   refine wpAnyH_take (i := 5) (oi := ⟨some 18, _, _, _, _, _⟩) (v := .tuple #[.agg #[.int .i64 d.idx, .int .i64 d.par, .string d.nm, .string d.orig, .string d.sub, .string d.drv, .string d.ali, .int .i64 d.kind, .int .i64 d.num, .slice A1 d.attrs.length c1], .bool qf]) rfl (by kernel_rfl) (by kernel_rfl) (by kernel_rfl) (fun _ _ _ h => h) (Or.inl ⟨by rfl, fun w' hS => by go_simp⟩) tq11.out ?_
   try simp only [Act.put, List.setIfInBounds_toArray, List.set_cons_zero, List.set_cons_succ]
   refine wpAnyH_take (i := 6) (oi := ⟨some 24, _, _, _, _, _⟩) (v := .agg #[.int .i64 d.idx, .int .i64 d.par, .string d.nm, .string d.orig, .string d.sub, .string d.drv, .string d.ali, .int .i64 d.kind, .int .i64 d.num, .slice A1 d.attrs.length c1]) rfl (by kernel_rfl) (by kernel_rfl) (by kernel_rfl) (fun _ _ _ h => h) (Or.inl ⟨by rfl, fun w' hS => by go_simp⟩) tq11.out ?_
   try simp only [Act.put, List.setIfInBounds_toArray, List.set_cons_zero, List.set_cons_succ]
   refine wpAnyH_take (i := 7) (oi := ⟨some 25, _, _, _, _, _⟩) (v := .bool qf) rfl (by kernel_rfl) (by kernel_rfl) (by kernel_rfl) (fun _ _ _ h => h) (Or.inl ⟨by rfl, fun w' hS => by go_simp⟩) tq11.out ?_
   try simp only [Act.put, List.setIfInBounds_toArray, List.set_cons_zero, List.set_cons_succ]
   refine wpAnyH_ready (rs := [9]) (by kernel_rfl) (by simp) ?_
   refine AllReadyH.cons (o := ⟨none, .store _ _ _, _, _, _, _⟩) rfl (fun K hK => ?_) AllReadyH.nil
   have cn0 := nq11.out.1 0 _ rfl
   have cn1 := nq11.out.1 1 _ rfl
   have cn2 := nq11.out.1 2 _ rfl
   have cn3 := nq11.out.1 3 _ rfl
   have cn4 := nq11.out.1 4 _ rfl
   have cn5 := nq11.out.1 5 _ rfl
   have cn6 := nq11.out.1 6 _ rfl
   have cn7 := nq11.out.1 7 _ rfl
   have cn8 := nq11.out.1 8 _ rfl
   have cn9 := nq11.out.1 9 _ rfl
   have cfn := nq11.out.2.1
   go_simp
   clear cn0 cn1 cn2 cn3 cn4 cn5 cn6 cn7 cn8 cn9 cfn
   obtain ⟨wz, hwz⟩ : ∃ z, ((((((((((q11.setCell ⟨wd.heap.size, 0, none⟩ (.int .i64 d.idx)).setCell ⟨wd.heap.size, 1, none⟩ (.int .i64 d.par)).setCell ⟨wd.heap.size, 2, none⟩ (.string d.nm)).setCell ⟨wd.heap.size, 3, none⟩ (.string d.orig)).setCell ⟨wd.heap.size, 4, none⟩ (.string d.sub)).setCell ⟨wd.heap.size, 5, none⟩ (.string d.drv)).setCell ⟨wd.heap.size, 6, none⟩ (.string d.ali)).setCell ⟨wd.heap.size, 7, none⟩ (.int .i64 d.kind)).setCell ⟨wd.heap.size, 8, none⟩ (.int .i64 d.num)).setCell ⟨wd.heap.size, 9, none⟩ (.slice A1 d.attrs.length c1)) = z := ⟨_, rfl⟩
   have HTz := Lib.hid (show BoxL wz w2.heap.size [.slice AT L.length cT] by rw [← hwz]; exact set10_ind (fun w' => BoxL w' w2.heap.size [.slice AT L.length cT]) (fun w' j v h => h.far (fun e => by have := HGY.out; have := HNB.out; omega) v) tq11.out _ _ _ _ _ _ _ _ _ _)
   have HXz := Lib.hid (show FreeS (fun x => x = w.heap.size ∨ x = wd.heap.size) wz AT cT L by rw [← hwz]; exact set10_ind (fun w' => FreeS (fun x => x = w.heap.size ∨ x = wd.heap.size) w' AT cT L) (fun w' j v h => h.set_ (.inr rfl) j v) HXFq11.out _ _ _ _ _ _ _ _ _ _)
   have HAz := Lib.hid (show FreeS (fun x => x = w.heap.size ∨ x = wd.heap.size) wz A1 c1 d.attrs by rw [← hwz]; exact set10_ind (fun w' => FreeS (fun x => x = w.heap.size ∨ x = wd.heap.size) w' A1 c1 d.attrs) (fun w' j v h => h.set_ (.inr rfl) j v) HDA.out _ _ _ _ _ _ _ _ _ _)
   have HTPz := Lib.hid (show TapeAt wz w.heap.size w.heap.size xs k3 by rw [← hwz]; exact set10_ind (fun w' => TapeAt w' w.heap.size w.heap.size xs k3) (fun w' j v h => h.set_ (by have := HGY.out; have := HNB.out; omega) (by have := HGY.out; have := HNB.out; omega) v) HTPq11.out _ _ _ _ _ _ _ _ _ _)
   have HNz := Lib.hid (show BoxL wz wd.heap.size [.int .i64 d.idx, .int .i64 d.par, .string d.nm, .string d.orig, .string d.sub, .string d.drv, .string d.ali, .int .i64 d.kind, .int .i64 d.num, .slice A1 d.attrs.length c1] by rw [← hwz]; exact nq11.out.set10 _ _ _ _ _ _ _ _ _ _)
   have HBz := Lib.hid (show Below w.heap.size w wz by rw [← hwz]; exact below10 HBq11.out (by have := HGY.out; have := HNB.out; omega) _ _ _ _ _ _ _ _ _ _)
   try rw [hwz]
   clear hwz
   refine hK.out _ _ HTz.out (fun _ => ?_)
   clear hK K
   try simp only [Act.put, List.setIfInBounds_toArray, List.set_cons_zero, List.set_cons_succ]
   refine wpAnyH_take (i := 10) (oi := ⟨some 6, _, _, _, _, _⟩) (v := .bool qf) rfl (by kernel_rfl) (by kernel_rfl) (by kernel_rfl) (fun _ _ _ h => h) (Or.inl ⟨by rfl, fun w' hS => by go_simp⟩) HTz.out ?_
   try simp only [Act.put, List.setIfInBounds_toArray, List.set_cons_zero, List.set_cons_succ]
   refine wpAnyH_done (by kernel_rfl) ?_ _
   go_wp2_with fail
   go_meet
   exact ⟨wd.heap.size, k3, d, A1, c1, qf, rfl, rfl, Lib.hid ⟨HBz.out, HTz.out, HNz.out, HXz.out, HAz.out, HTPz.out, HK3.out, HDO.out, HNB.out⟩, HQF⟩
 case rest =>
 obtain ⟨g7, k3, d, A1, c1, q, rfl, rfl, HCB, HQ⟩ := hcut
 obtain ⟨hb_, ht_, hn_, hx_, ha_, htp_, hk3, hdo, hg7⟩ := HCB.out
 obtain ⟨wk, hwk⟩ : ∃ z, z = wc := ⟨_, rfl⟩
 subst hwk
 have HBk := Lib.hid hb_; have HTk := Lib.hid ht_; have HNk := Lib.hid (show BoxL wk g7 [.int .i64 d.idx, .int .i64 d.par, .string d.nm, .string d.orig, .string d.sub, .string d.drv, .string d.ali, .int .i64 d.kind, .int .i64 d.num, .slice A1 d.attrs.length c1] from hn_); have HXk := Lib.hid hx_; have HAk := Lib.hid ha_; have HTPk := Lib.hid htp_; have HK3 := Lib.hid hk3; have HDO := Lib.hid hdo; have HG7 := Lib.hid hg7
 clear hb_ ht_ hn_ hx_ ha_ htp_ hk3 hdo hg7 HCB
 cases q
 ·
  go_wp2_with fail
  refine (known_any _ (HOK.out.next HBk.out) (H7.out.below HBk.out) (Ok8.below HK8.out HBk.out) (HU.out.below HBk.out)).mono ?_
  rintro e w12 ⟨rfl, hbw12⟩
  have HSw12 := Lib.hid (show wk.heap.size ≤ w12.heap.size from hbw12.size)
  have HBw12 := Lib.hid (HBk.out.trans (hbw12.mono HBk.out.size))
  have tw12 := Lib.hid (HTk.out.kept (grown_none hbw12) (fun e => by cases e))
  have nw12 := Lib.hid (HNk.out.kept (grown_none hbw12) (fun e => by cases e))
  have HTPw12 := Lib.hid (HTPk.out.kept (grown_none hbw12) (fun e => by cases e) (fun g e => by cases e))
  have HXFw12 := Lib.hid (HXk.out.below hbw12)
  have HDAw12 := Lib.hid (HAk.out.below hbw12)
  clear hbw12
  go_wp2
  go_ret
  exact ⟨by try rfl, HBw12.out⟩
 ·
  have HM := Lib.hid (HQ.out rfl); clear HQ
  go_wp2_with fail
  refine (One_lit [⟨#[]⟩, ⟨#[111, 110, 101]⟩, ⟨#[116, 119, 111]⟩] xs k3 w.heap.size w.heap.size _ _ wk 3 rfl rfl (by have := HK3.out; omega) HTPk.out (by simp) (by simp)).mono ?_
  rintro e w40 ⟨v, hm_, rfl, ht_, hg_⟩
  have HBw40 := Lib.hid (HBk.out.grown hg_ HBk.out.size (fun q hq => by have := Option.some.inj hq; omega))
  have HTPw40 := Lib.hid ht_
  have tw40 := Lib.hid (HTk.out.kept hg_ (fun e => by have := Option.some.inj e; have := HGY.out; have := HG7.out; omega))
  have nw40 := Lib.hid (HNk.out.kept hg_ (fun e => by have := Option.some.inj e; have := HGY.out; have := HG7.out; omega))
  have HXFw40 := Lib.hid (HXk.out.grown hg_ (.inl (.inl rfl)))
  have HDAw40 := Lib.hid (HAk.out.grown hg_ (.inl (.inl rfl)))
  have HVS := Lib.hid (show v.size ≤ maxLen by simp only [List.mem_cons, List.not_mem_nil, or_false] at hm_; rcases hm_ with rfl | rfl | rfl <;> decide)
  clear hm_ ht_ hg_
  have cn0 := nw40.out.1 0 _ rfl
  have cn1 := nw40.out.1 1 _ rfl
  have cn2 := nw40.out.1 2 _ rfl
  have cn3 := nw40.out.1 3 _ rfl
  have cn4 := nw40.out.1 4 _ rfl
  have cn5 := nw40.out.1 5 _ rfl
  have cn6 := nw40.out.1 6 _ rfl
  have cn7 := nw40.out.1 7 _ rfl
  have cn8 := nw40.out.1 8 _ rfl
  have cn9 := nw40.out.1 9 _ rfl
  have cfn := nw40.out.2.1
  go_upto_region 7 with fail
  clear cn0 cn1 cn2 cn3 cn4 cn5 cn6 cn7 cn8 cn9 cfn
  have hgs := grown_one w40 g7 5 (.string v)
  have hbx_ := nw40.out.set_ (j := 5) (by first | (simp; done) | (simp [devCells]; done)) (.string v)
  obtain ⟨w41, hw41⟩ : ∃ z, w40.setCell ⟨g7, 5, none⟩ (.string v) = z := ⟨_, rfl⟩
  rw [hw41] at hgs hbx_ ⊢
  clear hw41
  have nw41 := Lib.hid hbx_
  have HBw41 := Lib.hid (HBw40.out.grown hgs HBw40.out.size (fun q hq => by have := Option.some.inj hq; have := HGY.out; have := HG7.out; omega))
  have tw41 := Lib.hid (tw40.out.kept hgs (fun e => by have := Option.some.inj e; have := HGY.out; have := HG7.out; omega))
  have HTPw41 := Lib.hid (HTPw40.out.kept hgs (fun e => by have := Option.some.inj e; have := HGY.out; have := HG7.out; omega) (fun q e => by have := Option.some.inj e; have := HGY.out; have := HG7.out; omega))
  have HXFw41 := Lib.hid (HXFw40.out.grown hgs (.inl (.inr rfl)))
  have HDAw41 := Lib.hid (HDAw40.out.grown hgs (.inl (.inr rfl)))
  clear hgs hbx_
  have HN41 := Lib.hid (show BoxL w41 g7 [.int .i64 d.idx, .int .i64 d.par, .string d.nm, .string d.orig, .string d.sub, .string v, .string d.ali, .int .i64 d.kind, .int .i64 d.num, .slice A1 d.attrs.length c1] from nw41.out)
  have cn0 := HN41.out.1 0 _ rfl
  have cn1 := HN41.out.1 1 _ rfl
  have cn2 := HN41.out.1 2 _ rfl
  have cn3 := HN41.out.1 3 _ rfl
  have cn4 := HN41.out.1 4 _ rfl
  have cn5 := HN41.out.1 5 _ rfl
  have cn6 := HN41.out.1 6 _ rfl
  have cn7 := HN41.out.1 7 _ rfl
  have cn8 := HN41.out.1 8 _ rfl
  have cn9 := HN41.out.1 9 _ rfl
  have cfn := HN41.out.2.1
  go_upto_if 35 with fail
  go_cut [] (fun wx => ∃ nm : ByteArray, Hid (Sty2 w w2.heap.size AT cT L g7 (drvD d v nm) A1 c1 wx))
  case first =>
   by_cases hk : d.kind = 4
   ·
    have hkb : (d.kind == 4) = true := by rw [hk]; rfl
    clear hk
    go_wp2_with fail
    refine (One_lit [⟨#[108, 97, 110, 55]⟩, ⟨#[101, 116, 104, 48]⟩, ⟨#[116, 97, 112]⟩] xs (k3 + 1) w.heap.size w.heap.size _ _ w41 3 rfl rfl (by have := HK3.out; omega) HTPw41.out (by simp) (by simp)).mono ?_
    rintro e w61 ⟨nm, hm_, rfl, ht_, hg_⟩
    clear cn0 cn1 cn2 cn3 cn4 cn5 cn6 cn7 cn8 cn9 cfn
    have HBw61 := Lib.hid (HBw41.out.grown hg_ HBw41.out.size (fun q hq => by have := Option.some.inj hq; omega))
    have HTPw61 := Lib.hid ht_
    have tw61 := Lib.hid (tw41.out.kept hg_ (fun e => by have := Option.some.inj e; have := HGY.out; have := HG7.out; omega))
    have nw61 := Lib.hid (HN41.out.kept hg_ (fun e => by have := Option.some.inj e; have := HGY.out; have := HG7.out; omega))
    have HXFw61 := Lib.hid (HXFw41.out.grown hg_ (.inl (.inl rfl)))
    have HDAw61 := Lib.hid (HDAw41.out.grown hg_ (.inl (.inl rfl)))
    have HNS := Lib.hid (show nm.size ≤ maxLen by simp only [List.mem_cons, List.not_mem_nil, or_false] at hm_; rcases hm_ with rfl | rfl | rfl <;> decide)
    clear hm_ ht_ hg_ hkb
    have cn0 := nw61.out.1 0 _ rfl
    have cn1 := nw61.out.1 1 _ rfl
    have cn2 := nw61.out.1 2 _ rfl
    have cn3 := nw61.out.1 3 _ rfl
    have cn4 := nw61.out.1 4 _ rfl
    have cn5 := nw61.out.1 5 _ rfl
    have cn6 := nw61.out.1 6 _ rfl
    have cn7 := nw61.out.1 7 _ rfl
    have cn8 := nw61.out.1 8 _ rfl
    have cn9 := nw61.out.1 9 _ rfl
    have cfn := nw61.out.2.1
    go_wp2_with (fail)
    clear cn0 cn1 cn2 cn3 cn4 cn5 cn6 cn7 cn8 cn9 cfn
    have hgs := grown_one w61 g7 2 (.string nm)
    have hbx_ := nw61.out.set_ (j := 2) (by first | (simp; done) | (simp [devCells]; done)) (.string nm)
    obtain ⟨w62, hw62⟩ : ∃ z, w61.setCell ⟨g7, 2, none⟩ (.string nm) = z := ⟨_, rfl⟩
    rw [hw62] at hgs hbx_ ⊢
    clear hw62
    have nw62 := Lib.hid hbx_
    have HBw62 := Lib.hid (HBw61.out.grown hgs HBw61.out.size (fun q hq => by have := Option.some.inj hq; have := HGY.out; have := HG7.out; omega))
    have tw62 := Lib.hid (tw61.out.kept hgs (fun e => by have := Option.some.inj e; have := HGY.out; have := HG7.out; omega))
    have HTPw62 := Lib.hid (HTPw61.out.kept hgs (fun e => by have := Option.some.inj e; have := HGY.out; have := HG7.out; omega) (fun q e => by have := Option.some.inj e; have := HGY.out; have := HG7.out; omega))
    have HXFw62 := Lib.hid (HXFw61.out.grown hgs (.inl (.inr rfl)))
    have HDAw62 := Lib.hid (HDAw61.out.grown hgs (.inl (.inr rfl)))
    clear hgs hbx_
    have HN62 := Lib.hid (show BoxL w62 g7 [.int .i64 d.idx, .int .i64 d.par, .string nm, .string d.orig, .string d.sub, .string v, .string d.ali, .int .i64 d.kind, .int .i64 d.num, .slice A1 d.attrs.length c1] from nw62.out)
    go_meet
    exact ⟨nm, Lib.hid ⟨HBw62.out, tw62.out, HN62.out, HXFw62.out.out, HDAw62.out.out, ⟨HDO.out.1, HDO.out.2.1, HNS.out, HDO.out.2.2.2.1, HDO.out.2.2.2.2.1, HVS.out, HDO.out.2.2.2.2.2.2⟩⟩⟩
   ·
    have hkb : (d.kind == 4) = false := by simpa using hk
    clear hk
    clear cn0 cn1 cn2 cn3 cn4 cn5 cn6 cn7 cn8 cn9 cfn
    go_wp2_with fail
    go_meet
    exact ⟨d.nm, Lib.hid ⟨HBw41.out, tw41.out, HN41.out, HXFw41.out.out, HDAw41.out.out, ⟨HDO.out.1, HDO.out.2.1, HDO.out.2.2.1, HDO.out.2.2.2.1, HDO.out.2.2.2.2.1, HVS.out, HDO.out.2.2.2.2.2.2⟩⟩⟩
  case rest =>
  obtain ⟨nm, HCB⟩ := hcut
  obtain ⟨hb_, ht_, hn_, hx_, ha_, hdo⟩ := HCB.out
  obtain ⟨wm, hwm⟩ : ∃ z, z = wc := ⟨_, rfl⟩
  subst hwm
  obtain ⟨e, he⟩ : ∃ z, drvD d v nm = z := ⟨_, rfl⟩
  rw [he] at hn_ ha_ hdo
  have HE := Lib.hid he; have HBm := Lib.hid hb_; have HTm := Lib.hid ht_; have HNm := Lib.hid (show BoxL wm g7 [.int .i64 e.idx, .int .i64 e.par, .string e.nm, .string e.orig, .string e.sub, .string e.drv, .string e.ali, .int .i64 e.kind, .int .i64 e.num, .slice A1 e.attrs.length c1] from hn_); have HSLm := Lib.hid hx_; have HSAm := Lib.hid ha_; have HDE := Lib.hid hdo
  clear hb_ ht_ hn_ hx_ ha_ hdo HCB he
  clear cn0 cn1 cn2 cn3 cn4 cn5 cn6 cn7 cn8 cn9 cfn
  obtain ⟨z, hz⟩ : ∃ z, chgE L e = z := ⟨_, rfl⟩
  have HZ := Lib.hid hz; clear hz
  obtain ⟨Y, hY⟩ : ∃ z, chgX L e = z := ⟨_, rfl⟩
  have HY := Lib.hid hY; clear hY
  have ct0 := HTm.out.1 0 _ rfl
  have cn0 := HNm.out.1 0 _ rfl
  have cn1 := HNm.out.1 1 _ rfl
  have cn2 := HNm.out.1 2 _ rfl
  have cn3 := HNm.out.1 3 _ rfl
  have cn4 := HNm.out.1 4 _ rfl
  have cn5 := HNm.out.1 5 _ rfl
  have cn6 := HNm.out.1 6 _ rfl
  have cn7 := HNm.out.1 7 _ rfl
  have cn8 := HNm.out.1 8 _ rfl
  have cn9 := HNm.out.1 9 _ rfl
  go_wp2_with fail
  refine (Change_any AT cT L e A1 c1 wm _ (Nat.le_refl _) HSLm.out HDE.out HSAm.out HVT.out (HOK.out.next HBm.out)).mono ?_
  rintro e w51 ⟨hbw51, vy, rfl, hown_⟩
  clear ct0 cn0 cn1 cn2 cn3 cn4 cn5 cn6 cn7 cn8 cn9
  have HSw51 := Lib.hid (show wm.heap.size ≤ w51.heap.size from hbw51.size)
  have HBw51 := Lib.hid (HBm.out.trans (hbw51.mono HBm.out.size))
  have tw51 := Lib.hid (HTm.out.kept (grown_none hbw51) (fun e => by cases e))
  have nw51 := Lib.hid (HNm.out.kept (grown_none hbw51) (fun e => by cases e))
  have HSLw51 := Lib.hid ((HSLm.out).next (Nat.le_refl _) hbw51)
  clear hbw51
  rw [HZ.out]
  rw [HY.out] at hown_
  obtain ⟨Ay, cy, rfl, hs_⟩ := hown_.sl
  have hl1 := hs_.1; have hl2 := hs_.2.1
  unfold maxLen at hl2
  have HSY := Lib.hid hs_; clear hs_ hown_
  go_upto_region 10 with fail
  obtain ⟨w52, hw52⟩ : ∃ w52, w51.alloc (.cells #[.slice Ay Y.length cy] 28) = w52 := ⟨_, rfl⟩
  have hbw52 : Below w51.heap.size w51 w52 := by rw [← hw52]; exact (Below.refl _ _).alloc (Nat.le_refl _) _
  have HGw52 := Lib.hid (show w52.heap.size = w51.heap.size + 1 by rw [← hw52]; simp)
  have HXyw52 := Lib.hid (show BoxL w52 w51.heap.size [.slice Ay Y.length cy] from box_mk hw52)
  try simp only [hw52]
  have HSTEPw52 := Lib.hid hbw52
  have HSw52 := Lib.hid (show w51.heap.size ≤ w52.heap.size from hbw52.size)
  have HBw52 := Lib.hid (HBw51.out.trans (hbw52.mono HBw51.out.size))
  have tw52 := Lib.hid (tw51.out.kept (grown_none hbw52) (fun e => by cases e))
  have nw52 := Lib.hid (nw51.out.kept (grown_none hbw52) (fun e => by cases e))
  have HSLw52 := Lib.hid ((HSLw51.out).next (Nat.le_refl _) hbw52)
  have HSYw52 := Lib.hid ((HSY.out).next (Nat.le_refl _) hbw52)
  clear hw52 hbw52
  try rw [show w51.heap.size + 1 = w52.heap.size from HGw52.out.symm]
  by_cases hz : z = 0
  case neg =>
   have hzb : (z != 0) = true := by simpa using hz
   clear hz
   go_wp2_with fail
   refine (known_any _ (HOK.out.next HBw52.out) (H7.out.below HBw52.out) (Ok8.below HK8.out HBw52.out) (HU.out.below HBw52.out)).mono ?_
   rintro e w53 ⟨rfl, hbw53⟩
   have HSw53 := Lib.hid (show w52.heap.size ≤ w53.heap.size from hbw53.size)
   have HBw53 := Lib.hid (HBw52.out.trans (hbw53.mono HBw52.out.size))
   have tw53 := Lib.hid (tw52.out.kept (grown_none hbw53) (fun e => by cases e))
   have nw53 := Lib.hid (nw52.out.kept (grown_none hbw53) (fun e => by cases e))
   have yw53 := Lib.hid (HXyw52.out.kept (grown_none hbw53) (fun e => by cases e))
   have HSLw53 := Lib.hid ((HSLw52.out).next (Nat.le_refl _) hbw53)
   have HSYw53 := Lib.hid ((HSYw52.out).next (Nat.le_refl _) hbw53)
   clear hbw53
   go_wp2
   go_ret
   exact ⟨by try rfl, HBw53.out⟩
  have hzb : (z != 0) = false := by simp [hz]
  have HCE := Lib.hid (show chgE L e = 0 from HZ.out.trans hz)
  have HYE := Lib.hid (show Y = chgL L (drvD d v nm) from by rw [← HY.out, chgX_zero HCE.out, HE.out])
  have HVY := Lib.hid (show VT Y from by rw [HYE.out]; exact (chg_VT HVT.out (by rw [HE.out]; exact HCE.out)).1)
  have HCD := Lib.hid (show chgE L (drvD d v nm) = 0 from by rw [HE.out]; exact HCE.out)
  clear hz
  have ct0 := tw52.out.1 0 _ rfl
  go_wp2_with fail
  go_loopw [9] (fun i wr => ∃ k : Nat, k ≤ L.length ∧ i = .int .i64 (k : Int) ∧ Hid (Below w52.heap.size w52 wr)) (fun i _ => L.length - (intOf i).toNat)
  case atStart => exact ⟨0, Nat.zero_le _, rfl, Below.refl _ _⟩
  case round =>
   clear ct0
   obtain ⟨k, hk, rfl, HBR⟩ := hrel
   have HBwr := Lib.hid (HBw52.out.trans (HBR.out.mono HBw52.out.size)); have HSLr := Lib.hid (HSLw52.out.next (Nat.le_refl _) HBR.out); have HSYr := Lib.hid (HSYw52.out.next (Nat.le_refl _) HBR.out)
   have twr := Lib.hid (tw52.out.kept (grown_none HBR.out) (fun e => by cases e))
   have nwr := Lib.hid (nw52.out.kept (grown_none HBR.out) (fun e => by cases e))
   have ywr := Lib.hid (HXyw52.out.kept (grown_none HBR.out) (fun e => by cases e))
   have ct0 := twr.out.1 0 _ rfl
   by_cases hlt : k < L.length
   ·
    have i1 : (k : Int) < (L.length : Int) := by omega
    obtain ⟨b, o, rfl, -, A7, c7, hdok, -, hcs⟩ := HSLr.out.dev hlt
    obtain ⟨x, hx⟩ : ∃ z, L[k]'hlt = z := ⟨_, rfl⟩
    rw [hx] at hdok hcs
    have a0 := hcs.1
    have HLT_ := Lib.hid hlt; have HNX := Lib.hid (show okI x.idx from hdok.1)
    clear hx hdok hcs hlt
    obtain ⟨n, hn⟩ : ∃ z, x.idx = z := ⟨_, rfl⟩
    rw [hn] at a0 HNX
    clear hn
    go_upto_region 16 with fail
    clear a0
    obtain ⟨la, hla_⟩ : ∃ z, baseL L n = z := ⟨_, rfl⟩
    have HLA_ := Lib.hid hla_; clear hla_
    obtain ⟨lb, hlb⟩ : ∃ z, baseL Y n = z := ⟨_, rfl⟩
    have HLB := Lib.hid hlb; clear hlb
    obtain ⟨lp, hlp⟩ : ∃ z, pathL L n = z := ⟨_, rfl⟩
    have HLP := Lib.hid hlp; clear hlp
    obtain ⟨lc, hlc⟩ : ∃ z, Go.Cold.contL L n = z := ⟨_, rfl⟩
    have HLC := Lib.hid hlc; clear hlc
    obtain ⟨lt, hlt⟩ : ∃ z, netL L n = z := ⟨_, rfl⟩
    have HLT := Lib.hid hlt; clear hlt
    have HBS := Lib.hid (show lb = if n = d.idx then setA la kDriver v else la from by rw [← HLB.out, HYE.out, ← HLA_.out]; exact base_stay HVT.out HM.out HCD.out n)
    have HLP2 := Lib.hid (show pathL Y n = lp by rw [HYE.out, path_stay HVT.out HM.out]; exact HLP.out)
    have HLC2 := Lib.hid (show Go.Cold.contL Y n = lc by rw [HYE.out, (cont_stay HVT.out HM.out n).1]; exact HLC.out)
    have HLT2 := Lib.hid (show netL Y n = lt by rw [HYE.out, (cont_stay HVT.out HM.out n).2]; exact HLT.out)
    have HSO := Lib.hid (show sortedA la = true by rw [← HLA_.out]; exact base_sorted L n)
    have HLE := Lib.hid (show la.length ≤ 1000 by rw [← HLA_.out]; exact base_len L n)
    clear ct0
    refine wp_region_held_drew (S := fun w' => BoxL w' (w2.heap.size) [.slice (some ⟨b, o, none⟩) L.length cT] ∧ BoxL w' (w51.heap.size) [.slice Ay Y.length cy]) (by kernel_rfl) ⟨twr.out.drew, ywr.out.drew⟩ (fun hS0 => ?_)
    obtain ⟨wd, hwd⟩ : ∃ z, World.drew wr = z := ⟨_, rfl⟩
    rw [hwd] at hS0 ⊢
    have hb_ : Below wr.heap.size wr wd := by rw [← hwd]; exact below_drewN_self _ _ 1
    clear hwd hS0
    have HSwd := Lib.hid (show wr.heap.size ≤ wd.heap.size from hb_.size)
    have HBwd := Lib.hid (HBwr.out.trans (hb_.mono HBwr.out.size))
    have twd := Lib.hid (twr.out.kept (grown_none hb_) (fun e => by cases e))
    have nwd := Lib.hid (nwr.out.kept (grown_none hb_) (fun e => by cases e))
    have ywd := Lib.hid (ywr.out.kept (grown_none hb_) (fun e => by cases e))
    have HBRwd := Lib.hid (below_onto HBR.out hb_)
    have HSLwd := Lib.hid ((HSLr.out).next (Nat.le_refl _) hb_)
    have HSYwd := Lib.hid ((HSYr.out).next (Nat.le_refl _) hb_)
    clear hb_
    refine wpAnyH_take (i := 0) (oi := ⟨some 62, _, _, _, _, _⟩) (v := .agg #[.slice (some ⟨b, o, none⟩) L.length cT]) rfl (by kernel_rfl) (by kernel_rfl) (by kernel_rfl) (fun _ _ _ h => h) (Or.inl ⟨by rfl, fun w' hS => by (have u0_ := hS.1.1 0 _ rfl; go_simp)⟩) ⟨twd.out, ywd.out⟩ ?_
    try simp only [Act.put, List.setIfInBounds_toArray, List.set_cons_zero, List.set_cons_succ]
    refine wpAnyH_take (i := 1) (oi := ⟨some 63, _, _, _, _, _⟩) (v := .int .i64 n) rfl (by kernel_rfl) (by kernel_rfl) (by kernel_rfl) (fun _ _ _ h => h) (Or.inl ⟨by rfl, fun w' hS => by go_simp⟩) ⟨twd.out, ywd.out⟩ ?_
    try simp only [Act.put, List.setIfInBounds_toArray, List.set_cons_zero, List.set_cons_succ]
    refine wpAnyH_take (i := 3) (oi := ⟨some 65, _, _, _, _, _⟩) (v := .agg #[.slice Ay Y.length cy]) rfl (by kernel_rfl) (by kernel_rfl) (by kernel_rfl) (fun _ _ _ h => h) (Or.inl ⟨by rfl, fun w' hS => by (have u0_ := hS.2.1 0 _ rfl; go_simp)⟩) ⟨twd.out, ywd.out⟩ ?_
    try simp only [Act.put, List.setIfInBounds_toArray, List.set_cons_zero, List.set_cons_succ]
    refine wpAnyH_take (i := 4) (oi := ⟨some 66, _, _, _, _, _⟩) (v := .int .i64 n) rfl (by kernel_rfl) (by kernel_rfl) (by kernel_rfl) (fun _ _ _ h => h) (Or.inl ⟨by rfl, fun w' hS => by go_simp⟩) ⟨twd.out, ywd.out⟩ ?_
    try simp only [Act.put, List.setIfInBounds_toArray, List.set_cons_zero, List.set_cons_succ]
    refine wpAnyH_ready (rs := [2]) (by kernel_rfl) (by simp) ?_
    refine AllReadyH.cons (o := ⟨some 64, .call ⟨_, _, _⟩, _, _, _, _⟩) rfl (fun K hK => ?_) AllReadyH.nil
    go_simp
    go_at_call 14
    refine (Base_any (some ⟨b, o, none⟩) cT L n _ _ (Nat.le_refl _) HSLwd.out HVT.out (H7.out.below HBwd.out) (HOK.out.next HBwd.out) HNX.out).mono ?_
    rintro e' qa ⟨hb_, A5, c5, rfl, hs_⟩
    rw [HLA_.out] at hs_ ⊢
    have HSqa := Lib.hid (show wd.heap.size ≤ qa.heap.size from hb_.size)
    have HBqa := Lib.hid (HBwd.out.trans (hb_.mono HBwd.out.size))
    have tqa := Lib.hid (twd.out.kept (grown_none hb_) (fun e => by cases e))
    have nqa := Lib.hid (nwd.out.kept (grown_none hb_) (fun e => by cases e))
    have yqa := Lib.hid (ywd.out.kept (grown_none hb_) (fun e => by cases e))
    have HBRqa := Lib.hid (below_onto HBRwd.out hb_)
    have HSLqa := Lib.hid ((HSLwd.out).next (Nat.le_refl _) hb_)
    have HSYqa := Lib.hid ((HSYwd.out).next (Nat.le_refl _) hb_)
    have HS5 := Lib.hid hs_; clear hs_ hb_
    refine hK.out _ _ ⟨tqa.out, yqa.out⟩ (fun _ => ?_)
    clear hK K
    try simp only [Act.put, List.setIfInBounds_toArray, List.set_cons_zero, List.set_cons_succ]
    refine wpAnyH_ready (rs := [5]) (by kernel_rfl) (by simp) ?_
    refine AllReadyH.cons (o := ⟨some 67, .call ⟨_, _, _⟩, _, _, _, _⟩) rfl (fun K hK => ?_) AllReadyH.nil
    go_simp
    go_at_call 14
    refine (Base_any Ay cy Y n _ _ (Nat.le_refl _) HSYqa.out HVY.out (H7.out.below HBqa.out) (HOK.out.next HBqa.out) HNX.out).mono ?_
    rintro e' qb ⟨hb_, A6, c6, rfl, hs_⟩
    rw [HLB.out] at hs_ ⊢
    have HSqb := Lib.hid (show qa.heap.size ≤ qb.heap.size from hb_.size)
    have HBqb := Lib.hid (HBqa.out.trans (hb_.mono HBqa.out.size))
    have tqb := Lib.hid (tqa.out.kept (grown_none hb_) (fun e => by cases e))
    have nqb := Lib.hid (nqa.out.kept (grown_none hb_) (fun e => by cases e))
    have yqb := Lib.hid (yqa.out.kept (grown_none hb_) (fun e => by cases e))
    have HBRqb := Lib.hid (below_onto HBRqa.out hb_)
    have HSLqb := Lib.hid ((HSLqa.out).next (Nat.le_refl _) hb_)
    have HSYqb := Lib.hid ((HSYqa.out).next (Nat.le_refl _) hb_)
    have HS5qb := Lib.hid ((HS5.out).next (Nat.le_refl _) hb_)
    have HS6 := Lib.hid hs_; clear hs_ hb_
    refine hK.out _ _ ⟨tqb.out, yqb.out⟩ (fun _ => ?_)
    clear hK K
    try simp only [Act.put, List.setIfInBounds_toArray, List.set_cons_zero, List.set_cons_succ]
    refine wpAnyH_take (i := 6) (oi := ⟨some 11, _, _, _, _, _⟩) (v := .slice A5 la.length c5) rfl (by kernel_rfl) (by kernel_rfl) (by kernel_rfl) (fun _ _ _ h => h) (Or.inl ⟨by rfl, fun w' hS => by go_simp⟩) ⟨tqb.out, yqb.out⟩ ?_
    try simp only [Act.put, List.setIfInBounds_toArray, List.set_cons_zero, List.set_cons_succ]
    refine wpAnyH_take (i := 7) (oi := ⟨some 12, _, _, _, _, _⟩) (v := .slice A6 lb.length c6) rfl (by kernel_rfl) (by kernel_rfl) (by kernel_rfl) (fun _ _ _ h => h) (Or.inl ⟨by rfl, fun w' hS => by go_simp⟩) ⟨tqb.out, yqb.out⟩ ?_
    try simp only [Act.put, List.setIfInBounds_toArray, List.set_cons_zero, List.set_cons_succ]
    refine wpAnyH_done (by kernel_rfl) ?_ _
    have he1 := HS5.out.1; have he2 := HS5.out.2.1; have he3 := HS6.out.1; have he4 := HS6.out.2.1
    unfold maxLen at he2 he4
    have cn0 := nqb.out.1 0 _ rfl
    have cn5 := nqb.out.1 5 _ rfl
    have HEI := Lib.hid (show e.idx = d.idx ∧ e.drv = v by rw [← HE.out]; exact ⟨rfl, rfl⟩)
    go_upto_if 71 with fail
    go_cut [11] (fun s11 wx => ∃ (Ab : Option Addr) (cb : Nat), s11 = .slice Ab lb.length cb ∧ Hid (Sty3 w w52 w2.heap.size w51.heap.size (some ⟨b, o, none⟩) cT L Ay cy Y A6 c6 Ab cb lb wx))
    case first =>
     by_cases hne : n = e.idx
     ·
      have hnb : (n == e.idx) = true := by simpa using hne
      have HBT := Lib.hid (show setA la kDriver e.drv = lb by rw [HBS.out, if_pos (hne.trans HEI.out.1), HEI.out.2])
      clear hne
      go_wp2_with fail
      refine (DSet_any A5 c5 la kDriver e.drv _ qb.heap.size (Nat.le_refl _) HS5qb.out HSO.out HLE.out (by decide) HDE.out.2.2.2.2.2.1).mono ?_
      rintro e w54 ⟨hbw54, v5, rfl, hown_⟩
      clear cn0 cn5
      have HSw54 := Lib.hid (show qb.heap.size ≤ w54.heap.size from hbw54.size)
      have HBw54 := Lib.hid (HBqb.out.trans (hbw54.mono HBqb.out.size))
      have tw54 := Lib.hid (tqb.out.kept (grown_none hbw54) (fun e => by cases e))
      have nw54 := Lib.hid (nqb.out.kept (grown_none hbw54) (fun e => by cases e))
      have yw54 := Lib.hid (yqb.out.kept (grown_none hbw54) (fun e => by cases e))
      have HBRw54 := Lib.hid (below_onto HBRqb.out hbw54)
      have HSLw54 := Lib.hid ((HSLqb.out).next (Nat.le_refl _) hbw54)
      have HSYw54 := Lib.hid ((HSYqb.out).next (Nat.le_refl _) hbw54)
      have HS5w54 := Lib.hid ((HS5qb.out).next (Nat.le_refl _) hbw54)
      have HS6w54 := Lib.hid ((HS6.out).next (Nat.le_refl _) hbw54)
      clear hbw54
      rw [HBT.out] at hown_
      obtain ⟨Ab, cb, rfl, hs_⟩ := hown_.sl
      have he5 := hs_.1; have he6 := hs_.2.1
      unfold maxLen at he6
      have HSB := Lib.hid hs_; clear hs_ hown_ hnb
      go_wp2_with fail
      go_meet
      exact ⟨Ab, cb, rfl, Lib.hid ⟨HBw54.out, HBRw54.out, tw54.out, yw54.out, HSLw54.out, HSYw54.out, HS6w54.out, HSB.out⟩⟩
     ·
      have hnb : (n == e.idx) = false := by simpa using hne
      have HBT := Lib.hid (show la = lb by rw [HBS.out, if_neg (fun h => hne (h.trans HEI.out.1.symm))])
      clear hne
      have HSB := Lib.hid (show Sl qb qb.heap.size A5 c5 lb from HBT.out ▸ HS5qb.out)
      rw [HBT.out] at he1 ⊢
      clear cn0 cn5
      go_wp2_with fail
      go_meet
      exact ⟨A5, c5, rfl, Lib.hid ⟨HBqb.out, HBRqb.out, tqb.out, yqb.out, HSLqb.out, HSYqb.out, HS6.out, HSB.out⟩⟩
    case rest =>
    obtain ⟨Ab, cb, rfl, HC3⟩ := hcut
    obtain ⟨hb_, hr_, ht_, hy_, hl_, hyl_, h6_, hs_⟩ := HC3.out
    clear HC3
    clear cn0 cn5
    obtain ⟨wp, hwp⟩ : ∃ z, z = wc := ⟨_, rfl⟩
    subst hwp
    have he5 := hs_.1; have he6 := hs_.2.1; have he7 := h6_.1; have he8 := h6_.2.1
    unfold maxLen at he6 he8
    have HBp := Lib.hid hb_; have HRp := Lib.hid hr_; have HTp := Lib.hid ht_; have HYp := Lib.hid hy_; have HLp := Lib.hid hl_; have HYLp := Lib.hid hyl_; have H6p := Lib.hid h6_; have HSBp := Lib.hid hs_
    clear hb_ hr_ ht_ hy_ hl_ hyl_ h6_ hs_
    go_upto_region 19 with fail
    refine wp_region_held_drew (S := fun w' => BoxL w' (w2.heap.size) [.slice (some ⟨b, o, none⟩) L.length cT] ∧ BoxL w' (w51.heap.size) [.slice Ay Y.length cy]) (by kernel_rfl) ⟨HTp.out.drew, HYp.out.drew⟩ (fun hS0 => ?_)
    obtain ⟨we, hwe⟩ : ∃ z, World.drew wp = z := ⟨_, rfl⟩
    rw [hwe] at hS0 ⊢
    have hb_ : Below wp.heap.size wp we := by rw [← hwe]; exact below_drewN_self _ _ 1
    clear hwe hS0
    have HSwe := Lib.hid (show wp.heap.size ≤ we.heap.size from hb_.size)
    have HBwe := Lib.hid (HBp.out.trans (hb_.mono HBp.out.size))
    have twe := Lib.hid (HTp.out.kept (grown_none hb_) (fun e => by cases e))
    have ywe := Lib.hid (HYp.out.kept (grown_none hb_) (fun e => by cases e))
    have HBRwe := Lib.hid (below_onto HRp.out hb_)
    have HSLwe := Lib.hid ((HLp.out).next (Nat.le_refl _) hb_)
    have HSYwe := Lib.hid ((HYLp.out).next (Nat.le_refl _) hb_)
    have HS6we := Lib.hid ((H6p.out).next (Nat.le_refl _) hb_)
    have HSBwe := Lib.hid ((HSBp.out).next (Nat.le_refl _) hb_)
    clear hb_
    refine wpAnyH_take (i := 0) (oi := ⟨some 76, _, _, _, _, _⟩) (v := .slice Ab lb.length cb) rfl (by kernel_rfl) (by kernel_rfl) (by kernel_rfl) (fun _ _ _ h => h) (Or.inl ⟨by rfl, fun w' hS => by go_simp⟩) ⟨twe.out, ywe.out⟩ ?_
    try simp only [Act.put, List.setIfInBounds_toArray, List.set_cons_zero, List.set_cons_succ]
    refine wpAnyH_take (i := 1) (oi := ⟨some 77, _, _, _, _, _⟩) (v := .slice A6 lb.length c6) rfl (by kernel_rfl) (by kernel_rfl) (by kernel_rfl) (fun _ _ _ h => h) (Or.inl ⟨by rfl, fun w' hS => by go_simp⟩) ⟨twe.out, ywe.out⟩ ?_
    try simp only [Act.put, List.setIfInBounds_toArray, List.set_cons_zero, List.set_cons_succ]
    refine wpAnyH_ready (rs := [2]) (by kernel_rfl) (by simp) ?_
    refine AllReadyH.cons (o := ⟨some 78, .call ⟨_, _, _⟩, _, _, _, _⟩) rfl (fun K hK => ?_) AllReadyH.nil
    go_simp
    go_at_call 19
    refine (SameAttrs_same Ab A6 cb c6 lb _ _ _ HSBwe.out HS6we.out).mono ?_
    rintro e' r1 ⟨rfl, kn_, hw_⟩
    have hb_ : Below we.heap.size we r1 := by rw [hw_]; exact below_drewN_self _ _ _
    clear hw_ kn_
    have HSr1 := Lib.hid (show we.heap.size ≤ r1.heap.size from hb_.size)
    have HBr1 := Lib.hid (HBwe.out.trans (hb_.mono HBwe.out.size))
    have tr1 := Lib.hid (twe.out.kept (grown_none hb_) (fun e => by cases e))
    have yr1 := Lib.hid (ywe.out.kept (grown_none hb_) (fun e => by cases e))
    have HBRr1 := Lib.hid (below_onto HBRwe.out hb_)
    have HSLr1 := Lib.hid ((HSLwe.out).next (Nat.le_refl _) hb_)
    have HSYr1 := Lib.hid ((HSYwe.out).next (Nat.le_refl _) hb_)
    have HS6r1 := Lib.hid ((HS6we.out).next (Nat.le_refl _) hb_)
    have HSBr1 := Lib.hid ((HSBwe.out).next (Nat.le_refl _) hb_)
    clear hb_
    refine hK.out _ _ ⟨tr1.out, yr1.out⟩ (fun _ => ?_)
    clear hK K
    try simp only [Act.put, List.setIfInBounds_toArray, List.set_cons_zero, List.set_cons_succ]
    refine wpAnyH_take (i := 3) (oi := ⟨some 79, _, _, _, _, _⟩) (v := .bool false) rfl (by kernel_rfl) (by kernel_rfl) (by kernel_rfl) (fun _ _ _ h => h) (Or.inl ⟨by rfl, fun w' hS => by go_simp⟩) ⟨tr1.out, yr1.out⟩ ?_
    try simp only [Act.put, List.setIfInBounds_toArray, List.set_cons_zero, List.set_cons_succ]
    refine wpAnyH_take (i := 4) (oi := ⟨some 80, _, _, _, _, _⟩) (v := .bool false) rfl (by kernel_rfl) (by kernel_rfl) (by kernel_rfl) (fun _ _ _ h => h) (Or.inl ⟨by rfl, fun w' hS => by go_simp⟩) ⟨tr1.out, yr1.out⟩ ?_
    try simp only [Act.put, List.setIfInBounds_toArray, List.set_cons_zero, List.set_cons_succ]
    refine wpAnyH_take (i := 5) (oi := ⟨some 81, _, _, _, _, _⟩) (v := .agg #[.slice (some ⟨b, o, none⟩) L.length cT]) rfl (by kernel_rfl) (by kernel_rfl) (by kernel_rfl) (fun _ _ _ h => h) (Or.inl ⟨by rfl, fun w' hS => by (have u0_ := hS.1.1 0 _ rfl; go_simp)⟩) ⟨tr1.out, yr1.out⟩ ?_
    try simp only [Act.put, List.setIfInBounds_toArray, List.set_cons_zero, List.set_cons_succ]
    refine wpAnyH_take (i := 6) (oi := ⟨some 82, _, _, _, _, _⟩) (v := .int .i64 n) rfl (by kernel_rfl) (by kernel_rfl) (by kernel_rfl) (fun _ _ _ h => h) (Or.inl ⟨by rfl, fun w' hS => by go_simp⟩) ⟨tr1.out, yr1.out⟩ ?_
    try simp only [Act.put, List.setIfInBounds_toArray, List.set_cons_zero, List.set_cons_succ]
    refine wpAnyH_take (i := 8) (oi := ⟨some 84, _, _, _, _, _⟩) (v := .agg #[.slice Ay Y.length cy]) rfl (by kernel_rfl) (by kernel_rfl) (by kernel_rfl) (fun _ _ _ h => h) (Or.inl ⟨by rfl, fun w' hS => by (have u0_ := hS.2.1 0 _ rfl; go_simp)⟩) ⟨tr1.out, yr1.out⟩ ?_
    try simp only [Act.put, List.setIfInBounds_toArray, List.set_cons_zero, List.set_cons_succ]
    refine wpAnyH_take (i := 9) (oi := ⟨some 85, _, _, _, _, _⟩) (v := .int .i64 n) rfl (by kernel_rfl) (by kernel_rfl) (by kernel_rfl) (fun _ _ _ h => h) (Or.inl ⟨by rfl, fun w' hS => by go_simp⟩) ⟨tr1.out, yr1.out⟩ ?_
    try simp only [Act.put, List.setIfInBounds_toArray, List.set_cons_zero, List.set_cons_succ]
    refine wpAnyH_ready (rs := [7]) (by kernel_rfl) (by simp) ?_
    refine AllReadyH.cons (o := ⟨some 83, .call ⟨_, _, _⟩, _, _, _, _⟩) rfl (fun K hK => ?_) AllReadyH.nil
    go_simp
    go_at_call 12
    refine (BPath_any (some ⟨b, o, none⟩) cT L n _ _ (Nat.le_refl _) HSLr1.out HVT.out (H7.out.below HBr1.out) HNX.out (HU.out.below HBr1.out)).mono ?_
    rintro e' r2lp ⟨hb_, A8, c8, rfl, hs_⟩
    rw [HLP.out] at hs_ ⊢
    have HSr2lp := Lib.hid (show r1.heap.size ≤ r2lp.heap.size from hb_.size)
    have HBr2lp := Lib.hid (HBr1.out.trans (hb_.mono HBr1.out.size))
    have tr2lp := Lib.hid (tr1.out.kept (grown_none hb_) (fun e => by cases e))
    have yr2lp := Lib.hid (yr1.out.kept (grown_none hb_) (fun e => by cases e))
    have HBRr2lp := Lib.hid (below_onto HBRr1.out hb_)
    have HSLr2lp := Lib.hid ((HSLr1.out).next (Nat.le_refl _) hb_)
    have HSYr2lp := Lib.hid ((HSYr1.out).next (Nat.le_refl _) hb_)
    have HS8lp := Lib.hid hs_; clear hs_ hb_
    refine hK.out _ _ ⟨tr2lp.out, yr2lp.out⟩ (fun _ => ?_)
    clear hK K
    try simp only [Act.put, List.setIfInBounds_toArray, List.set_cons_zero, List.set_cons_succ]
    refine wpAnyH_ready (rs := [10]) (by kernel_rfl) (by simp) ?_
    refine AllReadyH.cons (o := ⟨some 86, .call ⟨_, _, _⟩, _, _, _, _⟩) rfl (fun K hK => ?_) AllReadyH.nil
    go_simp
    go_at_call 12
    refine (BPath_any Ay cy Y n _ _ (Nat.le_refl _) HSYr2lp.out HVY.out (H7.out.below HBr2lp.out) HNX.out (HU.out.below HBr2lp.out)).mono ?_
    rintro e' r3lp ⟨hb_, A9, c9, rfl, hs_⟩
    rw [HLP2.out] at hs_ ⊢
    have HSr3lp := Lib.hid (show r2lp.heap.size ≤ r3lp.heap.size from hb_.size)
    have HBr3lp := Lib.hid (HBr2lp.out.trans (hb_.mono HBr2lp.out.size))
    have tr3lp := Lib.hid (tr2lp.out.kept (grown_none hb_) (fun e => by cases e))
    have yr3lp := Lib.hid (yr2lp.out.kept (grown_none hb_) (fun e => by cases e))
    have HBRr3lp := Lib.hid (below_onto HBRr2lp.out hb_)
    have HSLr3lp := Lib.hid ((HSLr2lp.out).next (Nat.le_refl _) hb_)
    have HSYr3lp := Lib.hid ((HSYr2lp.out).next (Nat.le_refl _) hb_)
    have HS8lpr3lp := Lib.hid ((HS8lp.out).next (Nat.le_refl _) hb_)
    have HS9lp := Lib.hid hs_; clear hs_ hb_
    refine hK.out _ _ ⟨tr3lp.out, yr3lp.out⟩ (fun _ => ?_)
    clear hK K
    try simp only [Act.put, List.setIfInBounds_toArray, List.set_cons_zero, List.set_cons_succ]
    refine wpAnyH_ready (rs := [11]) (by kernel_rfl) (by simp) ?_
    refine AllReadyH.cons (o := ⟨some 87, .call ⟨_, _, _⟩, _, _, _, _⟩) rfl (fun K hK => ?_) AllReadyH.nil
    go_simp
    go_at_call 19
    refine (SameAttrs_same A8 A9 c8 c9 lp _ _ _ HS8lpr3lp.out HS9lp.out).mono ?_
    rintro e' r4lp ⟨rfl, kn_, hw_⟩
    have hb_ : Below r3lp.heap.size r3lp r4lp := by rw [hw_]; exact below_drewN_self _ _ _
    clear hw_ kn_
    have HSr4lp := Lib.hid (show r3lp.heap.size ≤ r4lp.heap.size from hb_.size)
    have HBr4lp := Lib.hid (HBr3lp.out.trans (hb_.mono HBr3lp.out.size))
    have tr4lp := Lib.hid (tr3lp.out.kept (grown_none hb_) (fun e => by cases e))
    have yr4lp := Lib.hid (yr3lp.out.kept (grown_none hb_) (fun e => by cases e))
    have HBRr4lp := Lib.hid (below_onto HBRr3lp.out hb_)
    have HSLr4lp := Lib.hid ((HSLr3lp.out).next (Nat.le_refl _) hb_)
    have HSYr4lp := Lib.hid ((HSYr3lp.out).next (Nat.le_refl _) hb_)
    have HS8lpr4lp := Lib.hid ((HS8lpr3lp.out).next (Nat.le_refl _) hb_)
    have HS9lpr4lp := Lib.hid ((HS9lp.out).next (Nat.le_refl _) hb_)
    clear hb_
    refine hK.out _ _ ⟨tr4lp.out, yr4lp.out⟩ (fun _ => ?_)
    clear hK K
    try simp only [Act.put, List.setIfInBounds_toArray, List.set_cons_zero, List.set_cons_succ]
    refine wpAnyH_take (i := 12) (oi := ⟨some 88, _, _, _, _, _⟩) (v := .bool false) rfl (by kernel_rfl) (by kernel_rfl) (by kernel_rfl) (fun _ _ _ h => h) (Or.inl ⟨by rfl, fun w' hS => by go_simp⟩) ⟨tr4lp.out, yr4lp.out⟩ ?_
    try simp only [Act.put, List.setIfInBounds_toArray, List.set_cons_zero, List.set_cons_succ]
    refine wpAnyH_take (i := 13) (oi := ⟨some 89, _, _, _, _, _⟩) (v := .bool false) rfl (by kernel_rfl) (by kernel_rfl) (by kernel_rfl) (fun _ _ _ h => h) (Or.inl ⟨by rfl, fun w' hS => by go_simp⟩) ⟨tr4lp.out, yr4lp.out⟩ ?_
    try simp only [Act.put, List.setIfInBounds_toArray, List.set_cons_zero, List.set_cons_succ]
    refine wpAnyH_take (i := 14) (oi := ⟨some 90, _, _, _, _, _⟩) (v := .bool false) rfl (by kernel_rfl) (by kernel_rfl) (by kernel_rfl) (fun _ _ _ h => h) (Or.inl ⟨by rfl, fun w' hS => by go_simp⟩) ⟨tr4lp.out, yr4lp.out⟩ ?_
    try simp only [Act.put, List.setIfInBounds_toArray, List.set_cons_zero, List.set_cons_succ]
    refine wpAnyH_take (i := 15) (oi := ⟨some 91, _, _, _, _, _⟩) (v := .agg #[.slice (some ⟨b, o, none⟩) L.length cT]) rfl (by kernel_rfl) (by kernel_rfl) (by kernel_rfl) (fun _ _ _ h => h) (Or.inl ⟨by rfl, fun w' hS => by (have u0_ := hS.1.1 0 _ rfl; go_simp)⟩) ⟨tr4lp.out, yr4lp.out⟩ ?_
    try simp only [Act.put, List.setIfInBounds_toArray, List.set_cons_zero, List.set_cons_succ]
    refine wpAnyH_take (i := 16) (oi := ⟨some 92, _, _, _, _, _⟩) (v := .int .i64 n) rfl (by kernel_rfl) (by kernel_rfl) (by kernel_rfl) (fun _ _ _ h => h) (Or.inl ⟨by rfl, fun w' hS => by go_simp⟩) ⟨tr4lp.out, yr4lp.out⟩ ?_
    try simp only [Act.put, List.setIfInBounds_toArray, List.set_cons_zero, List.set_cons_succ]
    refine wpAnyH_take (i := 18) (oi := ⟨some 94, _, _, _, _, _⟩) (v := .agg #[.slice Ay Y.length cy]) rfl (by kernel_rfl) (by kernel_rfl) (by kernel_rfl) (fun _ _ _ h => h) (Or.inl ⟨by rfl, fun w' hS => by (have u0_ := hS.2.1 0 _ rfl; go_simp)⟩) ⟨tr4lp.out, yr4lp.out⟩ ?_
    try simp only [Act.put, List.setIfInBounds_toArray, List.set_cons_zero, List.set_cons_succ]
    refine wpAnyH_take (i := 19) (oi := ⟨some 95, _, _, _, _, _⟩) (v := .int .i64 n) rfl (by kernel_rfl) (by kernel_rfl) (by kernel_rfl) (fun _ _ _ h => h) (Or.inl ⟨by rfl, fun w' hS => by go_simp⟩) ⟨tr4lp.out, yr4lp.out⟩ ?_
    try simp only [Act.put, List.setIfInBounds_toArray, List.set_cons_zero, List.set_cons_succ]
    refine wpAnyH_ready (rs := [17]) (by kernel_rfl) (by simp) ?_
    refine AllReadyH.cons (o := ⟨some 93, .call ⟨_, _, _⟩, _, _, _, _⟩) rfl (fun K hK => ?_) AllReadyH.nil
    go_simp
    go_at_call 21
    refine (Content_any (some ⟨b, o, none⟩) cT L n _ _ (Nat.le_refl _) HSLr4lp.out HVT.out (H7.out.below HBr4lp.out) (HOK.out.next HBr4lp.out) HNX.out).mono ?_
    rintro e' r2lc ⟨hb_, A8, c8, rfl, hs_⟩
    rw [HLC.out] at hs_ ⊢
    have HSr2lc := Lib.hid (show r4lp.heap.size ≤ r2lc.heap.size from hb_.size)
    have HBr2lc := Lib.hid (HBr4lp.out.trans (hb_.mono HBr4lp.out.size))
    have tr2lc := Lib.hid (tr4lp.out.kept (grown_none hb_) (fun e => by cases e))
    have yr2lc := Lib.hid (yr4lp.out.kept (grown_none hb_) (fun e => by cases e))
    have HBRr2lc := Lib.hid (below_onto HBRr4lp.out hb_)
    have HSLr2lc := Lib.hid ((HSLr4lp.out).next (Nat.le_refl _) hb_)
    have HSYr2lc := Lib.hid ((HSYr4lp.out).next (Nat.le_refl _) hb_)
    have HS8lc := Lib.hid hs_; clear hs_ hb_
    refine hK.out _ _ ⟨tr2lc.out, yr2lc.out⟩ (fun _ => ?_)
    clear hK K
    try simp only [Act.put, List.setIfInBounds_toArray, List.set_cons_zero, List.set_cons_succ]
    refine wpAnyH_ready (rs := [20]) (by kernel_rfl) (by simp) ?_
    refine AllReadyH.cons (o := ⟨some 96, .call ⟨_, _, _⟩, _, _, _, _⟩) rfl (fun K hK => ?_) AllReadyH.nil
    go_simp
    go_at_call 21
    refine (Content_any Ay cy Y n _ _ (Nat.le_refl _) HSYr2lc.out HVY.out (H7.out.below HBr2lc.out) (HOK.out.next HBr2lc.out) HNX.out).mono ?_
    rintro e' r3lc ⟨hb_, A9, c9, rfl, hs_⟩
    rw [HLC2.out] at hs_ ⊢
    have HSr3lc := Lib.hid (show r2lc.heap.size ≤ r3lc.heap.size from hb_.size)
    have HBr3lc := Lib.hid (HBr2lc.out.trans (hb_.mono HBr2lc.out.size))
    have tr3lc := Lib.hid (tr2lc.out.kept (grown_none hb_) (fun e => by cases e))
    have yr3lc := Lib.hid (yr2lc.out.kept (grown_none hb_) (fun e => by cases e))
    have HBRr3lc := Lib.hid (below_onto HBRr2lc.out hb_)
    have HSLr3lc := Lib.hid ((HSLr2lc.out).next (Nat.le_refl _) hb_)
    have HSYr3lc := Lib.hid ((HSYr2lc.out).next (Nat.le_refl _) hb_)
    have HS8lcr3lc := Lib.hid ((HS8lc.out).next (Nat.le_refl _) hb_)
    have HS9lc := Lib.hid hs_; clear hs_ hb_
    refine hK.out _ _ ⟨tr3lc.out, yr3lc.out⟩ (fun _ => ?_)
    clear hK K
    try simp only [Act.put, List.setIfInBounds_toArray, List.set_cons_zero, List.set_cons_succ]
    refine wpAnyH_ready (rs := [21]) (by kernel_rfl) (by simp) ?_
    refine AllReadyH.cons (o := ⟨some 97, .call ⟨_, _, _⟩, _, _, _, _⟩) rfl (fun K hK => ?_) AllReadyH.nil
    go_simp
    go_at_call 19
    refine (SameAttrs_same A8 A9 c8 c9 lc _ _ _ HS8lcr3lc.out HS9lc.out).mono ?_
    rintro e' r4lc ⟨rfl, kn_, hw_⟩
    have hb_ : Below r3lc.heap.size r3lc r4lc := by rw [hw_]; exact below_drewN_self _ _ _
    clear hw_ kn_
    have HSr4lc := Lib.hid (show r3lc.heap.size ≤ r4lc.heap.size from hb_.size)
    have HBr4lc := Lib.hid (HBr3lc.out.trans (hb_.mono HBr3lc.out.size))
    have tr4lc := Lib.hid (tr3lc.out.kept (grown_none hb_) (fun e => by cases e))
    have yr4lc := Lib.hid (yr3lc.out.kept (grown_none hb_) (fun e => by cases e))
    have HBRr4lc := Lib.hid (below_onto HBRr3lc.out hb_)
    have HSLr4lc := Lib.hid ((HSLr3lc.out).next (Nat.le_refl _) hb_)
    have HSYr4lc := Lib.hid ((HSYr3lc.out).next (Nat.le_refl _) hb_)
    have HS8lcr4lc := Lib.hid ((HS8lcr3lc.out).next (Nat.le_refl _) hb_)
    have HS9lcr4lc := Lib.hid ((HS9lc.out).next (Nat.le_refl _) hb_)
    clear hb_
    refine hK.out _ _ ⟨tr4lc.out, yr4lc.out⟩ (fun _ => ?_)
    clear hK K
    try simp only [Act.put, List.setIfInBounds_toArray, List.set_cons_zero, List.set_cons_succ]
    refine wpAnyH_take (i := 22) (oi := ⟨some 98, _, _, _, _, _⟩) (v := .bool false) rfl (by kernel_rfl) (by kernel_rfl) (by kernel_rfl) (fun _ _ _ h => h) (Or.inl ⟨by rfl, fun w' hS => by go_simp⟩) ⟨tr4lc.out, yr4lc.out⟩ ?_
    try simp only [Act.put, List.setIfInBounds_toArray, List.set_cons_zero, List.set_cons_succ]
    refine wpAnyH_take (i := 23) (oi := ⟨some 99, _, _, _, _, _⟩) (v := .bool false) rfl (by kernel_rfl) (by kernel_rfl) (by kernel_rfl) (fun _ _ _ h => h) (Or.inl ⟨by rfl, fun w' hS => by go_simp⟩) ⟨tr4lc.out, yr4lc.out⟩ ?_
    try simp only [Act.put, List.setIfInBounds_toArray, List.set_cons_zero, List.set_cons_succ]
    refine wpAnyH_take (i := 24) (oi := ⟨some 100, _, _, _, _, _⟩) (v := .bool false) rfl (by kernel_rfl) (by kernel_rfl) (by kernel_rfl) (fun _ _ _ h => h) (Or.inl ⟨by rfl, fun w' hS => by go_simp⟩) ⟨tr4lc.out, yr4lc.out⟩ ?_
    try simp only [Act.put, List.setIfInBounds_toArray, List.set_cons_zero, List.set_cons_succ]
    refine wpAnyH_take (i := 25) (oi := ⟨some 101, _, _, _, _, _⟩) (v := .agg #[.slice (some ⟨b, o, none⟩) L.length cT]) rfl (by kernel_rfl) (by kernel_rfl) (by kernel_rfl) (fun _ _ _ h => h) (Or.inl ⟨by rfl, fun w' hS => by (have u0_ := hS.1.1 0 _ rfl; go_simp)⟩) ⟨tr4lc.out, yr4lc.out⟩ ?_
    try simp only [Act.put, List.setIfInBounds_toArray, List.set_cons_zero, List.set_cons_succ]
    refine wpAnyH_take (i := 26) (oi := ⟨some 102, _, _, _, _, _⟩) (v := .int .i64 n) rfl (by kernel_rfl) (by kernel_rfl) (by kernel_rfl) (fun _ _ _ h => h) (Or.inl ⟨by rfl, fun w' hS => by go_simp⟩) ⟨tr4lc.out, yr4lc.out⟩ ?_
    try simp only [Act.put, List.setIfInBounds_toArray, List.set_cons_zero, List.set_cons_succ]
    refine wpAnyH_take (i := 28) (oi := ⟨some 104, _, _, _, _, _⟩) (v := .agg #[.slice Ay Y.length cy]) rfl (by kernel_rfl) (by kernel_rfl) (by kernel_rfl) (fun _ _ _ h => h) (Or.inl ⟨by rfl, fun w' hS => by (have u0_ := hS.2.1 0 _ rfl; go_simp)⟩) ⟨tr4lc.out, yr4lc.out⟩ ?_
    try simp only [Act.put, List.setIfInBounds_toArray, List.set_cons_zero, List.set_cons_succ]
    refine wpAnyH_take (i := 29) (oi := ⟨some 105, _, _, _, _, _⟩) (v := .int .i64 n) rfl (by kernel_rfl) (by kernel_rfl) (by kernel_rfl) (fun _ _ _ h => h) (Or.inl ⟨by rfl, fun w' hS => by go_simp⟩) ⟨tr4lc.out, yr4lc.out⟩ ?_
    try simp only [Act.put, List.setIfInBounds_toArray, List.set_cons_zero, List.set_cons_succ]
    refine wpAnyH_ready (rs := [27]) (by kernel_rfl) (by simp) ?_
    refine AllReadyH.cons (o := ⟨some 103, .call ⟨_, _, _⟩, _, _, _, _⟩) rfl (fun K hK => ?_) AllReadyH.nil
    go_simp
    go_at_call 22
    refine (Net_any (some ⟨b, o, none⟩) cT L n _ _ (Nat.le_refl _) HSLr4lc.out HVT.out (H7.out.below HBr4lc.out) (HOK.out.next HBr4lc.out)).mono ?_
    rintro e' r2lt ⟨hb_, A8, c8, rfl, hs_⟩
    rw [HLT.out] at hs_ ⊢
    have HSr2lt := Lib.hid (show r4lc.heap.size ≤ r2lt.heap.size from hb_.size)
    have HBr2lt := Lib.hid (HBr4lc.out.trans (hb_.mono HBr4lc.out.size))
    have tr2lt := Lib.hid (tr4lc.out.kept (grown_none hb_) (fun e => by cases e))
    have yr2lt := Lib.hid (yr4lc.out.kept (grown_none hb_) (fun e => by cases e))
    have HBRr2lt := Lib.hid (below_onto HBRr4lc.out hb_)
    have HSLr2lt := Lib.hid ((HSLr4lc.out).next (Nat.le_refl _) hb_)
    have HSYr2lt := Lib.hid ((HSYr4lc.out).next (Nat.le_refl _) hb_)
    have HS8lt := Lib.hid hs_; clear hs_ hb_
    refine hK.out _ _ ⟨tr2lt.out, yr2lt.out⟩ (fun _ => ?_)
    clear hK K
    try simp only [Act.put, List.setIfInBounds_toArray, List.set_cons_zero, List.set_cons_succ]
    refine wpAnyH_ready (rs := [30]) (by kernel_rfl) (by simp) ?_
    refine AllReadyH.cons (o := ⟨some 106, .call ⟨_, _, _⟩, _, _, _, _⟩) rfl (fun K hK => ?_) AllReadyH.nil
    go_simp
    go_at_call 22
    refine (Net_any Ay cy Y n _ _ (Nat.le_refl _) HSYr2lt.out HVY.out (H7.out.below HBr2lt.out) (HOK.out.next HBr2lt.out)).mono ?_
    rintro e' r3lt ⟨hb_, A9, c9, rfl, hs_⟩
    rw [HLT2.out] at hs_ ⊢
    have HSr3lt := Lib.hid (show r2lt.heap.size ≤ r3lt.heap.size from hb_.size)
    have HBr3lt := Lib.hid (HBr2lt.out.trans (hb_.mono HBr2lt.out.size))
    have tr3lt := Lib.hid (tr2lt.out.kept (grown_none hb_) (fun e => by cases e))
    have yr3lt := Lib.hid (yr2lt.out.kept (grown_none hb_) (fun e => by cases e))
    have HBRr3lt := Lib.hid (below_onto HBRr2lt.out hb_)
    have HSLr3lt := Lib.hid ((HSLr2lt.out).next (Nat.le_refl _) hb_)
    have HSYr3lt := Lib.hid ((HSYr2lt.out).next (Nat.le_refl _) hb_)
    have HS8ltr3lt := Lib.hid ((HS8lt.out).next (Nat.le_refl _) hb_)
    have HS9lt := Lib.hid hs_; clear hs_ hb_
    refine hK.out _ _ ⟨tr3lt.out, yr3lt.out⟩ (fun _ => ?_)
    clear hK K
    try simp only [Act.put, List.setIfInBounds_toArray, List.set_cons_zero, List.set_cons_succ]
    refine wpAnyH_ready (rs := [31]) (by kernel_rfl) (by simp) ?_
    refine AllReadyH.cons (o := ⟨some 107, .call ⟨_, _, _⟩, _, _, _, _⟩) rfl (fun K hK => ?_) AllReadyH.nil
    go_simp
    go_at_call 19
    refine (SameAttrs_same A8 A9 c8 c9 lt _ _ _ HS8ltr3lt.out HS9lt.out).mono ?_
    rintro e' r4lt ⟨rfl, kn_, hw_⟩
    have hb_ : Below r3lt.heap.size r3lt r4lt := by rw [hw_]; exact below_drewN_self _ _ _
    clear hw_ kn_
    have HSr4lt := Lib.hid (show r3lt.heap.size ≤ r4lt.heap.size from hb_.size)
    have HBr4lt := Lib.hid (HBr3lt.out.trans (hb_.mono HBr3lt.out.size))
    have tr4lt := Lib.hid (tr3lt.out.kept (grown_none hb_) (fun e => by cases e))
    have yr4lt := Lib.hid (yr3lt.out.kept (grown_none hb_) (fun e => by cases e))
    have HBRr4lt := Lib.hid (below_onto HBRr3lt.out hb_)
    have HSLr4lt := Lib.hid ((HSLr3lt.out).next (Nat.le_refl _) hb_)
    have HSYr4lt := Lib.hid ((HSYr3lt.out).next (Nat.le_refl _) hb_)
    have HS8ltr4lt := Lib.hid ((HS8ltr3lt.out).next (Nat.le_refl _) hb_)
    have HS9ltr4lt := Lib.hid ((HS9lt.out).next (Nat.le_refl _) hb_)
    clear hb_
    refine hK.out _ _ ⟨tr4lt.out, yr4lt.out⟩ (fun _ => ?_)
    clear hK K
    try simp only [Act.put, List.setIfInBounds_toArray, List.set_cons_zero, List.set_cons_succ]
    refine wpAnyH_take (i := 32) (oi := ⟨some 108, _, _, _, _, _⟩) (v := .bool false) rfl (by kernel_rfl) (by kernel_rfl) (by kernel_rfl) (fun _ _ _ h => h) (Or.inl ⟨by rfl, fun w' hS => by go_simp⟩) ⟨tr4lt.out, yr4lt.out⟩ ?_
    try simp only [Act.put, List.setIfInBounds_toArray, List.set_cons_zero, List.set_cons_succ]
    refine wpAnyH_take (i := 33) (oi := ⟨some 109, _, _, _, _, _⟩) (v := .bool false) rfl (by kernel_rfl) (by kernel_rfl) (by kernel_rfl) (fun _ _ _ h => h) (Or.inl ⟨by rfl, fun w' hS => by go_simp⟩) ⟨tr4lt.out, yr4lt.out⟩ ?_
    try simp only [Act.put, List.setIfInBounds_toArray, List.set_cons_zero, List.set_cons_succ]
    refine wpAnyH_done (by kernel_rfl) ?_ _
    go_wp2
    go_roundw
    case rel => exact ⟨k + 1, by have := HLT_.out; omega, by go_num, HBRr4lt⟩
    case measure => have := HLT_.out; simp [intOf]; omega
   ·
    have i1 : ¬ (k : Int) < (L.length : Int) := by omega
    go_wp2_with fail
    refine (known_any _ (HOK.out.next HBwr.out) (H7.out.below HBwr.out) (Ok8.below HK8.out HBwr.out) (HU.out.below HBwr.out)).mono ?_
    rintro e w55 ⟨rfl, hbw55⟩
    clear ct0
    have HSw55 := Lib.hid (show wr.heap.size ≤ w55.heap.size from hbw55.size)
    have HBw55 := Lib.hid (HBwr.out.trans (hbw55.mono HBwr.out.size))
    have tw55 := Lib.hid (twr.out.kept (grown_none hbw55) (fun e => by cases e))
    have nw55 := Lib.hid (nwr.out.kept (grown_none hbw55) (fun e => by cases e))
    have yw55 := Lib.hid (ywr.out.kept (grown_none hbw55) (fun e => by cases e))
    have HBRw55 := Lib.hid (below_onto HBR.out hbw55)
    have HSLw55 := Lib.hid ((HSLr.out).next (Nat.le_refl _) hbw55)
    have HSYw55 := Lib.hid ((HSYr.out).next (Nat.le_refl _) hbw55)
    clear hbw55
    go_wp2
    go_ret
    exact ⟨by try rfl, HBw55.out⟩
end Go.Proofs.YtjgllhlilbchpaaGreatDoor
namespace Go.Proofs.YtjgllhlilbchpaaGreatDoor
open Go.RowKit Go.Cold
namespace cBuiltinStays
open Go.ChangeShapes Go.WideShapes Go.ChangeAt
open Go.ChangeMaps (open_string)
set_option maxRecDepth 100000
theorem reads (os : Os) {H : Type} (enc : TypeId × Value → H) : ∃ places, DataW.whole enc Tryz.prog ((World.laidAll Tryz.prog os Rows.builtinStaysRow.laid).forCall (fun _ _ => 0) ⟨#[], #[.slice none 0 0], []⟩).memory Tryz.f9.params.toList Rows.builtinStaysSpec.vars false (#[.slice none 0 0] : Array Value).toList 8 = some ([.nil], [], places) :=
 ⟨[], by kernel_rfl⟩
theorem lifted (os : Os) (started : os.Started) (H : Type) (enc : TypeId × Value → H) (F : Stop.Interp) :
  ReturnsInHanded {} Tryz.checked os 9 .any ((OpenSpec.ofChange Rows.builtinStaysSpec).preRow enc Tryz.prog Tryz.f9 Rows.builtinStaysRow.domain false Rows.builtinStaysRow.laid) (((OpenSpec.ofChange Rows.builtinStaysSpec).at F).post enc Tryz.prog Tryz.f9 false true false false) := by
 obtain ⟨places, hx⟩ := reads os enc
 refine law_lifted os started H enc F (by kernel_rfl) Tryz.func9 #[.slice none 0 0] (World.shaped_of_ZipB (by kernel_rfl) (by kernel_rfl)) (by kernel_rfl)
  (OpenSpec.preRow_of_cond 8 hx (by kernel_rfl) (fun k hk => by cases hk) (by kernel_rfl) (laidMet_laidAll _ (by kernel_rfl) (by kernel_rfl))) rfl rfl
  (fun ds hl => by
   rw [Tryz.params9] at hl
   match ds, hl with
   | [d0], _ => rfl) (by kernel_rfl) ?_
 intro W base args ds ps hval hA hlt hz hsh hlaid
 rw [Tryz.params9] at hA hval
 obtain ⟨v0, vs0, d0, ds0, p0, q0, hargs, rfl, rfl, h0, r0⟩ := trodAll_cons hA
 obtain ⟨rfl, rfl, rfl⟩ := trodAll_nil r0
 obtain rfl : args = #[v0] := by cases args; simp_all
 obtain ⟨A0, c0, xs0, rfl, s0⟩ := open_nums Tryz.underlying22 Tryz.underlying3 (by kernel_rfl) (hval 0 22 v0 rfl rfl) h0 (fun x hx => hlt x (List.mem_append_left _ hx))
 exact lawStays11_any A0 c0 xs0 W (show Ok W from Tryz.laysM146.s1_3 W hsh) (okb8 hlaid).1 (okb8 hlaid).2 s0
theorem said : Rows.BuiltinStaysSaid :=
 OpenClaim.holds_of_cond 9 Tryz.f9 rfl rfl rfl rfl rfl rfl rfl ⟨rfl, rfl, rfl, rfl, rfl⟩ rfl rfl rfl rfl rfl (by kernel_rfl) Tryz.func9 (by kernel_rfl)
  (of_decide_eq_true (by kernel_rfl)) (by unfold Func.isWrapper; first | (rw [if_pos (by decide +kernel)]; kernel_rfl) | (rw [if_neg (by decide +kernel)]; exact ⟨rfl, rfl⟩))
  (fun os started H enc _ F => by rw [OpenClaim.pre_eq_preRow]; exact lifted os started H enc F)
theorem plain (f : FuncId) (fn : Func) (hf : Tryz.pinned.checked.prog.funcNamed Rows.builtinStaysRow.func = some f) (hfn : Tryz.pinned.checked.prog.funcs[f]? = some fn) :
  true = Tryz.pinned.checked.prog.looks [] ∧ ∀ (j : Nat) t, fn.params[j]? = some t → Tryz.pinned.checked.prog.wantsStandIn t = false := by
 obtain rfl : f = 9 := Option.some.inj ((show Tryz.prog.funcNamed Rows.builtinStaysRow.func = some 9 by kernel_rfl).symm.trans hf) |>.symm
 obtain rfl : fn = Tryz.f9 := (Option.some.inj (Tryz.func9.symm.trans hfn)).symm
 refine ⟨by kernel_rfl, fun j t ht => ?_⟩
 rw [Tryz.params9] at ht
 have hm : t ∈ [22] := by simpa using Array.mem_of_getElem? ht
 have hall : ([22].all fun u => !Tryz.prog.wantsStandIn u) = true := by kernel_rfl
 exact (show Tryz.prog.wantsStandIn t = false by simpa using List.all_eq_true.1 hall t hm)
theorem card : Rows.BuiltinStaysCardSaid :=
 Claim7.holds_tied_plain_at .later [] _ _ _ _ said (fun _ h => by cases h) (by kernel_rfl) (fun _ h => by cases h) builtinStays_row_tie rfl ⟨rfl, rfl⟩ (by kernel_rfl) rfl plain (by kernel_rfl)
end cBuiltinStays
end Go.Proofs.YtjgllhlilbchpaaGreatDoor
