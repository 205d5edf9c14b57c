/-
  AssignOrder: row and card.
 Conditions: those of the given row and card (the listed variables of the library hold what the text lays), nothing else.
-/
import Derived.Test.YtjpoljlgkgmdkaaGreatDoorWVI
import Derived.Test.YtjpoljlgkgmdkaaGreatDoorWVD
import Derived.Test.YtjpoljlgkgmdkaaGreatDoorWB
import Derived.Test.YtjpoljlgkgmdkaaGreatDoorWVJ
import Derived.Test.YtjpoljlgkgmdkaaGreatDoorWW
import Derived.ShutString
set_option linter.unusedSimpArgs false
set_option linter.unusedVariables false
namespace Go.Cold
open Go Go.RowKit Go.Proofs.YtjpoljlgkgmdkaaGreatDoor
theorem DSl.fr {N : Nat → Prop} {w : World} {B : Nat} {d : Draft} {h : DH} (k : DSl w B d h) (hB : B ≤ w.heap.size) (hN : ∀ x, N x → B ≤ x) : DFr N w d h :=
 have f {α : Type} [RepS α] {A : Option Addr} {c : Nat} {l : List α} (q : Sl w B A c l) : FreeS N w A c l := SlS.free (SlS_iff.1 q) (fun x hx => ⟨Nat.lt_of_lt_of_le hx hB, fun hn => by have := hN x hn; have h2 : x < B := hx; omega⟩)
 ⟨f k.1, f k.2.1, f k.2.2.1, f k.2.2.2.1, f k.2.2.2.2.1, f k.2.2.2.2.2.1, k.2.2.2.2.2.2⟩
def OrdS (wb wx : World) (D : Draft) (g : Nat) (h : DH) (xb : Nat) : Prop := Below wb.heap.size wb wx ∧ BoxL wx g (drV D h) ∧ DFr (fun y => y = xb) wx D h ∧ wb.heap.size ≤ g
theorem ord_parts {key : Int} (hk : key = 7 ∨ key = 16 ∨ key = 21) {a b : ByteArray} (ha : a ∈ ordA) (hb : b ∈ ordB) : ordOne key b a = ordOne key a b ∧ (key ≠ 21 → (∀ x ∈ ordAll key a b, x ≠ a) ∧ decide ((ordAll key a b).length = 0) = decide (a = b)) := by
 have h := ord_ok key (by simp; exact hk) a ha b hb
 unfold ordOk at h
 rw [Bool.and_eq_true] at h
 refine ⟨(of_decide_eq_true h.1).symm, fun hn => ?_⟩
 have h2 := h.2
 rw [decide_eq_false hn, Bool.false_or, Bool.and_eq_true, List.all_eq_true] at h2
 exact ⟨fun x hx => of_decide_eq_true (h2.1 x hx), by simpa using h2.2⟩
theorem ordA_small : ∀ a ∈ ordA, a.size ≤ 1000 := by decide +kernel
theorem ordB_small : ∀ a ∈ ordB, a.size ≤ 1000 := by decide +kernel
end Go.Cold
namespace Go.Proofs.YtjpoljlgkgmdkaaGreatDoor
open Go.RowKit Go.Cold
set_option maxRecDepth 100000 in
set_option maxHeartbeats 8000000 in
theorem lawOrder13_any (A : Option Addr) (c : Nat) (xs : List Int) (w : World) (hok : Ok w) (h7 : Ok7 w) (hx : Sl w w.heap.size A c xs) :
  Calls Tryz.prog 3 #[.slice A xs.length c] w fun e w' => e = .returned (.bool true) ∧ Below w.heap.size w w' := by
 have HOK := Lib.hid hok; have H7 := Lib.hid h7; have HX := Lib.hid hx; clear hok h7 hx
 have HZV := Lib.hid (zero_of_info (P := Tryz.prog) (t := 30) info_draft2).1
 have HZT := Lib.hid (zero_of_info (P := Tryz.prog) (t := 35) info_term2).1
 go_enter Tryz.func3, Tryz.ntmps3
 go_upto_region 2 with fail
 have htape := tape_new HX.out
 obtain ⟨w1, hw1⟩ : ∃ z, w.alloc (.cells #[.slice A xs.length c, .int .i64 0] 25) = z := ⟨_, rfl⟩
 rw [hw1] at htape
 have hb1 : Below w.heap.size w w1 := by rw [← hw1]; exact (Below.refl _ _).alloc (Nat.le_refl _) _
 have HGw1 := Lib.hid (show w1.heap.size = w.heap.size + 1 by rw [← hw1]; simp)
 try simp only [hw1]
 have HTP := Lib.hid htape
 clear hw1 htape
 have HSw1 := Lib.hid (show w.heap.size ≤ w1.heap.size from hb1.size)
 have HBw1 := Lib.hid hb1
 clear hb1
 go_wp2_with fail
 refine Calls.mono (R := fun e w' => DPost (fun x => x = w.heap.size) (beginD []) w1 e w') ?_ ?_
 · exact Begin_any none 0 [] (fun x => x = w.heap.size) w1 (fun x hx => by subst hx; have := HGw1.out; omega) FreeS.nil_ (by decide)
 rintro e w2 ⟨hb, h0, rfl, hd⟩
 have HSw2 := Lib.hid (show w1.heap.size ≤ w2.heap.size from hb.size)
 have HBw2 := Lib.hid (HBw1.out.trans (hb.mono HBw1.out.size))
 have HTPw2 := Lib.hid (HTP.out.kept (grown_none hb) (fun e => by cases e) (fun g e => by cases e))
 clear hb
 have HP0 := Lib.hid pre0
 obtain ⟨d0, hd0⟩ : ∃ z, beginD [] = z := ⟨_, rfl⟩
 rw [hd0] at hd HP0 ⊢
 have HD0 := Lib.hid hd0; have HDF := Lib.hid hd; clear hd hd0
 have hzv := HZV.out
 go_upto_region 3 with fail
 obtain ⟨w3, hw3⟩ : ∃ w3, w2.alloc (.cells #[.slice h0.a0 d0.props.length h0.c0, .slice h0.a1 d0.tags.length h0.c1, .slice h0.a2 d0.links.length h0.c2, .slice h0.a3 d0.run.length h0.c3, .slice h0.a4 d0.load.length h0.c4, .string d0.nm, .int .i64 d0.prio, .string d0.owner, .string d0.group, .int .i64 d0.mode, .string d0.res, .int .i64 d0.calls, .int .i64 d0.ticks, .slice h0.a5 d0.closed.length h0.c5] 30) = w3 := ⟨_, rfl⟩
 have hbw3 : Below w2.heap.size w2 w3 := by rw [← hw3]; exact (Below.refl _ _).alloc (Nat.le_refl _) _
 have HGw3 := Lib.hid (show w3.heap.size = w2.heap.size + 1 by rw [← hw3]; simp)
 have HXdw3 := Lib.hid (show BoxL w3 w2.heap.size [.slice h0.a0 d0.props.length h0.c0, .slice h0.a1 d0.tags.length h0.c1, .slice h0.a2 d0.links.length h0.c2, .slice h0.a3 d0.run.length h0.c3, .slice h0.a4 d0.load.length h0.c4, .string d0.nm, .int .i64 d0.prio, .string d0.owner, .string d0.group, .int .i64 d0.mode, .string d0.res, .int .i64 d0.calls, .int .i64 d0.ticks, .slice h0.a5 d0.closed.length h0.c5] from box_mk hw3)
 try simp only [hw3]
 have HSTEPw3 := Lib.hid hbw3
 have HSw3 := Lib.hid (show w2.heap.size ≤ w3.heap.size from hbw3.size)
 have HBw3 := Lib.hid (HBw2.out.trans (hbw3.mono HBw2.out.size))
 have HTPw3 := Lib.hid (HTPw2.out.kept (grown_none hbw3) (fun e => by cases e) (fun g e => by cases e))
 have HDFw3 := Lib.hid (HDF.out.below hbw3)
 clear hw3 hbw3
 try rw [show w2.heap.size + 1 = w3.heap.size from HGw3.out.symm]
 clear hzv
 go_upto_region 4 with fail
 obtain ⟨w4, hw4⟩ : ∃ w4, w3.alloc (.cells #[.int .i64 7, .int .i64 16, .int .i64 21] 3) = w4 := ⟨_, rfl⟩
 have hbw4 : Below w3.heap.size w3 w4 := by rw [← hw4]; exact (Below.refl _ _).alloc (Nat.le_refl _) _
 have HGw4 := Lib.hid (show w4.heap.size = w3.heap.size + 1 by rw [← hw4]; simp)
 have HXkw4 := Lib.hid (show BoxL w4 w3.heap.size [.int .i64 7, .int .i64 16, .int .i64 21] from box_mk hw4)
 try simp only [hw4]
 have HSTEPw4 := Lib.hid hbw4
 have HSw4 := Lib.hid (show w3.heap.size ≤ w4.heap.size from hbw4.size)
 have HBw4 := Lib.hid (HBw3.out.trans (hbw4.mono HBw3.out.size))
 have dw4 := Lib.hid (HXdw3.out.kept (grown_none hbw4) (fun e => by cases e))
 have HTPw4 := Lib.hid (HTPw3.out.kept (grown_none hbw4) (fun e => by cases e) (fun g e => by cases e))
 have HDFw4 := Lib.hid (HDFw3.out.below hbw4)
 clear hw4 hbw4
 try rw [show w3.heap.size + 1 = w4.heap.size from HGw4.out.symm]
 have HG_d := Lib.hid (show w.heap.size < w2.heap.size from by have := HGw1.out; have := HSw2.out; omega)
 have HG_k := Lib.hid (show w.heap.size < w3.heap.size from by have := HG_d.out; have := HGw3.out; omega)
 have ck0 := HXkw4.out.1 0 _ rfl
 have ck1 := HXkw4.out.1 1 _ rfl
 have ck2 := HXkw4.out.1 2 _ rfl
 go_wp2_with fail
 refine (Next_lit 3 xs 0 w.heap.size w.heap.size w4 (by decide) HTPw4.out (by decide) (by decide)).mono ?_
 rintro e w5 ⟨kn, hk0, hk3, rfl, htp_, hg_⟩
 clear ck0 ck1 ck2
 have HBw5 := Lib.hid (HBw4.out.grown hg_ HBw4.out.size (fun q hq => by have := Option.some.inj hq; omega))
 have HSw5 := Lib.hid hg_.size
 have HTPw5 := Lib.hid htp_
 have HDFw5 := Lib.hid (HDFw4.out.grown hg_ (.inl rfl))
 have dw5 := Lib.hid (dw4.out.kept hg_ (fun e => by have := Option.some.inj e; have := HG_d.out; omega))
 have kw5 := Lib.hid (HXkw4.out.kept hg_ (fun e => by have := Option.some.inj e; have := HG_k.out; omega))
 clear hg_ htp_
 obtain ⟨m, rfl⟩ : ∃ m : Nat, kn = m := ⟨kn.toNat, by omega⟩
 obtain ⟨key, hkey, ck⟩ : ∃ key : Int, (key = 7 ∨ key = 16 ∨ key = 21) ∧ w5.cell? ⟨w3.heap.size, m, none⟩ = some (.int .i64 key) := by
  have hm : m = 0 ∨ m = 1 ∨ m = 2 := by omega
  rcases hm with rfl | rfl | rfl
  · exact ⟨7, .inl rfl, kw5.out.1 0 _ rfl⟩
  · exact ⟨16, .inr (.inl rfl), kw5.out.1 1 _ rfl⟩
  · exact ⟨21, .inr (.inr rfl), kw5.out.1 2 _ rfl⟩
 have HKEY := Lib.hid hkey; clear hkey hk0
 go_wp2_with fail
 refine (One_lit ordA xs 1 w.heap.size w.heap.size #[.string ⟨#[97]⟩, .string ⟨#[98]⟩, .string ⟨#[99, 49]⟩] 9 w5 3 rfl rfl (by decide) HTPw5.out (by decide) (by decide)).mono ?_
 rintro e w6 ⟨a, ha, rfl, htp_, hg_⟩
 clear ck hk3
 have HBw6 := Lib.hid (HBw5.out.grown hg_ HBw5.out.size (fun q hq => by have := Option.some.inj hq; omega))
 have HSw6 := Lib.hid hg_.size
 have HTPw6 := Lib.hid htp_
 have HDFw6 := Lib.hid (HDFw5.out.grown hg_ (.inl rfl))
 have dw6 := Lib.hid (dw5.out.kept hg_ (fun e => by have := Option.some.inj e; have := HG_d.out; omega))
 have kw6 := Lib.hid (kw5.out.kept hg_ (fun e => by have := Option.some.inj e; have := HG_k.out; omega))
 clear hg_ htp_
 have HA := Lib.hid ha; clear ha
 go_wp2_with fail
 refine (One_lit ordB xs 2 w.heap.size w.heap.size #[.string ⟨#[98]⟩, .string ⟨#[99, 49]⟩, .string ⟨#[122]⟩] 9 w6 3 rfl rfl (by decide) HTPw6.out (by decide) (by decide)).mono ?_
 rintro e w7 ⟨b, hb9, rfl, htp_, hg_⟩
 have HBw7 := Lib.hid (HBw6.out.grown hg_ HBw6.out.size (fun q hq => by have := Option.some.inj hq; omega))
 have HSw7 := Lib.hid hg_.size
 have HTPw7 := Lib.hid htp_
 have HDFw7 := Lib.hid (HDFw6.out.grown hg_ (.inl rfl))
 have dw7 := Lib.hid (dw6.out.kept hg_ (fun e => by have := Option.some.inj e; have := HG_d.out; omega))
 have kw7 := Lib.hid (kw6.out.kept hg_ (fun e => by have := Option.some.inj e; have := HG_k.out; omega))
 clear hg_ htp_
 have HBB := Lib.hid hb9; clear hb9
 have hzt := HZT.out
 go_upto_region 7 with fail
 have HND := Lib.hid (HDFw7.out.more (N' := (fun y => y = w.heap.size ∨ w7.heap.size ≤ y)) (fun x hx q => q.elim (fun h => h) (fun h => by omega)))
 obtain ⟨w8, hw8⟩ : ∃ w8, w7.alloc (.cells #[.int .i64 key, .string ByteArray.empty, .int .i64 4, .string ByteArray.empty] 35) = w8 := ⟨_, rfl⟩
 have hbw8 : Below w7.heap.size w7 w8 := by rw [← hw8]; exact (Below.refl _ _).alloc (Nat.le_refl _) _
 have HGw8 := Lib.hid (show w8.heap.size = w7.heap.size + 1 by rw [← hw8]; simp)
 have HXxw8 := Lib.hid (show BoxL w8 w7.heap.size [.int .i64 key, .string ByteArray.empty, .int .i64 4, .string ByteArray.empty] from box_mk hw8)
 try simp only [hw8]
 have HSTEPw8 := Lib.hid hbw8
 have HSw8 := Lib.hid (show w7.heap.size ≤ w8.heap.size from hbw8.size)
 have HBw8 := Lib.hid (HBw7.out.trans (hbw8.mono HBw7.out.size))
 have dw8 := Lib.hid (dw7.out.kept (grown_none hbw8) (fun e => by cases e))
 have kw8 := Lib.hid (kw7.out.kept (grown_none hbw8) (fun e => by cases e))
 have HNDw8 := Lib.hid (HND.out.below hbw8)
 clear hw8 hbw8
 try rw [show w7.heap.size + 1 = w8.heap.size from HGw8.out.symm]
 clear hzt
 obtain ⟨hor, hrest⟩ := ord_parts HKEY.out HA.out HBB.out
 have HOR := Lib.hid hor; have HRE := Lib.hid hrest; have HAS := Lib.hid (ordA_small a HA.out); have HBS := Lib.hid (ordB_small b HBB.out)
 clear hor hrest
 obtain ⟨xt, hxt⟩ : ∃ z, ordT key 4 = z := ⟨_, rfl⟩
 obtain ⟨D1, hD1⟩ : ∃ z, applyD (applyD d0 xt a) xt b = z := ⟨_, rfl⟩
 obtain ⟨D2, hD2⟩ : ∃ z, applyD (applyD d0 xt b) xt a = z := ⟨_, rfl⟩
 have HXT := Lib.hid hxt; have HD1 := Lib.hid hD1; have HD2 := Lib.hid hD2
 have HK6 := Lib.hid (show xt.key = 6 → keyB xt.nm = true by rw [← hxt]; intro q; have h := HKEY.out; have h2 : key = 6 := q; omega)
 have HOT := Lib.hid (show okT xt by rw [← hxt]; exact ⟨show okI key by have h := HKEY.out; unfold okI; omega, show ByteArray.empty.size ≤ maxLen by decide +kernel, show okI 4 by unfold okI; decide, show ByteArray.empty.size ≤ maxLen by decide +kernel⟩)
 have HTG := Lib.hid (show xt.key = 7 → xt.op = 3 ∨ xt.op = 4 ∨ xt.op = 5 by rw [← hxt]; intro _; exact .inr (.inl rfl))
 have HPA := Lib.hid (HP0.out.apply HK6.out (v := a) (by have := HAS.out; unfold maxLen; omega) (by rw [← HD0.out]; decide))
 have HPB := Lib.hid (HP0.out.apply HK6.out (v := b) (by have := HBS.out; unfold maxLen; omega) (by rw [← HD0.out]; decide))
 have HLA := Lib.hid (show (applyD d0 xt a).closed.length < 100000 by unfold applyD closeD; rw [← HXT.out, ← HD0.out]; split <;> (try split) <;> (try rw [asg_closed]) <;> simp [beginD, ordT])
 have HLB := Lib.hid (show (applyD d0 xt b).closed.length < 100000 by unfold applyD closeD; rw [← HXT.out, ← HD0.out]; split <;> (try split) <;> (try rw [asg_closed]) <;> simp [beginD, ordT])
 have HP1 := Lib.hid (show PreD D1 by rw [← hD1]; exact HPA.out.apply HK6.out (by have := HBS.out; unfold maxLen; omega) HLA.out)
 clear hxt hD1 hD2
 have HTB := Lib.hid (show w.heap.size < w7.heap.size by have := HG_d.out; have := HSw3.out; have := HSw4.out; have := HSw5.out; have := HSw6.out; have := HSw7.out; omega)
 have HSB8 := Lib.hid (Nat.le_refl w8.heap.size)
 go_cut [10] (fun s10 wx => ∃ (g1 : Nat) (h1 : DH), s10 = .pointer (some ⟨g1, 0, none⟩) ∧ Hid (OrdS w8 wx D1 g1 h1 w7.heap.size))
 case first =>
  refine wp_region_held_late (S := fun w' => BoxL w' w2.heap.size [.slice h0.a0 d0.props.length h0.c0, .slice h0.a1 d0.tags.length h0.c1, .slice h0.a2 d0.links.length h0.c2, .slice h0.a3 d0.run.length h0.c3, .slice h0.a4 d0.load.length h0.c4, .string d0.nm, .int .i64 d0.prio, .string d0.owner, .string d0.group, .int .i64 d0.mode, .string d0.res, .int .i64 d0.calls, .int .i64 d0.ticks, .slice h0.a5 d0.closed.length h0.c5] ∧ BoxL w' w7.heap.size [.int .i64 key, .string ByteArray.empty, .int .i64 4, .string ByteArray.empty]) (late := fun i => decide (8 ≤ i)) (by kernel_rfl) ?_
  obtain ⟨wd, hwd⟩ : ∃ z, World.drew w8 = z := ⟨_, rfl⟩
  rw [hwd]
  have hb_ : Below w8.heap.size w8 wd := by rw [← hwd]; exact below_drewN_self _ _ 1
  clear hwd
  have HWB := Lib.hid (Below.refl w8.heap.size w8)
  have HSwd := Lib.hid (show w8.heap.size ≤ wd.heap.size from hb_.size)
  have HBwd := Lib.hid (HBw8.out.trans (hb_.mono HBw8.out.size))
  have dwd := Lib.hid (dw8.out.kept (grown_none hb_) (fun e => by cases e))
  have xwd := Lib.hid (HXxw8.out.kept (grown_none hb_) (fun e => by cases e))
  have HNDwd := Lib.hid (HNDw8.out.below hb_)
  have HWBwd := Lib.hid (below_next HWB.out hb_)
  clear hb_
  refine wpAnyHL_take (i := 0) (oi := ⟨some 33, _, _, _, _, _⟩) (v := .agg #[.slice h0.a0 d0.props.length h0.c0, .slice h0.a1 d0.tags.length h0.c1, .slice h0.a2 d0.links.length h0.c2, .slice h0.a3 d0.run.length h0.c3, .slice h0.a4 d0.load.length h0.c4, .string d0.nm, .int .i64 d0.prio, .string d0.owner, .string d0.group, .int .i64 d0.mode, .string d0.res, .int .i64 d0.calls, .int .i64 d0.ticks, .slice h0.a5 d0.closed.length h0.c5]) (by kernel_rfl) rfl (by kernel_rfl) (by kernel_rfl) (by kernel_rfl) (fun _ _ _ h => h) (Or.inl ⟨by rfl, fun w' hS => by (have u0_ := hS.1.1 0 _ rfl; have u1_ := hS.1.1 1 _ rfl; have u2_ := hS.1.1 2 _ rfl; have u3_ := hS.1.1 3 _ rfl; have u4_ := hS.1.1 4 _ rfl; have u5_ := hS.1.1 5 _ rfl; have u6_ := hS.1.1 6 _ rfl; have u7_ := hS.1.1 7 _ rfl; have u8_ := hS.1.1 8 _ rfl; have u9_ := hS.1.1 9 _ rfl; have u10_ := hS.1.1 10 _ rfl; have u11_ := hS.1.1 11 _ rfl; have u12_ := hS.1.1 12 _ rfl; have u13_ := hS.1.1 13 _ rfl; go_simp)⟩) ⟨dwd.out, xwd.out⟩ ?_
  try simp only [Act.put, List.setIfInBounds_toArray, List.set_cons_zero, List.set_cons_succ]
  refine wpAnyHL_take (i := 1) (oi := ⟨some 34, _, _, _, _, _⟩) (v := .agg #[.int .i64 key, .string ByteArray.empty, .int .i64 4, .string ByteArray.empty]) (by kernel_rfl) rfl (by kernel_rfl) (by kernel_rfl) (by kernel_rfl) (fun _ _ _ h => h) (Or.inl ⟨by rfl, fun w' hS => by (have u0_ := hS.2.1 0 _ rfl; have u1_ := hS.2.1 1 _ rfl; have u2_ := hS.2.1 2 _ rfl; have u3_ := hS.2.1 3 _ rfl; go_simp)⟩) ⟨dwd.out, xwd.out⟩ ?_
  try simp only [Act.put, List.setIfInBounds_toArray, List.set_cons_zero, List.set_cons_succ]
  refine wpAnyHL_take (i := 2) (oi := ⟨some 35, _, _, _, _, _⟩) (v := .string a) (by kernel_rfl) rfl (by kernel_rfl) (by kernel_rfl) (by kernel_rfl) (fun _ _ _ h => h) (Or.inl ⟨by rfl, fun w' hS => by go_simp⟩) ⟨dwd.out, xwd.out⟩ ?_
  try simp only [Act.put, List.setIfInBounds_toArray, List.set_cons_zero, List.set_cons_succ]
  refine wpAnyHL_take (i := 4) (oi := ⟨some 37, _, _, _, _, _⟩) (v := .agg #[.int .i64 key, .string ByteArray.empty, .int .i64 4, .string ByteArray.empty]) (by kernel_rfl) rfl (by kernel_rfl) (by kernel_rfl) (by kernel_rfl) (fun _ _ _ h => h) (Or.inl ⟨by rfl, fun w' hS => by (have u0_ := hS.2.1 0 _ rfl; have u1_ := hS.2.1 1 _ rfl; have u2_ := hS.2.1 2 _ rfl; have u3_ := hS.2.1 3 _ rfl; go_simp)⟩) ⟨dwd.out, xwd.out⟩ ?_
  try simp only [Act.put, List.setIfInBounds_toArray, List.set_cons_zero, List.set_cons_succ]
  refine wpAnyHL_take (i := 5) (oi := ⟨some 38, _, _, _, _, _⟩) (v := .string b) (by kernel_rfl) rfl (by kernel_rfl) (by kernel_rfl) (by kernel_rfl) (fun _ _ _ h => h) (Or.inl ⟨by rfl, fun w' hS => by go_simp⟩) ⟨dwd.out, xwd.out⟩ ?_
  try simp only [Act.put, List.setIfInBounds_toArray, List.set_cons_zero, List.set_cons_succ]
  refine wpAnyHL_ready (rs := [3, 7]) (by kernel_rfl) (by simp) ?_
  refine AllReadyHL.cons (o := ⟨some 36, .call ⟨_, _, _⟩, _, _, _, _⟩) rfl (fun K hK => ?_) (AllReadyHL.cons (o := ⟨some 10, .alloc _, _, _, _, _⟩) rfl (fun K hK => ?_) (AllReadyHL.nil))
  ·
   go_simp
   go_at_call 14
   refine Calls.mono (R := fun e w' => DPost (fun y => y = w7.heap.size) (applyD d0 xt a) wd e w') ?_ ?_
   ·
    have hap := Apply_any d0 h0 xt a (fun y => y = w7.heap.size) wd (fun x hx => by have := HWBwd.out.size; have := HGw8.out; have := HSB8.out; subst hx; omega) (HNDwd.out.more (fun x _ q => .inr (by have := HGw8.out; have := HWBwd.out.size; have := HSB8.out; subst q; omega))) HP0.out HOT.out HTG.out (by have := HAS.out; omega) (HOK.out.next HBwd.out) (H7.out.below HBwd.out)
    rw [← HXT.out] at hap ⊢
    exact hap
   rintro e' q9 ⟨hb_, hA, rfl, hf_⟩
   have HSq9 := Lib.hid (show wd.heap.size ≤ q9.heap.size from hb_.size)
   have HBq9 := Lib.hid (HBwd.out.trans (hb_.mono HBwd.out.size))
   have dq9 := Lib.hid (dwd.out.kept (grown_none hb_) (fun e => by cases e))
   have xq9 := Lib.hid (xwd.out.kept (grown_none hb_) (fun e => by cases e))
   have HNDq9 := Lib.hid (HNDwd.out.below hb_)
   have HWBq9 := Lib.hid (below_next HWBwd.out hb_)
   have HEq9 := Lib.hid hf_
   clear hb_ hf_
   refine hK.out _ _ (fun _ => ⟨dq9.out, xq9.out⟩) ?_
   clear hK K
   try simp only [Act.put, List.setIfInBounds_toArray, List.set_cons_zero, List.set_cons_succ]
   refine wpAnyHL_ready (rs := [6, 7]) (by kernel_rfl) (by simp) ?_
   refine AllReadyHL.cons (o := ⟨some 39, .call ⟨_, _, _⟩, _, _, _, _⟩) rfl (fun K hK => ?_) (AllReadyHL.cons (o := ⟨some 10, .alloc _, _, _, _, _⟩) rfl (fun K hK => ?_) (AllReadyHL.nil))
   ·
    go_simp
    go_at_call 14
    refine Calls.mono (R := fun e w' => DPost (fun y => y = w7.heap.size) (applyD (applyD d0 xt a) xt b) q9 e w') ?_ ?_
    ·
     have hap := Apply_any (applyD d0 xt a) hA xt b (fun y => y = w7.heap.size) q9 (fun x hx => by have := HWBq9.out.size; have := HGw8.out; have := HSB8.out; subst hx; omega) HEq9.out HPA.out HOT.out HTG.out (by have := HBS.out; omega) (HOK.out.next HBq9.out) (H7.out.below HBq9.out)
     rw [← HXT.out] at hap ⊢
     exact hap
    rintro e' q10 ⟨hb_, hB, rfl, hf_⟩
    have HSq10 := Lib.hid (show q9.heap.size ≤ q10.heap.size from hb_.size)
    have HBq10 := Lib.hid (HBq9.out.trans (hb_.mono HBq9.out.size))
    have dq10 := Lib.hid (dq9.out.kept (grown_none hb_) (fun e => by cases e))
    have xq10 := Lib.hid (xq9.out.kept (grown_none hb_) (fun e => by cases e))
    have HNDq10 := Lib.hid (HNDq9.out.below hb_)
    have HWBq10 := Lib.hid (below_next HWBq9.out hb_)
    have HEq10 := Lib.hid hf_
    clear hb_ hf_
    refine hK.out _ _ (fun _ => ⟨dq10.out, xq10.out⟩) ?_
    clear hK K
    try simp only [Act.put, List.setIfInBounds_toArray, List.set_cons_zero, List.set_cons_succ]
    refine wpAnyHL_ready (rs := [7]) (by kernel_rfl) (by simp) ?_
    refine AllReadyHL.cons (o := ⟨some 10, .alloc _, _, _, _, _⟩) rfl (fun K hK => ?_) (AllReadyHL.nil)
    have HEM := Lib.hid (HEq10.out.more (N' := fun y => y = w7.heap.size ∨ y = q10.heap.size) (fun x hx q => q.elim (fun h => h) (fun h => by omega)))
    have hzv := HZV.out
    go_simp
    clear hzv
    obtain ⟨q11, hq11⟩ : ∃ z, q10.alloc (.cells #[.slice none 0 0, .slice none 0 0, .slice none 0 0, .slice none 0 0, .slice none 0 0, .string ByteArray.empty, .int .i64 0, .string ByteArray.empty, .string ByteArray.empty, .int .i64 0, .string ByteArray.empty, .int .i64 0, .int .i64 0, .slice none 0 0] 30) = z := ⟨_, rfl⟩
    have hb_ : Below q10.heap.size q10 q11 := by rw [← hq11]; exact (Below.refl _ _).alloc (Nat.le_refl _) _
    have HXz := Lib.hid (show BoxL q11 q10.heap.size [.slice none 0 0, .slice none 0 0, .slice none 0 0, .slice none 0 0, .slice none 0 0, .string ByteArray.empty, .int .i64 0, .string ByteArray.empty, .string ByteArray.empty, .int .i64 0, .string ByteArray.empty, .int .i64 0, .int .i64 0, .slice none 0 0] from box_mk hq11)
    have HGZ := Lib.hid (show w8.heap.size ≤ q10.heap.size ∧ q10.heap.size < q11.heap.size from ⟨HWBq10.out.size, by rw [← hq11]; simp⟩)
    try rw [hq11]
    clear hq11
    have HSq11 := Lib.hid (show q10.heap.size ≤ q11.heap.size from hb_.size)
    have HBq11 := Lib.hid (HBq10.out.trans (hb_.mono HBq10.out.size))
    have dq11 := Lib.hid (dq10.out.kept (grown_none hb_) (fun e => by cases e))
    have xq11 := Lib.hid (xq10.out.kept (grown_none hb_) (fun e => by cases e))
    have HNDq11 := Lib.hid (HNDq10.out.below hb_)
    have HWBq11 := Lib.hid (below_next HWBq10.out hb_)
    have HEq11 := Lib.hid (HEM.out.below hb_)
    clear hb_
    have HGL := Lib.hid (show q10.heap.size < q11.heap.size from HGZ.out.2)
    refine hK.out _ _ (fun _ => ⟨dq11.out, xq11.out⟩) ?_
    clear hK K
    try simp only [Act.put, List.setIfInBounds_toArray, List.set_cons_zero, List.set_cons_succ]
    refine wpAnyHL_ready (rs := [8]) (by kernel_rfl) (by simp) ?_
    refine AllReadyHL.cons (o := ⟨none, .store _ _ _, _, _, _, _⟩) rfl (fun K hK => ?_) (AllReadyHL.nil)
    have cz0 := HXz.out.1 0 _ rfl
    have cz1 := HXz.out.1 1 _ rfl
    have cz2 := HXz.out.1 2 _ rfl
    have cz3 := HXz.out.1 3 _ rfl
    have cz4 := HXz.out.1 4 _ rfl
    have cz5 := HXz.out.1 5 _ rfl
    have cz6 := HXz.out.1 6 _ rfl
    have cz7 := HXz.out.1 7 _ rfl
    have cz8 := HXz.out.1 8 _ rfl
    have cz9 := HXz.out.1 9 _ rfl
    have cz10 := HXz.out.1 10 _ rfl
    have cz11 := HXz.out.1 11 _ rfl
    have cz12 := HXz.out.1 12 _ rfl
    have cz13 := HXz.out.1 13 _ rfl
    have cfz := HXz.out.2.1
    go_simp
    clear cz0 cz1 cz2 cz3 cz4 cz5 cz6 cz7 cz8 cz9 cz10 cz11 cz12 cz13 cfz
    obtain ⟨Dx, hDx⟩ : ∃ z, applyD (applyD d0 xt a) xt b = z := ⟨_, rfl⟩
    have HDx := Lib.hid hDx
    have hE := HEq11.out
    rw [hDx] at hE ⊢
    obtain ⟨q12, hq12⟩ : ∃ z, set14 q11 (q10.heap.size) (.slice hB.a0 Dx.props.length hB.c0) (.slice hB.a1 Dx.tags.length hB.c1) (.slice hB.a2 Dx.links.length hB.c2) (.slice hB.a3 Dx.run.length hB.c3) (.slice hB.a4 Dx.load.length hB.c4) (.string Dx.nm) (.int .i64 Dx.prio) (.string Dx.owner) (.string Dx.group) (.int .i64 Dx.mode) (.string Dx.res) (.int .i64 Dx.calls) (.int .i64 Dx.ticks) (.slice hB.a5 Dx.closed.length hB.c5) = z := ⟨_, rfl⟩
    have hgs : q11.grownBy q12 (some (q10.heap.size)) := by rw [← hq12]; exact grown14 _ _ _ _ _ _ _ _ _ _ _ _ _ _ _ _
    have HXS := Lib.hid (show BoxL q12 (q10.heap.size) [.slice hB.a0 Dx.props.length hB.c0, .slice hB.a1 Dx.tags.length hB.c1, .slice hB.a2 Dx.links.length hB.c2, .slice hB.a3 Dx.run.length hB.c3, .slice hB.a4 Dx.load.length hB.c4, .string Dx.nm, .int .i64 Dx.prio, .string Dx.owner, .string Dx.group, .int .i64 Dx.mode, .string Dx.res, .int .i64 Dx.calls, .int .i64 Dx.ticks, .slice hB.a5 Dx.closed.length hB.c5] by rw [← hq12]; exact HXz.out.set14 _ _ _ _ _ _ _ _ _ _ _ _ _ _)
    unfold set14 at hq12
    rw [hq12]
    clear hq12 hDx
    have HES := Lib.hid ((hE.grown hgs (.inl (.inr rfl))).more (N' := fun y => y = w7.heap.size) (fun x _ q => .inl q))
    have HWS := Lib.hid (HWBq11.out.grown hgs HWBq11.out.size (fun q hq => by have := Option.some.inj hq; have := HGZ.out.1; omega))
    clear hgs hE
    refine hK.out _ _ (fun h_ => by cases h_) ?_
    clear hK K
    try simp only [Act.put, List.setIfInBounds_toArray, List.set_cons_zero, List.set_cons_succ]
    refine wpAnyHL_done (by kernel_rfl) ?_ _
    go_wp2_with fail
    go_meet
    exact ⟨q10.heap.size, hB, rfl, Lib.hid (by rw [← HD1.out, HDx.out]; exact ⟨HWS.out, HXS.out, HES.out, HGZ.out.1⟩)⟩
   ·
    have HEM := Lib.hid (HEq9.out.more (N' := fun y => y = w7.heap.size ∨ y = q9.heap.size) (fun x hx q => q.elim (fun h => h) (fun h => by omega)))
    have hzv := HZV.out
    go_simp
    clear hzv
    obtain ⟨q13, hq13⟩ : ∃ z, q9.alloc (.cells #[.slice none 0 0, .slice none 0 0, .slice none 0 0, .slice none 0 0, .slice none 0 0, .string ByteArray.empty, .int .i64 0, .string ByteArray.empty, .string ByteArray.empty, .int .i64 0, .string ByteArray.empty, .int .i64 0, .int .i64 0, .slice none 0 0] 30) = z := ⟨_, rfl⟩
    have hb_ : Below q9.heap.size q9 q13 := by rw [← hq13]; exact (Below.refl _ _).alloc (Nat.le_refl _) _
    have HXz := Lib.hid (show BoxL q13 q9.heap.size [.slice none 0 0, .slice none 0 0, .slice none 0 0, .slice none 0 0, .slice none 0 0, .string ByteArray.empty, .int .i64 0, .string ByteArray.empty, .string ByteArray.empty, .int .i64 0, .string ByteArray.empty, .int .i64 0, .int .i64 0, .slice none 0 0] from box_mk hq13)
    have HGZ := Lib.hid (show w8.heap.size ≤ q9.heap.size ∧ q9.heap.size < q13.heap.size from ⟨HWBq9.out.size, by rw [← hq13]; simp⟩)
    try rw [hq13]
    clear hq13
    have HSq13 := Lib.hid (show q9.heap.size ≤ q13.heap.size from hb_.size)
    have HBq13 := Lib.hid (HBq9.out.trans (hb_.mono HBq9.out.size))
    have dq13 := Lib.hid (dq9.out.kept (grown_none hb_) (fun e => by cases e))
    have xq13 := Lib.hid (xq9.out.kept (grown_none hb_) (fun e => by cases e))
    have HNDq13 := Lib.hid (HNDq9.out.below hb_)
    have HWBq13 := Lib.hid (below_next HWBq9.out hb_)
    have HEq13 := Lib.hid (HEM.out.below hb_)
    clear hb_
    have HGL := Lib.hid (show q9.heap.size < q13.heap.size from HGZ.out.2)
    refine hK.out _ _ (fun _ => ⟨dq13.out, xq13.out⟩) ?_
    clear hK K
    try simp only [Act.put, List.setIfInBounds_toArray, List.set_cons_zero, List.set_cons_succ]
    refine wpAnyHL_ready (rs := [6]) (by kernel_rfl) (by simp) ?_
    refine AllReadyHL.cons (o := ⟨some 39, .call ⟨_, _, _⟩, _, _, _, _⟩) rfl (fun K hK => ?_) (AllReadyHL.nil)
    go_simp
    go_at_call 14
    refine Calls.mono (R := fun e w' => DPost (fun y => y = w7.heap.size ∨ y = q9.heap.size) (applyD (applyD d0 xt a) xt b) q13 e w') ?_ ?_
    ·
     have hap := Apply_any (applyD d0 xt a) hA xt b (fun y => y = w7.heap.size ∨ y = q9.heap.size) q13 (fun x hx => by have := HWBq13.out.size; have := HGw8.out; have := HSB8.out; rcases hx with rfl | rfl; omega; have := HGL.out; omega) HEq13.out HPA.out HOT.out HTG.out (by have := HBS.out; omega) (HOK.out.next HBq13.out) (H7.out.below HBq13.out)
     rw [← HXT.out] at hap ⊢
     exact hap
    rintro e' q14 ⟨hb_, hB, rfl, hf_⟩
    have HSq14 := Lib.hid (show q13.heap.size ≤ q14.heap.size from hb_.size)
    have HBq14 := Lib.hid (HBq13.out.trans (hb_.mono HBq13.out.size))
    have dq14 := Lib.hid (dq13.out.kept (grown_none hb_) (fun e => by cases e))
    have xq14 := Lib.hid (xq13.out.kept (grown_none hb_) (fun e => by cases e))
    have zq14 := Lib.hid (HXz.out.kept (grown_none hb_) (fun e => by cases e))
    have HNDq14 := Lib.hid (HNDq13.out.below hb_)
    have HWBq14 := Lib.hid (below_next HWBq13.out hb_)
    have HGLq14 := Lib.hid (Nat.lt_of_lt_of_le HGL.out (hb_).size)
    have HEq14 := Lib.hid hf_
    clear hb_ hf_
    refine hK.out _ _ (fun _ => ⟨dq14.out, xq14.out⟩) ?_
    clear hK K
    try simp only [Act.put, List.setIfInBounds_toArray, List.set_cons_zero, List.set_cons_succ]
    refine wpAnyHL_ready (rs := [8]) (by kernel_rfl) (by simp) ?_
    refine AllReadyHL.cons (o := ⟨none, .store _ _ _, _, _, _, _⟩) rfl (fun K hK => ?_) (AllReadyHL.nil)
    have cz0 := zq14.out.1 0 _ rfl
    have cz1 := zq14.out.1 1 _ rfl
    have cz2 := zq14.out.1 2 _ rfl
    have cz3 := zq14.out.1 3 _ rfl
    have cz4 := zq14.out.1 4 _ rfl
    have cz5 := zq14.out.1 5 _ rfl
    have cz6 := zq14.out.1 6 _ rfl
    have cz7 := zq14.out.1 7 _ rfl
    have cz8 := zq14.out.1 8 _ rfl
    have cz9 := zq14.out.1 9 _ rfl
    have cz10 := zq14.out.1 10 _ rfl
    have cz11 := zq14.out.1 11 _ rfl
    have cz12 := zq14.out.1 12 _ rfl
    have cz13 := zq14.out.1 13 _ rfl
    have cfz := zq14.out.2.1
    go_simp
    clear cz0 cz1 cz2 cz3 cz4 cz5 cz6 cz7 cz8 cz9 cz10 cz11 cz12 cz13 cfz
    obtain ⟨Dx, hDx⟩ : ∃ z, applyD (applyD d0 xt a) xt b = z := ⟨_, rfl⟩
    have HDx := Lib.hid hDx
    have hE := HEq14.out
    rw [hDx] at hE ⊢
    obtain ⟨q15, hq15⟩ : ∃ z, set14 q14 (q9.heap.size) (.slice hB.a0 Dx.props.length hB.c0) (.slice hB.a1 Dx.tags.length hB.c1) (.slice hB.a2 Dx.links.length hB.c2) (.slice hB.a3 Dx.run.length hB.c3) (.slice hB.a4 Dx.load.length hB.c4) (.string Dx.nm) (.int .i64 Dx.prio) (.string Dx.owner) (.string Dx.group) (.int .i64 Dx.mode) (.string Dx.res) (.int .i64 Dx.calls) (.int .i64 Dx.ticks) (.slice hB.a5 Dx.closed.length hB.c5) = z := ⟨_, rfl⟩
    have hgs : q14.grownBy q15 (some (q9.heap.size)) := by rw [← hq15]; exact grown14 _ _ _ _ _ _ _ _ _ _ _ _ _ _ _ _
    have HXS := Lib.hid (show BoxL q15 (q9.heap.size) [.slice hB.a0 Dx.props.length hB.c0, .slice hB.a1 Dx.tags.length hB.c1, .slice hB.a2 Dx.links.length hB.c2, .slice hB.a3 Dx.run.length hB.c3, .slice hB.a4 Dx.load.length hB.c4, .string Dx.nm, .int .i64 Dx.prio, .string Dx.owner, .string Dx.group, .int .i64 Dx.mode, .string Dx.res, .int .i64 Dx.calls, .int .i64 Dx.ticks, .slice hB.a5 Dx.closed.length hB.c5] by rw [← hq15]; exact zq14.out.set14 _ _ _ _ _ _ _ _ _ _ _ _ _ _)
    unfold set14 at hq15
    rw [hq15]
    clear hq15 hDx
    have HES := Lib.hid ((hE.grown hgs (.inl (.inr rfl))).more (N' := fun y => y = w7.heap.size) (fun x _ q => .inl q))
    have HWS := Lib.hid (HWBq14.out.grown hgs HWBq14.out.size (fun q hq => by have := Option.some.inj hq; have := HGZ.out.1; omega))
    clear hgs hE
    refine hK.out _ _ (fun h_ => by cases h_) ?_
    clear hK K
    try simp only [Act.put, List.setIfInBounds_toArray, List.set_cons_zero, List.set_cons_succ]
    refine wpAnyHL_done (by kernel_rfl) ?_ _
    go_wp2_with fail
    go_meet
    exact ⟨q9.heap.size, hB, rfl, Lib.hid (by rw [← HD1.out, HDx.out]; exact ⟨HWS.out, HXS.out, HES.out, HGZ.out.1⟩)⟩
  ·
   have hzv := HZV.out
   go_simp
   clear hzv
   obtain ⟨q16, hq16⟩ : ∃ z, wd.alloc (.cells #[.slice none 0 0, .slice none 0 0, .slice none 0 0, .slice none 0 0, .slice none 0 0, .string ByteArray.empty, .int .i64 0, .string ByteArray.empty, .string ByteArray.empty, .int .i64 0, .string ByteArray.empty, .int .i64 0, .int .i64 0, .slice none 0 0] 30) = z := ⟨_, rfl⟩
   have hb_ : Below wd.heap.size wd q16 := by rw [← hq16]; exact (Below.refl _ _).alloc (Nat.le_refl _) _
   have HXz := Lib.hid (show BoxL q16 wd.heap.size [.slice none 0 0, .slice none 0 0, .slice none 0 0, .slice none 0 0, .slice none 0 0, .string ByteArray.empty, .int .i64 0, .string ByteArray.empty, .string ByteArray.empty, .int .i64 0, .string ByteArray.empty, .int .i64 0, .int .i64 0, .slice none 0 0] from box_mk hq16)
   have HGZ := Lib.hid (show w8.heap.size ≤ wd.heap.size ∧ wd.heap.size < q16.heap.size from ⟨HWBwd.out.size, by rw [← hq16]; simp⟩)
   try rw [hq16]
   clear hq16
   have HSq16 := Lib.hid (show wd.heap.size ≤ q16.heap.size from hb_.size)
   have HBq16 := Lib.hid (HBwd.out.trans (hb_.mono HBwd.out.size))
   have dq16 := Lib.hid (dwd.out.kept (grown_none hb_) (fun e => by cases e))
   have xq16 := Lib.hid (xwd.out.kept (grown_none hb_) (fun e => by cases e))
   have HNDq16 := Lib.hid (HNDwd.out.below hb_)
   have HWBq16 := Lib.hid (below_next HWBwd.out hb_)
   clear hb_
   have HGL := Lib.hid (show wd.heap.size < q16.heap.size from HGZ.out.2)
   refine hK.out _ _ (fun _ => ⟨dq16.out, xq16.out⟩) ?_
   clear hK K
   try simp only [Act.put, List.setIfInBounds_toArray, List.set_cons_zero, List.set_cons_succ]
   refine wpAnyHL_ready (rs := [3]) (by kernel_rfl) (by simp) ?_
   refine AllReadyHL.cons (o := ⟨some 36, .call ⟨_, _, _⟩, _, _, _, _⟩) rfl (fun K hK => ?_) (AllReadyHL.nil)
   go_simp
   go_at_call 14
   refine Calls.mono (R := fun e w' => DPost (fun y => y = w7.heap.size ∨ y = wd.heap.size) (applyD d0 xt a) q16 e w') ?_ ?_
   ·
    have hap := Apply_any d0 h0 xt a (fun y => y = w7.heap.size ∨ y = wd.heap.size) q16 (fun x hx => by have := HWBq16.out.size; have := HGw8.out; have := HSB8.out; rcases hx with rfl | rfl; omega; have := HGL.out; omega) (HNDq16.out.more (fun x _ q => .inr (by have := HGw8.out; have := HWBq16.out.size; have := HSB8.out; have := HGZ.out.1; rcases q with rfl | rfl; omega; have := HGL.out; omega))) HP0.out HOT.out HTG.out (by have := HAS.out; omega) (HOK.out.next HBq16.out) (H7.out.below HBq16.out)
    rw [← HXT.out] at hap ⊢
    exact hap
   rintro e' q17 ⟨hb_, hA, rfl, hf_⟩
   have HSq17 := Lib.hid (show q16.heap.size ≤ q17.heap.size from hb_.size)
   have HBq17 := Lib.hid (HBq16.out.trans (hb_.mono HBq16.out.size))
   have dq17 := Lib.hid (dq16.out.kept (grown_none hb_) (fun e => by cases e))
   have xq17 := Lib.hid (xq16.out.kept (grown_none hb_) (fun e => by cases e))
   have zq17 := Lib.hid (HXz.out.kept (grown_none hb_) (fun e => by cases e))
   have HNDq17 := Lib.hid (HNDq16.out.below hb_)
   have HWBq17 := Lib.hid (below_next HWBq16.out hb_)
   have HGLq17 := Lib.hid (Nat.lt_of_lt_of_le HGL.out (hb_).size)
   have HEq17 := Lib.hid hf_
   clear hb_ hf_
   refine hK.out _ _ (fun _ => ⟨dq17.out, xq17.out⟩) ?_
   clear hK K
   try simp only [Act.put, List.setIfInBounds_toArray, List.set_cons_zero, List.set_cons_succ]
   refine wpAnyHL_ready (rs := [6]) (by kernel_rfl) (by simp) ?_
   refine AllReadyHL.cons (o := ⟨some 39, .call ⟨_, _, _⟩, _, _, _, _⟩) rfl (fun K hK => ?_) (AllReadyHL.nil)
   go_simp
   go_at_call 14
   refine Calls.mono (R := fun e w' => DPost (fun y => y = w7.heap.size ∨ y = wd.heap.size) (applyD (applyD d0 xt a) xt b) q17 e w') ?_ ?_
   ·
    have hap := Apply_any (applyD d0 xt a) hA xt b (fun y => y = w7.heap.size ∨ y = wd.heap.size) q17 (fun x hx => by have := HWBq17.out.size; have := HGw8.out; have := HSB8.out; rcases hx with rfl | rfl; omega; have := HGLq17.out; omega) HEq17.out HPA.out HOT.out HTG.out (by have := HBS.out; omega) (HOK.out.next HBq17.out) (H7.out.below HBq17.out)
    rw [← HXT.out] at hap ⊢
    exact hap
   rintro e' q18 ⟨hb_, hB, rfl, hf_⟩
   have HSq18 := Lib.hid (show q17.heap.size ≤ q18.heap.size from hb_.size)
   have HBq18 := Lib.hid (HBq17.out.trans (hb_.mono HBq17.out.size))
   have dq18 := Lib.hid (dq17.out.kept (grown_none hb_) (fun e => by cases e))
   have xq18 := Lib.hid (xq17.out.kept (grown_none hb_) (fun e => by cases e))
   have zq18 := Lib.hid (zq17.out.kept (grown_none hb_) (fun e => by cases e))
   have HNDq18 := Lib.hid (HNDq17.out.below hb_)
   have HWBq18 := Lib.hid (below_next HWBq17.out hb_)
   have HGLq18 := Lib.hid (Nat.lt_of_lt_of_le HGLq17.out (hb_).size)
   have HEq18 := Lib.hid hf_
   clear hb_ hf_
   refine hK.out _ _ (fun _ => ⟨dq18.out, xq18.out⟩) ?_
   clear hK K
   try simp only [Act.put, List.setIfInBounds_toArray, List.set_cons_zero, List.set_cons_succ]
   refine wpAnyHL_ready (rs := [8]) (by kernel_rfl) (by simp) ?_
   refine AllReadyHL.cons (o := ⟨none, .store _ _ _, _, _, _, _⟩) rfl (fun K hK => ?_) (AllReadyHL.nil)
   have cz0 := zq18.out.1 0 _ rfl
   have cz1 := zq18.out.1 1 _ rfl
   have cz2 := zq18.out.1 2 _ rfl
   have cz3 := zq18.out.1 3 _ rfl
   have cz4 := zq18.out.1 4 _ rfl
   have cz5 := zq18.out.1 5 _ rfl
   have cz6 := zq18.out.1 6 _ rfl
   have cz7 := zq18.out.1 7 _ rfl
   have cz8 := zq18.out.1 8 _ rfl
   have cz9 := zq18.out.1 9 _ rfl
   have cz10 := zq18.out.1 10 _ rfl
   have cz11 := zq18.out.1 11 _ rfl
   have cz12 := zq18.out.1 12 _ rfl
   have cz13 := zq18.out.1 13 _ rfl
   have cfz := zq18.out.2.1
   go_simp
   clear cz0 cz1 cz2 cz3 cz4 cz5 cz6 cz7 cz8 cz9 cz10 cz11 cz12 cz13 cfz
   obtain ⟨Dx, hDx⟩ : ∃ z, applyD (applyD d0 xt a) xt b = z := ⟨_, rfl⟩
   have HDx := Lib.hid hDx
   have hE := HEq18.out
   rw [hDx] at hE ⊢
   obtain ⟨q19, hq19⟩ : ∃ z, set14 q18 (wd.heap.size) (.slice hB.a0 Dx.props.length hB.c0) (.slice hB.a1 Dx.tags.length hB.c1) (.slice hB.a2 Dx.links.length hB.c2) (.slice hB.a3 Dx.run.length hB.c3) (.slice hB.a4 Dx.load.length hB.c4) (.string Dx.nm) (.int .i64 Dx.prio) (.string Dx.owner) (.string Dx.group) (.int .i64 Dx.mode) (.string Dx.res) (.int .i64 Dx.calls) (.int .i64 Dx.ticks) (.slice hB.a5 Dx.closed.length hB.c5) = z := ⟨_, rfl⟩
   have hgs : q18.grownBy q19 (some (wd.heap.size)) := by rw [← hq19]; exact grown14 _ _ _ _ _ _ _ _ _ _ _ _ _ _ _ _
   have HXS := Lib.hid (show BoxL q19 (wd.heap.size) [.slice hB.a0 Dx.props.length hB.c0, .slice hB.a1 Dx.tags.length hB.c1, .slice hB.a2 Dx.links.length hB.c2, .slice hB.a3 Dx.run.length hB.c3, .slice hB.a4 Dx.load.length hB.c4, .string Dx.nm, .int .i64 Dx.prio, .string Dx.owner, .string Dx.group, .int .i64 Dx.mode, .string Dx.res, .int .i64 Dx.calls, .int .i64 Dx.ticks, .slice hB.a5 Dx.closed.length hB.c5] by rw [← hq19]; exact zq18.out.set14 _ _ _ _ _ _ _ _ _ _ _ _ _ _)
   unfold set14 at hq19
   rw [hq19]
   clear hq19 hDx
   have HES := Lib.hid ((hE.grown hgs (.inl (.inr rfl))).more (N' := fun y => y = w7.heap.size) (fun x _ q => .inl q))
   have HWS := Lib.hid (HWBq18.out.grown hgs HWBq18.out.size (fun q hq => by have := Option.some.inj hq; have := HGZ.out.1; omega))
   clear hgs hE
   refine hK.out _ _ (fun h_ => by cases h_) ?_
   clear hK K
   try simp only [Act.put, List.setIfInBounds_toArray, List.set_cons_zero, List.set_cons_succ]
   refine wpAnyHL_done (by kernel_rfl) ?_ _
   go_wp2_with fail
   go_meet
   exact ⟨wd.heap.size, hB, rfl, Lib.hid (by rw [← HD1.out, HDx.out]; exact ⟨HWS.out, HXS.out, HES.out, HGZ.out.1⟩)⟩
 case rest =>
 obtain ⟨g1, h1, rfl, HC1⟩ := hcut
 obtain ⟨wA, rfl⟩ : ∃ z, z = wc := ⟨_, rfl⟩
 have hbA := HC1.out.1
 have HSwA := Lib.hid (show w8.heap.size ≤ wA.heap.size from hbA.size)
 have HBwA := Lib.hid (HBw8.out.trans (hbA.mono HBw8.out.size))
 have dwA := Lib.hid (dw8.out.kept (grown_none hbA) (fun e => by cases e))
 have xwA := Lib.hid (HXxw8.out.kept (grown_none hbA) (fun e => by cases e))
 have HNDwA := Lib.hid (HNDw8.out.below hbA)
 clear hbA
 have HXp := Lib.hid (show BoxL wA g1 [.slice h1.a0 D1.props.length h1.c0, .slice h1.a1 D1.tags.length h1.c1, .slice h1.a2 D1.links.length h1.c2, .slice h1.a3 D1.run.length h1.c3, .slice h1.a4 D1.load.length h1.c4, .string D1.nm, .int .i64 D1.prio, .string D1.owner, .string D1.group, .int .i64 D1.mode, .string D1.res, .int .i64 D1.calls, .int .i64 D1.ticks, .slice h1.a5 D1.closed.length h1.c5] from HC1.out.2.1); have HG1 := Lib.hid HC1.out.2.2.2; have HDA := Lib.hid HC1.out.2.2.1
 have HSB9 := Lib.hid (show w8.heap.size ≤ wA.heap.size from HC1.out.1.size)
 clear HSB8
 have HSB8 := HSB9
 refine ‹∀ (a : Act) (w_1 : World), Code.wp _ _ _ a w_1 → _› _ _ ?_
 refine wp_seq_k fun K2 hK2 => ?_
 go_cut [11] (fun s11 wx => ∃ (g2 : Nat) (h2 : DH), s11 = .pointer (some ⟨g2, 0, none⟩) ∧ Hid (OrdS wA wx D2 g2 h2 w7.heap.size))
 case first =>
  refine wp_region_held_late (S := fun w' => BoxL w' w2.heap.size [.slice h0.a0 d0.props.length h0.c0, .slice h0.a1 d0.tags.length h0.c1, .slice h0.a2 d0.links.length h0.c2, .slice h0.a3 d0.run.length h0.c3, .slice h0.a4 d0.load.length h0.c4, .string d0.nm, .int .i64 d0.prio, .string d0.owner, .string d0.group, .int .i64 d0.mode, .string d0.res, .int .i64 d0.calls, .int .i64 d0.ticks, .slice h0.a5 d0.closed.length h0.c5] ∧ BoxL w' w7.heap.size [.int .i64 key, .string ByteArray.empty, .int .i64 4, .string ByteArray.empty]) (late := fun i => decide (8 ≤ i)) (by kernel_rfl) ?_
  obtain ⟨we, hwd⟩ : ∃ z, World.drew wA = z := ⟨_, rfl⟩
  rw [hwd]
  have hb_ : Below wA.heap.size wA we := by rw [← hwd]; exact below_drewN_self _ _ 1
  clear hwd
  have HWB := Lib.hid (Below.refl wA.heap.size wA)
  have HSwe := Lib.hid (show wA.heap.size ≤ we.heap.size from hb_.size)
  have HBwe := Lib.hid (HBwA.out.trans (hb_.mono HBwA.out.size))
  have dwe := Lib.hid (dwA.out.kept (grown_none hb_) (fun e => by cases e))
  have xwe := Lib.hid (xwA.out.kept (grown_none hb_) (fun e => by cases e))
  have pwe := Lib.hid (HXp.out.kept (grown_none hb_) (fun e => by cases e))
  have HNDwe := Lib.hid (HNDwA.out.below hb_)
  have HDAwe := Lib.hid (HDA.out.below hb_)
  have HWBwe := Lib.hid (below_next HWB.out hb_)
  clear hb_
  refine wpAnyHL_take (i := 0) (oi := ⟨some 40, _, _, _, _, _⟩) (v := .agg #[.slice h0.a0 d0.props.length h0.c0, .slice h0.a1 d0.tags.length h0.c1, .slice h0.a2 d0.links.length h0.c2, .slice h0.a3 d0.run.length h0.c3, .slice h0.a4 d0.load.length h0.c4, .string d0.nm, .int .i64 d0.prio, .string d0.owner, .string d0.group, .int .i64 d0.mode, .string d0.res, .int .i64 d0.calls, .int .i64 d0.ticks, .slice h0.a5 d0.closed.length h0.c5]) (by kernel_rfl) rfl (by kernel_rfl) (by kernel_rfl) (by kernel_rfl) (fun _ _ _ h => h) (Or.inl ⟨by rfl, fun w' hS => by (have u0_ := hS.1.1 0 _ rfl; have u1_ := hS.1.1 1 _ rfl; have u2_ := hS.1.1 2 _ rfl; have u3_ := hS.1.1 3 _ rfl; have u4_ := hS.1.1 4 _ rfl; have u5_ := hS.1.1 5 _ rfl; have u6_ := hS.1.1 6 _ rfl; have u7_ := hS.1.1 7 _ rfl; have u8_ := hS.1.1 8 _ rfl; have u9_ := hS.1.1 9 _ rfl; have u10_ := hS.1.1 10 _ rfl; have u11_ := hS.1.1 11 _ rfl; have u12_ := hS.1.1 12 _ rfl; have u13_ := hS.1.1 13 _ rfl; go_simp)⟩) ⟨dwe.out, xwe.out⟩ ?_
  try simp only [Act.put, List.setIfInBounds_toArray, List.set_cons_zero, List.set_cons_succ]
  refine wpAnyHL_take (i := 1) (oi := ⟨some 41, _, _, _, _, _⟩) (v := .agg #[.int .i64 key, .string ByteArray.empty, .int .i64 4, .string ByteArray.empty]) (by kernel_rfl) rfl (by kernel_rfl) (by kernel_rfl) (by kernel_rfl) (fun _ _ _ h => h) (Or.inl ⟨by rfl, fun w' hS => by (have u0_ := hS.2.1 0 _ rfl; have u1_ := hS.2.1 1 _ rfl; have u2_ := hS.2.1 2 _ rfl; have u3_ := hS.2.1 3 _ rfl; go_simp)⟩) ⟨dwe.out, xwe.out⟩ ?_
  try simp only [Act.put, List.setIfInBounds_toArray, List.set_cons_zero, List.set_cons_succ]
  refine wpAnyHL_take (i := 2) (oi := ⟨some 42, _, _, _, _, _⟩) (v := .string b) (by kernel_rfl) rfl (by kernel_rfl) (by kernel_rfl) (by kernel_rfl) (fun _ _ _ h => h) (Or.inl ⟨by rfl, fun w' hS => by go_simp⟩) ⟨dwe.out, xwe.out⟩ ?_
  try simp only [Act.put, List.setIfInBounds_toArray, List.set_cons_zero, List.set_cons_succ]
  refine wpAnyHL_take (i := 4) (oi := ⟨some 44, _, _, _, _, _⟩) (v := .agg #[.int .i64 key, .string ByteArray.empty, .int .i64 4, .string ByteArray.empty]) (by kernel_rfl) rfl (by kernel_rfl) (by kernel_rfl) (by kernel_rfl) (fun _ _ _ h => h) (Or.inl ⟨by rfl, fun w' hS => by (have u0_ := hS.2.1 0 _ rfl; have u1_ := hS.2.1 1 _ rfl; have u2_ := hS.2.1 2 _ rfl; have u3_ := hS.2.1 3 _ rfl; go_simp)⟩) ⟨dwe.out, xwe.out⟩ ?_
  try simp only [Act.put, List.setIfInBounds_toArray, List.set_cons_zero, List.set_cons_succ]
  refine wpAnyHL_take (i := 5) (oi := ⟨some 45, _, _, _, _, _⟩) (v := .string a) (by kernel_rfl) rfl (by kernel_rfl) (by kernel_rfl) (by kernel_rfl) (fun _ _ _ h => h) (Or.inl ⟨by rfl, fun w' hS => by go_simp⟩) ⟨dwe.out, xwe.out⟩ ?_
  try simp only [Act.put, List.setIfInBounds_toArray, List.set_cons_zero, List.set_cons_succ]
  refine wpAnyHL_ready (rs := [3, 7]) (by kernel_rfl) (by simp) ?_
  refine AllReadyHL.cons (o := ⟨some 43, .call ⟨_, _, _⟩, _, _, _, _⟩) rfl (fun K hK => ?_) (AllReadyHL.cons (o := ⟨some 11, .alloc _, _, _, _, _⟩) rfl (fun K hK => ?_) (AllReadyHL.nil))
  ·
   go_simp
   go_at_call 14
   refine Calls.mono (R := fun e w' => DPost (fun y => y = w7.heap.size) (applyD d0 xt b) we e w') ?_ ?_
   ·
    have hap := Apply_any d0 h0 xt b (fun y => y = w7.heap.size) we (fun x hx => by have := HWBwe.out.size; have := HGw8.out; have := HSB8.out; subst hx; omega) (HNDwe.out.more (fun x _ q => .inr (by have := HGw8.out; have := HWBwe.out.size; have := HSB8.out; subst q; omega))) HP0.out HOT.out HTG.out (by have := HBS.out; omega) (HOK.out.next HBwe.out) (H7.out.below HBwe.out)
    rw [← HXT.out] at hap ⊢
    exact hap
   rintro e' q20 ⟨hb_, hA, rfl, hf_⟩
   have HSq20 := Lib.hid (show we.heap.size ≤ q20.heap.size from hb_.size)
   have HBq20 := Lib.hid (HBwe.out.trans (hb_.mono HBwe.out.size))
   have dq20 := Lib.hid (dwe.out.kept (grown_none hb_) (fun e => by cases e))
   have xq20 := Lib.hid (xwe.out.kept (grown_none hb_) (fun e => by cases e))
   have pq20 := Lib.hid (pwe.out.kept (grown_none hb_) (fun e => by cases e))
   have HNDq20 := Lib.hid (HNDwe.out.below hb_)
   have HDAq20 := Lib.hid (HDAwe.out.below hb_)
   have HWBq20 := Lib.hid (below_next HWBwe.out hb_)
   have HEq20 := Lib.hid hf_
   clear hb_ hf_
   refine hK.out _ _ (fun _ => ⟨dq20.out, xq20.out⟩) ?_
   clear hK K
   try simp only [Act.put, List.setIfInBounds_toArray, List.set_cons_zero, List.set_cons_succ]
   refine wpAnyHL_ready (rs := [6, 7]) (by kernel_rfl) (by simp) ?_
   refine AllReadyHL.cons (o := ⟨some 46, .call ⟨_, _, _⟩, _, _, _, _⟩) rfl (fun K hK => ?_) (AllReadyHL.cons (o := ⟨some 11, .alloc _, _, _, _, _⟩) rfl (fun K hK => ?_) (AllReadyHL.nil))
   ·
    go_simp
    go_at_call 14
    refine Calls.mono (R := fun e w' => DPost (fun y => y = w7.heap.size) (applyD (applyD d0 xt b) xt a) q20 e w') ?_ ?_
    ·
     have hap := Apply_any (applyD d0 xt b) hA xt a (fun y => y = w7.heap.size) q20 (fun x hx => by have := HWBq20.out.size; have := HGw8.out; have := HSB8.out; subst hx; omega) HEq20.out HPB.out HOT.out HTG.out (by have := HAS.out; omega) (HOK.out.next HBq20.out) (H7.out.below HBq20.out)
     rw [← HXT.out] at hap ⊢
     exact hap
    rintro e' q21 ⟨hb_, hB, rfl, hf_⟩
    have HSq21 := Lib.hid (show q20.heap.size ≤ q21.heap.size from hb_.size)
    have HBq21 := Lib.hid (HBq20.out.trans (hb_.mono HBq20.out.size))
    have dq21 := Lib.hid (dq20.out.kept (grown_none hb_) (fun e => by cases e))
    have xq21 := Lib.hid (xq20.out.kept (grown_none hb_) (fun e => by cases e))
    have pq21 := Lib.hid (pq20.out.kept (grown_none hb_) (fun e => by cases e))
    have HNDq21 := Lib.hid (HNDq20.out.below hb_)
    have HDAq21 := Lib.hid (HDAq20.out.below hb_)
    have HWBq21 := Lib.hid (below_next HWBq20.out hb_)
    have HEq21 := Lib.hid hf_
    clear hb_ hf_
    refine hK.out _ _ (fun _ => ⟨dq21.out, xq21.out⟩) ?_
    clear hK K
    try simp only [Act.put, List.setIfInBounds_toArray, List.set_cons_zero, List.set_cons_succ]
    refine wpAnyHL_ready (rs := [7]) (by kernel_rfl) (by simp) ?_
    refine AllReadyHL.cons (o := ⟨some 11, .alloc _, _, _, _, _⟩) rfl (fun K hK => ?_) (AllReadyHL.nil)
    have HEM := Lib.hid (HEq21.out.more (N' := fun y => y = w7.heap.size ∨ y = q21.heap.size) (fun x hx q => q.elim (fun h => h) (fun h => by omega)))
    have hzv := HZV.out
    go_simp
    clear hzv
    obtain ⟨q22, hq22⟩ : ∃ z, q21.alloc (.cells #[.slice none 0 0, .slice none 0 0, .slice none 0 0, .slice none 0 0, .slice none 0 0, .string ByteArray.empty, .int .i64 0, .string ByteArray.empty, .string ByteArray.empty, .int .i64 0, .string ByteArray.empty, .int .i64 0, .int .i64 0, .slice none 0 0] 30) = z := ⟨_, rfl⟩
    have hb_ : Below q21.heap.size q21 q22 := by rw [← hq22]; exact (Below.refl _ _).alloc (Nat.le_refl _) _
    have HXz := Lib.hid (show BoxL q22 q21.heap.size [.slice none 0 0, .slice none 0 0, .slice none 0 0, .slice none 0 0, .slice none 0 0, .string ByteArray.empty, .int .i64 0, .string ByteArray.empty, .string ByteArray.empty, .int .i64 0, .string ByteArray.empty, .int .i64 0, .int .i64 0, .slice none 0 0] from box_mk hq22)
    have HGZ := Lib.hid (show wA.heap.size ≤ q21.heap.size ∧ q21.heap.size < q22.heap.size from ⟨HWBq21.out.size, by rw [← hq22]; simp⟩)
    try rw [hq22]
    clear hq22
    have HSq22 := Lib.hid (show q21.heap.size ≤ q22.heap.size from hb_.size)
    have HBq22 := Lib.hid (HBq21.out.trans (hb_.mono HBq21.out.size))
    have dq22 := Lib.hid (dq21.out.kept (grown_none hb_) (fun e => by cases e))
    have xq22 := Lib.hid (xq21.out.kept (grown_none hb_) (fun e => by cases e))
    have pq22 := Lib.hid (pq21.out.kept (grown_none hb_) (fun e => by cases e))
    have HNDq22 := Lib.hid (HNDq21.out.below hb_)
    have HDAq22 := Lib.hid (HDAq21.out.below hb_)
    have HWBq22 := Lib.hid (below_next HWBq21.out hb_)
    have HEq22 := Lib.hid (HEM.out.below hb_)
    clear hb_
    have HGL := Lib.hid (show q21.heap.size < q22.heap.size from HGZ.out.2)
    refine hK.out _ _ (fun _ => ⟨dq22.out, xq22.out⟩) ?_
    clear hK K
    try simp only [Act.put, List.setIfInBounds_toArray, List.set_cons_zero, List.set_cons_succ]
    refine wpAnyHL_ready (rs := [8]) (by kernel_rfl) (by simp) ?_
    refine AllReadyHL.cons (o := ⟨none, .store _ _ _, _, _, _, _⟩) rfl (fun K hK => ?_) (AllReadyHL.nil)
    have cz0 := HXz.out.1 0 _ rfl
    have cz1 := HXz.out.1 1 _ rfl
    have cz2 := HXz.out.1 2 _ rfl
    have cz3 := HXz.out.1 3 _ rfl
    have cz4 := HXz.out.1 4 _ rfl
    have cz5 := HXz.out.1 5 _ rfl
    have cz6 := HXz.out.1 6 _ rfl
    have cz7 := HXz.out.1 7 _ rfl
    have cz8 := HXz.out.1 8 _ rfl
    have cz9 := HXz.out.1 9 _ rfl
    have cz10 := HXz.out.1 10 _ rfl
    have cz11 := HXz.out.1 11 _ rfl
    have cz12 := HXz.out.1 12 _ rfl
    have cz13 := HXz.out.1 13 _ rfl
    have cfz := HXz.out.2.1
    go_simp
    clear cz0 cz1 cz2 cz3 cz4 cz5 cz6 cz7 cz8 cz9 cz10 cz11 cz12 cz13 cfz
    obtain ⟨Dx, hDx⟩ : ∃ z, applyD (applyD d0 xt b) xt a = z := ⟨_, rfl⟩
    have HDx := Lib.hid hDx
    have hE := HEq22.out
    rw [hDx] at hE ⊢
    obtain ⟨q23, hq23⟩ : ∃ z, set14 q22 (q21.heap.size) (.slice hB.a0 Dx.props.length hB.c0) (.slice hB.a1 Dx.tags.length hB.c1) (.slice hB.a2 Dx.links.length hB.c2) (.slice hB.a3 Dx.run.length hB.c3) (.slice hB.a4 Dx.load.length hB.c4) (.string Dx.nm) (.int .i64 Dx.prio) (.string Dx.owner) (.string Dx.group) (.int .i64 Dx.mode) (.string Dx.res) (.int .i64 Dx.calls) (.int .i64 Dx.ticks) (.slice hB.a5 Dx.closed.length hB.c5) = z := ⟨_, rfl⟩
    have hgs : q22.grownBy q23 (some (q21.heap.size)) := by rw [← hq23]; exact grown14 _ _ _ _ _ _ _ _ _ _ _ _ _ _ _ _
    have HXS := Lib.hid (show BoxL q23 (q21.heap.size) [.slice hB.a0 Dx.props.length hB.c0, .slice hB.a1 Dx.tags.length hB.c1, .slice hB.a2 Dx.links.length hB.c2, .slice hB.a3 Dx.run.length hB.c3, .slice hB.a4 Dx.load.length hB.c4, .string Dx.nm, .int .i64 Dx.prio, .string Dx.owner, .string Dx.group, .int .i64 Dx.mode, .string Dx.res, .int .i64 Dx.calls, .int .i64 Dx.ticks, .slice hB.a5 Dx.closed.length hB.c5] by rw [← hq23]; exact HXz.out.set14 _ _ _ _ _ _ _ _ _ _ _ _ _ _)
    unfold set14 at hq23
    rw [hq23]
    clear hq23 hDx
    have HES := Lib.hid ((hE.grown hgs (.inl (.inr rfl))).more (N' := fun y => y = w7.heap.size) (fun x _ q => .inl q))
    have HWS := Lib.hid (HWBq22.out.grown hgs HWBq22.out.size (fun q hq => by have := Option.some.inj hq; have := HGZ.out.1; omega))
    clear hgs hE
    refine hK.out _ _ (fun h_ => by cases h_) ?_
    clear hK K
    try simp only [Act.put, List.setIfInBounds_toArray, List.set_cons_zero, List.set_cons_succ]
    refine wpAnyHL_done (by kernel_rfl) ?_ _
    go_wp2_with fail
    go_meet
    exact ⟨q21.heap.size, hB, rfl, Lib.hid (by rw [← HD2.out, HDx.out]; exact ⟨HWS.out, HXS.out, HES.out, HGZ.out.1⟩)⟩
   ·
    have HEM := Lib.hid (HEq20.out.more (N' := fun y => y = w7.heap.size ∨ y = q20.heap.size) (fun x hx q => q.elim (fun h => h) (fun h => by omega)))
    have hzv := HZV.out
    go_simp
    clear hzv
    obtain ⟨q24, hq24⟩ : ∃ z, q20.alloc (.cells #[.slice none 0 0, .slice none 0 0, .slice none 0 0, .slice none 0 0, .slice none 0 0, .string ByteArray.empty, .int .i64 0, .string ByteArray.empty, .string ByteArray.empty, .int .i64 0, .string ByteArray.empty, .int .i64 0, .int .i64 0, .slice none 0 0] 30) = z := ⟨_, rfl⟩
    have hb_ : Below q20.heap.size q20 q24 := by rw [← hq24]; exact (Below.refl _ _).alloc (Nat.le_refl _) _
    have HXz := Lib.hid (show BoxL q24 q20.heap.size [.slice none 0 0, .slice none 0 0, .slice none 0 0, .slice none 0 0, .slice none 0 0, .string ByteArray.empty, .int .i64 0, .string ByteArray.empty, .string ByteArray.empty, .int .i64 0, .string ByteArray.empty, .int .i64 0, .int .i64 0, .slice none 0 0] from box_mk hq24)
    have HGZ := Lib.hid (show wA.heap.size ≤ q20.heap.size ∧ q20.heap.size < q24.heap.size from ⟨HWBq20.out.size, by rw [← hq24]; simp⟩)
    try rw [hq24]
    clear hq24
    have HSq24 := Lib.hid (show q20.heap.size ≤ q24.heap.size from hb_.size)
    have HBq24 := Lib.hid (HBq20.out.trans (hb_.mono HBq20.out.size))
    have dq24 := Lib.hid (dq20.out.kept (grown_none hb_) (fun e => by cases e))
    have xq24 := Lib.hid (xq20.out.kept (grown_none hb_) (fun e => by cases e))
    have pq24 := Lib.hid (pq20.out.kept (grown_none hb_) (fun e => by cases e))
    have HNDq24 := Lib.hid (HNDq20.out.below hb_)
    have HDAq24 := Lib.hid (HDAq20.out.below hb_)
    have HWBq24 := Lib.hid (below_next HWBq20.out hb_)
    have HEq24 := Lib.hid (HEM.out.below hb_)
    clear hb_
    have HGL := Lib.hid (show q20.heap.size < q24.heap.size from HGZ.out.2)
    refine hK.out _ _ (fun _ => ⟨dq24.out, xq24.out⟩) ?_
    clear hK K
    try simp only [Act.put, List.setIfInBounds_toArray, List.set_cons_zero, List.set_cons_succ]
    refine wpAnyHL_ready (rs := [6]) (by kernel_rfl) (by simp) ?_
    refine AllReadyHL.cons (o := ⟨some 46, .call ⟨_, _, _⟩, _, _, _, _⟩) rfl (fun K hK => ?_) (AllReadyHL.nil)
    go_simp
    go_at_call 14
    refine Calls.mono (R := fun e w' => DPost (fun y => y = w7.heap.size ∨ y = q20.heap.size) (applyD (applyD d0 xt b) xt a) q24 e w') ?_ ?_
    ·
     have hap := Apply_any (applyD d0 xt b) hA xt a (fun y => y = w7.heap.size ∨ y = q20.heap.size) q24 (fun x hx => by have := HWBq24.out.size; have := HGw8.out; have := HSB8.out; rcases hx with rfl | rfl; omega; have := HGL.out; omega) HEq24.out HPB.out HOT.out HTG.out (by have := HAS.out; omega) (HOK.out.next HBq24.out) (H7.out.below HBq24.out)
     rw [← HXT.out] at hap ⊢
     exact hap
    rintro e' q25 ⟨hb_, hB, rfl, hf_⟩
    have HSq25 := Lib.hid (show q24.heap.size ≤ q25.heap.size from hb_.size)
    have HBq25 := Lib.hid (HBq24.out.trans (hb_.mono HBq24.out.size))
    have dq25 := Lib.hid (dq24.out.kept (grown_none hb_) (fun e => by cases e))
    have xq25 := Lib.hid (xq24.out.kept (grown_none hb_) (fun e => by cases e))
    have pq25 := Lib.hid (pq24.out.kept (grown_none hb_) (fun e => by cases e))
    have zq25 := Lib.hid (HXz.out.kept (grown_none hb_) (fun e => by cases e))
    have HNDq25 := Lib.hid (HNDq24.out.below hb_)
    have HDAq25 := Lib.hid (HDAq24.out.below hb_)
    have HWBq25 := Lib.hid (below_next HWBq24.out hb_)
    have HGLq25 := Lib.hid (Nat.lt_of_lt_of_le HGL.out (hb_).size)
    have HEq25 := Lib.hid hf_
    clear hb_ hf_
    refine hK.out _ _ (fun _ => ⟨dq25.out, xq25.out⟩) ?_
    clear hK K
    try simp only [Act.put, List.setIfInBounds_toArray, List.set_cons_zero, List.set_cons_succ]
    refine wpAnyHL_ready (rs := [8]) (by kernel_rfl) (by simp) ?_
    refine AllReadyHL.cons (o := ⟨none, .store _ _ _, _, _, _, _⟩) rfl (fun K hK => ?_) (AllReadyHL.nil)
    have cz0 := zq25.out.1 0 _ rfl
    have cz1 := zq25.out.1 1 _ rfl
    have cz2 := zq25.out.1 2 _ rfl
    have cz3 := zq25.out.1 3 _ rfl
    have cz4 := zq25.out.1 4 _ rfl
    have cz5 := zq25.out.1 5 _ rfl
    have cz6 := zq25.out.1 6 _ rfl
    have cz7 := zq25.out.1 7 _ rfl
    have cz8 := zq25.out.1 8 _ rfl
    have cz9 := zq25.out.1 9 _ rfl
    have cz10 := zq25.out.1 10 _ rfl
    have cz11 := zq25.out.1 11 _ rfl
    have cz12 := zq25.out.1 12 _ rfl
    have cz13 := zq25.out.1 13 _ rfl
    have cfz := zq25.out.2.1
    go_simp
    clear cz0 cz1 cz2 cz3 cz4 cz5 cz6 cz7 cz8 cz9 cz10 cz11 cz12 cz13 cfz
    obtain ⟨Dx, hDx⟩ : ∃ z, applyD (applyD d0 xt b) xt a = z := ⟨_, rfl⟩
    have HDx := Lib.hid hDx
    have hE := HEq25.out
    rw [hDx] at hE ⊢
    obtain ⟨q26, hq26⟩ : ∃ z, set14 q25 (q20.heap.size) (.slice hB.a0 Dx.props.length hB.c0) (.slice hB.a1 Dx.tags.length hB.c1) (.slice hB.a2 Dx.links.length hB.c2) (.slice hB.a3 Dx.run.length hB.c3) (.slice hB.a4 Dx.load.length hB.c4) (.string Dx.nm) (.int .i64 Dx.prio) (.string Dx.owner) (.string Dx.group) (.int .i64 Dx.mode) (.string Dx.res) (.int .i64 Dx.calls) (.int .i64 Dx.ticks) (.slice hB.a5 Dx.closed.length hB.c5) = z := ⟨_, rfl⟩
    have hgs : q25.grownBy q26 (some (q20.heap.size)) := by rw [← hq26]; exact grown14 _ _ _ _ _ _ _ _ _ _ _ _ _ _ _ _
    have HXS := Lib.hid (show BoxL q26 (q20.heap.size) [.slice hB.a0 Dx.props.length hB.c0, .slice hB.a1 Dx.tags.length hB.c1, .slice hB.a2 Dx.links.length hB.c2, .slice hB.a3 Dx.run.length hB.c3, .slice hB.a4 Dx.load.length hB.c4, .string Dx.nm, .int .i64 Dx.prio, .string Dx.owner, .string Dx.group, .int .i64 Dx.mode, .string Dx.res, .int .i64 Dx.calls, .int .i64 Dx.ticks, .slice hB.a5 Dx.closed.length hB.c5] by rw [← hq26]; exact zq25.out.set14 _ _ _ _ _ _ _ _ _ _ _ _ _ _)
    unfold set14 at hq26
    rw [hq26]
    clear hq26 hDx
    have HES := Lib.hid ((hE.grown hgs (.inl (.inr rfl))).more (N' := fun y => y = w7.heap.size) (fun x _ q => .inl q))
    have HWS := Lib.hid (HWBq25.out.grown hgs HWBq25.out.size (fun q hq => by have := Option.some.inj hq; have := HGZ.out.1; omega))
    clear hgs hE
    refine hK.out _ _ (fun h_ => by cases h_) ?_
    clear hK K
    try simp only [Act.put, List.setIfInBounds_toArray, List.set_cons_zero, List.set_cons_succ]
    refine wpAnyHL_done (by kernel_rfl) ?_ _
    go_wp2_with fail
    go_meet
    exact ⟨q20.heap.size, hB, rfl, Lib.hid (by rw [← HD2.out, HDx.out]; exact ⟨HWS.out, HXS.out, HES.out, HGZ.out.1⟩)⟩
  ·
   have hzv := HZV.out
   go_simp
   clear hzv
   obtain ⟨q27, hq27⟩ : ∃ z, we.alloc (.cells #[.slice none 0 0, .slice none 0 0, .slice none 0 0, .slice none 0 0, .slice none 0 0, .string ByteArray.empty, .int .i64 0, .string ByteArray.empty, .string ByteArray.empty, .int .i64 0, .string ByteArray.empty, .int .i64 0, .int .i64 0, .slice none 0 0] 30) = z := ⟨_, rfl⟩
   have hb_ : Below we.heap.size we q27 := by rw [← hq27]; exact (Below.refl _ _).alloc (Nat.le_refl _) _
   have HXz := Lib.hid (show BoxL q27 we.heap.size [.slice none 0 0, .slice none 0 0, .slice none 0 0, .slice none 0 0, .slice none 0 0, .string ByteArray.empty, .int .i64 0, .string ByteArray.empty, .string ByteArray.empty, .int .i64 0, .string ByteArray.empty, .int .i64 0, .int .i64 0, .slice none 0 0] from box_mk hq27)
   have HGZ := Lib.hid (show wA.heap.size ≤ we.heap.size ∧ we.heap.size < q27.heap.size from ⟨HWBwe.out.size, by rw [← hq27]; simp⟩)
   try rw [hq27]
   clear hq27
   have HSq27 := Lib.hid (show we.heap.size ≤ q27.heap.size from hb_.size)
   have HBq27 := Lib.hid (HBwe.out.trans (hb_.mono HBwe.out.size))
   have dq27 := Lib.hid (dwe.out.kept (grown_none hb_) (fun e => by cases e))
   have xq27 := Lib.hid (xwe.out.kept (grown_none hb_) (fun e => by cases e))
   have pq27 := Lib.hid (pwe.out.kept (grown_none hb_) (fun e => by cases e))
   have HNDq27 := Lib.hid (HNDwe.out.below hb_)
   have HDAq27 := Lib.hid (HDAwe.out.below hb_)
   have HWBq27 := Lib.hid (below_next HWBwe.out hb_)
   clear hb_
   have HGL := Lib.hid (show we.heap.size < q27.heap.size from HGZ.out.2)
   refine hK.out _ _ (fun _ => ⟨dq27.out, xq27.out⟩) ?_
   clear hK K
   try simp only [Act.put, List.setIfInBounds_toArray, List.set_cons_zero, List.set_cons_succ]
   refine wpAnyHL_ready (rs := [3]) (by kernel_rfl) (by simp) ?_
   refine AllReadyHL.cons (o := ⟨some 43, .call ⟨_, _, _⟩, _, _, _, _⟩) rfl (fun K hK => ?_) (AllReadyHL.nil)
   go_simp
   go_at_call 14
   refine Calls.mono (R := fun e w' => DPost (fun y => y = w7.heap.size ∨ y = we.heap.size) (applyD d0 xt b) q27 e w') ?_ ?_
   ·
    have hap := Apply_any d0 h0 xt b (fun y => y = w7.heap.size ∨ y = we.heap.size) q27 (fun x hx => by have := HWBq27.out.size; have := HGw8.out; have := HSB8.out; rcases hx with rfl | rfl; omega; have := HGL.out; omega) (HNDq27.out.more (fun x _ q => .inr (by have := HGw8.out; have := HWBq27.out.size; have := HSB8.out; have := HGZ.out.1; rcases q with rfl | rfl; omega; have := HGL.out; omega))) HP0.out HOT.out HTG.out (by have := HBS.out; omega) (HOK.out.next HBq27.out) (H7.out.below HBq27.out)
    rw [← HXT.out] at hap ⊢
    exact hap
   rintro e' q28 ⟨hb_, hA, rfl, hf_⟩
   have HSq28 := Lib.hid (show q27.heap.size ≤ q28.heap.size from hb_.size)
   have HBq28 := Lib.hid (HBq27.out.trans (hb_.mono HBq27.out.size))
   have dq28 := Lib.hid (dq27.out.kept (grown_none hb_) (fun e => by cases e))
   have xq28 := Lib.hid (xq27.out.kept (grown_none hb_) (fun e => by cases e))
   have pq28 := Lib.hid (pq27.out.kept (grown_none hb_) (fun e => by cases e))
   have zq28 := Lib.hid (HXz.out.kept (grown_none hb_) (fun e => by cases e))
   have HNDq28 := Lib.hid (HNDq27.out.below hb_)
   have HDAq28 := Lib.hid (HDAq27.out.below hb_)
   have HWBq28 := Lib.hid (below_next HWBq27.out hb_)
   have HGLq28 := Lib.hid (Nat.lt_of_lt_of_le HGL.out (hb_).size)
   have HEq28 := Lib.hid hf_
   clear hb_ hf_
   refine hK.out _ _ (fun _ => ⟨dq28.out, xq28.out⟩) ?_
   clear hK K
   try simp only [Act.put, List.setIfInBounds_toArray, List.set_cons_zero, List.set_cons_succ]
   refine wpAnyHL_ready (rs := [6]) (by kernel_rfl) (by simp) ?_
   refine AllReadyHL.cons (o := ⟨some 46, .call ⟨_, _, _⟩, _, _, _, _⟩) rfl (fun K hK => ?_) (AllReadyHL.nil)
   go_simp
   go_at_call 14
   refine Calls.mono (R := fun e w' => DPost (fun y => y = w7.heap.size ∨ y = we.heap.size) (applyD (applyD d0 xt b) xt a) q28 e w') ?_ ?_
   ·
    have hap := Apply_any (applyD d0 xt b) hA xt a (fun y => y = w7.heap.size ∨ y = we.heap.size) q28 (fun x hx => by have := HWBq28.out.size; have := HGw8.out; have := HSB8.out; rcases hx with rfl | rfl; omega; have := HGLq28.out; omega) HEq28.out HPB.out HOT.out HTG.out (by have := HAS.out; omega) (HOK.out.next HBq28.out) (H7.out.below HBq28.out)
    rw [← HXT.out] at hap ⊢
    exact hap
   rintro e' q29 ⟨hb_, hB, rfl, hf_⟩
   have HSq29 := Lib.hid (show q28.heap.size ≤ q29.heap.size from hb_.size)
   have HBq29 := Lib.hid (HBq28.out.trans (hb_.mono HBq28.out.size))
   have dq29 := Lib.hid (dq28.out.kept (grown_none hb_) (fun e => by cases e))
   have xq29 := Lib.hid (xq28.out.kept (grown_none hb_) (fun e => by cases e))
   have pq29 := Lib.hid (pq28.out.kept (grown_none hb_) (fun e => by cases e))
   have zq29 := Lib.hid (zq28.out.kept (grown_none hb_) (fun e => by cases e))
   have HNDq29 := Lib.hid (HNDq28.out.below hb_)
   have HDAq29 := Lib.hid (HDAq28.out.below hb_)
   have HWBq29 := Lib.hid (below_next HWBq28.out hb_)
   have HGLq29 := Lib.hid (Nat.lt_of_lt_of_le HGLq28.out (hb_).size)
   have HEq29 := Lib.hid hf_
   clear hb_ hf_
   refine hK.out _ _ (fun _ => ⟨dq29.out, xq29.out⟩) ?_
   clear hK K
   try simp only [Act.put, List.setIfInBounds_toArray, List.set_cons_zero, List.set_cons_succ]
   refine wpAnyHL_ready (rs := [8]) (by kernel_rfl) (by simp) ?_
   refine AllReadyHL.cons (o := ⟨none, .store _ _ _, _, _, _, _⟩) rfl (fun K hK => ?_) (AllReadyHL.nil)
   have cz0 := zq29.out.1 0 _ rfl
   have cz1 := zq29.out.1 1 _ rfl
   have cz2 := zq29.out.1 2 _ rfl
   have cz3 := zq29.out.1 3 _ rfl
   have cz4 := zq29.out.1 4 _ rfl
   have cz5 := zq29.out.1 5 _ rfl
   have cz6 := zq29.out.1 6 _ rfl
   have cz7 := zq29.out.1 7 _ rfl
   have cz8 := zq29.out.1 8 _ rfl
   have cz9 := zq29.out.1 9 _ rfl
   have cz10 := zq29.out.1 10 _ rfl
   have cz11 := zq29.out.1 11 _ rfl
   have cz12 := zq29.out.1 12 _ rfl
   have cz13 := zq29.out.1 13 _ rfl
   have cfz := zq29.out.2.1
   go_simp
   clear cz0 cz1 cz2 cz3 cz4 cz5 cz6 cz7 cz8 cz9 cz10 cz11 cz12 cz13 cfz
   obtain ⟨Dx, hDx⟩ : ∃ z, applyD (applyD d0 xt b) xt a = z := ⟨_, rfl⟩
   have HDx := Lib.hid hDx
   have hE := HEq29.out
   rw [hDx] at hE ⊢
   obtain ⟨q30, hq30⟩ : ∃ z, set14 q29 (we.heap.size) (.slice hB.a0 Dx.props.length hB.c0) (.slice hB.a1 Dx.tags.length hB.c1) (.slice hB.a2 Dx.links.length hB.c2) (.slice hB.a3 Dx.run.length hB.c3) (.slice hB.a4 Dx.load.length hB.c4) (.string Dx.nm) (.int .i64 Dx.prio) (.string Dx.owner) (.string Dx.group) (.int .i64 Dx.mode) (.string Dx.res) (.int .i64 Dx.calls) (.int .i64 Dx.ticks) (.slice hB.a5 Dx.closed.length hB.c5) = z := ⟨_, rfl⟩
   have hgs : q29.grownBy q30 (some (we.heap.size)) := by rw [← hq30]; exact grown14 _ _ _ _ _ _ _ _ _ _ _ _ _ _ _ _
   have HXS := Lib.hid (show BoxL q30 (we.heap.size) [.slice hB.a0 Dx.props.length hB.c0, .slice hB.a1 Dx.tags.length hB.c1, .slice hB.a2 Dx.links.length hB.c2, .slice hB.a3 Dx.run.length hB.c3, .slice hB.a4 Dx.load.length hB.c4, .string Dx.nm, .int .i64 Dx.prio, .string Dx.owner, .string Dx.group, .int .i64 Dx.mode, .string Dx.res, .int .i64 Dx.calls, .int .i64 Dx.ticks, .slice hB.a5 Dx.closed.length hB.c5] by rw [← hq30]; exact zq29.out.set14 _ _ _ _ _ _ _ _ _ _ _ _ _ _)
   unfold set14 at hq30
   rw [hq30]
   clear hq30 hDx
   have HES := Lib.hid ((hE.grown hgs (.inl (.inr rfl))).more (N' := fun y => y = w7.heap.size) (fun x _ q => .inl q))
   have HWS := Lib.hid (HWBq29.out.grown hgs HWBq29.out.size (fun q hq => by have := Option.some.inj hq; have := HGZ.out.1; omega))
   clear hgs hE
   refine hK.out _ _ (fun h_ => by cases h_) ?_
   clear hK K
   try simp only [Act.put, List.setIfInBounds_toArray, List.set_cons_zero, List.set_cons_succ]
   refine wpAnyHL_done (by kernel_rfl) ?_ _
   go_wp2_with fail
   go_meet
   exact ⟨we.heap.size, hB, rfl, Lib.hid (by rw [← HD2.out, HDx.out]; exact ⟨HWS.out, HXS.out, HES.out, HGZ.out.1⟩)⟩
 case rest =>
 obtain ⟨g2, h2, rfl, HC2⟩ := hcut
 obtain ⟨wB, rfl⟩ : ∃ z, z = wc := ⟨_, rfl⟩
 have hbB := HC2.out.1
 have HSwB := Lib.hid (show wA.heap.size ≤ wB.heap.size from hbB.size)
 have HBwB := Lib.hid (HBwA.out.trans (hbB.mono HBwA.out.size))
 have dwB := Lib.hid (dwA.out.kept (grown_none hbB) (fun e => by cases e))
 have xwB := Lib.hid (xwA.out.kept (grown_none hbB) (fun e => by cases e))
 have pwB := Lib.hid (HXp.out.kept (grown_none hbB) (fun e => by cases e))
 have HNDwB := Lib.hid (HNDwA.out.below hbB)
 have HDAwB := Lib.hid (HDA.out.below hbB)
 clear hbB
 have HEQ := Lib.hid (show D2 = D1 by rw [← HD2.out, ← HD1.out, ← HXT.out, ← HD0.out]; exact HOR.out)
 have hc2 := HC2.out
 rw [HEQ.out] at hc2
 have HXq := Lib.hid (show BoxL wB g2 [.slice h2.a0 D1.props.length h2.c0, .slice h2.a1 D1.tags.length h2.c1, .slice h2.a2 D1.links.length h2.c2, .slice h2.a3 D1.run.length h2.c3, .slice h2.a4 D1.load.length h2.c4, .string D1.nm, .int .i64 D1.prio, .string D1.owner, .string D1.group, .int .i64 D1.mode, .string D1.res, .int .i64 D1.calls, .int .i64 D1.ticks, .slice h2.a5 D1.closed.length h2.c5] from hc2.2.1); have HDB := Lib.hid hc2.2.2.1
 clear hc2
 have cp0 := pwB.out.1 0 _ rfl
 have cp1 := pwB.out.1 1 _ rfl
 have cp2 := pwB.out.1 2 _ rfl
 have cp3 := pwB.out.1 3 _ rfl
 have cp4 := pwB.out.1 4 _ rfl
 have cp5 := pwB.out.1 5 _ rfl
 have cp6 := pwB.out.1 6 _ rfl
 have cp7 := pwB.out.1 7 _ rfl
 have cp8 := pwB.out.1 8 _ rfl
 have cp9 := pwB.out.1 9 _ rfl
 have cp10 := pwB.out.1 10 _ rfl
 have cp11 := pwB.out.1 11 _ rfl
 have cp12 := pwB.out.1 12 _ rfl
 have cp13 := pwB.out.1 13 _ rfl
 have cq0 := HXq.out.1 0 _ rfl
 have cq1 := HXq.out.1 1 _ rfl
 have cq2 := HXq.out.1 2 _ rfl
 have cq3 := HXq.out.1 3 _ rfl
 have cq4 := HXq.out.1 4 _ rfl
 have cq5 := HXq.out.1 5 _ rfl
 have cq6 := HXq.out.1 6 _ rfl
 have cq7 := HXq.out.1 7 _ rfl
 have cq8 := HXq.out.1 8 _ rfl
 have cq9 := HXq.out.1 9 _ rfl
 have cq10 := HXq.out.1 10 _ rfl
 have cq11 := HXq.out.1 11 _ rfl
 have cq12 := HXq.out.1 12 _ rfl
 have cq13 := HXq.out.1 13 _ rfl
 go_wp2_with fail
 refine (SameDraft_same D1 h1 h2 _ HDAwB.out.sl HDB.out.sl).mono ?_
 rintro e wC ⟨rfl, hbwC⟩
 clear cp0 cp1 cp2 cp3 cp4 cp5 cp6 cp7 cp8 cp9 cp10 cp11 cp12 cp13 cq0 cq1 cq2 cq3 cq4 cq5 cq6 cq7 cq8 cq9 cq10 cq11 cq12 cq13
 have HSwC := Lib.hid (show wB.heap.size ≤ wC.heap.size from hbwC.size)
 have HBwC := Lib.hid (HBwB.out.trans (hbwC.mono HBwB.out.size))
 have dwC := Lib.hid (dwB.out.kept (grown_none hbwC) (fun e => by cases e))
 have xwC := Lib.hid (xwB.out.kept (grown_none hbwC) (fun e => by cases e))
 have pwC := Lib.hid (pwB.out.kept (grown_none hbwC) (fun e => by cases e))
 have qwC := Lib.hid (HXq.out.kept (grown_none hbwC) (fun e => by cases e))
 have HNDwC := Lib.hid (HNDwB.out.below hbwC)
 have HDAwC := Lib.hid (HDAwB.out.below hbwC)
 have HDBwC := Lib.hid (HDB.out.below hbwC)
 clear hbwC
 by_cases k21 : key = 21
 ·
  have e21 : (key == 21) = true := by rw [k21]; rfl
  clear k21
  go_wp2_with fail
  refine (known13_any _ (HOK.out.next HBwC.out) (H7.out.below HBwC.out)).mono ?_
  rintro e w_ ⟨rfl, hb_⟩
  have HBE := Lib.hid (below_next HBwC.out hb_); clear hb_
  go_wp2
  go_ret
  exact ⟨by try rfl, HBE.out⟩
 have e21 : (key == 21) = false := by simpa using k21
 have HK21 := Lib.hid k21; clear k21
 have cx2 := xwC.out.1 2 _ rfl
 have cfx := xwC.out.2.1
 go_upto_region 14 with fail
 clear cx2 cfx
 have HGX := Lib.hid (show w.heap.size < w7.heap.size ∧ w2.heap.size < w7.heap.size ∧ w7.heap.size < g1 by have := HTB.out; have := HG1.out; have := HGw8.out; have := HGw3.out; have := HSw4.out; have := HSw5.out; have := HSw6.out; have := HSw7.out; omega)
 have hgs := grown_one wC (w7.heap.size) 2 (.int .i64 5)
 have hbx_ := xwC.out.set_ (j := 2) (by first | (simp; done) | decide) (.int .i64 5)
 obtain ⟨wD, hwD⟩ : ∃ z, wC.setCell ⟨w7.heap.size, 2, none⟩ (.int .i64 5) = z := ⟨_, rfl⟩
 rw [hwD] at hgs hbx_ ⊢
 clear hwD
 have HSwD := Lib.hid hgs.size
 have xwD := Lib.hid hbx_
 have HBwD := Lib.hid (HBwC.out.grown hgs HBwC.out.size (fun q hq => by have := Option.some.inj hq; have := HGX.out; omega))
 have dwD := Lib.hid (dwC.out.kept hgs (fun e => by have := Option.some.inj e; have := HGX.out; omega))
 have pwD := Lib.hid (pwC.out.kept hgs (fun e => by have := Option.some.inj e; have := HGX.out; omega))
 have HDAwD := Lib.hid (HDAwC.out.grown hgs (.inl rfl))
 clear hgs hbx_
 have HXx := Lib.hid (show BoxL wD w7.heap.size [.int .i64 key, .string ByteArray.empty, .int .i64 5, .string ByteArray.empty] from xwD.out)
 have cp0 := pwD.out.1 0 _ rfl
 have cp1 := pwD.out.1 1 _ rfl
 have cp2 := pwD.out.1 2 _ rfl
 have cp3 := pwD.out.1 3 _ rfl
 have cp4 := pwD.out.1 4 _ rfl
 have cp5 := pwD.out.1 5 _ rfl
 have cp6 := pwD.out.1 6 _ rfl
 have cp7 := pwD.out.1 7 _ rfl
 have cp8 := pwD.out.1 8 _ rfl
 have cp9 := pwD.out.1 9 _ rfl
 have cp10 := pwD.out.1 10 _ rfl
 have cp11 := pwD.out.1 11 _ rfl
 have cp12 := pwD.out.1 12 _ rfl
 have cp13 := pwD.out.1 13 _ rfl
 have cx0 := HXx.out.1 0 _ rfl
 have cx1 := HXx.out.1 1 _ rfl
 have cx2 := HXx.out.1 2 _ rfl
 have cx3 := HXx.out.1 3 _ rfl
 obtain ⟨xu, hxu⟩ : ∃ z, ordT key 5 = z := ⟨_, rfl⟩
 obtain ⟨D3, hD3⟩ : ∃ z, applyD D1 xu a = z := ⟨_, rfl⟩
 have HXU := Lib.hid hxu; have HD3 := Lib.hid hD3
 have HOU := Lib.hid (show okT xu by rw [← hxu]; exact ⟨show okI key by have h := HKEY.out; unfold okI; omega, show ByteArray.empty.size ≤ maxLen by decide +kernel, show okI 5 by unfold okI; decide, show ByteArray.empty.size ≤ maxLen by decide +kernel⟩)
 have HTU := Lib.hid (show xu.key = 7 → xu.op = 3 ∨ xu.op = 4 ∨ xu.op = 5 by rw [← hxu]; intro _; exact .inr (.inr rfl))
 clear hxu hD3
 go_wp2_with fail
 refine Calls.mono (R := fun e w' => DPost (fun _ => False) (applyD D1 xu a) wD e w') ?_ ?_
 ·
  have hap := Apply_any D1 h1 xu a (fun _ => False) wD (fun _ h => h.elim) (HDAwD.out.more (fun x _ q => q.elim)) HP1.out HOU.out HTU.out (by have := HAS.out; omega) (HOK.out.next HBwD.out) (H7.out.below HBwD.out)
  rw [← HXU.out] at hap ⊢
  exact hap
 rintro e wE ⟨hb, h3, rfl, hf_⟩
 rw [HD3.out] at hf_ ⊢
 clear cp0 cp1 cp2 cp3 cp4 cp5 cp6 cp7 cp8 cp9 cp10 cp11 cp12 cp13 cx0 cx1 cx2 cx3
 have HSwE := Lib.hid (show wD.heap.size ≤ wE.heap.size from hb.size)
 have HBwE := Lib.hid (HBwD.out.trans (hb.mono HBwD.out.size))
 clear hb
 have HDE := Lib.hid hf_.sl; clear hf_
 have hzv := HZV.out
 go_upto_region 15 with fail
 obtain ⟨w21, hw21⟩ : ∃ w21, wE.alloc (.cells #[.slice h3.a0 D3.props.length h3.c0, .slice h3.a1 D3.tags.length h3.c1, .slice h3.a2 D3.links.length h3.c2, .slice h3.a3 D3.run.length h3.c3, .slice h3.a4 D3.load.length h3.c4, .string D3.nm, .int .i64 D3.prio, .string D3.owner, .string D3.group, .int .i64 D3.mode, .string D3.res, .int .i64 D3.calls, .int .i64 D3.ticks, .slice h3.a5 D3.closed.length h3.c5] 30) = w21 := ⟨_, rfl⟩
 have hbw21 : Below wE.heap.size wE w21 := by rw [← hw21]; exact (Below.refl _ _).alloc (Nat.le_refl _) _
 have HGw21 := Lib.hid (show w21.heap.size = wE.heap.size + 1 by rw [← hw21]; simp)
 have HXtw21 := Lib.hid (show BoxL w21 wE.heap.size [.slice h3.a0 D3.props.length h3.c0, .slice h3.a1 D3.tags.length h3.c1, .slice h3.a2 D3.links.length h3.c2, .slice h3.a3 D3.run.length h3.c3, .slice h3.a4 D3.load.length h3.c4, .string D3.nm, .int .i64 D3.prio, .string D3.owner, .string D3.group, .int .i64 D3.mode, .string D3.res, .int .i64 D3.calls, .int .i64 D3.ticks, .slice h3.a5 D3.closed.length h3.c5] from box_mk hw21)
 try simp only [hw21]
 have HSTEPw21 := Lib.hid hbw21
 have HSw21 := Lib.hid (show wE.heap.size ≤ w21.heap.size from hbw21.size)
 have HBw21 := Lib.hid (HBwE.out.trans (hbw21.mono HBwE.out.size))
 have HDEw21 := Lib.hid ((HDE.out).next (Nat.le_refl _) hbw21)
 clear hw21 hbw21
 try rw [show wE.heap.size + 1 = w21.heap.size from HGw21.out.symm]
 clear hzv
 refine wp_region_held_late (S := fun w' => BoxL w' (wE.heap.size) [.slice h3.a0 D3.props.length h3.c0, .slice h3.a1 D3.tags.length h3.c1, .slice h3.a2 D3.links.length h3.c2, .slice h3.a3 D3.run.length h3.c3, .slice h3.a4 D3.load.length h3.c4, .string D3.nm, .int .i64 D3.prio, .string D3.owner, .string D3.group, .int .i64 D3.mode, .string D3.res, .int .i64 D3.calls, .int .i64 D3.ticks, .slice h3.a5 D3.closed.length h3.c5]) (late := fun i => false) (by kernel_rfl) ?_
 obtain ⟨wF, hwd⟩ : ∃ z, World.drew w21 = z := ⟨_, rfl⟩
 rw [hwd]
 have hb_ : Below w21.heap.size w21 wF := by rw [← hwd]; exact below_drewN_self _ _ 1
 clear hwd
 have HSwF := Lib.hid (show w21.heap.size ≤ wF.heap.size from hb_.size)
 have HBwF := Lib.hid (HBw21.out.trans (hb_.mono HBw21.out.size))
 have twF := Lib.hid (HXtw21.out.kept (grown_none hb_) (fun e => by cases e))
 have HDEwF := Lib.hid ((HDEw21.out).next (Nat.le_refl _) hb_)
 clear hb_
 refine wpAnyHL_take (i := 0) (oi := ⟨some 59, _, _, _, _, _⟩) (v := .pointer (some ⟨wE.heap.size, 1, none⟩)) (by kernel_rfl) rfl (by kernel_rfl) (by kernel_rfl) (by kernel_rfl) (fun _ _ _ h => h) (Or.inl ⟨by rfl, fun w' hS => by go_simp⟩) twF.out ?_
 try simp only [Act.put, List.setIfInBounds_toArray, List.set_cons_zero, List.set_cons_succ]
 refine wpAnyHL_take (i := 1) (oi := ⟨some 60, _, _, _, _, _⟩) (v := .slice h3.a1 D3.tags.length h3.c1) (by kernel_rfl) rfl (by kernel_rfl) (by kernel_rfl) (by kernel_rfl) (fun _ _ _ h => h) (Or.inl ⟨by rfl, fun w' hS => by (have u0_ := hS.1 1 _ rfl; go_simp)⟩) twF.out ?_
 try simp only [Act.put, List.setIfInBounds_toArray, List.set_cons_zero, List.set_cons_succ]
 refine wpAnyHL_take (i := 3) (oi := ⟨some 62, _, _, _, _, _⟩) (v := .pointer (some ⟨wE.heap.size, 2, none⟩)) (by kernel_rfl) rfl (by kernel_rfl) (by kernel_rfl) (by kernel_rfl) (fun _ _ _ h => h) (Or.inl ⟨by rfl, fun w' hS => by go_simp⟩) twF.out ?_
 try simp only [Act.put, List.setIfInBounds_toArray, List.set_cons_zero, List.set_cons_succ]
 refine wpAnyHL_take (i := 4) (oi := ⟨some 63, _, _, _, _, _⟩) (v := .slice h3.a2 D3.links.length h3.c2) (by kernel_rfl) rfl (by kernel_rfl) (by kernel_rfl) (by kernel_rfl) (fun _ _ _ h => h) (Or.inl ⟨by rfl, fun w' hS => by (have u0_ := hS.1 2 _ rfl; go_simp)⟩) twF.out ?_
 try simp only [Act.put, List.setIfInBounds_toArray, List.set_cons_zero, List.set_cons_succ]
 have HBT := Lib.hid (show wE.heap.size < wF.heap.size from twF.out.2.2)
 have hD3eq : D3 = ordThree key a b := by rw [← HD3.out, ← HXU.out, ← HD1.out, ← HXT.out, ← HD0.out]; rfl
 have HTL := Lib.hid (show D3.tags.length ≤ 1000000 from by have := HDEwF.out.2.1.2.1; have h9 := (apply_sound HP1.out.snd (t := xu) (by rw [← HXU.out]; intro q; have h := HKEY.out; have h2 : key = 6 := q; omega) a); rw [HD3.out] at h9; have := h9.tl; omega)
 have HLL := Lib.hid (show D3.links.length ≤ 1000000 from by have h9 := (apply_sound HP1.out.snd (t := xu) (by rw [← HXU.out]; intro q; have h := HKEY.out; have h2 : key = 6 := q; omega) a); rw [HD3.out] at h9; have := h9.ll; omega)
 have HAL := Lib.hid (show D3.tags ++ D3.links = ordAll key a b by rw [hD3eq]; rfl)
 clear hD3eq
 refine wpAnyHL_ready (rs := [2]) (by kernel_rfl) (by simp) ?_
 refine AllReadyHL.cons (o := ⟨some 61, .call ⟨_, _, _⟩, _, _, _, _⟩) rfl (fun K hK => ?_) AllReadyHL.nil
 have HS1 := Lib.hid (show SlS wF (fun b => (fun _ => True) b ∧ b < wF.heap.size ∧ (.slice none 0 0 : Value).ownBlock ≠ some b) h3.a1 h3.c1 D3.tags from (SlS_iff.1 HDEwF.out.2.1).mono (fun b hb => ⟨trivial, hb, fun e => by cases e⟩) (fun _ _ _ _ hu => hu))
 have HL0 := Lib.hid (HDEwF.out.2.2.1)
 refine step_app rfl _ _ rfl (.slice none 0 0) (.slice h3.a1 D3.tags.length h3.c1) (by simp [Act.eval, Act.put]) (by simp [Act.eval, Act.put]) (run_appL E_txt _ (.slice none 0 0) ([] : List ByteArray) (OwnsS.nil_ (fun _ => True) wF wF.heap.size _) h3.a1 h3.c1 D3.tags (.inl HS1.out) (by have h0_ : ([] : List ByteArray).length = 0 := rfl; have := HTL.out; unfold maxLen; omega) (by have h0_ : ([] : List ByteArray).length = 0 := rfl; have := HTL.out; omega) (Nat.le_refl _)) ?_
 rintro v1 wG ⟨ho1, hg1, hn1⟩
 rw [List.nil_append] at ho1
 have hb_ : Below wF.heap.size wF wG := below_own (Below.refl _ _) hg1 (Nat.le_refl _) (fun k hk => by cases hk)
 have HO1 := Lib.hid ho1; have HN1 := Lib.hid (show ∀ q, v1.ownBlock = some q → wF.heap.size ≤ q from fun q hq => (ho1.lt q hq).1)
 have HL1 := Lib.hid (show SlS wG (fun b => (fun _ => True) b ∧ b < wG.heap.size ∧ v1.ownBlock ≠ some b) h3.a2 h3.c2 D3.links from (SlS_iff.1 (HL0.out.keep hb_)).mono (fun b hb => ⟨trivial, Nat.lt_of_lt_of_le hb hb_.size, fun e => by have := HN1.out b e; have h2 : b < wF.heap.size := hb; omega⟩) (fun _ _ _ _ hu => hu))
 have HSZG := Lib.hid hb_.size
 clear ho1 hg1 hn1
 have HSwG := Lib.hid (show wF.heap.size ≤ wG.heap.size from hb_.size)
 have HBwG := Lib.hid (HBwF.out.trans (hb_.mono HBwF.out.size))
 have twG := Lib.hid (twF.out.kept (grown_none hb_) (fun e => by cases e))
 clear hb_
 refine hK.out _ _ (fun _ => twG.out) ?_
 clear hK K
 try simp only [Act.put, List.setIfInBounds_toArray, List.set_cons_zero, List.set_cons_succ]
 refine wpAnyHL_ready (rs := [5]) (by kernel_rfl) (by simp) ?_
 refine AllReadyHL.cons (o := ⟨some 64, .call ⟨_, _, _⟩, _, _, _, _⟩) rfl (fun K hK => ?_) AllReadyHL.nil
 refine step_app rfl _ _ rfl v1 (.slice h3.a2 D3.links.length h3.c2) (by simp [Act.eval, Act.put]) (by simp [Act.eval, Act.put]) (run_appL E_txt _ v1 D3.tags HO1.out h3.a2 h3.c2 D3.links (.inl HL1.out) (by have := HTL.out; have := HLL.out; unfold maxLen; omega) (by have := HTL.out; have := HLL.out; omega) HSZG.out) ?_
 rintro v2 wH ⟨ho2, hg2, hn2⟩
 rw [HAL.out] at ho2
 have HB2 := Lib.hid (below_own HBwG.out hg2 HBwG.out.size (fun q hq => Nat.le_trans HBwF.out.size (HN1.out q hq)))
 have htk_ := twG.out.kept hg2 (fun e => by have h1_ := HN1.out _ e.symm; have := HBT.out; omega)
 obtain ⟨al, hal⟩ : ∃ z, ordAll key a b = z := ⟨_, rfl⟩
 rw [hal] at ho2
 have HAL2 := Lib.hid hal; clear hal
 obtain ⟨A9, c9, hv_, hs9⟩ := ho2.sl
 subst hv_
 have HS9 := Lib.hid hs9; have HTK := Lib.hid htk_; clear ho2 hg2 hn2 hs9 htk_
 refine hK.out _ _ (fun _ => HTK.out) ?_
 clear hK K
 try simp only [Act.put, List.setIfInBounds_toArray, List.set_cons_zero, List.set_cons_succ]
 refine wpAnyHL_take (i := 6) (oi := ⟨some 13, _, _, _, _, _⟩) (v := .slice A9 al.length c9) (by kernel_rfl) rfl (by kernel_rfl) (by kernel_rfl) (by kernel_rfl) (fun _ _ _ h => h) (Or.inl ⟨by rfl, fun w' hS => by go_simp⟩) HTK.out ?_
 try simp only [Act.put, List.setIfInBounds_toArray, List.set_cons_zero, List.set_cons_succ]
 refine wpAnyHL_done (by kernel_rfl) ?_ _
 have hp1 := HS9.out.1; have hp2 := HS9.out.2.1
 unfold maxLen at hp2
 obtain ⟨hall, hdec⟩ := HRE.out HK21.out
 rw [HAL2.out] at hall hdec
 have HALL := Lib.hid hall; have HDEC := Lib.hid hdec; clear hall hdec
 go_wp2_with fail
 go_loopw [14] (fun i wr => ∃ j : Nat, j ≤ al.length ∧ i = .int .i64 (j : Int) ∧ wr = wH) (fun i _ => al.length - (intOf i).toNat)
 case atStart => exact ⟨0, Nat.zero_le _, rfl, rfl⟩
 case round =>
  obtain ⟨j, hj, rfl, hw2⟩ := hrel
  have hw3 := hw2.symm
  clear hw2
  subst hw3
  by_cases hlt : j < al.length
  ·
   have i1 : (j : Int) < (al.length : Int) := by omega
   have HLT := Lib.hid hlt
   obtain ⟨b3, o3, rfl, hb3, cx, hsz⟩ := HS9.out.str hlt
   have hxa := HALL.out _ (List.getElem_mem hlt)
   obtain ⟨x, hx⟩ : ∃ y, al[j]'hlt = y := ⟨_, rfl⟩
   rw [hx] at cx hsz hxa
   have hxb : (x.toList == a.toList) = false := by rw [ba_beq]; exact decide_eq_false hxa
   clear hx hb3 hsz hxa
   go_wp2
   go_roundw
   case rel => exact ⟨j + 1, HLT.out, by go_num, trivial⟩
   case measure => have := HLT.out; simp [intOf]; omega
  ·
   have i1 : ¬ (j : Int) < (al.length : Int) := by omega
   obtain ⟨z, hz⟩ : ∃ z, decide (a = b) = z := ⟨_, rfl⟩
   have e2 : (a.toList == b.toList) = z := by rw [ba_beq]; exact hz
   have e1 : ((al.length : Int) == 0) = z := by rw [← hz, ← HDEC.out, Bool.eq_iff_iff]; simp
   have e3 : (z == z) = true := by simp
   clear hz
   go_wp2_with fail
   refine (known13_any _ (HOK.out.next HB2.out) (H7.out.below HB2.out)).mono ?_
   rintro e w_ ⟨rfl, hb_⟩
   have HBE := Lib.hid (below_next HB2.out hb_); clear hb_
   go_wp2
   go_ret
   exact ⟨by try rfl, HBE.out⟩
end Go.Proofs.YtjpoljlgkgmdkaaGreatDoor
namespace Go.Proofs.YtjpoljlgkgmdkaaGreatDoor
open Go.RowKit Go.Cold
namespace cAssignOrder
open Go.ChangeShapes Go.WideShapes Go.ChangeAt
open Go.ChangeMaps (open_string)
set_option maxRecDepth 100000
theorem reads (os : Os) {H : Type} (enc : TypeId × Value → H) : ∃ places, DataW.whole enc Tryz.prog ((World.laidAll Tryz.prog os Rows.assignOrderRow.laid).forCall (fun _ _ => 0) ⟨#[], #[.slice none 0 0], []⟩).memory Tryz.f3.params.toList Rows.assignOrderSpec.vars false (#[.slice none 0 0] : Array Value).toList 8 = some ([.nil], [], places) :=
 ⟨[], by kernel_rfl⟩
theorem lifted (os : Os) (started : os.Started) (H : Type) (enc : TypeId × Value → H) (F : Stop.Interp) :
  ReturnsInHanded {} Tryz.checked os 3 .any ((OpenSpec.ofChange Rows.assignOrderSpec).preRow enc Tryz.prog Tryz.f3 Rows.assignOrderRow.domain false Rows.assignOrderRow.laid) (((OpenSpec.ofChange Rows.assignOrderSpec).at F).post enc Tryz.prog Tryz.f3 false true false false) := by
 obtain ⟨places, hx⟩ := reads os enc
 refine law_lifted os started H enc F (by kernel_rfl) Tryz.func3 #[.slice none 0 0] (World.shaped_of_ZipB (by kernel_rfl) (by kernel_rfl)) (by kernel_rfl)
  (OpenSpec.preRow_of_cond 8 hx (by kernel_rfl) (fun k hk => by cases hk) (by kernel_rfl) (laidMet_laidAll _ (by kernel_rfl) (by kernel_rfl))) rfl rfl
  (fun ds hl => by
   rw [Tryz.params3] at hl
   match ds, hl with
   | [d0], _ => rfl) (by kernel_rfl) ?_
 intro W base args ds ps hval hA hlt hz hsh hlaid
 rw [Tryz.params3] at hA hval
 obtain ⟨v0, vs0, d0, ds0, p0, q0, hargs, rfl, rfl, h0, r0⟩ := trodAll_cons hA
 obtain ⟨rfl, rfl, rfl⟩ := trodAll_nil r0
 obtain rfl : args = #[v0] := by cases args; simp_all
 obtain ⟨A0, c0, xs0, rfl, s0⟩ := open_nums Tryz.underlying22 Tryz.underlying3 (by kernel_rfl) (hval 0 22 v0 rfl rfl) h0 (fun x hx => hlt x (List.mem_append_left _ hx))
 exact lawOrder13_any A0 c0 xs0 W (show Ok W from Tryz.laysM146.s1_3 W hsh) (okf8 hlaid) s0
theorem said : Rows.AssignOrderSaid :=
 OpenClaim.holds_of_cond 3 Tryz.f3 rfl rfl rfl rfl rfl rfl rfl ⟨rfl, rfl, rfl, rfl, rfl⟩ rfl rfl rfl rfl rfl (by kernel_rfl) Tryz.func3 (by kernel_rfl)
  (of_decide_eq_true (by kernel_rfl)) (by unfold Func.isWrapper; first | (rw [if_pos (by decide +kernel)]; kernel_rfl) | (rw [if_neg (by decide +kernel)]; exact ⟨rfl, rfl⟩))
  (fun os started H enc _ F => by rw [OpenClaim.pre_eq_preRow]; exact lifted os started H enc F)
theorem plain (f : FuncId) (fn : Func) (hf : Tryz.pinned.checked.prog.funcNamed Rows.assignOrderRow.func = some f) (hfn : Tryz.pinned.checked.prog.funcs[f]? = some fn) :
  true = Tryz.pinned.checked.prog.looks [] ∧ ∀ (j : Nat) t, fn.params[j]? = some t → Tryz.pinned.checked.prog.wantsStandIn t = false := by
 obtain rfl : f = 3 := Option.some.inj ((show Tryz.prog.funcNamed Rows.assignOrderRow.func = some 3 by kernel_rfl).symm.trans hf) |>.symm
 obtain rfl : fn = Tryz.f3 := (Option.some.inj (Tryz.func3.symm.trans hfn)).symm
 refine ⟨by kernel_rfl, fun j t ht => ?_⟩
 rw [Tryz.params3] at ht
 have hm : t ∈ [22] := by simpa using Array.mem_of_getElem? ht
 have hall : ([22].all fun u => !Tryz.prog.wantsStandIn u) = true := by kernel_rfl
 exact (show Tryz.prog.wantsStandIn t = false by simpa using List.all_eq_true.1 hall t hm)
theorem card : Rows.AssignOrderCardSaid :=
 Claim7.holds_tied_plain_at .later [] _ _ _ _ said (fun _ h => by cases h) (by kernel_rfl) (fun _ h => by cases h) assignOrder_row_tie rfl ⟨rfl, rfl⟩ (by kernel_rfl) rfl plain (by kernel_rfl)
end cAssignOrder
end Go.Proofs.YtjpoljlgkgmdkaaGreatDoor
