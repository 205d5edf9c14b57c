/-
  The walks of package tree: clash, clashes, depth, order.
-/
import Derived.Test.YtjgllhlilbchpaaGreatDoorJH
set_option linter.unusedSimpArgs false
set_option linter.unusedVariables false
namespace Go.Cold
open Go Go.RowKit
def netB (a b : Dev) : Bool := decide (a.kind = 4) && (decide (b.kind = 4) && decide (a.nm = b.nm))
theorem clash_net {a b : Dev} (h : netB a b = true) : clashB a b = true := by unfold clashB; unfold netB at h; rw [h]; rfl
theorem clash_no {a b : Dev} (h : netB a b = false) (hn : (nodeD a).isSome = false ∨ (nodeD b).isSome = false) : clashB a b = false := by
 unfold clashB; unfold netB at h; rw [h]
 cases ha : nodeD a with
 | none => rfl
 | some s =>
  cases hb : nodeD b with
  | none => rfl
  | some u => rw [ha, hb] at hn; simp at hn
theorem clash_node {a b : Dev} (h : netB a b = false) (ha : (nodeD a).isSome = true) (hb : (nodeD b).isSome = true) :
  clashB a b = ((decide (a.kind = b.kind) && decide (a.num = b.num)) || (decide (nodeV a = nodeV b) || (belowB (nodeV a) (nodeV b) || belowB (nodeV b) (nodeV a)))) := by
 unfold clashB nodeV; unfold netB at h; rw [h]
 cases h1 : nodeD a with
 | none => rw [h1] at ha; cases ha
 | some s =>
  cases h2 : nodeD b with
  | none => rw [h2] at hb; cases hb
  | some u => rfl
theorem nodeV_size (d : Dev) : (nodeV d).size ≤ d.orig.size := by
 unfold nodeV nodeD
 split
 ·
  show (nodeS d.orig).size ≤ _
  rw [nodeS_size]; exact Nat.le_refl _
 · exact Nat.zero_le _
end Go.Cold
namespace Go.Proofs.YtjgllhlilbchpaaGreatDoor
open Go.RowKit Go.Cold
set_option maxRecDepth 100000 in
set_option maxHeartbeats 4000000 in
theorem clash_any (a b : Dev) (A1 A2 : Option Addr) (c1 c2 : Nat) (w : World) (ha : a.orig.size ≤ 4294967280) (hb : b.orig.size ≤ 4294967280) (hok : Ok w) : Calls Tryz.prog 127 #[.agg #[.int .i64 a.idx, .int .i64 a.par, .string a.nm, .string a.orig, .string a.sub, .string a.drv, .string a.ali, .int .i64 a.kind, .int .i64 a.num, .slice A1 a.attrs.length c1], .agg #[.int .i64 b.idx, .int .i64 b.par, .string b.nm, .string b.orig, .string b.sub, .string b.drv, .string b.ali, .int .i64 b.kind, .int .i64 b.num, .slice A2 b.attrs.length c2]] w fun e w' => e = .returned (.bool (clashB a b)) ∧ Below w.heap.size w w' := by
 have HA := Lib.hid ha; have HB := Lib.hid hb; have HOK := Lib.hid hok; clear ha hb hok
 go_enter Tryz.func127, Tryz.ntmps127
 go_upto_region 1 with fail
 obtain ⟨w1, hw1⟩ : ∃ w1, w.alloc (.cells #[.int .i64 a.idx, .int .i64 a.par, .string a.nm, .string a.orig, .string a.sub, .string a.drv, .string a.ali, .int .i64 a.kind, .int .i64 a.num, .slice A1 a.attrs.length c1] 32) = w1 := ⟨_, rfl⟩
 have hbw1 : Below w.heap.size w w1 := by rw [← hw1]; exact (Below.refl _ _).alloc (Nat.le_refl _) _
 have HGw1 := Lib.hid (show w1.heap.size = w.heap.size + 1 by rw [← hw1]; simp)
 have HXpw1 := Lib.hid (show BoxL w1 w.heap.size [.int .i64 a.idx, .int .i64 a.par, .string a.nm, .string a.orig, .string a.sub, .string a.drv, .string a.ali, .int .i64 a.kind, .int .i64 a.num, .slice A1 a.attrs.length c1] from box_mk hw1)
 try simp only [hw1]
 have HBw1 := Lib.hid hbw1
 clear hw1 hbw1
 try rw [show w.heap.size + 1 = w1.heap.size from HGw1.out.symm]
 obtain ⟨w2, hw2⟩ : ∃ w2, w1.alloc (.cells #[.int .i64 b.idx, .int .i64 b.par, .string b.nm, .string b.orig, .string b.sub, .string b.drv, .string b.ali, .int .i64 b.kind, .int .i64 b.num, .slice A2 b.attrs.length c2] 32) = w2 := ⟨_, rfl⟩
 have hbw2 : Below w1.heap.size w1 w2 := by rw [← hw2]; exact (Below.refl _ _).alloc (Nat.le_refl _) _
 have HGw2 := Lib.hid (show w2.heap.size = w1.heap.size + 1 by rw [← hw2]; simp)
 have HXqw2 := Lib.hid (show BoxL w2 w1.heap.size [.int .i64 b.idx, .int .i64 b.par, .string b.nm, .string b.orig, .string b.sub, .string b.drv, .string b.ali, .int .i64 b.kind, .int .i64 b.num, .slice A2 b.attrs.length c2] from box_mk hw2)
 try simp only [hw2]
 have HBw2 := Lib.hid (HBw1.out.trans (hbw2.mono HBw1.out.size))
 have pw2 := Lib.hid (HXpw1.out.kept (grown_none hbw2) (fun e => by cases e))
 clear hw2 hbw2
 try rw [show w1.heap.size + 1 = w2.heap.size from HGw2.out.symm]
 have cp2 := pw2.out.1 2 _ rfl
 have cp7 := pw2.out.1 7 _ rfl
 have cq2 := HXqw2.out.1 2 _ rfl
 have cq7 := HXqw2.out.1 7 _ rfl
 go_cut [23] (fun s23 wx => s23 = .bool (netB a b) ∧ w2 = wx)
 case first =>
  by_cases h1 : a.kind = 4
  ·
   have e1 : (a.kind == 4) = true := beq_iff_eq.2 h1
   have H1 := Lib.hid h1; clear h1
   by_cases h2 : b.kind = 4
   ·
    have e2 : (b.kind == 4) = true := beq_iff_eq.2 h2
    have HR := Lib.hid (show (a.nm.toList == b.nm.toList) = netB a b by unfold netB; rw [ba_beq]; simp [H1.out, h2]); clear h2
    go_wp2_with fail
    go_meet
    exact ⟨by rw [HR.out], rfl⟩
   ·
    have e2 : (b.kind == 4) = false := beq_eq_false_iff_ne.2 h2
    have HR := Lib.hid (show false = netB a b by unfold netB; simp [h2]); clear h2
    go_wp2_with fail
    go_meet
    exact ⟨by rw [HR.out], rfl⟩
  ·
   have e1 : (a.kind == 4) = false := beq_eq_false_iff_ne.2 h1
   have HR := Lib.hid (show false = netB a b by unfold netB; simp [h1]); clear h1
   go_wp2_with fail
   go_meet
   exact ⟨by rw [HR.out], rfl⟩
 case rest =>
 obtain ⟨rfl, rfl⟩ := hcut
 cases hnet : netB a b with
 | true =>
  have HN := Lib.hid (clash_net hnet); clear hnet
  go_wp2
  go_ret
  exact ⟨ret_bool (by rw [HN.out]), HBw2.out⟩
 | false =>
  have HN := Lib.hid hnet; clear hnet
  clear cp2 cp7 cq2 cq7
  have cp0 := pw2.out.1 0 _ rfl
  have cp1 := pw2.out.1 1 _ rfl
  have cp2 := pw2.out.1 2 _ rfl
  have cp3 := pw2.out.1 3 _ rfl
  have cp4 := pw2.out.1 4 _ rfl
  have cp5 := pw2.out.1 5 _ rfl
  have cp6 := pw2.out.1 6 _ rfl
  have cp7 := pw2.out.1 7 _ rfl
  have cp8 := pw2.out.1 8 _ rfl
  have cp9 := pw2.out.1 9 _ rfl
  go_wp2_with fail
  refine (Node_any a A1 c1 _ (by have := HA.out; omega) (HOK.out.next HBw2.out)).mono ?_
  rintro e w3 ⟨rfl, hbw3⟩
  clear cp0 cp1 cp2 cp3 cp4 cp5 cp6 cp7 cp8 cp9
  have HBw3 := Lib.hid (HBw2.out.trans (hbw3.mono HBw2.out.size))
  have pw3 := Lib.hid (pw2.out.kept (grown_none hbw3) (fun e => by cases e))
  have qw3 := Lib.hid (HXqw2.out.kept (grown_none hbw3) (fun e => by cases e))
  clear hbw3
  have cq0 := qw3.out.1 0 _ rfl
  have cq1 := qw3.out.1 1 _ rfl
  have cq2 := qw3.out.1 2 _ rfl
  have cq3 := qw3.out.1 3 _ rfl
  have cq4 := qw3.out.1 4 _ rfl
  have cq5 := qw3.out.1 5 _ rfl
  have cq6 := qw3.out.1 6 _ rfl
  have cq7 := qw3.out.1 7 _ rfl
  have cq8 := qw3.out.1 8 _ rfl
  have cq9 := qw3.out.1 9 _ rfl
  go_wp2_with fail
  refine (Node_any b A2 c2 _ (by have := HB.out; omega) (HOK.out.next HBw3.out)).mono ?_
  rintro e w4 ⟨rfl, hbw4⟩
  clear cq0 cq1 cq2 cq3 cq4 cq5 cq6 cq7 cq8 cq9
  have HBw4 := Lib.hid (HBw3.out.trans (hbw4.mono HBw3.out.size))
  have pw4 := Lib.hid (pw3.out.kept (grown_none hbw4) (fun e => by cases e))
  have qw4 := Lib.hid (qw3.out.kept (grown_none hbw4) (fun e => by cases e))
  clear hbw4
  have cp7 := pw4.out.1 7 _ rfl
  have cp8 := pw4.out.1 8 _ rfl
  have cq7 := qw4.out.1 7 _ rfl
  have cq8 := qw4.out.1 8 _ rfl
  cases hna : (nodeD a).isSome with
  | false =>
   have HC := Lib.hid (clash_no HN.out (.inl hna)); clear hna
   go_wp2
   go_ret
   exact ⟨ret_bool (by rw [HC.out]), HBw4.out⟩
  | true =>
   cases hnb : (nodeD b).isSome with
   | false =>
    have HC := Lib.hid (clash_no HN.out (.inr hnb)); clear hna hnb
    go_wp2
    go_ret
    exact ⟨ret_bool (by rw [HC.out]), HBw4.out⟩
   | true =>
    have HC := Lib.hid (clash_node HN.out hna hnb); clear hna hnb
    obtain ⟨s, hs⟩ : ∃ s, nodeV a = s := ⟨_, rfl⟩
    obtain ⟨u, hu⟩ : ∃ u, nodeV b = u := ⟨_, rfl⟩
    have hsz := nodeV_size a; have huz := nodeV_size b
    rw [hs] at HC hsz; rw [hu] at HC huz; try rw [hs]
    try rw [hu]
    have HSZ := Lib.hid hsz; have HUZ := Lib.hid huz; clear hs hu hsz huz
    by_cases h1 : a.kind = b.kind
    ·
     have e1 : (a.kind == b.kind) = true := beq_iff_eq.2 h1
     have H1 := Lib.hid h1; clear h1
     by_cases h2 : a.num = b.num
     ·
      have e2 : (a.num == b.num) = true := beq_iff_eq.2 h2
      have H2 := Lib.hid h2; clear h2
      go_wp2
      go_ret
      exact ⟨ret_bool (by rw [HC.out]; simp [H1.out, H2.out]), HBw4.out⟩
     ·
      have e2 : (a.num == b.num) = false := beq_eq_false_iff_ne.2 h2
      have H2 := Lib.hid h2; clear h2
      by_cases h3 : s = u
      ·
       have e3 : (s.toList == u.toList) = true := by rw [ba_beq]; exact decide_eq_true h3
       have H3 := Lib.hid h3; clear h3
       go_wp2
       go_ret
       exact ⟨ret_bool (by rw [HC.out]; simp [H2.out, H3.out]), HBw4.out⟩
      ·
       have e3 : (s.toList == u.toList) = false := by rw [ba_beq]; exact decide_eq_false h3
       have H3 := Lib.hid h3; clear h3
       go_wp2_with fail
       refine (Beneath_any s u _ (by have := HA.out; have := HSZ.out; omega)).mono ?_
       rintro e w' ⟨rfl, rfl⟩
       cases h4 : belowB s u with
       | true =>
        have H4 := Lib.hid h4; clear h4
        go_wp2
        go_ret
        exact ⟨ret_bool (by rw [HC.out]; simp [H2.out, H4.out]), HBw4.out⟩
       | false =>
        have H4 := Lib.hid h4; clear h4
        go_wp2_with fail
        refine (Beneath_any u s _ (by have := HB.out; have := HUZ.out; omega)).mono ?_
        rintro e w' ⟨rfl, rfl⟩
        cases h5 : belowB u s with
        | true =>
         have H5 := Lib.hid h5; clear h5
         go_wp2
         go_ret
         exact ⟨ret_bool (by rw [HC.out]; simp [H2.out, H3.out, H4.out, H5.out]), HBw4.out⟩
        | false =>
         have H5 := Lib.hid h5; clear h5
         go_wp2
         go_ret
         exact ⟨ret_bool (by rw [HC.out]; simp [H2.out, H3.out, H4.out, H5.out]), HBw4.out⟩
    ·
     have e1 : (a.kind == b.kind) = false := beq_eq_false_iff_ne.2 h1
     have H1 := Lib.hid h1; clear h1
     by_cases h3 : s = u
     ·
      have e3 : (s.toList == u.toList) = true := by rw [ba_beq]; exact decide_eq_true h3
      have H3 := Lib.hid h3; clear h3
      go_wp2
      go_ret
      exact ⟨ret_bool (by rw [HC.out]; simp [H1.out, H3.out]), HBw4.out⟩
     ·
      have e3 : (s.toList == u.toList) = false := by rw [ba_beq]; exact decide_eq_false h3
      have H3 := Lib.hid h3; clear h3
      go_wp2_with fail
      refine (Beneath_any s u _ (by have := HA.out; have := HSZ.out; omega)).mono ?_
      rintro e w' ⟨rfl, rfl⟩
      cases h4 : belowB s u with
      | true =>
       have H4 := Lib.hid h4; clear h4
       go_wp2
       go_ret
       exact ⟨ret_bool (by rw [HC.out]; simp [H1.out, H4.out]), HBw4.out⟩
      | false =>
       have H4 := Lib.hid h4; clear h4
       go_wp2_with fail
       refine (Beneath_any u s _ (by have := HB.out; have := HUZ.out; omega)).mono ?_
       rintro e w' ⟨rfl, rfl⟩
       cases h5 : belowB u s with
       | true =>
        have H5 := Lib.hid h5; clear h5
        go_wp2
        go_ret
        exact ⟨ret_bool (by rw [HC.out]; simp [H1.out, H3.out, H4.out, H5.out]), HBw4.out⟩
       | false =>
        have H5 := Lib.hid h5; clear h5
        go_wp2
        go_ret
        exact ⟨ret_bool (by rw [HC.out]; simp [H1.out, H3.out, H4.out, H5.out]), HBw4.out⟩
set_option maxRecDepth 100000 in
theorem clashes1_pred (d : Dev) (A2 : Option Addr) (c2 : Nat) (w : World) (g B : Nat) (hbox : BoxL w g [.int .i64 d.idx, .int .i64 d.par, .string d.nm, .string d.orig, .string d.sub, .string d.drv, .string d.ali, .int .i64 d.kind, .int .i64 d.num, .slice A2 d.attrs.length c2]) (hd : d.orig.size ≤ 4294967280) (hok : Ok w) :
  PredD 126 #[.pointer (some ⟨g, 0, none⟩)] w B (fun x => x.orig.size ≤ 4294967280) (fun x => decide (x.idx ≠ d.idx) && clashB x d) := by
 refine ⟨enters_of Tryz.func126 (by kernel_rfl) rfl, fun x A c W hxo hat hq hW => ?_⟩
 have HW := Lib.hid hW; have HQ := Lib.hid hq; have HD := Lib.hid hd; have HOK := Lib.hid (hok.next hW); have HP := Lib.hid (hbox.kept (grown_none hW) (fun e => by cases e)); clear hW hq hd hok hbox hxo hat
 go_enter Tryz.func126, Tryz.ntmps126
 go_upto_region 1 with fail
 obtain ⟨w1, hw1⟩ : ∃ w1, W.alloc (.cells #[.int .i64 x.idx, .int .i64 x.par, .string x.nm, .string x.orig, .string x.sub, .string x.drv, .string x.ali, .int .i64 x.kind, .int .i64 x.num, .slice A x.attrs.length c] 32) = w1 := ⟨_, rfl⟩
 have hbw1 : Below W.heap.size W w1 := by rw [← hw1]; exact (Below.refl _ _).alloc (Nat.le_refl _) _
 have HGw1 := Lib.hid (show w1.heap.size = W.heap.size + 1 by rw [← hw1]; simp)
 have HXxw1 := Lib.hid (show BoxL w1 W.heap.size [.int .i64 x.idx, .int .i64 x.par, .string x.nm, .string x.orig, .string x.sub, .string x.drv, .string x.ali, .int .i64 x.kind, .int .i64 x.num, .slice A x.attrs.length c] from box_mk hw1)
 try simp only [hw1]
 have HBw1 := Lib.hid hbw1
 have dw1 := Lib.hid (HP.out.kept (grown_none hbw1) (fun e => by cases e))
 clear hw1 hbw1
 try rw [show W.heap.size + 1 = w1.heap.size from HGw1.out.symm]
 have cd0 := dw1.out.1 0 _ rfl
 have cd1 := dw1.out.1 1 _ rfl
 have cd2 := dw1.out.1 2 _ rfl
 have cd3 := dw1.out.1 3 _ rfl
 have cd4 := dw1.out.1 4 _ rfl
 have cd5 := dw1.out.1 5 _ rfl
 have cd6 := dw1.out.1 6 _ rfl
 have cd7 := dw1.out.1 7 _ rfl
 have cd8 := dw1.out.1 8 _ rfl
 have cd9 := dw1.out.1 9 _ rfl
 have cx0 := HXxw1.out.1 0 _ rfl
 have cx1 := HXxw1.out.1 1 _ rfl
 have cx2 := HXxw1.out.1 2 _ rfl
 have cx3 := HXxw1.out.1 3 _ rfl
 have cx4 := HXxw1.out.1 4 _ rfl
 have cx5 := HXxw1.out.1 5 _ rfl
 have cx6 := HXxw1.out.1 6 _ rfl
 have cx7 := HXxw1.out.1 7 _ rfl
 have cx8 := HXxw1.out.1 8 _ rfl
 have cx9 := HXxw1.out.1 9 _ rfl
 by_cases hi : x.idx = d.idx
 ·
  have ei : (x.idx != d.idx) = false := by simp [hi]
  have HR := Lib.hid (show (decide (x.idx ≠ d.idx) && clashB x d) = false by simp [hi]); clear hi
  go_wp2
  go_ret
  exact ⟨ret_bool (by rw [HR.out]), HBw1.out⟩
 ·
  have ei : (x.idx != d.idx) = true := by simp [hi]
  have HR := Lib.hid (show (decide (x.idx ≠ d.idx) && clashB x d) = clashB x d by simp [hi]); clear hi
  go_wp2_with fail
  refine (clash_any x d A A2 c c2 _ HQ.out HD.out (HOK.out.next HBw1.out)).mono ?_
  rintro e w2 ⟨rfl, hbw2⟩
  clear cd0 cd1 cd2 cd3 cd4 cd5 cd6 cd7 cd8 cd9 cx0 cx1 cx2 cx3 cx4 cx5 cx6 cx7 cx8 cx9
  have HBw2 := Lib.hid (HBw1.out.trans (hbw2.mono HBw1.out.size))
  have dw2 := Lib.hid (dw1.out.kept (grown_none hbw2) (fun e => by cases e))
  have xw2 := Lib.hid (HXxw1.out.kept (grown_none hbw2) (fun e => by cases e))
  clear hbw2
  go_wp2
  go_ret
  exact ⟨ret_bool (by rw [HR.out]), HBw2.out⟩
set_option maxRecDepth 100000 in
theorem clashes_any (A : Option Addr) (c : Nat) (L : List Dev) (d : Dev) (A2 : Option Addr) (c2 : Nat) (w : World) (B : Nat) (hB : B ≤ w.heap.size) (hx : Sl w B A c L) (hq : ∀ x ∈ L, x.orig.size ≤ 4294967280) (hd : d.orig.size ≤ 4294967280) (hok : Ok w) :
  Calls Tryz.prog 81 #[.slice A L.length c, .agg #[.int .i64 d.idx, .int .i64 d.par, .string d.nm, .string d.orig, .string d.sub, .string d.drv, .string d.ali, .int .i64 d.kind, .int .i64 d.num, .slice A2 d.attrs.length c2]] w fun e w' => e = .returned (.bool (clashesB L d)) ∧ Below w.heap.size w w' := by
 have HX := Lib.hid hx; have HB := Lib.hid hB; have HQ := Lib.hid hq; have HD := Lib.hid hd; have HOK := Lib.hid hok; clear hx hB hq hd hok
 go_enter Tryz.func81, Tryz.ntmps81
 go_upto_region 1 with fail
 obtain ⟨w1, hw1⟩ : ∃ w1, w.alloc (.cells #[.int .i64 d.idx, .int .i64 d.par, .string d.nm, .string d.orig, .string d.sub, .string d.drv, .string d.ali, .int .i64 d.kind, .int .i64 d.num, .slice A2 d.attrs.length c2] 32) = w1 := ⟨_, rfl⟩
 have hbw1 : Below w.heap.size w w1 := by rw [← hw1]; exact (Below.refl _ _).alloc (Nat.le_refl _) _
 have HGw1 := Lib.hid (show w1.heap.size = w.heap.size + 1 by rw [← hw1]; simp)
 have HXdw1 := Lib.hid (show BoxL w1 w.heap.size [.int .i64 d.idx, .int .i64 d.par, .string d.nm, .string d.orig, .string d.sub, .string d.drv, .string d.ali, .int .i64 d.kind, .int .i64 d.num, .slice A2 d.attrs.length c2] from box_mk hw1)
 try simp only [hw1]
 have HBw1 := Lib.hid hbw1
 clear hw1 hbw1
 try rw [show w.heap.size + 1 = w1.heap.size from HGw1.out.symm]
 go_wp2_with fail
 refine (ContainsFuncD_any A c L _ _ _ _ _ B (Nat.le_trans HB.out HBw1.out.size) (HX.out.keep (HBw1.out.mono HB.out)) (clashes1_pred d A2 c2 _ w.heap.size B HXdw1.out HD.out (HOK.out.next HBw1.out)) HQ.out).mono ?_
 rintro e w2 ⟨rfl, hbw2⟩
 have HBw2 := Lib.hid (HBw1.out.trans (hbw2.mono HBw1.out.size))
 have dw2 := Lib.hid (HXdw1.out.kept (grown_none hbw2) (fun e => by cases e))
 clear hbw2
 have hcl : L.any (fun x => decide (x.idx ≠ d.idx) && clashB x d) = clashesB L d := rfl
 rw [hcl]
 clear hcl
 go_wp2
 go_ret
 exact ⟨rfl, HBw2.out⟩
end Go.Proofs.YtjgllhlilbchpaaGreatDoor
namespace Go.Cold
open Go Go.RowKit
def orgM (L : List Dev) : Int → Option ByteArray := L.foldl (fun f d => updF f d.idx (((f d.par).getD ByteArray.empty ++ ⟨#[47]⟩) ++ d.orig)) (fun _ => none)
def plGo : List Dev → Nat → (Int → Option Int) → (Int → Option Int)
 | [], _, f => f
 | d :: r, i, f => plGo r (i + 1) (updF f d.idx (i : Int))
def plM (L : List Dev) : Int → Option Int := plGo L 0 (fun _ => none)
theorem plGo_snoc : ∀ (l : List Dev) (d : Dev) (i : Nat) (f : Int → Option Int), plGo (l ++ [d]) i f = updF (plGo l i f) d.idx ((i + l.length : Nat) : Int)
 | [], d, i, f => by simp [plGo]
 | x :: l, d, i, f => by
  rw [List.cons_append, plGo, plGo, plGo_snoc l d (i + 1), List.length_cons, show i + 1 + l.length = i + (l.length + 1) by omega]
theorem plM_step {L : List Dev} {k : Nat} {y : Dev} (hk : k < L.length) (hy : L[k]? = some y) : plM (L.take (k + 1)) = updF (plM (L.take k)) y.idx (k : Int) := by
 rw [List.take_add_one, hy]
 show plM (L.take k ++ [y]) = _
 unfold plM
 rw [plGo_snoc, Nat.zero_add, List.length_take, Nat.min_eq_left (by omega)]
theorem orgM_step {L : List Dev} {k : Nat} {y : Dev} (hy : L[k]? = some y) : orgM (L.take (k + 1)) = updF (orgM (L.take k)) y.idx (((orgM (L.take k) y.par).getD ByteArray.empty ++ ⟨#[47]⟩) ++ y.orig) := by
 rw [List.take_add_one, hy]
 show orgM (L.take k ++ [y]) = _
 unfold orgM
 rw [List.foldl_append]; rfl
theorem orgM_fold : ∀ (L : List Dev) (f : Int → Option ByteArray) (s : Int → ByteArray) (ins : List Int), (∀ n, (f n).getD ByteArray.empty = s n) → (∀ n, (f n).isSome = ins.contains n) →
  (∀ n, ((L.foldl (fun f d => updF f d.idx (((f d.par).getD ByteArray.empty ++ ⟨#[47]⟩) ++ d.orig)) f) n).getD ByteArray.empty = L.foldl strStep s n) ∧
  (∀ n, ((L.foldl (fun f d => updF f d.idx (((f d.par).getD ByteArray.empty ++ ⟨#[47]⟩) ++ d.orig)) f) n).isSome = ((idxs L).contains n || ins.contains n))
 | [], f, s, ins, h1, h2 => ⟨h1, fun n => by rw [show (idxs ([] : List Dev)).contains n = false from rfl, Bool.false_or]; exact h2 n⟩
 | d :: r, f, s, ins, h1, h2 => by
  have h := orgM_fold r (updF f d.idx (((f d.par).getD ByteArray.empty ++ ⟨#[47]⟩) ++ d.orig)) (strStep s d) (d.idx :: ins) (fun n => by
   unfold updF strStep
   by_cases hn : n = d.idx
   · rw [if_pos hn, if_pos hn, h1]; rfl
   · rw [if_neg hn, if_neg hn, h1]) (fun n => by
   unfold updF
   rw [List.contains_cons]
   by_cases hn : n = d.idx
   · rw [if_pos hn]; simp [hn]
   · rw [if_neg hn, h2]; simp [hn])
  refine ⟨h.1, fun n => ?_⟩
  rw [List.foldl_cons, h.2 n, List.contains_cons]
  show _ = ((d.idx :: idxs r).contains n || _)
  rw [List.contains_cons]
  cases (n == d.idx) <;> cases (idxs r).contains n <;> simp
theorem orgM_str (L : List Dev) (n : Int) : (orgM L n).getD ByteArray.empty = strF L n := (orgM_fold L (fun _ => none) (fun _ => ⟨#[]⟩) [] (fun _ => rfl) (fun _ => rfl)).1 n
theorem orgM_some (L : List Dev) (n : Int) : (orgM L n).isSome = (idxs L).contains n := by
 have h := (orgM_fold L (fun _ => none) (fun _ => ⟨#[]⟩) [] (fun _ => rfl) (fun _ => rfl)).2 n
 rw [show ([] : List Int).contains n = false from rfl, Bool.or_false] at h
 exact h
theorem str_size_in {m : Nat} : ∀ (L : List Dev) (s : Int → ByteArray) (t : Nat), (∀ n, (s n).size ≤ t) → (∀ d ∈ L, d.orig.size ≤ m) → ∀ n, (L.foldl strStep s n).size ≤ t + L.length * (m + 1)
 | [], s, t, h, _, n => by simpa using h n
 | d :: r, s, t, h, hm, n => by
  have h2 := str_size_in r (strStep s d) (t + (m + 1)) (fun n => by
   unfold strStep
   have h3 := hm d List.mem_cons_self
   split
   ·
    rw [ByteArray.size_append, ByteArray.size_append]
    have h4 := h d.par
    have h5 : (⟨#[47]⟩ : ByteArray).size = 1 := rfl
    omega
   · have := h n; omega) (fun x hx => hm x (List.mem_cons_of_mem _ hx)) n
  rw [List.foldl_cons, List.length_cons, Nat.succ_mul]
  omega
theorem str_size {L : List Dev} (h : ∀ d ∈ L, d.orig.size ≤ 32) (hl : L.length ≤ 256) (n : Int) : (strF L n).size ≤ 8448 := by
 have h1 := str_size_in L (fun _ => ⟨#[]⟩) 0 (fun _ => Nat.le_refl _) h n
 have h2 := Nat.mul_le_mul_right 33 hl
 unfold strF
 omega
def LkSt (P : Program) (tI tS : TypeId) (w0 : World) (g1 g2 g3 bp bo : Nat) (A : Option Addr) (c : Nat) (L : List Dev) (k : Nat) (w : World) : Prop :=
 Below w0.heap.size w0 w ∧ BoxL w g1 [.slice A L.length c] ∧ BoxL w g2 [.slice none 0 0, .map none, .map none] ∧ BoxL w g3 [.slice A L.length c, .map (some bp), .map (some bo)] ∧ MapV P tI tI w bp k (plM (L.take k)) ∧ MapV P tI tS w bo k (orgM (L.take k))
theorem LkSt.below {P : Program} {tI tS : TypeId} {w0 w w' : World} {g1 g2 g3 bp bo c k : Nat} {A : Option Addr} {L : List Dev} (h : LkSt P tI tS w0 g1 g2 g3 bp bo A c L k w) (hb : Below w.heap.size w w') : LkSt P tI tS w0 g1 g2 g3 bp bo A c L k w' := by
 obtain ⟨h1, h2, h3, h4, h5, h6⟩ := h
 exact ⟨h1.trans (hb.mono h1.size), h2.kept (grown_none hb) (fun e => by cases e), h3.kept (grown_none hb) (fun e => by cases e), h4.kept (grown_none hb) (fun e => by cases e), h5.next hb, h6.next hb⟩
section
variable {α : Type} [El α] {P : Program} {k e t : TypeId} {w w' : World} {b n : Nat} {f : Int → Option α}
theorem MapV.update (h : MapV P k e w b n f) (ht : P.underlying t = some (.map k e)) (hk : P.underlying k = some (.int .i64)) (he : P.underlying e = some (El.desc (α := α))) {i : Int} {c : α} (hi : okI i) (hc : El.ok c) (hn : n < maxLen) :
  ∃ w', (Instr.mapUpdate t (.map (some b)) (.int .i64 i) (El.val c)).run P w = .ok () w' ∧ MapV P k e w' b (n + 1) (updF f i c) ∧ w.grownBy w' (some b) := by
 obtain ⟨D, h1, h2⟩ := h
 obtain ⟨w', hr, r1, r2⟩ := h1.update (Maps.int_keyed hk) ht hn (Maps.keyOf_int_mk hk (wf_i64.2 hi)) (El.rd he hc)
 refine ⟨w', hr, ⟨_, r1, fun j hj => ?_⟩, r2⟩
 have hM := h1.isMap
 have hK1 : WideAt.IsKeyLit (.int .i64 i) := (Maps.int_keyed hk).key (Maps.keyOf_int_mk hk (wf_i64.2 hi))
 unfold updF
 by_cases hji : j = i
 ·
  subst hji
  rw [if_pos rfl]
  exact ⟨Maps.has_put_same hM hK1 _, (fun z a ha => by obtain rfl := Option.some.inj ha; exact Maps.atKey_put_same hM hK1 _ z), (fun z h => by cases h)⟩
 ·
  rw [if_neg hji]
  have hne : (Lit.int .i64 j : Lit) ≠ .int .i64 i := fun h => hji (by injection h)
  obtain ⟨e1, e2, e3⟩ := h2 j hj
  exact ⟨(Maps.has_put_other hne _).trans e1, fun z a ha => (Maps.atKey_put_other hne _ z).trans (e2 z a ha), fun z hz => (Maps.atKey_put_other hne _ z).trans (e3 z hz)⟩
theorem step_put {ops : Array Oper} {o : Oper} {a : Act} {K : Act → World → Prop} {Q : Exit → Act → World → Prop} {Z : Prop} (hgd : o.guard = none) (m x v : Operand) (hop : o.op = Op.mapUpdate t m x v)
  (h : MapV P k e w b n f) (ht : P.underlying t = some (.map k e)) (hk : P.underlying k = some (.int .i64)) (he : P.underlying e = some (El.desc (α := α))) (i : Int) (c : α) (hi : okI i) (hc : El.ok c) (hn : n < maxLen)
  (hm : a.eval m = .map (some b)) (hx : a.eval x = .int .i64 i) (hv : a.eval v = El.val c) (hK : ∀ w', MapV P k e w' b (n + 1) (updF f i c) → w.grownBy w' (some b) → K (a.put o.dst undef) w') :
  if Region.wanted o (yielded ops a.tmps) = true then Oper.wp P o a w K Q else Z := by
 have hw : Region.wanted o (yielded ops a.tmps) = true := by simp [Region.wanted, hgd]
 rw [if_pos hw]
 obtain ⟨w', hr, r1, r2⟩ := h.update ht hk he hi hc hn
 unfold Oper.wp
 simp [execOp, hop, hm, hx, hv, hr, Result.andThen]
 exact hK w' r1 r2
end
end Go.Cold
namespace Go.Proofs.YtjgllhlilbchpaaGreatDoor
open Go.RowKit Go.Cold
theorem info_str2 : (Tryz.prog.info? 9).map (fun i => (i.zero, i.size)) = some (some (.string ByteArray.empty), 1) := by kernel_rfl
theorem info_int2 : (Tryz.prog.info? 3).map (fun i => (i.zero, i.size)) = some (some (.int .i64 0), 1) := by kernel_rfl
theorem zero_str (w : World) : (zeroValue 9).run Tryz.prog w = .ok (El.val (El.zero : ByteArray)) w := (zero_of_info info_str2).1 w
theorem zero_int (w : World) : (zeroValue 3).run Tryz.prog w = .ok (El.val (El.zero : Int)) w := (zero_of_info info_int2).1 w
theorem look_str {w : World} {b n : Nat} {f : Int → Option ByteArray} (h : MapV Tryz.prog 3 9 w b n f) {i : Int} (hi : okI i) : (Instr.lookup 75 (.map (some b)) (.int .i64 i) false).run Tryz.prog w = .ok (.string ((f i).getD ByteArray.empty)) w :=
 h.look Tryz.underlying75 Tryz.underlying3 Tryz.underlying9 (zero_str w) hi
theorem look_str_ok {w : World} {b n : Nat} {f : Int → Option ByteArray} (h : MapV Tryz.prog 3 9 w b n f) {i : Int} (hi : okI i) : (Instr.lookup 75 (.map (some b)) (.int .i64 i) true).run Tryz.prog w = .ok (.tuple #[.string ((f i).getD ByteArray.empty), .bool (f i).isSome]) w :=
 h.look_ok Tryz.underlying75 Tryz.underlying3 Tryz.underlying9 (zero_str w) hi
theorem look_int_ok {w : World} {b n : Nat} {f : Int → Option Int} (h : MapV Tryz.prog 3 3 w b n f) {i : Int} (hi : okI i) : (Instr.lookup 110 (.map (some b)) (.int .i64 i) true).run Tryz.prog w = .ok (.tuple #[.int .i64 ((f i).getD 0), .bool (f i).isSome]) w :=
 h.look_ok Tryz.underlying110 Tryz.underlying3 Tryz.underlying3 (zero_int w) hi
def LookPost (A : Option Addr) (c : Nat) (L : List Dev) (w : World) (e : Ending) (w' : World) : Prop := Below w.heap.size w w' ∧ ∃ bp bo : Nat, e = .returned (.agg #[.slice A L.length c, .map (some bp), .map (some bo)]) ∧ MapV Tryz.prog 3 3 w' bp L.length (plM L) ∧ MapV Tryz.prog 3 9 w' bo L.length (orgM L) ∧ w.heap.size ≤ bp ∧ w.heap.size ≤ bo
set_option maxRecDepth 100000 in
set_option maxHeartbeats 4000000 in
theorem look_any (A : Option Addr) (c : Nat) (L : List Dev) (w : World) (B : Nat) (hB : B ≤ w.heap.size) (hx : Sl w B A c L) (hv : ∀ d ∈ L, d.orig.size ≤ 32) (hl : L.length ≤ 256) : Calls Tryz.prog 91 #[.agg #[.slice A L.length c]] w (LookPost A c L w) := by
 have HX := Lib.hid hx; have HB := Lib.hid hB; have HV := Lib.hid hv; have HL := Lib.hid hl
 have hx1 := hx.1; have hx2 := hx.2.1
 unfold maxLen at hx2
 clear hx hB hv hl
 go_enter Tryz.func91, Tryz.ntmps91
 go_upto_region 1 with fail
 obtain ⟨w1, hw1⟩ : ∃ w1, w.alloc (.cells #[.slice A L.length c] 28) = w1 := ⟨_, rfl⟩
 have hbw1 : Below w.heap.size w w1 := by rw [← hw1]; exact (Below.refl _ _).alloc (Nat.le_refl _) _
 have HGw1 := Lib.hid (show w1.heap.size = w.heap.size + 1 by rw [← hw1]; simp)
 have HXtw1 := Lib.hid (show BoxL w1 w.heap.size [.slice A L.length c] from box_mk hw1)
 try simp only [hw1]
 have HBw1 := Lib.hid hbw1
 clear hw1 hbw1
 try rw [show w.heap.size + 1 = w1.heap.size from HGw1.out.symm]
 obtain ⟨w2, hw2⟩ : ∃ w2, w1.alloc (.cells #[.slice none 0 0, .map none, .map none] 112) = w2 := ⟨_, rfl⟩
 have hbw2 : Below w1.heap.size w1 w2 := by rw [← hw2]; exact (Below.refl _ _).alloc (Nat.le_refl _) _
 have HGw2 := Lib.hid (show w2.heap.size = w1.heap.size + 1 by rw [← hw2]; simp)
 have HXrw2 := Lib.hid (show BoxL w2 w1.heap.size [.slice none 0 0, .map none, .map none] from box_mk hw2)
 try simp only [hw2]
 have HBw2 := Lib.hid (HBw1.out.trans (hbw2.mono HBw1.out.size))
 have tw2 := Lib.hid (HXtw1.out.kept (grown_none hbw2) (fun e => by cases e))
 clear hw2 hbw2
 try rw [show w1.heap.size + 1 = w2.heap.size from HGw2.out.symm]
 have ct0 := tw2.out.1 0 _ rfl
 have cr0 := HXrw2.out.1 0 _ rfl
 have cr1 := HXrw2.out.1 1 _ rfl
 have cr2 := HXrw2.out.1 2 _ rfl
 have hmk1 := fun z => run_makeMap (P := Tryz.prog) 110 z
 have hmk2 := fun z => run_makeMap (P := Tryz.prog) 75 z
 go_upto_region 2 with fail
 clear hmk1 hmk2
 obtain ⟨w3, hw3⟩ : ∃ z, w2.alloc (.map #[] 0) = z := ⟨_, rfl⟩
 obtain ⟨w4, hw4⟩ : ∃ z, w3.alloc (.map #[] 0) = z := ⟨_, rfl⟩
 obtain ⟨w5, hw5⟩ : ∃ z, w4.alloc (.cells #[.slice A L.length c, .map (some w2.heap.size), .map (some w3.heap.size)] 112) = z := ⟨_, rfl⟩
 have hb3 : Below w2.heap.size w2 w3 := by rw [← hw3]; exact (Below.refl _ _).alloc (Nat.le_refl _) _
 have hb4 : Below w3.heap.size w3 w4 := by rw [← hw4]; exact (Below.refl _ _).alloc (Nat.le_refl _) _
 have hb5 : Below w4.heap.size w4 w5 := by rw [← hw5]; exact (Below.refl _ _).alloc (Nat.le_refl _) _
 have hm3 : MapV Tryz.prog 3 3 w3 w2.heap.size 0 (fun _ => (none : Option Int)) := by rw [← hw3]; exact MapV.made w2 _ _ _
 have hm4 : MapV Tryz.prog 3 9 w4 w3.heap.size 0 (fun _ => (none : Option ByteArray)) := by rw [← hw4]; exact MapV.made w3 _ _ _
 have hx5 : BoxL w5 w4.heap.size [.slice A L.length c, .map (some w2.heap.size), .map (some w3.heap.size)] := box_mk hw5
 have HG3 := Lib.hid (show w3.heap.size = w2.heap.size + 1 by rw [← hw3]; simp); have HG4 := Lib.hid (show w4.heap.size = w3.heap.size + 1 by rw [← hw4]; simp)
 simp only [hw3]
 try rw [show w2.heap.size + 1 = w3.heap.size from HG3.out.symm]
 simp only [hw4]
 try simp only [hw5]
 try rw [show w3.heap.size + 1 = w4.heap.size from HG4.out.symm]
 have hb25 := hb3.trans ((hb4.trans (hb5.mono hb4.size)).mono hb3.size)
 have HST := Lib.hid (show LkSt Tryz.prog 3 9 w w.heap.size w1.heap.size w4.heap.size w2.heap.size w3.heap.size A c L 0 w5 from ⟨HBw2.out.trans (hb25.mono HBw2.out.size), tw2.out.kept (grown_none hb25) (fun e => by cases e), HXrw2.out.kept (grown_none hb25) (fun e => by cases e), hx5, (hm3.next hb4).next hb5, hm4.next hb5⟩)
 clear hw3 hw4 hw5 hb3 hb4 hb5 hm3 hm4 hx5 hb25
 clear ct0 cr0 cr1 cr2
 have t0 := HST.out.2.1.1 0 _ rfl
 go_wp2_with fail
 clear t0
 go_loopw [15] (fun i wr => ∃ k : Nat, k ≤ L.length ∧ i = .int .i64 k ∧ Hid (LkSt Tryz.prog 3 9 w w.heap.size w1.heap.size w4.heap.size w2.heap.size w3.heap.size A c L k wr)) (fun i _ => L.length - (intOf i).toNat)
 case atStart => exact ⟨0, Nat.zero_le _, rfl, HST⟩
 case round =>
  obtain ⟨k, hk, rfl, HST⟩ := hrel
  by_cases hlt : k < L.length
  ·
   have i1 : (k : Int) < (L.length : Int) := by omega
   obtain ⟨b3, o3, rfl, hb3, A3, c3, hok3, -, hcs3⟩ := (HX.out.keep (HST.out.1.mono HB.out)).dev hlt
   have hxk : L[k]? = some L[k] := List.getElem?_eq_getElem hlt
   have hvk := HV.out _ (List.getElem_mem hlt)
   obtain ⟨y, hy⟩ : ∃ y, L[k]'hlt = y := ⟨_, rfl⟩
   rw [hy] at hok3 hcs3 hxk hvk
   have HXK := Lib.hid hxk; have HVK := Lib.hid hvk; have HOK3 := Lib.hid hok3; have HB3 := Lib.hid hb3
   clear hxk hvk hok3 hb3 hy
   obtain ⟨y0, y1, y2, y3, y4, y5, y6, y7, y8, y9⟩ := hcs3
   go_upto_region 5 with fail
   clear y0 y1 y2 y3 y4 y5 y6 y7 y8 y9
   obtain ⟨v1, hv1⟩ : ∃ z, wr.alloc (.cells #[.int .i64 y.idx, .int .i64 y.par, .string y.nm, .string y.orig, .string y.sub, .string y.drv, .string y.ali, .int .i64 y.kind, .int .i64 y.num, .slice A3 y.attrs.length c3] 32) = z := ⟨_, rfl⟩
   have hb_ : Below wr.heap.size wr v1 := by rw [← hv1]; exact (Below.refl _ _).alloc (Nat.le_refl _) _
   have HY := Lib.hid (show BoxL v1 wr.heap.size [.int .i64 y.idx, .int .i64 y.par, .string y.nm, .string y.orig, .string y.sub, .string y.drv, .string y.ali, .int .i64 y.kind, .int .i64 y.num, .slice A3 y.attrs.length c3] from box_mk hv1)
   have HST1 := Lib.hid (HST.out.below hb_)
   try simp only [hv1]
   clear hv1 hb_
   have z1 := HST1.out.2.2.2.1.1 2 _ rfl; have p1 := HY.out.1 1 _ rfl; have p3 := HY.out.1 3 _ rfl
   have hlk := look_str HST1.out.2.2.2.2.2 HOK3.out.2.1
   have hsz := orgM_str (L.take k) y.par
   obtain ⟨s, hs⟩ : ∃ s, (orgM (L.take k) y.par).getD ByteArray.empty = s := ⟨_, rfl⟩
   rw [hs] at hlk hsz
   have hs2 : s.size ≤ 8448 := by rw [hsz]; exact str_size (fun d hd => HV.out d (List.mem_of_mem_take hd)) (by rw [List.length_take]; have := HL.out; omega) _
   have HS := Lib.hid hs; have HS2 := Lib.hid hs2
   clear hs hsz
   have hs3 : ¬ 9223372036854775807 < s.size + 1 := by omega
   have hs4 : ¬ 9223372036854775807 < s.size + 1 + y.orig.size := by have := HVK.out; omega
   go_upto_region 6 with fail
   clear hlk z1 p1 p3 hs2
   clear hs3 hs4
   refine wp_region_held_drew (S := fun w' => BoxL w' w4.heap.size [.slice (some ⟨b3, o3, none⟩) L.length c, .map (some w2.heap.size), .map (some w3.heap.size)] ∧ BoxL w' wr.heap.size [.int .i64 y.idx, .int .i64 y.par, .string y.nm, .string y.orig, .string y.sub, .string y.drv, .string y.ali, .int .i64 y.kind, .int .i64 y.num, .slice A3 y.attrs.length c3]) (by kernel_rfl) ⟨HST1.out.2.2.2.1.drew, HY.out.drew⟩ (fun hS0 => ?_)
   obtain ⟨wd, hwd⟩ : ∃ z, v1.drew = z := ⟨_, rfl⟩
   have hb_ : Below v1.heap.size v1 wd := by rw [← hwd]; exact below_drewN_self _ _ 1
   rw [hwd] at hS0 ⊢
   have HSTd := Lib.hid (HST1.out.below hb_); have HYd := Lib.hid (HY.out.kept (grown_none hb_) (fun e => by cases e))
   clear hwd hb_ hS0
   refine wpAnyH_take (i := 0) (oi := ⟨some 29, _, _, _, _, _⟩) (v := .pointer (some ⟨w4.heap.size, 1, none⟩)) rfl (by kernel_rfl) (by kernel_rfl) (by kernel_rfl) (fun _ _ _ h => h) (Or.inl ⟨by rfl, fun w' hS => by go_simp⟩) ⟨HSTd.out.2.2.2.1, HYd.out⟩ ?_
   try simp only [Act.put, List.setIfInBounds_toArray, List.set_cons_zero, List.set_cons_succ]
   refine wpAnyH_take (i := 1) (oi := ⟨some 30, _, _, _, _, _⟩) (v := .map (some w2.heap.size)) rfl (by kernel_rfl) (by kernel_rfl) (by kernel_rfl) (fun _ _ _ h => h) (Or.inl ⟨by rfl, fun w' hS => by (have u := hS.1.1 1 _ rfl; go_simp)⟩) ⟨HSTd.out.2.2.2.1, HYd.out⟩ ?_
   try simp only [Act.put, List.setIfInBounds_toArray, List.set_cons_zero, List.set_cons_succ]
   refine wpAnyH_take (i := 2) (oi := ⟨some 31, _, _, _, _, _⟩) (v := .pointer (some ⟨wr.heap.size, 0, none⟩)) rfl (by kernel_rfl) (by kernel_rfl) (by kernel_rfl) (fun _ _ _ h => h) (Or.inl ⟨by rfl, fun w' hS => by go_simp⟩) ⟨HSTd.out.2.2.2.1, HYd.out⟩ ?_
   try simp only [Act.put, List.setIfInBounds_toArray, List.set_cons_zero, List.set_cons_succ]
   refine wpAnyH_take (i := 3) (oi := ⟨some 32, _, _, _, _, _⟩) (v := .int .i64 y.idx) rfl (by kernel_rfl) (by kernel_rfl) (by kernel_rfl) (fun _ _ _ h => h) (Or.inl ⟨by rfl, fun w' hS => by (have u := hS.2.1 0 _ rfl; go_simp)⟩) ⟨HSTd.out.2.2.2.1, HYd.out⟩ ?_
   try simp only [Act.put, List.setIfInBounds_toArray, List.set_cons_zero, List.set_cons_succ]
   refine wpAnyH_take (i := 4) (oi := ⟨some 33, _, _, _, _, _⟩) (v := .pointer (some ⟨w4.heap.size, 2, none⟩)) rfl (by kernel_rfl) (by kernel_rfl) (by kernel_rfl) (fun _ _ _ h => h) (Or.inl ⟨by rfl, fun w' hS => by go_simp⟩) ⟨HSTd.out.2.2.2.1, HYd.out⟩ ?_
   try simp only [Act.put, List.setIfInBounds_toArray, List.set_cons_zero, List.set_cons_succ]
   refine wpAnyH_take (i := 5) (oi := ⟨some 34, _, _, _, _, _⟩) (v := .map (some w3.heap.size)) rfl (by kernel_rfl) (by kernel_rfl) (by kernel_rfl) (fun _ _ _ h => h) (Or.inl ⟨by rfl, fun w' hS => by (have u := hS.1.1 2 _ rfl; go_simp)⟩) ⟨HSTd.out.2.2.2.1, HYd.out⟩ ?_
   try simp only [Act.put, List.setIfInBounds_toArray, List.set_cons_zero, List.set_cons_succ]
   refine wpAnyH_take (i := 6) (oi := ⟨some 35, _, _, _, _, _⟩) (v := .pointer (some ⟨wr.heap.size, 0, none⟩)) rfl (by kernel_rfl) (by kernel_rfl) (by kernel_rfl) (fun _ _ _ h => h) (Or.inl ⟨by rfl, fun w' hS => by go_simp⟩) ⟨HSTd.out.2.2.2.1, HYd.out⟩ ?_
   try simp only [Act.put, List.setIfInBounds_toArray, List.set_cons_zero, List.set_cons_succ]
   refine wpAnyH_take (i := 7) (oi := ⟨some 36, _, _, _, _, _⟩) (v := .int .i64 y.idx) rfl (by kernel_rfl) (by kernel_rfl) (by kernel_rfl) (fun _ _ _ h => h) (Or.inl ⟨by rfl, fun w' hS => by (have u := hS.2.1 0 _ rfl; go_simp)⟩) ⟨HSTd.out.2.2.2.1, HYd.out⟩ ?_
   try simp only [Act.put, List.setIfInBounds_toArray, List.set_cons_zero, List.set_cons_succ]
   refine wpAnyH_take (i := 8) (oi := ⟨some 37, _, _, _, _, _⟩) (v := .int .i64 k) rfl (by kernel_rfl) (by kernel_rfl) (by kernel_rfl) (fun _ _ _ h => h) (Or.inl ⟨by rfl, fun w' hS => by go_simp⟩) ⟨HSTd.out.2.2.2.1, HYd.out⟩ ?_
   try simp only [Act.put, List.setIfInBounds_toArray, List.set_cons_zero, List.set_cons_succ]
   refine wpAnyH_take (i := 9) (oi := ⟨some 38, _, _, _, _, _⟩) (v := .string (s ++ ⟨#[47]⟩ ++ y.orig)) rfl (by kernel_rfl) (by kernel_rfl) (by kernel_rfl) (fun _ _ _ h => h) (Or.inl ⟨by rfl, fun w' hS => by go_simp⟩) ⟨HSTd.out.2.2.2.1, HYd.out⟩ ?_
   try simp only [Act.put, List.setIfInBounds_toArray, List.set_cons_zero, List.set_cons_succ]
   have HNE := Lib.hid (show (w2.heap.size ≠ w.heap.size ∧ w2.heap.size ≠ w1.heap.size ∧ w2.heap.size ≠ w4.heap.size ∧ w2.heap.size ≠ wr.heap.size ∧ w2.heap.size ≠ w3.heap.size) ∧ (w3.heap.size ≠ w.heap.size ∧ w3.heap.size ≠ w1.heap.size ∧ w3.heap.size ≠ w4.heap.size ∧ w3.heap.size ≠ wr.heap.size) by have := HST.out.2.2.2.1.2.2; have := HGw1.out; have := HGw2.out; have := HG3.out; have := HG4.out; omega)
   refine wpAnyH_ready (rs := [10]) (by kernel_rfl) (by simp) ?_
   refine AllReadyH.cons (o := ⟨none, .mapUpdate _ _ _ _, _, _, _, _⟩) rfl (fun K hK => ?_) AllReadyH.nil
   refine step_put rfl _ _ _ rfl HSTd.out.2.2.2.2.1 Tryz.underlying110 Tryz.underlying3 Tryz.underlying3 y.idx (k : Int) HOK3.out.1 (by show okI (k : Int); unfold okI; have := HL.out; omega) (by have := HL.out; unfold maxLen; omega) (by simp [Act.eval, Act.put]) (by simp [Act.eval, Act.put]) (by simp [Act.eval, Act.put]; try rfl) ?_
   intro v2 hm_ hg_
   have HP2 := Lib.hid hm_
   have HO2 := Lib.hid (HSTd.out.2.2.2.2.2.kept hg_ (fun e => HNE.out.1.2.2.2.2 (Option.some.inj e).symm))
   have HB2 := Lib.hid (HSTd.out.1.grown hg_ HSTd.out.1.size (fun q hq => by have := Option.some.inj hq; have := HGw1.out; have := HGw2.out; omega))
   have HA2 := Lib.hid (HSTd.out.2.1.kept hg_ (fun e => HNE.out.1.1 (Option.some.inj e).symm))
   have HR2 := Lib.hid (HSTd.out.2.2.1.kept hg_ (fun e => HNE.out.1.2.1 (Option.some.inj e).symm))
   have HV2 := Lib.hid (HSTd.out.2.2.2.1.kept hg_ (fun e => HNE.out.1.2.2.1 (Option.some.inj e).symm))
   have HY2 := Lib.hid (HYd.out.kept hg_ (fun e => HNE.out.1.2.2.2.1 (Option.some.inj e).symm))
   clear hm_ hg_
   refine hK.out _ _ ⟨HV2.out, HY2.out⟩ (fun _ => ?_)
   clear hK K
   try simp only [Act.put, List.setIfInBounds_toArray, List.set_cons_zero, List.set_cons_succ]
   refine wpAnyH_ready (rs := [11]) (by kernel_rfl) (by simp) ?_
   refine AllReadyH.cons (o := ⟨none, .mapUpdate _ _ _ _, _, _, _, _⟩) rfl (fun K hK => ?_) AllReadyH.nil
   refine step_put rfl _ _ _ rfl HO2.out Tryz.underlying75 Tryz.underlying3 Tryz.underlying9 y.idx (s ++ ⟨#[47]⟩ ++ y.orig) HOK3.out.1 (by show (s ++ ⟨#[47]⟩ ++ y.orig).size ≤ maxLen; rw [ByteArray.size_append, ByteArray.size_append]; have := HS2.out; have := HVK.out; have h5 : (⟨#[47]⟩ : ByteArray).size = 1 := rfl; unfold maxLen; omega) (by have := HL.out; unfold maxLen; omega) (by simp [Act.eval, Act.put]) (by simp [Act.eval, Act.put]) (by simp [Act.eval, Act.put]; try rfl) ?_
   intro v3 hm_ hg_
   have HO3 := Lib.hid hm_
   have HP3 := Lib.hid (HP2.out.kept hg_ (fun e => HNE.out.1.2.2.2.2 (Option.some.inj e)))
   have HB3x := Lib.hid (HB2.out.grown hg_ HB2.out.size (fun q hq => by have := Option.some.inj hq; have := HGw1.out; have := HGw2.out; have := HG3.out; omega))
   have HA3 := Lib.hid (HA2.out.kept hg_ (fun e => HNE.out.2.1 (Option.some.inj e).symm))
   have HR3 := Lib.hid (HR2.out.kept hg_ (fun e => HNE.out.2.2.1 (Option.some.inj e).symm))
   have HV3 := Lib.hid (HV2.out.kept hg_ (fun e => HNE.out.2.2.2.1 (Option.some.inj e).symm))
   have HY3 := Lib.hid (HY2.out.kept hg_ (fun e => HNE.out.2.2.2.2 (Option.some.inj e).symm))
   clear hm_ hg_
   refine hK.out _ _ ⟨HV3.out, HY3.out⟩ (fun _ => ?_)
   clear hK K
   try simp only [Act.put, List.setIfInBounds_toArray, List.set_cons_zero, List.set_cons_succ]
   refine wpAnyH_done (by kernel_rfl) ?_ _
   have hf1 := plM_step hlt HXK.out; have hf2 := orgM_step HXK.out
   rw [HS.out] at hf2
   have HSTn := Lib.hid (show LkSt Tryz.prog 3 9 w w.heap.size w1.heap.size w4.heap.size w2.heap.size w3.heap.size (some ⟨b3, o3, none⟩) c L (k + 1) v3 from ⟨HB3x.out, HA3.out, HR3.out, HV3.out, by rw [hf1]; exact HP3.out, by rw [hf2]; exact HO3.out⟩)
   clear hf1 hf2
   go_wp2
   go_roundw
   case rel => exact ⟨k + 1, by omega, by go_num, HSTn⟩
   case measure => simp [intOf]; omega
  ·
   have i1 : ¬ (k : Int) < (L.length : Int) := by omega
   obtain rfl : k = L.length := by omega
   have hp := HST.out.2.2.2.2.1; have ho := HST.out.2.2.2.2.2
   rw [List.take_length] at hp ho
   have HPM := Lib.hid hp; have HOM := Lib.hid ho; clear hp ho
   have z0 := HST.out.2.2.2.1.1 0 _ rfl; have z1 := HST.out.2.2.2.1.1 1 _ rfl; have z2 := HST.out.2.2.2.1.1 2 _ rfl
   have r0 := HST.out.2.2.1.1 0 _ rfl; have r1 := HST.out.2.2.1.1 1 _ rfl; have r2 := HST.out.2.2.1.1 2 _ rfl; have rf := HST.out.2.2.1.2.1
   go_wp2
   refine bodyPost_ret (v := .agg #[.slice A L.length c, .map (some w2.heap.size), .map (some w3.heap.size)]) (by simp [results, Tryz.results91, go_sem, r0, r1, r2, rf]) rfl ⟨((HST.out.1.setCell (by show w.heap.size ≤ w1.heap.size; have := HGw1.out; omega) _).setCell (by show w.heap.size ≤ w1.heap.size; have := HGw1.out; omega) _).setCell (by show w.heap.size ≤ w1.heap.size; have := HGw1.out; omega) _, w2.heap.size, w3.heap.size, rfl, ?_, ?_, by have := HGw1.out; have := HGw2.out; omega, by have := HGw1.out; have := HGw2.out; have := HG3.out; omega⟩
   · exact ((HPM.out.kept (grown_one _ w1.heap.size 0 _) (fun e => by have := Option.some.inj e; have := HGw2.out; omega)).kept (grown_one _ w1.heap.size 1 _) (fun e => by have := Option.some.inj e; have := HGw2.out; omega)).kept (grown_one _ w1.heap.size 2 _) (fun e => by have := Option.some.inj e; have := HGw2.out; omega)
   · exact ((HOM.out.kept (grown_one _ w1.heap.size 0 _) (fun e => by have := Option.some.inj e; have := HGw2.out; have := HG3.out; omega)).kept (grown_one _ w1.heap.size 1 _) (fun e => by have := Option.some.inj e; have := HGw2.out; have := HG3.out; omega)).kept (grown_one _ w1.heap.size 2 _) (fun e => by have := Option.some.inj e; have := HGw2.out; have := HG3.out; omega)
theorem field_view (a b c : Value) (w : World) : (Instr.field 112 (.agg #[a, b, c]) 2).run Tryz.prog w = .ok c w := by
 simp [Instr.field, run_underlying Tryz.underlying112, asAgg, part, sizeOf, typeInfo]
set_option maxRecDepth 100000 in
theorem Origin_any (A : Option Addr) (c : Nat) (L : List Dev) (n : Int) (w : World) (B : Nat) (hB : B ≤ w.heap.size) (hx : Sl w B A c L) (hv : ∀ d ∈ L, d.orig.size ≤ 32) (hl : L.length ≤ 256) (hn : okI n) : Calls Tryz.prog 45 #[.agg #[.slice A L.length c], .int .i64 n] w fun e w' => e = .returned (.tuple #[.string (strF L n), .bool ((idxs L).contains n)]) ∧ Below w.heap.size w w' := by
 have HX := Lib.hid hx; have HB := Lib.hid hB; have HV := Lib.hid hv; have HL := Lib.hid hl; have HN := Lib.hid hn; clear hx hB hv hl hn
 go_enter Tryz.func45, Tryz.ntmps45
 go_upto_region 1 with fail
 obtain ⟨w1, hw1⟩ : ∃ w1, w.alloc (.cells #[.slice A L.length c] 28) = w1 := ⟨_, rfl⟩
 have hbw1 : Below w.heap.size w w1 := by rw [← hw1]; exact (Below.refl _ _).alloc (Nat.le_refl _) _
 have HGw1 := Lib.hid (show w1.heap.size = w.heap.size + 1 by rw [← hw1]; simp)
 have HXtw1 := Lib.hid (show BoxL w1 w.heap.size [.slice A L.length c] from box_mk hw1)
 try simp only [hw1]
 have HBw1 := Lib.hid hbw1
 clear hw1 hbw1
 try rw [show w.heap.size + 1 = w1.heap.size from HGw1.out.symm]
 have ct0 := HXtw1.out.1 0 _ rfl
 go_wp2_with fail
 refine (look_any A c L _ B (Nat.le_trans HB.out HBw1.out.size) (HX.out.keep (HBw1.out.mono HB.out)) HV.out HL.out).mono ?_
 rintro e w2 ⟨hbw2, bp, bo, rfl, -, hmo, -⟩
 clear ct0
 have HBw2 := Lib.hid (HBw1.out.trans (hbw2.mono HBw1.out.size))
 have tw2 := Lib.hid (HXtw1.out.kept (grown_none hbw2) (fun e => by cases e))
 clear hbw2
 have hlk := look_str_ok hmo HN.out
 rw [orgM_str, orgM_some] at hlk
 clear hmo
 have hfv := field_view (.slice A L.length c) (.map (some bp)) (.map (some bo)) w2
 obtain ⟨s, hs⟩ : ∃ s, strF L n = s := ⟨_, rfl⟩
 obtain ⟨q, hq⟩ : ∃ q, (idxs L).contains n = q := ⟨_, rfl⟩
 rw [hs, hq] at hlk
 have HS := Lib.hid hs; have HQ := Lib.hid hq; clear hs hq
 go_wp2
 go_ret2
 exact ⟨by rw [HS.out, HQ.out]; rfl, HBw2.out⟩
end Go.Proofs.YtjgllhlilbchpaaGreatDoor
namespace Go.Cold
open Go Go.RowKit
theorem plGo_out : ∀ (l : List Dev) (i : Nat) (f : Int → Option Int) (n : Int), n ∉ idxs l → plGo l i f n = f n
 | [], _, _, _, _ => rfl
 | d :: r, i, f, n, h => by
  have h1 : n ≠ d.idx := fun e => h (by rw [e]; exact List.mem_cons_self)
  have h2 : n ∉ idxs r := fun e => h (List.mem_cons_of_mem _ e)
  rw [plGo, plGo_out r _ _ n h2]
  unfold updF
  rw [if_neg h1]
theorem plGo_in : ∀ (l : List Dev) (i : Nat) (f : Int → Option Int) (n : Int), n ∈ idxs l → ∃ (k : Nat) (h : k < l.length), l[k].idx = n ∧ plGo l i f n = some ((i + k : Nat) : Int)
 | d :: r, i, f, n, h => by
  by_cases h2 : n ∈ idxs r
  ·
   obtain ⟨k, hk, h3, h4⟩ := plGo_in r (i + 1) (updF f d.idx (i : Int)) n h2
   refine ⟨k + 1, by simp; omega, by simpa using h3, ?_⟩
   rw [plGo, h4]
   congr 2; omega
  ·
   have h1 : n = d.idx := by
    rcases List.mem_cons.1 h with h | h
    · exact h
    · exact absurd h h2
   refine ⟨0, by simp, h1.symm, ?_⟩
   rw [plGo, plGo_out r _ _ n h2]
   unfold updF
   rw [if_pos h1]; simp
theorem find_plM {L : List Dev} (h : (idxs L).Nodup) (n : Int) : (plM L n = none ∧ findD L n = none) ∨ ∃ (k : Nat) (hk : k < L.length), plM L n = some (k : Int) ∧ findD L n = some (L[k]'hk) := by
 by_cases hn : n ∈ idxs L
 ·
  right
  obtain ⟨k, hk, h3, h4⟩ := plGo_in L 0 (fun _ => none) n hn
  refine ⟨k, hk, by unfold plM; rw [h4]; simp, ?_⟩
  rw [← h3]; exact find_of h (List.getElem_mem hk)
 · exact .inl ⟨plGo_out L 0 _ n hn, find_none.2 hn⟩
end Go.Cold
namespace Go.Proofs.YtjgllhlilbchpaaGreatDoor
open Go.RowKit Go.Cold
set_option maxRecDepth 100000 in
set_option maxHeartbeats 4000000 in
theorem vfind_any (A : Option Addr) (c : Nat) (L : List Dev) (bp bo N : Nat) (n : Int) (w : World) (B : Nat) (hB : B ≤ w.heap.size) (hx : Sl w B A c L) (hm : MapV Tryz.prog 3 3 w bp N (plM L)) (hu : (idxs L).Nodup) (hn : okI n) : Calls Tryz.prog 134 #[.agg #[.slice A L.length c, .map (some bp), .map (some bo)], .int .i64 n] w (FindPost L n B w) := by
 have hzv := (zero_of_info (P := Tryz.prog) (t := 32) info_dev2).1
 have HX := Lib.hid hx; have HB := Lib.hid hB; have HN := Lib.hid hn; have HM := Lib.hid hm; have HU := Lib.hid hu
 have hx1 := hx.1; have hx2 := hx.2.1
 unfold maxLen at hx2
 clear hx hB hn hm hu
 go_enter Tryz.func134, Tryz.ntmps134
 go_upto_region 1 with fail
 obtain ⟨w1, hw1⟩ : ∃ w1, w.alloc (.cells #[.slice A L.length c, .map (some bp), .map (some bo)] 112) = w1 := ⟨_, rfl⟩
 have hbw1 : Below w.heap.size w w1 := by rw [← hw1]; exact (Below.refl _ _).alloc (Nat.le_refl _) _
 have HGw1 := Lib.hid (show w1.heap.size = w.heap.size + 1 by rw [← hw1]; simp)
 have HXvw1 := Lib.hid (show BoxL w1 w.heap.size [.slice A L.length c, .map (some bp), .map (some bo)] from box_mk hw1)
 try simp only [hw1]
 have HBw1 := Lib.hid hbw1
 clear hw1 hbw1
 try rw [show w.heap.size + 1 = w1.heap.size from HGw1.out.symm]
 obtain ⟨w2, hw2⟩ : ∃ w2, w1.alloc (.cells #[.int .i64 0, .int .i64 0, .string ByteArray.empty, .string ByteArray.empty, .string ByteArray.empty, .string ByteArray.empty, .string ByteArray.empty, .int .i64 0, .int .i64 0, .slice none 0 0] 32) = w2 := ⟨_, rfl⟩
 have hbw2 : Below w1.heap.size w1 w2 := by rw [← hw2]; exact (Below.refl _ _).alloc (Nat.le_refl _) _
 have HGw2 := Lib.hid (show w2.heap.size = w1.heap.size + 1 by rw [← hw2]; simp)
 have HXrw2 := Lib.hid (show BoxL w2 w1.heap.size [.int .i64 0, .int .i64 0, .string ByteArray.empty, .string ByteArray.empty, .string ByteArray.empty, .string ByteArray.empty, .string ByteArray.empty, .int .i64 0, .int .i64 0, .slice none 0 0] from box_mk hw2)
 try simp only [hw2]
 have HBw2 := Lib.hid (HBw1.out.trans (hbw2.mono HBw1.out.size))
 have vw2 := Lib.hid (HXvw1.out.kept (grown_none hbw2) (fun e => by cases e))
 clear hw2 hbw2
 try rw [show w1.heap.size + 1 = w2.heap.size from HGw2.out.symm]
 have cv0 := vw2.out.1 0 _ rfl
 have cv1 := vw2.out.1 1 _ rfl
 have cr0 := HXrw2.out.1 0 _ rfl
 have cr1 := HXrw2.out.1 1 _ rfl
 have cr2 := HXrw2.out.1 2 _ rfl
 have cr3 := HXrw2.out.1 3 _ rfl
 have cr4 := HXrw2.out.1 4 _ rfl
 have cr5 := HXrw2.out.1 5 _ rfl
 have cr6 := HXrw2.out.1 6 _ rfl
 have cr7 := HXrw2.out.1 7 _ rfl
 have cr8 := HXrw2.out.1 8 _ rfl
 have cr9 := HXrw2.out.1 9 _ rfl
 have cfr := HXrw2.out.2.1
 have hlk := look_int_ok (HM.out.below HBw2.out HM.out.lt) HN.out
 rcases find_plM HU.out n with ⟨h1, h2⟩ | ⟨k, hk, h1, h2⟩
 ·
  rw [h1] at hlk
  have HF := Lib.hid h2
  clear h1 h2
  go_wp2
  refine bodyPost_ret (v := .tuple #[.agg #[.int .i64 0, .int .i64 0, .string ByteArray.empty, .string ByteArray.empty, .string ByteArray.empty, .string ByteArray.empty, .string ByteArray.empty, .int .i64 0, .int .i64 0, .slice none 0 0], .bool false]) (by simp [results, Tryz.results134, go_sem, cr0, cr1, cr2, cr3, cr4, cr5, cr6, cr7, cr8, cr9, cfr]) rfl ⟨below10 HBw2.out (by have := HGw1.out; omega) _ _ _ _ _ _ _ _ _ _, zeroD, none, 0, by rw [HF.out]; rfl, by rw [HF.out]; rfl, zero_ok, Sl.nil_⟩
 ·
  rw [h1] at hlk
  have HF := Lib.hid h2
  clear h1 h2
  have i1 : (k : Int) < (L.length : Int) := by omega
  have i2 : (0 : Int) ≤ (k : Int) := by omega
  obtain ⟨b3, o3, rfl, hb3, A3, c3, hok3, hat3, hdc⟩ := (HX.out.keep (HBw2.out.mono HB.out)).dev hk
  obtain ⟨y, hy⟩ : ∃ y, L[k]'hk = y := ⟨_, rfl⟩
  rw [hy] at hok3 hat3 hdc
  have HFD := Lib.hid (show findD L n = some y by rw [HF.out, hy])
  have HOK := Lib.hid hok3; have HAT := Lib.hid hat3
  obtain ⟨d0, d1, d2, d3, d4, d5, d6, d7, d8, d9⟩ := hdc
  clear hok3 hat3 hy HF hb3
  simp only [Option.getD_some, Option.isSome_some] at hlk
  go_wp2
  refine bodyPost_ret (v := .tuple #[.agg #[.int .i64 y.idx, .int .i64 y.par, .string y.nm, .string y.orig, .string y.sub, .string y.drv, .string y.ali, .int .i64 y.kind, .int .i64 y.num, .slice A3 y.attrs.length c3], .bool true]) (by simp [results, Tryz.results134, go_sem, cr0, cr1, cr2, cr3, cr4, cr5, cr6, cr7, cr8, cr9, cfr]) rfl ⟨below10 HBw2.out (by have := HGw1.out; omega) _ _ _ _ _ _ _ _ _ _, y, A3, c3, by rw [HFD.out]; rfl, by rw [HFD.out]; rfl, HOK.out, HAT.out.keep (below10 (Below.refl B w2) (by have := HGw1.out; have := HB.out; omega) _ _ _ _ _ _ _ _ _ _)⟩
end Go.Proofs.YtjgllhlilbchpaaGreatDoor
namespace Go.Cold
open Go Go.RowKit
end Go.Cold
namespace Go.Proofs.YtjgllhlilbchpaaGreatDoor
open Go.RowKit Go.Cold
end Go.Proofs.YtjgllhlilbchpaaGreatDoor
namespace Go.Cold
open Go Go.RowKit
end Go.Cold
namespace Go.Proofs.YtjgllhlilbchpaaGreatDoor
open Go.RowKit Go.Cold
end Go.Proofs.YtjgllhlilbchpaaGreatDoor
