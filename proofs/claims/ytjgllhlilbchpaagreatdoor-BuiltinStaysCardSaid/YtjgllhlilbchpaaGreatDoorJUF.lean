/-
  The walks of builtin.Net and the reference's Net.
-/
import Derived.Test.YtjgllhlilbchpaaGreatDoorJSM
import Derived.Test.YtjgllhlilbchpaaGreatDoorJUC
import Derived.Test.YtjgllhlilbchpaaGreatDoorJL
import Derived.Test.YtjgllhlilbchpaaGreatDoorJC
import Derived.Test.YtjgllhlilbchpaaGreatDoorJW
import Derived.Test.YtjgllhlilbchpaaGreatDoorJSC
import Derived.Lib.LaidU8T
import Derived.PinnedBridge
set_option linter.unusedSimpArgs false
set_option linter.unusedVariables false
namespace Go.Cold
open Go Go.RowKit Go.Proofs.YtjgllhlilbchpaaGreatDoor
theorem replaceK_drop (c : UInt8) : ∀ (n : Nat) (l : List UInt8), l.length ≤ n → Lib.replaceK [c] [] (Lib.count l [c]) l = l.filter fun x => decide (x ≠ c)
 | n, l, hn => by
  rcases cut_at c l with h | ⟨a, r, rfl, h⟩
  ·
   rw [Lib.count_miss (by rw [Lib.index_one, byte_no h])]
   exact (List.filter_eq_self.2 (fun b hb => by simpa using h b hb)).symm
  ·
   have hi : Lib.index (a ++ c :: r) [c] = a.length := by rw [Lib.index_one, byte_at h]
   have hdrop : (a ++ c :: r).drop (a.length + [c].length) = r := by rw [← List.drop_drop, List.drop_left]; rfl
   have hc : Lib.count (a ++ c :: r) [c] = Lib.count r [c] + 1 := by
    rw [Lib.count_hit (by simp) hi, hdrop]; omega
   rw [hc, Lib.replaceK_hit _ _ _ _ _ hi, hdrop]
   match n, hn with
   | 0, hn => simp at hn
   | n + 1, hn =>
    have ha : a.filter (fun x => decide (x ≠ c)) = a := List.filter_eq_self.2 (fun b hb => by simpa using h b hb)
    rw [replaceK_drop c n r (by simp at hn; omega), List.filter_append, List.filter_cons_of_neg (by simp), ha]
    simp
theorem replaceAll_drop (c : UInt8) (l : List UInt8) : Lib.replaceAll l [c] [] = l.filter fun x => decide (x ≠ c) := by
 have hne2 : ([c] == ([] : List UInt8)) = false := by simp
 unfold Lib.replaceAll Lib.replace Lib.replaceNum
 rw [hne2, if_neg (by simp), if_pos (.inl (by omega))]
 exact replaceK_drop c _ l (Nat.le_refl _)
theorem noColon_size (s : ByteArray) : (noColon s).size ≤ s.size := by
 rw [← ba_size, ← ba_size]
 unfold noColon
 exact List.length_filter_le _ _
def valA (d : Dev) (a : ByteArray) : ByteArray := (getA d.attrs a).getD ByteArray.empty
theorem val_small {L : List Dev} (h : VT L) {n : Int} {d : Dev} (hd : d = (findD L n).getD zeroD) (a : ByteArray) : (valA d a).size ≤ 256 := by
 unfold valA
 cases hg : getA d.attrs a with
 | none => exact Nat.zero_le _
 | some v =>
  have hm := getA_mem hg
  cases hf : findD L n with
  | none => rw [hf] at hd; rw [show d = zeroD from hd] at hm; cases hm
  | some e =>
   rw [hf] at hd
   have hc := h.chk e (find_some hf).1
   rw [show d = e from hd] at hm
   rw [checkD_eq] at hc
   have hat : attrsB e.attrs = true := by
    cases hq : attrsB e.attrs with
    | true => rfl
    | false => rw [hq] at hc; simp at hc; repeat' (split at hc <;> try omega)
   unfold attrsB at hat
   rw [Bool.and_eq_true] at hat
   have := List.all_eq_true.1 hat.2 _ hm
   unfold attrB textB at this
   simp only [Bool.and_eq_true, decide_eq_true_eq] at this
   show v.size ≤ 256
   omega
theorem netL_kind {L : List Dev} {n : Int} {d : Dev} (hd : d = (findD L n).getD zeroD) (h : ¬ d.kind = 4) : netL L n = [] := by
 unfold netL netAt
 rw [← hd, if_neg h]
theorem netL_all {L : List Dev} {n : Int} {d : Dev} (hd : d = (findD L n).getD zeroD) (h : d.kind = 4) : netL L n = putAll (netP d (netT.take 3)) := by
 unfold netL netAt
 rw [← hd, if_pos h]; rfl
theorem net_len (d : Dev) (k : Nat) : (netP d (netT.take k)).length ≤ 1000 := by
 have : ∀ t : List (ByteArray × ByteArray × ByteArray), (netP d t).length ≤ t.length := by
  intro t
  induction t with
  | nil => exact Nat.le_refl _
  | cons x r ih => obtain ⟨k, p, a⟩ := x; rw [netP, List.length_append, List.length_cons]; split <;> simp <;> omega
 have h2 := this (netT.take k)
 have h3 : (netT.take k).length ≤ 3 := by rw [List.length_take]; exact Nat.min_le_right _ _
 omega
theorem net_yes {d : Dev} {k : Nat} {kk pp aa : ByteArray} (h : netT[k]? = some (kk, pp, aa)) (hy : netOk d pp aa = true) : netP d (netT.take (k + 1)) = netP d (netT.take k) ++ [(kk, netV d pp aa)] := by
 rw [List.take_add_one, h, Option.toList_some, netP_snoc, if_pos hy]
theorem net_no {d : Dev} {k : Nat} {kk pp aa : ByteArray} (h : netT[k]? = some (kk, pp, aa)) (hy : netOk d pp aa = false) : netP d (netT.take (k + 1)) = netP d (netT.take k) := by
 rw [List.take_add_one, h, Option.toList_some, netP_snoc, if_neg (by rw [hy]; decide), List.append_nil]
theorem net_new {d : Dev} {k : Nat} {kk pp aa : ByteArray} (h : netT[k]? = some (kk, pp, aa)) : kk ∉ (netP d (netT.take k)).map (·.1) := by
 intro hm
 obtain ⟨p, hp, he⟩ := List.mem_map.1 hm
 have h2 := netP_keys d _ p hp
 rw [he] at h2
 have hall : ∀ k : Fin 3, (netT[k.val]?).all (fun x => !(((netT.take k.val).map (·.1)).any fun y => decide (x.1 = y))) = true := by decide +kernel
 have hk : k < 3 := (List.getElem?_eq_some_iff.1 h).1
 have h3 := hall ⟨k, hk⟩
 rw [show netT[(⟨k, hk⟩ : Fin 3).val]? = some (kk, pp, aa) from h] at h3
 rw [Option.all_some, Bool.not_eq_true'] at h3
 rw [List.any_eq_true.2 ⟨kk, h2, decide_eq_true rfl⟩] at h3
 cases h3
theorem net_small {k : Nat} {kk pp aa : ByteArray} (h : netT[k]? = some (kk, pp, aa)) : kk.size ≤ maxLen ∧ pp.size = 3 := by
 have hall : ∀ k : Fin 3, (netT[k.val]?).all (fun x => decide (x.1.size ≤ 30 ∧ x.2.1.size = 3)) = true := by decide +kernel
 have hk : k < 3 := (List.getElem?_eq_some_iff.1 h).1
 have h3 := hall ⟨k, hk⟩
 rw [show netT[(⟨k, hk⟩ : Fin 3).val]? = some (kk, pp, aa) from h] at h3
 rw [Option.all_some, decide_eq_true_iff] at h3
 have h4 : kk.size ≤ 30 := h3.1
 exact ⟨by unfold maxLen; omega, h3.2⟩
theorem net_cells {w : World} {b : Nat} (h : BoxL w b [.string kOnboard, .string pEno, .string aIndex, .string kSlot, .string pEns, .string aSlot, .string kMac, .string pEnx, .string aAddress]) {k : Nat} (hk : k < 3) :
  ∃ kk pp aa, netT[k]? = some (kk, pp, aa) ∧ w.cell? ⟨b, k * 3, none⟩ = some (.string kk) ∧ w.cell? ⟨b, k * 3 + 1, none⟩ = some (.string pp) ∧ w.cell? ⟨b, k * 3 + 2, none⟩ = some (.string aa) := by
 have : k = 0 ∨ k = 1 ∨ k = 2 := by omega
 rcases this with rfl | rfl | rfl
 · exact ⟨_, _, _, rfl, h.1 0 _ rfl, h.1 1 _ rfl, h.1 2 _ rfl⟩
 · exact ⟨_, _, _, rfl, h.1 3 _ rfl, h.1 4 _ rfl, h.1 5 _ rfl⟩
 · exact ⟨_, _, _, rfl, h.1 6 _ rfl, h.1 7 _ rfl, h.1 8 _ rfl⟩
theorem netV_addr {d : Dev} {p a : ByteArray} (h : a = aAddress) : netV d p a = p ++ noColon (valA d a) := by unfold netV; rw [if_pos h]; rfl
theorem netV_other {d : Dev} {p a : ByteArray} (h : ¬ a = aAddress) : netV d p a = p ++ valA d a := by unfold netV; rw [if_neg h]; rfl
theorem netOk_none {d : Dev} {p a : ByteArray} (h : (getA d.attrs a).isSome = false) : netOk d p a = false := by unfold netOk; rw [h]; rfl
theorem netOk_some {d : Dev} {p a v : ByteArray} {q : Bool} (h : (getA d.attrs a).isSome = true) (hv : netV d p a = p ++ v) (hq : ifaceB (p ++ v) = q) : netOk d p a = q := by unfold netOk; rw [h, hv, hq]; rfl
end Go.Cold
namespace Go.Proofs.YtjgllhlilbchpaaGreatDoor
open Go.RowKit Go.Cold
theorem Colon_any (s : ByteArray) (w : World) (hs : s.size ≤ 256) (hok : Ok w) : Calls Tryz.prog 56 #[.string s, .string ⟨#[58]⟩, .string ⟨#[]⟩] w fun e w' => e = .returned (.string (noColon s)) ∧ Below w.heap.size w w' := by
 obtain ⟨m, hm⟩ := hok
 have h1 : (⟨#[]⟩ : ByteArray).size = 0 := rfl
 refine (Tryz.strings_ReplaceAll s ⟨#[58]⟩ ⟨#[]⟩ m w (by omega) hm (by show 1 ≤ 1; omega) (by rw [h1]; omega)).mono ?_
 rintro e w' ⟨rfl, hb⟩
 exact ⟨by rw [show (⟨#[58]⟩ : ByteArray).data.toList = [58] from rfl, show (⟨#[]⟩ : ByteArray).data.toList = [] from rfl, replaceAll_drop]; rfl, hb⟩
set_option maxRecDepth 100000 in
set_option maxHeartbeats 4000000 in
theorem Net_any (A : Option Addr) (c : Nat) (L : List Dev) (n : Int) (w : World) (B : Nat) (hB : B ≤ w.heap.size) (hx : Sl w B A c L) (hv : VT L) (hok : Ok7 w) (hko : Ok w) :
  Calls Tryz.prog 22 #[.agg #[.slice A L.length c], .int .i64 n] w (SlPost (netL L n) w) := by
 have hx1 := hx.1; have hx2 := hx.2.1
 unfold maxLen at hx2
 have HX := Lib.hid hx; have HB := Lib.hid hB; have HV := Lib.hid hv; have HOK := Lib.hid hok; clear hx hB hv hok
 have HKO := Lib.hid hko; clear hko
 have HLA := Lib.hid (show ∀ d ∈ L, d.attrs.length ≤ 1000000 from fun d hd => attrs_le (HV.out.chk d hd))
 go_enter Tryz.func22, Tryz.ntmps22
 go_upto_region 1 with fail
 obtain ⟨w1, hw1⟩ : ∃ w1, w.alloc (.cells #[.slice A L.length c] 28) = w1 := ⟨_, rfl⟩
 have hbw1 : Below w.heap.size w w1 := by rw [← hw1]; exact (Below.refl _ _).alloc (Nat.le_refl _) _
 have HGw1 := Lib.hid (show w1.heap.size = w.heap.size + 1 by rw [← hw1]; simp)
 have HXtw1 := Lib.hid (show BoxL w1 w.heap.size [.slice A L.length c] from box_mk hw1)
 try simp only [hw1]
 have HBw1 := Lib.hid hbw1
 clear hw1 hbw1
 try rw [show w.heap.size + 1 = w1.heap.size from HGw1.out.symm]
 have ct0 := HXtw1.out.1 0 _ rfl
 go_wp2_with fail
 refine (TFind_any A c L (n) _ B (Nat.le_trans HB.out HBw1.out.size) (HX.out.keep (HBw1.out.mono HB.out)) HLA.out).mono ?_
 rintro e w2 ⟨hbw2, d, A3, c3, hd, rfl, hod, hsd⟩
 clear ct0
 have HBw2 := Lib.hid (HBw1.out.trans (hbw2.mono HBw1.out.size))
 have tw2 := Lib.hid (HXtw1.out.kept (grown_none hbw2) (fun e => by cases e))
 clear hbw2
 have ct0 := tw2.out.1 0 _ rfl
 have Hd := Lib.hid (show d = (findD L (n)).getD zeroD from hd); have HOd := Lib.hid hod
 have HSd := Lib.hid (show Sl w2 w2.heap.size A3 c3 d.attrs from hsd.sl (fun x hx => hx.2))
 clear hd hod hsd
 obtain ⟨qd, hqd⟩ : ∃ q, (L.find? (byIdx (n))).isSome = q := ⟨_, rfl⟩
 rw [hqd]
 clear hqd
 go_upto_region 2 with fail
 obtain ⟨w3, hw3⟩ : ∃ w3, w2.alloc (.cells #[.int .i64 d.idx, .int .i64 d.par, .string d.nm, .string d.orig, .string d.sub, .string d.drv, .string d.ali, .int .i64 d.kind, .int .i64 d.num, .slice A3 d.attrs.length c3] 32) = w3 := ⟨_, rfl⟩
 have hbw3 : Below w2.heap.size w2 w3 := by rw [← hw3]; exact (Below.refl _ _).alloc (Nat.le_refl _) _
 have HGw3 := Lib.hid (show w3.heap.size = w2.heap.size + 1 by rw [← hw3]; simp)
 have HXaw3 := Lib.hid (show BoxL w3 w2.heap.size [.int .i64 d.idx, .int .i64 d.par, .string d.nm, .string d.orig, .string d.sub, .string d.drv, .string d.ali, .int .i64 d.kind, .int .i64 d.num, .slice A3 d.attrs.length c3] from box_mk hw3)
 try simp only [hw3]
 have HBw3 := Lib.hid (HBw2.out.trans (hbw3.mono HBw2.out.size))
 have tw3 := Lib.hid (tw2.out.kept (grown_none hbw3) (fun e => by cases e))
 have HSdw3 := Lib.hid ((HSd.out).next (Nat.le_refl _) hbw3)
 clear hw3 hbw3
 try rw [show w2.heap.size + 1 = w3.heap.size from HGw3.out.symm]
 clear ct0
 have ct0 := tw3.out.1 0 _ rfl
 have ca0 := HXaw3.out.1 0 _ rfl
 have ca1 := HXaw3.out.1 1 _ rfl
 have ca2 := HXaw3.out.1 2 _ rfl
 have ca3 := HXaw3.out.1 3 _ rfl
 have ca4 := HXaw3.out.1 4 _ rfl
 have ca5 := HXaw3.out.1 5 _ rfl
 have ca6 := HXaw3.out.1 6 _ rfl
 have ca7 := HXaw3.out.1 7 _ rfl
 have ca8 := HXaw3.out.1 8 _ rfl
 have ca9 := HXaw3.out.1 9 _ rfl
 have HVS := Lib.hid (show ∀ a, (valA d a).size ≤ 256 from fun a => val_small HV.out Hd.out a)
 by_cases hk : d.kind = 4
 case neg =>
  have hkb : (d.kind != 4) = true := by simp [hk]
  have HE := Lib.hid (netL_kind Hd.out hk)
  clear hk
  go_wp2
  go_ret
  exact ⟨HBw3.out, none, 0, by rw [HE.out]; rfl, by rw [HE.out]; exact Sl.nil_⟩
 have hkb : (d.kind != 4) = false := by simp [hk]
 have HE := Lib.hid (netL_all Hd.out hk)
 clear hk
 go_wp2_with fail
 obtain ⟨w4, hw4⟩ : ∃ w4, w3.alloc (.cells #[.string ⟨#[73, 68, 95, 78, 69, 84, 95, 78, 65, 77, 69, 95, 79, 78, 66, 79, 65, 82, 68]⟩, .string ⟨#[101, 110, 111]⟩, .string ⟨#[105, 110, 100, 101, 120]⟩, .string ⟨#[73, 68, 95, 78, 69, 84, 95, 78, 65, 77, 69, 95, 83, 76, 79, 84]⟩, .string ⟨#[101, 110, 115]⟩, .string ⟨#[115, 108, 111, 116]⟩, .string ⟨#[73, 68, 95, 78, 69, 84, 95, 78, 65, 77, 69, 95, 77, 65, 67]⟩, .string ⟨#[101, 110, 120]⟩, .string ⟨#[97, 100, 100, 114, 101, 115, 115]⟩] 77) = w4 := ⟨_, rfl⟩
 have hbw4 : Below w3.heap.size w3 w4 := by rw [← hw4]; exact (Below.refl _ _).alloc (Nat.le_refl _) _
 have HGw4 := Lib.hid (show w4.heap.size = w3.heap.size + 1 by rw [← hw4]; simp)
 have HXxw4 := Lib.hid (show BoxL w4 w3.heap.size [.string ⟨#[73, 68, 95, 78, 69, 84, 95, 78, 65, 77, 69, 95, 79, 78, 66, 79, 65, 82, 68]⟩, .string ⟨#[101, 110, 111]⟩, .string ⟨#[105, 110, 100, 101, 120]⟩, .string ⟨#[73, 68, 95, 78, 69, 84, 95, 78, 65, 77, 69, 95, 83, 76, 79, 84]⟩, .string ⟨#[101, 110, 115]⟩, .string ⟨#[115, 108, 111, 116]⟩, .string ⟨#[73, 68, 95, 78, 69, 84, 95, 78, 65, 77, 69, 95, 77, 65, 67]⟩, .string ⟨#[101, 110, 120]⟩, .string ⟨#[97, 100, 100, 114, 101, 115, 115]⟩] from box_mk hw4)
 try simp only [hw4]
 have HBw4 := Lib.hid (HBw3.out.trans (hbw4.mono HBw3.out.size))
 have tw4 := Lib.hid (tw3.out.kept (grown_none hbw4) (fun e => by cases e))
 have aw4 := Lib.hid (HXaw3.out.kept (grown_none hbw4) (fun e => by cases e))
 have HSdw4 := Lib.hid ((HSdw3.out).next (Nat.le_refl _) hbw4)
 clear hw4 hbw4
 try rw [show w3.heap.size + 1 = w4.heap.size from HGw4.out.symm]
 clear ct0 ca0 ca1 ca2 ca3 ca4 ca5 ca6 ca7 ca8 ca9
 go_loopw [7, 26] (fun v i wr => ∃ (A7 : Option Addr) (c7 : Nat) (l : List Attr) (k : Nat), k ≤ 3 ∧ v = .slice A7 l.length c7 ∧ i = .int .i64 (k : Int) ∧ Hid (Below w4.heap.size w4 wr) ∧ Hid (Sl wr wr.heap.size A7 c7 l) ∧ Hid (putAll (netP d (netT.take k)) = l)) (fun _ i _ => 3 - (intOf i).toNat)
 case atStart => exact ⟨none, 0, [], 0, by omega, rfl, rfl, Below.refl _ _, Sl.nil_, rfl⟩
 case round =>
  obtain ⟨A7, c7, l0, k, hk, rfl, rfl, HBR, HSL, HA⟩ := hrel
  have HBwr := Lib.hid (HBw4.out.trans (HBR.out.mono HBw4.out.size)); have HSdwr := Lib.hid (HSdw4.out.next (Nat.le_refl _) HBR.out)
  have awr := Lib.hid (aw4.out.kept (grown_none HBR.out) (fun e => by cases e))
  have xwr := Lib.hid (HXxw4.out.kept (grown_none HBR.out) (fun e => by cases e))
  have hl1 := HSL.out.1; have hl2 := HSL.out.2.1
  unfold maxLen at hl2
  by_cases hlt : k < 3
  ·
   have i1 : (k : Int) < 3 := by omega
   obtain ⟨kk, pp, aa, hT, x0, x1, x2⟩ := net_cells xwr.out hlt
   obtain ⟨hz1, hz2⟩ := net_small hT
   have HT := Lib.hid hT; have HZ1 := Lib.hid hz1; have HZ2 := Lib.hid hz2; have HLT := Lib.hid hlt; clear hT hz1 hz2
   obtain ⟨v0, hv0⟩ : ∃ z, valA d aa = z := ⟨_, rfl⟩
   obtain ⟨qo, hqo⟩ : ∃ z, (getA d.attrs aa).isSome = z := ⟨_, rfl⟩
   have HV0 := Lib.hid hv0; have HQO := Lib.hid hqo; have HVZ := Lib.hid (show v0.size ≤ 256 from hv0 ▸ HVS.out aa); clear hv0 hqo
   go_upto_region 8 with fail
   obtain ⟨w5, hw5⟩ : ∃ w5, wr.alloc (.cells #[.string kk, .string pp, .string aa] 77) = w5 := ⟨_, rfl⟩
   have hbw5 : Below wr.heap.size wr w5 := by rw [← hw5]; exact (Below.refl _ _).alloc (Nat.le_refl _) _
   have HGw5 := Lib.hid (show w5.heap.size = wr.heap.size + 1 by rw [← hw5]; simp)
   have HXew5 := Lib.hid (show BoxL w5 wr.heap.size [.string kk, .string pp, .string aa] from box_mk hw5)
   try simp only [hw5]
   have HBw5 := Lib.hid (HBwr.out.trans (hbw5.mono HBwr.out.size))
   have aw5 := Lib.hid (awr.out.kept (grown_none hbw5) (fun e => by cases e))
   have xw5 := Lib.hid (xwr.out.kept (grown_none hbw5) (fun e => by cases e))
   have HBRw5 := Lib.hid (below_onto HBR.out hbw5)
   have HSdw5 := Lib.hid ((HSdwr.out).next (Nat.le_refl _) hbw5)
   have HSLw5 := Lib.hid ((HSL.out).next (Nat.le_refl _) hbw5)
   clear hw5 hbw5
   try rw [show wr.heap.size + 1 = w5.heap.size from HGw5.out.symm]
   clear x0 x1 x2
   have ca9 := aw5.out.1 9 _ rfl
   have ce0 := HXew5.out.1 0 _ rfl
   have ce1 := HXew5.out.1 1 _ rfl
   have ce2 := HXew5.out.1 2 _ rfl
   go_wp2_with fail
   refine (Get_any A3 c3 d.attrs aa _ w5.heap.size (Nat.le_refl _) HSdw5.out).mono ?_
   rintro e w6 ⟨rfl, hbw6⟩
   clear ca9 ce0 ce1 ce2
   have HBw6 := Lib.hid (HBw5.out.trans (hbw6.mono HBw5.out.size))
   have aw6 := Lib.hid (aw5.out.kept (grown_none hbw6) (fun e => by cases e))
   have xw6 := Lib.hid (xw5.out.kept (grown_none hbw6) (fun e => by cases e))
   have ew6 := Lib.hid (HXew5.out.kept (grown_none hbw6) (fun e => by cases e))
   have HBRw6 := Lib.hid (below_onto HBRw5.out hbw6)
   have HSdw6 := Lib.hid ((HSdw5.out).next (Nat.le_refl _) hbw6)
   have HSLw6 := Lib.hid ((HSLw5.out).next (Nat.le_refl _) hbw6)
   clear hbw6
   have ca9 := aw6.out.1 9 _ rfl
   have ce0 := ew6.out.1 0 _ rfl
   have ce1 := ew6.out.1 1 _ rfl
   have ce2 := ew6.out.1 2 _ rfl
   rw [show (getA d.attrs aa).getD ByteArray.empty = v0 from HV0.out, HQO.out]
   by_cases ha : aa = aAddress
   ·
    have e1_ : (aa.toList == [97, 100, 100, 114, 101, 115, 115]) = true := by rw [str_eq (a := #[97, 100, 100, 114, 101, 115, 115]) (by decide +kernel)]; exact decide_eq_true ha
    have e2_ : (aa.toList == (⟨#[97, 100, 100, 114, 101, 115, 115]⟩ : ByteArray).toList) = true := by rw [show (⟨#[97, 100, 100, 114, 101, 115, 115]⟩ : ByteArray).toList = [97, 100, 100, 114, 101, 115, 115] by decide +kernel]; exact e1_
    have HNV := Lib.hid (show netV d pp aa = pp ++ noColon v0 by rw [netV_addr ha, HV0.out])
    clear ha
    go_wp2_with fail
    refine (Colon_any v0 _ HVZ.out (HKO.out.next HBw6.out)).mono ?_
    rintro e w7 ⟨rfl, hbw7⟩
    clear ca9 ce0 ce1 ce2
    have HBw7 := Lib.hid (HBw6.out.trans (hbw7.mono HBw6.out.size))
    have aw7 := Lib.hid (aw6.out.kept (grown_none hbw7) (fun e => by cases e))
    have xw7 := Lib.hid (xw6.out.kept (grown_none hbw7) (fun e => by cases e))
    have ew7 := Lib.hid (ew6.out.kept (grown_none hbw7) (fun e => by cases e))
    have HBRw7 := Lib.hid (below_onto HBRw6.out hbw7)
    have HSdw7 := Lib.hid ((HSdw6.out).next (Nat.le_refl _) hbw7)
    have HSLw7 := Lib.hid ((HSLw6.out).next (Nat.le_refl _) hbw7)
    clear hbw7
    have ca9 := aw7.out.1 9 _ rfl
    have ce0 := ew7.out.1 0 _ rfl
    have ce1 := ew7.out.1 1 _ rfl
    have ce2 := ew7.out.1 2 _ rfl
    obtain ⟨v1, hv1⟩ : ∃ z, noColon v0 = z := ⟨_, rfl⟩
    have HNV1 := Lib.hid (show netV d pp aa = pp ++ v1 by rw [← hv1]; exact HNV.out); have HVZ1 := Lib.hid (show v1.size ≤ 256 by rw [← hv1]; exact Nat.le_trans (noColon_size v0) HVZ.out)
    rw [hv1]
    clear HNV hv1 e1_ e2_
    cases qo
    ·
     have HNX := Lib.hid (show putAll (netP d (netT.take (k + 1))) = l0 by rw [net_no HT.out (netOk_none HQO.out)]; exact HA.out)
     go_wp2
     go_roundw
     case rel => exact ⟨A7, c7, l0, k + 1, by have := HLT.out; omega, rfl, by go_num, HBRw7, HSLw7, HNX⟩
     case measure => have := HLT.out; simp [intOf]; omega
    ·
     have hz1 := HVZ1.out; have hz2 := HZ2.out
     have f1 : ¬ 9223372036854775807 < pp.size + v1.size := by omega
     have HPV := Lib.hid (show (pp ++ v1).size ≤ maxLen by rw [ByteArray.size_append]; unfold maxLen; omega)
     clear hz1 hz2
     go_wp2_with fail
     refine (Interface_any (pp ++ v1) _ HPV.out).mono ?_
     rintro e w8 ⟨rfl, hbw8⟩
     clear ca9 ce0 ce1 ce2
     have HBw8 := Lib.hid (HBw7.out.trans (hbw8.mono HBw7.out.size))
     have aw8 := Lib.hid (aw7.out.kept (grown_none hbw8) (fun e => by cases e))
     have xw8 := Lib.hid (xw7.out.kept (grown_none hbw8) (fun e => by cases e))
     have ew8 := Lib.hid (ew7.out.kept (grown_none hbw8) (fun e => by cases e))
     have HBRw8 := Lib.hid (below_onto HBRw7.out hbw8)
     have HSdw8 := Lib.hid ((HSdw7.out).next (Nat.le_refl _) hbw8)
     have HSLw8 := Lib.hid ((HSLw7.out).next (Nat.le_refl _) hbw8)
     clear hbw8
     have ca9 := aw8.out.1 9 _ rfl
     have ce0 := ew8.out.1 0 _ rfl
     have ce1 := ew8.out.1 1 _ rfl
     have ce2 := ew8.out.1 2 _ rfl
     obtain ⟨qi, hqi⟩ : ∃ z, ifaceB (pp ++ v1) = z := ⟨_, rfl⟩
     rw [hqi]
     have HOKV := Lib.hid (netOk_some HQO.out HNV1.out hqi); clear hqi
     cases qi
     ·
      have HNX := Lib.hid (show putAll (netP d (netT.take (k + 1))) = l0 by rw [net_no HT.out HOKV.out]; exact HA.out)
      go_wp2
      go_roundw
      case rel => exact ⟨A7, c7, l0, k + 1, by have := HLT.out; omega, rfl, by go_num, HBRw8, HSLw8, HNX⟩
      case measure => have := HLT.out; simp [intOf]; omega
     ·
      go_wp2_with fail
      refine (Put_any A7 c7 l0 kk (pp ++ v1) _ w8.heap.size (Nat.le_refl _) HSLw8.out (put_srt HA.out) (put_len HA.out (net_len d k)) HZ1.out HPV.out).mono ?_
      rintro e w9 ⟨hbw9, A1_, c1_, rfl, hs_⟩
      clear ca9 ce0 ce1 ce2
      have HBw9 := Lib.hid (HBw8.out.trans (hbw9.mono HBw8.out.size))
      have aw9 := Lib.hid (aw8.out.kept (grown_none hbw9) (fun e => by cases e))
      have xw9 := Lib.hid (xw8.out.kept (grown_none hbw9) (fun e => by cases e))
      have ew9 := Lib.hid (ew8.out.kept (grown_none hbw9) (fun e => by cases e))
      have HBRw9 := Lib.hid (below_onto HBRw8.out hbw9)
      have HSdw9 := Lib.hid ((HSdw8.out).next (Nat.le_refl _) hbw9)
      have HSLw9 := Lib.hid ((HSLw8.out).next (Nat.le_refl _) hbw9)
      clear hbw9
      obtain ⟨l1, hl_⟩ : ∃ z, putA l0 kk (pp ++ v1) = z := ⟨_, rfl⟩
      rw [hl_] at hs_ ⊢
      have HL1 := Lib.hid hl_; have HS1 := Lib.hid hs_; clear hs_ hl_
      have HNX := Lib.hid (show putAll (netP d (netT.take (k + 1))) = l1 by rw [net_yes HT.out HOKV.out, HNV1.out]; exact (put_next HA.out (net_new HT.out)).trans HL1.out)
      go_wp2
      go_roundw
      case rel => exact ⟨A1_, c1_, l1, k + 1, by have := HLT.out; omega, rfl, by go_num, HBRw9, HS1, HNX⟩
      case measure => have := HLT.out; simp [intOf]; omega
   ·
    have e1_ : (aa.toList == [97, 100, 100, 114, 101, 115, 115]) = false := by rw [str_eq (a := #[97, 100, 100, 114, 101, 115, 115]) (by decide +kernel)]; exact decide_eq_false ha
    have e2_ : (aa.toList == (⟨#[97, 100, 100, 114, 101, 115, 115]⟩ : ByteArray).toList) = false := by rw [show (⟨#[97, 100, 100, 114, 101, 115, 115]⟩ : ByteArray).toList = [97, 100, 100, 114, 101, 115, 115] by decide +kernel]; exact e1_
    have HNV := Lib.hid (show netV d pp aa = pp ++ v0 by rw [netV_other ha, HV0.out])
    clear ha
    cases qo
    ·
     have HNX := Lib.hid (show putAll (netP d (netT.take (k + 1))) = l0 by rw [net_no HT.out (netOk_none HQO.out)]; exact HA.out)
     go_wp2
     go_roundw
     case rel => exact ⟨A7, c7, l0, k + 1, by have := HLT.out; omega, rfl, by go_num, HBRw6, HSLw6, HNX⟩
     case measure => have := HLT.out; simp [intOf]; omega
    ·
     have hz1 := HVZ.out; have hz2 := HZ2.out
     have f1 : ¬ 9223372036854775807 < pp.size + v0.size := by omega
     have HPV := Lib.hid (show (pp ++ v0).size ≤ maxLen by rw [ByteArray.size_append]; unfold maxLen; omega)
     clear hz1 hz2
     go_wp2_with fail
     refine (Interface_any (pp ++ v0) _ HPV.out).mono ?_
     rintro e w10 ⟨rfl, hbw10⟩
     clear ca9 ce0 ce1 ce2
     have HBw10 := Lib.hid (HBw6.out.trans (hbw10.mono HBw6.out.size))
     have aw10 := Lib.hid (aw6.out.kept (grown_none hbw10) (fun e => by cases e))
     have xw10 := Lib.hid (xw6.out.kept (grown_none hbw10) (fun e => by cases e))
     have ew10 := Lib.hid (ew6.out.kept (grown_none hbw10) (fun e => by cases e))
     have HBRw10 := Lib.hid (below_onto HBRw6.out hbw10)
     have HSdw10 := Lib.hid ((HSdw6.out).next (Nat.le_refl _) hbw10)
     have HSLw10 := Lib.hid ((HSLw6.out).next (Nat.le_refl _) hbw10)
     clear hbw10
     have ca9 := aw10.out.1 9 _ rfl
     have ce0 := ew10.out.1 0 _ rfl
     have ce1 := ew10.out.1 1 _ rfl
     have ce2 := ew10.out.1 2 _ rfl
     obtain ⟨qi, hqi⟩ : ∃ z, ifaceB (pp ++ v0) = z := ⟨_, rfl⟩
     rw [hqi]
     have HOKV := Lib.hid (netOk_some HQO.out HNV.out hqi); clear hqi
     cases qi
     ·
      have HNX := Lib.hid (show putAll (netP d (netT.take (k + 1))) = l0 by rw [net_no HT.out HOKV.out]; exact HA.out)
      go_wp2
      go_roundw
      case rel => exact ⟨A7, c7, l0, k + 1, by have := HLT.out; omega, rfl, by go_num, HBRw10, HSLw10, HNX⟩
      case measure => have := HLT.out; simp [intOf]; omega
     ·
      go_wp2_with fail
      refine (Put_any A7 c7 l0 kk (pp ++ v0) _ w10.heap.size (Nat.le_refl _) HSLw10.out (put_srt HA.out) (put_len HA.out (net_len d k)) HZ1.out HPV.out).mono ?_
      rintro e w11 ⟨hbw11, A1_, c1_, rfl, hs_⟩
      clear ca9 ce0 ce1 ce2
      have HBw11 := Lib.hid (HBw10.out.trans (hbw11.mono HBw10.out.size))
      have aw11 := Lib.hid (aw10.out.kept (grown_none hbw11) (fun e => by cases e))
      have xw11 := Lib.hid (xw10.out.kept (grown_none hbw11) (fun e => by cases e))
      have ew11 := Lib.hid (ew10.out.kept (grown_none hbw11) (fun e => by cases e))
      have HBRw11 := Lib.hid (below_onto HBRw10.out hbw11)
      have HSdw11 := Lib.hid ((HSdw10.out).next (Nat.le_refl _) hbw11)
      have HSLw11 := Lib.hid ((HSLw10.out).next (Nat.le_refl _) hbw11)
      clear hbw11
      obtain ⟨l1, hl_⟩ : ∃ z, putA l0 kk (pp ++ v0) = z := ⟨_, rfl⟩
      rw [hl_] at hs_ ⊢
      have HL1 := Lib.hid hl_; have HS1 := Lib.hid hs_; clear hs_ hl_
      have HNX := Lib.hid (show putAll (netP d (netT.take (k + 1))) = l1 by rw [net_yes HT.out HOKV.out, HNV.out]; exact (put_next HA.out (net_new HT.out)).trans HL1.out)
      go_wp2
      go_roundw
      case rel => exact ⟨A1_, c1_, l1, k + 1, by have := HLT.out; omega, rfl, by go_num, HBRw11, HS1, HNX⟩
      case measure => have := HLT.out; simp [intOf]; omega
  ·
   have i1 : ¬ (k : Int) < 3 := by omega
   have HE2 := Lib.hid (show netL L n = l0 by rw [HE.out, ← HA.out, show k = 3 by omega])
   go_wp2
   go_ret
   exact ⟨HBwr.out, A7, c7, by rw [HE2.out]; rfl, by rw [HE2.out]; exact HSL.out⟩
end Go.Proofs.YtjgllhlilbchpaaGreatDoor
namespace Go.Cold
open Go Go.RowKit Go.Proofs.YtjgllhlilbchpaaGreatDoor
section
variable {P : Program} {w : World} {kt et t : TypeId} {b clock : Nat} {es : Array MapEntry}
end
end Go.Cold
namespace Go.Proofs.YtjgllhlilbchpaaGreatDoor
open Go.RowKit Go.Cold
end Go.Proofs.YtjgllhlilbchpaaGreatDoor
namespace Go.Cold
open Go Go.RowKit Go.Proofs.YtjgllhlilbchpaaGreatDoor
def obsA (l : List Attr) : List (List UInt8 × List UInt8) := l.map fun a => (a.name.data.toList, a.value.data.toList)
theorem obsA_inj : ∀ {l r : List Attr}, obsA l = obsA r → l = r
 | [], [], _ => rfl
 | [], _ :: _, h => by cases h
 | _ :: _, [], h => by cases h
 | a :: l, b :: r, h => by
  unfold obsA at h
  rw [List.map_cons, List.map_cons] at h
  injection h with h1 h2
  injection h1 with h3 h4
  have e : a = b := by
   obtain ⟨a1, a2⟩ := a; obtain ⟨b1, b2⟩ := b
   rw [show a1 = b1 from ba_ext h3, show a2 = b2 from ba_ext h4]
  rw [e, obsA_inj (show obsA l = obsA r from h2)]
def uC : Attr := ⟨⟨#[99, 111, 110, 116, 101, 110, 116]⟩, ⟨#[102, 115, 58, 117, 49, 58, 114, 111, 111, 116]⟩⟩
def u1D : Dev := ⟨1, 0, ⟨#[112, 99, 105, 48]⟩, ⟨#[112, 99, 105, 48]⟩, ⟨#[112, 99, 105]⟩, ⟨#[]⟩, ⟨#[]⟩, 1, 0, []⟩
def u2D : Dev := ⟨2, 1, ⟨#[115, 100, 97, 49]⟩, ⟨#[115, 100, 97, 49]⟩, ⟨#[98, 108, 111, 99, 107]⟩, ⟨#[]⟩, ⟨#[]⟩, 2, 9, [uC]⟩
def uL : List Dev := [u1D, u2D]
theorem uL_VT : VT uL := (check_VT (by decide)).1 (by decide +kernel)
def uBase : List Attr := [⟨⟨#[68, 69, 86, 78, 65, 77, 69]⟩, ⟨#[115, 100, 97, 49]⟩⟩, ⟨⟨#[68, 69, 86, 80, 65, 84, 72]⟩, ⟨#[47, 112, 99, 105, 48, 47, 115, 100, 97, 49]⟩⟩, ⟨⟨#[78, 85, 77, 66, 69, 82]⟩, ⟨#[57]⟩⟩, ⟨⟨#[83, 85, 66, 83, 89, 83, 84, 69, 77]⟩, ⟨#[98, 108, 111, 99, 107]⟩⟩]
def uPath : List Attr := [⟨⟨#[73, 68, 95, 80, 65, 84, 72]⟩, ⟨#[112, 99, 105, 58, 112, 99, 105, 48, 45, 98, 108, 111, 99, 107, 58, 115, 100, 97, 49]⟩⟩, ⟨⟨#[73, 68, 95, 80, 65, 84, 72, 95, 84, 65, 71]⟩, ⟨#[112, 99, 105, 95, 112, 99, 105, 48, 95, 98, 108, 111, 99, 107, 95, 115, 100, 97, 49]⟩⟩]
def uCont : List Attr := [⟨⟨#[73, 68, 95, 70, 83, 95, 76, 65, 66, 69, 76]⟩, ⟨#[114, 111, 111, 116]⟩⟩, ⟨⟨#[73, 68, 95, 70, 83, 95, 85, 83, 65, 71, 69]⟩, ⟨#[102, 105, 108, 101, 115, 121, 115, 116, 101, 109]⟩⟩, ⟨⟨#[73, 68, 95, 70, 83, 95, 85, 85, 73, 68]⟩, ⟨#[117, 49]⟩⟩]
theorem uL_base : baseL uL 2 = uBase := obsA_inj (by decide +kernel)
theorem uL_path : pathL uL 2 = uPath := obsA_inj (by decide +kernel)
def uT : ByteArray := ⟨#[102, 115, 58, 117, 49, 58, 114, 111, 111, 116]⟩
def uTC : Cont := .mk 1 ⟨#[117, 49]⟩ ⟨#[114, 111, 111, 116]⟩ 0 0 0 []
theorem cont_uT : contP uT 11 0 = some (uTC, 10) := by kernel_rfl
theorem ok_uTC : AllOk uTC := AllOk_mk.2 ⟨by decide +kernel, fun x hx => by cases hx⟩
theorem depth_uTC : depthC uTC ≤ 6 := by unfold uTC; rw [depthC, depthL]; decide
theorem parse_uT : parseC uT = some uTC := by
 have h1 : uT.size = 10 := by decide +kernel
 unfold parseC
 rw [if_neg (by omega), h1, cont_uT]
 simp [bad_of ok_uTC depth_uTC]
theorem uL_cont : Go.Cold.contL uL 2 = uCont := by
 have h : Go.Cold.contL uL 2 = contA uTC := contL_some (d := u2D) rfl rfl (show parseC (contD u2D) = some uTC from by rw [show contD u2D = uT by rfl]; exact parse_uT)
 rw [h]
 exact obsA_inj (by decide +kernel)
theorem uL_sl {w : World} {gx gl B : Nat} (hx : BoxL w gx [.string ⟨#[99, 111, 110, 116, 101, 110, 116]⟩, .string ⟨#[102, 115, 58, 117, 49, 58, 114, 111, 111, 116]⟩]) (h : BoxL w gl [.int .i64 1, .int .i64 0, .string ⟨#[112, 99, 105, 48]⟩, .string ⟨#[112, 99, 105, 48]⟩, .string ⟨#[112, 99, 105]⟩, .string ⟨#[]⟩, .string ⟨#[]⟩, .int .i64 1, .int .i64 0, .slice none 0 0, .int .i64 2, .int .i64 1, .string ⟨#[115, 100, 97, 49]⟩, .string ⟨#[115, 100, 97, 49]⟩, .string ⟨#[98, 108, 111, 99, 107]⟩, .string ⟨#[]⟩, .string ⟨#[]⟩, .int .i64 2, .int .i64 9, .slice (some ⟨gx, 0, none⟩) 1 1]) (hB1 : gx < B) (hB : gl < B) : Sl w B (some ⟨gl, 0, none⟩) 2 uL := by
 have hsx : SlS w (fun b => b < B) (some ⟨gx, 0, none⟩) 1 [uC] := by
  refine ⟨by decide, by decide, fun _ => ⟨gx, 0, rfl, hB1, fun i x hi => ?_⟩⟩
  have h0 : i = 0 := by have := (List.getElem?_eq_some_iff.1 hi).1; simp at this; exact this
  subst h0
  obtain rfl := Option.some.inj hi
  exact ⟨attrCells uC, ⟨rfl, by decide, by decide⟩, fun j u hu => by rw [Nat.zero_mul, Nat.zero_add, Nat.zero_add]; exact hx.1 j u hu⟩
 refine ⟨by decide, by decide, fun _ => ⟨gl, 0, rfl, hB, fun i x hi => ?_⟩⟩
 have hi2 : i < 2 := (List.getElem?_eq_some_iff.1 hi).1
 have hcase : i = 0 ∨ i = 1 := by omega
 rcases hcase with rfl | rfl
 ·
  obtain rfl := Option.some.inj hi
  refine ⟨devCells u1D none 0, ⟨none, 0, rfl, ?_, SlS.nil_⟩, fun j u hu => ?_⟩
  · refine ⟨?_, ?_, ?_, ?_, ?_, ?_, ?_, ?_, ?_⟩ <;> first | (unfold okI; decide +kernel) | decide +kernel
  ·
   rw [Nat.zero_mul, Nat.zero_add, Nat.zero_add]
   have hj : j < 10 := by have := (List.getElem?_eq_some_iff.1 hu).1; simpa [devCells] using this
   refine h.1 j u ?_
   show (devCells u1D none 0 ++ devCells u2D (some ⟨gx, 0, none⟩) 1)[j]? = some u
   rw [List.getElem?_append_left (by simpa [devCells] using hj)]
   exact hu
 ·
  obtain rfl := Option.some.inj hi
  refine ⟨devCells u2D (some ⟨gx, 0, none⟩) 1, ⟨some ⟨gx, 0, none⟩, 1, rfl, ?_, hsx⟩, fun j u hu => ?_⟩
  · refine ⟨?_, ?_, ?_, ?_, ?_, ?_, ?_, ?_, ?_⟩ <;> first | (unfold okI; decide +kernel) | decide +kernel
  ·
   rw [Nat.zero_add, show 1 * Rep.size Dev + j = 10 + j from rfl]
   refine h.1 (10 + j) u ?_
   show (devCells u1D none 0 ++ devCells u2D (some ⟨gx, 0, none⟩) 1)[10 + j]? = some u
   rw [List.getElem?_append_right (by simp [devCells]), show 10 + j - (devCells u1D none 0).length = j by simp [devCells]]
   exact hu
end Go.Cold
namespace Go.Proofs.YtjgllhlilbchpaaGreatDoor
open Go.RowKit Go.Cold
set_option maxRecDepth 100000 in
set_option maxHeartbeats 4000000 in
theorem known_any (w : World) (hko : Ok w) (h7 : Ok7 w) (hk8 : Ok8 w) (hu : OkU w) : Calls Tryz.prog 15 #[] w fun e w' => e = .returned (.bool true) ∧ Below w.heap.size w w' := by
 have HKO := Lib.hid hko; have H7 := Lib.hid h7; have HK8 := Lib.hid hk8; have HU := Lib.hid hu; clear hko h7 hk8 hu
 go_enter Tryz.func15, Tryz.ntmps15
 go_upto_region 2 with fail
 obtain ⟨w1, hw1⟩ : ∃ w1, w.alloc (.cells #[.string ⟨#[99, 111, 110, 116, 101, 110, 116]⟩, .string ⟨#[102, 115, 58, 117, 49, 58, 114, 111, 111, 116]⟩] 42) = w1 := ⟨_, rfl⟩
 have hbw1 : Below w.heap.size w w1 := by rw [← hw1]; exact (Below.refl _ _).alloc (Nat.le_refl _) _
 have HGw1 := Lib.hid (show w1.heap.size = w.heap.size + 1 by rw [← hw1]; simp)
 have HXxw1 := Lib.hid (show BoxL w1 w.heap.size [.string ⟨#[99, 111, 110, 116, 101, 110, 116]⟩, .string ⟨#[102, 115, 58, 117, 49, 58, 114, 111, 111, 116]⟩] from box_mk hw1)
 try simp only [hw1]
 have HSw1 := Lib.hid (show w.heap.size ≤ w1.heap.size from hbw1.size)
 have HBw1 := Lib.hid hbw1
 clear hw1 hbw1
 try rw [show w.heap.size + 1 = w1.heap.size from HGw1.out.symm]
 obtain ⟨w2, hw2⟩ : ∃ w2, w1.alloc (.cells #[.int .i64 1, .int .i64 0, .string ⟨#[112, 99, 105, 48]⟩, .string ⟨#[112, 99, 105, 48]⟩, .string ⟨#[112, 99, 105]⟩, .string ⟨#[]⟩, .string ⟨#[]⟩, .int .i64 1, .int .i64 0, .slice none 0 0, .int .i64 2, .int .i64 1, .string ⟨#[115, 100, 97, 49]⟩, .string ⟨#[115, 100, 97, 49]⟩, .string ⟨#[98, 108, 111, 99, 107]⟩, .string ⟨#[]⟩, .string ⟨#[]⟩, .int .i64 2, .int .i64 9, .slice (some ⟨w.heap.size, 0, none⟩) 1 1] 32) = w2 := ⟨_, rfl⟩
 have hbw2 : Below w1.heap.size w1 w2 := by rw [← hw2]; exact (Below.refl _ _).alloc (Nat.le_refl _) _
 have HGw2 := Lib.hid (show w2.heap.size = w1.heap.size + 1 by rw [← hw2]; simp)
 have HXlw2 := Lib.hid (show BoxL w2 w1.heap.size [.int .i64 1, .int .i64 0, .string ⟨#[112, 99, 105, 48]⟩, .string ⟨#[112, 99, 105, 48]⟩, .string ⟨#[112, 99, 105]⟩, .string ⟨#[]⟩, .string ⟨#[]⟩, .int .i64 1, .int .i64 0, .slice none 0 0, .int .i64 2, .int .i64 1, .string ⟨#[115, 100, 97, 49]⟩, .string ⟨#[115, 100, 97, 49]⟩, .string ⟨#[98, 108, 111, 99, 107]⟩, .string ⟨#[]⟩, .string ⟨#[]⟩, .int .i64 2, .int .i64 9, .slice (some ⟨w.heap.size, 0, none⟩) 1 1] from box_mk hw2)
 try simp only [hw2]
 have HSw2 := Lib.hid (show w1.heap.size ≤ w2.heap.size from hbw2.size)
 have HBw2 := Lib.hid (HBw1.out.trans (hbw2.mono HBw1.out.size))
 have xw2 := Lib.hid (HXxw1.out.kept (grown_none hbw2) (fun e => by cases e))
 clear hw2 hbw2
 try rw [show w1.heap.size + 1 = w2.heap.size from HGw2.out.symm]
 have HSL := Lib.hid (uL_sl xw2.out HXlw2.out xw2.out.2.2 HXlw2.out.2.2)
 obtain ⟨w3, hw3⟩ : ∃ w3, w2.alloc (.cells #[.slice (some ⟨w1.heap.size, 0, none⟩) 2 2] 28) = w3 := ⟨_, rfl⟩
 have hbw3 : Below w2.heap.size w2 w3 := by rw [← hw3]; exact (Below.refl _ _).alloc (Nat.le_refl _) _
 have HGw3 := Lib.hid (show w3.heap.size = w2.heap.size + 1 by rw [← hw3]; simp)
 have HXtw3 := Lib.hid (show BoxL w3 w2.heap.size [.slice (some ⟨w1.heap.size, 0, none⟩) 2 2] from box_mk hw3)
 try simp only [hw3]
 have HSw3 := Lib.hid (show w2.heap.size ≤ w3.heap.size from hbw3.size)
 have HBw3 := Lib.hid (HBw2.out.trans (hbw3.mono HBw2.out.size))
 have xw3 := Lib.hid (xw2.out.kept (grown_none hbw3) (fun e => by cases e))
 have lw3 := Lib.hid (HXlw2.out.kept (grown_none hbw3) (fun e => by cases e))
 have HSLw3 := Lib.hid (HSL.out.next (Nat.le_refl _) hbw3)
 clear hw3 hbw3
 try rw [show w2.heap.size + 1 = w3.heap.size from HGw3.out.symm]
 have HN := Lib.hid (show okI 2 from ⟨by decide, by decide⟩)
 refine wp_region_held_drew (S := fun w' => BoxL w' (w2.heap.size) [.slice (some ⟨w1.heap.size, 0, none⟩) 2 2]) (by kernel_rfl) HXtw3.out.drew (fun hS0 => ?_)
 obtain ⟨wd, hwd⟩ : ∃ z, World.drew w3 = z := ⟨_, rfl⟩
 rw [hwd] at hS0 ⊢
 have hb_ : Below w3.heap.size w3 wd := by rw [← hwd]; exact below_drewN_self _ _ 1
 clear hwd hS0
 have HSwd := Lib.hid (show w3.heap.size ≤ wd.heap.size from hb_.size)
 have HBwd := Lib.hid (HBw3.out.trans (hb_.mono HBw3.out.size))
 have xwd := Lib.hid (xw3.out.kept (grown_none hb_) (fun e => by cases e))
 have lwd := Lib.hid (lw3.out.kept (grown_none hb_) (fun e => by cases e))
 have twd := Lib.hid (HXtw3.out.kept (grown_none hb_) (fun e => by cases e))
 have HSLwd := Lib.hid (HSLw3.out.next (Nat.le_refl _) hb_)
 clear hb_
 refine wpAnyH_take (i := 0) (oi := ⟨some 11, _, _, _, _, _⟩) (v := .agg #[.slice (some ⟨w1.heap.size, 0, none⟩) 2 2]) rfl (by kernel_rfl) (by kernel_rfl) (by kernel_rfl) (fun _ _ _ h => h) (Or.inl ⟨by rfl, fun w' hS => by (have u0_ := hS.1 0 _ rfl; go_simp)⟩) twd.out ?_
 try simp only [Act.put, List.setIfInBounds_toArray, List.set_cons_zero, List.set_cons_succ]
 refine wpAnyH_take (i := 2) (oi := ⟨some 13, _, _, _, _, _⟩) (v := .agg #[.slice (some ⟨w1.heap.size, 0, none⟩) 2 2]) rfl (by kernel_rfl) (by kernel_rfl) (by kernel_rfl) (fun _ _ _ h => h) (Or.inl ⟨by rfl, fun w' hS => by (have u0_ := hS.1 0 _ rfl; go_simp)⟩) twd.out ?_
 try simp only [Act.put, List.setIfInBounds_toArray, List.set_cons_zero, List.set_cons_succ]
 refine wpAnyH_take (i := 4) (oi := ⟨some 15, _, _, _, _, _⟩) (v := .agg #[.slice (some ⟨w1.heap.size, 0, none⟩) 2 2]) rfl (by kernel_rfl) (by kernel_rfl) (by kernel_rfl) (fun _ _ _ h => h) (Or.inl ⟨by rfl, fun w' hS => by (have u0_ := hS.1 0 _ rfl; go_simp)⟩) twd.out ?_
 try simp only [Act.put, List.setIfInBounds_toArray, List.set_cons_zero, List.set_cons_succ]
 refine wpAnyH_ready (rs := [1]) (by kernel_rfl) (by simp) ?_
 refine AllReadyH.cons (o := ⟨some 12, .call ⟨_, _, _⟩, _, _, _, _⟩) rfl (fun K hK => ?_) AllReadyH.nil
 go_simp
 go_at_call 14
 refine (Base_any (some ⟨w1.heap.size, 0, none⟩) 2 uL 2 _ _ (Nat.le_refl _) HSLwd.out uL_VT (H7.out.below HBwd.out) (HKO.out.next HBwd.out) HN.out).mono ?_
 rintro e' qB ⟨hb_, AB, cB, rfl, hs_⟩
 rw [uL_base] at hs_ ⊢
 have HSqB := Lib.hid (show wd.heap.size ≤ qB.heap.size from hb_.size)
 have HBqB := Lib.hid (HBwd.out.trans (hb_.mono HBwd.out.size))
 have xqB := Lib.hid (xwd.out.kept (grown_none hb_) (fun e => by cases e))
 have lqB := Lib.hid (lwd.out.kept (grown_none hb_) (fun e => by cases e))
 have tqB := Lib.hid (twd.out.kept (grown_none hb_) (fun e => by cases e))
 have HSLqB := Lib.hid (HSLwd.out.next (Nat.le_refl _) hb_)
 have HSB := Lib.hid hs_; clear hs_ hb_
 refine hK.out _ _ tqB.out (fun _ => ?_)
 clear hK K
 try simp only [Act.put, List.setIfInBounds_toArray, List.set_cons_zero, List.set_cons_succ]
 refine wpAnyH_ready (rs := [3]) (by kernel_rfl) (by simp) ?_
 refine AllReadyH.cons (o := ⟨some 14, .call ⟨_, _, _⟩, _, _, _, _⟩) rfl (fun K hK => ?_) AllReadyH.nil
 go_simp
 go_at_call 12
 refine (BPath_any (some ⟨w1.heap.size, 0, none⟩) 2 uL 2 _ _ (Nat.le_refl _) HSLqB.out uL_VT (H7.out.below HBqB.out) HN.out (HU.out.below HBqB.out)).mono ?_
 rintro e' qP ⟨hb_, AP, cP, rfl, hs_⟩
 rw [uL_path] at hs_ ⊢
 have HSqP := Lib.hid (show qB.heap.size ≤ qP.heap.size from hb_.size)
 have HBqP := Lib.hid (HBqB.out.trans (hb_.mono HBqB.out.size))
 have xqP := Lib.hid (xqB.out.kept (grown_none hb_) (fun e => by cases e))
 have lqP := Lib.hid (lqB.out.kept (grown_none hb_) (fun e => by cases e))
 have tqP := Lib.hid (tqB.out.kept (grown_none hb_) (fun e => by cases e))
 have HSLqP := Lib.hid (HSLqB.out.next (Nat.le_refl _) hb_)
 have HSBqP := Lib.hid ((HSB.out).next (Nat.le_refl _) hb_)
 have HSP := Lib.hid hs_; clear hs_ hb_
 refine hK.out _ _ tqP.out (fun _ => ?_)
 clear hK K
 try simp only [Act.put, List.setIfInBounds_toArray, List.set_cons_zero, List.set_cons_succ]
 refine wpAnyH_ready (rs := [5]) (by kernel_rfl) (by simp) ?_
 refine AllReadyH.cons (o := ⟨some 16, .call ⟨_, _, _⟩, _, _, _, _⟩) rfl (fun K hK => ?_) AllReadyH.nil
 go_simp
 go_at_call 21
 refine (Content_any (some ⟨w1.heap.size, 0, none⟩) 2 uL 2 _ _ (Nat.le_refl _) HSLqP.out uL_VT (H7.out.below HBqP.out) (HKO.out.next HBqP.out) HN.out).mono ?_
 rintro e' qC ⟨hb_, AC, cC, rfl, hs_⟩
 rw [uL_cont] at hs_ ⊢
 have HSqC := Lib.hid (show qP.heap.size ≤ qC.heap.size from hb_.size)
 have HBqC := Lib.hid (HBqP.out.trans (hb_.mono HBqP.out.size))
 have xqC := Lib.hid (xqP.out.kept (grown_none hb_) (fun e => by cases e))
 have lqC := Lib.hid (lqP.out.kept (grown_none hb_) (fun e => by cases e))
 have tqC := Lib.hid (tqP.out.kept (grown_none hb_) (fun e => by cases e))
 have HSLqC := Lib.hid (HSLqP.out.next (Nat.le_refl _) hb_)
 have HSBqC := Lib.hid ((HSBqP.out).next (Nat.le_refl _) hb_)
 have HSPqC := Lib.hid ((HSP.out).next (Nat.le_refl _) hb_)
 have HSC := Lib.hid hs_; clear hs_ hb_
 refine hK.out _ _ tqC.out (fun _ => ?_)
 clear hK K
 try simp only [Act.put, List.setIfInBounds_toArray, List.set_cons_zero, List.set_cons_succ]
 refine wpAnyH_take (i := 6) (oi := ⟨some 2, _, _, _, _, _⟩) (v := .slice AB uBase.length cB) rfl (by kernel_rfl) (by kernel_rfl) (by kernel_rfl) (fun _ _ _ h => h) (Or.inl ⟨by rfl, fun w' hS => by go_simp⟩) tqC.out ?_
 try simp only [Act.put, List.setIfInBounds_toArray, List.set_cons_zero, List.set_cons_succ]
 refine wpAnyH_take (i := 7) (oi := ⟨some 3, _, _, _, _, _⟩) (v := .slice AP uPath.length cP) rfl (by kernel_rfl) (by kernel_rfl) (by kernel_rfl) (fun _ _ _ h => h) (Or.inl ⟨by rfl, fun w' hS => by go_simp⟩) tqC.out ?_
 try simp only [Act.put, List.setIfInBounds_toArray, List.set_cons_zero, List.set_cons_succ]
 refine wpAnyH_take (i := 8) (oi := ⟨some 4, _, _, _, _, _⟩) (v := .slice AC uCont.length cC) rfl (by kernel_rfl) (by kernel_rfl) (by kernel_rfl) (fun _ _ _ h => h) (Or.inl ⟨by rfl, fun w' hS => by go_simp⟩) tqC.out ?_
 try simp only [Act.put, List.setIfInBounds_toArray, List.set_cons_zero, List.set_cons_succ]
 refine wpAnyH_done (by kernel_rfl) ?_ _
 obtain ⟨bB, oB, rfl, -, -, nB, vB⟩ := Sl.attr HSBqC.out (i := 0) (by decide)
 obtain ⟨bP, oP, eP, -, -, -, vP0⟩ := Sl.attr HSPqC.out (i := 0) (by decide)
 obtain ⟨bP', oP', eP', -, -, -, vP1⟩ := Sl.attr HSPqC.out (i := 1) (by decide)
 obtain ⟨rfl, rfl⟩ : bP = bP' ∧ oP = oP' := by rw [eP] at eP'; injection eP' with h; injection h with h1 h2; exact ⟨h1, h2⟩
 subst eP
 clear eP'
 obtain ⟨bC, oC, rfl, -, -, -, vC⟩ := Sl.attr HSC.out (i := 1) (by decide)
 rw [show uBase.length = 4 from rfl, show uPath.length = 2 from rfl, show uCont.length = 3 from rfl]
 have hcB := HSBqC.out.1; have hcB2 := HSBqC.out.2.1; have hcP := HSPqC.out.1; have hcP2 := HSPqC.out.2.1; have hcC := HSC.out.1; have hcC2 := HSC.out.2.1
 unfold maxLen at hcB2 hcP2 hcC2
 rw [show uBase.length = 4 from rfl] at hcB
 rw [show uPath.length = 2 from rfl] at hcP
 rw [show uCont.length = 3 from rfl] at hcC
 rw [show (uBase[0]'(by decide)).name = ⟨#[68, 69, 86, 78, 65, 77, 69]⟩ from rfl] at nB
 rw [show (uBase[0]'(by decide)).value = ⟨#[115, 100, 97, 49]⟩ from rfl] at vB
 rw [show (uPath[0]'(by decide)).value = ⟨#[112, 99, 105, 58, 112, 99, 105, 48, 45, 98, 108, 111, 99, 107, 58, 115, 100, 97, 49]⟩ from rfl] at vP0
 rw [show (uPath[1]'(by decide)).value = ⟨#[112, 99, 105, 95, 112, 99, 105, 48, 95, 98, 108, 111, 99, 107, 95, 115, 100, 97, 49]⟩ from rfl] at vP1
 rw [show (uCont[1]'(by decide)).value = ⟨#[102, 105, 108, 101, 115, 121, 115, 116, 101, 109]⟩ from rfl] at vC
 rw [show oB + 0 * 2 = oB by omega] at nB
 rw [show oB + 0 * 2 + 1 = oB + 1 by omega] at vB
 rw [show oP + 0 * 2 + 1 = oP + 1 by omega] at vP0
 rw [show oP + 1 * 2 + 1 = oP + 3 by omega] at vP1
 rw [show oC + 1 * 2 + 1 = oC + 3 by omega] at vC
 have vP3 := vP1
 rw [show oP + 3 = oP + 2 + 1 from rfl] at vP3
 have vC3 := vC
 rw [show oC + 3 = oC + 2 + 1 from rfl] at vC3
 go_wp2_with fail
 go_ret
 exact ⟨by try rfl, HBqC.out⟩
end Go.Proofs.YtjgllhlilbchpaaGreatDoor
namespace Go.Proofs.YtjgllhlilbchpaaGreatDoor
open Go.ChangeShapes Go.WideShapes Go.ChangeAt Go.RowKit Go.Cold
theorem gTabType : (Tryz.prog.globals[3]?).map (·.type) = some 197 := by kernel_rfl
theorem ok7_of_laid {W : World} (h : laidMetH Tryz.prog [("math/bits.deBruijn32tab", Rows.laid_math_bits_deBruijn32tab), ("math/bits.deBruijn64tab", Rows.laid_math_bits_deBruijn64tab), ("internal/strconv.uint64pow10", Rows.laid_internal_strconv_uint64pow10), ("unicode/utf8.acceptRanges", Rows.laid_unicode_utf8_acceptRanges), ("strconv.ErrRange", Rows.laid_strconv_ErrRange), ("strconv.ErrSyntax", Rows.laid_strconv_ErrSyntax), ("unicode.CaseRanges", Rows.laid_unicode_CaseRanges), ("unicode/utf8.first", Rows.laid_unicode_utf8_first)] W) : Ok7 W := by
 have h0 : laidMet Tryz.prog [("math/bits.deBruijn32tab", Rows.laid_math_bits_deBruijn32tab), ("math/bits.deBruijn64tab", Rows.laid_math_bits_deBruijn64tab), ("internal/strconv.uint64pow10", Rows.laid_internal_strconv_uint64pow10), ("unicode/utf8.acceptRanges", Rows.laid_unicode_utf8_acceptRanges), ("strconv.ErrRange", Rows.laid_strconv_ErrRange), ("strconv.ErrSyntax", Rows.laid_strconv_ErrSyntax), ("unicode.CaseRanges", Rows.laid_unicode_CaseRanges), ("unicode/utf8.first", Rows.laid_unicode_utf8_first)] W := h
 have ht := Lib.tabIs_of_head (k := .u64) (zs := Lib.pow10Tab) tab_named gTabType Tryz.underlying197 Tryz.underlying179 (by kernel_rfl) (by kernel_rfl) h0.tail.tail
 obtain ⟨⟨ev, h1, h2⟩, ⟨ev2, h3, h4⟩⟩ := oka_of_laid h
 exact ⟨⟨ev, h1, h2⟩, ⟨ev2, h3, h4⟩, ht⟩
end Go.Proofs.YtjgllhlilbchpaaGreatDoor
namespace Go.Proofs.YtjgllhlilbchpaaGreatDoor
open Go.ChangeShapes Go.WideShapes Go.ChangeAt Go.RowKit Go.Cold
theorem accept_is : (Rows.laid_unicode_utf8_acceptRanges : DataW Unit) = Lib.acceptData := by kernel_rfl
theorem first_is : (Rows.laid_unicode_utf8_first : DataW Unit) = Lib.firstData := by kernel_rfl
theorem okb_of {W : World} {rest : List (String × DataW Unit)} (h0 : laidMet Tryz.prog (("math/bits.deBruijn32tab", Rows.laid_math_bits_deBruijn32tab) :: ("math/bits.deBruijn64tab", Rows.laid_math_bits_deBruijn64tab) :: ("internal/strconv.uint64pow10", Rows.laid_internal_strconv_uint64pow10) :: ("unicode/utf8.acceptRanges", Rows.laid_unicode_utf8_acceptRanges) :: ("strconv.ErrRange", Rows.laid_strconv_ErrRange) :: ("strconv.ErrSyntax", Rows.laid_strconv_ErrSyntax) :: rest) W) (hf : ("unicode/utf8.first", Rows.laid_unicode_utf8_first) ∈ rest) : Ok7 W ∧ OkU W := by
 have ht := Lib.tabIs_of_head (k := .u64) (zs := Lib.pow10Tab) tab_named gTabType Tryz.underlying197 Tryz.underlying179 (by kernel_rfl) (by kernel_rfl) h0.tail.tail
 have h2 := h0.tail.tail.tail.tail
 obtain ⟨a1, s1, hv1, -, -, -⟩ := laid_sentinel h2 gER gERType Tryz.underlying123 rowErr Tryz.underlying225 Tryz.underlying227 rfl rfl Tryz.underlying9 (by kernel_rfl) (by kernel_rfl)
 obtain ⟨a0, s0, hv0, -, -, -⟩ := laid_sentinel h2.tail gES gESType Tryz.underlying123 rowErr Tryz.underlying225 Tryz.underlying227 rfl rfl Tryz.underlying9 (by kernel_rfl) (by kernel_rfl)
 have hr1 : Lib.VarReads Tryz.prog W "unicode/utf8.first" Lib.firstData := by rw [← first_is]; exact Lib.laidMet.reads h0 (by simp only [List.mem_cons]; exact .inr (.inr (.inr (.inr (.inr (.inr hf))))))
 have hr2 : Lib.VarReads Tryz.prog W "unicode/utf8.acceptRanges" Lib.acceptData := by rw [← accept_is]; exact Lib.laidMet.reads h0 (.tail _ (.tail _ (.tail _ (.head _))))
 have hu := utf8Tabs_of_readsT (U8Types.of260 Tryz.lays260) ⟨by kernel_rfl, by kernel_rfl, by kernel_rfl, by kernel_rfl, by kernel_rfl, by kernel_rfl, by kernel_rfl⟩ hr1 hr2
 exact ⟨⟨⟨_, by have h0 := World.var?_cell gES hv0 0; simpa using h0, .inr ⟨_, _, rfl⟩⟩, ⟨_, by have h0 := World.var?_cell gER hv1 0; simpa using h0, .inr ⟨_, _, rfl⟩⟩, ht⟩, hu⟩
theorem okb7 {W : World} (h : laidMetH Tryz.prog [("math/bits.deBruijn32tab", Rows.laid_math_bits_deBruijn32tab), ("math/bits.deBruijn64tab", Rows.laid_math_bits_deBruijn64tab), ("internal/strconv.uint64pow10", Rows.laid_internal_strconv_uint64pow10), ("unicode/utf8.acceptRanges", Rows.laid_unicode_utf8_acceptRanges), ("strconv.ErrRange", Rows.laid_strconv_ErrRange), ("strconv.ErrSyntax", Rows.laid_strconv_ErrSyntax), ("unicode/utf8.first", Rows.laid_unicode_utf8_first)] W) : Ok7 W ∧ OkU W := by
 have h0 : laidMet Tryz.prog [("math/bits.deBruijn32tab", Rows.laid_math_bits_deBruijn32tab), ("math/bits.deBruijn64tab", Rows.laid_math_bits_deBruijn64tab), ("internal/strconv.uint64pow10", Rows.laid_internal_strconv_uint64pow10), ("unicode/utf8.acceptRanges", Rows.laid_unicode_utf8_acceptRanges), ("strconv.ErrRange", Rows.laid_strconv_ErrRange), ("strconv.ErrSyntax", Rows.laid_strconv_ErrSyntax), ("unicode/utf8.first", Rows.laid_unicode_utf8_first)] W := h
 exact okb_of h0 (by simp)
theorem okb8 {W : World} (h : laidMetH Tryz.prog [("math/bits.deBruijn32tab", Rows.laid_math_bits_deBruijn32tab), ("math/bits.deBruijn64tab", Rows.laid_math_bits_deBruijn64tab), ("internal/strconv.uint64pow10", Rows.laid_internal_strconv_uint64pow10), ("unicode/utf8.acceptRanges", Rows.laid_unicode_utf8_acceptRanges), ("strconv.ErrRange", Rows.laid_strconv_ErrRange), ("strconv.ErrSyntax", Rows.laid_strconv_ErrSyntax), ("unicode.CaseRanges", Rows.laid_unicode_CaseRanges), ("unicode/utf8.first", Rows.laid_unicode_utf8_first)] W) : Ok7 W ∧ OkU W := by
 have h0 : laidMet Tryz.prog [("math/bits.deBruijn32tab", Rows.laid_math_bits_deBruijn32tab), ("math/bits.deBruijn64tab", Rows.laid_math_bits_deBruijn64tab), ("internal/strconv.uint64pow10", Rows.laid_internal_strconv_uint64pow10), ("unicode/utf8.acceptRanges", Rows.laid_unicode_utf8_acceptRanges), ("strconv.ErrRange", Rows.laid_strconv_ErrRange), ("strconv.ErrSyntax", Rows.laid_strconv_ErrSyntax), ("unicode.CaseRanges", Rows.laid_unicode_CaseRanges), ("unicode/utf8.first", Rows.laid_unicode_utf8_first)] W := h
 exact okb_of h0 (by simp)
end Go.Proofs.YtjgllhlilbchpaaGreatDoor
