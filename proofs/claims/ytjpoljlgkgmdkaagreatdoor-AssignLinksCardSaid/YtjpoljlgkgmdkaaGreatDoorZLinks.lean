/-
  AssignLinks: row and card.
 Conditions: those of the given row and card (the listed variables of the library hold what the text lays), nothing else.
-/
import Derived.Test.YtjpoljlgkgmdkaaGreatDoorVVI
import Derived.Test.YtjpoljlgkgmdkaaGreatDoorVVD
import Derived.Test.YtjpoljlgkgmdkaaGreatDoorVB
import Derived.ShutString
set_option linter.unusedSimpArgs false
set_option linter.unusedVariables false
namespace Go.Cold
open Go Go.RowKit Go.Proofs.YtjpoljlgkgmdkaaGreatDoor
def spB (s : ByteArray) (k : Nat) : Bool := (s.data.toList.take k).any fun x => decide (x = 32)
theorem spB_step {s : ByteArray} {k : Nat} {x : UInt8} (hx : s.data.toList[k]? = some x) : spB s (k + 1) = (spB s k || decide (x = 32)) := by
 obtain ⟨hk, he⟩ := List.getElem?_eq_some_iff.1 hx
 unfold spB
 rw [List.take_succ_eq_append_getElem hk, List.any_append, he]
 simp
theorem spB_none {s : ByteArray} (h : spB s s.size = false) : ∀ x ∈ s.data.toList, x ≠ 32 := by
 intro x hx e
 unfold spB at h
 rw [← ba_size, List.take_length, List.any_eq_false] at h
 exact h x hx (decide_eq_true e)
theorem byte32 (x : UInt8) : ((x.toNat : Int) == 32) = decide (x = 32) := by
 rw [Bool.eq_iff_iff]
 simp only [beq_iff_eq, decide_eq_true_eq]
 constructor
 · intro h; exact UInt8.toNat_inj.1 (by simpa using (by omega : x.toNat = 32))
 · rintro rfl; rfl
theorem links_draft (raw : ByteArray) : SoundD (applyD (beginD []) (ordT 16 4) raw) := apply_sound begin_sound0 (by intro h; exact absurd h (by decide)) raw
end Go.Cold
namespace Go.Proofs.YtjpoljlgkgmdkaaGreatDoor
open Go.RowKit Go.Cold
set_option maxRecDepth 100000 in
set_option maxHeartbeats 8000000 in
theorem lawLinks13_any (A : Option Addr) (c : Nat) (xs : List Int) (raw : ByteArray) (w : World) (hok : Ok w) (h7 : Ok7 w) (hx : Sl w w.heap.size A c xs) (hs : raw.size ≤ maxLen) :
  Calls Tryz.prog 4 #[.slice A xs.length c, .string raw] w fun e w' => e = .returned (.bool true) ∧ Below w.heap.size w w' := by
 have HOK := Lib.hid hok; have H7 := Lib.hid h7; have HS := Lib.hid hs; clear hok h7 hs hx
 have hzv := (zero_of_info (P := Tryz.prog) (t := 30) info_draft2).1
 go_enter Tryz.func4, Tryz.ntmps4
 by_cases hr : 120 < raw.size
 ·
  have i0 : (120 : Int) < (raw.size : Int) := by omega
  go_wp2_with fail
  refine (known13_any _ HOK.out H7.out).mono ?_
  rintro e w_ ⟨rfl, hb_⟩
  go_wp2
  go_ret
  exact ⟨by try rfl, hb_⟩
 have i0 : ¬ (120 : Int) < (raw.size : Int) := by omega
 have HRS := Lib.hid (show raw.size ≤ 120 by omega); clear hr
 go_wp2_with fail
 refine Calls.mono (R := fun e w' => DPost (fun _ => False) (beginD []) w e w') ?_ ?_
 · exact Begin_any none 0 [] (fun _ => False) w (fun _ h => h.elim) FreeS.nil_ (by decide)
 rintro e w1 ⟨hb, h0, rfl, hd⟩
 have HSw1 := Lib.hid (show w.heap.size ≤ w1.heap.size from hb.size)
 have HBw1 := Lib.hid hb
 clear hb
 have HP0 := Lib.hid pre0
 obtain ⟨d0, hd0⟩ : ∃ z, beginD [] = z := ⟨_, rfl⟩
 rw [hd0] at hd HP0 ⊢
 have HD0 := Lib.hid hd0; have HDF := Lib.hid hd; clear hd hd0
 go_wp2_with fail
 refine Calls.mono (R := fun e w' => DPost (fun _ => False) (applyD d0 (ordT 16 4) raw) w1 e w') ?_ ?_
 · exact Apply_any d0 h0 (ordT 16 4) raw (fun _ => False) w1 (fun _ h => h.elim) HDF.out HP0.out ⟨by unfold okI; decide, by decide +kernel, by unfold okI; decide, by decide +kernel⟩ (by decide) (by have := HRS.out; omega) (HOK.out.next HBw1.out) (H7.out.below HBw1.out)
 rintro e w2 ⟨hb, h1, rfl, hd⟩
 have HSw2 := Lib.hid (show w1.heap.size ≤ w2.heap.size from hb.size)
 have HBw2 := Lib.hid (HBw1.out.trans (hb.mono HBw1.out.size))
 clear hb
 obtain ⟨d1, hd1⟩ : ∃ z, applyD d0 (ordT 16 4) raw = z := ⟨_, rfl⟩
 rw [hd1] at hd ⊢
 have HD1 := Lib.hid (show applyD (beginD []) (ordT 16 4) raw = d1 by rw [HD0.out]; exact hd1)
 have HSD := Lib.hid (show SoundD d1 by rw [← HD1.out]; exact links_draft raw)
 clear HDF
 have HLK := Lib.hid hd.sl.2.2.1; clear hd hd1
 go_upto_region 4 with fail
 obtain ⟨w3, hw3⟩ : ∃ w3, w2.alloc (.cells #[.slice h1.a0 d1.props.length h1.c0, .slice h1.a1 d1.tags.length h1.c1, .slice h1.a2 d1.links.length h1.c2, .slice h1.a3 d1.run.length h1.c3, .slice h1.a4 d1.load.length h1.c4, .string d1.nm, .int .i64 d1.prio, .string d1.owner, .string d1.group, .int .i64 d1.mode, .string d1.res, .int .i64 d1.calls, .int .i64 d1.ticks, .slice h1.a5 d1.closed.length h1.c5] 30) = w3 := ⟨_, rfl⟩
 have hbw3 : Below w2.heap.size w2 w3 := by rw [← hw3]; exact (Below.refl _ _).alloc (Nat.le_refl _) _
 have HGw3 := Lib.hid (show w3.heap.size = w2.heap.size + 1 by rw [← hw3]; simp)
 have HXdw3 := Lib.hid (show BoxL w3 w2.heap.size [.slice h1.a0 d1.props.length h1.c0, .slice h1.a1 d1.tags.length h1.c1, .slice h1.a2 d1.links.length h1.c2, .slice h1.a3 d1.run.length h1.c3, .slice h1.a4 d1.load.length h1.c4, .string d1.nm, .int .i64 d1.prio, .string d1.owner, .string d1.group, .int .i64 d1.mode, .string d1.res, .int .i64 d1.calls, .int .i64 d1.ticks, .slice h1.a5 d1.closed.length h1.c5] from box_mk hw3)
 try simp only [hw3]
 have HSw3 := Lib.hid (show w2.heap.size ≤ w3.heap.size from hbw3.size)
 have HBw3 := Lib.hid (HBw2.out.trans (hbw3.mono HBw2.out.size))
 have HLKw3 := Lib.hid ((HLK.out).next (Nat.le_refl _) hbw3)
 clear hw3 hbw3
 try rw [show w2.heap.size + 1 = w3.heap.size from HGw3.out.symm]
 clear hzv
 have hp1 := HLK.out.1; have hp2 := HLK.out.2.1
 unfold maxLen at hp2
 have cd2 := HXdw3.out.1 2 _ rfl
 go_wp2_with fail
 clear cd2
 go_loopw [6] (fun i wr => ∃ k : Nat, k ≤ d1.links.length ∧ i = .int .i64 (k : Int) ∧ Hid (Below w3.heap.size w3 wr)) (fun i _ => d1.links.length - (intOf i).toNat)
 case atStart => exact ⟨0, Nat.zero_le _, rfl, Lib.hid (Below.refl _ _)⟩
 case round =>
  obtain ⟨k, hk, rfl, HBR⟩ := hrel
  have HBwr := Lib.hid (HBw3.out.trans (HBR.out.mono HBw3.out.size)); have dwr := Lib.hid (HXdw3.out.kept (grown_none HBR.out) (fun e => by cases e)); have HLwr := Lib.hid (HLKw3.out.next (Nat.le_refl _) HBR.out)
  by_cases hlt : k < d1.links.length
  ·
   have i1 : (k : Int) < (d1.links.length : Int) := by omega
   have HLT := Lib.hid hlt
   obtain ⟨b3, o3, hA, hb3, cx, hsz⟩ := HLwr.out.str hlt
   have hlk := HSD.out.lv _ (List.getElem_mem hlt)
   obtain ⟨x, hx⟩ : ∃ y, d1.links[k]'hlt = y := ⟨_, rfl⟩
   rw [hx] at cx hsz hlk
   have HLX := Lib.hid hlk; have HSX := Lib.hid (show x.size ≤ 1000 from by unfold linkB at hlk; rw [Bool.and_eq_true] at hlk; have := of_decide_eq_true hlk.1; omega)
   have cd2 := dwr.out.1 2 _ rfl
   rw [hA] at cd2
   clear hx hlk hb3 hsz
   go_wp2_with fail
   refine (Link_any x _ (by have := HSX.out; omega) (HOK.out.next HBwr.out)).mono ?_
   rintro e w9 ⟨rfl, hb9⟩
   rw [HLX.out]
   have HBR9 := Lib.hid (below_next HBR.out hb9)
   clear hb9 cx hA cd2
   go_wp2
   go_roundw
   case rel => exact ⟨k + 1, HLT.out, by go_num, HBR9⟩
   case measure => have := HLT.out; simp [intOf]; omega
  ·
   have i1 : ¬ (k : Int) < (d1.links.length : Int) := by omega
   have cd2 := dwr.out.1 2 _ rfl
   go_wp2_with fail
   skip
   refine (Clean_any raw _ (by have := HRS.out; omega) (HOK.out.next HBwr.out)).mono ?_
   rintro e w8 ⟨hbw8, rfl⟩
   clear cd2
   have HSw8 := Lib.hid (show wr.heap.size ≤ w8.heap.size from hbw8.size)
   have HBw8 := Lib.hid (HBwr.out.trans (hbw8.mono HBwr.out.size))
   have dw8 := Lib.hid (dwr.out.kept (grown_none hbw8) (fun e => by cases e))
   have HLKw8 := Lib.hid ((HLwr.out).next (Nat.le_refl _) hbw8)
   have HBRw8 := Lib.hid (below_next HBR.out hbw8)
   clear hbw8
   cases hcl : cleanOf raw with
   | none =>
    clear hcl
    have HLL := HSD.out.ll
    have i2 : (d1.links.length : Int) ≤ 16 := by omega
    clear HLL
    have cd2 := dw8.out.1 2 _ rfl
    go_wp2_with fail
    refine (known13_any _ (HOK.out.next HBw8.out) (H7.out.below HBw8.out)).mono ?_
    rintro e w_ ⟨rfl, hb_⟩
    have HBE := Lib.hid (below_next HBw8.out hb_); clear hb_
    go_wp2
    go_ret
    exact ⟨by try rfl, HBE.out⟩
   | some s =>
    have HCL := Lib.hid hcl; clear hcl
    go_wp2_with fail
    go_loopw [9, 10] (fun sp i wr2 => ∃ j : Nat, j ≤ raw.size ∧ sp = .bool (spB raw j) ∧ i = .int .i64 (j : Int) ∧ wr2 = w8) (fun _ i _ => raw.size - (intOf i).toNat)
    case atStart => exact ⟨0, Nat.zero_le _, rfl, rfl, rfl⟩
    case round =>
     obtain ⟨j, hj, rfl, rfl, hw2⟩ := hrel
     have hw3 := hw2.symm
     clear hw2
     subst hw3
     by_cases hlt2 : j < raw.size
     ·
      have i3 : (j : Int) < (raw.size : Int) := by omega
      have HLT2 := Lib.hid hlt2
      have hlen : raw.data.toList.length = raw.size := ba_size raw
      have hxk : raw.data.toList[j]? = some (raw.data.toList[j]'(by omega)) := List.getElem?_eq_getElem (by omega)
      obtain ⟨x, hx⟩ : ∃ y, raw.data.toList[j]'(by omega) = y := ⟨_, rfl⟩
      rw [hx] at hxk
      have hget : raw[j]'hlt2 = x := by rw [← hx]; exact (Array.getElem_toList _).symm
      have HSP := Lib.hid (spB_step hxk)
      have h32 := byte32 x
      obtain ⟨q, hq⟩ : ∃ z, spB raw j = z := ⟨_, rfl⟩
      obtain ⟨q2, hq2⟩ : ∃ z, decide (x = 32) = z := ⟨_, rfl⟩
      rw [hq2, ← hget] at h32
      rw [hq]
      have HSP2 := Lib.hid (show spB raw (j + 1) = (q || q2) by rw [HSP.out, hq, hq2])
      clear hx hxk hq hq2 hlen HSP hget
      cases q
      case false =>
       go_wp2
       go_roundw
       case rel => exact ⟨j + 1, HLT2.out, by rw [HSP2.out]; simp, by go_num, trivial⟩
       case measure => have := HLT2.out; simp [intOf]; omega
      case true =>
       go_wp2
       go_roundw
       case rel => exact ⟨j + 1, HLT2.out, by rw [HSP2.out]; simp, by go_num, trivial⟩
       case measure => have := HLT2.out; simp [intOf]; omega
     ·
      have i3 : ¬ (j : Int) < (raw.size : Int) := by omega
      obtain rfl : j = raw.size := by omega
      obtain ⟨q, hq⟩ : ∃ z, spB raw raw.size = z := ⟨_, rfl⟩
      rw [hq]
      have HQ := Lib.hid hq; clear hq
      cases q
      case false =>
       have hl1 : d1.links = [s] := by rw [← HD1.out]; exact links_one HCL.out (spB_none HQ.out)
       have hl2 : d1.links.length = 1 := by rw [hl1]; rfl
       obtain ⟨b3, o3, hA, hb3, cx, hsz⟩ := HLKw8.out.str (i := 0) (by rw [hl2]; decide)
       have hx0 : d1.links[0]'(by rw [hl2]; decide) = s := by simp [hl1]
       rw [hx0] at cx
       have HL1 := Lib.hid hl1; have HL2 := Lib.hid hl2
       clear hl1 hb3 hsz hx0
       have cd2 := dw8.out.1 2 _ rfl
       rw [hl2, hA] at cd2
       have hss : (s.toList == s.toList) = true := by simp
       clear hl2 hA
       have cx' : w8.cell? ⟨b3, o3, none⟩ = some (.string s) := by simpa using cx
       clear cx
       go_wp2_with fail
       refine (known13_any _ (HOK.out.next HBw8.out) (H7.out.below HBw8.out)).mono ?_
       rintro e w_ ⟨rfl, hb_⟩
       have HBE := Lib.hid (below_next HBw8.out hb_); clear hb_
       go_wp2
       go_ret
       exact ⟨by try rfl, HBE.out⟩
      case true =>
       have HLL := HSD.out.ll
       have i2 : (d1.links.length : Int) ≤ 16 := by omega
       clear HLL
       have cd2 := dw8.out.1 2 _ rfl
       go_wp2_with fail
       refine (known13_any _ (HOK.out.next HBw8.out) (H7.out.below HBw8.out)).mono ?_
       rintro e w_ ⟨rfl, hb_⟩
       have HBE := Lib.hid (below_next HBw8.out hb_); clear hb_
       go_wp2
       go_ret
       exact ⟨by try rfl, HBE.out⟩
end Go.Proofs.YtjpoljlgkgmdkaaGreatDoor
namespace Go.Proofs.YtjpoljlgkgmdkaaGreatDoor
open Go.RowKit Go.Cold
namespace cAssignLinks
open Go.ChangeShapes Go.WideShapes Go.ChangeAt
open Go.ChangeMaps (open_string)
set_option maxRecDepth 100000
theorem reads (os : Os) {H : Type} (enc : TypeId × Value → H) : ∃ places, DataW.whole enc Tryz.prog ((World.laidAll Tryz.prog os Rows.assignLinksRow.laid).forCall (fun _ _ => 0) ⟨#[], #[.slice none 0 0, .string ⟨#[]⟩], []⟩).memory Tryz.f4.params.toList Rows.assignLinksSpec.vars false (#[.slice none 0 0, .string ⟨#[]⟩] : Array Value).toList 8 = some ([.nil, .lit (.string [])], [], places) :=
 ⟨[], by kernel_rfl⟩
theorem lifted (os : Os) (started : os.Started) (H : Type) (enc : TypeId × Value → H) (F : Stop.Interp) :
  ReturnsInHanded {} Tryz.checked os 4 .any ((OpenSpec.ofChange Rows.assignLinksSpec).preRow enc Tryz.prog Tryz.f4 Rows.assignLinksRow.domain false Rows.assignLinksRow.laid) (((OpenSpec.ofChange Rows.assignLinksSpec).at F).post enc Tryz.prog Tryz.f4 false true false false) := by
 obtain ⟨places, hx⟩ := reads os enc
 refine law_lifted os started H enc F (by kernel_rfl) Tryz.func4 #[.slice none 0 0, .string ⟨#[]⟩] (World.shaped_of_ZipB (by kernel_rfl) (by kernel_rfl)) (by kernel_rfl)
  (OpenSpec.preRow_of_cond 8 hx (by kernel_rfl) (fun k hk => by cases hk) (by kernel_rfl) (laidMet_laidAll _ (by kernel_rfl) (by kernel_rfl))) rfl rfl
  (fun ds hl => by
   rw [Tryz.params4] at hl
   match ds, hl with
   | [d0, d1], _ => rfl) (by kernel_rfl) ?_
 intro W base args ds ps hval hA hlt hz hsh hlaid
 rw [Tryz.params4] at hA hval
 obtain ⟨v0, vs0, d0, ds0, p0, q0, hargs, rfl, rfl, h0, r0⟩ := trodAll_cons hA
 obtain ⟨v1, vs1, d1, ds1, p1, q1, rfl, rfl, rfl, h1, r1⟩ := trodAll_cons r0
 obtain ⟨rfl, rfl, rfl⟩ := trodAll_nil r1
 obtain rfl : args = #[v0, v1] := by cases args; simp_all
 obtain ⟨A0, c0, xs0, rfl, s0⟩ := open_nums Tryz.underlying22 Tryz.underlying3 (by kernel_rfl) (hval 0 22 v0 rfl rfl) h0 (fun x hx => hlt x (List.mem_append_left _ hx))
 obtain ⟨a1, rfl, rfl, rfl, w1⟩ := open_string Tryz.underlying9 (hval 1 9 v1 rfl rfl) h1
 exact lawLinks13_any A0 c0 xs0 a1 W (show Ok W from Tryz.laysM146.s1_3 W hsh) (okf8 hlaid) s0 w1
theorem said : Rows.AssignLinksSaid :=
 OpenClaim.holds_of_cond 4 Tryz.f4 rfl rfl rfl rfl rfl rfl rfl ⟨rfl, rfl, rfl, rfl, rfl⟩ rfl rfl rfl rfl rfl (by kernel_rfl) Tryz.func4 (by kernel_rfl)
  (of_decide_eq_true (by kernel_rfl)) (by unfold Func.isWrapper; first | (rw [if_pos (by decide +kernel)]; kernel_rfl) | (rw [if_neg (by decide +kernel)]; exact ⟨rfl, rfl⟩))
  (fun os started H enc _ F => by rw [OpenClaim.pre_eq_preRow]; exact lifted os started H enc F)
theorem plain (f : FuncId) (fn : Func) (hf : Tryz.pinned.checked.prog.funcNamed Rows.assignLinksRow.func = some f) (hfn : Tryz.pinned.checked.prog.funcs[f]? = some fn) :
  true = Tryz.pinned.checked.prog.looks [] ∧ ∀ (j : Nat) t, fn.params[j]? = some t → Tryz.pinned.checked.prog.wantsStandIn t = false := by
 obtain rfl : f = 4 := Option.some.inj ((show Tryz.prog.funcNamed Rows.assignLinksRow.func = some 4 by kernel_rfl).symm.trans hf) |>.symm
 obtain rfl : fn = Tryz.f4 := (Option.some.inj (Tryz.func4.symm.trans hfn)).symm
 refine ⟨by kernel_rfl, fun j t ht => ?_⟩
 rw [Tryz.params4] at ht
 have hm : t ∈ [22, 9] := by simpa using Array.mem_of_getElem? ht
 have hall : ([22, 9].all fun u => !Tryz.prog.wantsStandIn u) = true := by kernel_rfl
 exact (show Tryz.prog.wantsStandIn t = false by simpa using List.all_eq_true.1 hall t hm)
theorem card : Rows.AssignLinksCardSaid :=
 Claim7.holds_tied_plain_at .later [] _ _ _ _ said (fun _ h => by cases h) (by kernel_rfl) (fun _ h => by cases h) assignLinks_row_tie rfl ⟨rfl, rfl⟩ (by kernel_rfl) rfl plain (by kernel_rfl)
end cAssignLinks
end Go.Proofs.YtjpoljlgkgmdkaaGreatDoor
