/-
  The walks of builtin.set,builtin.Key and the reference's Key.
-/
import Derived.Test.YtjgllhlilbchpaaGreatDoorRTK
import Derived.Test.YtjgllhlilbchpaaGreatDoorRUB
import Derived.Test.YtjgllhlilbchpaaGreatDoorRUA
import Derived.Lib.SlicesS
import Derived.Test.YtjgllhlilbchpaaGreatDoorRL
import Derived.Lib.ItoaLen
import Derived.Deep.RegionHeld3
import Derived.Test.YtjgllhlilbchpaaGreatDoorRD
import Derived.Test.YtjgllhlilbchpaaGreatDoorRP
import Derived.Shelf.Strings.MapAny
import Derived.Test.YtjgllhlilbchpaaGreatDoorRC
import Derived.Test.YtjgllhlilbchpaaGreatDoorRSB
set_option linter.unusedSimpArgs false
set_option linter.unusedVariables false
namespace Go.Cold
open Go Go.RowKit Go.Proofs.YtjgllhlilbchpaaGreatDoor
def SlPost (l:List Attr) (w:World) (e:Ending) (w':World):Prop:=Below w.heap.size w w'∧∃ A c,e=.returned (.slice A l.length c)∧Sl w' w'.heap.size A c l
theorem SlPost.of_own {l:List Attr} {w w':World} {e:Ending} {v:Value} {T:TypeId} (hb:Below w.heap.size w w') (he:e=.returned v) (h:OwnsS (fun _=>False) w' w.heap.size T v l):SlPost l w e w':=by
 obtain ⟨A,c,hv,hs⟩:=h.sl;exact ⟨hb,A,c,by rw [he,hv],hs⟩
def baseK (x:ByteArray):Bool:=baseKeys.any fun k=>decide (x=k)
theorem baseK_contains (x:ByteArray):Lib.containsS (baseKeys.take 7) x=baseK x:=by
 rw [show baseKeys.take 7=baseKeys from rfl,Bool.eq_iff_iff,Lib.containsS_iff];unfold baseK;rw [List.any_eq_true];constructor
 · intro h;exact ⟨x,h,decide_eq_true rfl⟩
 · rintro ⟨k,hk,e⟩;rw [of_decide_eq_true e];exact hk
theorem str_eq {x:ByteArray} {l:List UInt8} {a:Array UInt8} (ha:(⟨a⟩:ByteArray).toList=l):(x.toList == l)=decide (x=⟨a⟩):=by
 rw [← ha];exact ba_beq x ⟨a⟩
end Go.Cold
namespace Go.Proofs.YtjgllhlilbchpaaGreatDoor
open Go.RowKit Go.Cold
set_option maxRecDepth 100000 in
theorem Put_any (A:Option Addr) (c:Nat) (xs:List Attr) (n x:ByteArray) (w:World) (B:Nat) (hB:B≤w.heap.size) (hx:Sl w B A c xs) (hs:sortedA xs=true) (hl:xs.length≤1000) (h1:n.size≤maxLen) (h2:x.size≤maxLen) :
  Calls Tryz.prog 46 #[.slice A xs.length c,.string n,.string x] w (SlPost (putA xs n x) w):=by
 have hx1:=hx.1;have hx2:=hx.2.1;unfold maxLen at hx2;have HX:=Lh_ hx;have HB:=Lh_ hB;have HS:=Lh_ hs;have HL:=Lh_ hl;have H1:=Lh_ h1;have H2:=Lh_ h2;clear hx hB hs hl h1 h2;go_enter Tryz.func46,Tryz.ntmps46;by_cases hv:x.toList.isEmpty=true
 ·
  have hv2:(x.toList == (⟨#[]⟩:ByteArray).toList)=true:=by rw [show (⟨#[]⟩:ByteArray).toList=[] by decide +kernel];cases hq:x.toList with | nil=>rfl | cons a r=>rw [hq] at hv;cases hv
  have hv3:(x.toList == [])=true:=by cases hq:x.toList with | nil=>rfl | cons a r=>rw [hq] at hv;cases hv
  have HV:=Lh_ hv;clear hv;go_wp2;go_ret;have he:putA xs n x=xs:=by unfold putA;rw [if_pos HV.out]
  rw [he];exact ⟨Below.refl _ _,A,c,rfl,HX.out.more HB.out⟩
 ·
  have hv1:x.toList.isEmpty=false:=by simpa using hv
  have hv2:(x.toList == (⟨#[]⟩:ByteArray).toList)=false:=by rw [show (⟨#[]⟩:ByteArray).toList=[] by decide +kernel];cases hq:x.toList with | nil=>rw [hq] at hv1;cases hv1 | cons a r=>rfl
  have hv3:(x.toList == [])=false:=by cases hq:x.toList with | nil=>rw [hq] at hv1;cases hv1 | cons a r=>rfl
  have HV:=Lh_ hv;clear hv hv1;go_wp2_with fail;refine (DSet_any A c xs n x _ B HB.out HX.out HS.out HL.out H1.out H2.out).mono ?_;rintro e w1 ⟨hb1,v,rfl,hown⟩;have HP:=Lh_ (show SlPost (putA xs n x) w (.returned v) w1 from by rw [show putA xs n x=setA xs n x by unfold putA;rw [if_neg HV.out]];exact SlPost.of_own hb1 rfl hown);clear hb1 hown;go_wp2;go_ret;exact HP.out
theorem BKey_any (x:ByteArray) (w:World):Calls Tryz.prog 17 #[.string x] w fun e w'=>e=.returned (.bool (baseK x))∧Below w.heap.size w w':=by
 go_enter Tryz.func17,Tryz.ntmps17;obtain ⟨wa,hwa⟩:∃ z,w.alloc (.cells #[.string ⟨#[68,69,86,78,65,77,69]⟩,.string ⟨#[68,69,86,80,65,84,72]⟩,.string ⟨#[68,82,73,86,69,82]⟩,.string ⟨#[73,78,84,69,82,70,65,67,69]⟩,.string ⟨#[77,79,68,65,76,73,65,83]⟩,.string ⟨#[78,85,77,66,69,82]⟩,.string ⟨#[83,85,66,83,89,83,84,69,77]⟩] 9)=z:=⟨_,rfl⟩;have hba:Below w.heap.size w wa:=by rw [← hwa];exact (Below.refl _ _).alloc (Nat.le_refl _) _
 have hbx:BoxL wa w.heap.size [.string ⟨#[68,69,86,78,65,77,69]⟩,.string ⟨#[68,69,86,80,65,84,72]⟩,.string ⟨#[68,82,73,86,69,82]⟩,.string ⟨#[73,78,84,69,82,70,65,67,69]⟩,.string ⟨#[77,79,68,65,76,73,65,83]⟩,.string ⟨#[78,85,77,66,69,82]⟩,.string ⟨#[83,85,66,83,89,83,84,69,77]⟩]:=box_mk hwa;have HBA:=Lh_ hba;have HBX:=Lh_ hbx;clear hba hbx;go_wp2_with fail;try rw [hwa]
 refine (Tryz.slices_Contains_string w.heap.size 0 7 7 baseKeys x _ (by decide) (by decide) (fun j hj=>?_)).mono ?_
 ·
  have hj7:j<7:=hj;rw [Nat.zero_add];refine HBX.out.1 j _ ?_;rcases j with _ | _ | _ | _ | _ | _ | _ | j <;> first | rfl | omega
 rintro e w9 ⟨rfl,hw_⟩;rw [hw_];clear hw_ w9;rw [baseK_contains];clear hwa;go_wp2;go_ret;exact ⟨rfl,HBA.out⟩
theorem RBKey_any (x:ByteArray) (w:World):Calls Tryz.prog 18 #[.string x] w fun e w'=>e=.returned (.bool (baseK x))∧w'=w:=by
 have eDEVNAME:=str_eq (x:=x) (a:=#[68,69,86,78,65,77,69]) (l:=[68,69,86,78,65,77,69]) (by decide +kernel);have eDEVPATH:=str_eq (x:=x) (a:=#[68,69,86,80,65,84,72]) (l:=[68,69,86,80,65,84,72]) (by decide +kernel);have eDRIVER:=str_eq (x:=x) (a:=#[68,82,73,86,69,82]) (l:=[68,82,73,86,69,82]) (by decide +kernel);have eINTERFACE:=str_eq (x:=x) (a:=#[73,78,84,69,82,70,65,67,69]) (l:=[73,78,84,69,82,70,65,67,69]) (by decide +kernel);have eMODALIAS:=str_eq (x:=x) (a:=#[77,79,68,65,76,73,65,83]) (l:=[77,79,68,65,76,73,65,83]) (by decide +kernel);have eNUMBER:=str_eq (x:=x) (a:=#[78,85,77,66,69,82]) (l:=[78,85,77,66,69,82]) (by decide +kernel);have eSUBSYSTEM:=str_eq (x:=x) (a:=#[83,85,66,83,89,83,84,69,77]) (l:=[83,85,66,83,89,83,84,69,77]) (by decide +kernel);have HK:=Lh_ (show baseK x=((x.toList == [68,69,86,78,65,77,69]) || (x.toList == [68,69,86,80,65,84,72]) || (x.toList == [68,82,73,86,69,82]) || (x.toList == [73,78,84,69,82,70,65,67,69]) || (x.toList == [77,79,68,65,76,73,65,83]) || (x.toList == [78,85,77,66,69,82]) || (x.toList == [83,85,66,83,89,83,84,69,77])) by rw [Bool.eq_iff_iff];simp only [baseK,baseKeys,List.any_cons,List.any_nil,Bool.or_false,Bool.or_eq_true,eDEVNAME,eDEVPATH,eDRIVER,eINTERFACE,eMODALIAS,eNUMBER,eSUBSYSTEM,decide_eq_true_eq,or_assoc];exact Iff.rfl);clear eDEVNAME eDEVPATH eDRIVER eINTERFACE eMODALIAS eNUMBER eSUBSYSTEM;go_enter Tryz.func18,Tryz.ntmps18;cases c0:(x.toList == [68,69,86,78,65,77,69])
 ·
  have d0:(x.toList == (⟨#[68,69,86,78,65,77,69]⟩:ByteArray).toList)=false:=by rw [show (⟨#[68,69,86,78,65,77,69]⟩:ByteArray).toList=[68,69,86,78,65,77,69] by decide +kernel];exact c0
  cases c1:(x.toList == [68,69,86,80,65,84,72])
  ·
   have d1:(x.toList == (⟨#[68,69,86,80,65,84,72]⟩:ByteArray).toList)=false:=by rw [show (⟨#[68,69,86,80,65,84,72]⟩:ByteArray).toList=[68,69,86,80,65,84,72] by decide +kernel];exact c1
   cases c2:(x.toList == [68,82,73,86,69,82])
   ·
    have d2:(x.toList == (⟨#[68,82,73,86,69,82]⟩:ByteArray).toList)=false:=by rw [show (⟨#[68,82,73,86,69,82]⟩:ByteArray).toList=[68,82,73,86,69,82] by decide +kernel];exact c2
    cases c3:(x.toList == [73,78,84,69,82,70,65,67,69])
    ·
     have d3:(x.toList == (⟨#[73,78,84,69,82,70,65,67,69]⟩:ByteArray).toList)=false:=by rw [show (⟨#[73,78,84,69,82,70,65,67,69]⟩:ByteArray).toList=[73,78,84,69,82,70,65,67,69] by decide +kernel];exact c3
     cases c4:(x.toList == [77,79,68,65,76,73,65,83])
     ·
      have d4:(x.toList == (⟨#[77,79,68,65,76,73,65,83]⟩:ByteArray).toList)=false:=by rw [show (⟨#[77,79,68,65,76,73,65,83]⟩:ByteArray).toList=[77,79,68,65,76,73,65,83] by decide +kernel];exact c4
      cases c5:(x.toList == [78,85,77,66,69,82])
      ·
       have d5:(x.toList == (⟨#[78,85,77,66,69,82]⟩:ByteArray).toList)=false:=by rw [show (⟨#[78,85,77,66,69,82]⟩:ByteArray).toList=[78,85,77,66,69,82] by decide +kernel];exact c5
       cases c6:(x.toList == [83,85,66,83,89,83,84,69,77])
       ·
        have d6:(x.toList == (⟨#[83,85,66,83,89,83,84,69,77]⟩:ByteArray).toList)=false:=by rw [show (⟨#[83,85,66,83,89,83,84,69,77]⟩:ByteArray).toList=[83,85,66,83,89,83,84,69,77] by decide +kernel];exact c6
        have hb:baseK x=false:=by rw [HK.out];simp only [c0,c1,c2,c3,c4,c5,c6,Bool.or_false,Bool.false_or]
        clear HK;go_wp2;go_ret;exact ⟨by rw [hb];rfl,rfl⟩
       ·
        have d6:(x.toList == (⟨#[83,85,66,83,89,83,84,69,77]⟩:ByteArray).toList)=true:=by rw [show (⟨#[83,85,66,83,89,83,84,69,77]⟩:ByteArray).toList=[83,85,66,83,89,83,84,69,77] by decide +kernel];exact c6
        have hb:baseK x=true:=by rw [HK.out];simp only [c0,c1,c2,c3,c4,c5,c6,Bool.or_true,Bool.true_or,Bool.or_false,Bool.false_or]
        clear HK;go_wp2;go_ret;exact ⟨by rw [hb];rfl,rfl⟩
      ·
       have d5:(x.toList == (⟨#[78,85,77,66,69,82]⟩:ByteArray).toList)=true:=by rw [show (⟨#[78,85,77,66,69,82]⟩:ByteArray).toList=[78,85,77,66,69,82] by decide +kernel];exact c5
       have hb:baseK x=true:=by rw [HK.out];simp only [c0,c1,c2,c3,c4,c5,Bool.or_true,Bool.true_or,Bool.or_false,Bool.false_or]
       clear HK;go_wp2;go_ret;exact ⟨by rw [hb];rfl,rfl⟩
     ·
      have d4:(x.toList == (⟨#[77,79,68,65,76,73,65,83]⟩:ByteArray).toList)=true:=by rw [show (⟨#[77,79,68,65,76,73,65,83]⟩:ByteArray).toList=[77,79,68,65,76,73,65,83] by decide +kernel];exact c4
      have hb:baseK x=true:=by rw [HK.out];simp only [c0,c1,c2,c3,c4,Bool.or_true,Bool.true_or,Bool.or_false,Bool.false_or]
      clear HK;go_wp2;go_ret;exact ⟨by rw [hb];rfl,rfl⟩
    ·
     have d3:(x.toList == (⟨#[73,78,84,69,82,70,65,67,69]⟩:ByteArray).toList)=true:=by rw [show (⟨#[73,78,84,69,82,70,65,67,69]⟩:ByteArray).toList=[73,78,84,69,82,70,65,67,69] by decide +kernel];exact c3
     have hb:baseK x=true:=by rw [HK.out];simp only [c0,c1,c2,c3,Bool.or_true,Bool.true_or,Bool.or_false,Bool.false_or]
     clear HK;go_wp2;go_ret;exact ⟨by rw [hb];rfl,rfl⟩
   ·
    have d2:(x.toList == (⟨#[68,82,73,86,69,82]⟩:ByteArray).toList)=true:=by rw [show (⟨#[68,82,73,86,69,82]⟩:ByteArray).toList=[68,82,73,86,69,82] by decide +kernel];exact c2
    have hb:baseK x=true:=by rw [HK.out];simp only [c0,c1,c2,Bool.or_true,Bool.true_or,Bool.or_false,Bool.false_or]
    clear HK;go_wp2;go_ret;exact ⟨by rw [hb];rfl,rfl⟩
  ·
   have d1:(x.toList == (⟨#[68,69,86,80,65,84,72]⟩:ByteArray).toList)=true:=by rw [show (⟨#[68,69,86,80,65,84,72]⟩:ByteArray).toList=[68,69,86,80,65,84,72] by decide +kernel];exact c1
   have hb:baseK x=true:=by rw [HK.out];simp only [c0,c1,Bool.or_true,Bool.true_or,Bool.or_false,Bool.false_or]
   clear HK;go_wp2;go_ret;exact ⟨by rw [hb];rfl,rfl⟩
 ·
  have d0:(x.toList == (⟨#[68,69,86,78,65,77,69]⟩:ByteArray).toList)=true:=by rw [show (⟨#[68,69,86,78,65,77,69]⟩:ByteArray).toList=[68,69,86,78,65,77,69] by decide +kernel];exact c0
  have hb:baseK x=true:=by rw [HK.out];simp only [c0,Bool.or_true,Bool.true_or,Bool.or_false,Bool.false_or]
  clear HK;go_wp2;go_ret;exact ⟨by rw [hb];rfl,rfl⟩
end Go.Proofs.YtjgllhlilbchpaaGreatDoor
namespace Go.Cold
open Go Go.RowKit Go.Proofs.YtjgllhlilbchpaaGreatDoor
theorem base_none {L:List Dev} {n:Int} (h:(findD L n).isSome=false):baseL L n=[]:=by
 unfold baseL;cases hf:findD L n with
 | none=>rfl
 | some d=>rw [hf] at h;cases h
theorem strF_small {L:List Dev} (h:VT L) (n:Int):(strF L n).size≤maxLen:=by
 have:=str_size (fun d hd=>(h.small d hd).1) h.size n;unfold maxLen;omega
theorem itoaT_small {n:Int} (h:okI n):(itoaT n).size≤maxLen:=by
 have h1:=Go.Lib.itoa_length_le n h.1 h.2;show (Lib.itoa n).toArray.size≤maxLen
 rw [List.size_toArray];unfold maxLen;omega
theorem set_len {l:List Attr} {k v:ByteArray} {m:Nat} (h:l.length≤m):(setA l k v).length≤m+1:=by
 have:=setA_len l k v;omega
theorem base_some {L:List Dev} {n:Int} {d:Dev} (hq:(findD L n).isSome=true) (hd:d=(findD L n).getD zeroD):baseL L n=putAll (baseP (strF L n) d):=by
 unfold baseL;cases hf:findD L n with
 | none=>rw [hf] at hq;cases hq
 | some e=>rw [hf] at hd;rw [show d=e from hd]
end Go.Cold
namespace Go.Proofs.YtjgllhlilbchpaaGreatDoor
open Go.RowKit Go.Cold
set_option maxRecDepth 100000 in
set_option maxHeartbeats 4000000 in
theorem RBase_any (A:Option Addr) (c:Nat) (L:List Dev) (n:Int) (w:World) (B:Nat) (hB:B≤w.heap.size) (hx:Sl w B A c L) (hv:VT L) (hok:Ok7 w) (hko:Ok w) (hn:okI n) :
  Calls Tryz.prog 20 #[.agg #[.slice A L.length c],.int .i64 n] w (SlPost (baseL L n) w):=by
 have hx1:=hx.1;have hx2:=hx.2.1;unfold maxLen at hx2;have HX:=Lh_ hx;have HB:=Lh_ hB;have HV:=Lh_ hv;have HOK:=Lh_ hok;clear hx hB hv hok;have HKO:=Lh_ hko;clear hko;have HLA:=Lh_ (show ∀ d ∈ L,d.attrs.length≤1000000 from fun d hd=>attrs_le (HV.out.chk d hd));go_enter Tryz.func20,Tryz.ntmps20;go_upto_region 1 with fail
 obtain ⟨w1,hw1,hbw1,HGw1,HXtw1⟩:=bx_ w [.slice A L.length c] 28;try simp only [hw1]
 have HBw1:=Lh_ hbw1;clear hw1 hbw1;try rw [← HGw1.out]
 have ct0:=HXtw1.out.1 0 _ rfl;obtain ⟨q,hq⟩:∃ z,(findD L n).isSome=z:=⟨_,rfl⟩;have HQ:=Lh_ hq;clear hq;go_wp2_with fail;refine (RFind_any A c L n _ B (Nat.le_trans HB.out HBw1.out.size) (HX.out.keep (HBw1.out.mono HB.out))).mono ?_;rintro e w2 ⟨hbw2,d,A3,c3,hd,rfl,hod,hsd⟩;clear ct0;have HBw2:=tb_ HBw1 hbw2;have tw2:=kb_ HXtw1 hbw2;clear hbw2;have ct0:=tw2.out.1 0 _ rfl;rw [HQ.out];have Hd:=Lh_ (show d=(findD L n).getD zeroD from hd);have HOd:=Lh_ hod;have HSd:=Lh_ ((show Sl w2 B A3 c3 d.attrs from hsd).more (Nat.le_trans HB.out HBw2.out.size));clear hd hod hsd;go_upto_region 2 with fail
 obtain ⟨w3,hw3,hbw3,HGw3,HXaw3⟩:=bx_ w2 [.int .i64 d.idx,.int .i64 d.par,.string d.nm,.string d.orig,.string d.sub,.string d.drv,.string d.ali,.int .i64 d.kind,.int .i64 d.num,.slice A3 d.attrs.length c3] 32;try simp only [hw3]
 have HBw3:=tb_ HBw2 hbw3;have tw3:=kb_ tw2 hbw3;have HSdw3:=Lh_ ((HSd.out).next (Nat.le_refl _) hbw3);clear hw3 hbw3;try rw [← HGw3.out]
 clear ct0;have ct0:=tw3.out.1 0 _ rfl;obtain ⟨ca0,ca1,ca2,ca3,ca4,ca5,ca6,ca7,ca8,ca9⟩:=s10_ HXaw3.out.1;cases q
 ·
  have HE:=Lh_ (base_none HQ.out);go_wp2;go_ret;exact ⟨HBw3.out,none,0,by rw [HE.out];rfl,by rw [HE.out];exact Sl.nil_⟩
 ·
  have HSZ:=Lh_ (strF_small HV.out n);obtain ⟨l0,hl0⟩:∃ z:List Attr,[]=z:=⟨_,rfl⟩;have HL0:=Lh_ hl0.symm;clear hl0;go_wp2_with fail;refine (RPlace_any A c L n _ B (Nat.le_trans HB.out HBw3.out.size) (HX.out.keep (HBw3.out.mono HB.out)) HV.out hn).mono ?_;rintro e w4 ⟨rfl,hbw4⟩;clear ct0 ca0 ca1 ca2 ca3 ca4 ca5 ca6 ca7 ca8 ca9;have HBw4:=tb_ HBw3 hbw4;have tw4:=kb_ tw3 hbw4;have aw4:=kb_ HXaw3 hbw4;have HSdw4:=Lh_ ((HSdw3.out).next (Nat.le_refl _) hbw4);clear hbw4;have ct0:=tw4.out.1 0 _ rfl;obtain ⟨ca0,ca1,ca2,ca3,ca4,ca5,ca6,ca7,ca8,ca9⟩:=s10_ aw4.out.1;go_wp2_with fail;refine (Set_any none 0 [] kDevpath (strF L n) _ w4.heap.size (Nat.le_refl _) Sl.nil_ (by decide) (by decide) HSZ.out).mono ?_;rintro e w5 ⟨hbw5,v1_,rfl,hown⟩;clear ct0 ca0 ca1 ca2 ca3 ca4 ca5 ca6 ca7 ca8 ca9;have HBw5:=tb_ HBw4 hbw5;have tw5:=kb_ tw4 hbw5;have aw5:=kb_ aw4 hbw5;have HSdw5:=Lh_ ((HSdw4.out).next (Nat.le_refl _) hbw5);clear hbw5;have ct0:=tw5.out.1 0 _ rfl;obtain ⟨ca0,ca1,ca2,ca3,ca4,ca5,ca6,ca7,ca8,ca9⟩:=s10_ aw5.out.1;obtain ⟨A1_,c1_,rfl,hs_⟩:=hown.sl;obtain ⟨l1,hl_⟩:∃ z,setA [] kDevpath (strF L n)=z:=⟨_,rfl⟩;rw [hl_] at hs_ ⊢;have HS1:=Lh_ hs_;have HL1:=Lh_ hl_;clear hs_ hl_ hown;have HN1:=Lh_ (show l1.length≤1 from by rw [← HL1.out];exact set_len (by simp));go_wp2_with fail;refine (Set_any A1_ c1_ l1 kSubsystem d.sub _ w5.heap.size (Nat.le_refl _) HS1.out (by have:=HN1.out;omega) (by decide) HOd.out.2.2.2.2.1).mono ?_;rintro e w6 ⟨hbw6,v2_,rfl,hown⟩;clear ct0 ca0 ca1 ca2 ca3 ca4 ca5 ca6 ca7 ca8 ca9;have HBw6:=tb_ HBw5 hbw6;have tw6:=kb_ tw5 hbw6;have aw6:=kb_ aw5 hbw6;have HSdw6:=Lh_ ((HSdw5.out).next (Nat.le_refl _) hbw6);have HS1w6:=Lh_ ((HS1.out).next (Nat.le_refl _) hbw6);clear hbw6;have ct0:=tw6.out.1 0 _ rfl;obtain ⟨ca0,ca1,ca2,ca3,ca4,ca5,ca6⟩:=s7_ aw6.out.1;have ca7:=aw6.out.1 7 _ rfl
  have ca8:=aw6.out.1 8 _ rfl;have ca9:=aw6.out.1 9 _ rfl;obtain ⟨A2_,c2_,rfl,hs_⟩:=hown.sl;obtain ⟨l2,hl_⟩:∃ z,setA l1 kSubsystem d.sub=z:=⟨_,rfl⟩;rw [hl_] at hs_ ⊢;have HS2:=Lh_ hs_;have HL2:=Lh_ hl_;clear hs_ hl_ hown;have HN2:=Lh_ (show l2.length≤2 from by rw [← HL2.out];exact set_len HN1.out);go_wp2_with fail;refine (Set_any A2_ c2_ l2 kDriver d.drv _ w6.heap.size (Nat.le_refl _) HS2.out (by have:=HN2.out;omega) (by decide) HOd.out.2.2.2.2.2.1).mono ?_;rintro e w7 ⟨hbw7,v3_,rfl,hown⟩;clear ct0 ca0 ca1 ca2 ca3 ca4 ca5 ca6 ca7 ca8 ca9;have HBw7:=tb_ HBw6 hbw7;have tw7:=kb_ tw6 hbw7;have aw7:=kb_ aw6 hbw7;have HSdw7:=Lh_ ((HSdw6.out).next (Nat.le_refl _) hbw7);have HS1w7:=Lh_ ((HS1w6.out).next (Nat.le_refl _) hbw7);have HS2w7:=Lh_ ((HS2.out).next (Nat.le_refl _) hbw7);clear hbw7;have ct0:=tw7.out.1 0 _ rfl;obtain ⟨ca0,ca1,ca2,ca3,ca4,ca5,ca6,ca7,ca8,ca9⟩:=s10_ aw7.out.1;obtain ⟨A3_,c3_,rfl,hs_⟩:=hown.sl;obtain ⟨l3,hl_⟩:∃ z,setA l2 kDriver d.drv=z:=⟨_,rfl⟩;rw [hl_] at hs_ ⊢;have HS3:=Lh_ hs_;have HL3:=Lh_ hl_;clear hs_ hl_ hown;have HN3:=Lh_ (show l3.length≤3 from by rw [← HL3.out];exact set_len HN2.out);go_wp2_with fail;refine (Set_any A3_ c3_ l3 kModalias d.ali _ w7.heap.size (Nat.le_refl _) HS3.out (by have:=HN3.out;omega) (by decide) HOd.out.2.2.2.2.2.2.1).mono ?_;rintro e w8 ⟨hbw8,v4_,rfl,hown⟩;clear ct0 ca0 ca1 ca2 ca3 ca4 ca5 ca6 ca7 ca8 ca9;have HBw8:=tb_ HBw7 hbw8;have tw8:=kb_ tw7 hbw8;have aw8:=kb_ aw7 hbw8;have HSdw8:=Lh_ ((HSdw7.out).next (Nat.le_refl _) hbw8);have HS1w8:=Lh_ ((HS1w7.out).next (Nat.le_refl _) hbw8);have HS2w8:=Lh_ ((HS2w7.out).next (Nat.le_refl _) hbw8);have HS3w8:=Lh_ ((HS3.out).next (Nat.le_refl _) hbw8);clear hbw8;have ct0:=tw8.out.1 0 _ rfl;obtain ⟨ca0,ca1,ca2,ca3,ca4,ca5,ca6,ca7,ca8,ca9⟩:=s10_ aw8.out.1;obtain ⟨A4_,c4_,rfl,hs_⟩:=hown.sl;obtain ⟨l4,hl_⟩:∃ z,setA l3 kModalias d.ali=z:=⟨_,rfl⟩;rw [hl_] at hs_ ⊢;have HS4:=Lh_ hs_;have HL4:=Lh_ hl_;clear hs_ hl_ hown;have HN4:=Lh_ (show l4.length≤4 from by rw [← HL4.out];exact set_len HN3.out)
  have HSO:=Lh_ (show d.orig.size≤32 by have:=findD_small HV.out n;rw [← Hd.out] at this;exact this);obtain ⟨nd,hnd⟩:∃ z,(nodeD d).isSome=z:=⟨_,rfl⟩;have HND:=Lh_ hnd;clear hnd;go_wp2_with fail;refine (RNode_any d A3 c3 _ (by have:=HSO.out;omega) (HKO.out.next HBw8.out)).mono ?_;rintro e w9 ⟨rfl,hbw9⟩;clear ct0 ca0 ca1 ca2 ca3 ca4 ca5 ca6 ca7 ca8 ca9;have HBw9:=tb_ HBw8 hbw9;have tw9:=kb_ tw8 hbw9;have aw9:=kb_ aw8 hbw9;have HSdw9:=Lh_ ((HSdw8.out).next (Nat.le_refl _) hbw9);have HS1w9:=Lh_ ((HS1w8.out).next (Nat.le_refl _) hbw9);have HS2w9:=Lh_ ((HS2w8.out).next (Nat.le_refl _) hbw9);have HS3w9:=Lh_ ((HS3w8.out).next (Nat.le_refl _) hbw9);have HS4w9:=Lh_ ((HS4.out).next (Nat.le_refl _) hbw9);clear hbw9;have ct0:=tw9.out.1 0 _ rfl;obtain ⟨ca0,ca1,ca2,ca3,ca4,ca5,ca6,ca7,ca8,ca9⟩:=s10_ aw9.out.1;rw [HND.out];cases nd
  ·
   by_cases hk:d.kind=4
   ·
    have HK:=Lh_ hk;have hkb:(d.kind == 4)=true:=by rw [hk];rfl
    go_wp2_with fail;refine (Set_any A4_ c4_ l4 kInterface d.orig _ w9.heap.size (Nat.le_refl _) HS4w9.out (by have:=HN4.out;omega) (by decide) HOd.out.2.2.2.1).mono ?_;rintro e w10 ⟨hbw10,v5_,rfl,hown⟩;clear ct0 ca0 ca1 ca2 ca3 ca4 ca5 ca6 ca7 ca8 ca9;have HBw10:=tb_ HBw9 hbw10;have tw10:=kb_ tw9 hbw10;have aw10:=kb_ aw9 hbw10;have HSdw10:=Lh_ ((HSdw9.out).next (Nat.le_refl _) hbw10);have HS1w10:=Lh_ ((HS1w9.out).next (Nat.le_refl _) hbw10);have HS2w10:=Lh_ ((HS2w9.out).next (Nat.le_refl _) hbw10);have HS3w10:=Lh_ ((HS3w9.out).next (Nat.le_refl _) hbw10);have HS4w10:=Lh_ ((HS4w9.out).next (Nat.le_refl _) hbw10);clear hbw10;have ct0:=tw10.out.1 0 _ rfl;obtain ⟨ca0,ca1,ca2,ca3,ca4,ca5,ca6,ca7,ca8,ca9⟩:=s10_ aw10.out.1;obtain ⟨A5_,c5_,rfl,hs_⟩:=hown.sl;obtain ⟨l5,hl_⟩:∃ z,setA l4 kInterface d.orig=z:=⟨_,rfl⟩;rw [hl_] at hs_ ⊢;have HS5:=Lh_ hs_;have HL5:=Lh_ hl_;clear hs_ hl_ hown;have HN5:=Lh_ (show l5.length≤5 from by rw [← HL5.out];exact set_len HN4.out);have HE:=Lh_ (show baseL L n=l5 from by rw [base_some HQ.out Hd.out];unfold baseP;rw [if_neg (by rw [HND.out];decide),if_pos HK.out];simp only [List.append_nil,List.cons_append,List.nil_append,putAll,List.foldl_cons,List.foldl_nil];rw [HL1.out,HL2.out,HL3.out,HL4.out,HL5.out]);go_wp2;go_ret;exact ⟨HBw10.out,A5_,c5_,by rw [HE.out];rfl,by rw [HE.out];exact HS5.out⟩
   ·
    have HK:=Lh_ hk;have hkb:(d.kind == 4)=false:=by simpa using hk
    have HE:=Lh_ (show baseL L n=l4 from by rw [base_some HQ.out Hd.out];unfold baseP;rw [if_neg (by rw [HND.out];decide),if_neg HK.out];simp only [List.append_nil,List.cons_append,List.nil_append,putAll,List.foldl_cons,List.foldl_nil];rw [HL1.out,HL2.out,HL3.out,HL4.out]);go_wp2;go_ret;exact ⟨HBw9.out,A4_,c4_,by rw [HE.out];rfl,by rw [HE.out];exact HS4w9.out⟩
  ·
   go_wp2_with fail;refine (Set_any A4_ c4_ l4 kDevname (nodeV d) _ w9.heap.size (Nat.le_refl _) HS4w9.out (by have:=HN4.out;omega) (by decide) (by have:=node_small HSO.out;unfold maxLen;omega)).mono ?_;rintro e w11 ⟨hbw11,v5_,rfl,hown⟩;clear ct0 ca0 ca1 ca2 ca3 ca4 ca5 ca6 ca7 ca8 ca9;have HBw11:=tb_ HBw9 hbw11;have tw11:=kb_ tw9 hbw11;have aw11:=kb_ aw9 hbw11;have HSdw11:=Lh_ ((HSdw9.out).next (Nat.le_refl _) hbw11);have HS1w11:=Lh_ ((HS1w9.out).next (Nat.le_refl _) hbw11);have HS2w11:=Lh_ ((HS2w9.out).next (Nat.le_refl _) hbw11);have HS3w11:=Lh_ ((HS3w9.out).next (Nat.le_refl _) hbw11);have HS4w11:=Lh_ ((HS4w9.out).next (Nat.le_refl _) hbw11);clear hbw11;have ct0:=tw11.out.1 0 _ rfl;obtain ⟨ca0,ca1,ca2,ca3,ca4,ca5,ca6,ca7,ca8,ca9⟩:=s10_ aw11.out.1;obtain ⟨A5_,c5_,rfl,hs_⟩:=hown.sl;obtain ⟨l5,hl_⟩:∃ z,setA l4 kDevname (nodeV d)=z:=⟨_,rfl⟩;rw [hl_] at hs_ ⊢;have HS5:=Lh_ hs_;have HL5:=Lh_ hl_;clear hs_ hl_ hown;have HN5:=Lh_ (show l5.length≤5 from by rw [← HL5.out];exact set_len HN4.out);go_wp2_with fail;refine (Itoa_any d.num _ (HOK.out.below HBw11.out) HOd.out.2.2.2.2.2.2.2.2).mono ?_;rintro e w12 ⟨rfl,hbw12⟩;clear ct0 ca0 ca1 ca2 ca3 ca4 ca5 ca6 ca7 ca8 ca9;have HBw12:=tb_ HBw11 hbw12;have tw12:=kb_ tw11 hbw12;have aw12:=kb_ aw11 hbw12;have HSdw12:=Lh_ ((HSdw11.out).next (Nat.le_refl _) hbw12);have HS1w12:=Lh_ ((HS1w11.out).next (Nat.le_refl _) hbw12);have HS2w12:=Lh_ ((HS2w11.out).next (Nat.le_refl _) hbw12);have HS3w12:=Lh_ ((HS3w11.out).next (Nat.le_refl _) hbw12);have HS4w12:=Lh_ ((HS4w11.out).next (Nat.le_refl _) hbw12);have HS5w12:=Lh_ ((HS5.out).next (Nat.le_refl _) hbw12);clear hbw12;have ct0:=tw12.out.1 0 _ rfl;obtain ⟨ca0,ca1,ca2,ca3,ca4,ca5,ca6,ca7,ca8,ca9⟩:=s10_ aw12.out.1;go_wp2_with fail;refine (Set_any A5_ c5_ l5 kNumber (itoaT d.num) _ w12.heap.size (Nat.le_refl _) HS5w12.out (by have:=HN5.out;omega) (by decide) (itoaT_small HOd.out.2.2.2.2.2.2.2.2)).mono ?_;rintro e w13 ⟨hbw13,v6_,rfl,hown⟩;clear ct0 ca0 ca1 ca2 ca3 ca4 ca5 ca6 ca7 ca8 ca9;have HBw13:=tb_ HBw12 hbw13
   have tw13:=kb_ tw12 hbw13;have aw13:=kb_ aw12 hbw13;have HSdw13:=Lh_ ((HSdw12.out).next (Nat.le_refl _) hbw13);have HS1w13:=Lh_ ((HS1w12.out).next (Nat.le_refl _) hbw13);have HS2w13:=Lh_ ((HS2w12.out).next (Nat.le_refl _) hbw13);have HS3w13:=Lh_ ((HS3w12.out).next (Nat.le_refl _) hbw13);have HS4w13:=Lh_ ((HS4w12.out).next (Nat.le_refl _) hbw13);have HS5w13:=Lh_ ((HS5w12.out).next (Nat.le_refl _) hbw13);clear hbw13;have ct0:=tw13.out.1 0 _ rfl;obtain ⟨ca0,ca1,ca2,ca3,ca4,ca5,ca6,ca7,ca8,ca9⟩:=s10_ aw13.out.1;obtain ⟨A6_,c6_,rfl,hs_⟩:=hown.sl;obtain ⟨l6,hl_⟩:∃ z,setA l5 kNumber (itoaT d.num)=z:=⟨_,rfl⟩;rw [hl_] at hs_ ⊢;have HS6:=Lh_ hs_;have HL6:=Lh_ hl_;clear hs_ hl_ hown;have HN6:=Lh_ (show l6.length≤6 from by rw [← HL6.out];exact set_len HN5.out);by_cases hk:d.kind=4
   ·
    have HK:=Lh_ hk;have hkb:(d.kind == 4)=true:=by rw [hk];rfl
    go_wp2_with fail;refine (Set_any A6_ c6_ l6 kInterface d.orig _ w13.heap.size (Nat.le_refl _) HS6.out (by have:=HN6.out;omega) (by decide) HOd.out.2.2.2.1).mono ?_;rintro e w14 ⟨hbw14,v7_,rfl,hown⟩;clear ct0 ca0 ca1 ca2 ca3 ca4 ca5 ca6 ca7 ca8 ca9;have HBw14:=tb_ HBw13 hbw14;have tw14:=kb_ tw13 hbw14;have aw14:=kb_ aw13 hbw14;have HSdw14:=Lh_ ((HSdw13.out).next (Nat.le_refl _) hbw14);have HS1w14:=Lh_ ((HS1w13.out).next (Nat.le_refl _) hbw14);have HS2w14:=Lh_ ((HS2w13.out).next (Nat.le_refl _) hbw14);have HS3w14:=Lh_ ((HS3w13.out).next (Nat.le_refl _) hbw14);have HS4w14:=Lh_ ((HS4w13.out).next (Nat.le_refl _) hbw14);have HS5w14:=Lh_ ((HS5w13.out).next (Nat.le_refl _) hbw14);have HS6w14:=Lh_ ((HS6.out).next (Nat.le_refl _) hbw14);clear hbw14;have ct0:=tw14.out.1 0 _ rfl;obtain ⟨ca0,ca1,ca2,ca3,ca4,ca5,ca6,ca7,ca8,ca9⟩:=s10_ aw14.out.1;obtain ⟨A7_,c7_,rfl,hs_⟩:=hown.sl;obtain ⟨l7,hl_⟩:∃ z,setA l6 kInterface d.orig=z:=⟨_,rfl⟩;rw [hl_] at hs_ ⊢;have HS7:=Lh_ hs_;have HL7:=Lh_ hl_;clear hs_ hl_ hown;have HN7:=Lh_ (show l7.length≤7 from by rw [← HL7.out];exact set_len HN6.out);have HE:=Lh_ (show baseL L n=l7 from by rw [base_some HQ.out Hd.out];unfold baseP;rw [if_pos HND.out,if_pos HK.out];simp only [List.append_nil,List.cons_append,List.nil_append,putAll,List.foldl_cons,List.foldl_nil];rw [HL1.out,HL2.out,HL3.out,HL4.out,HL5.out,HL6.out,HL7.out]);go_wp2;go_ret;exact ⟨HBw14.out,A7_,c7_,by rw [HE.out];rfl,by rw [HE.out];exact HS7.out⟩
   ·
    have HK:=Lh_ hk;have hkb:(d.kind == 4)=false:=by simpa using hk
    have HE:=Lh_ (show baseL L n=l6 from by rw [base_some HQ.out Hd.out];unfold baseP;rw [if_pos HND.out,if_neg HK.out];simp only [List.append_nil,List.cons_append,List.nil_append,putAll,List.foldl_cons,List.foldl_nil];rw [HL1.out,HL2.out,HL3.out,HL4.out,HL5.out,HL6.out]);go_wp2;go_ret;exact ⟨HBw13.out,A6_,c6_,by rw [HE.out];rfl,by rw [HE.out];exact HS6.out⟩
end Go.Proofs.YtjgllhlilbchpaaGreatDoor
namespace Go.Cold
open Go Go.RowKit Go.Proofs.YtjgllhlilbchpaaGreatDoor
theorem put_next {ps:List (ByteArray × ByteArray)} {l:List Attr} {k v:ByteArray} (h:putAll ps=l) (hk:k ∉ ps.map (·.1)):putAll (ps ++ [(k,v)])=putA l k v:=by rw [← h];exact (putA_set hk).symm
theorem put_srt {ps:List (ByteArray × ByteArray)} {l:List Attr} (h:putAll ps=l):sortedA l=true:=by rw [← h];exact putAll_sorted _
theorem put_len {ps:List (ByteArray × ByteArray)} {l:List Attr} (h:putAll ps=l) (hn:ps.length≤1000):l.length≤1000:=by rw [← h];exact Nat.le_trans (putAll_len ps) hn
theorem cell_nx {w w':World} {b i:Nat} {v:Value} (h:w.cell? ⟨b,i,none⟩=some v) (hb:Below w.heap.size w w'):w'.cell? ⟨b,i,none⟩=some v:=(hb.cell (p:=⟨b,i,none⟩) (block_lt_of_cell h)).trans h
theorem putAll_nil:putAll []=[]:=rfl
end Go.Cold
namespace Go.Proofs.YtjgllhlilbchpaaGreatDoor
open Go.RowKit Go.Cold
theorem part_any (d:Dev) (A:Option Addr) (c:Nat) (w:World) (hs:d.sub.size≤1000) (ho:d.orig.size≤1000):Calls Tryz.prog 40 #[.agg #[.int .i64 d.idx,.int .i64 d.par,.string d.nm,.string d.orig,.string d.sub,.string d.drv,.string d.ali,.int .i64 d.kind,.int .i64 d.num,.slice A d.attrs.length c]] w fun e w'=>e=.returned (.string (partT d))∧Below w.heap.size w w':=by
 have f1:¬ 9223372036854775807<d.sub.size+1:=by omega
 have f2:¬ 9223372036854775807<d.sub.size+1+d.orig.size:=by omega
 clear hs ho;go_enter Tryz.func40,Tryz.ntmps40;go_upto_region 1 with fail
 obtain ⟨w1,hw1,hbw1,HGw1,HXpw1⟩:=bx_ w [.int .i64 d.idx,.int .i64 d.par,.string d.nm,.string d.orig,.string d.sub,.string d.drv,.string d.ali,.int .i64 d.kind,.int .i64 d.num,.slice A d.attrs.length c] 32;try simp only [hw1]
 have HBw1:=Lh_ hbw1;clear hw1 hbw1;try rw [← HGw1.out]
 obtain ⟨cp0,cp1,cp2,cp3,cp4,cp5,cp6,cp7,cp8,cp9⟩:=s10_ HXpw1.out.1;go_wp2;go_ret;exact ⟨by try rfl,HBw1.out⟩
set_option maxRecDepth 100000 in
set_option maxHeartbeats 4000000 in
theorem Base_any (A:Option Addr) (c:Nat) (L:List Dev) (n:Int) (w:World) (B:Nat) (hB:B≤w.heap.size) (hx:Sl w B A c L) (hv:VT L) (hok:Ok7 w) (hko:Ok w) (hn:okI n) :
  Calls Tryz.prog 14 #[.agg #[.slice A L.length c],.int .i64 n] w (SlPost (baseL L n) w):=by
 have hx1:=hx.1;have hx2:=hx.2.1;unfold maxLen at hx2;have HX:=Lh_ hx;have HB:=Lh_ hB;have HV:=Lh_ hv;have HOK:=Lh_ hok;clear hx hB hv hok;have HKO:=Lh_ hko;have HN:=Lh_ hn;clear hko hn;have HLA:=Lh_ (show ∀ d ∈ L,d.attrs.length≤1000000 from fun d hd=>attrs_le (HV.out.chk d hd));go_enter Tryz.func14,Tryz.ntmps14;go_upto_region 1 with fail
 obtain ⟨w1,hw1,hbw1,HGw1,HXtw1⟩:=bx_ w [.slice A L.length c] 28;try simp only [hw1]
 have HBw1:=Lh_ hbw1;clear hw1 hbw1;try rw [← HGw1.out]
 have ct0:=HXtw1.out.1 0 _ rfl;obtain ⟨q,hq⟩:∃ z,(findD L n).isSome=z:=⟨_,rfl⟩;have HQ:=Lh_ hq;clear hq;go_wp2_with fail;refine (TFind_any A c L n _ B (Nat.le_trans HB.out HBw1.out.size) (HX.out.keep (HBw1.out.mono HB.out)) HLA.out).mono ?_;rintro e w2 ⟨hbw2,d,A3,c3,hd,rfl,hod,hsd⟩;clear ct0;have HBw2:=tb_ HBw1 hbw2;have tw2:=kb_ HXtw1 hbw2;clear hbw2;have ct0:=tw2.out.1 0 _ rfl;rw [show (L.find? (byIdx n)).isSome=q from HQ.out];have Hd:=Lh_ (show d=(findD L n).getD zeroD from hd);have HOd:=Lh_ hod;clear hd hod hsd;go_upto_region 2 with fail
 obtain ⟨w3,hw3,hbw3,HGw3,HXaw3⟩:=bx_ w2 [.int .i64 d.idx,.int .i64 d.par,.string d.nm,.string d.orig,.string d.sub,.string d.drv,.string d.ali,.int .i64 d.kind,.int .i64 d.num,.slice A3 d.attrs.length c3] 32;try simp only [hw3]
 have HBw3:=tb_ HBw2 hbw3;have tw3:=kb_ tw2 hbw3;clear hw3 hbw3;try rw [← HGw3.out]
 clear ct0;have ct0:=tw3.out.1 0 _ rfl;obtain ⟨ca0,ca1,ca2,ca3,ca4,ca5,ca6,ca7,ca8,ca9⟩:=s10_ HXaw3.out.1;cases q
 ·
  have HE:=Lh_ (base_none HQ.out);go_wp2;go_ret;exact ⟨HBw3.out,none,0,by rw [HE.out];rfl,by rw [HE.out];exact Sl.nil_⟩
 ·
  obtain ⟨so,hso⟩:∃ z,strF L n=z:=⟨_,rfl⟩;obtain ⟨bc,hbc⟩:∃ z,(idxs L).contains n=z:=⟨_,rfl⟩;have HSO:=Lh_ hso;have HSZ:=Lh_ (show so.size≤maxLen from hso ▸ strF_small HV.out n);have HBC:=Lh_ hbc;clear hso hbc;have HBE:=Lh_ (show baseL L n=putAll (baseP so d) by rw [← HSO.out];exact base_some HQ.out Hd.out);have HSR:=Lh_ (show d.orig.size≤32 by have:=findD_small HV.out n;rw [← Hd.out] at this;exact this);obtain ⟨nd,hnd⟩:∃ z,(nodeD d).isSome=z:=⟨_,rfl⟩;have HND:=Lh_ hnd;clear hnd;go_wp2_with fail;refine (Origin_any A c L n _ B (Nat.le_trans HB.out HBw3.out.size) (HX.out.keep (HBw3.out.mono HB.out)) (fun d hd=>(HV.out.small d hd).1) HV.out.size HN.out).mono ?_;rintro e w4 ⟨rfl,hbw4⟩;clear ct0 ca0 ca1 ca2 ca3 ca4 ca5 ca6 ca7 ca8 ca9;have HBw4:=tb_ HBw3 hbw4;have tw4:=kb_ tw3 hbw4;have aw4:=kb_ HXaw3 hbw4;clear hbw4;rw [HSO.out,HBC.out];clear HBC;go_upto_region 5 with fail
  refine wp_region_held_drew (S:=fun w'=>BoxL w' (w2.heap.size) [.int .i64 d.idx,.int .i64 d.par,.string d.nm,.string d.orig,.string d.sub,.string d.drv,.string d.ali,.int .i64 d.kind,.int .i64 d.num,.slice A3 d.attrs.length c3]) (by kernel_rfl) aw4.out.drew (fun hS0=>?_);obtain ⟨wd,hwd⟩:∃ z,World.drew w4=z:=⟨_,rfl⟩;rw [hwd] at hS0 ⊢;have hb_:Below w4.heap.size w4 wd:=by rw [← hwd];exact below_drewN_self _ _ 1
  clear hwd hS0;have HBwd:=tb_ HBw4 hb_;have twd:=kb_ tw4 hb_;have awd:=kb_ aw4 hb_;clear hb_;refine tk1 0 26 (.string so) rfl (fun w' hS=>by go_simp) awd.out ?_;try simp only [Act.put,sA_,sB_,sC_]
  refine tk1 2 28 (.pointer (some ⟨w2.heap.size,4,none⟩)) rfl (fun w' hS=>by go_simp) awd.out ?_;try simp only [Act.put,sA_,sB_,sC_]
  refine tk1 3 29 (.string d.sub) rfl (fun w' hS=>by (have u0_:=hS.1 4 _ rfl;go_simp)) awd.out ?_;try simp only [Act.put,sA_,sB_,sC_]
  refine tk1 5 31 (.pointer (some ⟨w2.heap.size,5,none⟩)) rfl (fun w' hS=>by go_simp) awd.out ?_;try simp only [Act.put,sA_,sB_,sC_]
  refine tk1 6 32 (.string d.drv) rfl (fun w' hS=>by (have u0_:=hS.1 5 _ rfl;go_simp)) awd.out ?_;try simp only [Act.put,sA_,sB_,sC_]
  refine tk1 8 34 (.pointer (some ⟨w2.heap.size,6,none⟩)) rfl (fun w' hS=>by go_simp) awd.out ?_;try simp only [Act.put,sA_,sB_,sC_]
  refine tk1 9 35 (.string d.ali) rfl (fun w' hS=>by (have u0_:=hS.1 6 _ rfl;go_simp)) awd.out ?_;try simp only [Act.put,sA_,sB_,sC_]
  refine rd1 1 (o:=⟨some 27,.call ⟨_,_,_⟩,_,_,_,_⟩) rfl (fun K hK=>?_);go_simp;go_at_call 46;refine (Put_any none 0 [] kDevpath so _ wd.heap.size (Nat.le_refl _) Sl.nil_ (put_srt putAll_nil) (put_len putAll_nil (by simp)) (by decide) HSZ.out).mono ?_;rintro e' q1 ⟨hb_,A1_,c1_,rfl,hs_⟩;have HBq1:=tb_ HBwd hb_;have tq1:=kb_ twd hb_;have aq1:=kb_ awd hb_;obtain ⟨l1,hl_⟩:∃ z,putA [] kDevpath so=z:=⟨_,rfl⟩;rw [hl_] at hs_ ⊢;have HL1:=Lh_ (show putAll [(kDevpath,so)]=l1 from (put_next (ps:=[]) putAll_nil (by simp)).trans hl_);have HS1:=Lh_ hs_;clear hs_ hl_;clear hb_;refine hK.out _ _ aq1.out (fun _=>?_);clear hK K;try simp only [Act.put,sA_,sB_,sC_]
  refine rd1 4 (o:=⟨some 30,.call ⟨_,_,_⟩,_,_,_,_⟩) rfl (fun K hK=>?_);go_simp;go_at_call 46;refine (Put_any A1_ c1_ l1 kSubsystem d.sub _ q1.heap.size (Nat.le_refl _) HS1.out (put_srt HL1.out) (put_len HL1.out (by simp)) (by decide) HOd.out.2.2.2.2.1).mono ?_;rintro e' q2 ⟨hb_,A2_,c2_,rfl,hs_⟩;have HBq2:=tb_ HBq1 hb_;have tq2:=kb_ tq1 hb_;have aq2:=kb_ aq1 hb_;have HS1q2:=Lh_ ((HS1.out).next (Nat.le_refl _) hb_);obtain ⟨l2,hl_⟩:∃ z,putA l1 kSubsystem d.sub=z:=⟨_,rfl⟩;rw [hl_] at hs_ ⊢;have HL2:=Lh_ (show putAll [(kDevpath,so),(kSubsystem,d.sub)]=l2 from (put_next (ps:=[(kDevpath,so)]) HL1.out (by simp;decide +kernel)).trans hl_);have HS2:=Lh_ hs_;clear hs_ hl_;clear hb_;refine hK.out _ _ aq2.out (fun _=>?_);clear hK K;try simp only [Act.put,sA_,sB_,sC_]
  refine rd1 7 (o:=⟨some 33,.call ⟨_,_,_⟩,_,_,_,_⟩) rfl (fun K hK=>?_);go_simp;go_at_call 46;refine (Put_any A2_ c2_ l2 kDriver d.drv _ q2.heap.size (Nat.le_refl _) HS2.out (put_srt HL2.out) (put_len HL2.out (by simp)) (by decide) HOd.out.2.2.2.2.2.1).mono ?_;rintro e' q3 ⟨hb_,A3_,c3_,rfl,hs_⟩;have HBq3:=tb_ HBq2 hb_;have tq3:=kb_ tq2 hb_;have aq3:=kb_ aq2 hb_;have HS1q3:=Lh_ ((HS1q2.out).next (Nat.le_refl _) hb_);have HS2q3:=Lh_ ((HS2.out).next (Nat.le_refl _) hb_);obtain ⟨l3,hl_⟩:∃ z,putA l2 kDriver d.drv=z:=⟨_,rfl⟩;rw [hl_] at hs_ ⊢;have HL3:=Lh_ (show putAll [(kDevpath,so),(kSubsystem,d.sub),(kDriver,d.drv)]=l3 from (put_next (ps:=[(kDevpath,so),(kSubsystem,d.sub)]) HL2.out (by simp;decide +kernel)).trans hl_);have HS3:=Lh_ hs_;clear hs_ hl_;clear hb_;refine hK.out _ _ aq3.out (fun _=>?_);clear hK K;try simp only [Act.put,sA_,sB_,sC_]
  refine rd1 10 (o:=⟨some 36,.call ⟨_,_,_⟩,_,_,_,_⟩) rfl (fun K hK=>?_);go_simp;go_at_call 46;refine (Put_any A3_ c3_ l3 kModalias d.ali _ q3.heap.size (Nat.le_refl _) HS3.out (put_srt HL3.out) (put_len HL3.out (by simp)) (by decide) HOd.out.2.2.2.2.2.2.1).mono ?_;rintro e' q4 ⟨hb_,A4_,c4_,rfl,hs_⟩;have HBq4:=tb_ HBq3 hb_;have tq4:=kb_ tq3 hb_;have aq4:=kb_ aq3 hb_;have HS1q4:=Lh_ ((HS1q3.out).next (Nat.le_refl _) hb_);have HS2q4:=Lh_ ((HS2q3.out).next (Nat.le_refl _) hb_);have HS3q4:=Lh_ ((HS3.out).next (Nat.le_refl _) hb_);obtain ⟨l4,hl_⟩:∃ z,putA l3 kModalias d.ali=z:=⟨_,rfl⟩;rw [hl_] at hs_ ⊢;have HL4:=Lh_ (show putAll [(kDevpath,so),(kSubsystem,d.sub),(kDriver,d.drv),(kModalias,d.ali)]=l4 from (put_next (ps:=[(kDevpath,so),(kSubsystem,d.sub),(kDriver,d.drv)]) HL3.out (by simp;decide +kernel)).trans hl_);have HS4:=Lh_ hs_;clear hs_ hl_;clear hb_;refine hK.out _ _ aq4.out (fun _=>?_);clear hK K;try simp only [Act.put,sA_,sB_,sC_]
  refine tk1 11 9 (.slice A4_ l4.length c4_) rfl (fun w' hS=>by go_simp) aq4.out ?_;try simp only [Act.put,sA_,sB_,sC_]
  refine wpAnyH_done (by kernel_rfl) ?_ _;have ct0:=tq4.out.1 0 _ rfl;obtain ⟨ca0,ca1,ca2,ca3,ca4,ca5,ca6,ca7,ca8,ca9⟩:=s10_ aq4.out.1;go_wp2_with fail;refine (Node_any d A3 c3 _ (by have:=HSR.out;omega) (HKO.out.next HBq4.out)).mono ?_;rintro e w5 ⟨rfl,hbw5⟩;clear ct0 ca0 ca1 ca2 ca3 ca4 ca5 ca6 ca7 ca8 ca9;have HBw5:=tb_ HBq4 hbw5;have tw5:=kb_ tq4 hbw5;have aw5:=kb_ aq4 hbw5;have HS1w5:=Lh_ ((HS1q4.out).next (Nat.le_refl _) hbw5);have HS2w5:=Lh_ ((HS2q4.out).next (Nat.le_refl _) hbw5);have HS3w5:=Lh_ ((HS3q4.out).next (Nat.le_refl _) hbw5);have HS4w5:=Lh_ ((HS4.out).next (Nat.le_refl _) hbw5);clear hbw5;have ct0:=tw5.out.1 0 _ rfl;obtain ⟨ca0,ca1,ca2,ca3,ca4,ca5,ca6,ca7,ca8,ca9⟩:=s10_ aw5.out.1;rw [HND.out];cases nd
  ·
   clear ct0 ca0 ca1 ca2 ca3 ca4 ca5 ca6 ca7 ca8 ca9;have ct0:=tw5.out.1 0 _ rfl;obtain ⟨ca0,ca1,ca2,ca3,ca4,ca5,ca6,ca7,ca8,ca9⟩:=s10_ aw5.out.1;by_cases hk:d.kind=4
   ·
    have HK:=Lh_ hk;have hkb:(d.kind == 4)=true:=by rw [hk];rfl
    go_wp2_with fail;refine (Put_any A4_ c4_ l4 kInterface d.orig _ w5.heap.size (Nat.le_refl _) HS4w5.out (put_srt HL4.out) (put_len HL4.out (by simp)) (by decide) HOd.out.2.2.2.1).mono ?_;rintro e w6 ⟨hbw6,A5_,c5_,rfl,hs_⟩;clear ct0 ca0 ca1 ca2 ca3 ca4 ca5 ca6 ca7 ca8 ca9;have HBw6:=tb_ HBw5 hbw6;have tw6:=kb_ tw5 hbw6;have aw6:=kb_ aw5 hbw6;have HS1w6:=Lh_ ((HS1w5.out).next (Nat.le_refl _) hbw6);have HS2w6:=Lh_ ((HS2w5.out).next (Nat.le_refl _) hbw6);have HS3w6:=Lh_ ((HS3w5.out).next (Nat.le_refl _) hbw6);have HS4w6:=Lh_ ((HS4w5.out).next (Nat.le_refl _) hbw6);clear hbw6;have ct0:=tw6.out.1 0 _ rfl;obtain ⟨ca0,ca1,ca2,ca3,ca4,ca5,ca6,ca7,ca8,ca9⟩:=s10_ aw6.out.1;obtain ⟨l5,hl_⟩:∃ z,putA l4 kInterface d.orig=z:=⟨_,rfl⟩;rw [hl_] at hs_ ⊢;have HL5:=Lh_ (show putAll [(kDevpath,so),(kSubsystem,d.sub),(kDriver,d.drv),(kModalias,d.ali),(kInterface,d.orig)]=l5 from (put_next (ps:=[(kDevpath,so),(kSubsystem,d.sub),(kDriver,d.drv),(kModalias,d.ali)]) HL4.out (by simp;decide +kernel)).trans hl_);have HS5:=Lh_ hs_;clear hs_ hl_;have HE:=Lh_ (show baseL L n=l5 from by rw [HBE.out,← HL5.out];unfold baseP;rw [if_neg (by rw [HND.out];decide),if_pos HK.out];rfl);go_wp2;go_ret;exact ⟨HBw6.out,A5_,c5_,by rw [HE.out];rfl,by rw [HE.out];exact HS5.out⟩
   ·
    have HK:=Lh_ hk;have hkb:(d.kind == 4)=false:=by simpa using hk
    have HE:=Lh_ (show baseL L n=l4 from by rw [HBE.out,← HL4.out];unfold baseP;rw [if_neg (by rw [HND.out];decide),if_neg HK.out];rfl);go_wp2;go_ret;exact ⟨HBw5.out,A4_,c4_,by rw [HE.out];rfl,by rw [HE.out];exact HS4w5.out⟩
  ·
   go_upto_region 8 with fail
   refine wp_region_held_drew (S:=fun w'=>BoxL w' (w2.heap.size) [.int .i64 d.idx,.int .i64 d.par,.string d.nm,.string d.orig,.string d.sub,.string d.drv,.string d.ali,.int .i64 d.kind,.int .i64 d.num,.slice A3 d.attrs.length c3]) (by kernel_rfl) aw5.out.drew (fun hS0=>?_);obtain ⟨we,hwe⟩:∃ z,World.drew w5=z:=⟨_,rfl⟩;rw [hwe] at hS0 ⊢;have hb_:Below w5.heap.size w5 we:=by rw [← hwe];exact below_drewN_self _ _ 1
   clear hwe hS0;clear ct0 ca0 ca1 ca2 ca3 ca4 ca5 ca6 ca7 ca8 ca9;have HBwe:=tb_ HBw5 hb_;have twe:=kb_ tw5 hb_;have awe:=kb_ aw5 hb_;have HS1we:=Lh_ ((HS1w5.out).next (Nat.le_refl _) hb_);have HS2we:=Lh_ ((HS2w5.out).next (Nat.le_refl _) hb_);have HS3we:=Lh_ ((HS3w5.out).next (Nat.le_refl _) hb_);have HS4we:=Lh_ ((HS4w5.out).next (Nat.le_refl _) hb_);clear hb_;refine tk1 0 43 (.slice A4_ l4.length c4_) rfl (fun w' hS=>by go_simp) awe.out ?_;try simp only [Act.put,sA_,sB_,sC_]
   refine tk1 1 44 (.string (nodeV d)) rfl (fun w' hS=>by go_simp) awe.out ?_;try simp only [Act.put,sA_,sB_,sC_]
   refine tk1 3 46 (.pointer (some ⟨w2.heap.size,8,none⟩)) rfl (fun w' hS=>by go_simp) awe.out ?_;try simp only [Act.put,sA_,sB_,sC_]
   refine tk1 4 47 (.int .i64 d.num) rfl (fun w' hS=>by (have u0_:=hS.1 8 _ rfl;go_simp)) awe.out ?_;try simp only [Act.put,sA_,sB_,sC_]
   refine rd1 2 (o:=⟨some 45,.call ⟨_,_,_⟩,_,_,_,_⟩) rfl (fun K hK=>?_);go_simp;go_at_call 46;refine (Put_any A4_ c4_ l4 kDevname (nodeV d) _ we.heap.size (Nat.le_refl _) HS4we.out (put_srt HL4.out) (put_len HL4.out (by simp)) (by decide) (by have:=node_small HSR.out;unfold maxLen;omega)).mono ?_;rintro e' q7 ⟨hb_,A5_,c5_,rfl,hs_⟩;have HBq7:=tb_ HBwe hb_;have tq7:=kb_ twe hb_;have aq7:=kb_ awe hb_;have HS1q7:=Lh_ ((HS1we.out).next (Nat.le_refl _) hb_);have HS2q7:=Lh_ ((HS2we.out).next (Nat.le_refl _) hb_);have HS3q7:=Lh_ ((HS3we.out).next (Nat.le_refl _) hb_);have HS4q7:=Lh_ ((HS4we.out).next (Nat.le_refl _) hb_);obtain ⟨l5,hl_⟩:∃ z,putA l4 kDevname (nodeV d)=z:=⟨_,rfl⟩;rw [hl_] at hs_ ⊢;have HL5:=Lh_ (show putAll [(kDevpath,so),(kSubsystem,d.sub),(kDriver,d.drv),(kModalias,d.ali),(kDevname,(nodeV d))]=l5 from (put_next (ps:=[(kDevpath,so),(kSubsystem,d.sub),(kDriver,d.drv),(kModalias,d.ali)]) HL4.out (by simp;decide +kernel)).trans hl_);have HS5:=Lh_ hs_;clear hs_ hl_;clear hb_;refine hK.out _ _ aq7.out (fun _=>?_);clear hK K;try simp only [Act.put,sA_,sB_,sC_]
   refine rd1 5 (o:=⟨some 48,.call ⟨_,_,_⟩,_,_,_,_⟩) rfl (fun K hK=>?_);go_simp;go_at_call 48;refine (Itoa_any d.num _ (HOK.out.below HBq7.out) HOd.out.2.2.2.2.2.2.2.2).mono ?_;rintro e' q8 ⟨rfl,hb_⟩;have HBq8:=tb_ HBq7 hb_;have tq8:=kb_ tq7 hb_;have aq8:=kb_ aq7 hb_;have HS1q8:=Lh_ ((HS1q7.out).next (Nat.le_refl _) hb_);have HS2q8:=Lh_ ((HS2q7.out).next (Nat.le_refl _) hb_);have HS3q8:=Lh_ ((HS3q7.out).next (Nat.le_refl _) hb_);have HS4q8:=Lh_ ((HS4q7.out).next (Nat.le_refl _) hb_);have HS5q8:=Lh_ ((HS5.out).next (Nat.le_refl _) hb_);clear hb_;refine hK.out _ _ aq8.out (fun _=>?_);clear hK K;try simp only [Act.put,sA_,sB_,sC_]
   refine rd1 6 (o:=⟨some 49,.call ⟨_,_,_⟩,_,_,_,_⟩) rfl (fun K hK=>?_);go_simp;go_at_call 46;refine (Put_any A5_ c5_ l5 kNumber (itoaT d.num) _ q8.heap.size (Nat.le_refl _) HS5q8.out (put_srt HL5.out) (put_len HL5.out (by simp)) (by decide) (itoaT_small HOd.out.2.2.2.2.2.2.2.2)).mono ?_;rintro e' q9 ⟨hb_,A6_,c6_,rfl,hs_⟩;have HBq9:=tb_ HBq8 hb_;have tq9:=kb_ tq8 hb_;have aq9:=kb_ aq8 hb_;have HS1q9:=Lh_ ((HS1q8.out).next (Nat.le_refl _) hb_);have HS2q9:=Lh_ ((HS2q8.out).next (Nat.le_refl _) hb_);have HS3q9:=Lh_ ((HS3q8.out).next (Nat.le_refl _) hb_);have HS4q9:=Lh_ ((HS4q8.out).next (Nat.le_refl _) hb_);have HS5q9:=Lh_ ((HS5q8.out).next (Nat.le_refl _) hb_);obtain ⟨l6,hl_⟩:∃ z,putA l5 kNumber (itoaT d.num)=z:=⟨_,rfl⟩;rw [hl_] at hs_ ⊢;have HL6:=Lh_ (show putAll [(kDevpath,so),(kSubsystem,d.sub),(kDriver,d.drv),(kModalias,d.ali),(kDevname,(nodeV d)),(kNumber,(itoaT d.num))]=l6 from (put_next (ps:=[(kDevpath,so),(kSubsystem,d.sub),(kDriver,d.drv),(kModalias,d.ali),(kDevname,(nodeV d))]) HL5.out (by simp;decide +kernel)).trans hl_);have HS6:=Lh_ hs_;clear hs_ hl_;clear hb_;refine hK.out _ _ aq9.out (fun _=>?_);clear hK K;try simp only [Act.put,sA_,sB_,sC_]
   refine tk1 7 9 (.slice A6_ l6.length c6_) rfl (fun w' hS=>by go_simp) aq9.out ?_;try simp only [Act.put,sA_,sB_,sC_]
   refine wpAnyH_done (by kernel_rfl) ?_ _;have ct0:=tq9.out.1 0 _ rfl;obtain ⟨ca0,ca1,ca2,ca3,ca4,ca5,ca6,ca7,ca8,ca9⟩:=s10_ aq9.out.1;by_cases hk:d.kind=4
   ·
    have HK:=Lh_ hk;have hkb:(d.kind == 4)=true:=by rw [hk];rfl
    go_wp2_with fail;refine (Put_any A6_ c6_ l6 kInterface d.orig _ q9.heap.size (Nat.le_refl _) HS6.out (put_srt HL6.out) (put_len HL6.out (by simp)) (by decide) HOd.out.2.2.2.1).mono ?_;rintro e w10 ⟨hbw10,A7_,c7_,rfl,hs_⟩;clear ct0 ca0 ca1 ca2 ca3 ca4 ca5 ca6 ca7 ca8 ca9;have HBw10:=tb_ HBq9 hbw10;have tw10:=kb_ tq9 hbw10;have aw10:=kb_ aq9 hbw10;have HS1w10:=Lh_ ((HS1q9.out).next (Nat.le_refl _) hbw10);have HS2w10:=Lh_ ((HS2q9.out).next (Nat.le_refl _) hbw10);have HS3w10:=Lh_ ((HS3q9.out).next (Nat.le_refl _) hbw10);have HS4w10:=Lh_ ((HS4q9.out).next (Nat.le_refl _) hbw10);have HS5w10:=Lh_ ((HS5q9.out).next (Nat.le_refl _) hbw10);have HS6w10:=Lh_ ((HS6.out).next (Nat.le_refl _) hbw10);clear hbw10;have ct0:=tw10.out.1 0 _ rfl;obtain ⟨ca0,ca1,ca2,ca3,ca4,ca5,ca6,ca7,ca8,ca9⟩:=s10_ aw10.out.1;obtain ⟨l7,hl_⟩:∃ z,putA l6 kInterface d.orig=z:=⟨_,rfl⟩;rw [hl_] at hs_ ⊢;have HL7:=Lh_ (show putAll [(kDevpath,so),(kSubsystem,d.sub),(kDriver,d.drv),(kModalias,d.ali),(kDevname,(nodeV d)),(kNumber,(itoaT d.num)),(kInterface,d.orig)]=l7 from (put_next (ps:=[(kDevpath,so),(kSubsystem,d.sub),(kDriver,d.drv),(kModalias,d.ali),(kDevname,(nodeV d)),(kNumber,(itoaT d.num))]) HL6.out (by simp;decide +kernel)).trans hl_);have HS7:=Lh_ hs_;clear hs_ hl_;have HE:=Lh_ (show baseL L n=l7 from by rw [HBE.out,← HL7.out];unfold baseP;rw [if_pos HND.out,if_pos HK.out];rfl);go_wp2;go_ret;exact ⟨HBw10.out,A7_,c7_,by rw [HE.out];rfl,by rw [HE.out];exact HS7.out⟩
   ·
    have HK:=Lh_ hk;have hkb:(d.kind == 4)=false:=by simpa using hk
    have HE:=Lh_ (show baseL L n=l6 from by rw [HBE.out,← HL6.out];unfold baseP;rw [if_pos HND.out,if_neg HK.out];rfl);go_wp2;go_ret;exact ⟨HBq9.out,A6_,c6_,by rw [HE.out];rfl,by rw [HE.out];exact HS6.out⟩
end Go.Proofs.YtjgllhlilbchpaaGreatDoor
namespace Go.Cold
open Go Go.RowKit Go.Proofs.YtjgllhlilbchpaaGreatDoor
theorem below_onto {a w w':World} (h:Below a.heap.size a w) (hb:Below w.heap.size w w'):Below a.heap.size a w':=h.trans (hb.mono h.size)
theorem path_none {L:List Dev} {n:Int} (h:(findD L n).isSome=false):pathL L n=[]:=by
  unfold pathL;cases hf:findD L n with
  | none=>rfl
  | some d=>rw [hf] at h;cases h
theorem path_some {L:List Dev} {n:Int} (h:(findD L n).isSome=true):pathL L n=pathA (cutT (rpT (chainO L n))):=by
  unfold pathL;cases hf:findD L n with
  | none=>rw [hf] at h;cases h
  | some d=>rfl
theorem find_is {L:List Dev} {n:Int} {d:Dev} (hq:(findD L n).isSome=true) (hd:d=(findD L n).getD zeroD):findD L n=some d:=by
  cases hf:findD L n with
  | none=>rw [hf] at hq;cases hq
  | some e=>rw [hf] at hd;rw [show d=e from hd]
theorem chain_head {L:List Dev} {n:Int} {d:Dev} (h:findD L n=some d):∃ r,chainO L n=d :: r:=by
  unfold chainO;have:0<L.length:=List.length_pos_of_mem (find_some h).1;obtain ⟨k,hk⟩:∃ k,L.length=k+1:=⟨L.length - 1,by omega⟩;rw [hk,chainL,h];exact ⟨_,rfl⟩
theorem chain_rp {L:List Dev} {n:Int} {d:Dev} (h:findD L n=some d):rpT (chainO L n)=preT ((chainO L n).drop 1) ++ partT d:=by
  obtain ⟨r,hr⟩:=chain_head h;rw [hr];rfl
theorem part_size {d:Dev}:(partT d).size=d.sub.size+1+d.orig.size:=by
  unfold partT;rw [ByteArray.size_append,ByteArray.size_append];rfl
theorem own_lit {w w':World} {T:TypeId} {l:List Attr} {cs:Array Value} (h:w.alloc (.cells cs T)=w') (hc:cs.toList=rowA l) (hn:l.length≤maxLen) (hs:∀ a ∈ l,a.name.size≤maxLen∧a.value.size≤maxLen):OwnsS (fun _=>False) w' w.heap.size T (.slice (some ⟨w.heap.size,0,none⟩) l.length l.length) l:=by
  have hz:cs.size=l.length * 2:=by rw [← Array.length_toList,hc,rowA_len]
  have h1:=World.ownsRow_lit (base:=w.heap.size) (e:=T) (size:=2) w cs l.length (Nat.le_refl _) hn hz;rw [h] at h1;exact own_attrs (by rw [← hc];exact h1) hs
theorem pathA_small {s:ByteArray} (h:s.size≤256):∀ a ∈ pathA s,a.name.size≤maxLen∧a.value.size≤maxLen:=by
  intro a ha;unfold pathA at ha;simp only [List.mem_cons,List.not_mem_nil,or_false] at ha;have ht:(tagT s).size=s.size:=by
    unfold tagT;show (List.map _ _).toArray.size=_
    rw [List.size_toArray,List.length_map,ba_size]
  rcases ha with rfl | rfl
  · exact ⟨by show kIdPath.size≤maxLen;decide,by show s.size≤maxLen;unfold maxLen;omega⟩
  · exact ⟨by show kIdTag.size≤maxLen;decide,by show (tagT s).size≤maxLen;rw [ht];unfold maxLen;omega⟩
theorem pre_pos {r:List Dev} {j:Nat} {y:Dev} (h:r[j]? = some y) (x:ByteArray):preT (r.drop j) ++ x=preT (r.drop (j+1)) ++ ((partT y ++ ⟨#[45]⟩) ++ x):=by
  obtain ⟨h1,h2⟩:=List.getElem?_eq_some_iff.1 h;rw [pre_step h1,h2]
end Go.Cold
namespace Go.Proofs.YtjgllhlilbchpaaGreatDoor
open Go.RowKit Go.Cold
theorem tag1_any (r:Int) (w:World):Calls Tryz.prog 43 #[.int .i32 r] w fun e w'=>e=.returned (.int .i32 (tagR r))∧w'=w:=by
  obtain ⟨z,hz⟩:∃ z,tagR r=z:=⟨_,rfl⟩;rw [hz];have HZ:=Lh_ hz;clear hz;go_enter Tryz.func43,Tryz.ntmps43;by_cases a0:(65:Int)≤r
  ·
    by_cases b0:r≤90
    ·
      obtain rfl:z=r:=by rw [← HZ.out];unfold tagR;exact if_pos (by omega)
      clear HZ;go_wp2;go_ret;exact ⟨by try rfl,by try rfl⟩
    ·
      by_cases a1:(97:Int)≤r
      ·
        by_cases b1:r≤122
        ·
          obtain rfl:z=r:=by rw [← HZ.out];unfold tagR;exact if_pos (by omega)
          clear HZ;go_wp2;go_ret;exact ⟨by try rfl,by try rfl⟩
        ·
          by_cases a2:(48:Int)≤r
          ·
            by_cases b2:r≤57
            ·
              obtain rfl:z=r:=by rw [← HZ.out];unfold tagR;exact if_pos (by omega)
              clear HZ;go_wp2;go_ret;exact ⟨by try rfl,by try rfl⟩
            ·
              obtain rfl:z=95:=by rw [← HZ.out];unfold tagR;exact if_neg (by omega)
              clear HZ;go_wp2;go_ret;exact ⟨by try rfl,by try rfl⟩
          ·
            obtain rfl:z=95:=by rw [← HZ.out];unfold tagR;exact if_neg (by omega)
            clear HZ;go_wp2;go_ret;exact ⟨by try rfl,by try rfl⟩
      ·
        by_cases a2:(48:Int)≤r
        ·
          by_cases b2:r≤57
          ·
            obtain rfl:z=r:=by rw [← HZ.out];unfold tagR;exact if_pos (by omega)
            clear HZ;go_wp2;go_ret;exact ⟨by try rfl,by try rfl⟩
          ·
            obtain rfl:z=95:=by rw [← HZ.out];unfold tagR;exact if_neg (by omega)
            clear HZ;go_wp2;go_ret;exact ⟨by try rfl,by try rfl⟩
        ·
          obtain rfl:z=95:=by rw [← HZ.out];unfold tagR;exact if_neg (by omega)
          clear HZ;go_wp2;go_ret;exact ⟨by try rfl,by try rfl⟩
  ·
    by_cases a1:(97:Int)≤r
    ·
      by_cases b1:r≤122
      ·
        obtain rfl:z=r:=by rw [← HZ.out];unfold tagR;exact if_pos (by omega)
        clear HZ;go_wp2;go_ret;exact ⟨by try rfl,by try rfl⟩
      ·
        by_cases a2:(48:Int)≤r
        ·
          by_cases b2:r≤57
          ·
            obtain rfl:z=r:=by rw [← HZ.out];unfold tagR;exact if_pos (by omega)
            clear HZ;go_wp2;go_ret;exact ⟨by try rfl,by try rfl⟩
          ·
            obtain rfl:z=95:=by rw [← HZ.out];unfold tagR;exact if_neg (by omega)
            clear HZ;go_wp2;go_ret;exact ⟨by try rfl,by try rfl⟩
        ·
          obtain rfl:z=95:=by rw [← HZ.out];unfold tagR;exact if_neg (by omega)
          clear HZ;go_wp2;go_ret;exact ⟨by try rfl,by try rfl⟩
    ·
      by_cases a2:(48:Int)≤r
      ·
        by_cases b2:r≤57
        ·
          obtain rfl:z=r:=by rw [← HZ.out];unfold tagR;exact if_pos (by omega)
          clear HZ;go_wp2;go_ret;exact ⟨by try rfl,by try rfl⟩
        ·
          obtain rfl:z=95:=by rw [← HZ.out];unfold tagR;exact if_neg (by omega)
          clear HZ;go_wp2;go_ret;exact ⟨by try rfl,by try rfl⟩
      ·
        obtain rfl:z=95:=by rw [← HZ.out];unfold tagR;exact if_neg (by omega)
        clear HZ;go_wp2;go_ret;exact ⟨by try rfl,by try rfl⟩
theorem tag1_runes (w:World):MapAtRunes Tryz.prog 43 #[] tagR w:=fun W x _ _=>(tag1_any (x:Int) W).mono (by rintro e w' ⟨rfl,rfl⟩;exact ⟨rfl,0,rfl⟩)
def OkU (w:World):Prop:=Lib.Utf8Tabs 1 2 w
theorem OkU.below {w w':World} (h:OkU w) (hb:Below w.heap.size w w'):OkU w' :=
  ⟨fun c hc=>(hb.cell (p:=⟨1,c,none⟩) (block_lt_of_cell (h.1 c hc))).trans (h.1 c hc),
   fun i hi=>⟨(hb.cell (p:=⟨2,2 * i,none⟩) (block_lt_of_cell (h.2 i hi).1)).trans (h.2 i hi).1,(hb.cell (p:=⟨2,2 * i+1,none⟩) (block_lt_of_cell (h.2 i hi).2)).trans (h.2 i hi).2⟩⟩
set_option maxRecDepth 100000 in
set_option maxHeartbeats 4000000 in
theorem BPath_any (A:Option Addr) (c:Nat) (L:List Dev) (n:Int) (w:World) (B:Nat) (hB:B≤w.heap.size) (hx:Sl w B A c L) (hv:VT L) (hok:Ok7 w) (hn:okI n) (hu:OkU w) :
    Calls Tryz.prog 12 #[.agg #[.slice A L.length c],.int .i64 n] w (SlPost (pathL L n) w):=by
  have hx1:=hx.1;have hx2:=hx.2.1;unfold maxLen at hx2;have HX:=Lh_ hx;have HB:=Lh_ hB;have HV:=Lh_ hv;have HOK:=Lh_ hok;clear hx hB hv hok;have HN:=Lh_ hn;have HU:=Lh_ hu;clear hn hu;have HLA:=Lh_ (show ∀ d ∈ L,d.attrs.length≤1000000 from fun d hd=>attrs_le (HV.out.chk d hd));go_enter Tryz.func12,Tryz.ntmps12;go_upto_region 1 with fail
  obtain ⟨w1,hw1,hbw1,HGw1,HXtw1⟩:=bx_ w [.slice A L.length c] 28;try simp only [hw1]
  have HBw1:=Lh_ hbw1;clear hw1 hbw1;try rw [← HGw1.out]
  have ct0:=HXtw1.out.1 0 _ rfl;obtain ⟨q,hq⟩:∃ z,(findD L n).isSome=z:=⟨_,rfl⟩;have HQ:=Lh_ hq;clear hq;go_wp2_with fail;refine (TFind_any A c L n _ B (Nat.le_trans HB.out HBw1.out.size) (HX.out.keep (HBw1.out.mono HB.out)) HLA.out).mono ?_;rintro e w2 ⟨hbw2,d,A3,c3,hd,rfl,hod,hsd⟩;clear ct0;have HBw2:=tb_ HBw1 hbw2;have tw2:=kb_ HXtw1 hbw2;clear hbw2;have ct0:=tw2.out.1 0 _ rfl;rw [show (L.find? (byIdx n)).isSome=q from HQ.out];have Hd:=Lh_ (show d=(findD L n).getD zeroD from hd);have HOd:=Lh_ hod;clear hd hod hsd;go_upto_region 2 with fail
  obtain ⟨w3,hw3,hbw3,HGw3,HXaw3⟩:=bx_ w2 [.int .i64 d.idx,.int .i64 d.par,.string d.nm,.string d.orig,.string d.sub,.string d.drv,.string d.ali,.int .i64 d.kind,.int .i64 d.num,.slice A3 d.attrs.length c3] 32;try simp only [hw3]
  have HBw3:=tb_ HBw2 hbw3;have tw3:=kb_ tw2 hbw3;clear hw3 hbw3;try rw [← HGw3.out]
  clear ct0;have ct0:=tw3.out.1 0 _ rfl;obtain ⟨ca0,ca1,ca2,ca3,ca4,ca5,ca6,ca7,ca8,ca9⟩:=s10_ HXaw3.out.1;cases q
  ·
    have HE:=Lh_ (path_none HQ.out);go_wp2;go_ret;exact ⟨HBw3.out,none,0,by rw [HE.out];rfl,by rw [HE.out];exact Sl.nil_⟩
  ·
    have HF:=Lh_ (find_is HQ.out Hd.out);have HE:=Lh_ (path_some HQ.out);have HRP:=Lh_ (chain_rp HF.out);have HGD:=Lh_ (rp_print (chain_chk HV.out n) (chain_full HV.out HF.out));have HCL:=Lh_ (show (chainO L n).length≤256 from Nat.le_trans (chain_len L _ n) HV.out.size);have HPC:=Lh_ (show ∀ y ∈ (chainO L n).drop 1,(partT y).size≤65 from fun y hy=>(part_print (chain_chk HV.out n y (List.mem_of_mem_drop hy))).2.2);have HPD:=Lh_ (show (partT d).size≤65 from (part_print (HV.out.chk d (find_some HF.out).1)).2.2);go_wp2_with fail;refine (part_any d A3 c3 _ (by have:=HPD.out;rw [part_size] at this;omega) (by have:=HPD.out;rw [part_size] at this;omega)).mono ?_;rintro e w4 ⟨rfl,hbw4⟩;clear ct0 ca0 ca1 ca2 ca3 ca4 ca5 ca6 ca7 ca8 ca9;have HBw4:=tb_ HBw3 hbw4;have tw4:=kb_ tw3 hbw4;have aw4:=kb_ HXaw3 hbw4;clear hbw4;have ct0:=tw4.out.1 0 _ rfl;obtain ⟨ca0,ca1,ca2,ca3,ca4,ca5,ca6,ca7,ca8,ca9⟩:=s10_ aw4.out.1;obtain ⟨s0,hs0⟩:∃ z,partT d=z:=⟨_,rfl⟩;rw [hs0];have HRP2:=Lh_ (show rpT (chainO L n)=preT ((chainO L n).drop 1) ++ s0 by rw [← hs0];exact HRP.out);clear hs0 HRP;obtain ⟨ch,hch⟩:∃ z,(chainO L n).drop 1=z:=⟨_,rfl⟩;obtain ⟨full,hfull⟩:∃ z,rpT (chainO L n)=z:=⟨_,rfl⟩;have HRP3:=Lh_ (show full=preT ch ++ s0 by rw [← hfull,← hch];exact HRP2.out);have HPC2:=Lh_ (show ∀ y ∈ ch,(partT y).size≤65 by rw [← hch];exact HPC.out);have HE2:=Lh_ (show pathL L n=pathA (cutT full) by rw [← hfull];exact HE.out);have HGD2:=Lh_ (show printB full=true∧full.toList.isEmpty=false∧full.size≤256 * 66 by have:=HGD.out;rw [hfull] at this;exact ⟨this.1,this.2.1,Nat.le_trans this.2.2 (Nat.mul_le_mul_right _ HCL.out)⟩);have HCH:=Lh_ hch;clear hch hfull HRP2 HPC HE HGD HPD HF Hd HOd;go_wp2_with fail;refine (Ancestors_any A c L n _ B (Nat.le_trans HB.out HBw4.out.size) (HX.out.keep (HBw4.out.mono HB.out)) HV.out HN.out).mono ?_;rintro e w20 ⟨hb_,v,rfl,hown_⟩;rw [HCH.out] at hown_;obtain ⟨A5,c5,rfl,hs_⟩:=hown_.sl;have hs1:=hs_.1;have hs2:=hs_.2.1;unfold maxLen at hs2;clear ct0 ca0 ca1 ca2 ca3 ca4 ca5 ca6 ca7 ca8 ca9;have HBw20:=tb_ HBw4 hb_;have tw20:=kb_ tw4 hb_;have aw20:=kb_ aw4 hb_;have HSL:=Lh_ hs_;clear hs_ hown_ hb_;go_wp2_with fail;have HI0:=Lh_ (show full=preT (ch.drop 0) ++ s0 by rw [List.drop_zero];exact HRP3.out)
    go_loopw [7,25] (fun v i wr=>∃ (s:ByteArray) (k:Nat),k≤ch.length∧v=.string s∧i=.int .i64 (k:Int)∧Hid (Below w20.heap.size w20 wr)∧Hid (full=preT (ch.drop k) ++ s)) (fun _ i _=>ch.length - (intOf i).toNat)
    case atStart=>exact ⟨_,0,Nat.zero_le _,rfl,rfl,Below.refl _ _,HI0⟩
    case round =>
      clear HI0;obtain ⟨s,k,hk,rfl,rfl,HBR,HA⟩:=hrel;have HBwr:=Lh_ (HBw20.out.trans (HBR.out.mono HBw20.out.size));have HSS:=Lh_ (show s.size≤16896 by have h:=HGD2.out.2.2;rw [HA.out,ByteArray.size_append] at h;omega);by_cases hlt:k<ch.length
      ·
        have i1:(k:Int)<(ch.length:Int):=by omega
        obtain ⟨b,o,rfl,-,A6,c6,-,-,hcs⟩:=(HSL.out.next (Nat.le_refl _) HBR.out).dev hlt;have hky:ch[k]? = some ch[k]:=List.getElem?_eq_getElem hlt;have hpy:=HPC2.out _ (List.getElem_mem hlt);obtain ⟨y,hy⟩:∃ y,ch[k]'hlt=y:=⟨_,rfl⟩;rw [hy] at hcs hky hpy;obtain ⟨a0,a1,a2,a3,a4,a5,a6,a7,a8,a9⟩:=hcs;have HLT:=Lh_ hlt;have HKY:=Lh_ hky;have HPY:=Lh_ hpy;clear hy hky hpy;go_upto_region 8 with fail
        obtain ⟨w5,hw5,hbw5,HGw5,HXvw5⟩:=bx_ wr [.int .i64 y.idx,.int .i64 y.par,.string y.nm,.string y.orig,.string y.sub,.string y.drv,.string y.ali,.int .i64 y.kind,.int .i64 y.num,.slice A6 y.attrs.length c6] 32;try simp only [hw5]
        have HBw5:=tb_ HBwr hbw5;have HBRw5:=Lh_ (below_onto HBR.out hbw5);clear hw5 hbw5;try rw [← HGw5.out]
        clear a0 a1 a2 a3 a4 a5 a6 a7 a8 a9;obtain ⟨cv0,cv1,cv2,cv3,cv4,cv5,cv6,cv7,cv8,cv9⟩:=s10_ HXvw5.out.1;go_wp2_with fail;refine (part_any y A6 c6 _ (by have:=HPY.out;rw [part_size] at this;omega) (by have:=HPY.out;rw [part_size] at this;omega)).mono ?_;rintro e w6 ⟨rfl,hbw6⟩;clear cv0 cv1 cv2 cv3 cv4 cv5 cv6 cv7 cv8 cv9;have HBw6:=tb_ HBw5 hbw6;have vw6:=kb_ HXvw5 hbw6;have HBRw6:=Lh_ (below_onto HBRw5.out hbw6);clear hbw6;have HSTEP:=Lh_ (pre_pos HKY.out s);obtain ⟨p,hp⟩:∃ z,partT y=z:=⟨_,rfl⟩;have HPZ:=Lh_ hp;rw [hp];have f0:p.size≤65:=by rw [← hp];exact HPY.out
        have f9:=HSS.out;have f1:¬ 9223372036854775807<p.size+1:=by omega
        have f2:¬ 9223372036854775807<p.size+1+s.size:=by omega
        have HNX:=Lh_ (show full=preT (ch.drop (k+1)) ++ ((p ++ ⟨#[45]⟩) ++ s) by rw [HA.out,HSTEP.out,HPZ.out]);clear hp f0 f9;go_wp2;go_roundw
        case rel=>exact ⟨_,k+1,by have:=HLT.out;omega,rfl,by go_num,HBRw6,HNX⟩
        case measure=>have:=HLT.out;simp [intOf];omega
      ·
        have i1:¬ (k:Int)<(ch.length:Int):=by omega
        have hfs:full=s:=by rw [HA.out,show k=ch.length by omega,List.drop_length,preT,app_empty]
        have HFS:=Lh_ hfs;clear hfs;have hmin:min (s.size:Int) 256=((min s.size 256:Nat):Int):=by omega
        go_upto_region 11 with fail
        obtain ⟨t,ht⟩:∃ z,s.extract 0 (min s.size 256)=z:=⟨_,rfl⟩;try rw [ht]
        have HT:=Lh_ (show cutT full=t by rw [HFS.out];exact ht);have HTX:=Lh_ (show textB t=true by rw [← HT.out];exact (cut_text HGD2.out.1 HGD2.out.2.1).1);have HTS:=Lh_ (show t.size≤256 by rw [← HT.out,cut_size];omega);clear ht hmin;go_wp2_with fail;refine (Tryz.strings_Map_runes 43 #[] (enters_of Tryz.func43 (by kernel_rfl) rfl) tagR t _ (by have:=HTS.out;omega) (tag1_runes _) tagR_range (HU.out.below HBwr.out)).mono ?_;rintro e w7 ⟨rfl,hbw7⟩;have HBw7:=tb_ HBwr hbw7;have HBRw7:=Lh_ (below_onto HBR.out hbw7);clear hbw7;rw [map_tag HTX.out];obtain ⟨wz,hwz⟩:∃ z,w7.alloc (.cells #[.string kIdPath,.string t,.string kIdTag,.string (tagT t)] 42)=z:=⟨_,rfl⟩;have HOWN:=Lh_ (own_lit (l:=pathA t) hwz rfl (by show 2≤maxLen;decide) (pathA_small HTS.out));have HBZ:=Lh_ (show Below w7.heap.size w7 wz by rw [← hwz];exact (Below.refl _ _).alloc (Nat.le_refl _) _);have HE3:=Lh_ (show pathL L n=pathA t by rw [HE2.out,HT.out]);go_wp2;simp only [show (⟨#[73,68,95,80,65,84,72]⟩:ByteArray)=kIdPath from rfl,show (⟨#[73,68,95,80,65,84,72,95,84,65,71]⟩:ByteArray)=kIdTag from rfl,hwz];go_ret;rw [HE3.out];exact SlPost.of_own (HBw7.out.trans (HBZ.out.mono HBw7.out.size)) rfl (HOWN.out.low HBw7.out.size)
end Go.Proofs.YtjgllhlilbchpaaGreatDoor
namespace Go.Cold
open Go Go.RowKit Go.Proofs.YtjgllhlilbchpaaGreatDoor
end Go.Cold
namespace Go.Proofs.YtjgllhlilbchpaaGreatDoor
open Go.RowKit Go.Cold
end Go.Proofs.YtjgllhlilbchpaaGreatDoor
