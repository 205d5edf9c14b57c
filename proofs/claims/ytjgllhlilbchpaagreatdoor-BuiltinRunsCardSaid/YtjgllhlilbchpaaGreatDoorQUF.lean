/-
  The walks of builtin.Net and the reference's Net.
-/
import Derived.Test.YtjgllhlilbchpaaGreatDoorQTK
import Derived.Test.YtjgllhlilbchpaaGreatDoorQSP
import Derived.Test.YtjgllhlilbchpaaGreatDoorQUC
set_option linter.unusedSimpArgs false
set_option linter.unusedVariables false
namespace Go.Cold
open Go Go.RowKit Go.Proofs.YtjgllhlilbchpaaGreatDoor
theorem replaceK_drop (c:UInt8):∀ (n:Nat) (l:List UInt8),l.length≤n→Lib.replaceK [c] [] (Lib.count l [c]) l=l.filter fun x=>decide (x≠c)
 | n,l,hn=>by
  rcases cut_at c l with h | ⟨a,r,rfl,h⟩
  ·
   rw [Lib.count_miss (by rw [Lib.index_one,byte_no h])]
   exact (List.filter_eq_self.2 (fun b hb=>by simpa using h b hb)).symm
  ·
   have hi:Lib.index (a ++ c :: r) [c]=a.length:=by rw [Lib.index_one,byte_at h]
   have hdrop:(a ++ c :: r).drop (a.length+[c].length)=r:=by rw [← List.drop_drop,List.drop_left];rfl
   have hc:Lib.count (a ++ c :: r) [c]=Lib.count r [c]+1:=by
    rw [Lib.count_hit (by simp) hi,hdrop];omega
   rw [hc,Lib.replaceK_hit _ _ _ _ _ hi,hdrop];match n,hn with
   | 0,hn=>simp at hn
   | n+1,hn =>
    have ha:a.filter (fun x=>decide (x≠c))=a:=List.filter_eq_self.2 (fun b hb=>by simpa using h b hb);rw [replaceK_drop c n r (by simp at hn;omega),List.filter_append,List.filter_cons_of_neg (by simp),ha];simp
theorem replaceAll_drop (c:UInt8) (l:List UInt8):Lib.replaceAll l [c] []=l.filter fun x=>decide (x≠c):=by
 have hne2:([c] == ([]:List UInt8))=false:=by simp
 unfold Lib.replaceAll Lib.replace Lib.replaceNum;rw [hne2,if_neg (by simp),if_pos (.inl (by omega))];exact replaceK_drop c _ l (Nat.le_refl _)
theorem noColon_size (s:ByteArray):(noColon s).size≤s.size:=by
 rw [← ba_size,← ba_size];unfold noColon;exact List.length_filter_le _ _
def valA (d:Dev) (a:ByteArray):ByteArray:=(getA d.attrs a).getD ByteArray.empty
theorem val_small {L:List Dev} (h:VT L) {n:Int} {d:Dev} (hd:d=(findD L n).getD zeroD) (a:ByteArray):(valA d a).size≤256:=by
 unfold valA;cases hg:getA d.attrs a with
 | none=>exact Nat.zero_le _
 | some v =>
  have hm:=getA_mem hg;cases hf:findD L n with
  | none=>rw [hf] at hd;rw [show d=zeroD from hd] at hm;cases hm
  | some e =>
   rw [hf] at hd;have hc:=h.chk e (find_some hf).1;rw [show d=e from hd] at hm;rw [checkD_eq] at hc;have hat:attrsB e.attrs=true:=by
    cases hq:attrsB e.attrs with
    | true=>rfl
    | false=>rw [hq] at hc;simp at hc;repeat' (split at hc <;> try omega)
   unfold attrsB at hat;rw [Bool.and_eq_true] at hat;have:=List.all_eq_true.1 hat.2 _ hm;unfold attrB textB at this;simp only [Bool.and_eq_true,decide_eq_true_eq] at this;show v.size≤256
   omega
theorem netL_kind {L:List Dev} {n:Int} {d:Dev} (hd:d=(findD L n).getD zeroD) (h:¬ d.kind=4):netL L n=[]:=by
 unfold netL netAt;rw [← hd,if_neg h]
theorem netL_all {L:List Dev} {n:Int} {d:Dev} (hd:d=(findD L n).getD zeroD) (h:d.kind=4):netL L n=putAll (netP d (netT.take 3)):=by
 unfold netL netAt;rw [← hd,if_pos h];rfl
theorem net_len (d:Dev) (k:Nat):(netP d (netT.take k)).length≤1000:=by
 have:∀ t:List (ByteArray × ByteArray × ByteArray),(netP d t).length≤t.length:=by
  intro t;induction t with
  | nil=>exact Nat.le_refl _
  | cons x r ih=>obtain ⟨k,p,a⟩:=x;rw [netP,List.length_append,List.length_cons];split <;> simp <;> omega
 have h2:=this (netT.take k);have h3:(netT.take k).length≤3:=by rw [List.length_take];exact Nat.min_le_right _ _
 omega
theorem net_yes {d:Dev} {k:Nat} {kk pp aa:ByteArray} (h:netT[k]? = some (kk,pp,aa)) (hy:netOk d pp aa=true):netP d (netT.take (k+1))=netP d (netT.take k) ++ [(kk,netV d pp aa)]:=by
 rw [List.take_add_one,h,Option.toList_some,netP_snoc,if_pos hy]
theorem net_no {d:Dev} {k:Nat} {kk pp aa:ByteArray} (h:netT[k]? = some (kk,pp,aa)) (hy:netOk d pp aa=false):netP d (netT.take (k+1))=netP d (netT.take k):=by
 rw [List.take_add_one,h,Option.toList_some,netP_snoc,if_neg (by rw [hy];decide),List.append_nil]
theorem net_new {d:Dev} {k:Nat} {kk pp aa:ByteArray} (h:netT[k]? = some (kk,pp,aa)):kk ∉ (netP d (netT.take k)).map (·.1):=by
 intro hm;obtain ⟨p,hp,he⟩:=List.mem_map.1 hm;have h2:=netP_keys d _ p hp;rw [he] at h2;have hall:∀ k:Fin 3,(netT[k.val]?).all (fun x=>!(((netT.take k.val).map (·.1)).any fun y=>decide (x.1=y)))=true:=by decide +kernel
 have hk:k<3:=(List.getElem?_eq_some_iff.1 h).1;have h3:=hall ⟨k,hk⟩;rw [show netT[(⟨k,hk⟩:Fin 3).val]? = some (kk,pp,aa) from h] at h3;rw [Option.all_some,Bool.not_eq_true'] at h3;rw [List.any_eq_true.2 ⟨kk,h2,decide_eq_true rfl⟩] at h3;cases h3
theorem net_small {k:Nat} {kk pp aa:ByteArray} (h:netT[k]? = some (kk,pp,aa)):kk.size≤maxLen∧pp.size=3:=by
 have hall:∀ k:Fin 3,(netT[k.val]?).all (fun x=>decide (x.1.size≤30∧x.2.1.size=3))=true:=by decide +kernel
 have hk:k<3:=(List.getElem?_eq_some_iff.1 h).1;have h3:=hall ⟨k,hk⟩;rw [show netT[(⟨k,hk⟩:Fin 3).val]? = some (kk,pp,aa) from h] at h3;rw [Option.all_some,decide_eq_true_iff] at h3;have h4:kk.size≤30:=h3.1;exact ⟨by unfold maxLen;omega,h3.2⟩
theorem net_cells {w:World} {b:Nat} (h:BoxL w b [.string kOnboard,.string pEno,.string aIndex,.string kSlot,.string pEns,.string aSlot,.string kMac,.string pEnx,.string aAddress]) {k:Nat} (hk:k<3) :
  ∃ kk pp aa,netT[k]? = some (kk,pp,aa)∧w.cell? ⟨b,k * 3,none⟩=some (.string kk)∧w.cell? ⟨b,k * 3+1,none⟩=some (.string pp)∧w.cell? ⟨b,k * 3+2,none⟩=some (.string aa):=by
 have:k=0∨k=1∨k=2:=by omega
 rcases this with rfl | rfl | rfl
 · exact ⟨_,_,_,rfl,h.1 0 _ rfl,h.1 1 _ rfl,h.1 2 _ rfl⟩
 · exact ⟨_,_,_,rfl,h.1 3 _ rfl,h.1 4 _ rfl,h.1 5 _ rfl⟩
 · exact ⟨_,_,_,rfl,h.1 6 _ rfl,h.1 7 _ rfl,h.1 8 _ rfl⟩
theorem net_cells3 {w:World} {b1 b2 b3:Nat} (h1:BoxL w b1 [.string aIndex,.string aSlot,.string aAddress]) (h2:BoxL w b2 [.string pEno,.string pEns,.string pEnx]) (h3:BoxL w b3 [.string kOnboard,.string kSlot,.string kMac]) {k:Nat} (hk:k<3) :
  ∃ kk pp aa,netT[k]? = some (kk,pp,aa)∧w.cell? ⟨b1,k,none⟩=some (.string aa)∧w.cell? ⟨b2,k,none⟩=some (.string pp)∧w.cell? ⟨b3,k,none⟩=some (.string kk):=by
 have:k=0∨k=1∨k=2:=by omega
 rcases this with rfl | rfl | rfl
 · exact ⟨_,_,_,rfl,h1.1 0 _ rfl,h2.1 0 _ rfl,h3.1 0 _ rfl⟩
 · exact ⟨_,_,_,rfl,h1.1 1 _ rfl,h2.1 1 _ rfl,h3.1 1 _ rfl⟩
 · exact ⟨_,_,_,rfl,h1.1 2 _ rfl,h2.1 2 _ rfl,h3.1 2 _ rfl⟩
theorem netV_addr {d:Dev} {p a:ByteArray} (h:a=aAddress):netV d p a=p ++ noColon (valA d a):=by unfold netV;rw [if_pos h];rfl
theorem netV_other {d:Dev} {p a:ByteArray} (h:¬ a=aAddress):netV d p a=p ++ valA d a:=by unfold netV;rw [if_neg h];rfl
theorem netOk_none {d:Dev} {p a:ByteArray} (h:(getA d.attrs a).isSome=false):netOk d p a=false:=by unfold netOk;rw [h];rfl
theorem netOk_some {d:Dev} {p a v:ByteArray} {q:Bool} (h:(getA d.attrs a).isSome=true) (hv:netV d p a=p ++ v) (hq:ifaceB (p ++ v)=q):netOk d p a=q:=by unfold netOk;rw [h,hv,hq];rfl
end Go.Cold
namespace Go.Proofs.YtjgllhlilbchpaaGreatDoor
open Go.RowKit Go.Cold
theorem Colon_any (s:ByteArray) (w:World) (hs:s.size≤256) (hok:Ok w):Calls Tryz.prog 56 #[.string s,.string ⟨#[58]⟩,.string ⟨#[]⟩] w fun e w'=>e=.returned (.string (noColon s))∧Below w.heap.size w w':=by
 obtain ⟨m,hm⟩:=hok;have h1:(⟨#[]⟩:ByteArray).size=0:=rfl;refine (Tryz.strings_ReplaceAll s ⟨#[58]⟩ ⟨#[]⟩ m w (by omega) hm (by show 1≤1;omega) (by rw [h1];omega)).mono ?_;rintro e w' ⟨rfl,hb⟩;exact ⟨by rw [show (⟨#[58]⟩:ByteArray).data.toList=[58] from rfl,show (⟨#[]⟩:ByteArray).data.toList=[] from rfl,replaceAll_drop];rfl,hb⟩
set_option maxRecDepth 100000 in
set_option maxHeartbeats 4000000 in
theorem Net_any (A:Option Addr) (c:Nat) (L:List Dev) (n:Int) (w:World) (B:Nat) (hB:B≤w.heap.size) (hx:Sl w B A c L) (hv:VT L) (hok:Ok7 w) (hko:Ok w) :
  Calls Tryz.prog 22 #[.agg #[.slice A L.length c],.int .i64 n] w (SlPost (netL L n) w):=by
 have hx1:=hx.1;have hx2:=hx.2.1;unfold maxLen at hx2;have HX:=Lh_ hx;have HB:=Lh_ hB;have HV:=Lh_ hv;have HOK:=Lh_ hok;clear hx hB hv hok;have HKO:=Lh_ hko;clear hko;have HLA:=Lh_ (show ∀ d ∈ L,d.attrs.length≤1000000 from fun d hd=>attrs_le (HV.out.chk d hd));go_enter Tryz.func22,Tryz.ntmps22;go_upto_region 1 with fail
 obtain ⟨w1,hw1,hbw1,HGw1,HXtw1⟩:=bx_ w [.slice A L.length c] 28;try simp only [hw1]
 have HBw1:=Lh_ hbw1;clear hw1 hbw1;try rw [← HGw1.out]
 have ct0:=HXtw1.out.1 0 _ rfl;go_wp2_with fail;refine (TFind_any A c L (n) _ B (Nat.le_trans HB.out HBw1.out.size) (HX.out.keep (HBw1.out.mono HB.out)) HLA.out).mono ?_;rintro e w2 ⟨hbw2,d,A3,c3,hd,rfl,hod,hsd⟩;clear ct0;have HBw2:=tb_ HBw1 hbw2;have tw2:=kb_ HXtw1 hbw2;clear hbw2;have ct0:=tw2.out.1 0 _ rfl;have Hd:=Lh_ (show d=(findD L (n)).getD zeroD from hd);have HOd:=Lh_ hod;have HSd:=Lh_ (show Sl w2 w2.heap.size A3 c3 d.attrs from hsd.sl (fun x hx=>hx.2));clear hd hod hsd;obtain ⟨qd,hqd⟩:∃ q,(L.find? (byIdx (n))).isSome=q:=⟨_,rfl⟩;rw [hqd];clear hqd;go_upto_region 2 with fail
 obtain ⟨w3,hw3,hbw3,HGw3,HXaw3⟩:=bx_ w2 [.int .i64 d.idx,.int .i64 d.par,.string d.nm,.string d.orig,.string d.sub,.string d.drv,.string d.ali,.int .i64 d.kind,.int .i64 d.num,.slice A3 d.attrs.length c3] 32;try simp only [hw3]
 have HBw3:=tb_ HBw2 hbw3;have tw3:=kb_ tw2 hbw3;have HSdw3:=Lh_ ((HSd.out).next (Nat.le_refl _) hbw3);clear hw3 hbw3;try rw [← HGw3.out]
 clear ct0;have ct0:=tw3.out.1 0 _ rfl;obtain ⟨ca0,ca1,ca2,ca3,ca4,ca5,ca6,ca7,ca8,ca9⟩:=s10_ HXaw3.out.1;have HVS:=Lh_ (show ∀ a,(valA d a).size≤256 from fun a=>val_small HV.out Hd.out a);by_cases hk:d.kind=4
 case neg =>
  have hkb:(d.kind != 4)=true:=by simp [hk]
  have HE:=Lh_ (netL_kind Hd.out hk);clear hk;go_wp2;go_ret;exact ⟨HBw3.out,none,0,by rw [HE.out];rfl,by rw [HE.out];exact Sl.nil_⟩
 have hkb:(d.kind != 4)=false:=by simp [hk]
 have HE:=Lh_ (netL_all Hd.out hk);clear hk;go_wp2_with fail;obtain ⟨w4,hw4,hbw4,HGw4,HXxw4⟩:=bx_ w3 [.string ⟨#[73,68,95,78,69,84,95,78,65,77,69,95,79,78,66,79,65,82,68]⟩,.string ⟨#[101,110,111]⟩,.string ⟨#[105,110,100,101,120]⟩,.string ⟨#[73,68,95,78,69,84,95,78,65,77,69,95,83,76,79,84]⟩,.string ⟨#[101,110,115]⟩,.string ⟨#[115,108,111,116]⟩,.string ⟨#[73,68,95,78,69,84,95,78,65,77,69,95,77,65,67]⟩,.string ⟨#[101,110,120]⟩,.string ⟨#[97,100,100,114,101,115,115]⟩] 77;try simp only [hw4]
 have HBw4:=tb_ HBw3 hbw4;have tw4:=kb_ tw3 hbw4;have aw4:=kb_ HXaw3 hbw4;have HSdw4:=Lh_ ((HSdw3.out).next (Nat.le_refl _) hbw4);clear hw4 hbw4;try rw [← HGw4.out]
 clear ct0 ca0 ca1 ca2 ca3 ca4 ca5 ca6 ca7 ca8 ca9;go_loopw [7,26] (fun v i wr=>∃ (A7:Option Addr) (c7:Nat) (l:List Attr) (k:Nat),k≤3∧v=.slice A7 l.length c7∧i=.int .i64 (k:Int)∧Hid (Below w4.heap.size w4 wr)∧Hid (Sl wr wr.heap.size A7 c7 l)∧Hid (putAll (netP d (netT.take k))=l)) (fun _ i _=>3 - (intOf i).toNat)
 case atStart=>exact ⟨none,0,[],0,by omega,rfl,rfl,Below.refl _ _,Sl.nil_,rfl⟩
 case round =>
  obtain ⟨A7,c7,l0,k,hk,rfl,rfl,HBR,HSL,HA⟩:=hrel;have HBwr:=Lh_ (HBw4.out.trans (HBR.out.mono HBw4.out.size));have HSdwr:=Lh_ (HSdw4.out.next (Nat.le_refl _) HBR.out);have awr:=Lh_ (aw4.out.kept (grown_none HBR.out) (fun e=>by cases e));have xwr:=Lh_ (HXxw4.out.kept (grown_none HBR.out) (fun e=>by cases e));have hl1:=HSL.out.1;have hl2:=HSL.out.2.1;unfold maxLen at hl2;by_cases hlt:k<3
  ·
   have i1:(k:Int)<3:=by omega
   obtain ⟨kk,pp,aa,hT,x0,x1,x2⟩:=net_cells xwr.out hlt;obtain ⟨hz1,hz2⟩:=net_small hT;have HT:=Lh_ hT;have HZ1:=Lh_ hz1;have HZ2:=Lh_ hz2;have HLT:=Lh_ hlt;clear hT hz1 hz2;obtain ⟨v0,hv0⟩:∃ z,valA d aa=z:=⟨_,rfl⟩;obtain ⟨qo,hqo⟩:∃ z,(getA d.attrs aa).isSome=z:=⟨_,rfl⟩;have HV0:=Lh_ hv0;have HQO:=Lh_ hqo;have HVZ:=Lh_ (show v0.size≤256 from hv0 ▸ HVS.out aa);clear hv0 hqo;go_upto_region 8 with fail
   obtain ⟨w5,hw5,hbw5,HGw5,HXew5⟩:=bx_ wr [.string kk,.string pp,.string aa] 77;try simp only [hw5]
   have HBw5:=tb_ HBwr hbw5;have aw5:=kb_ awr hbw5;have xw5:=kb_ xwr hbw5;have HBRw5:=Lh_ (below_onto HBR.out hbw5);have HSdw5:=Lh_ ((HSdwr.out).next (Nat.le_refl _) hbw5);have HSLw5:=Lh_ ((HSL.out).next (Nat.le_refl _) hbw5);clear hw5 hbw5;try rw [← HGw5.out]
   clear x0 x1 x2;have ca9:=aw5.out.1 9 _ rfl;have ce0:=HXew5.out.1 0 _ rfl;have ce1:=HXew5.out.1 1 _ rfl;have ce2:=HXew5.out.1 2 _ rfl;go_wp2_with fail;refine (Get_any A3 c3 d.attrs aa _ w5.heap.size (Nat.le_refl _) HSdw5.out).mono ?_;rintro e w6 ⟨rfl,hbw6⟩;clear ca9 ce0 ce1 ce2;have HBw6:=tb_ HBw5 hbw6;have aw6:=kb_ aw5 hbw6;have xw6:=kb_ xw5 hbw6;have ew6:=kb_ HXew5 hbw6;have HBRw6:=Lh_ (below_onto HBRw5.out hbw6);have HSdw6:=Lh_ ((HSdw5.out).next (Nat.le_refl _) hbw6);have HSLw6:=Lh_ ((HSLw5.out).next (Nat.le_refl _) hbw6);clear hbw6;have ca9:=aw6.out.1 9 _ rfl;have ce0:=ew6.out.1 0 _ rfl;have ce1:=ew6.out.1 1 _ rfl;have ce2:=ew6.out.1 2 _ rfl;rw [show (getA d.attrs aa).getD ByteArray.empty=v0 from HV0.out,HQO.out];by_cases ha:aa=aAddress
   ·
    have e1_:(aa.toList == [97,100,100,114,101,115,115])=true:=by rw [str_eq (a:=#[97,100,100,114,101,115,115]) (by decide +kernel)];exact decide_eq_true ha
    have e2_:(aa.toList == (⟨#[97,100,100,114,101,115,115]⟩:ByteArray).toList)=true:=by rw [show (⟨#[97,100,100,114,101,115,115]⟩:ByteArray).toList=[97,100,100,114,101,115,115] by decide +kernel];exact e1_
    have HNV:=Lh_ (show netV d pp aa=pp ++ noColon v0 by rw [netV_addr ha,HV0.out]);clear ha;go_wp2_with fail;refine (Colon_any v0 _ HVZ.out (HKO.out.next HBw6.out)).mono ?_;rintro e w7 ⟨rfl,hbw7⟩;clear ca9 ce0 ce1 ce2;have HBw7:=tb_ HBw6 hbw7;have aw7:=kb_ aw6 hbw7;have xw7:=kb_ xw6 hbw7;have ew7:=kb_ ew6 hbw7;have HBRw7:=Lh_ (below_onto HBRw6.out hbw7);have HSdw7:=Lh_ ((HSdw6.out).next (Nat.le_refl _) hbw7);have HSLw7:=Lh_ ((HSLw6.out).next (Nat.le_refl _) hbw7);clear hbw7;have ca9:=aw7.out.1 9 _ rfl;have ce0:=ew7.out.1 0 _ rfl;have ce1:=ew7.out.1 1 _ rfl;have ce2:=ew7.out.1 2 _ rfl;obtain ⟨v1,hv1⟩:∃ z,noColon v0=z:=⟨_,rfl⟩;have HNV1:=Lh_ (show netV d pp aa=pp ++ v1 by rw [← hv1];exact HNV.out);have HVZ1:=Lh_ (show v1.size≤256 by rw [← hv1];exact Nat.le_trans (noColon_size v0) HVZ.out);rw [hv1];clear HNV hv1 e1_ e2_;cases qo
    ·
     have HNX:=Lh_ (show putAll (netP d (netT.take (k+1)))=l0 by rw [net_no HT.out (netOk_none HQO.out)];exact HA.out);go_wp2;go_roundw
     case rel=>exact ⟨A7,c7,l0,k+1,by have:=HLT.out;omega,rfl,by go_num,HBRw7,HSLw7,HNX⟩
     case measure=>have:=HLT.out;simp [intOf];omega
    ·
     have hz1:=HVZ1.out;have hz2:=HZ2.out;have f1:¬ 9223372036854775807<pp.size+v1.size:=by omega
     have HPV:=Lh_ (show (pp ++ v1).size≤maxLen by rw [ByteArray.size_append];unfold maxLen;omega);clear hz1 hz2;go_wp2_with fail;refine (Interface_any (pp ++ v1) _ HPV.out).mono ?_;rintro e w8 ⟨rfl,hbw8⟩;clear ca9 ce0 ce1 ce2;have HBw8:=tb_ HBw7 hbw8;have aw8:=kb_ aw7 hbw8;have xw8:=kb_ xw7 hbw8;have ew8:=kb_ ew7 hbw8;have HBRw8:=Lh_ (below_onto HBRw7.out hbw8);have HSdw8:=Lh_ ((HSdw7.out).next (Nat.le_refl _) hbw8);have HSLw8:=Lh_ ((HSLw7.out).next (Nat.le_refl _) hbw8);clear hbw8;have ca9:=aw8.out.1 9 _ rfl;have ce0:=ew8.out.1 0 _ rfl;have ce1:=ew8.out.1 1 _ rfl;have ce2:=ew8.out.1 2 _ rfl;obtain ⟨qi,hqi⟩:∃ z,ifaceB (pp ++ v1)=z:=⟨_,rfl⟩;rw [hqi];have HOKV:=Lh_ (netOk_some HQO.out HNV1.out hqi);clear hqi;cases qi
     ·
      have HNX:=Lh_ (show putAll (netP d (netT.take (k+1)))=l0 by rw [net_no HT.out HOKV.out];exact HA.out);go_wp2;go_roundw
      case rel=>exact ⟨A7,c7,l0,k+1,by have:=HLT.out;omega,rfl,by go_num,HBRw8,HSLw8,HNX⟩
      case measure=>have:=HLT.out;simp [intOf];omega
     ·
      go_wp2_with fail;refine (Put_any A7 c7 l0 kk (pp ++ v1) _ w8.heap.size (Nat.le_refl _) HSLw8.out (put_srt HA.out) (put_len HA.out (net_len d k)) HZ1.out HPV.out).mono ?_;rintro e w9 ⟨hbw9,A1_,c1_,rfl,hs_⟩;clear ca9 ce0 ce1 ce2;have HBw9:=tb_ HBw8 hbw9;have aw9:=kb_ aw8 hbw9;have xw9:=kb_ xw8 hbw9;have ew9:=kb_ ew8 hbw9;have HBRw9:=Lh_ (below_onto HBRw8.out hbw9);have HSdw9:=Lh_ ((HSdw8.out).next (Nat.le_refl _) hbw9);have HSLw9:=Lh_ ((HSLw8.out).next (Nat.le_refl _) hbw9);clear hbw9;obtain ⟨l1,hl_⟩:∃ z,putA l0 kk (pp ++ v1)=z:=⟨_,rfl⟩;rw [hl_] at hs_ ⊢;have HL1:=Lh_ hl_;have HS1:=Lh_ hs_;clear hs_ hl_;have HNX:=Lh_ (show putAll (netP d (netT.take (k+1)))=l1 by rw [net_yes HT.out HOKV.out,HNV1.out];exact (put_next HA.out (net_new HT.out)).trans HL1.out);go_wp2;go_roundw
      case rel=>exact ⟨A1_,c1_,l1,k+1,by have:=HLT.out;omega,rfl,by go_num,HBRw9,HS1,HNX⟩
      case measure=>have:=HLT.out;simp [intOf];omega
   ·
    have e1_:(aa.toList == [97,100,100,114,101,115,115])=false:=by rw [str_eq (a:=#[97,100,100,114,101,115,115]) (by decide +kernel)];exact decide_eq_false ha
    have e2_:(aa.toList == (⟨#[97,100,100,114,101,115,115]⟩:ByteArray).toList)=false:=by rw [show (⟨#[97,100,100,114,101,115,115]⟩:ByteArray).toList=[97,100,100,114,101,115,115] by decide +kernel];exact e1_
    have HNV:=Lh_ (show netV d pp aa=pp ++ v0 by rw [netV_other ha,HV0.out]);clear ha;cases qo
    ·
     have HNX:=Lh_ (show putAll (netP d (netT.take (k+1)))=l0 by rw [net_no HT.out (netOk_none HQO.out)];exact HA.out);go_wp2;go_roundw
     case rel=>exact ⟨A7,c7,l0,k+1,by have:=HLT.out;omega,rfl,by go_num,HBRw6,HSLw6,HNX⟩
     case measure=>have:=HLT.out;simp [intOf];omega
    ·
     have hz1:=HVZ.out;have hz2:=HZ2.out;have f1:¬ 9223372036854775807<pp.size+v0.size:=by omega
     have HPV:=Lh_ (show (pp ++ v0).size≤maxLen by rw [ByteArray.size_append];unfold maxLen;omega);clear hz1 hz2;go_wp2_with fail;refine (Interface_any (pp ++ v0) _ HPV.out).mono ?_;rintro e w10 ⟨rfl,hbw10⟩;clear ca9 ce0 ce1 ce2;have HBw10:=tb_ HBw6 hbw10;have aw10:=kb_ aw6 hbw10;have xw10:=kb_ xw6 hbw10;have ew10:=kb_ ew6 hbw10;have HBRw10:=Lh_ (below_onto HBRw6.out hbw10);have HSdw10:=Lh_ ((HSdw6.out).next (Nat.le_refl _) hbw10);have HSLw10:=Lh_ ((HSLw6.out).next (Nat.le_refl _) hbw10);clear hbw10;have ca9:=aw10.out.1 9 _ rfl;have ce0:=ew10.out.1 0 _ rfl;have ce1:=ew10.out.1 1 _ rfl;have ce2:=ew10.out.1 2 _ rfl;obtain ⟨qi,hqi⟩:∃ z,ifaceB (pp ++ v0)=z:=⟨_,rfl⟩;rw [hqi];have HOKV:=Lh_ (netOk_some HQO.out HNV.out hqi);clear hqi;cases qi
     ·
      have HNX:=Lh_ (show putAll (netP d (netT.take (k+1)))=l0 by rw [net_no HT.out HOKV.out];exact HA.out);go_wp2;go_roundw
      case rel=>exact ⟨A7,c7,l0,k+1,by have:=HLT.out;omega,rfl,by go_num,HBRw10,HSLw10,HNX⟩
      case measure=>have:=HLT.out;simp [intOf];omega
     ·
      go_wp2_with fail;refine (Put_any A7 c7 l0 kk (pp ++ v0) _ w10.heap.size (Nat.le_refl _) HSLw10.out (put_srt HA.out) (put_len HA.out (net_len d k)) HZ1.out HPV.out).mono ?_;rintro e w11 ⟨hbw11,A1_,c1_,rfl,hs_⟩;clear ca9 ce0 ce1 ce2;have HBw11:=tb_ HBw10 hbw11;have aw11:=kb_ aw10 hbw11;have xw11:=kb_ xw10 hbw11;have ew11:=kb_ ew10 hbw11;have HBRw11:=Lh_ (below_onto HBRw10.out hbw11);have HSdw11:=Lh_ ((HSdw10.out).next (Nat.le_refl _) hbw11);have HSLw11:=Lh_ ((HSLw10.out).next (Nat.le_refl _) hbw11);clear hbw11;obtain ⟨l1,hl_⟩:∃ z,putA l0 kk (pp ++ v0)=z:=⟨_,rfl⟩;rw [hl_] at hs_ ⊢;have HL1:=Lh_ hl_;have HS1:=Lh_ hs_;clear hs_ hl_;have HNX:=Lh_ (show putAll (netP d (netT.take (k+1)))=l1 by rw [net_yes HT.out HOKV.out,HNV.out];exact (put_next HA.out (net_new HT.out)).trans HL1.out);go_wp2;go_roundw
      case rel=>exact ⟨A1_,c1_,l1,k+1,by have:=HLT.out;omega,rfl,by go_num,HBRw11,HS1,HNX⟩
      case measure=>have:=HLT.out;simp [intOf];omega
  ·
   have i1:¬ (k:Int)<3:=by omega
   have HE2:=Lh_ (show netL L n=l0 by rw [HE.out,← HA.out,show k=3 by omega]);go_wp2;go_ret;exact ⟨HBwr.out,A7,c7,by rw [HE2.out];rfl,by rw [HE2.out];exact HSL.out⟩
set_option maxRecDepth 100000 in
set_option maxHeartbeats 4000000 in
theorem RNet11_any (A:Option Addr) (c:Nat) (L:List Dev) (n:Int) (w:World) (B:Nat) (hB:B≤w.heap.size) (hx:Sl w B A c L) (hv:VT L) (hok:Ok7 w) (hko:Ok w) :
  Calls Tryz.prog 30 #[.agg #[.slice A L.length c],.int .i64 n] w (SlPost (netL L n) w):=by
 have hx1:=hx.1;have hx2:=hx.2.1;unfold maxLen at hx2;have HX:=Lh_ hx;have HB:=Lh_ hB;have HV:=Lh_ hv;have HOK:=Lh_ hok;clear hx hB hv hok;have HKO:=Lh_ hko;clear hko;have HLA:=Lh_ (show ∀ d ∈ L,d.attrs.length≤1000000 from fun d hd=>attrs_le (HV.out.chk d hd));go_enter Tryz.func30,Tryz.ntmps30;go_upto_region 1 with fail
 obtain ⟨w1,hw1,hbw1,HGw1,HXtw1⟩:=bx_ w [.slice A L.length c] 28;try simp only [hw1]
 have HBw1:=Lh_ hbw1;clear hw1 hbw1;try rw [← HGw1.out]
 have ct0:=HXtw1.out.1 0 _ rfl;go_wp2_with fail;refine (RFind_any A c L (n) _ B (Nat.le_trans HB.out HBw1.out.size) (HX.out.keep (HBw1.out.mono HB.out))).mono ?_;rintro e w2 ⟨hbw2,d,A3,c3,hd,rfl,hod,hsd⟩;clear ct0;have HBw2:=tb_ HBw1 hbw2;have tw2:=kb_ HXtw1 hbw2;clear hbw2;have ct0:=tw2.out.1 0 _ rfl;have Hd:=Lh_ (show d=(findD L (n)).getD zeroD from hd);have HOd:=Lh_ hod;have HSd:=Lh_ ((show Sl w2 B A3 c3 d.attrs from hsd).more (Nat.le_trans HB.out HBw2.out.size));clear hd hod hsd;obtain ⟨qd,hqd⟩:∃ q,(findD L (n)).isSome=q:=⟨_,rfl⟩;rw [hqd];clear hqd;go_upto_region 2 with fail
 obtain ⟨w3,hw3,hbw3,HGw3,HXaw3⟩:=bx_ w2 [.int .i64 d.idx,.int .i64 d.par,.string d.nm,.string d.orig,.string d.sub,.string d.drv,.string d.ali,.int .i64 d.kind,.int .i64 d.num,.slice A3 d.attrs.length c3] 32;try simp only [hw3]
 have HBw3:=tb_ HBw2 hbw3;have tw3:=kb_ tw2 hbw3;have HSdw3:=Lh_ ((HSd.out).next (Nat.le_refl _) hbw3);clear hw3 hbw3;try rw [← HGw3.out]
 clear ct0;have ct0:=tw3.out.1 0 _ rfl;obtain ⟨ca0,ca1,ca2,ca3,ca4,ca5,ca6,ca7,ca8,ca9⟩:=s10_ HXaw3.out.1;have HVS:=Lh_ (show ∀ a,(valA d a).size≤256 from fun a=>val_small HV.out Hd.out a);by_cases hk:d.kind=4
 case neg =>
  have hkb:(d.kind != 4)=true:=by simp [hk]
  have HE:=Lh_ (netL_kind Hd.out hk);clear hk;go_wp2;go_ret;exact ⟨HBw3.out,none,0,by rw [HE.out];rfl,by rw [HE.out];exact Sl.nil_⟩
 have hkb:(d.kind != 4)=false:=by simp [hk]
 have HE:=Lh_ (netL_all Hd.out hk);clear hk;go_upto_region 6 with fail
 obtain ⟨w4,hw4,hbw4,HGw4,HXuw4⟩:=bx_ w3 [.string ⟨#[105,110,100,101,120]⟩,.string ⟨#[115,108,111,116]⟩,.string ⟨#[97,100,100,114,101,115,115]⟩] 9;try simp only [hw4]
 have HBw4:=tb_ HBw3 hbw4;have tw4:=kb_ tw3 hbw4;have aw4:=kb_ HXaw3 hbw4;have HSdw4:=Lh_ ((HSdw3.out).next (Nat.le_refl _) hbw4);clear hw4 hbw4;try rw [← HGw4.out]
 go_upto_region 7 with fail
 obtain ⟨w5,hw5,hbw5,HGw5,HXpw5⟩:=bx_ w4 [.string ⟨#[101,110,111]⟩,.string ⟨#[101,110,115]⟩,.string ⟨#[101,110,120]⟩] 9;try simp only [hw5]
 have HBw5:=tb_ HBw4 hbw5;have tw5:=kb_ tw4 hbw5;have aw5:=kb_ aw4 hbw5;have uw5:=kb_ HXuw4 hbw5;have HSdw5:=Lh_ ((HSdw4.out).next (Nat.le_refl _) hbw5);clear hw5 hbw5;try rw [← HGw5.out]
 go_wp2_with fail;obtain ⟨w6,hw6,hbw6,HGw6,HXqw6⟩:=bx_ w5 [.string ⟨#[73,68,95,78,69,84,95,78,65,77,69,95,79,78,66,79,65,82,68]⟩,.string ⟨#[73,68,95,78,69,84,95,78,65,77,69,95,83,76,79,84]⟩,.string ⟨#[73,68,95,78,69,84,95,78,65,77,69,95,77,65,67]⟩] 9;try simp only [hw6]
 have HBw6:=tb_ HBw5 hbw6;have tw6:=kb_ tw5 hbw6;have aw6:=kb_ aw5 hbw6;have uw6:=kb_ uw5 hbw6;have pw6:=kb_ HXpw5 hbw6;have HSdw6:=Lh_ ((HSdw5.out).next (Nat.le_refl _) hbw6);clear hw6 hbw6;try rw [← HGw6.out]
 clear ct0 ca0 ca1 ca2 ca3 ca4 ca5 ca6 ca7 ca8 ca9;go_loopw [7,11] (fun v i wr=>∃ (A7:Option Addr) (c7:Nat) (l:List Attr) (k:Nat),k≤3∧v=.slice A7 l.length c7∧i=.int .i64 (k:Int)∧Hid (Below w6.heap.size w6 wr)∧Hid (Sl wr wr.heap.size A7 c7 l)∧Hid (putAll (netP d (netT.take k))=l)) (fun _ i _=>3 - (intOf i).toNat)
 case atStart=>exact ⟨none,0,[],0,by omega,rfl,rfl,Below.refl _ _,Sl.nil_,rfl⟩
 case round =>
  obtain ⟨A7,c7,l0,k,hk,rfl,rfl,HBR,HSL,HA⟩:=hrel;have HBwr:=Lh_ (HBw6.out.trans (HBR.out.mono HBw6.out.size));have HSdwr:=Lh_ (HSdw6.out.next (Nat.le_refl _) HBR.out);have awr:=Lh_ (aw6.out.kept (grown_none HBR.out) (fun e=>by cases e));have uwr:=Lh_ (uw6.out.kept (grown_none HBR.out) (fun e=>by cases e));have pwr:=Lh_ (pw6.out.kept (grown_none HBR.out) (fun e=>by cases e));have qwr:=Lh_ (HXqw6.out.kept (grown_none HBR.out) (fun e=>by cases e));have hl1:=HSL.out.1;have hl2:=HSL.out.2.1;unfold maxLen at hl2;by_cases hlt:k<3
  ·
   have i1:(k:Int)<3:=by omega
   obtain ⟨kk,pp,aa,hT,x0,x1,x2⟩:=net_cells3 uwr.out pwr.out qwr.out hlt;obtain ⟨hz1,hz2⟩:=net_small hT;have HT:=Lh_ hT;have HZ1:=Lh_ hz1;have HZ2:=Lh_ hz2;have HLT:=Lh_ hlt;clear hT hz1 hz2;obtain ⟨v0,hv0⟩:∃ z,valA d aa=z:=⟨_,rfl⟩;obtain ⟨qo,hqo⟩:∃ z,(getA d.attrs aa).isSome=z:=⟨_,rfl⟩;have HV0:=Lh_ hv0;have HQO:=Lh_ hqo;have HVZ:=Lh_ (show v0.size≤256 from hv0 ▸ HVS.out aa);clear hv0 hqo;have HX0:=Lh_ x0;have HX1:=Lh_ x1;have HX2:=Lh_ x2;clear x0 x1 x2;go_upto_region 11 with fail
   refine wp_region_held_drew (S:=fun w'=>BoxL w' (w2.heap.size) [.int .i64 d.idx,.int .i64 d.par,.string d.nm,.string d.orig,.string d.sub,.string d.drv,.string d.ali,.int .i64 d.kind,.int .i64 d.num,.slice A3 d.attrs.length c3]∧w'.cell? ⟨w3.heap.size,k,none⟩=some (.string aa)∧w'.cell? ⟨w4.heap.size,k,none⟩=some (.string pp)∧w'.cell? ⟨w5.heap.size,k,none⟩=some (.string kk)) (by kernel_rfl) ⟨awr.out.drew,cell_nx HX0.out (below_drewN_self _ _ 1),cell_nx HX1.out (below_drewN_self _ _ 1),cell_nx HX2.out (below_drewN_self _ _ 1)⟩ (fun hS0=>?_);obtain ⟨wd,hwd⟩:∃ z,World.drew wr=z:=⟨_,rfl⟩;rw [hwd] at hS0 ⊢;have hb_:Below wr.heap.size wr wd:=by rw [← hwd];exact below_drewN_self _ _ 1
   clear hwd hS0;have HBwd:=tb_ HBwr hb_;have awd:=kb_ awr hb_;have uwd:=kb_ uwr hb_;have pwd:=kb_ pwr hb_;have qwd:=kb_ qwr hb_;have HBRwd:=Lh_ (below_onto HBR.out hb_);have HSdwd:=Lh_ ((HSdwr.out).next (Nat.le_refl _) hb_);have HSLwd:=Lh_ ((HSL.out).next (Nat.le_refl _) hb_);have HX0wd:=Lh_ (cell_nx (HX0.out) hb_);have HX1wd:=Lh_ (cell_nx (HX1.out) hb_);have HX2wd:=Lh_ (cell_nx (HX2.out) hb_);clear hb_;refine tk1 0 33 (.pointer (some ⟨w2.heap.size,9,none⟩)) rfl (fun w' hS=>by go_simp) ⟨awd.out,HX0wd.out,HX1wd.out,HX2wd.out⟩ ?_;try simp only [Act.put,sA_,sB_,sC_]
   refine tk1 1 34 (.slice A3 d.attrs.length c3) rfl (fun w' hS=>by (have u0_:=hS.1.1 9 _ rfl;go_simp)) ⟨awd.out,HX0wd.out,HX1wd.out,HX2wd.out⟩ ?_;try simp only [Act.put,sA_,sB_,sC_]
   refine tk1 2 35 (.slice (some ⟨w3.heap.size,0,none⟩) 3 3) rfl (fun w' hS=>by go_simp) ⟨awd.out,HX0wd.out,HX1wd.out,HX2wd.out⟩ ?_;try simp only [Act.put,sA_,sB_,sC_]
   refine tk1 3 36 (.int .i64 k) rfl (fun w' hS=>by go_simp) ⟨awd.out,HX0wd.out,HX1wd.out,HX2wd.out⟩ ?_;try simp only [Act.put,sA_,sB_,sC_]
   refine tk1 4 37 (.pointer (some ⟨w3.heap.size,k,none⟩)) rfl (fun w' hS=>by go_simp) ⟨awd.out,HX0wd.out,HX1wd.out,HX2wd.out⟩ ?_;try simp only [Act.put,sA_,sB_,sC_]
   refine tk1 5 38 (.string aa) rfl (fun w' hS=>by (have u0_:=hS.2.1;go_simp)) ⟨awd.out,HX0wd.out,HX1wd.out,HX2wd.out⟩ ?_;try simp only [Act.put,sA_,sB_,sC_]
   refine rd1 6 (o:=⟨some 39,.call ⟨_,_,_⟩,_,_,_,_⟩) rfl (fun K hK=>?_);go_simp;go_at_call 64;refine (RGet_any A3 c3 d.attrs aa _ wd.heap.size (Nat.le_refl _) HSdwd.out).mono ?_;rintro e' w9 ⟨rfl,hw_⟩;rw [hw_];clear hw_ w9;rw [show (getA d.attrs aa).getD ByteArray.empty=v0 from HV0.out,HQO.out];refine hK.out _ _ ⟨awd.out,HX0wd.out,HX1wd.out,HX2wd.out⟩ (fun _=>?_);clear hK K;try simp only [Act.put,sA_,sB_,sC_]
   refine tk1 7 32 (.tuple #[.string v0,.bool qo]) rfl (fun w' hS=>by go_simp) ⟨awd.out,HX0wd.out,HX1wd.out,HX2wd.out⟩ ?_;try simp only [Act.put,sA_,sB_,sC_]
   refine tk1 8 40 (.string v0) rfl (fun w' hS=>by go_simp) ⟨awd.out,HX0wd.out,HX1wd.out,HX2wd.out⟩ ?_;try simp only [Act.put,sA_,sB_,sC_]
   refine tk1 9 41 (.bool qo) rfl (fun w' hS=>by go_simp) ⟨awd.out,HX0wd.out,HX1wd.out,HX2wd.out⟩ ?_;try simp only [Act.put,sA_,sB_,sC_]
   refine tk1 10 12 (.string v0) rfl (fun w' hS=>by go_simp) ⟨awd.out,HX0wd.out,HX1wd.out,HX2wd.out⟩ ?_;try simp only [Act.put,sA_,sB_,sC_]
   refine tk1 11 13 (.bool qo) rfl (fun w' hS=>by go_simp) ⟨awd.out,HX0wd.out,HX1wd.out,HX2wd.out⟩ ?_;try simp only [Act.put,sA_,sB_,sC_]
   refine wpAnyH_done (by kernel_rfl) ?_ _;have x0:=HX0wd.out;have x1:=HX1wd.out;have x2:=HX2wd.out;by_cases ha:aa=aAddress
   ·
    have e1_:(aa.toList == [97,100,100,114,101,115,115])=true:=by rw [str_eq (a:=#[97,100,100,114,101,115,115]) (by decide +kernel)];exact decide_eq_true ha
    have e2_:(aa.toList == (⟨#[97,100,100,114,101,115,115]⟩:ByteArray).toList)=true:=by rw [show (⟨#[97,100,100,114,101,115,115]⟩:ByteArray).toList=[97,100,100,114,101,115,115] by decide +kernel];exact e1_
    have HNV:=Lh_ (show netV d pp aa=pp ++ noColon v0 by rw [netV_addr ha,HV0.out]);clear ha;go_wp2_with fail;refine (Colon_any v0 _ HVZ.out (HKO.out.next HBwd.out)).mono ?_;rintro e w7 ⟨rfl,hbw7⟩;clear x0 x1 x2;have HBw7:=tb_ HBwd hbw7;have aw7:=kb_ awd hbw7;have uw7:=kb_ uwd hbw7;have pw7:=kb_ pwd hbw7;have qw7:=kb_ qwd hbw7;have HBRw7:=Lh_ (below_onto HBRwd.out hbw7);have HSdw7:=Lh_ ((HSdwd.out).next (Nat.le_refl _) hbw7);have HSLw7:=Lh_ ((HSLwd.out).next (Nat.le_refl _) hbw7);have HX0w7:=Lh_ (cell_nx (HX0wd.out) hbw7);have HX1w7:=Lh_ (cell_nx (HX1wd.out) hbw7);have HX2w7:=Lh_ (cell_nx (HX2wd.out) hbw7);clear hbw7;have x0:=HX0w7.out;have x1:=HX1w7.out;have x2:=HX2w7.out;obtain ⟨v1,hv1⟩:∃ z,noColon v0=z:=⟨_,rfl⟩;have HNV1:=Lh_ (show netV d pp aa=pp ++ v1 by rw [← hv1];exact HNV.out);have HVZ1:=Lh_ (show v1.size≤256 by rw [← hv1];exact Nat.le_trans (noColon_size v0) HVZ.out);rw [hv1];clear HNV hv1 e1_ e2_;cases qo
    ·
     have HNX:=Lh_ (show putAll (netP d (netT.take (k+1)))=l0 by rw [net_no HT.out (netOk_none HQO.out)];exact HA.out);go_wp2;go_roundw
     case rel=>exact ⟨A7,c7,l0,k+1,by have:=HLT.out;omega,rfl,by go_num,HBRw7,HSLw7,HNX⟩
     case measure=>have:=HLT.out;simp [intOf];omega
    ·
     have hz1:=HVZ1.out;have hz2:=HZ2.out;have f1:¬ 9223372036854775807<pp.size+v1.size:=by omega
     have HPV:=Lh_ (show (pp ++ v1).size≤maxLen by rw [ByteArray.size_append];unfold maxLen;omega);clear hz1 hz2;go_wp2_with fail;refine (RInterface_any (pp ++ v1) _ HPV.out).mono ?_;rintro e w' ⟨rfl,rfl⟩;obtain ⟨qi,hqi⟩:∃ z,ifaceB (pp ++ v1)=z:=⟨_,rfl⟩;rw [hqi];have HOKV:=Lh_ (netOk_some HQO.out HNV1.out hqi);clear hqi;cases qi
     ·
      have HNX:=Lh_ (show putAll (netP d (netT.take (k+1)))=l0 by rw [net_no HT.out HOKV.out];exact HA.out);go_wp2;go_roundw
      case rel=>exact ⟨A7,c7,l0,k+1,by have:=HLT.out;omega,rfl,by go_num,HBRw7,HSLw7,HNX⟩
      case measure=>have:=HLT.out;simp [intOf];omega
     ·
      go_upto_region 15 with fail
      refine wp_region_held_drew (S:=fun w'=>BoxL w' (w2.heap.size) [.int .i64 d.idx,.int .i64 d.par,.string d.nm,.string d.orig,.string d.sub,.string d.drv,.string d.ali,.int .i64 d.kind,.int .i64 d.num,.slice A3 d.attrs.length c3]∧w'.cell? ⟨w3.heap.size,k,none⟩=some (.string aa)∧w'.cell? ⟨w4.heap.size,k,none⟩=some (.string pp)∧w'.cell? ⟨w5.heap.size,k,none⟩=some (.string kk)) (by kernel_rfl) ⟨aw7.out.drew,cell_nx HX0w7.out (below_drewN_self _ _ 1),cell_nx HX1w7.out (below_drewN_self _ _ 1),cell_nx HX2w7.out (below_drewN_self _ _ 1)⟩ (fun hS0=>?_);obtain ⟨we,hwe⟩:∃ z,World.drew w7=z:=⟨_,rfl⟩;rw [hwe] at hS0 ⊢;have hb_:Below w7.heap.size w7 we:=by rw [← hwe];exact below_drewN_self _ _ 1
      clear hwe hS0;clear x0 x1 x2;have HBwe:=tb_ HBw7 hb_;have awe:=kb_ aw7 hb_;have uwe:=kb_ uw7 hb_;have pwe:=kb_ pw7 hb_;have qwe:=kb_ qw7 hb_;have HBRwe:=Lh_ (below_onto HBRw7.out hb_);have HSdwe:=Lh_ ((HSdw7.out).next (Nat.le_refl _) hb_);have HSLwe:=Lh_ ((HSLw7.out).next (Nat.le_refl _) hb_);have HX0we:=Lh_ (cell_nx (HX0w7.out) hb_);have HX1we:=Lh_ (cell_nx (HX1w7.out) hb_);have HX2we:=Lh_ (cell_nx (HX2w7.out) hb_);clear hb_;refine tk1 0 59 (.slice A7 l0.length c7) rfl (fun w' hS=>by go_simp) ⟨awe.out,HX0we.out,HX1we.out,HX2we.out⟩ ?_;try simp only [Act.put,sA_,sB_,sC_]
      refine tk1 1 60 (.slice (some ⟨w5.heap.size,0,none⟩) 3 3) rfl (fun w' hS=>by go_simp) ⟨awe.out,HX0we.out,HX1we.out,HX2we.out⟩ ?_;try simp only [Act.put,sA_,sB_,sC_]
      refine tk1 2 61 (.int .i64 k) rfl (fun w' hS=>by go_simp) ⟨awe.out,HX0we.out,HX1we.out,HX2we.out⟩ ?_;try simp only [Act.put,sA_,sB_,sC_]
      refine tk1 3 62 (.pointer (some ⟨w5.heap.size,k,none⟩)) rfl (fun w' hS=>by go_simp) ⟨awe.out,HX0we.out,HX1we.out,HX2we.out⟩ ?_;try simp only [Act.put,sA_,sB_,sC_]
      refine tk1 4 63 (.string kk) rfl (fun w' hS=>by (have u0_:=hS.2.2.2;go_simp)) ⟨awe.out,HX0we.out,HX1we.out,HX2we.out⟩ ?_;try simp only [Act.put,sA_,sB_,sC_]
      refine tk1 5 64 (.slice (some ⟨w4.heap.size,0,none⟩) 3 3) rfl (fun w' hS=>by go_simp) ⟨awe.out,HX0we.out,HX1we.out,HX2we.out⟩ ?_;try simp only [Act.put,sA_,sB_,sC_]
      refine tk1 6 65 (.int .i64 k) rfl (fun w' hS=>by go_simp) ⟨awe.out,HX0we.out,HX1we.out,HX2we.out⟩ ?_;try simp only [Act.put,sA_,sB_,sC_]
      refine tk1 7 66 (.pointer (some ⟨w4.heap.size,k,none⟩)) rfl (fun w' hS=>by go_simp) ⟨awe.out,HX0we.out,HX1we.out,HX2we.out⟩ ?_;try simp only [Act.put,sA_,sB_,sC_]
      refine tk1 8 67 (.string pp) rfl (fun w' hS=>by (have u0_:=hS.2.2.1;go_simp)) ⟨awe.out,HX0we.out,HX1we.out,HX2we.out⟩ ?_;try simp only [Act.put,sA_,sB_,sC_]
      refine tk1 9 68 (.string v1) rfl (fun w' hS=>by go_simp) ⟨awe.out,HX0we.out,HX1we.out,HX2we.out⟩ ?_;try simp only [Act.put,sA_,sB_,sC_]
      refine tk1 10 69 (.string (pp ++ v1)) rfl (fun w' hS=>by go_simp) ⟨awe.out,HX0we.out,HX1we.out,HX2we.out⟩ ?_;try simp only [Act.put,sA_,sB_,sC_]
      refine rd1 11 (o:=⟨some 70,.call ⟨_,_,_⟩,_,_,_,_⟩) rfl (fun K hK=>?_);have hne_:(pp ++ v1).toList.isEmpty=false:=by
       rw [Lib.toList_data];have h1:=HZ2.out;rw [List.isEmpty_eq_false_iff];intro h2;have h3:(pp ++ v1).size=0:=by rw [← ba_size,h2];rfl
       rw [ByteArray.size_append] at h3;omega
      go_simp;go_at_call 51;refine (Set_any A7 c7 l0 kk (pp ++ v1) _ we.heap.size (Nat.le_refl _) HSLwe.out (put_len HA.out (net_len d k)) HZ1.out HPV.out).mono ?_;rintro e' wq ⟨hb_,v1_,rfl,hown⟩;have HBwq:=tb_ HBwe hb_;have awq:=kb_ awe hb_;have uwq:=kb_ uwe hb_;have pwq:=kb_ pwe hb_;have qwq:=kb_ qwe hb_;have HBRwq:=Lh_ (below_onto HBRwe.out hb_);have HSdwq:=Lh_ ((HSdwe.out).next (Nat.le_refl _) hb_);have HSLwq:=Lh_ ((HSLwe.out).next (Nat.le_refl _) hb_);have HX0wq:=Lh_ (cell_nx (HX0we.out) hb_);have HX1wq:=Lh_ (cell_nx (HX1we.out) hb_);have HX2wq:=Lh_ (cell_nx (HX2we.out) hb_);obtain ⟨A1_,c1_,rfl,hs_⟩:=hown.sl;obtain ⟨l1,hl_⟩:∃ z,setA l0 kk (pp ++ v1)=z:=⟨_,rfl⟩;rw [hl_] at hs_ ⊢;have HL1:=Lh_ (show putA l0 kk (pp ++ v1)=l1 by unfold putA;rw [hne_];exact hl_);have HS1:=Lh_ hs_;clear hs_ hl_ hown hb_ hne_;refine hK.out _ _ ⟨awq.out,HX0wq.out,HX1wq.out,HX2wq.out⟩ (fun _=>?_);clear hK K;try simp only [Act.put,sA_,sB_,sC_]
      refine tk1 12 7 (.slice A1_ l1.length c1_) rfl (fun w' hS=>by go_simp) ⟨awq.out,HX0wq.out,HX1wq.out,HX2wq.out⟩ ?_;try simp only [Act.put,sA_,sB_,sC_]
      refine wpAnyH_done (by kernel_rfl) ?_ _;have HNX:=Lh_ (show putAll (netP d (netT.take (k+1)))=l1 by rw [net_yes HT.out HOKV.out,HNV1.out];exact (put_next HA.out (net_new HT.out)).trans HL1.out);go_wp2;go_roundw
      case rel=>exact ⟨A1_,c1_,l1,k+1,by have:=HLT.out;omega,rfl,by go_num,HBRwq,HS1,HNX⟩
      case measure=>have:=HLT.out;simp [intOf];omega
   ·
    have e1_:(aa.toList == [97,100,100,114,101,115,115])=false:=by rw [str_eq (a:=#[97,100,100,114,101,115,115]) (by decide +kernel)];exact decide_eq_false ha
    have e2_:(aa.toList == (⟨#[97,100,100,114,101,115,115]⟩:ByteArray).toList)=false:=by rw [show (⟨#[97,100,100,114,101,115,115]⟩:ByteArray).toList=[97,100,100,114,101,115,115] by decide +kernel];exact e1_
    have HNV:=Lh_ (show netV d pp aa=pp ++ v0 by rw [netV_other ha,HV0.out]);clear ha;cases qo
    ·
     have HNX:=Lh_ (show putAll (netP d (netT.take (k+1)))=l0 by rw [net_no HT.out (netOk_none HQO.out)];exact HA.out);go_wp2;go_roundw
     case rel=>exact ⟨A7,c7,l0,k+1,by have:=HLT.out;omega,rfl,by go_num,HBRwd,HSLwd,HNX⟩
     case measure=>have:=HLT.out;simp [intOf];omega
    ·
     have hz1:=HVZ.out;have hz2:=HZ2.out;have f1:¬ 9223372036854775807<pp.size+v0.size:=by omega
     have HPV:=Lh_ (show (pp ++ v0).size≤maxLen by rw [ByteArray.size_append];unfold maxLen;omega);clear hz1 hz2;go_wp2_with fail;refine (RInterface_any (pp ++ v0) _ HPV.out).mono ?_;rintro e w' ⟨rfl,rfl⟩;obtain ⟨qi,hqi⟩:∃ z,ifaceB (pp ++ v0)=z:=⟨_,rfl⟩;rw [hqi];have HOKV:=Lh_ (netOk_some HQO.out HNV.out hqi);clear hqi;cases qi
     ·
      have HNX:=Lh_ (show putAll (netP d (netT.take (k+1)))=l0 by rw [net_no HT.out HOKV.out];exact HA.out);go_wp2;go_roundw
      case rel=>exact ⟨A7,c7,l0,k+1,by have:=HLT.out;omega,rfl,by go_num,HBRwd,HSLwd,HNX⟩
      case measure=>have:=HLT.out;simp [intOf];omega
     ·
      go_upto_region 15 with fail
      refine wp_region_held_drew (S:=fun w'=>BoxL w' (w2.heap.size) [.int .i64 d.idx,.int .i64 d.par,.string d.nm,.string d.orig,.string d.sub,.string d.drv,.string d.ali,.int .i64 d.kind,.int .i64 d.num,.slice A3 d.attrs.length c3]∧w'.cell? ⟨w3.heap.size,k,none⟩=some (.string aa)∧w'.cell? ⟨w4.heap.size,k,none⟩=some (.string pp)∧w'.cell? ⟨w5.heap.size,k,none⟩=some (.string kk)) (by kernel_rfl) ⟨awd.out.drew,cell_nx HX0wd.out (below_drewN_self _ _ 1),cell_nx HX1wd.out (below_drewN_self _ _ 1),cell_nx HX2wd.out (below_drewN_self _ _ 1)⟩ (fun hS0=>?_);obtain ⟨we,hwe⟩:∃ z,World.drew wd=z:=⟨_,rfl⟩;rw [hwe] at hS0 ⊢;have hb_:Below wd.heap.size wd we:=by rw [← hwe];exact below_drewN_self _ _ 1
      clear hwe hS0;clear x0 x1 x2;have HBwe:=tb_ HBwd hb_;have awe:=kb_ awd hb_;have uwe:=kb_ uwd hb_;have pwe:=kb_ pwd hb_;have qwe:=kb_ qwd hb_;have HBRwe:=Lh_ (below_onto HBRwd.out hb_);have HSdwe:=Lh_ ((HSdwd.out).next (Nat.le_refl _) hb_);have HSLwe:=Lh_ ((HSLwd.out).next (Nat.le_refl _) hb_);have HX0we:=Lh_ (cell_nx (HX0wd.out) hb_);have HX1we:=Lh_ (cell_nx (HX1wd.out) hb_);have HX2we:=Lh_ (cell_nx (HX2wd.out) hb_);clear hb_;refine tk1 0 59 (.slice A7 l0.length c7) rfl (fun w' hS=>by go_simp) ⟨awe.out,HX0we.out,HX1we.out,HX2we.out⟩ ?_;try simp only [Act.put,sA_,sB_,sC_]
      refine tk1 1 60 (.slice (some ⟨w5.heap.size,0,none⟩) 3 3) rfl (fun w' hS=>by go_simp) ⟨awe.out,HX0we.out,HX1we.out,HX2we.out⟩ ?_;try simp only [Act.put,sA_,sB_,sC_]
      refine tk1 2 61 (.int .i64 k) rfl (fun w' hS=>by go_simp) ⟨awe.out,HX0we.out,HX1we.out,HX2we.out⟩ ?_;try simp only [Act.put,sA_,sB_,sC_]
      refine tk1 3 62 (.pointer (some ⟨w5.heap.size,k,none⟩)) rfl (fun w' hS=>by go_simp) ⟨awe.out,HX0we.out,HX1we.out,HX2we.out⟩ ?_;try simp only [Act.put,sA_,sB_,sC_]
      refine tk1 4 63 (.string kk) rfl (fun w' hS=>by (have u0_:=hS.2.2.2;go_simp)) ⟨awe.out,HX0we.out,HX1we.out,HX2we.out⟩ ?_;try simp only [Act.put,sA_,sB_,sC_]
      refine tk1 5 64 (.slice (some ⟨w4.heap.size,0,none⟩) 3 3) rfl (fun w' hS=>by go_simp) ⟨awe.out,HX0we.out,HX1we.out,HX2we.out⟩ ?_;try simp only [Act.put,sA_,sB_,sC_]
      refine tk1 6 65 (.int .i64 k) rfl (fun w' hS=>by go_simp) ⟨awe.out,HX0we.out,HX1we.out,HX2we.out⟩ ?_;try simp only [Act.put,sA_,sB_,sC_]
      refine tk1 7 66 (.pointer (some ⟨w4.heap.size,k,none⟩)) rfl (fun w' hS=>by go_simp) ⟨awe.out,HX0we.out,HX1we.out,HX2we.out⟩ ?_;try simp only [Act.put,sA_,sB_,sC_]
      refine tk1 8 67 (.string pp) rfl (fun w' hS=>by (have u0_:=hS.2.2.1;go_simp)) ⟨awe.out,HX0we.out,HX1we.out,HX2we.out⟩ ?_;try simp only [Act.put,sA_,sB_,sC_]
      refine tk1 9 68 (.string v0) rfl (fun w' hS=>by go_simp) ⟨awe.out,HX0we.out,HX1we.out,HX2we.out⟩ ?_;try simp only [Act.put,sA_,sB_,sC_]
      refine tk1 10 69 (.string (pp ++ v0)) rfl (fun w' hS=>by go_simp) ⟨awe.out,HX0we.out,HX1we.out,HX2we.out⟩ ?_;try simp only [Act.put,sA_,sB_,sC_]
      refine rd1 11 (o:=⟨some 70,.call ⟨_,_,_⟩,_,_,_,_⟩) rfl (fun K hK=>?_);have hne_:(pp ++ v0).toList.isEmpty=false:=by
       rw [Lib.toList_data];have h1:=HZ2.out;rw [List.isEmpty_eq_false_iff];intro h2;have h3:(pp ++ v0).size=0:=by rw [← ba_size,h2];rfl
       rw [ByteArray.size_append] at h3;omega
      go_simp;go_at_call 51;refine (Set_any A7 c7 l0 kk (pp ++ v0) _ we.heap.size (Nat.le_refl _) HSLwe.out (put_len HA.out (net_len d k)) HZ1.out HPV.out).mono ?_;rintro e' wq ⟨hb_,v1_,rfl,hown⟩;have HBwq:=tb_ HBwe hb_;have awq:=kb_ awe hb_;have uwq:=kb_ uwe hb_;have pwq:=kb_ pwe hb_;have qwq:=kb_ qwe hb_;have HBRwq:=Lh_ (below_onto HBRwe.out hb_);have HSdwq:=Lh_ ((HSdwe.out).next (Nat.le_refl _) hb_);have HSLwq:=Lh_ ((HSLwe.out).next (Nat.le_refl _) hb_);have HX0wq:=Lh_ (cell_nx (HX0we.out) hb_);have HX1wq:=Lh_ (cell_nx (HX1we.out) hb_);have HX2wq:=Lh_ (cell_nx (HX2we.out) hb_);obtain ⟨A1_,c1_,rfl,hs_⟩:=hown.sl;obtain ⟨l1,hl_⟩:∃ z,setA l0 kk (pp ++ v0)=z:=⟨_,rfl⟩;rw [hl_] at hs_ ⊢;have HL1:=Lh_ (show putA l0 kk (pp ++ v0)=l1 by unfold putA;rw [hne_];exact hl_);have HS1:=Lh_ hs_;clear hs_ hl_ hown hb_ hne_;refine hK.out _ _ ⟨awq.out,HX0wq.out,HX1wq.out,HX2wq.out⟩ (fun _=>?_);clear hK K;try simp only [Act.put,sA_,sB_,sC_]
      refine tk1 12 7 (.slice A1_ l1.length c1_) rfl (fun w' hS=>by go_simp) ⟨awq.out,HX0wq.out,HX1wq.out,HX2wq.out⟩ ?_;try simp only [Act.put,sA_,sB_,sC_]
      refine wpAnyH_done (by kernel_rfl) ?_ _;have HNX:=Lh_ (show putAll (netP d (netT.take (k+1)))=l1 by rw [net_yes HT.out HOKV.out,HNV.out];exact (put_next HA.out (net_new HT.out)).trans HL1.out);go_wp2;go_roundw
      case rel=>exact ⟨A1_,c1_,l1,k+1,by have:=HLT.out;omega,rfl,by go_num,HBRwq,HS1,HNX⟩
      case measure=>have:=HLT.out;simp [intOf];omega
  ·
   have i1:¬ (k:Int)<3:=by omega
   have HE2:=Lh_ (show netL L n=l0 by rw [HE.out,← HA.out,show k=3 by omega]);go_wp2;go_ret;exact ⟨HBwr.out,A7,c7,by rw [HE2.out];rfl,by rw [HE2.out];exact HSL.out⟩
end Go.Proofs.YtjgllhlilbchpaaGreatDoor
