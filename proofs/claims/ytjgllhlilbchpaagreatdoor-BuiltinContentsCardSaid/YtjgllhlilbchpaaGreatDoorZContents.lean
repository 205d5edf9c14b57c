/-
  BuiltinContents: row and card.
 Conditions: those of the given row and card (the listed variables of the library hold what the text lays),nothing else.
-/
import Derived.Test.YtjgllhlilbchpaaGreatDoorRTK
import Derived.Test.YtjgllhlilbchpaaGreatDoorRUG
import Derived.Test.YtjgllhlilbchpaaGreatDoorRRA
import Derived.ShutString
set_option linter.unusedSimpArgs false
set_option linter.unusedVariables false
namespace Go.Cold
open Go Go.RowKit Go.Proofs.YtjgllhlilbchpaaGreatDoor
theorem VT_one {d:Dev} (hc:checkD d=0) (hp:d.par=0):VT [d]:=by
 refine (check_VT (by simp)).1 ?_;have h:chkE [] d=0:=by simp [chkE,hc,hp,idxs,ownL,orgF,lastE]
 unfold chkGo;rw [h];rfl
def cDev (kd num:Int) (la:List Attr):Dev:=⟨1,0,⟨#[120]⟩,⟨#[120]⟩,⟨#[115]⟩,⟨#[]⟩,⟨#[]⟩,kd,num,la⟩
theorem cDev_ok {kd num:Int} {la:List Attr} (h1:okI kd) (h2:okI num):devOk (cDev kd num la):=by
 exact ⟨(show okI 1 from ⟨by decide,by decide⟩),(show okI 0 from ⟨by decide,by decide⟩),(show (⟨#[120]⟩:ByteArray).size≤maxLen by decide),(show (⟨#[120]⟩:ByteArray).size≤maxLen by decide),(show (⟨#[115]⟩:ByteArray).size≤maxLen by decide),(show (⟨#[]⟩:ByteArray).size≤maxLen by decide),(show (⟨#[]⟩:ByteArray).size≤maxLen by decide),h1,h2⟩
theorem one_sl {w:World} {gl B c:Nat} {A:Option Addr} {d:Dev} (h:BoxL w gl (devCells d A c)) (hs:Sl w B A c d.attrs) (hd:devOk d) (hB:gl<B):Sl w B (some ⟨gl,0,none⟩) 1 [d]:=by
 refine ⟨Nat.le_refl _,by decide,fun _=>⟨gl,0,rfl,hB,fun i x hi=>?_⟩⟩;have h0:i=0:=by have:=(List.getElem?_eq_some_iff.1 hi).1;simp at this;exact this
 subst h0;obtain rfl:=Option.some.inj hi;exact ⟨devCells d A c,⟨A,c,rfl,hd,hs⟩,fun j u hu=>by rw [Nat.zero_mul,Nat.zero_add,Nat.zero_add];exact h.1 j u hu⟩
end Go.Cold
namespace Go.Proofs.YtjgllhlilbchpaaGreatDoor
open Go.RowKit Go.Cold
set_option maxRecDepth 100000 in
set_option maxHeartbeats 8000000 in
theorem lawContents11_any (s:ByteArray) (kind:Int) (w:World) (hok:Ok w) (h7:Ok7 w) (hu:OkU w) (hs:s.size≤maxLen) (hk:okI kind) :
  Calls Tryz.prog 8 #[.string s,.int .i64 kind] w fun e w'=>e=.returned (.bool true)∧Below w.heap.size w w':=by
 have HOK:=Lh_ hok;have H7:=Lh_ h7;have HK8:=Lh_ (show Ok8 w from hok);have HU:=Lh_ hu;clear hok h7 hu;unfold maxLen at hs;go_enter Tryz.func8,Tryz.ntmps8;by_cases hr:400<s.size
 ·
  have i0:(400:Int)<(s.size:Int):=by omega
  go_wp2_with fail;refine (known_any _ HOK.out H7.out HK8.out HU.out).mono ?_;rintro e w' ⟨rfl,hb⟩;go_wp2;go_ret;exact ⟨by try rfl,hb⟩
 have i0:¬ (400:Int)<(s.size:Int):=by omega
 have HSZ:=Lh_ (show s.size≤400 by omega);clear hs hr;go_wp2_with fail;refine (Fold_any kind 3 _ hk ⟨by decide,by decide⟩).mono ?_;rintro e w9 ⟨rfl,hw_⟩;rw [← hw_];clear hw_ w9;obtain ⟨kd,hkd⟩:∃ z,1+foldI kind 3=z:=⟨_,rfl⟩;have hfr:=foldI_range (v:=kind) (n:=3) (by decide);have hkr:1≤kd∧kd≤3:=by omega
 have hwr:IntKind.i64.wrap (1+foldI kind 3)=kd:=by rw [hkd,IntKind.wrap_i64];omega
 have hwr2:wrap64 (1+foldI kind 3)=kd:=by rw [hkd];unfold wrap64;omega
 have HKR:=Lh_ hkr;clear hkr;go_upto_region 4 with fail
 try simp only [hwr,hwr2]
 clear hwr hwr2 hfr hkd;obtain ⟨w1,hw1,hbw1,HGw1,HXdw1⟩:=bx_ w [.int .i64 1,.int .i64 0,.string ⟨#[120]⟩,.string ⟨#[120]⟩,.string ⟨#[115]⟩,.string ⟨#[]⟩,.string ⟨#[]⟩,.int .i64 kd,.int .i64 0,.slice none 0 0] 32;try simp only [hw1]
 have HBw1:=Lh_ hbw1;clear hw1 hbw1;try rw [← HGw1.out]
 obtain ⟨cd0,cd1,cd2,cd3,cd4,cd5,cd6,cd7,cd8,cd9⟩:=s10_ HXdw1.out.1;have cfd:=HXdw1.out.2.1;by_cases hk1:kd=1
 case pos =>
  have hkb:(kd != 1)=false:=by simp [hk1]
  have HK1_:=Lh_ hk1;clear hk1;clear cd0 cd1 cd2 cd3 cd4 cd5 cd6 cd7 cd8 cd9 cfd;obtain ⟨cd0,cd1,cd2,cd3,cd4,cd5,cd6,cd7,cd8,cd9⟩:=s10_ HXdw1.out.1;have cfd:=HXdw1.out.2.1;go_wp2_with fail;refine (DSet_any none 0 [] ⟨#[99,111,110,116,101,110,116]⟩ s _ w1.heap.size (Nat.le_refl _) Sl.nil_ rfl (by decide) (by decide) (by have:=HSZ.out;unfold maxLen;omega)).mono ?_;rintro e w2 ⟨hbw2,v5,rfl,hown⟩;clear cd0 cd1 cd2 cd3 cd4 cd5 cd6 cd7 cd8 cd9 cfd;have HBw2:=tb_ HBw1 hbw2;have dw2:=kb_ HXdw1 hbw2;clear hbw2;obtain ⟨cd0,cd1,cd2,cd3,cd4,cd5,cd6,cd7,cd8,cd9⟩:=s10_ dw2.out.1;have cfd:=dw2.out.2.1;have hgd:w.heap.size<w1.heap.size:=HXdw1.out.2.2;obtain ⟨la,hla⟩:∃ z,setA [] ⟨#[99,111,110,116,101,110,116]⟩ s=z:=⟨_,rfl⟩;rw [hla] at hown;obtain ⟨A5,c5,rfl,hs_⟩:=hown.free (N:=fun x=>x=w.heap.size) (fun x (hx:x=w.heap.size)=>⟨by rw [hx];exact hgd,fun h=>h⟩);have hl1:=hs_.1;have hl2:=hs_.2.1;unfold maxLen at hl2;have HSA:=Lh_ hs_;clear hown hs_ hla hgd;go_upto_region 7 with fail
  have hgs:=grown_one w2 w.heap.size 9 (.slice A5 la.length c5);have hbx_:=dw2.out.set_ (j:=9) (by first | (simp;done) | (simp [devCells];done)) (.slice A5 la.length c5);obtain ⟨wt,hwt⟩:∃ z,w2.setCell ⟨w.heap.size,9,none⟩ (.slice A5 la.length c5)=z:=⟨_,rfl⟩;rw [hwt] at hgs hbx_ ⊢;clear hwt;have dwt:=Lh_ hbx_;have HBwt:=Lh_ (HBw2.out.grown hgs HBw2.out.size (fun q hq=>by have:=Option.some.inj hq;omega));have HSAwt:=Lh_ (HSA.out.grown hgs (.inl rfl));clear hgs hbx_;clear cd0 cd1 cd2 cd3 cd4 cd5 cd6 cd7 cd8 cd9 cfd;obtain ⟨cd0,cd1,cd2,cd3,cd4,cd5,cd6,cd7,cd8,cd9⟩:=s10_ dwt.out.1;have cfd:=dwt.out.2.1;go_upto_region 8 with fail
  obtain ⟨w3,hw3,hbw3,HGw3,HXlw3⟩:=bx_ wt [.int .i64 1,.int .i64 0,.string ⟨#[120]⟩,.string ⟨#[120]⟩,.string ⟨#[115]⟩,.string ⟨#[]⟩,.string ⟨#[]⟩,.int .i64 kd,.int .i64 0,.slice A5 la.length c5] 32;try simp only [hw3]
  have HBw3:=tb_ HBwt hbw3;have dw3:=kb_ dwt hbw3;have HSAw3:=Lh_ (HSAwt.out.below hbw3);clear hw3 hbw3;try rw [← HGw3.out]
  obtain ⟨w4,hw4,hbw4,HGw4,HXtw4⟩:=bx_ w3 [.slice (some ⟨wt.heap.size,0,none⟩) 1 1] 28;try simp only [hw4]
  have HBw4:=tb_ HBw3 hbw4;have dw4:=kb_ dw3 hbw4;have lw4:=kb_ HXlw3 hbw4;have HSAw4:=Lh_ (HSAw3.out.below hbw4);clear hw4 hbw4;try rw [← HGw4.out]
  have HDO:=Lh_ (show devOk (cDev kd 0 la) from cDev_ok ⟨by have:=HKR.out;omega,by have:=HKR.out;omega⟩ ⟨by decide,by decide⟩);have HSL:=Lh_ (show Sl w4 w4.heap.size (some ⟨wt.heap.size,0,none⟩) 1 [(cDev kd 0 la)] from one_sl lw4.out HSAw4.out.out HDO.out lw4.out.2.2);clear cd0 cd1 cd2 cd3 cd4 cd5 cd6 cd7 cd8 cd9 cfd;obtain ⟨cd0,cd1,cd2,cd3,cd4,cd5,cd6,cd7,cd8,cd9⟩:=s10_ dw4.out.1;go_wp2_with fail;refine (Check_any (cDev kd 0 la) A5 c5 _ w4.heap.size (Nat.le_refl _) HDO.out HSAw4.out.out (HOK.out.next HBw4.out)).mono ?_;rintro e w5 ⟨rfl,hbw5⟩;clear cd0 cd1 cd2 cd3 cd4 cd5 cd6 cd7 cd8 cd9;have HBw5:=tb_ HBw4 hbw5;have dw5:=kb_ dw4 hbw5;have lw5:=kb_ lw4 hbw5;have tw5:=kb_ HXtw4 hbw5;have HSAw5:=Lh_ (HSAw4.out.below hbw5);have HSLw5:=Lh_ ((HSL.out).next (Nat.le_refl _) hbw5);clear hbw5;by_cases hc:checkD (cDev kd 0 la)=0
  case neg =>
   obtain ⟨y,hy⟩:∃ z,checkD (cDev kd 0 la)=z:=⟨_,rfl⟩;rw [hy] at hc ⊢;have hyb:(y != 0)=true:=by simpa using hc
   clear hy hc;go_wp2_with fail;refine (known_any _ (HOK.out.next HBw5.out) (H7.out.below HBw5.out) (Ok8.below HK8.out HBw5.out) (HU.out.below HBw5.out)).mono ?_;rintro e w6 ⟨rfl,hbw6⟩;have HBw6:=tb_ HBw5 hbw6;have dw6:=kb_ dw5 hbw6;have lw6:=kb_ lw5 hbw6;have tw6:=kb_ tw5 hbw6;have HSAw6:=Lh_ (HSAw5.out.below hbw6);have HSLw6:=Lh_ ((HSLw5.out).next (Nat.le_refl _) hbw6);clear hbw6;go_wp2;go_ret;exact ⟨by try rfl,HBw6.out⟩
  rw [hc];have HVT:=Lh_ (show VT [(cDev kd 0 la)] from VT_one hc rfl);clear hc;obtain ⟨lc,hlc⟩:∃ z,Go.Cold.contL [(cDev kd 0 la)] 1=z:=⟨_,rfl⟩;have HLC:=Lh_ hlc;clear hlc;go_upto_region 10 with fail
  refine wp_region_held_drew (S:=fun w'=>BoxL w' (w3.heap.size) [.slice (some ⟨wt.heap.size,0,none⟩) 1 1]) (by kernel_rfl) tw5.out.drew (fun hS0=>?_);obtain ⟨wd,hwd⟩:∃ z,World.drew w5=z:=⟨_,rfl⟩;rw [hwd] at hS0 ⊢;have hb_:Below w5.heap.size w5 wd:=by rw [← hwd];exact below_drewN_self _ _ 1
  clear hwd hS0;have HBwd:=tb_ HBw5 hb_;have dwd:=kb_ dw5 hb_;have lwd:=kb_ lw5 hb_;have twd:=kb_ tw5 hb_;have HSAwd:=Lh_ (HSAw5.out.below hb_);have HSLwd:=Lh_ ((HSLw5.out).next (Nat.le_refl _) hb_);clear hb_;refine tk1 0 29 (.agg #[.slice (some ⟨wt.heap.size,0,none⟩) 1 1]) rfl (fun w' hS=>by (have u0_:=hS.1 0 _ rfl;go_simp)) twd.out ?_;try simp only [Act.put,sA_,sB_,sC_]
  refine tk1 2 31 (.agg #[.slice (some ⟨wt.heap.size,0,none⟩) 1 1]) rfl (fun w' hS=>by (have u0_:=hS.1 0 _ rfl;go_simp)) twd.out ?_;try simp only [Act.put,sA_,sB_,sC_]
  refine rd1 1 (o:=⟨some 30,.call ⟨_,_,_⟩,_,_,_,_⟩) rfl (fun K hK=>?_);go_simp;go_at_call 21;refine (Content_any (some ⟨wt.heap.size,0,none⟩) 1 [(cDev kd 0 la)] 1 _ _ (Nat.le_refl _) HSLwd.out HVT.out (H7.out.below HBwd.out) (HOK.out.next HBwd.out) ⟨by decide,by decide⟩).mono ?_;rintro e' qP ⟨hb_,AP,cP,rfl,hs_⟩;rw [HLC.out] at hs_ ⊢;have HBqP:=tb_ HBwd hb_;have dqP:=kb_ dwd hb_;have lqP:=kb_ lwd hb_;have tqP:=kb_ twd hb_;have HSAqP:=Lh_ (HSAwd.out.below hb_);have HSLqP:=Lh_ ((HSLwd.out).next (Nat.le_refl _) hb_);have HSP:=Lh_ hs_;clear hs_ hb_;refine hK.out _ _ tqP.out (fun _=>?_);clear hK K;try simp only [Act.put,sA_,sB_,sC_]
  refine rd1 3 (o:=⟨some 32,.call ⟨_,_,_⟩,_,_,_,_⟩) rfl (fun K hK=>?_);go_simp;go_at_call 29;refine (RContent11_any (some ⟨wt.heap.size,0,none⟩) 1 [(cDev kd 0 la)] 1 _ _ (Nat.le_refl _) HSLqP.out HVT.out (H7.out.below HBqP.out) (Ok8.below HK8.out HBqP.out) ⟨by decide,by decide⟩).mono ?_;rintro e' qR ⟨hb_,AR,cR,rfl,hs_⟩;rw [HLC.out] at hs_ ⊢;have HBqR:=tb_ HBqP hb_;have dqR:=kb_ dqP hb_;have lqR:=kb_ lqP hb_;have tqR:=kb_ tqP hb_;have HSAqR:=Lh_ (HSAqP.out.below hb_);have HSLqR:=Lh_ ((HSLqP.out).next (Nat.le_refl _) hb_);have HSPqR:=Lh_ ((HSP.out).next (Nat.le_refl _) hb_);have HSR:=Lh_ hs_;clear hs_ hb_;refine hK.out _ _ tqR.out (fun _=>?_);clear hK K;try simp only [Act.put,sA_,sB_,sC_]
  refine rd1 4 (o:=⟨some 33,.call ⟨_,_,_⟩,_,_,_,_⟩) rfl (fun K hK=>?_);go_simp;go_at_call 19;refine (SameAttrs_same AP AR cP cR lc _ _ _ HSPqR.out HSR.out).mono ?_;rintro e' qs ⟨rfl,kn_,hw_⟩;have hb_:Below qR.heap.size qR qs:=by rw [hw_];exact below_drewN_self _ _ _
  clear hw_ kn_;have HBqs:=tb_ HBqR hb_;have dqs:=kb_ dqR hb_;have lqs:=kb_ lqR hb_;have tqs:=kb_ tqR hb_;have HSAqs:=Lh_ (HSAqR.out.below hb_);have HSLqs:=Lh_ ((HSLqR.out).next (Nat.le_refl _) hb_);have HSPqs:=Lh_ ((HSPqR.out).next (Nat.le_refl _) hb_);have HSRqs:=Lh_ ((HSR.out).next (Nat.le_refl _) hb_);clear hb_;refine hK.out _ _ tqs.out (fun _=>?_);clear hK K;try simp only [Act.put,sA_,sB_,sC_]
  refine tk1 5 34 (.bool true) rfl (fun w' hS=>by go_simp) tqs.out ?_;try simp only [Act.put,sA_,sB_,sC_]
  refine rd1 6 (o:=⟨some 35,.call ⟨_,_,_⟩,_,_,_,_⟩) rfl (fun K hK=>?_);go_simp;go_at_call 15;refine (known_any _ (HOK.out.next HBqs.out) (H7.out.below HBqs.out) (Ok8.below HK8.out HBqs.out) (HU.out.below HBqs.out)).mono ?_;rintro e' wk ⟨rfl,hb_⟩;have HBwk:=tb_ HBqs hb_;have dwk:=kb_ dqs hb_;have lwk:=kb_ lqs hb_;have twk:=kb_ tqs hb_;have HSAwk:=Lh_ (HSAqs.out.below hb_);have HSLwk:=Lh_ ((HSLqs.out).next (Nat.le_refl _) hb_);have HSPwk:=Lh_ ((HSPqs.out).next (Nat.le_refl _) hb_);have HSRwk:=Lh_ ((HSRqs.out).next (Nat.le_refl _) hb_);clear hb_;refine hK.out _ _ twk.out (fun _=>?_);clear hK K;try simp only [Act.put,sA_,sB_,sC_]
  refine tk1 7 36 (.bool true) rfl (fun w' hS=>by go_simp) twk.out ?_;try simp only [Act.put,sA_,sB_,sC_]
  refine tk1 8 4 (.bool true) rfl (fun w' hS=>by go_simp) twk.out ?_;try simp only [Act.put,sA_,sB_,sC_]
  refine wpAnyH_done (by kernel_rfl) ?_ _;go_wp2;go_ret;exact ⟨by try rfl,HBwk.out⟩
 have hkb:(kd != 1)=true:=by simp [hk1]
 have HK1_:=Lh_ hk1;clear hk1;go_upto_region 6 with fail
 have hgs:=grown_one w1 w.heap.size 8 (.int .i64 1);have hbx_:=HXdw1.out.set_ (j:=8) (by first | (simp;done) | (simp [devCells];done)) (.int .i64 1);obtain ⟨ws,hws⟩:∃ z,w1.setCell ⟨w.heap.size,8,none⟩ (.int .i64 1)=z:=⟨_,rfl⟩;rw [hws] at hgs hbx_ ⊢;clear hws;have dws:=Lh_ hbx_;have HBws:=Lh_ (HBw1.out.grown hgs HBw1.out.size (fun q hq=>by have:=Option.some.inj hq;omega));clear hgs hbx_;clear cd0 cd1 cd2 cd3 cd4 cd5 cd6 cd7 cd8 cd9 cfd;obtain ⟨cd0,cd1,cd2,cd3,cd4,cd5,cd6,cd7,cd8,cd9⟩:=s10_ dws.out.1;have cfd:=dws.out.2.1;go_wp2_with fail;refine (DSet_any none 0 [] ⟨#[99,111,110,116,101,110,116]⟩ s _ ws.heap.size (Nat.le_refl _) Sl.nil_ rfl (by decide) (by decide) (by have:=HSZ.out;unfold maxLen;omega)).mono ?_;rintro e w7 ⟨hbw7,v5,rfl,hown⟩;clear cd0 cd1 cd2 cd3 cd4 cd5 cd6 cd7 cd8 cd9 cfd;have HBw7:=tb_ HBws hbw7;have dw7:=kb_ dws hbw7;clear hbw7;obtain ⟨cd0,cd1,cd2,cd3,cd4,cd5,cd6,cd7,cd8,cd9⟩:=s10_ dw7.out.1;have cfd:=dw7.out.2.1;have hgd:w.heap.size<ws.heap.size:=dws.out.2.2;obtain ⟨la,hla⟩:∃ z,setA [] ⟨#[99,111,110,116,101,110,116]⟩ s=z:=⟨_,rfl⟩;rw [hla] at hown;obtain ⟨A5,c5,rfl,hs_⟩:=hown.free (N:=fun x=>x=w.heap.size) (fun x (hx:x=w.heap.size)=>⟨by rw [hx];exact hgd,fun h=>h⟩);have hl1:=hs_.1;have hl2:=hs_.2.1;unfold maxLen at hl2;have HSA:=Lh_ hs_;clear hown hs_ hla hgd;go_upto_region 7 with fail
 have hgs:=grown_one w7 w.heap.size 9 (.slice A5 la.length c5);have hbx_:=dw7.out.set_ (j:=9) (by first | (simp;done) | (simp [devCells];done)) (.slice A5 la.length c5);obtain ⟨wt,hwt⟩:∃ z,w7.setCell ⟨w.heap.size,9,none⟩ (.slice A5 la.length c5)=z:=⟨_,rfl⟩;rw [hwt] at hgs hbx_ ⊢;clear hwt;have dwt:=Lh_ hbx_;have HBwt:=Lh_ (HBw7.out.grown hgs HBw7.out.size (fun q hq=>by have:=Option.some.inj hq;omega));have HSAwt:=Lh_ (HSA.out.grown hgs (.inl rfl));clear hgs hbx_;clear cd0 cd1 cd2 cd3 cd4 cd5 cd6 cd7 cd8 cd9 cfd;obtain ⟨cd0,cd1,cd2,cd3,cd4,cd5,cd6,cd7,cd8,cd9⟩:=s10_ dwt.out.1;have cfd:=dwt.out.2.1;go_upto_region 8 with fail
 obtain ⟨w8,hw8,hbw8,HGw8,HXlw8⟩:=bx_ wt [.int .i64 1,.int .i64 0,.string ⟨#[120]⟩,.string ⟨#[120]⟩,.string ⟨#[115]⟩,.string ⟨#[]⟩,.string ⟨#[]⟩,.int .i64 kd,.int .i64 1,.slice A5 la.length c5] 32;try simp only [hw8]
 have HBw8:=tb_ HBwt hbw8;have dw8:=kb_ dwt hbw8;have HSAw8:=Lh_ (HSAwt.out.below hbw8);clear hw8 hbw8;try rw [← HGw8.out]
 obtain ⟨w9,hw9,hbw9,HGw9,HXtw9⟩:=bx_ w8 [.slice (some ⟨wt.heap.size,0,none⟩) 1 1] 28;try simp only [hw9]
 have HBw9:=tb_ HBw8 hbw9;have dw9:=kb_ dw8 hbw9;have lw9:=kb_ HXlw8 hbw9;have HSAw9:=Lh_ (HSAw8.out.below hbw9);clear hw9 hbw9;try rw [← HGw9.out]
 have HDO:=Lh_ (show devOk (cDev kd 1 la) from cDev_ok ⟨by have:=HKR.out;omega,by have:=HKR.out;omega⟩ ⟨by decide,by decide⟩);have HSL:=Lh_ (show Sl w9 w9.heap.size (some ⟨wt.heap.size,0,none⟩) 1 [(cDev kd 1 la)] from one_sl lw9.out HSAw9.out.out HDO.out lw9.out.2.2);clear cd0 cd1 cd2 cd3 cd4 cd5 cd6 cd7 cd8 cd9 cfd;obtain ⟨cd0,cd1,cd2,cd3,cd4,cd5,cd6,cd7,cd8,cd9⟩:=s10_ dw9.out.1;go_wp2_with fail;refine (Check_any (cDev kd 1 la) A5 c5 _ w9.heap.size (Nat.le_refl _) HDO.out HSAw9.out.out (HOK.out.next HBw9.out)).mono ?_;rintro e w10 ⟨rfl,hbw10⟩;clear cd0 cd1 cd2 cd3 cd4 cd5 cd6 cd7 cd8 cd9;have HBw10:=tb_ HBw9 hbw10;have dw10:=kb_ dw9 hbw10;have lw10:=kb_ lw9 hbw10;have tw10:=kb_ HXtw9 hbw10;have HSAw10:=Lh_ (HSAw9.out.below hbw10);have HSLw10:=Lh_ ((HSL.out).next (Nat.le_refl _) hbw10);clear hbw10;by_cases hc:checkD (cDev kd 1 la)=0
 case neg =>
  obtain ⟨y,hy⟩:∃ z,checkD (cDev kd 1 la)=z:=⟨_,rfl⟩;rw [hy] at hc ⊢;have hyb:(y != 0)=true:=by simpa using hc
  clear hy hc;go_wp2_with fail;refine (known_any _ (HOK.out.next HBw10.out) (H7.out.below HBw10.out) (Ok8.below HK8.out HBw10.out) (HU.out.below HBw10.out)).mono ?_;rintro e w11 ⟨rfl,hbw11⟩;have HBw11:=tb_ HBw10 hbw11;have dw11:=kb_ dw10 hbw11;have lw11:=kb_ lw10 hbw11;have tw11:=kb_ tw10 hbw11;have HSAw11:=Lh_ (HSAw10.out.below hbw11);have HSLw11:=Lh_ ((HSLw10.out).next (Nat.le_refl _) hbw11);clear hbw11;go_wp2;go_ret;exact ⟨by try rfl,HBw11.out⟩
 rw [hc];have HVT:=Lh_ (show VT [(cDev kd 1 la)] from VT_one hc rfl);clear hc;obtain ⟨lc,hlc⟩:∃ z,Go.Cold.contL [(cDev kd 1 la)] 1=z:=⟨_,rfl⟩;have HLC:=Lh_ hlc;clear hlc;go_upto_region 10 with fail
 refine wp_region_held_drew (S:=fun w'=>BoxL w' (w8.heap.size) [.slice (some ⟨wt.heap.size,0,none⟩) 1 1]) (by kernel_rfl) tw10.out.drew (fun hS0=>?_);obtain ⟨wd,hwd⟩:∃ z,World.drew w10=z:=⟨_,rfl⟩;rw [hwd] at hS0 ⊢;have hb_:Below w10.heap.size w10 wd:=by rw [← hwd];exact below_drewN_self _ _ 1
 clear hwd hS0;have HBwd:=tb_ HBw10 hb_;have dwd:=kb_ dw10 hb_;have lwd:=kb_ lw10 hb_;have twd:=kb_ tw10 hb_;have HSAwd:=Lh_ (HSAw10.out.below hb_);have HSLwd:=Lh_ ((HSLw10.out).next (Nat.le_refl _) hb_);clear hb_;refine tk1 0 29 (.agg #[.slice (some ⟨wt.heap.size,0,none⟩) 1 1]) rfl (fun w' hS=>by (have u0_:=hS.1 0 _ rfl;go_simp)) twd.out ?_;try simp only [Act.put,sA_,sB_,sC_]
 refine tk1 2 31 (.agg #[.slice (some ⟨wt.heap.size,0,none⟩) 1 1]) rfl (fun w' hS=>by (have u0_:=hS.1 0 _ rfl;go_simp)) twd.out ?_;try simp only [Act.put,sA_,sB_,sC_]
 refine rd1 1 (o:=⟨some 30,.call ⟨_,_,_⟩,_,_,_,_⟩) rfl (fun K hK=>?_);go_simp;go_at_call 21;refine (Content_any (some ⟨wt.heap.size,0,none⟩) 1 [(cDev kd 1 la)] 1 _ _ (Nat.le_refl _) HSLwd.out HVT.out (H7.out.below HBwd.out) (HOK.out.next HBwd.out) ⟨by decide,by decide⟩).mono ?_;rintro e' qP ⟨hb_,AP,cP,rfl,hs_⟩;rw [HLC.out] at hs_ ⊢;have HBqP:=tb_ HBwd hb_;have dqP:=kb_ dwd hb_;have lqP:=kb_ lwd hb_;have tqP:=kb_ twd hb_;have HSAqP:=Lh_ (HSAwd.out.below hb_);have HSLqP:=Lh_ ((HSLwd.out).next (Nat.le_refl _) hb_);have HSP:=Lh_ hs_;clear hs_ hb_;refine hK.out _ _ tqP.out (fun _=>?_);clear hK K;try simp only [Act.put,sA_,sB_,sC_]
 refine rd1 3 (o:=⟨some 32,.call ⟨_,_,_⟩,_,_,_,_⟩) rfl (fun K hK=>?_);go_simp;go_at_call 29;refine (RContent11_any (some ⟨wt.heap.size,0,none⟩) 1 [(cDev kd 1 la)] 1 _ _ (Nat.le_refl _) HSLqP.out HVT.out (H7.out.below HBqP.out) (Ok8.below HK8.out HBqP.out) ⟨by decide,by decide⟩).mono ?_;rintro e' qR ⟨hb_,AR,cR,rfl,hs_⟩;rw [HLC.out] at hs_ ⊢;have HBqR:=tb_ HBqP hb_;have dqR:=kb_ dqP hb_;have lqR:=kb_ lqP hb_;have tqR:=kb_ tqP hb_;have HSAqR:=Lh_ (HSAqP.out.below hb_);have HSLqR:=Lh_ ((HSLqP.out).next (Nat.le_refl _) hb_);have HSPqR:=Lh_ ((HSP.out).next (Nat.le_refl _) hb_);have HSR:=Lh_ hs_;clear hs_ hb_;refine hK.out _ _ tqR.out (fun _=>?_);clear hK K;try simp only [Act.put,sA_,sB_,sC_]
 refine rd1 4 (o:=⟨some 33,.call ⟨_,_,_⟩,_,_,_,_⟩) rfl (fun K hK=>?_);go_simp;go_at_call 19;refine (SameAttrs_same AP AR cP cR lc _ _ _ HSPqR.out HSR.out).mono ?_;rintro e' qs ⟨rfl,kn_,hw_⟩;have hb_:Below qR.heap.size qR qs:=by rw [hw_];exact below_drewN_self _ _ _
 clear hw_ kn_;have HBqs:=tb_ HBqR hb_;have dqs:=kb_ dqR hb_;have lqs:=kb_ lqR hb_;have tqs:=kb_ tqR hb_;have HSAqs:=Lh_ (HSAqR.out.below hb_);have HSLqs:=Lh_ ((HSLqR.out).next (Nat.le_refl _) hb_);have HSPqs:=Lh_ ((HSPqR.out).next (Nat.le_refl _) hb_);have HSRqs:=Lh_ ((HSR.out).next (Nat.le_refl _) hb_);clear hb_;refine hK.out _ _ tqs.out (fun _=>?_);clear hK K;try simp only [Act.put,sA_,sB_,sC_]
 refine tk1 5 34 (.bool true) rfl (fun w' hS=>by go_simp) tqs.out ?_;try simp only [Act.put,sA_,sB_,sC_]
 refine rd1 6 (o:=⟨some 35,.call ⟨_,_,_⟩,_,_,_,_⟩) rfl (fun K hK=>?_);go_simp;go_at_call 15;refine (known_any _ (HOK.out.next HBqs.out) (H7.out.below HBqs.out) (Ok8.below HK8.out HBqs.out) (HU.out.below HBqs.out)).mono ?_;rintro e' wk ⟨rfl,hb_⟩;have HBwk:=tb_ HBqs hb_;have dwk:=kb_ dqs hb_;have lwk:=kb_ lqs hb_;have twk:=kb_ tqs hb_;have HSAwk:=Lh_ (HSAqs.out.below hb_);have HSLwk:=Lh_ ((HSLqs.out).next (Nat.le_refl _) hb_);have HSPwk:=Lh_ ((HSPqs.out).next (Nat.le_refl _) hb_);have HSRwk:=Lh_ ((HSRqs.out).next (Nat.le_refl _) hb_);clear hb_;refine hK.out _ _ twk.out (fun _=>?_);clear hK K;try simp only [Act.put,sA_,sB_,sC_]
 refine tk1 7 36 (.bool true) rfl (fun w' hS=>by go_simp) twk.out ?_;try simp only [Act.put,sA_,sB_,sC_]
 refine tk1 8 4 (.bool true) rfl (fun w' hS=>by go_simp) twk.out ?_;try simp only [Act.put,sA_,sB_,sC_]
 refine wpAnyH_done (by kernel_rfl) ?_ _;go_wp2;go_ret;exact ⟨by try rfl,HBwk.out⟩
end Go.Proofs.YtjgllhlilbchpaaGreatDoor
namespace Go.Proofs.YtjgllhlilbchpaaGreatDoor
open Go.RowKit Go.Cold
namespace cBuiltinContents
open Go.ChangeShapes Go.WideShapes Go.ChangeAt
open Go.ChangeMaps (open_string)
set_option maxRecDepth 100000
theorem reads (os:Os) {H:Type} (enc:TypeId × Value→H):∃ places,DataW.whole enc Tryz.prog ((World.laidAll Tryz.prog os Rows.builtinContentsRow.laid).forCall (fun _ _=>0) ⟨#[],#[.string ⟨#[]⟩,.int .i64 0],[]⟩).memory Tryz.f8.params.toList Rows.builtinContentsSpec.vars false (#[.string ⟨#[]⟩,.int .i64 0]:Array Value).toList 8=some ([.lit (.string []),.lit (.int .i64 0)],[],places) :=
 ⟨[],by kernel_rfl⟩
theorem lifted (os:Os) (started:os.Started) (H:Type) (enc:TypeId × Value→H) (F:Stop.Interp) :
  ReturnsInHanded {} Tryz.checked os 8 .any ((OpenSpec.ofChange Rows.builtinContentsSpec).preRow enc Tryz.prog Tryz.f8 Rows.builtinContentsRow.domain false Rows.builtinContentsRow.laid) (((OpenSpec.ofChange Rows.builtinContentsSpec).at F).post enc Tryz.prog Tryz.f8 false true false false):=by
 obtain ⟨places,hx⟩:=reads os enc;refine law_lifted os started H enc F (by kernel_rfl) Tryz.func8 #[.string ⟨#[]⟩,.int .i64 0] (World.shaped_of_ZipB (by kernel_rfl) (by kernel_rfl)) (by kernel_rfl)
  (OpenSpec.preRow_of_cond 8 hx (by kernel_rfl) (fun k hk=>by cases hk) (by kernel_rfl) (laidMet_laidAll _ (by kernel_rfl) (by kernel_rfl))) rfl rfl
  (fun ds hl=>by
   rw [Tryz.params8] at hl;match ds,hl with
   | [d0,d1],_=>rfl) (by kernel_rfl) ?_
 intro W base args ds ps hval hA hlt hz hsh hlaid;rw [Tryz.params8] at hA hval;obtain ⟨v0,vs0,d0,ds0,p0,q0,hargs,rfl,rfl,h0,r0⟩:=trodAll_cons hA;obtain ⟨v1,vs1,d1,ds1,p1,q1,rfl,rfl,rfl,h1,r1⟩:=trodAll_cons r0;obtain ⟨rfl,rfl,rfl⟩:=trodAll_nil r1;obtain rfl:args=#[v0,v1]:=by cases args;simp_all
 obtain ⟨a0,rfl,rfl,rfl,w0⟩:=open_string Tryz.underlying9 (hval 0 9 v0 rfl rfl) h0;obtain ⟨a1,rfl,rfl,rfl,w1⟩:=open_int Tryz.underlying3 (hval 1 3 v1 rfl rfl) h1;exact lawContents11_any a0 a1 W (show Ok W from Tryz.laysM146.s1_3 W hsh) (okb8 hlaid).1 (okb8 hlaid).2 w0 (wf_i64.1 w1)
theorem said:Rows.BuiltinContentsSaid :=
 OpenClaim.holds_of_cond 8 Tryz.f8 rfl rfl rfl rfl rfl rfl rfl ⟨rfl,rfl,rfl,rfl,rfl⟩ rfl rfl rfl rfl rfl (by kernel_rfl) Tryz.func8 (by kernel_rfl)
  (of_decide_eq_true (by kernel_rfl)) (by unfold Func.isWrapper;first | (rw [if_pos (by decide +kernel)];kernel_rfl) | (rw [if_neg (by decide +kernel)];exact ⟨rfl,rfl⟩))
  (fun os started H enc _ F=>by rw [OpenClaim.pre_eq_preRow];exact lifted os started H enc F)
theorem plain (f:FuncId) (fn:Func) (hf:Tryz.pinned.checked.prog.funcNamed Rows.builtinContentsRow.func=some f) (hfn:Tryz.pinned.checked.prog.funcs[f]? = some fn) :
  true=Tryz.pinned.checked.prog.looks []∧∀ (j:Nat) t,fn.params[j]? = some t→Tryz.pinned.checked.prog.wantsStandIn t=false:=by
 obtain rfl:f=8:=Option.some.inj ((show Tryz.prog.funcNamed Rows.builtinContentsRow.func=some 8 by kernel_rfl).symm.trans hf) |>.symm;obtain rfl:fn=Tryz.f8:=(Option.some.inj (Tryz.func8.symm.trans hfn)).symm;refine ⟨by kernel_rfl,fun j t ht=>?_⟩;rw [Tryz.params8] at ht;have hm:t ∈ [9,3]:=by simpa using Array.mem_of_getElem? ht
 have hall:([9,3].all fun u=>!Tryz.prog.wantsStandIn u)=true:=by kernel_rfl
 exact (show Tryz.prog.wantsStandIn t=false by simpa using List.all_eq_true.1 hall t hm)
theorem card:Rows.BuiltinContentsCardSaid :=
 Claim7.holds_tied_plain_at .later [] _ _ _ _ said (fun _ h=>by cases h) (by kernel_rfl) (fun _ h=>by cases h) builtinContents_row_tie rfl ⟨rfl,rfl⟩ (by kernel_rfl) rfl plain (by kernel_rfl)
end cBuiltinContents
end Go.Proofs.YtjgllhlilbchpaaGreatDoor
