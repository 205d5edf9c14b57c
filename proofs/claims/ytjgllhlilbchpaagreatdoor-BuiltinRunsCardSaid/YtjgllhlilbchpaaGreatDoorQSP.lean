/-
  The walk of layer 7's reference: Parse.
-/
import Derived.Test.YtjgllhlilbchpaaGreatDoorQTK
import Derived.Test.YtjgllhlilbchpaaGreatDoorQSO
import Derived.Test.YtjgllhlilbchpaaGreatDoorQSN
import Derived.Test.YtjgllhlilbchpaaGreatDoorQSM
import Derived.Test.YtjgllhlilbchpaaGreatDoorQSI
import Derived.Test.YtjgllhlilbchpaaGreatDoorQUC
import Derived.Test.YtjgllhlilbchpaaGreatDoorQUA
import Derived.Test.YtjgllhlilbchpaaGreatDoorQSL
import Derived.Test.YtjgllhlilbchpaaGreatDoorQD
set_option linter.unusedSimpArgs false
set_option linter.unusedVariables false
namespace Go.Proofs.YtjgllhlilbchpaaGreatDoor
open Go.RowKit Go.Cold

set_option maxHeartbeats 8000000 in
set_option maxRecDepth 100000 in
theorem RParse_any (s:ByteArray) (w:World) (hsz:s.size≤maxLen) (hok:Ok8 w):Calls Tryz.prog 65 #[.string s] w (ParsePost s w):=by
 have hzv:=(zero_of_info (P:=Tryz.prog) (t:=72) info_cont2).1;unfold maxLen at hsz;by_cases hs:s.size≤256
 case neg =>
  have i1:¬ (s.size:Int)≤256:=by omega
  have i2:(256:Int)<(s.size:Int):=by omega
  have hn:parseC s=none:=by unfold parseC;rw [if_pos (by omega)]
  have HN:=Lh_ hn;clear hn;go_enter Tryz.func65,Tryz.ntmps65;go_wp2;refine bodyPost_ret (v:=.tuple #[.agg #[.int .i64 0,.string ByteArray.empty,.string ByteArray.empty,.int .i64 0,.int .i64 0,.int .i64 0,.slice none 0 0],.int .i64 71]) (by simp [results,Tryz.results65,go_sem]) rfl ⟨?_,.inr ⟨HN.out,by rw [if_pos (by omega)];rfl⟩⟩;(repeat first | refine Below.setCell ?_ (by first | (simp;done) | (simp;omega)) _ | refine Below.alloc ?_ (by first | (simp;done) | (simp;omega)) _);exact Below.refl _ _
 have i1:(s.size:Int)≤256:=by omega
 have i2:¬ (256:Int)<(s.size:Int):=by omega
 have HOK:=Lh_ hok;clear hok hsz;go_enter Tryz.func65,Tryz.ntmps65;go_upto_region 3 with fail
 obtain ⟨w1,hw1⟩:∃ w1,w.alloc (.cells #[.int .i64 0,.string ByteArray.empty,.string ByteArray.empty,.int .i64 0,.int .i64 0,.int .i64 0,.slice none 0 0] 72)=w1:=⟨_,rfl⟩;obtain ⟨hb1,hg1,-⟩:=box7 hw1;have hr1:BoxL w1 w.heap.size zeroL:=box_mk hw1;rw [hw1];have HB1:=Lh_ hb1;have HG1:=Lh_ hg1;have HR1:=Lh_ hr1;clear hw1 hb1 hg1 hr1;have hfail:parseC s=none→∀ (w5:World),Below w.heap.size w w5→ParsePost s w (.returned (.tuple #[zeroA,.int .i64 70])) (((((((w5.setCell ⟨w.heap.size,0,none⟩ (.int .i64 0)).setCell ⟨w.heap.size,1,none⟩ (.string ByteArray.empty)).setCell ⟨w.heap.size,2,none⟩ (.string ByteArray.empty)).setCell ⟨w.heap.size,3,none⟩ (.int .i64 0)).setCell ⟨w.heap.size,4,none⟩ (.int .i64 0)).setCell ⟨w.heap.size,5,none⟩ (.int .i64 0)).setCell ⟨w.heap.size,6,none⟩ (.slice none 0 0)):=by
  intro h w5 hb5;exact ⟨below7 hb5 (Nat.le_refl _) _ _ _ _ _ _ _,.inr ⟨h,by rw [if_neg (by omega)]⟩⟩
 have HFAIL:=Lh_ hfail;clear hfail;have hpc:parseC s=(match readR 6 s with
  | none=>none
  | some (c,r)=>if r.size=0∧badC c=false∧textC c=s then some c else none):=by
  rw [← ref_parse];unfold refP;rw [if_neg (by omega)];cases readR 6 s <;> rfl
 have HPC:=Lh_ hpc;clear hpc;go_wp2_with fail;clear i1 i2;refine Calls.mono (read_any 6 (by decide) s w1 hs (HOK.out.below HB1.out):Calls Tryz.prog 111 #[.string s,.int .i64 6] w1 _) ?_;rintro e w2 ⟨hb2,hor⟩;have HB2:=Lh_ hb2;have HR2:=kb_ HR1 hb2;have HB02:=tb_ HB1 hb2;clear hb2;rcases hor with ⟨c,cs,r,hR,rfl,hnew⟩ | ⟨hR,k,i,l,sl,t,le,A,n,cp,rfl⟩
 case inr =>
  have hn:parseC s=none:=by rw [HPC.out,hR]
  have HN:=Lh_ hn;clear hn hR;go_upto_region 4 with fail
  obtain ⟨w3,hw3⟩:∃ w3,w2.alloc (.cells #[.int .i64 k,.string i,.string l,.int .i64 sl,.int .i64 t,.int .i64 le,.slice A n cp] 72)=w3:=⟨_,rfl⟩;obtain ⟨hb3,hg3,-⟩:=box7 hw3;rw [hw3];have HR3:=kb_ HR2 hb3;have HB03:=tb_ HB02 hb3;clear hw3 hb3 hg3;obtain ⟨y0,y1,y2,y3,y4,y5,y6⟩:=s7_ HR3.out.1;have yf:=HR3.out.2.1;go_wp2;exact bodyPost_ret (v:=.tuple #[.agg #[.int .i64 0,.string ByteArray.empty,.string ByteArray.empty,.int .i64 0,.int .i64 0,.int .i64 0,.slice none 0 0],.int .i64 70]) (by simp [results,Tryz.results65,go_sem,y0,y1,y2,y3,y4,y5,y6]) rfl (HFAIL.out HN.out _ HB03.out)
 have hlen:=read_len _ _ _ _ hR;have hpc2:=HPC.out;rw [hR] at hpc2;simp only at hpc2;have HPC2:=Lh_ hpc2;have HLEN:=Lh_ hlen;clear hpc2 hlen hR;obtain ⟨k,i,l,sl,t,le,xs⟩:=c;obtain ⟨A,cp,rfl⟩:=CRdS_cells hnew;simp only [contCells];have HNEW:=Lh_ hnew;clear hnew;go_upto_region 4 with fail
 obtain ⟨w3,hw3⟩:∃ w3,w2.alloc (.cells #[.int .i64 k,.string i,.string l,.int .i64 sl,.int .i64 t,.int .i64 le,.slice A xs.length cp] 72)=w3:=⟨_,rfl⟩;obtain ⟨hb3,hg3,hbox3⟩:=box7 hw3;rw [hw3];have HR3:=kb_ HR2 hb3;have HB03:=tb_ HB02 hb3;have hnew3:CRdS w3 (fun x=>w1.heap.size≤x∧x<w2.heap.size) (.mk k i l sl t le xs) (contCells k i l sl t le A xs.length cp):=CRdS_mono (fun _ h=>h) (fun y o u hy hu=>(hb3.cell (p:=⟨y,o,none⟩) (by exact hy.2)).trans hu) _ _ HNEW.out;have hx3:CRd w3 w3.heap.size (.mk k i l sl t le xs) (contCells k i l sl t le A xs.length cp):=CRd_more (by omega) _ _ (CRd_keep hb3 _ _ HNEW.out.crd);have HNEW3:=Lh_ hnew3;have HX3:=Lh_ hx3;have HBOX3:=Lh_ hbox3;have HG3:=Lh_ hg3;clear hw3 hb3 hg3 hbox3 hnew3 hx3 HNEW;by_cases hr0:r.size=0
 case neg =>
  have hre:¬ r.toList=[]:=fun h=>hr0 (by rw [(empty_iff r).1 h];rfl)
  have hre2:r.toList.isEmpty=false:=by simpa using hre
  have hre3:(!r.toList.isEmpty)=true:=by rw [hre2];rfl
  have hn:parseC s=none:=by rw [HPC2.out,if_neg (fun h=>hr0 h.1)]
  have HN:=Lh_ hn;clear hn hr0;obtain ⟨y0,y1,y2,y3,y4,y5,y6⟩:=s7_ HR3.out.1;have yf:=HR3.out.2.1;go_wp2;exact bodyPost_ret (v:=.tuple #[.agg #[.int .i64 0,.string ByteArray.empty,.string ByteArray.empty,.int .i64 0,.int .i64 0,.int .i64 0,.slice none 0 0],.int .i64 70]) (by simp [results,Tryz.results65,go_sem,y0,y1,y2,y3,y4,y5,y6]) rfl (HFAIL.out HN.out _ HB03.out)
 have hre:r.toList=[]:=by rw [of_list (List.eq_nil_of_length_eq_zero (show r.data.toList.length=0 by rw [ba_size];exact hr0))];decide +kernel
 have hre2:r.toList.isEmpty=true:=by rw [hre];rfl
 have HR0:=Lh_ hr0;clear hr0;obtain ⟨d0,d1,d2,d3,d4,d5,d6⟩:=HBOX3.out.zero;have hcall:=c7RValid_any (.mk k i l sl t le xs) _ w3 HX3.out;simp only [contCells] at hcall;obtain ⟨C,hC⟩:∃ C,Cont.mk k i l sl t le xs=C:=⟨_,rfl⟩;rw [hC] at hcall;have HC:=Lh_ hC;clear hC;cases hbad:badC C with
 | true =>
  rw [hbad] at hcall;have HCALL:=Lh_ hcall;clear hcall;have hn:parseC s=none:=by rw [HPC2.out,HC.out,hbad];simp
  have HN:=Lh_ hn;clear hn hbad;go_wp2_with fail;refine HCALL.out.mono ?_;rintro e w4 ⟨rfl,hb4⟩;have HR4:=kb_ HR3 hb4;have HB04:=tb_ HB03 hb4;clear d0 d1 d2 d3 d4 d5 d6 hb4;obtain ⟨y0,y1,y2,y3,y4,y5,y6⟩:=s7_ HR4.out.1;have yf:=HR4.out.2.1;go_wp2;exact bodyPost_ret (v:=.tuple #[.agg #[.int .i64 0,.string ByteArray.empty,.string ByteArray.empty,.int .i64 0,.int .i64 0,.int .i64 0,.slice none 0 0],.int .i64 70]) (by simp [results,Tryz.results65,go_sem,y0,y1,y2,y3,y4,y5,y6]) rfl (HFAIL.out HN.out _ HB04.out)
 | false =>
  rw [hbad] at hcall;have HCALL:=Lh_ hcall;clear hcall;have HBAD:=Lh_ hbad;clear hbad;go_wp2_with fail;refine HCALL.out.mono ?_;rintro e w4 ⟨rfl,hb4⟩;have HR4:=kb_ HR3 hb4;have HB04:=tb_ HB03 hb4;clear d0 d1 d2 d3 d4 d5 d6;obtain ⟨d0,d1,d2,d3,d4,d5,d6⟩:=(HBOX3.out.keep hb4 (by have:=HG3.out;omega)).zero;have hx4:=CRd_more hb4.size _ _ (CRd_keep hb4 _ _ HX3.out);rw [HC.out] at hx4;have hnd:nodesC C≤257:=by have:=HLEN.out;rw [HC.out] at this;omega
  have hcall:=rtext_any C _ w4 hx4 (ok_of_bad HBAD.out).1 (by omega);simp only [contCells] at hcall;obtain ⟨X,hX⟩:∃ X,textC C=X:=⟨_,rfl⟩;rw [hX] at hcall;have HCALL2:=Lh_ hcall;have HX:=Lh_ hX;have HB4:=Lh_ hb4;have HND:=Lh_ hnd;clear hcall hX hb4 hx4 hnd;go_wp2_with fail;refine HCALL2.out.mono ?_;rintro e w5 ⟨rfl,hb5⟩;have HR5:=kb_ HR4 hb5;have HB05:=tb_ HB04 hb5;have hb35:Below w3.heap.size w3 w5:=HB4.out.trans (hb5.mono HB4.out.size);clear d0 d1 d2 d3 d4 d5 d6;obtain ⟨d0,d1,d2,d3,d4,d5,d6⟩:=(HBOX3.out.keep hb35 (by have:=HG3.out;omega)).zero;have HB35:=Lh_ hb35;clear hb5 hb35;by_cases hts:X=s
  ·
   have hn:parseC s=some C:=by rw [HPC2.out,HC.out,if_pos ⟨HR0.out,HBAD.out,HX.out.trans hts⟩]
   have HN:=Lh_ hn;clear hn;have e1:(X.toList == s.toList)=true:=by rw [hts];simp
   have e2:(X.toList != s.toList)=false:=by rw [bne,e1];rfl
   have HTS:=Lh_ hts;clear hts;obtain ⟨y0,y1,y2,y3,y4,y5,y6⟩:=s7_ HR5.out.1;have yf:=HR5.out.2.1;go_wp2;refine bodyPost_ret (v:=.tuple #[.agg #[.int .i64 k,.string i,.string l,.int .i64 sl,.int .i64 t,.int .i64 le,.slice A xs.length cp],.int .i64 0]) (by simp [results,Tryz.results65,go_sem,y0,y1,y2,y3,y4,y5,y6]) rfl ⟨below7 HB05.out (Nat.le_refl _) _ _ _ _ _ _ _,.inl ⟨_,contCells k i l sl t le A xs.length cp,HN.out,rfl,?_,HND.out⟩⟩;rw [← HC.out];unfold NewC;rw [fin_size];refine CRdS_mono (fun y hy=>⟨by have:=hy.1;have:=HG1.out;omega,by have:=hy.2;have:=HG3.out;have:=HB35.out.size;omega⟩) (fun y o u hy hu=>?_) _ _ HNEW3.out;exact fin_cells _ _ _ _ _ _ _ y o u (by have:=hy.1;have:=HG1.out;omega) ((HB35.out.cell (p:=⟨y,o,none⟩) (by show y<w3.heap.size;have:=hy.2;have:=HG3.out;omega)).trans hu)
  ·
   have hn:parseC s=none:=by rw [HPC2.out,HC.out,if_neg (fun h=>hts (HX.out.symm.trans h.2.2))]
   have HN:=Lh_ hn;clear hn;have e1:(X.toList == s.toList)=false:=by rw [ba_beq];exact decide_eq_false hts
   have e2:(X.toList != s.toList)=true:=by rw [bne,e1];rfl
   clear hts;obtain ⟨y0,y1,y2,y3,y4,y5,y6⟩:=s7_ HR5.out.1;have yf:=HR5.out.2.1;go_wp2;exact bodyPost_ret (v:=.tuple #[.agg #[.int .i64 0,.string ByteArray.empty,.string ByteArray.empty,.int .i64 0,.int .i64 0,.int .i64 0,.slice none 0 0],.int .i64 70]) (by simp [results,Tryz.results65,go_sem,y0,y1,y2,y3,y4,y5,y6]) rfl (HFAIL.out HN.out _ HB05.out)
end Go.Proofs.YtjgllhlilbchpaaGreatDoor
namespace Go.Cold
open Go Go.RowKit Go.Proofs.YtjgllhlilbchpaaGreatDoor
section
variable {α:Type} [El α] {P:Program} {k e t:TypeId} {w w':World} {b n:Nat} {f:Int→Option α}
theorem MapV.put_run (h:MapV P k e w b n f) (ht:P.underlying t=some (.map k e)) (hk:P.underlying k=some (.int .i64)) (he:P.underlying e=some (El.desc (α:=α))) (i:Int) (c:α) (hi:okI i) (hc:El.ok c) (hn:n<maxLen) :
  ∃ w',(Instr.mapUpdate t (.map (some b)) (.int .i64 i) (El.val c)).run P w=.ok () w'∧MapV P k e w' b (n+1) (updF f i c)∧w.grownBy w' (some b):=by
 obtain ⟨D,h1,h2⟩:=h;obtain ⟨w',hrun,r1,r2⟩:=h1.update (Maps.int_keyed hk) ht hn (Maps.keyOf_int_mk hk (wf_i64.2 hi)) (El.rd he hc);refine ⟨w',hrun,⟨_,r1,fun j hj=>?_⟩,r2⟩;have hM:=h1.isMap;have hK1:WideAt.IsKeyLit (.int .i64 i):=(Maps.int_keyed hk).key (Maps.keyOf_int_mk hk (wf_i64.2 hi));unfold updF;by_cases hji:j=i
 ·
  subst hji
  rw [if_pos rfl];exact ⟨Maps.has_put_same hM hK1 _,(fun z a ha=>by obtain rfl:=Option.some.inj ha;exact Maps.atKey_put_same hM hK1 _ z),(fun z h=>by cases h)⟩
 ·
  rw [if_neg hji]
  have hne:(Lit.int .i64 j:Lit)≠.int .i64 i:=fun h=>hji (by injection h)
  obtain ⟨e1,e2,e3⟩:=h2 j hj;exact ⟨(Maps.has_put_other hne _).trans e1,fun z a ha=>(Maps.atKey_put_other hne _ z).trans (e2 z a ha),fun z hz=>(Maps.atKey_put_other hne _ z).trans (e3 z hz)⟩
theorem wpList_lit {ops:Array Oper} {rest:List Oper} {o:Oper} {a:Act} {Q:Exit→Act→World→Prop}
  (hg:o.guard=none) (m x v:Operand) (t:TypeId) (hop:o.op=Op.insert t m x v) (h:MapV P k e w b n f) (ht:P.underlying t=some (.map k e)) (hk:P.underlying k=some (.int .i64)) (he:P.underlying e=some (El.desc (α:=α)))
  (hm:a.eval m=.map (some b)) (i:Int) (c:α) (hi:okI i) (hc:El.ok c) (hn:n<maxLen) (hx:a.eval x=.int .i64 i) (hv:a.eval v=El.val c)
  (hK:∀ w',MapV P k e w' b (n+1) (updF f i c)→w.grownBy w' (some b)→wpList P ops Q rest (a.put o.dst undef) w'):wpList P ops Q (o :: rest) a w:=by
 refine wpList_plain hg fun K' hK'=>?_
 obtain ⟨w',hrun,r1,r2⟩:=h.put_run ht hk he i c hi hc hn;unfold Oper.wp;simp [execOp,hop,hm,hx,hv,hrun,Result.andThen]
 exact hK' _ _ (hK w' r1 r2)
end
def useF:Int→Option ByteArray:=updF (updF (updF (updF (updF (fun _=>none) 1 tFile) 2 tRaid) 3 tCrypto) 4 tMember) 5 tTable
theorem useF_at {k:Int} (h:1≤k∧k≤5):useF k=some (usageT k):=by
 have:k=1∨k=2∨k=3∨k=4∨k=5:=by omega
 rcases this with rfl | rfl | rfl | rfl | rfl <;> rfl
theorem parse_kind {s:ByteArray} {c:Cont} (h:parseC s=some c):c.kind=0∨(1≤c.kind∧c.kind≤5):=by
 obtain ⟨hall,-,-,-⟩:=AllOk_parse h;obtain ⟨k,i,l,s,t,e,xs⟩:=c;have ho:=(AllOk_mk.1 hall).1;simp only [ownB] at ho;show k=0∨(1≤k∧k≤5)
 by_cases h0:k=0
 · exact .inl h0
 rw [if_neg h0,Bool.and_eq_true] at ho;have h2:=ho.2;by_cases k1:k=1
 · exact .inr (by omega)
 rw [if_neg k1] at h2;by_cases k2:k=2
 · exact .inr (by omega)
 rw [if_neg k2] at h2;by_cases k3:k=3
 · exact .inr (by omega)
 rw [if_neg k3] at h2;by_cases k4:k=4
 · exact .inr (by omega)
 rw [if_neg k4] at h2;by_cases k5:k=5
 · exact .inr (by omega)
 rw [if_neg k5] at h2;cases h2
theorem usage_small (k:Int):(usageT k).size≤maxLen:=by
 unfold usageT;split
 · decide
 split
 · decide
 split
 · decide
 split <;> decide
theorem contL_kind {L:List Dev} {n:Int} {d:Dev} (hd:d=(findD L n).getD zeroD) (h:¬ d.kind=2):contL L n=[]:=by
 unfold contL contAt;rw [← hd,if_neg h]
theorem contL_none {L:List Dev} {n:Int} {d:Dev} (hd:d=(findD L n).getD zeroD) (h:parseC (contD d)=none):contL L n=[]:=by
 unfold contL contAt;rw [← hd,h];split <;> rfl
theorem contL_some {L:List Dev} {n:Int} {d:Dev} {c:Cont} (hd:d=(findD L n).getD zeroD) (hk:d.kind=2) (h:parseC (contD d)=some c):contL L n=contA c:=by
 unfold contL contAt;rw [← hd,h,if_pos hk]
theorem contA_zero {c:Cont} (h:c.kind=0):contA c=[]:=by unfold contA;rw [if_pos h]
theorem contA_ref {c:Cont} (h:¬ c.kind=0):setA (setA (setA [] kFsLabel c.label) kFsUsage (usageT c.kind)) kFsUuid c.id=contA c:=by unfold contA;rw [if_neg h];rfl
theorem contA_prog {c:Cont} (h:¬ c.kind=0):putAll [(kFsUsage,usageT c.kind),(kFsUuid,c.id),(kFsLabel,c.label)]=contA c:=by
 have e1:putAll [(kFsUsage,usageT c.kind)]=putA [] kFsUsage (usageT c.kind):=put_next (ps:=[]) putAll_nil (by simp);have e2:putAll [(kFsUsage,usageT c.kind),(kFsUuid,c.id)]=putA (putA [] kFsUsage (usageT c.kind)) kFsUuid c.id:=put_next (ps:=[(kFsUsage,usageT c.kind)]) e1 (by simp;decide +kernel);have e3:putAll [(kFsUsage,usageT c.kind),(kFsUuid,c.id),(kFsLabel,c.label)]=_:=put_next (ps:=[(kFsUsage,usageT c.kind),(kFsUuid,c.id)]) e2 (by simp;decide +kernel);exact e3.trans (cont_order c h)
theorem contD_small {d:Dev} {w:World} {B c:Nat} {A:Option Addr} (h:Sl w B A c d.attrs):(contD d).size≤maxLen:=by
 unfold contD;cases hg:getA d.attrs nmContent with
 | none=>exact Nat.zero_le _
 | some v=>exact ((attr_okS (SlS_iff.1 h)) _ (getA_mem hg)).2
end Go.Cold
namespace Go.Proofs.YtjgllhlilbchpaaGreatDoor
open Go.RowKit Go.Cold
set_option maxRecDepth 100000 in
theorem usages_any (w:World):Calls Tryz.prog 55 #[] w fun e w'=>∃ b,e=.returned (.map (some b))∧MapV Tryz.prog 3 9 w' b 5 useF∧Below w.heap.size w w':=by
 have hmk:=fun z=>run_makeMap (P:=Tryz.prog) 75 z
 go_enter Tryz.func55,Tryz.ntmps55;have hm0:=MapV.made (α:=ByteArray) w Tryz.prog 3 9;obtain ⟨w1,hw1⟩:∃ z,w.alloc (.map #[] 0)=z:=⟨_,rfl⟩;rw [hw1] at hm0;have hb1:Below w.heap.size w w1:=by rw [← hw1];exact (Below.refl _ _).alloc (Nat.le_refl _) _
 have HM:=Lh_ hm0;have HG:=Lh_ hb1;clear hm0 hb1;go_wp2_with (refine wpList_lit (α:=ByteArray) rfl _ _ _ _ rfl HM.out Tryz.underlying75 Tryz.underlying3 Tryz.underlying9 rfl _ _ (by unfold okI;omega) (by show _≤maxLen;decide) (by decide) rfl rfl ?_;intro wn_ hm_ hg_;have HG:=Lh_ (HG.out.grown hg_ HG.out.size (fun q hq=>by have:=Option.some.inj hq;omega));have HM:=Lh_ hm_;clear hm_ hg_);go_ret;exact ⟨_,rfl,HM.out,HG.out⟩
set_option maxRecDepth 100000 in
set_option maxHeartbeats 4000000 in
theorem Content_any (A:Option Addr) (c:Nat) (L:List Dev) (n:Int) (w:World) (B:Nat) (hB:B≤w.heap.size) (hx:Sl w B A c L) (hv:VT L) (hok:Ok7 w) (hko:Ok w) (hn:okI n) :
  Calls Tryz.prog 21 #[.agg #[.slice A L.length c],.int .i64 n] w (SlPost (Go.Cold.contL L n) w):=by
 have hx1:=hx.1;have hx2:=hx.2.1;unfold maxLen at hx2;have HX:=Lh_ hx;have HB:=Lh_ hB;have HV:=Lh_ hv;have HOK:=Lh_ hok;clear hx hB hv hok;have HKO:=Lh_ hko;have HN:=Lh_ hn;clear hko hn;have HLA:=Lh_ (show ∀ d ∈ L,d.attrs.length≤1000000 from fun d hd=>attrs_le (HV.out.chk d hd));go_enter Tryz.func21,Tryz.ntmps21;go_upto_region 1 with fail
 obtain ⟨w1,hw1,hbw1,HGw1,HXtw1⟩:=bx_ w [.slice A L.length c] 28;try simp only [hw1]
 have HBw1:=Lh_ hbw1;clear hw1 hbw1;try rw [← HGw1.out]
 have ct0:=HXtw1.out.1 0 _ rfl;go_wp2_with fail;refine (TFind_any A c L (n) _ B (Nat.le_trans HB.out HBw1.out.size) (HX.out.keep (HBw1.out.mono HB.out)) HLA.out).mono ?_;rintro e w2 ⟨hbw2,d,A3,c3,hd,rfl,hod,hsd⟩;clear ct0;have HBw2:=tb_ HBw1 hbw2;have tw2:=kb_ HXtw1 hbw2;clear hbw2;have ct0:=tw2.out.1 0 _ rfl;have Hd:=Lh_ (show d=(findD L (n)).getD zeroD from hd);have HOd:=Lh_ hod;have HSd:=Lh_ (show Sl w2 w2.heap.size A3 c3 d.attrs from hsd.sl (fun x hx=>hx.2));clear hd hod hsd;obtain ⟨qd,hqd⟩:∃ q,(L.find? (byIdx (n))).isSome=q:=⟨_,rfl⟩;rw [hqd];clear hqd;go_upto_region 2 with fail
 obtain ⟨w3,hw3,hbw3,HGw3,HXaw3⟩:=bx_ w2 [.int .i64 d.idx,.int .i64 d.par,.string d.nm,.string d.orig,.string d.sub,.string d.drv,.string d.ali,.int .i64 d.kind,.int .i64 d.num,.slice A3 d.attrs.length c3] 32;try simp only [hw3]
 have HBw3:=tb_ HBw2 hbw3;have tw3:=kb_ tw2 hbw3;have HSdw3:=Lh_ ((HSd.out).next (Nat.le_refl _) hbw3);clear hw3 hbw3;try rw [← HGw3.out]
 clear ct0;have ct0:=tw3.out.1 0 _ rfl;obtain ⟨ca0,ca1,ca2,ca3,ca4,ca5,ca6,ca7,ca8,ca9⟩:=s10_ HXaw3.out.1;go_wp2_with fail;refine (Get_any A3 c3 d.attrs ⟨#[99,111,110,116,101,110,116]⟩ _ w3.heap.size (Nat.le_refl _) HSdw3.out).mono ?_;rintro e wt ⟨rfl,hbwt⟩;clear ct0 ca0 ca1 ca2 ca3 ca4 ca5 ca6 ca7 ca8 ca9;have HBwt:=tb_ HBw3 hbwt;have twt:=kb_ tw3 hbwt;have awt:=kb_ HXaw3 hbwt;have HSdwt:=Lh_ ((HSdw3.out).next (Nat.le_refl _) hbwt);clear hbwt;have ct0:=twt.out.1 0 _ rfl;obtain ⟨ca0,ca1,ca2,ca3,ca4,ca5,ca6,ca7,ca8,ca9⟩:=s10_ awt.out.1;obtain ⟨t,ht⟩:∃ z,contD d=z:=⟨_,rfl⟩;rw [show (getA d.attrs ⟨#[99,111,110,116,101,110,116]⟩).getD ByteArray.empty=t from ht];obtain ⟨qb,hqb⟩:∃ z,(getA d.attrs ⟨#[99,111,110,116,101,110,116]⟩).isSome=z:=⟨_,rfl⟩;rw [hqb];clear hqb;have HT:=Lh_ ht;have HTS:=Lh_ (show t.size≤maxLen from ht ▸ contD_small HSdwt.out);clear ht;go_wp2_with fail;refine (Parse_any t (fun h=>IxOk_any _ (by omega)) _ HTS.out (HOK.out.below HBwt.out)).mono ?_;rintro e w4 ⟨hbw4,hor⟩;clear ct0 ca0 ca1 ca2 ca3 ca4 ca5 ca6 ca7 ca8 ca9;have HBw4:=tb_ HBwt hbw4;have tw4:=kb_ twt hbw4;have aw4:=kb_ awt hbw4;have HSdw4:=Lh_ ((HSdwt.out).next (Nat.le_refl _) hbw4);clear hbw4;have ct0:=tw4.out.1 0 _ rfl;obtain ⟨ca0,ca1,ca2,ca3,ca4,ca5,ca6,ca7,ca8,ca9⟩:=s10_ aw4.out.1;rcases hor with ⟨C,cs,hC,rfl,hnew,hnod⟩ | ⟨hC,rfl⟩
 case inr =>
  obtain ⟨y,hy1,hy2,hy3⟩:∃ y:Int,(if 256<t.size then (71:Int) else 70)=y∧(y != 0)=true∧¬ y=0:=by
   split
   · exact ⟨71,rfl,rfl,by omega⟩
   · exact ⟨70,rfl,rfl,by omega⟩
  rw [hy1];unfold zeroA;have HE:=Lh_ (contL_none Hd.out (by rw [HT.out];exact hC));clear hC hy1;go_upto_region 4 with fail
  obtain ⟨w5,hw5,hbw5,HGw5,HXkw5⟩:=bx_ w4 [.int .i64 0,.string ByteArray.empty,.string ByteArray.empty,.int .i64 0,.int .i64 0,.int .i64 0,.slice none 0 0] 72;try simp only [hw5]
  have HBw5:=tb_ HBw4 hbw5;have tw5:=kb_ tw4 hbw5;have aw5:=kb_ aw4 hbw5;have HSdw5:=Lh_ ((HSdw4.out).next (Nat.le_refl _) hbw5);clear hw5 hbw5;try rw [← HGw5.out]
  clear ct0 ca0 ca1 ca2 ca3 ca4 ca5 ca6 ca7 ca8 ca9;have ct0:=tw5.out.1 0 _ rfl;obtain ⟨ca0,ca1,ca2,ca3,ca4,ca5,ca6,ca7,ca8,ca9⟩:=s10_ aw5.out.1;obtain ⟨ck0,ck1,ck2,ck3,ck4,ck5,ck6⟩:=s7_ HXkw5.out.1;by_cases hk:d.kind=2
  ·
   have hkb:(d.kind != 2)=false:=by simp [hk]
   clear hk;go_wp2;go_ret;exact ⟨HBw5.out,none,0,by rw [HE.out];rfl,by rw [HE.out];exact Sl.nil_⟩
  ·
   have hkb:(d.kind != 2)=true:=by simp [hk]
   clear hk;go_wp2;go_ret;exact ⟨HBw5.out,none,0,by rw [HE.out];rfl,by rw [HE.out];exact Sl.nil_⟩
 obtain ⟨k,i,l,s2,t2,le,xs⟩:=C;have hcz:i.size≤maxLen∧l.size≤maxLen∧okI k:=by obtain ⟨_,_,_,h3,_⟩:=CRd_iff.1 hnew.crd;exact ⟨h3.2.1,h3.2.2.1,h3.1⟩
 obtain ⟨A5,c5,rfl⟩:=CRdS_cells hnew;simp only [contCells];have HCZ:=Lh_ hcz;have HC:=Lh_ (show parseC (contD d)=some (.mk k i l s2 t2 le xs) by rw [HT.out];exact hC);have HKI:=Lh_ (show k=0∨(1≤k∧k≤5) from parse_kind hC);clear hcz hnew hnod hC;go_upto_region 4 with fail
 obtain ⟨w6,hw6,hbw6,HGw6,HXkw6⟩:=bx_ w4 [.int .i64 k,.string i,.string l,.int .i64 s2,.int .i64 t2,.int .i64 le,.slice A5 xs.length c5] 72;try simp only [hw6]
 have HBw6:=tb_ HBw4 hbw6;have tw6:=kb_ tw4 hbw6;have aw6:=kb_ aw4 hbw6;have HSdw6:=Lh_ ((HSdw4.out).next (Nat.le_refl _) hbw6);clear hw6 hbw6;try rw [← HGw6.out]
 clear ct0 ca0 ca1 ca2 ca3 ca4 ca5 ca6 ca7 ca8 ca9;have ct0:=tw6.out.1 0 _ rfl;obtain ⟨ca0,ca1,ca2,ca3,ca4,ca5,ca6,ca7,ca8,ca9⟩:=s10_ aw6.out.1;obtain ⟨ck0,ck1,ck2,ck3,ck4,ck5,ck6⟩:=s7_ HXkw6.out.1;by_cases hk:d.kind=2
 case neg =>
  have hkb:(d.kind != 2)=true:=by simp [hk]
  have HE:=Lh_ (contL_kind Hd.out hk);clear hk;go_wp2;go_ret;exact ⟨HBw6.out,none,0,by rw [HE.out];rfl,by rw [HE.out];exact Sl.nil_⟩
 have hkb:(d.kind != 2)=false:=by simp [hk]
 by_cases h0:k=0
 case pos =>
  subst h0;have HE:=Lh_ (show Go.Cold.contL L n=[] by rw [contL_some Hd.out hk HC.out];exact contA_zero rfl);clear hk;go_wp2;go_ret;exact ⟨HBw6.out,none,0,by rw [HE.out];rfl,by rw [HE.out];exact Sl.nil_⟩
 have h0b:(k == 0)=false:=by simpa using h0
 have HE:=Lh_ (contL_some Hd.out hk HC.out);have HK:=Lh_ h0;have HK5:=Lh_ (show 1≤k∧k≤5 by have:=HKI.out;omega);clear hk h0 HKI;have HCA:=Lh_ (contA_prog (c:=.mk k i l s2 t2 le xs) HK.out);obtain ⟨us,hus⟩:∃ z,usageT k=z:=⟨_,rfl⟩;have HUS:=Lh_ hus;have HUZ:=Lh_ (show us.size≤maxLen from hus ▸ usage_small k);clear hus;go_upto_region 6 with fail
 refine wp_region_held_drew (S:=fun w'=>BoxL w' (w4.heap.size) [.int .i64 k,.string i,.string l,.int .i64 s2,.int .i64 t2,.int .i64 le,.slice A5 xs.length c5]) (by kernel_rfl) HXkw6.out.drew (fun hS0=>?_);obtain ⟨wd,hwd⟩:∃ z,World.drew w6=z:=⟨_,rfl⟩;rw [hwd] at hS0 ⊢;have hb_:Below w6.heap.size w6 wd:=by rw [← hwd];exact below_drewN_self _ _ 1
 clear hwd hS0;clear ct0 ca0 ca1 ca2 ca3 ca4 ca5 ca6 ca7 ca8 ca9 ck0 ck1 ck2 ck3 ck4 ck5 ck6;have HBwd:=tb_ HBw6 hb_;have twd:=kb_ tw6 hb_;have awd:=kb_ aw6 hb_;have kwd:=kb_ HXkw6 hb_;have HSdwd:=Lh_ ((HSdw6.out).next (Nat.le_refl _) hb_);clear hb_;refine tk1 1 41 (.pointer (some ⟨w4.heap.size,0,none⟩)) rfl (fun w' hS=>by go_simp) kwd.out ?_;try simp only [Act.put,sA_,sB_,sC_]
 refine tk1 2 42 (.int .i64 k) rfl (fun w' hS=>by (have u0_:=hS.1 0 _ rfl;go_simp)) kwd.out ?_;try simp only [Act.put,sA_,sB_,sC_]
 refine tk1 5 45 (.pointer (some ⟨w4.heap.size,1,none⟩)) rfl (fun w' hS=>by go_simp) kwd.out ?_;try simp only [Act.put,sA_,sB_,sC_]
 refine tk1 6 46 (.string i) rfl (fun w' hS=>by (have u0_:=hS.1 1 _ rfl;go_simp)) kwd.out ?_;try simp only [Act.put,sA_,sB_,sC_]
 refine tk1 8 48 (.pointer (some ⟨w4.heap.size,2,none⟩)) rfl (fun w' hS=>by go_simp) kwd.out ?_;try simp only [Act.put,sA_,sB_,sC_]
 refine tk1 9 49 (.string l) rfl (fun w' hS=>by (have u0_:=hS.1 2 _ rfl;go_simp)) kwd.out ?_;try simp only [Act.put,sA_,sB_,sC_]
 refine rd1 0 (o:=⟨some 40,.call ⟨_,_,_⟩,_,_,_,_⟩) rfl (fun K hK=>?_);go_simp;go_at_call 55;refine (usages_any _).mono ?_;rintro e' q0 ⟨bm,rfl,hmap,hb_⟩;have HBq0:=tb_ HBwd hb_;have tq0:=kb_ twd hb_;have aq0:=kb_ awd hb_;have kq0:=kb_ kwd hb_;have HSdq0:=Lh_ ((HSdwd.out).next (Nat.le_refl _) hb_);have HMP:=Lh_ hmap;clear hmap hb_;refine hK.out _ _ kq0.out (fun _=>?_);clear hK K;try simp only [Act.put,sA_,sB_,sC_]
 refine rd1 3 (o:=⟨some 43,.lookup _ _ _ _,_,_,_,_⟩) rfl (fun K hK=>?_);have hlk:=look_str HMP.out (i:=k) HCZ.out.2.2;rw [useF_at HK5.out,Option.getD_some,HUS.out] at hlk;go_simp;refine hK.out _ _ kq0.out (fun _=>?_);clear hK K;try simp only [Act.put,sA_,sB_,sC_]
 clear hlk;refine rd1 4 (o:=⟨some 44,.call ⟨_,_,_⟩,_,_,_,_⟩) rfl (fun K hK=>?_);go_simp;go_at_call 46;refine (Put_any none 0 [] kFsUsage us _ q0.heap.size (Nat.le_refl _) Sl.nil_ (put_srt putAll_nil) (put_len putAll_nil (by simp)) (by decide) HUZ.out).mono ?_;rintro e' q1 ⟨hb_,A1_,c1_,rfl,hs_⟩;have HBq1:=tb_ HBq0 hb_;have tq1:=kb_ tq0 hb_;have aq1:=kb_ aq0 hb_;have kq1:=kb_ kq0 hb_;have HSdq1:=Lh_ ((HSdq0.out).next (Nat.le_refl _) hb_);obtain ⟨l1,hl_⟩:∃ z,putA [] kFsUsage us=z:=⟨_,rfl⟩;rw [hl_] at hs_ ⊢;have HL1:=Lh_ (show putAll [(kFsUsage,us)]=l1 from (put_next (ps:=[]) putAll_nil (by simp)).trans hl_);have HS1:=Lh_ hs_;clear hs_ hl_;clear hb_;refine hK.out _ _ kq1.out (fun _=>?_);clear hK K;try simp only [Act.put,sA_,sB_,sC_]
 refine rd1 7 (o:=⟨some 47,.call ⟨_,_,_⟩,_,_,_,_⟩) rfl (fun K hK=>?_);go_simp;go_at_call 46;refine (Put_any A1_ c1_ l1 kFsUuid i _ q1.heap.size (Nat.le_refl _) HS1.out (put_srt HL1.out) (put_len HL1.out (by simp)) (by decide) HCZ.out.1).mono ?_;rintro e' q2 ⟨hb_,A2_,c2_,rfl,hs_⟩;have HBq2:=tb_ HBq1 hb_;have tq2:=kb_ tq1 hb_;have aq2:=kb_ aq1 hb_;have kq2:=kb_ kq1 hb_;have HSdq2:=Lh_ ((HSdq1.out).next (Nat.le_refl _) hb_);have HS1q2:=Lh_ ((HS1.out).next (Nat.le_refl _) hb_);obtain ⟨l2,hl_⟩:∃ z,putA l1 kFsUuid i=z:=⟨_,rfl⟩;rw [hl_] at hs_ ⊢;have HL2:=Lh_ (show putAll [(kFsUsage,us),(kFsUuid,i)]=l2 from (put_next (ps:=[(kFsUsage,us)]) HL1.out (by simp;decide +kernel)).trans hl_);have HS2:=Lh_ hs_;clear hs_ hl_;clear hb_;refine hK.out _ _ kq2.out (fun _=>?_);clear hK K;try simp only [Act.put,sA_,sB_,sC_]
 refine rd1 10 (o:=⟨some 50,.call ⟨_,_,_⟩,_,_,_,_⟩) rfl (fun K hK=>?_);go_simp;go_at_call 46;refine (Put_any A2_ c2_ l2 kFsLabel l _ q2.heap.size (Nat.le_refl _) HS2.out (put_srt HL2.out) (put_len HL2.out (by simp)) (by decide) HCZ.out.2.1).mono ?_;rintro e' q3 ⟨hb_,A3_,c3_,rfl,hs_⟩;have HBq3:=tb_ HBq2 hb_;have tq3:=kb_ tq2 hb_;have aq3:=kb_ aq2 hb_;have kq3:=kb_ kq2 hb_;have HSdq3:=Lh_ ((HSdq2.out).next (Nat.le_refl _) hb_);have HS1q3:=Lh_ ((HS1q2.out).next (Nat.le_refl _) hb_);have HS2q3:=Lh_ ((HS2.out).next (Nat.le_refl _) hb_);obtain ⟨l3,hl_⟩:∃ z,putA l2 kFsLabel l=z:=⟨_,rfl⟩;rw [hl_] at hs_ ⊢;have HL3:=Lh_ (show putAll [(kFsUsage,us),(kFsUuid,i),(kFsLabel,l)]=l3 from (put_next (ps:=[(kFsUsage,us),(kFsUuid,i)]) HL2.out (by simp;decide +kernel)).trans hl_);have HS3:=Lh_ hs_;clear hs_ hl_;clear hb_;refine hK.out _ _ kq3.out (fun _=>?_);clear hK K;try simp only [Act.put,sA_,sB_,sC_]
 refine tk1 11 4 (.slice A3_ l3.length c3_) rfl (fun w' hS=>by go_simp) kq3.out ?_;try simp only [Act.put,sA_,sB_,sC_]
 refine wpAnyH_done (by kernel_rfl) ?_ _;have HE2:=Lh_ (show Go.Cold.contL L n=l3 by rw [HE.out,← HL3.out,← HUS.out];exact HCA.out.symm);go_wp2;go_ret;exact ⟨HBq3.out,A3_,c3_,by rw [HE2.out];rfl,by rw [HE2.out];exact HS3.out⟩
set_option maxRecDepth 100000 in
set_option maxHeartbeats 4000000 in
theorem RContent11_any (A:Option Addr) (c:Nat) (L:List Dev) (n:Int) (w:World) (B:Nat) (hB:B≤w.heap.size) (hx:Sl w B A c L) (hv:VT L) (hok:Ok7 w) (hk8:Ok8 w) (hn:okI n) :
  Calls Tryz.prog 29 #[.agg #[.slice A L.length c],.int .i64 n] w (SlPost (Go.Cold.contL L n) w):=by
 have hx1:=hx.1;have hx2:=hx.2.1;unfold maxLen at hx2;have HX:=Lh_ hx;have HB:=Lh_ hB;have HV:=Lh_ hv;have HOK:=Lh_ hok;clear hx hB hv hok;have HK8:=Lh_ hk8;clear hk8 hn;have HLA:=Lh_ (show ∀ d ∈ L,d.attrs.length≤1000000 from fun d hd=>attrs_le (HV.out.chk d hd));go_enter Tryz.func29,Tryz.ntmps29;go_upto_region 1 with fail
 obtain ⟨w1,hw1,hbw1,HGw1,HXtw1⟩:=bx_ w [.slice A L.length c] 28;try simp only [hw1]
 have HBw1:=Lh_ hbw1;clear hw1 hbw1;try rw [← HGw1.out]
 have ct0:=HXtw1.out.1 0 _ rfl;go_wp2_with fail;refine (RFind_any A c L (n) _ B (Nat.le_trans HB.out HBw1.out.size) (HX.out.keep (HBw1.out.mono HB.out))).mono ?_;rintro e w2 ⟨hbw2,d,A3,c3,hd,rfl,hod,hsd⟩;clear ct0;have HBw2:=tb_ HBw1 hbw2;have tw2:=kb_ HXtw1 hbw2;clear hbw2;have ct0:=tw2.out.1 0 _ rfl;have Hd:=Lh_ (show d=(findD L (n)).getD zeroD from hd);have HOd:=Lh_ hod;have HSd:=Lh_ ((show Sl w2 B A3 c3 d.attrs from hsd).more (Nat.le_trans HB.out HBw2.out.size));clear hd hod hsd;obtain ⟨qd,hqd⟩:∃ q,(findD L (n)).isSome=q:=⟨_,rfl⟩;rw [hqd];clear hqd;go_upto_region 2 with fail
 obtain ⟨w3,hw3,hbw3,HGw3,HXaw3⟩:=bx_ w2 [.int .i64 d.idx,.int .i64 d.par,.string d.nm,.string d.orig,.string d.sub,.string d.drv,.string d.ali,.int .i64 d.kind,.int .i64 d.num,.slice A3 d.attrs.length c3] 32;try simp only [hw3]
 have HBw3:=tb_ HBw2 hbw3;have tw3:=kb_ tw2 hbw3;have HSdw3:=Lh_ ((HSd.out).next (Nat.le_refl _) hbw3);clear hw3 hbw3;try rw [← HGw3.out]
 clear ct0;have ct0:=tw3.out.1 0 _ rfl;obtain ⟨ca0,ca1,ca2,ca3,ca4,ca5,ca6,ca7,ca8,ca9⟩:=s10_ HXaw3.out.1;go_wp2_with fail;refine (RGet_any A3 c3 d.attrs ⟨#[99,111,110,116,101,110,116]⟩ _ w3.heap.size (Nat.le_refl _) HSdw3.out).mono ?_;rintro e w' ⟨rfl,rfl⟩;obtain ⟨t,ht⟩:∃ z,contD d=z:=⟨_,rfl⟩;rw [show (getA d.attrs ⟨#[99,111,110,116,101,110,116]⟩).getD ByteArray.empty=t from ht];obtain ⟨qb,hqb⟩:∃ z,(getA d.attrs ⟨#[99,111,110,116,101,110,116]⟩).isSome=z:=⟨_,rfl⟩;rw [hqb];clear hqb;have HT:=Lh_ ht;have HTS:=Lh_ (show t.size≤maxLen from ht ▸ contD_small HSdw3.out);clear ht;go_wp2_with fail;refine (RParse_any t _ HTS.out (Ok8.below HK8.out HBw3.out)).mono ?_;rintro e w4 ⟨hbw4,hor⟩;clear ct0 ca0 ca1 ca2 ca3 ca4 ca5 ca6 ca7 ca8 ca9;have HBw4:=tb_ HBw3 hbw4;have tw4:=kb_ tw3 hbw4;have aw4:=kb_ HXaw3 hbw4;have HSdw4:=Lh_ ((HSdw3.out).next (Nat.le_refl _) hbw4);clear hbw4;have ct0:=tw4.out.1 0 _ rfl;obtain ⟨ca0,ca1,ca2,ca3,ca4,ca5,ca6,ca7,ca8,ca9⟩:=s10_ aw4.out.1;rcases hor with ⟨C,cs,hC,rfl,hnew,hnod⟩ | ⟨hC,rfl⟩
 case inr =>
  obtain ⟨y,hy1,hy2,hy3⟩:∃ y:Int,(if 256<t.size then (71:Int) else 70)=y∧(y != 0)=true∧¬ y=0:=by
   split
   · exact ⟨71,rfl,rfl,by omega⟩
   · exact ⟨70,rfl,rfl,by omega⟩
  rw [hy1];unfold zeroA;have HE:=Lh_ (contL_none Hd.out (by rw [HT.out];exact hC));clear hC hy1;go_upto_region 4 with fail
  obtain ⟨w5,hw5,hbw5,HGw5,HXkw5⟩:=bx_ w4 [.int .i64 0,.string ByteArray.empty,.string ByteArray.empty,.int .i64 0,.int .i64 0,.int .i64 0,.slice none 0 0] 72;try simp only [hw5]
  have HBw5:=tb_ HBw4 hbw5;have tw5:=kb_ tw4 hbw5;have aw5:=kb_ aw4 hbw5;have HSdw5:=Lh_ ((HSdw4.out).next (Nat.le_refl _) hbw5);clear hw5 hbw5;try rw [← HGw5.out]
  clear ct0 ca0 ca1 ca2 ca3 ca4 ca5 ca6 ca7 ca8 ca9;have ct0:=tw5.out.1 0 _ rfl;obtain ⟨ca0,ca1,ca2,ca3,ca4,ca5,ca6,ca7,ca8,ca9⟩:=s10_ aw5.out.1;obtain ⟨ck0,ck1,ck2,ck3,ck4,ck5,ck6⟩:=s7_ HXkw5.out.1;by_cases hk:d.kind=2
  ·
   have hkb:(d.kind != 2)=false:=by simp [hk]
   clear hk;go_wp2;go_ret;exact ⟨HBw5.out,none,0,by rw [HE.out];rfl,by rw [HE.out];exact Sl.nil_⟩
  ·
   have hkb:(d.kind != 2)=true:=by simp [hk]
   clear hk;go_wp2;go_ret;exact ⟨HBw5.out,none,0,by rw [HE.out];rfl,by rw [HE.out];exact Sl.nil_⟩
 obtain ⟨k,i,l,s2,t2,le,xs⟩:=C;have hcz:i.size≤maxLen∧l.size≤maxLen∧okI k:=by obtain ⟨_,_,_,h3,_⟩:=CRd_iff.1 hnew.crd;exact ⟨h3.2.1,h3.2.2.1,h3.1⟩
 obtain ⟨A5,c5,rfl⟩:=CRdS_cells hnew;simp only [contCells];have HCZ:=Lh_ hcz;have HC:=Lh_ (show parseC (contD d)=some (.mk k i l s2 t2 le xs) by rw [HT.out];exact hC);have HKI:=Lh_ (show k=0∨(1≤k∧k≤5) from parse_kind hC);clear hcz hnew hnod hC;go_upto_region 4 with fail
 obtain ⟨w6,hw6,hbw6,HGw6,HXkw6⟩:=bx_ w4 [.int .i64 k,.string i,.string l,.int .i64 s2,.int .i64 t2,.int .i64 le,.slice A5 xs.length c5] 72;try simp only [hw6]
 have HBw6:=tb_ HBw4 hbw6;have tw6:=kb_ tw4 hbw6;have aw6:=kb_ aw4 hbw6;have HSdw6:=Lh_ ((HSdw4.out).next (Nat.le_refl _) hbw6);clear hw6 hbw6;try rw [← HGw6.out]
 clear ct0 ca0 ca1 ca2 ca3 ca4 ca5 ca6 ca7 ca8 ca9;have ct0:=tw6.out.1 0 _ rfl;obtain ⟨ca0,ca1,ca2,ca3,ca4,ca5,ca6,ca7,ca8,ca9⟩:=s10_ aw6.out.1;obtain ⟨ck0,ck1,ck2,ck3,ck4,ck5,ck6⟩:=s7_ HXkw6.out.1;by_cases hk:d.kind=2
 case neg =>
  have hkb:(d.kind != 2)=true:=by simp [hk]
  have HE:=Lh_ (contL_kind Hd.out hk);clear hk;go_wp2;go_ret;exact ⟨HBw6.out,none,0,by rw [HE.out];rfl,by rw [HE.out];exact Sl.nil_⟩
 have hkb:(d.kind != 2)=false:=by simp [hk]
 by_cases h0:k=0
 case pos =>
  subst h0;have HE:=Lh_ (show Go.Cold.contL L n=[] by rw [contL_some Hd.out hk HC.out];exact contA_zero rfl);clear hk;go_wp2;go_ret;exact ⟨HBw6.out,none,0,by rw [HE.out];rfl,by rw [HE.out];exact Sl.nil_⟩
 have h0b:(k == 0)=false:=by simpa using h0
 have HE:=Lh_ (contL_some Hd.out hk HC.out);have HK:=Lh_ h0;have HK5:=Lh_ (show 1≤k∧k≤5 by have:=HKI.out;omega);clear hk h0 HKI;have HCA:=Lh_ (contA_ref (c:=.mk k i l s2 t2 le xs) HK.out);go_upto_region 7 with fail
 obtain ⟨w7,hw7,hbw7,HGw7,HXuw7⟩:=bx_ w6 [.string ⟨#[]⟩,.string ⟨#[102,105,108,101,115,121,115,116,101,109]⟩,.string ⟨#[114,97,105,100]⟩,.string ⟨#[99,114,121,112,116,111]⟩,.string ⟨#[109,101,109,98,101,114]⟩,.string ⟨#[116,97,98,108,101]⟩] 9;try simp only [hw7]
 have HBw7:=tb_ HBw6 hbw7;have tw7:=kb_ tw6 hbw7;have aw7:=kb_ aw6 hbw7;have kw7:=kb_ HXkw6 hbw7;have HSdw7:=Lh_ ((HSdw6.out).next (Nat.le_refl _) hbw7);clear hw7 hbw7;try rw [← HGw7.out]
 clear ct0 ca0 ca1 ca2 ca3 ca4 ca5 ca6 ca7 ca8 ca9 ck0 ck1 ck2 ck3 ck4 ck5 ck6;have ck0:=kw7.out.1 0 _ rfl;have ck1:=kw7.out.1 1 _ rfl;have ck2:=kw7.out.1 2 _ rfl;go_wp2_with fail;refine (Set_any none 0 [] kFsLabel l _ w7.heap.size (Nat.le_refl _) Sl.nil_ (by decide) (by decide) HCZ.out.2.1).mono ?_;rintro e w8 ⟨hbw8,v1_,rfl,hown⟩;clear ck0 ck1 ck2;have HBw8:=tb_ HBw7 hbw8;have tw8:=kb_ tw7 hbw8;have aw8:=kb_ aw7 hbw8;have kw8:=kb_ kw7 hbw8;have uw8:=kb_ HXuw7 hbw8;have HSdw8:=Lh_ ((HSdw7.out).next (Nat.le_refl _) hbw8);clear hbw8;have ct0:=tw8.out.1 0 _ rfl;obtain ⟨ca0,ca1,ca2,ca3,ca4,ca5,ca6,ca7,ca8,ca9⟩:=s10_ aw8.out.1;obtain ⟨ck0,ck1,ck2,ck3,ck4,ck5,ck6⟩:=s7_ kw8.out.1;obtain ⟨A1_,c1_,rfl,hs_⟩:=hown.sl;obtain ⟨l1,hl_⟩:∃ z,setA [] kFsLabel l=z:=⟨_,rfl⟩;rw [hl_] at hs_ ⊢;have HS1:=Lh_ hs_;have HL1:=Lh_ hl_;have HN1:=Lh_ (show l1.length≤1 from by rw [← hl_];exact set_len (by simp));clear hs_ hl_ hown;obtain ⟨m,rfl⟩:=Int.eq_ofNat_of_zero_le (show 0≤k by have:=HK5.out;omega);clear ct0 ca0 ca1 ca2 ca3 ca4 ca5 ca6 ca7 ca8 ca9 ck0 ck1 ck2 ck3 ck4 ck5 ck6;have ck0:=kw8.out.1 0 _ rfl;have ck1:=kw8.out.1 1 _ rfl;have ck2:=kw8.out.1 2 _ rfl;have cu:w8.cell? ⟨w6.heap.size,m,none⟩=some (.string (usageT (m:Int))):=by
  have h5:=HK5.out;have:m=1∨m=2∨m=3∨m=4∨m=5:=by omega
  rcases this with rfl | rfl | rfl | rfl | rfl
  · exact uw8.out.1 1 _ rfl
  · exact uw8.out.1 2 _ rfl
  · exact uw8.out.1 3 _ rfl
  · exact uw8.out.1 4 _ rfl
  · exact uw8.out.1 5 _ rfl
 obtain ⟨us,hus⟩:∃ z,usageT (m:Int)=z:=⟨_,rfl⟩;rw [hus] at cu;have HUS:=Lh_ hus;have HUZ:=Lh_ (show us.size≤maxLen from hus ▸ usage_small m);clear hus;have i1:(m:Int)<6:=by have:=HK5.out;omega
 go_wp2_with fail;refine (Set_any A1_ c1_ l1 kFsUsage us _ w8.heap.size (Nat.le_refl _) HS1.out (by have:=HN1.out;omega) (by decide) HUZ.out).mono ?_;rintro e w9 ⟨hbw9,v2_,rfl,hown⟩;clear ck0 ck1 ck2;have HBw9:=tb_ HBw8 hbw9;have tw9:=kb_ tw8 hbw9;have aw9:=kb_ aw8 hbw9;have kw9:=kb_ kw8 hbw9;have uw9:=kb_ uw8 hbw9;have HSdw9:=Lh_ ((HSdw8.out).next (Nat.le_refl _) hbw9);have HS1w9:=Lh_ ((HS1.out).next (Nat.le_refl _) hbw9);clear hbw9;have ct0:=tw9.out.1 0 _ rfl;obtain ⟨ca0,ca1,ca2,ca3,ca4,ca5,ca6,ca7,ca8,ca9⟩:=s10_ aw9.out.1;obtain ⟨ck0,ck1,ck2,ck3,ck4,ck5,ck6⟩:=s7_ kw9.out.1;obtain ⟨A2_,c2_,rfl,hs_⟩:=hown.sl;obtain ⟨l2,hl_⟩:∃ z,setA l1 kFsUsage us=z:=⟨_,rfl⟩;rw [hl_] at hs_ ⊢;have HS2:=Lh_ hs_;have HL2:=Lh_ hl_;have HN2:=Lh_ (show l2.length≤2 from by rw [← hl_];exact set_len HN1.out);clear hs_ hl_ hown;clear cu i1;go_wp2_with fail;refine (Set_any A2_ c2_ l2 kFsUuid i _ w9.heap.size (Nat.le_refl _) HS2.out (by have:=HN2.out;omega) (by decide) HCZ.out.1).mono ?_;rintro e w10 ⟨hbw10,v3_,rfl,hown⟩;clear ct0 ca0 ca1 ca2 ca3 ca4 ca5 ca6 ca7 ca8 ca9 ck0 ck1 ck2 ck3 ck4 ck5 ck6;have HBw10:=tb_ HBw9 hbw10;have tw10:=kb_ tw9 hbw10;have aw10:=kb_ aw9 hbw10;have kw10:=kb_ kw9 hbw10;have uw10:=kb_ uw9 hbw10;have HSdw10:=Lh_ ((HSdw9.out).next (Nat.le_refl _) hbw10);have HS1w10:=Lh_ ((HS1w9.out).next (Nat.le_refl _) hbw10);have HS2w10:=Lh_ ((HS2.out).next (Nat.le_refl _) hbw10);clear hbw10;have ct0:=tw10.out.1 0 _ rfl;obtain ⟨ca0,ca1,ca2,ca3,ca4,ca5,ca6,ca7,ca8,ca9⟩:=s10_ aw10.out.1;obtain ⟨ck0,ck1,ck2,ck3,ck4,ck5,ck6⟩:=s7_ kw10.out.1;obtain ⟨A3_,c3_,rfl,hs_⟩:=hown.sl
 obtain ⟨l3,hl_⟩:∃ z,setA l2 kFsUuid i=z:=⟨_,rfl⟩;rw [hl_] at hs_ ⊢;have HS3:=Lh_ hs_;have HL3:=Lh_ hl_;have HN3:=Lh_ (show l3.length≤3 from by rw [← hl_];exact set_len HN2.out);clear hs_ hl_ hown;have HE2:=Lh_ (show Go.Cold.contL L n=l3 by rw [HE.out,← HL3.out,← HL2.out,← HL1.out,← HUS.out];exact HCA.out.symm);go_wp2;go_ret;exact ⟨HBw10.out,A3_,c3_,by rw [HE2.out];rfl,by rw [HE2.out];exact HS3.out⟩
end Go.Proofs.YtjgllhlilbchpaaGreatDoor
