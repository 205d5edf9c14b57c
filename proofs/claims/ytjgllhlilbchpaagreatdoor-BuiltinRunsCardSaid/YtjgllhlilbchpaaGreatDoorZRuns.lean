/-
  BuiltinRuns: row and card.
 Conditions: those of the given row and card (the listed variables of the library hold what the text lays),nothing else.
-/
import Derived.Test.YtjgllhlilbchpaaGreatDoorQTK
import Derived.Test.YtjgllhlilbchpaaGreatDoorQUG
import Derived.Test.YtjgllhlilbchpaaGreatDoorQW
import Derived.ShutString
set_option linter.unusedSimpArgs false
set_option linter.unusedVariables false
namespace Go.Proofs.YtjgllhlilbchpaaGreatDoor
open Go.RowKit Go.Cold
set_option maxRecDepth 100000 in
set_option maxHeartbeats 8000000 in
theorem lawRuns11_any (s:ByteArray) (A:Option Addr) (c:Nat) (xs:List Int) (w:World) (hok:Ok w) (h7:Ok7 w) (hu:OkU w) (hx:Sl w w.heap.size A c xs) :
  Calls Tryz.prog 7 #[.string s,.slice A xs.length c] w fun e w'=>e=.returned (.bool true)∧Below w.heap.size w w':=by
 have HOK:=Lh_ hok;have HX:=Lh_ hx;have H7:=Lh_ h7;have HK8:=Lh_ (show Ok8 w from hok);have HU:=Lh_ hu;clear hok hx h7 hu;go_enter Tryz.func7,Tryz.ntmps7;go_upto_region 2 with fail
 have htape:=tape_new HX.out;have HNG:=Lh_ (notG_of HOK.out);obtain ⟨w1,hw1⟩:∃ z,w.alloc (.cells #[.slice A xs.length c,.int .i64 0] 25)=z:=⟨_,rfl⟩;rw [hw1] at htape;have hb1:Below w.heap.size w w1:=by rw [← hw1];exact (Below.refl _ _).alloc (Nat.le_refl _) _
 have HGw1:=Lh_ (show w1.heap.size=w.heap.size+1 by rw [← hw1];simp);try simp only [hw1]
 have HTAPE:=Lh_ htape;clear hw1 htape;have HSw1:=Lh_ (show w.heap.size≤w1.heap.size from hb1.size);have HBw1:=Lh_ hb1;clear hb1;go_wp2_with fail;refine (Tree_any xs 0 w.heap.size w.heap.size 9 w1 (by decide) HTAPE.out ⟨by decide,by decide⟩ (HOK.out.next HBw1.out) HNG.out).mono ?_;rintro e w2 ⟨AT,cT,L,k1,rfl,hvt,hln,hsl,hk1,htp,hg2⟩;have hb2:Below w.heap.size w w2:=below_of_grown HBw1.out hg2 HBw1.out.size (Nat.le_refl _);have HSB2:=Lh_ (show w1.heap.size≤w2.heap.size from hg2.size);have hx1:=hsl.1;have hx2:=hsl.2.1;unfold maxLen at hx2;have hin:TreeIn w2 w.heap.size (fun x=>w1.heap.size≤x∧x<w2.heap.size) AT cT L:=⟨hsl,fun x hx=>by have:=HGw1.out;omega,fun x hx=>hx.2⟩;have HVT:=Lh_ hvt;have HLN:=Lh_ (show L.length≤9 by omega);have HIN:=Lh_ hin;have HK1:=Lh_ hk1;have HTP:=Lh_ htp;clear HTAPE hvt hln hsl hk1 htp hg2 hin;have HBw2:=Lh_ hb2;clear hb2;go_upto_region 3 with fail
 obtain ⟨w3,hw3,hbw3,HGw3,HXtw3⟩:=bx_ w2 [.slice AT L.length cT] 28;try simp only [hw3]
 have HSTEPw3:=Lh_ hbw3;have HSw3:=Lh_ (show w2.heap.size≤w3.heap.size from hbw3.size);have HBw3:=tb_ HBw2 hbw3;clear hw3 hbw3;try rw [← HGw3.out]
 have HIN3:=Lh_ (show TreeIn w3 w.heap.size (fun x=>w1.heap.size≤x∧x<w2.heap.size) AT cT L from ⟨HIN.out.sl.below (HSTEPw3.out) (fun x hx=>hx.2),HIN.out.ne,fun x hx=>by have:=HGw3.out;have:=hx.2;omega⟩);have HTP3:=Lh_ (HTP.out.kept (grown_none HSTEPw3.out) (fun e=>by cases e) (fun g e=>by cases e));clear HIN HTP;have ct0:=HXtw3.out.1 0 _ rfl;go_wp2_with fail;refine (Some_any xs k1 w.heap.size w.heap.size AT cT L _ w3 (by have:=HK1.out;omega) HTP3.out HIN3.out (fun d hd=>(HVT.out.small d hd).2) (by have:=HLN.out;omega)).mono ?_;rintro e w4 ⟨n,k2,rfl,hn,hk2,htp,hg4⟩;clear ct0;have hb4:Below w.heap.size w w4:=HBw3.out.grown hg4 HBw3.out.size (fun q hq=>by have:=Option.some.inj hq;omega);have HSw4:=Lh_ hg4.size;have HIN4:=Lh_ (HIN3.out.tape hg4);have HTP4:=Lh_ htp;have HBw4:=Lh_ hb4;have HXtw4:=Lh_ (HXtw3.out.kept hg4 (fun e=>by have:=Option.some.inj e;have:=HGw1.out;have:=HSB2.out;omega));have HN:=Lh_ (show okI n by unfold okI;omega);have HNR:=Lh_ hn;have HK2:=Lh_ hk2;clear hb4 htp hg4 hn hk2 HIN3 HTP3;have HSL:=Lh_ HIN4.out.out;have ct0:=HXtw4.out.1 0 _ rfl;clear ct0;obtain ⟨lp,hlp⟩:∃ z,pathL L n=z:=⟨_,rfl⟩;have HLP:=Lh_ hlp;clear hlp;obtain ⟨lc,hlc⟩:∃ z,Go.Cold.contL L n=z:=⟨_,rfl⟩;have HLC:=Lh_ hlc;clear hlc;obtain ⟨ln,hln_⟩:∃ z,netL L n=z:=⟨_,rfl⟩;have HLN_:=Lh_ hln_;clear hln_;go_wp2_with fail;obtain ⟨w5,hw5,hbw5,HGw5,HXuw5⟩:=bx_ w4 [.string s,.string ⟨#[112,97,116,104]⟩,.string ⟨#[99,111,110,116,101,110,116]⟩,.string ⟨#[110,101,116]⟩] 9;try simp only [hw5]
 have HSTEPw5:=Lh_ hbw5;have HSw5:=Lh_ (show w4.heap.size≤w5.heap.size from hbw5.size);have HBw5:=tb_ HBw4 hbw5;have tw5:=kb_ HXtw4 hbw5;have HSLw5:=Lh_ (HSL.out.next (Nat.le_refl _) hbw5);clear hw5 hbw5;try rw [← HGw5.out]
 go_loopw [9] (fun i wr=>∃ k:Nat,k≤4∧i=.int .i64 (k:Int)∧Hid (Below w5.heap.size w5 wr)) (fun i _=>4 - (intOf i).toNat)
 case atStart=>exact ⟨0,by omega,rfl,Below.refl _ _⟩
 case round =>
  obtain ⟨k,hk,rfl,HBR⟩:=hrel;have HBwr:=Lh_ (HBw5.out.trans (HBR.out.mono HBw5.out.size));have HSLwr:=Lh_ (HSLw5.out.next (Nat.le_refl _) HBR.out);have twr:=Lh_ (tw5.out.kept (grown_none HBR.out) (fun e=>by cases e));have uwr:=Lh_ (HXuw5.out.kept (grown_none HBR.out) (fun e=>by cases e));by_cases hlt:k<4
  ·
   have i1:(k:Int)<4:=by omega
   obtain ⟨sk,hsk⟩:∃ sk,wr.cell? ⟨w4.heap.size,k,none⟩=some (.string sk):=by
    have:k=0∨k=1∨k=2∨k=3:=by omega
    rcases this with rfl | rfl | rfl | rfl
    · exact ⟨_,uwr.out.1 0 _ rfl⟩
    · exact ⟨_,uwr.out.1 1 _ rfl⟩
    · exact ⟨_,uwr.out.1 2 _ rfl⟩
    · exact ⟨_,uwr.out.1 3 _ rfl⟩
   have HSK:=Lh_ hsk;have HLT:=Lh_ hlt;clear hsk hlt;obtain ⟨lr,hlr⟩:∃ z,runL sk L n=z:=⟨_,rfl⟩;have HLR:=Lh_ hlr;clear hlr;go_upto_region 8 with fail
   refine wp_region_held_drew (S:=fun w'=>BoxL w' w2.heap.size [.slice AT L.length cT]∧w'.cell? ⟨w4.heap.size,k,none⟩=some (.string sk)) (by kernel_rfl) ⟨twr.out.drew,cell_nx HSK.out (below_drewN_self _ _ 1)⟩ (fun hS0=>?_);obtain ⟨wd,hwd⟩:∃ z,World.drew wr=z:=⟨_,rfl⟩;rw [hwd] at hS0 ⊢;have hb_:Below wr.heap.size wr wd:=by rw [← hwd];exact below_drewN_self _ _ 1
   clear hwd;have HSAwd:=Lh_ hS0;clear hS0;have HSwd:=Lh_ (show wr.heap.size≤wd.heap.size from hb_.size);have HBwd:=tb_ HBwr hb_;have twd:=kb_ twr hb_;have uwd:=kb_ uwr hb_;have HSLwd:=Lh_ ((HSLwr.out).next (Nat.le_refl _) hb_);have HBRwd:=Lh_ (below_onto HBR.out hb_);clear hb_;refine tk1 0 26 (.slice (some ⟨w4.heap.size,0,none⟩) 4 4) rfl (fun w' hS=>by go_simp) HSAwd.out ?_;try simp only [Act.put,sA_,sB_,sC_]
   refine tk1 1 27 (.int .i64 k) rfl (fun w' hS=>by go_simp) HSAwd.out ?_;try simp only [Act.put,sA_,sB_,sC_]
   refine tk1 2 28 (.pointer (some ⟨w4.heap.size,k,none⟩)) rfl (fun w' hS=>by go_simp) HSAwd.out ?_;try simp only [Act.put,sA_,sB_,sC_]
   refine tk1 3 29 (.string sk) rfl (fun w' hS=>by (have u0_:=hS.2;go_simp)) HSAwd.out ?_;try simp only [Act.put,sA_,sB_,sC_]
   refine tk1 4 30 (.agg #[.slice AT L.length cT]) rfl (fun w' hS=>by (have u0_:=hS.1.1 0 _ rfl;go_simp)) HSAwd.out ?_;try simp only [Act.put,sA_,sB_,sC_]
   refine tk1 5 31 (.int .i64 n) rfl (fun w' hS=>by go_simp) HSAwd.out ?_;try simp only [Act.put,sA_,sB_,sC_]
   refine tk1 7 33 (.slice (some ⟨w4.heap.size,0,none⟩) 4 4) rfl (fun w' hS=>by go_simp) HSAwd.out ?_;try simp only [Act.put,sA_,sB_,sC_]
   refine tk1 8 34 (.int .i64 k) rfl (fun w' hS=>by go_simp) HSAwd.out ?_;try simp only [Act.put,sA_,sB_,sC_]
   refine tk1 9 35 (.pointer (some ⟨w4.heap.size,k,none⟩)) rfl (fun w' hS=>by go_simp) HSAwd.out ?_;try simp only [Act.put,sA_,sB_,sC_]
   refine tk1 10 36 (.string sk) rfl (fun w' hS=>by (have u0_:=hS.2;go_simp)) HSAwd.out ?_;try simp only [Act.put,sA_,sB_,sC_]
   refine tk1 11 37 (.agg #[.slice AT L.length cT]) rfl (fun w' hS=>by (have u0_:=hS.1.1 0 _ rfl;go_simp)) HSAwd.out ?_;try simp only [Act.put,sA_,sB_,sC_]
   refine tk1 12 38 (.int .i64 n) rfl (fun w' hS=>by go_simp) HSAwd.out ?_;try simp only [Act.put,sA_,sB_,sC_]
   refine rd1 6 (o:=⟨some 32,.call ⟨_,_,_⟩,_,_,_,_⟩) rfl (fun K hK=>?_);go_simp;go_at_call 26;refine (Run_any sk AT cT L n _ _ (Nat.le_refl _) HSLwd.out HVT.out (H7.out.below HBwd.out) (HOK.out.next HBwd.out) HN.out (HU.out.below HBwd.out)).mono ?_;rintro e' ra ⟨hb_,A5,c5,rfl,hs_⟩;rw [HLR.out] at hs_ ⊢;have HS5:=Lh_ hs_;clear hs_;have HSAra:=Lh_ (show BoxL ra w2.heap.size [.slice AT L.length cT]∧ra.cell? ⟨w4.heap.size,k,none⟩=some (.string sk) from ⟨(HSAwd.out.1).kept (grown_none hb_) (fun e=>by cases e),cell_on hb_ (HSAwd.out.2)⟩);have HSra:=Lh_ (show wd.heap.size≤ra.heap.size from hb_.size);have HBra:=tb_ HBwd hb_;have tra:=kb_ twd hb_;have ura:=kb_ uwd hb_;have HSLra:=Lh_ ((HSLwd.out).next (Nat.le_refl _) hb_);have HBRra:=Lh_ (below_onto HBRwd.out hb_);clear hb_;refine hK.out _ _ HSAra.out (fun _=>?_);clear hK K;try simp only [Act.put,sA_,sB_,sC_]
   refine rd1 13 (o:=⟨some 39,.call ⟨_,_,_⟩,_,_,_,_⟩) rfl (fun K hK=>?_);go_simp;go_at_call 27;refine (RRun_any sk AT cT L n _ _ (Nat.le_refl _) HSLra.out HVT.out (H7.out.below HBra.out) (HOK.out.next HBra.out) (Ok8.below HK8.out HBra.out) HN.out).mono ?_;rintro e' rb ⟨hb_,A6,c6,rfl,hs_⟩;rw [HLR.out] at hs_ ⊢;have HS6:=Lh_ hs_;clear hs_;have HSArb:=Lh_ (show BoxL rb w2.heap.size [.slice AT L.length cT]∧rb.cell? ⟨w4.heap.size,k,none⟩=some (.string sk) from ⟨(HSAra.out.1).kept (grown_none hb_) (fun e=>by cases e),cell_on hb_ (HSAra.out.2)⟩);have HSrb:=Lh_ (show ra.heap.size≤rb.heap.size from hb_.size);have HBrb:=tb_ HBra hb_;have trb:=kb_ tra hb_;have urb:=kb_ ura hb_;have HSLrb:=Lh_ ((HSLra.out).next (Nat.le_refl _) hb_);have HBRrb:=Lh_ (below_onto HBRra.out hb_);have HS5rb:=Lh_ ((HS5.out).next (Nat.le_refl _) hb_);clear hb_;refine hK.out _ _ HSArb.out (fun _=>?_);clear hK K;try simp only [Act.put,sA_,sB_,sC_]
   refine rd1 14 (o:=⟨some 40,.call ⟨_,_,_⟩,_,_,_,_⟩) rfl (fun K hK=>?_);go_simp;go_at_call 19;refine (SameAttrs_same A5 A6 c5 c6 lr _ _ _ HS5rb.out HS6.out).mono ?_;rintro e' rc ⟨rfl,kn_,hw_⟩;have hb_:Below rb.heap.size rb rc:=by rw [hw_];exact below_drewN_self _ _ _
   clear hw_ kn_;have HSArc:=Lh_ (show BoxL rc w2.heap.size [.slice AT L.length cT]∧rc.cell? ⟨w4.heap.size,k,none⟩=some (.string sk) from ⟨(HSArb.out.1).kept (grown_none hb_) (fun e=>by cases e),cell_on hb_ (HSArb.out.2)⟩);have HSrc:=Lh_ (show rb.heap.size≤rc.heap.size from hb_.size);have HBrc:=tb_ HBrb hb_;have trc:=kb_ trb hb_;have urc:=kb_ urb hb_;have HSLrc:=Lh_ ((HSLrb.out).next (Nat.le_refl _) hb_);have HBRrc:=Lh_ (below_onto HBRrb.out hb_);have HS5rc:=Lh_ ((HS5rb.out).next (Nat.le_refl _) hb_);have HS6rc:=Lh_ ((HS6.out).next (Nat.le_refl _) hb_);clear hb_;refine hK.out _ _ HSArc.out (fun _=>?_);clear hK K;try simp only [Act.put,sA_,sB_,sC_]
   refine tk1 15 41 (.bool false) rfl (fun w' hS=>by go_simp) HSArc.out ?_;try simp only [Act.put,sA_,sB_,sC_]
   refine wpAnyH_done (by kernel_rfl) ?_ _;go_wp2;go_roundw
   case rel=>exact ⟨k+1,by have:=HLT.out;omega,by go_num,HBRrc⟩
   case measure=>have:=HLT.out;simp [intOf];omega
  ·
   have i1:¬ (k:Int)<4:=by omega
   go_upto_region 10 with fail
   refine wp_region_held_drew (S:=fun w'=>BoxL w' w2.heap.size [.slice AT L.length cT]) (by kernel_rfl) twr.out.drew (fun hS0=>?_);obtain ⟨wd,hwd⟩:∃ z,World.drew wr=z:=⟨_,rfl⟩;rw [hwd] at hS0 ⊢;have hb_:Below wr.heap.size wr wd:=by rw [← hwd];exact below_drewN_self _ _ 1
   clear hwd;have HSAwd:=Lh_ hS0;clear hS0;have HSwd:=Lh_ (show wr.heap.size≤wd.heap.size from hb_.size);have HBwd:=tb_ HBwr hb_;have twd:=kb_ twr hb_;have uwd:=kb_ uwr hb_;have HSLwd:=Lh_ ((HSLwr.out).next (Nat.le_refl _) hb_);have HBRwd:=Lh_ (below_onto HBR.out hb_);clear hb_;refine tk1 0 42 (.agg #[.slice AT L.length cT]) rfl (fun w' hS=>by (have u0_:=hS.1 0 _ rfl;go_simp)) HSAwd.out ?_;try simp only [Act.put,sA_,sB_,sC_]
   refine tk1 1 43 (.int .i64 n) rfl (fun w' hS=>by go_simp) HSAwd.out ?_;try simp only [Act.put,sA_,sB_,sC_]
   refine tk1 3 45 (.agg #[.slice AT L.length cT]) rfl (fun w' hS=>by (have u0_:=hS.1 0 _ rfl;go_simp)) HSAwd.out ?_;try simp only [Act.put,sA_,sB_,sC_]
   refine tk1 4 46 (.int .i64 n) rfl (fun w' hS=>by go_simp) HSAwd.out ?_;try simp only [Act.put,sA_,sB_,sC_]
   refine rd1 2 (o:=⟨some 44,.call ⟨_,_,_⟩,_,_,_,_⟩) rfl (fun K hK=>?_);go_simp;go_at_call 12;refine (BPath_any AT cT L n _ _ (Nat.le_refl _) HSLwd.out HVT.out (H7.out.below HBwd.out) HN.out (HU.out.below HBwd.out)).mono ?_;rintro e' pa ⟨hb_,A5,c5,rfl,hs_⟩;rw [HLP.out] at hs_ ⊢;have HS5p:=Lh_ hs_;clear hs_;have HSApa:=Lh_ (show BoxL pa w2.heap.size [.slice AT L.length cT] from (HSAwd.out).kept (grown_none hb_) (fun e=>by cases e));have HSpa:=Lh_ (show wd.heap.size≤pa.heap.size from hb_.size);have HBpa:=tb_ HBwd hb_;have tpa:=kb_ twd hb_;have upa:=kb_ uwd hb_;have HSLpa:=Lh_ ((HSLwd.out).next (Nat.le_refl _) hb_);have HBRpa:=Lh_ (below_onto HBRwd.out hb_);clear hb_;refine hK.out _ _ HSApa.out (fun _=>?_);clear hK K;try simp only [Act.put,sA_,sB_,sC_]
   refine rd1 5 (o:=⟨some 47,.call ⟨_,_,_⟩,_,_,_,_⟩) rfl (fun K hK=>?_);go_simp;go_at_call 28;refine (RBPath_any AT cT L n _ _ (Nat.le_refl _) HSLpa.out HVT.out (H7.out.below HBpa.out) HN.out).mono ?_;rintro e' pb ⟨hb_,A6,c6,rfl,hs_⟩;rw [HLP.out] at hs_ ⊢;have HS6p:=Lh_ hs_;clear hs_;have HSApb:=Lh_ (show BoxL pb w2.heap.size [.slice AT L.length cT] from (HSApa.out).kept (grown_none hb_) (fun e=>by cases e));have HSpb:=Lh_ (show pa.heap.size≤pb.heap.size from hb_.size);have HBpb:=tb_ HBpa hb_;have tpb:=kb_ tpa hb_;have upb:=kb_ upa hb_;have HSLpb:=Lh_ ((HSLpa.out).next (Nat.le_refl _) hb_);have HBRpb:=Lh_ (below_onto HBRpa.out hb_);have HS5ppb:=Lh_ ((HS5p.out).next (Nat.le_refl _) hb_);clear hb_;refine hK.out _ _ HSApb.out (fun _=>?_);clear hK K;try simp only [Act.put,sA_,sB_,sC_]
   refine rd1 6 (o:=⟨some 48,.call ⟨_,_,_⟩,_,_,_,_⟩) rfl (fun K hK=>?_);go_simp;go_at_call 19;refine (SameAttrs_same A5 A6 c5 c6 lp _ _ _ HS5ppb.out HS6p.out).mono ?_;rintro e' pc ⟨rfl,kn_,hw_⟩;have hb_:Below pb.heap.size pb pc:=by rw [hw_];exact below_drewN_self _ _ _
   clear hw_ kn_;have HSApc:=Lh_ (show BoxL pc w2.heap.size [.slice AT L.length cT] from (HSApb.out).kept (grown_none hb_) (fun e=>by cases e));have HSpc:=Lh_ (show pb.heap.size≤pc.heap.size from hb_.size);have HBpc:=tb_ HBpb hb_;have tpc:=kb_ tpb hb_;have upc:=kb_ upb hb_;have HSLpc:=Lh_ ((HSLpb.out).next (Nat.le_refl _) hb_);have HBRpc:=Lh_ (below_onto HBRpb.out hb_);have HS5ppc:=Lh_ ((HS5ppb.out).next (Nat.le_refl _) hb_);have HS6ppc:=Lh_ ((HS6p.out).next (Nat.le_refl _) hb_);clear hb_;refine hK.out _ _ HSApc.out (fun _=>?_);clear hK K;try simp only [Act.put,sA_,sB_,sC_]
   refine tk1 7 49 (.bool true) rfl (fun w' hS=>by go_simp) HSApc.out ?_;try simp only [Act.put,sA_,sB_,sC_]
   refine tk1 8 50 (.agg #[.slice AT L.length cT]) rfl (fun w' hS=>by (have u0_:=hS.1 0 _ rfl;go_simp)) HSApc.out ?_;try simp only [Act.put,sA_,sB_,sC_]
   refine tk1 9 51 (.int .i64 n) rfl (fun w' hS=>by go_simp) HSApc.out ?_;try simp only [Act.put,sA_,sB_,sC_]
   refine tk1 11 53 (.agg #[.slice AT L.length cT]) rfl (fun w' hS=>by (have u0_:=hS.1 0 _ rfl;go_simp)) HSApc.out ?_;try simp only [Act.put,sA_,sB_,sC_]
   refine tk1 12 54 (.int .i64 n) rfl (fun w' hS=>by go_simp) HSApc.out ?_;try simp only [Act.put,sA_,sB_,sC_]
   refine rd1 10 (o:=⟨some 52,.call ⟨_,_,_⟩,_,_,_,_⟩) rfl (fun K hK=>?_);go_simp;go_at_call 21;refine (Content_any AT cT L n _ _ (Nat.le_refl _) HSLpc.out HVT.out (H7.out.below HBpc.out) (HOK.out.next HBpc.out) HN.out).mono ?_;rintro e' ca ⟨hb_,A5,c5,rfl,hs_⟩;rw [HLC.out] at hs_ ⊢;have HS5c:=Lh_ hs_;clear hs_;have HSAca:=Lh_ (show BoxL ca w2.heap.size [.slice AT L.length cT] from (HSApc.out).kept (grown_none hb_) (fun e=>by cases e));have HSca:=Lh_ (show pc.heap.size≤ca.heap.size from hb_.size);have HBca:=tb_ HBpc hb_;have tca:=kb_ tpc hb_;have uca:=kb_ upc hb_;have HSLca:=Lh_ ((HSLpc.out).next (Nat.le_refl _) hb_);have HBRca:=Lh_ (below_onto HBRpc.out hb_);clear hb_;refine hK.out _ _ HSAca.out (fun _=>?_);clear hK K;try simp only [Act.put,sA_,sB_,sC_]
   refine rd1 13 (o:=⟨some 55,.call ⟨_,_,_⟩,_,_,_,_⟩) rfl (fun K hK=>?_);go_simp;go_at_call 29;refine (RContent11_any AT cT L n _ _ (Nat.le_refl _) HSLca.out HVT.out (H7.out.below HBca.out) (Ok8.below HK8.out HBca.out) HN.out).mono ?_;rintro e' cb ⟨hb_,A6,c6,rfl,hs_⟩;rw [HLC.out] at hs_ ⊢;have HS6c:=Lh_ hs_;clear hs_;have HSAcb:=Lh_ (show BoxL cb w2.heap.size [.slice AT L.length cT] from (HSAca.out).kept (grown_none hb_) (fun e=>by cases e));have HScb:=Lh_ (show ca.heap.size≤cb.heap.size from hb_.size);have HBcb:=tb_ HBca hb_;have tcb:=kb_ tca hb_;have ucb:=kb_ uca hb_;have HSLcb:=Lh_ ((HSLca.out).next (Nat.le_refl _) hb_);have HBRcb:=Lh_ (below_onto HBRca.out hb_);have HS5ccb:=Lh_ ((HS5c.out).next (Nat.le_refl _) hb_);clear hb_;refine hK.out _ _ HSAcb.out (fun _=>?_);clear hK K;try simp only [Act.put,sA_,sB_,sC_]
   refine rd1 14 (o:=⟨some 56,.call ⟨_,_,_⟩,_,_,_,_⟩) rfl (fun K hK=>?_);go_simp;go_at_call 19;refine (SameAttrs_same A5 A6 c5 c6 lc _ _ _ HS5ccb.out HS6c.out).mono ?_;rintro e' cc ⟨rfl,kn_,hw_⟩;have hb_:Below cb.heap.size cb cc:=by rw [hw_];exact below_drewN_self _ _ _
   clear hw_ kn_;have HSAcc:=Lh_ (show BoxL cc w2.heap.size [.slice AT L.length cT] from (HSAcb.out).kept (grown_none hb_) (fun e=>by cases e));have HScc:=Lh_ (show cb.heap.size≤cc.heap.size from hb_.size);have HBcc:=tb_ HBcb hb_;have tcc:=kb_ tcb hb_;have ucc:=kb_ ucb hb_;have HSLcc:=Lh_ ((HSLcb.out).next (Nat.le_refl _) hb_);have HBRcc:=Lh_ (below_onto HBRcb.out hb_);have HS5ccc:=Lh_ ((HS5ccb.out).next (Nat.le_refl _) hb_);have HS6ccc:=Lh_ ((HS6c.out).next (Nat.le_refl _) hb_);clear hb_;refine hK.out _ _ HSAcc.out (fun _=>?_);clear hK K;try simp only [Act.put,sA_,sB_,sC_]
   refine tk1 15 57 (.bool true) rfl (fun w' hS=>by go_simp) HSAcc.out ?_;try simp only [Act.put,sA_,sB_,sC_]
   refine tk1 16 58 (.bool true) rfl (fun w' hS=>by go_simp) HSAcc.out ?_;try simp only [Act.put,sA_,sB_,sC_]
   refine tk1 17 59 (.agg #[.slice AT L.length cT]) rfl (fun w' hS=>by (have u0_:=hS.1 0 _ rfl;go_simp)) HSAcc.out ?_;try simp only [Act.put,sA_,sB_,sC_]
   refine tk1 18 60 (.int .i64 n) rfl (fun w' hS=>by go_simp) HSAcc.out ?_;try simp only [Act.put,sA_,sB_,sC_]
   refine tk1 20 62 (.agg #[.slice AT L.length cT]) rfl (fun w' hS=>by (have u0_:=hS.1 0 _ rfl;go_simp)) HSAcc.out ?_;try simp only [Act.put,sA_,sB_,sC_]
   refine tk1 21 63 (.int .i64 n) rfl (fun w' hS=>by go_simp) HSAcc.out ?_;try simp only [Act.put,sA_,sB_,sC_]
   refine rd1 19 (o:=⟨some 61,.call ⟨_,_,_⟩,_,_,_,_⟩) rfl (fun K hK=>?_);go_simp;go_at_call 22;refine (Net_any AT cT L n _ _ (Nat.le_refl _) HSLcc.out HVT.out (H7.out.below HBcc.out) (HOK.out.next HBcc.out)).mono ?_;rintro e' na ⟨hb_,A5,c5,rfl,hs_⟩;rw [HLN_.out] at hs_ ⊢;have HS5n:=Lh_ hs_;clear hs_;have HSAna:=Lh_ (show BoxL na w2.heap.size [.slice AT L.length cT] from (HSAcc.out).kept (grown_none hb_) (fun e=>by cases e));have HSna:=Lh_ (show cc.heap.size≤na.heap.size from hb_.size);have HBna:=tb_ HBcc hb_;have tna:=kb_ tcc hb_;have una:=kb_ ucc hb_;have HSLna:=Lh_ ((HSLcc.out).next (Nat.le_refl _) hb_);have HBRna:=Lh_ (below_onto HBRcc.out hb_);clear hb_;refine hK.out _ _ HSAna.out (fun _=>?_);clear hK K;try simp only [Act.put,sA_,sB_,sC_]
   refine rd1 22 (o:=⟨some 64,.call ⟨_,_,_⟩,_,_,_,_⟩) rfl (fun K hK=>?_);go_simp;go_at_call 30;refine (RNet11_any AT cT L n _ _ (Nat.le_refl _) HSLna.out HVT.out (H7.out.below HBna.out) (HOK.out.next HBna.out)).mono ?_;rintro e' nb ⟨hb_,A6,c6,rfl,hs_⟩;rw [HLN_.out] at hs_ ⊢;have HS6n:=Lh_ hs_;clear hs_;have HSAnb:=Lh_ (show BoxL nb w2.heap.size [.slice AT L.length cT] from (HSAna.out).kept (grown_none hb_) (fun e=>by cases e));have HSnb:=Lh_ (show na.heap.size≤nb.heap.size from hb_.size);have HBnb:=tb_ HBna hb_;have tnb:=kb_ tna hb_;have unb:=kb_ una hb_;have HSLnb:=Lh_ ((HSLna.out).next (Nat.le_refl _) hb_);have HBRnb:=Lh_ (below_onto HBRna.out hb_);have HS5nnb:=Lh_ ((HS5n.out).next (Nat.le_refl _) hb_);clear hb_;refine hK.out _ _ HSAnb.out (fun _=>?_);clear hK K;try simp only [Act.put,sA_,sB_,sC_]
   refine rd1 23 (o:=⟨some 65,.call ⟨_,_,_⟩,_,_,_,_⟩) rfl (fun K hK=>?_);go_simp;go_at_call 19;refine (SameAttrs_same A5 A6 c5 c6 ln _ _ _ HS5nnb.out HS6n.out).mono ?_;rintro e' nc ⟨rfl,kn_,hw_⟩;have hb_:Below nb.heap.size nb nc:=by rw [hw_];exact below_drewN_self _ _ _
   clear hw_ kn_;have HSAnc:=Lh_ (show BoxL nc w2.heap.size [.slice AT L.length cT] from (HSAnb.out).kept (grown_none hb_) (fun e=>by cases e));have HSnc:=Lh_ (show nb.heap.size≤nc.heap.size from hb_.size);have HBnc:=tb_ HBnb hb_;have tnc:=kb_ tnb hb_;have unc:=kb_ unb hb_;have HSLnc:=Lh_ ((HSLnb.out).next (Nat.le_refl _) hb_);have HBRnc:=Lh_ (below_onto HBRnb.out hb_);have HS5nnc:=Lh_ ((HS5nnb.out).next (Nat.le_refl _) hb_);have HS6nnc:=Lh_ ((HS6n.out).next (Nat.le_refl _) hb_);clear hb_;refine hK.out _ _ HSAnc.out (fun _=>?_);clear hK K;try simp only [Act.put,sA_,sB_,sC_]
   refine tk1 24 66 (.bool true) rfl (fun w' hS=>by go_simp) HSAnc.out ?_;try simp only [Act.put,sA_,sB_,sC_]
   refine tk1 25 67 (.bool true) rfl (fun w' hS=>by go_simp) HSAnc.out ?_;try simp only [Act.put,sA_,sB_,sC_]
   refine rd1 26 (o:=⟨some 68,.call ⟨_,_,_⟩,_,_,_,_⟩) rfl (fun K hK=>?_);go_simp;go_at_call 15;refine (known_any _ (HOK.out.next HBnc.out) (H7.out.below HBnc.out) (Ok8.below HK8.out HBnc.out) (HU.out.below HBnc.out)).mono ?_;rintro e' wk ⟨rfl,hb_⟩;have HSAwk:=Lh_ (show BoxL wk w2.heap.size [.slice AT L.length cT] from (HSAnc.out).kept (grown_none hb_) (fun e=>by cases e));have HSwk:=Lh_ (show nc.heap.size≤wk.heap.size from hb_.size);have HBwk:=tb_ HBnc hb_;have twk:=kb_ tnc hb_;have uwk:=kb_ unc hb_;have HSLwk:=Lh_ ((HSLnc.out).next (Nat.le_refl _) hb_);have HBRwk:=Lh_ (below_onto HBRnc.out hb_);clear hb_;refine hK.out _ _ HSAwk.out (fun _=>?_);clear hK K;try simp only [Act.put,sA_,sB_,sC_]
   refine tk1 27 69 (.bool true) rfl (fun w' hS=>by go_simp) HSAwk.out ?_;try simp only [Act.put,sA_,sB_,sC_]
   refine tk1 28 4 (.bool true) rfl (fun w' hS=>by go_simp) HSAwk.out ?_;try simp only [Act.put,sA_,sB_,sC_]
   refine wpAnyH_done (by kernel_rfl) ?_ _;go_wp2;go_ret;exact ⟨by try rfl,HBwk.out⟩
end Go.Proofs.YtjgllhlilbchpaaGreatDoor
namespace Go.Proofs.YtjgllhlilbchpaaGreatDoor
open Go.RowKit Go.Cold
namespace cBuiltinRuns
open Go.ChangeShapes Go.WideShapes Go.ChangeAt
open Go.ChangeMaps (open_string)
set_option maxRecDepth 100000
theorem reads (os:Os) {H:Type} (enc:TypeId × Value→H):∃ places,DataW.whole enc Tryz.prog ((World.laidAll Tryz.prog os Rows.builtinRunsRow.laid).forCall (fun _ _=>0) ⟨#[],#[.string ⟨#[]⟩,.slice none 0 0],[]⟩).memory Tryz.f7.params.toList Rows.builtinRunsSpec.vars false (#[.string ⟨#[]⟩,.slice none 0 0]:Array Value).toList 8=some ([.lit (.string []),.nil],[],places) :=
 ⟨[],by kernel_rfl⟩
theorem lifted (os:Os) (started:os.Started) (H:Type) (enc:TypeId × Value→H) (F:Stop.Interp) :
  ReturnsInHanded {} Tryz.checked os 7 .any ((OpenSpec.ofChange Rows.builtinRunsSpec).preRow enc Tryz.prog Tryz.f7 Rows.builtinRunsRow.domain false Rows.builtinRunsRow.laid) (((OpenSpec.ofChange Rows.builtinRunsSpec).at F).post enc Tryz.prog Tryz.f7 false true false false):=by
 obtain ⟨places,hx⟩:=reads os enc;refine law_lifted os started H enc F (by kernel_rfl) Tryz.func7 #[.string ⟨#[]⟩,.slice none 0 0] (World.shaped_of_ZipB (by kernel_rfl) (by kernel_rfl)) (by kernel_rfl)
  (OpenSpec.preRow_of_cond 8 hx (by kernel_rfl) (fun k hk=>by cases hk) (by kernel_rfl) (laidMet_laidAll _ (by kernel_rfl) (by kernel_rfl))) rfl rfl
  (fun ds hl=>by
   rw [Tryz.params7] at hl;match ds,hl with
   | [d0,d1],_=>rfl) (by kernel_rfl) ?_
 intro W base args ds ps hval hA hlt hz hsh hlaid;rw [Tryz.params7] at hA hval;obtain ⟨v0,vs0,d0,ds0,p0,q0,hargs,rfl,rfl,h0,r0⟩:=trodAll_cons hA;obtain ⟨v1,vs1,d1,ds1,p1,q1,rfl,rfl,rfl,h1,r1⟩:=trodAll_cons r0;obtain ⟨rfl,rfl,rfl⟩:=trodAll_nil r1;obtain rfl:args=#[v0,v1]:=by cases args;simp_all
 obtain ⟨a0,rfl,rfl,rfl,w0⟩:=open_string Tryz.underlying9 (hval 0 9 v0 rfl rfl) h0;obtain ⟨A1,c1,xs1,rfl,s1⟩:=open_nums Tryz.underlying22 Tryz.underlying3 (by kernel_rfl) (hval 1 22 v1 rfl rfl) h1 (fun x hx=>hlt x (List.mem_append_right _ (List.mem_append_left _ hx)));exact lawRuns11_any a0 A1 c1 xs1 W (show Ok W from Tryz.laysM146.s1_3 W hsh) (okb8 hlaid).1 (okb8 hlaid).2 s1
theorem said:Rows.BuiltinRunsSaid :=
 OpenClaim.holds_of_cond 7 Tryz.f7 rfl rfl rfl rfl rfl rfl rfl ⟨rfl,rfl,rfl,rfl,rfl⟩ rfl rfl rfl rfl rfl (by kernel_rfl) Tryz.func7 (by kernel_rfl)
  (of_decide_eq_true (by kernel_rfl)) (by unfold Func.isWrapper;first | (rw [if_pos (by decide +kernel)];kernel_rfl) | (rw [if_neg (by decide +kernel)];exact ⟨rfl,rfl⟩))
  (fun os started H enc _ F=>by rw [OpenClaim.pre_eq_preRow];exact lifted os started H enc F)
theorem plain (f:FuncId) (fn:Func) (hf:Tryz.pinned.checked.prog.funcNamed Rows.builtinRunsRow.func=some f) (hfn:Tryz.pinned.checked.prog.funcs[f]? = some fn) :
  true=Tryz.pinned.checked.prog.looks []∧∀ (j:Nat) t,fn.params[j]? = some t→Tryz.pinned.checked.prog.wantsStandIn t=false:=by
 obtain rfl:f=7:=Option.some.inj ((show Tryz.prog.funcNamed Rows.builtinRunsRow.func=some 7 by kernel_rfl).symm.trans hf) |>.symm;obtain rfl:fn=Tryz.f7:=(Option.some.inj (Tryz.func7.symm.trans hfn)).symm;refine ⟨by kernel_rfl,fun j t ht=>?_⟩;rw [Tryz.params7] at ht;have hm:t ∈ [9,22]:=by simpa using Array.mem_of_getElem? ht
 have hall:([9,22].all fun u=>!Tryz.prog.wantsStandIn u)=true:=by kernel_rfl
 exact (show Tryz.prog.wantsStandIn t=false by simpa using List.all_eq_true.1 hall t hm)
theorem card:Rows.BuiltinRunsCardSaid :=
 Claim7.holds_tied_plain_at .later [] _ _ _ _ said (fun _ h=>by cases h) (by kernel_rfl) (fun _ h=>by cases h) builtinRuns_row_tie rfl ⟨rfl,rfl⟩ (by kernel_rfl) rfl plain (by kernel_rfl)
end cBuiltinRuns
end Go.Proofs.YtjgllhlilbchpaaGreatDoor
