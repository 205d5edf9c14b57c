/-
  The walk of the reference's apply of chapter 13,on: further keys.
-/
import Derived.Test.YtjpoljlgkgmdkaaGreatDoorKTK
import Derived.Test.YtjpoljlgkgmdkaaGreatDoorKVR
set_option linter.unusedSimpArgs false
set_option linter.unusedVariables false
namespace Go.Proofs.YtjpoljlgkgmdkaaGreatDoor
open Go.RowKit Go.Cold
set_option maxRecDepth 100000 in
set_option maxHeartbeats 8000000 in
theorem RAsg_k16 (d:Draft) (h:DH) (t:Term4) (v:ByteArray) (N:Nat→Prop) (w:World) (hN:∀ x,N x→x<w.heap.size) (hd:DFr N w d h) (hs:SoundD d) (ht:okT t) (hv:v.size≤1000) (hok:Ok w) (h7:Ok7 w) (hkey:t.key=16) :
  Calls Tryz.prog 57 #[.agg #[.slice h.a0 d.props.length h.c0,.slice h.a1 d.tags.length h.c1,.slice h.a2 d.links.length h.c2,.slice h.a3 d.run.length h.c3,.slice h.a4 d.load.length h.c4,.string d.nm,.int .i64 d.prio,.string d.owner,.string d.group,.int .i64 d.mode,.string d.res,.int .i64 d.calls,.int .i64 d.ticks,.slice h.a5 d.closed.length h.c5],.agg #[.int .i64 t.key,.string t.nm,.int .i64 t.op,.string t.val],.string v] w (DPost N (asgD d t v) w):=by
 have P1:=Lh_ hkey;clear hkey;have HN:=Lh_ hN;have J4:=Lh_ hs;have HV:=Lh_ hv;have HT:=Lh_ ht;have HD:=Lh_ hd;have G2:=Lh_ hok;have H7:=Lh_ h7;clear hN hs hv ht hd hok h7;have Z4:=(zero_of_info (P:=Tryz.prog) (t:=30) info_draft2).1;go_enter Tryz.func57,Tryz.ntmps57;go_upto_region 1 with fail
 obtain ⟨w1,Z3,R2,Y2,I3⟩:=bx_ w [.slice h.a0 d.props.length h.c0,.slice h.a1 d.tags.length h.c1,.slice h.a2 d.links.length h.c2,.slice h.a3 d.run.length h.c3,.slice h.a4 d.load.length h.c4,.string d.nm,.int .i64 d.prio,.string d.owner,.string d.group,.int .i64 d.mode,.string d.res,.int .i64 d.calls,.int .i64 d.ticks,.slice h.a5 d.closed.length h.c5] 30;try simp only [Z3]
 have D5:=Lh_ (show w.heap.size≤w1.heap.size from R2.size);have M3:=Lh_ R2;clear Z3 R2;try rw [← Y2.out]
 obtain ⟨w2,A4,F2,Z2,J3⟩:=bx_ w1 [.int .i64 t.key,.string t.nm,.int .i64 t.op,.string t.val] 35;try simp only [A4]
 have E5:=Lh_ (show w1.heap.size≤w2.heap.size from F2.size);have N3:=tb_ M3 F2;have W4:=kb_ I3 F2;clear A4 F2;try rw [← Z2.out]
 obtain ⟨w3,B4,Z1,A3,E2⟩:=bx_ w2 [.slice none 0 0,.slice none 0 0,.slice none 0 0,.slice none 0 0,.slice none 0 0,.string ByteArray.empty,.int .i64 0,.string ByteArray.empty,.string ByteArray.empty,.int .i64 0,.string ByteArray.empty,.int .i64 0,.int .i64 0,.slice none 0 0] 30;try simp only [B4]
 have F5:=Lh_ (show w2.heap.size≤w3.heap.size from Z1.size);have Z0:=tb_ N3 Z1;have M1:=kb_ W4 Z1;have K1:=kb_ J3 Z1;clear B4 Z1;try rw [← A3.out]
 clear Z4;have HZ:=Lh_ (show w.heap.size<w1.heap.size∧w1.heap.size<w2.heap.size∧w2.heap.size<w3.heap.size by have:=Y2.out;have:=Z2.out;have:=A3.out;omega);have D3:=Lh_ (show DFr (fun x=>N x∨x=w.heap.size∨x=w1.heap.size∨x=w2.heap.size) w3 d h from dfr_new HD.out Z0.out (fun x hx=>by have:=HZ.out;rcases hx with hx | rfl | rfl | rfl;exact .inl hx;exact .inr (Nat.le_refl _);exact .inr (by omega);exact .inr (by omega)));have O1:=Lh_ (show ∀ x,(fun x=>N x∨x=w.heap.size∨x=w1.heap.size∨x=w2.heap.size) x→x<w3.heap.size from fun x hx=>by have:=HZ.out;rcases hx with h | h | h | h;(have:=HN.out x h;omega);omega;omega;omega);have K4:=Lh_ (Below.refl w3.heap.size w3);go_cut [7,8] (fun s7 s8 wx=>s7=.bool (validB v)∧s8=.bool (fullT v)∧wx=w3)
 case first =>
  go_wp2_with fail;refine (RValid_any v _ (by have:=HV.out;unfold maxLen;omega)).mono ?_;rintro e w9 ⟨rfl,B2⟩;rw [← B2];clear B2 w9;obtain ⟨bn,hbn⟩:∃ z,validB v=z:=⟨_,rfl⟩;rw [hbn];have W2:=Lh_ hbn;clear hbn;go_wp2_with fail;refine (RText_any v _ (by have:=HV.out;unfold maxLen;omega)).mono ?_;rintro e w9 ⟨rfl,B2⟩;rw [← B2];clear B2 w9;obtain ⟨tx,htx⟩:∃ z,textB v=z:=⟨_,rfl⟩;rw [htx];have P3:=Lh_ htx;clear htx;cases tx
  ·
   go_wp2_with fail;go_meet;exact ⟨by rw [W2.out],by unfold fullT;rw [P3.out,Bool.and_false],rfl⟩
  by_cases hve:v.toList.isEmpty=true
  ·
   obtain ⟨p1,p2⟩:=empties hve;have H3:=Lh_ hve;clear hve;go_wp2_with fail;go_meet;exact ⟨by rw [W2.out],by unfold fullT;rw [H3.out];rfl,rfl⟩
  have T2:v.toList.isEmpty=false:=by simpa using hve
  obtain ⟨p1,p2⟩:=empties T2;have H3:=Lh_ T2;clear hve T2;go_wp2_with fail;go_meet;exact ⟨by rw [W2.out],by unfold fullT;rw [H3.out,P3.out];rfl,rfl⟩
 case rest =>
 obtain ⟨X4,Y4,B2⟩:=hcut;subst X4 Y4;rw [B2];clear B2 wc;obtain ⟨bn,hbn⟩:∃ z,validB v=z:=⟨_,rfl⟩;obtain ⟨bt,hbt⟩:∃ z,fullT v=z:=⟨_,rfl⟩;rw [hbn,hbt];have W2:=Lh_ hbn;have M5:=Lh_ hbt;clear hbn hbt;refine ‹∀ (a:Act) (w_1:World),Code.wp _ _ _ a w_1→_› _ _ ?_;refine wp_seq_k fun K2 hK2=>?_
 go_cut [] (fun wx=>Hid (AsgSt (fun x=>N x∨x=w.heap.size∨x=w1.heap.size∨x=w2.heap.size) w w.heap.size w2.heap.size (asgD d t v) wx))
 case first =>
  have e6:(t.key == 6)=false:=by rw [P1.out];rfl
  have e7:(t.key == 7)=false:=by rw [P1.out];rfl
  have Y5:(t.key == 15)=false:=by rw [P1.out];rfl
  have Z5:(t.key == 16)=true:=by rw [P1.out];rfl
  have D4:=P1.out;have E3:=Lh_ (asg_16 (d:=d) (v:=v) D4);clear D4;by_cases o3:t.op=3
  ·
   have B5:(t.op == 3)=true:=by rw [o3];rfl
   have F3:=Lh_ o3;clear o3;have H:=M1.out.1 2 _ rfl;have I0:=M1.out.2.1;have I1:=K1.out.1 0 _ rfl;have I:=K1.out.1 2 _ rfl;go_upto_region 23 with fail
   clear H I0 I1 I;have C:=grown_one w3 (w.heap.size) 2 (.slice none 0 0);have G:=M1.out.set_ (j:=2) (by first | (simp;done) | decide) (.slice none 0 0);obtain ⟨w40,hw40⟩:∃ z,w3.setCell ⟨w.heap.size,2,none⟩ (.slice none 0 0)=z:=⟨_,rfl⟩;rw [hw40] at C G ⊢;clear hw40;have F1:=Lh_ C.size;have X1:=Lh_ G;have A1:=Lh_ (Z0.out.grown C Z0.out.size (fun q hq=>by have:=Option.some.inj hq;have:=HZ.out;omega));have L1:=Lh_ (K1.out.kept C (fun e=>by have:=Option.some.inj e;have:=HZ.out;omega));have V2:=Lh_ (E2.out.kept C (fun e=>by have:=Option.some.inj e;have:=HZ.out;omega));have N1:=Lh_ (D3.out.grown C (.inl (.inr (.inl rfl))));clear C G;have J1:=fun x (hx:x ∈ wordsT v)=>words_small (s:=v) hx
   have U0:=words_len v;obtain ⟨ws,hws_⟩:∃ z,wordsT v=z:=⟨_,rfl⟩;rw [hws_] at J1 U0;have O2:=Lh_ J1;have N2:=Lh_ U0;have J2:=Lh_ (show asgD d t v = { d with links:=linkGo t.op (([]:List ByteArray)) ws } by rw [E3.out,show (if t.op=3∨t.op=6 then [] else d.links)=[] from if_pos (.inl F3.out),hws_]);have I1:=L1.out.1 0 _ rfl;have I:=L1.out.1 2 _ rfl;have H:=X1.out.1 2 _ rfl;go_wp2_with fail;skip
   refine (RWords_any v (fun x=>N x∨x=w.heap.size∨x=w1.heap.size∨x=w2.heap.size) w40 (fun x hx=>Nat.lt_of_lt_of_le (O1.out x hx) F1.out) (by have:=HV.out;omega) (G2.out.next A1.out)).mono ?_;rintro e w41 ⟨F,Aw,cw,rfl,L⟩;clear I1 I H;have G1:=Lh_ (show w40.heap.size≤w41.heap.size from F.size);have B1:=tb_ A1 F;have Y1:=kb_ X1 F;have D2:=kb_ L1 F;have C2:=kb_ V2 F;have O0:=Lh_ (N1.out.below F);clear F;rw [hws_];rw [hws_] at L;have M2:=Lh_ L;clear L hws_ J1 U0;obtain ⟨LL,hLL⟩:∃ z,linkGo t.op (([]:List ByteArray)) ws=z:=⟨_,rfl⟩;have Q1:=Lh_ hLL;clear hLL;go_wp2_with fail;go_loopw [12] (fun i wr=>∃ (k:Nat) (l:List ByteArray) (A:Option Addr) (c:Nat),k≤ws.length∧i=.int .i64 (k:Int)∧Hid (Below w.heap.size w wr)∧Hid (BoxL wr w.heap.size [.slice h.a0 d.props.length h.c0,.slice h.a1 d.tags.length h.c1,.slice A l.length c,.slice h.a3 d.run.length h.c3,.slice h.a4 d.load.length h.c4,.string d.nm,.int .i64 d.prio,.string d.owner,.string d.group,.int .i64 d.mode,.string d.res,.int .i64 d.calls,.int .i64 d.ticks,.slice h.a5 d.closed.length h.c5])∧Hid (BoxL wr w1.heap.size [.int .i64 t.key,.string t.nm,.int .i64 t.op,.string t.val])∧Hid (BoxL wr w2.heap.size [.slice none 0 0,.slice none 0 0,.slice none 0 0,.slice none 0 0,.slice none 0 0,.string ByteArray.empty,.int .i64 0,.string ByteArray.empty,.string ByteArray.empty,.int .i64 0,.string ByteArray.empty,.int .i64 0,.int .i64 0,.slice none 0 0])∧Hid (FreeS (fun x=>N x∨x=w.heap.size∨x=w1.heap.size∨x=w2.heap.size) wr A c l)∧Hid (DFr (fun x=>N x∨x=w.heap.size∨x=w1.heap.size∨x=w2.heap.size) wr d h)∧Hid (FreeS (fun x=>N x∨x=w.heap.size∨x=w1.heap.size∨x=w2.heap.size) wr Aw cw ws)∧Hid (linkGo t.op l (ws.drop k)=LL∧l.length≤16∧w3.heap.size≤wr.heap.size)) (fun i _=>ws.length - (intOf i).toNat)
   case atStart=>exact ⟨0,([]:List ByteArray),none,0,Nat.zero_le _,rfl,B1,Y1,D2,C2,Lh_ (FreeS.nil_:FreeS (fun x=>N x∨x=w.heap.size∨x=w1.heap.size∨x=w2.heap.size) w41 none 0 ([]:List ByteArray)),O0,M2,Lh_ ⟨Q1.out,by simp,Nat.le_trans (F1.out) G1.out⟩⟩
   obtain ⟨k,l,A,c,hk,rfl,Y0,C1,V1,T1,R1,C0,W1,M⟩:=hrel;have U0:=N2.out;have Y3:=HV.out;by_cases hlt:k<ws.length
   ·
    have i1:(k:Int)<(ws.length:Int):=by omega
    have F0:=Lh_ hlt;obtain ⟨b3,o3,rfl,Q2,cx,A2⟩:=W1.out.out.str hlt;have V0:ws[k]? = some (ws[k]'hlt):=List.getElem?_eq_getElem hlt;obtain ⟨x,hx⟩:∃ y,ws[k]'hlt=y:=⟨_,rfl⟩;rw [hx] at cx A2 V0;have P2:=Lh_ (O2.out x (List.mem_of_getElem? V0));have U1:=Lh_ (link_step (op:=t.op) (l:=l) V0);clear V0 hx A2 Q2;have I:=V1.out.1 2 _ rfl;have H:=C1.out.1 2 _ rfl;go_wp2_with fail;skip
    refine (RClean_any x wr (by have:=P2.out;omega) (G2.out.next Y0.out)).mono ?_;rintro e w42 ⟨E,rfl⟩;clear I H;have H1:=Lh_ (show wr.heap.size≤w42.heap.size from E.size);have A0:=tb_ Y0 E;have O:=kb_ C1 E;have Q:=kb_ V1 E;have K0:=kb_ T1 E;have D:=Lh_ (R1.out.below E);have R:=Lh_ (C0.out.below E);have W:=Lh_ (W1.out.below E);clear E;have H0:=Lh_ (show w3.heap.size≤w42.heap.size from Nat.le_trans M.out.2.2 H1.out);clear cx;rw [← cleanOf_cleanR];cases hcl:cleanOf x with
    | none =>
     have G0:=Lh_ (show linkGo t.op l (ws.drop (k+1))=LL∧l.length≤16∧w3.heap.size≤w42.heap.size from ⟨by rw [← M.out.1,U1.out,hcl],M.out.2.1,H0.out⟩);clear hcl;have I:=Q.out.1 2 _ rfl;have H:=O.out.1 2 _ rfl;go_wp2;go_roundw
     case rel=>exact ⟨k+1,l,A,c,F0.out,by go_num,A0,O,Q,K0,D,R,W,G0⟩
     have:=F0.out;simp [intOf];omega
    | some s =>
     have I2:=Lh_ (clean_size hcl);have S1:=Lh_ (show linkGo t.op l (ws.drop k)=linkGo t.op (if t.op=5 then withoutT l s else putT l s 16) (ws.drop (k+1)) by rw [U1.out,hcl]);clear hcl;have W3:=D.out.1;have S2:=D.out.2.1;unfold maxLen at S2;by_cases o5:t.op=5
     ·
      have U2:(t.op == 5)=true:=by rw [o5];rfl
      have E1:=Lh_ o5;clear o5;have I:=Q.out.1 2 _ rfl;have H:=O.out.1 2 _ rfl;go_wp2_with fail;skip
      refine (RWithout_any A c l s (fun x=>N x∨x=w.heap.size∨x=w1.heap.size∨x=w2.heap.size) w42 (fun x hx=>Nat.lt_of_lt_of_le (O1.out x hx) H0.out) D.out (by have:=M.out.2.1;omega)).mono ?_;rintro e w43 ⟨B,A5,c5,rfl,L⟩;clear I H;have D0:=Lh_ (show w42.heap.size≤w43.heap.size from B.size);have J:=tb_ A0 B;have K:=kb_ O B;have Z:=kb_ Q B;have L0:=kb_ K0 B;have U:=Lh_ (D.out.below B);have S:=Lh_ (R.out.below B);have X:=Lh_ (W.out.below B);clear B;have D1:=Lh_ L;clear L;have I:=Z.out.1 2 _ rfl;have H:=K.out.1 2 _ rfl;have I0:=K.out.2.1;go_upto_region 26 with fail
      clear I H I0;have C:=grown_one w43 (w.heap.size) 2 (.slice A5 (withoutT l s).length c5);have G:=K.out.set_ (j:=2) (by first | (simp;done) | decide) (.slice A5 (withoutT l s).length c5);obtain ⟨w44,hw44⟩:∃ z,w43.setCell ⟨w.heap.size,2,none⟩ (.slice A5 (withoutT l s).length c5)=z:=⟨_,rfl⟩;rw [hw44] at C G ⊢;clear hw44;have E0:=Lh_ C.size;have J0:=Lh_ G;have B0:=Lh_ (J.out.grown C J.out.size (fun q hq=>by have:=Option.some.inj hq;have:=HZ.out;omega));have N0:=Lh_ (Z.out.kept C (fun e=>by have:=Option.some.inj e;have:=HZ.out;omega));have M0:=Lh_ (L0.out.kept C (fun e=>by have:=Option.some.inj e;have:=HZ.out;omega));have S0:=Lh_ (U.out.grown C (.inl (.inr (.inl rfl))));have T:=Lh_ (S.out.grown C (.inl (.inr (.inl rfl))));have Y:=Lh_ (X.out.grown C (.inl (.inr (.inl rfl))));have V:=Lh_ (D1.out.grown C (.inl (.inr (.inl rfl))));clear C G;have G0:=Lh_ (show linkGo t.op (withoutT l s) (ws.drop (k+1))=LL∧(withoutT l s).length≤16∧w3.heap.size≤w44.heap.size from ⟨by rw [← M.out.1,S1.out,if_pos E1.out],Nat.le_trans (without_len l s) M.out.2.1,Nat.le_trans H0.out (Nat.le_trans D0.out E0.out)⟩);go_wp2;go_roundw
      case rel=>exact ⟨k+1,withoutT l s,A5,c5,F0.out,by go_num,B0,J0,N0,M0,V,T,Y,G0⟩
      have:=F0.out;simp [intOf];omega
     have U2:(t.op == 5)=false:=by simpa using o5
     have E1:=Lh_ o5;clear o5;have I:=Q.out.1 2 _ rfl;have H:=O.out.1 2 _ rfl;go_wp2_with fail;skip
     refine (RPut_any A c l s 16 (fun x=>N x∨x=w.heap.size∨x=w1.heap.size∨x=w2.heap.size) w42 (fun x hx=>Nat.lt_of_lt_of_le (O1.out x hx) H0.out) D.out (by have:=M.out.2.1;omega) (by have:=I2.out;unfold maxLen;omega) (by omega)).mono ?_;rintro e w43 ⟨B,A5,c5,rfl,L⟩;clear I H;have D0:=Lh_ (show w42.heap.size≤w43.heap.size from B.size);have J:=tb_ A0 B;have K:=kb_ O B;have Z:=kb_ Q B;have L0:=kb_ K0 B;have U:=Lh_ (D.out.below B);have S:=Lh_ (R.out.below B);have X:=Lh_ (W.out.below B);clear B;have D1:=Lh_ L;clear L;have I:=Z.out.1 2 _ rfl;have H:=K.out.1 2 _ rfl;have I0:=K.out.2.1;go_upto_region 26 with fail
     clear I H I0;have C:=grown_one w43 (w.heap.size) 2 (.slice A5 (putT l s 16).length c5);have G:=K.out.set_ (j:=2) (by first | (simp;done) | decide) (.slice A5 (putT l s 16).length c5);obtain ⟨w44,hw44⟩:∃ z,w43.setCell ⟨w.heap.size,2,none⟩ (.slice A5 (putT l s 16).length c5)=z:=⟨_,rfl⟩;rw [hw44] at C G ⊢;clear hw44;have E0:=Lh_ C.size;have J0:=Lh_ G;have B0:=Lh_ (J.out.grown C J.out.size (fun q hq=>by have:=Option.some.inj hq;have:=HZ.out;omega));have N0:=Lh_ (Z.out.kept C (fun e=>by have:=Option.some.inj e;have:=HZ.out;omega));have M0:=Lh_ (L0.out.kept C (fun e=>by have:=Option.some.inj e;have:=HZ.out;omega));have S0:=Lh_ (U.out.grown C (.inl (.inr (.inl rfl))));have T:=Lh_ (S.out.grown C (.inl (.inr (.inl rfl))));have Y:=Lh_ (X.out.grown C (.inl (.inr (.inl rfl))));have V:=Lh_ (D1.out.grown C (.inl (.inr (.inl rfl))));clear C G;have G0:=Lh_ (show linkGo t.op (putT l s 16) (ws.drop (k+1))=LL∧(putT l s 16).length≤16∧w3.heap.size≤w44.heap.size from ⟨by rw [← M.out.1,S1.out,if_neg E1.out],putT_len l s 16 M.out.2.1,Nat.le_trans H0.out (Nat.le_trans D0.out E0.out)⟩);go_wp2;go_roundw
     case rel=>exact ⟨k+1,putT l s 16,A5,c5,F0.out,by go_num,B0,J0,N0,M0,V,T,Y,G0⟩
     have:=F0.out;simp [intOf];omega
   have i1:¬ (k:Int)<(ws.length:Int):=by omega
   obtain rfl:k=ws.length:=by omega
   have L2:=Lh_ (show l=LL by have:=M.out.1;rw [List.drop_length] at this;exact this);go_wp2_with fail;go_meet;rw [J2.out,Q1.out,← L2.out];exact Lh_ ⟨⟨h.a0,h.c0,h.a1,h.c1,A,c,h.a3,h.c3,h.a4,h.c4,h.a5,h.c5⟩,Y0.out,C1.out,T1.out,(show DFr _ _ _ _ from ⟨C0.out.1,C0.out.2.1,R1.out,C0.out.2.2.2.1,C0.out.2.2.2.2.1,C0.out.2.2.2.2.2.1,C0.out.2.2.2.2.2.2⟩)⟩
  have B5:(t.op == 3)=false:=by simpa using o3
  have F3:=Lh_ o3;clear o3;by_cases o6:t.op=6
  ·
   have C5:(t.op == 6)=true:=by rw [o6];rfl
   have G3:=Lh_ o6;clear o6;have H:=M1.out.1 2 _ rfl;have I0:=M1.out.2.1;have I1:=K1.out.1 0 _ rfl;have I:=K1.out.1 2 _ rfl;go_upto_region 23 with fail
   clear H I0 I1 I;have C:=grown_one w3 (w.heap.size) 2 (.slice none 0 0);have G:=M1.out.set_ (j:=2) (by first | (simp;done) | decide) (.slice none 0 0);obtain ⟨w40,hw40⟩:∃ z,w3.setCell ⟨w.heap.size,2,none⟩ (.slice none 0 0)=z:=⟨_,rfl⟩;rw [hw40] at C G ⊢;clear hw40;have F1:=Lh_ C.size;have X1:=Lh_ G;have A1:=Lh_ (Z0.out.grown C Z0.out.size (fun q hq=>by have:=Option.some.inj hq;have:=HZ.out;omega));have L1:=Lh_ (K1.out.kept C (fun e=>by have:=Option.some.inj e;have:=HZ.out;omega));have V2:=Lh_ (E2.out.kept C (fun e=>by have:=Option.some.inj e;have:=HZ.out;omega));have N1:=Lh_ (D3.out.grown C (.inl (.inr (.inl rfl))));clear C G;have J1:=fun x (hx:x ∈ wordsT v)=>words_small (s:=v) hx
   have U0:=words_len v;obtain ⟨ws,hws_⟩:∃ z,wordsT v=z:=⟨_,rfl⟩;rw [hws_] at J1 U0;have O2:=Lh_ J1;have N2:=Lh_ U0;have J2:=Lh_ (show asgD d t v = { d with links:=linkGo t.op (([]:List ByteArray)) ws } by rw [E3.out,show (if t.op=3∨t.op=6 then [] else d.links)=[] from if_pos (.inr G3.out),hws_]);have I1:=L1.out.1 0 _ rfl;have I:=L1.out.1 2 _ rfl;have H:=X1.out.1 2 _ rfl;go_wp2_with fail;skip
   refine (RWords_any v (fun x=>N x∨x=w.heap.size∨x=w1.heap.size∨x=w2.heap.size) w40 (fun x hx=>Nat.lt_of_lt_of_le (O1.out x hx) F1.out) (by have:=HV.out;omega) (G2.out.next A1.out)).mono ?_;rintro e w41 ⟨F,Aw,cw,rfl,L⟩;clear I1 I H;have G1:=Lh_ (show w40.heap.size≤w41.heap.size from F.size);have B1:=tb_ A1 F;have Y1:=kb_ X1 F;have D2:=kb_ L1 F;have C2:=kb_ V2 F;have O0:=Lh_ (N1.out.below F);clear F;rw [hws_];rw [hws_] at L;have M2:=Lh_ L;clear L hws_ J1 U0;obtain ⟨LL,hLL⟩:∃ z,linkGo t.op (([]:List ByteArray)) ws=z:=⟨_,rfl⟩;have Q1:=Lh_ hLL;clear hLL;go_wp2_with fail;go_loopw [12] (fun i wr=>∃ (k:Nat) (l:List ByteArray) (A:Option Addr) (c:Nat),k≤ws.length∧i=.int .i64 (k:Int)∧Hid (Below w.heap.size w wr)∧Hid (BoxL wr w.heap.size [.slice h.a0 d.props.length h.c0,.slice h.a1 d.tags.length h.c1,.slice A l.length c,.slice h.a3 d.run.length h.c3,.slice h.a4 d.load.length h.c4,.string d.nm,.int .i64 d.prio,.string d.owner,.string d.group,.int .i64 d.mode,.string d.res,.int .i64 d.calls,.int .i64 d.ticks,.slice h.a5 d.closed.length h.c5])∧Hid (BoxL wr w1.heap.size [.int .i64 t.key,.string t.nm,.int .i64 t.op,.string t.val])∧Hid (BoxL wr w2.heap.size [.slice none 0 0,.slice none 0 0,.slice none 0 0,.slice none 0 0,.slice none 0 0,.string ByteArray.empty,.int .i64 0,.string ByteArray.empty,.string ByteArray.empty,.int .i64 0,.string ByteArray.empty,.int .i64 0,.int .i64 0,.slice none 0 0])∧Hid (FreeS (fun x=>N x∨x=w.heap.size∨x=w1.heap.size∨x=w2.heap.size) wr A c l)∧Hid (DFr (fun x=>N x∨x=w.heap.size∨x=w1.heap.size∨x=w2.heap.size) wr d h)∧Hid (FreeS (fun x=>N x∨x=w.heap.size∨x=w1.heap.size∨x=w2.heap.size) wr Aw cw ws)∧Hid (linkGo t.op l (ws.drop k)=LL∧l.length≤16∧w3.heap.size≤wr.heap.size)) (fun i _=>ws.length - (intOf i).toNat)
   case atStart=>exact ⟨0,([]:List ByteArray),none,0,Nat.zero_le _,rfl,B1,Y1,D2,C2,Lh_ (FreeS.nil_:FreeS (fun x=>N x∨x=w.heap.size∨x=w1.heap.size∨x=w2.heap.size) w41 none 0 ([]:List ByteArray)),O0,M2,Lh_ ⟨Q1.out,by simp,Nat.le_trans (F1.out) G1.out⟩⟩
   obtain ⟨k,l,A,c,hk,rfl,Y0,C1,V1,T1,R1,C0,W1,M⟩:=hrel;have U0:=N2.out;have Y3:=HV.out;by_cases hlt:k<ws.length
   ·
    have i1:(k:Int)<(ws.length:Int):=by omega
    have F0:=Lh_ hlt;obtain ⟨b3,o3,rfl,Q2,cx,A2⟩:=W1.out.out.str hlt;have V0:ws[k]? = some (ws[k]'hlt):=List.getElem?_eq_getElem hlt;obtain ⟨x,hx⟩:∃ y,ws[k]'hlt=y:=⟨_,rfl⟩;rw [hx] at cx A2 V0;have P2:=Lh_ (O2.out x (List.mem_of_getElem? V0));have U1:=Lh_ (link_step (op:=t.op) (l:=l) V0);clear V0 hx A2 Q2;have I:=V1.out.1 2 _ rfl;have H:=C1.out.1 2 _ rfl;go_wp2_with fail;skip
    refine (RClean_any x wr (by have:=P2.out;omega) (G2.out.next Y0.out)).mono ?_;rintro e w42 ⟨E,rfl⟩;clear I H;have H1:=Lh_ (show wr.heap.size≤w42.heap.size from E.size);have A0:=tb_ Y0 E;have O:=kb_ C1 E;have Q:=kb_ V1 E;have K0:=kb_ T1 E;have D:=Lh_ (R1.out.below E);have R:=Lh_ (C0.out.below E);have W:=Lh_ (W1.out.below E);clear E;have H0:=Lh_ (show w3.heap.size≤w42.heap.size from Nat.le_trans M.out.2.2 H1.out);clear cx;rw [← cleanOf_cleanR];cases hcl:cleanOf x with
    | none =>
     have G0:=Lh_ (show linkGo t.op l (ws.drop (k+1))=LL∧l.length≤16∧w3.heap.size≤w42.heap.size from ⟨by rw [← M.out.1,U1.out,hcl],M.out.2.1,H0.out⟩);clear hcl;have I:=Q.out.1 2 _ rfl;have H:=O.out.1 2 _ rfl;go_wp2;go_roundw
     case rel=>exact ⟨k+1,l,A,c,F0.out,by go_num,A0,O,Q,K0,D,R,W,G0⟩
     have:=F0.out;simp [intOf];omega
    | some s =>
     have I2:=Lh_ (clean_size hcl);have S1:=Lh_ (show linkGo t.op l (ws.drop k)=linkGo t.op (if t.op=5 then withoutT l s else putT l s 16) (ws.drop (k+1)) by rw [U1.out,hcl]);clear hcl;have W3:=D.out.1;have S2:=D.out.2.1;unfold maxLen at S2;by_cases o5:t.op=5
     ·
      have U2:(t.op == 5)=true:=by rw [o5];rfl
      have E1:=Lh_ o5;clear o5;have I:=Q.out.1 2 _ rfl;have H:=O.out.1 2 _ rfl;go_wp2_with fail;skip
      refine (RWithout_any A c l s (fun x=>N x∨x=w.heap.size∨x=w1.heap.size∨x=w2.heap.size) w42 (fun x hx=>Nat.lt_of_lt_of_le (O1.out x hx) H0.out) D.out (by have:=M.out.2.1;omega)).mono ?_;rintro e w43 ⟨B,A5,c5,rfl,L⟩;clear I H;have D0:=Lh_ (show w42.heap.size≤w43.heap.size from B.size);have J:=tb_ A0 B;have K:=kb_ O B;have Z:=kb_ Q B;have L0:=kb_ K0 B;have U:=Lh_ (D.out.below B);have S:=Lh_ (R.out.below B);have X:=Lh_ (W.out.below B);clear B;have D1:=Lh_ L;clear L;have I:=Z.out.1 2 _ rfl;have H:=K.out.1 2 _ rfl;have I0:=K.out.2.1;go_upto_region 26 with fail
      clear I H I0;have C:=grown_one w43 (w.heap.size) 2 (.slice A5 (withoutT l s).length c5);have G:=K.out.set_ (j:=2) (by first | (simp;done) | decide) (.slice A5 (withoutT l s).length c5);obtain ⟨w44,hw44⟩:∃ z,w43.setCell ⟨w.heap.size,2,none⟩ (.slice A5 (withoutT l s).length c5)=z:=⟨_,rfl⟩;rw [hw44] at C G ⊢;clear hw44;have E0:=Lh_ C.size;have J0:=Lh_ G;have B0:=Lh_ (J.out.grown C J.out.size (fun q hq=>by have:=Option.some.inj hq;have:=HZ.out;omega));have N0:=Lh_ (Z.out.kept C (fun e=>by have:=Option.some.inj e;have:=HZ.out;omega));have M0:=Lh_ (L0.out.kept C (fun e=>by have:=Option.some.inj e;have:=HZ.out;omega));have S0:=Lh_ (U.out.grown C (.inl (.inr (.inl rfl))));have T:=Lh_ (S.out.grown C (.inl (.inr (.inl rfl))));have Y:=Lh_ (X.out.grown C (.inl (.inr (.inl rfl))));have V:=Lh_ (D1.out.grown C (.inl (.inr (.inl rfl))));clear C G;have G0:=Lh_ (show linkGo t.op (withoutT l s) (ws.drop (k+1))=LL∧(withoutT l s).length≤16∧w3.heap.size≤w44.heap.size from ⟨by rw [← M.out.1,S1.out,if_pos E1.out],Nat.le_trans (without_len l s) M.out.2.1,Nat.le_trans H0.out (Nat.le_trans D0.out E0.out)⟩);go_wp2;go_roundw
      case rel=>exact ⟨k+1,withoutT l s,A5,c5,F0.out,by go_num,B0,J0,N0,M0,V,T,Y,G0⟩
      have:=F0.out;simp [intOf];omega
     have U2:(t.op == 5)=false:=by simpa using o5
     have E1:=Lh_ o5;clear o5;have I:=Q.out.1 2 _ rfl;have H:=O.out.1 2 _ rfl;go_wp2_with fail;skip
     refine (RPut_any A c l s 16 (fun x=>N x∨x=w.heap.size∨x=w1.heap.size∨x=w2.heap.size) w42 (fun x hx=>Nat.lt_of_lt_of_le (O1.out x hx) H0.out) D.out (by have:=M.out.2.1;omega) (by have:=I2.out;unfold maxLen;omega) (by omega)).mono ?_;rintro e w43 ⟨B,A5,c5,rfl,L⟩;clear I H;have D0:=Lh_ (show w42.heap.size≤w43.heap.size from B.size);have J:=tb_ A0 B;have K:=kb_ O B;have Z:=kb_ Q B;have L0:=kb_ K0 B;have U:=Lh_ (D.out.below B);have S:=Lh_ (R.out.below B);have X:=Lh_ (W.out.below B);clear B;have D1:=Lh_ L;clear L;have I:=Z.out.1 2 _ rfl;have H:=K.out.1 2 _ rfl;have I0:=K.out.2.1;go_upto_region 26 with fail
     clear I H I0;have C:=grown_one w43 (w.heap.size) 2 (.slice A5 (putT l s 16).length c5);have G:=K.out.set_ (j:=2) (by first | (simp;done) | decide) (.slice A5 (putT l s 16).length c5);obtain ⟨w44,hw44⟩:∃ z,w43.setCell ⟨w.heap.size,2,none⟩ (.slice A5 (putT l s 16).length c5)=z:=⟨_,rfl⟩;rw [hw44] at C G ⊢;clear hw44;have E0:=Lh_ C.size;have J0:=Lh_ G;have B0:=Lh_ (J.out.grown C J.out.size (fun q hq=>by have:=Option.some.inj hq;have:=HZ.out;omega));have N0:=Lh_ (Z.out.kept C (fun e=>by have:=Option.some.inj e;have:=HZ.out;omega));have M0:=Lh_ (L0.out.kept C (fun e=>by have:=Option.some.inj e;have:=HZ.out;omega));have S0:=Lh_ (U.out.grown C (.inl (.inr (.inl rfl))));have T:=Lh_ (S.out.grown C (.inl (.inr (.inl rfl))));have Y:=Lh_ (X.out.grown C (.inl (.inr (.inl rfl))));have V:=Lh_ (D1.out.grown C (.inl (.inr (.inl rfl))));clear C G;have G0:=Lh_ (show linkGo t.op (putT l s 16) (ws.drop (k+1))=LL∧(putT l s 16).length≤16∧w3.heap.size≤w44.heap.size from ⟨by rw [← M.out.1,S1.out,if_neg E1.out],putT_len l s 16 M.out.2.1,Nat.le_trans H0.out (Nat.le_trans D0.out E0.out)⟩);go_wp2;go_roundw
     case rel=>exact ⟨k+1,putT l s 16,A5,c5,F0.out,by go_num,B0,J0,N0,M0,V,T,Y,G0⟩
     have:=F0.out;simp [intOf];omega
   have i1:¬ (k:Int)<(ws.length:Int):=by omega
   obtain rfl:k=ws.length:=by omega
   have L2:=Lh_ (show l=LL by have:=M.out.1;rw [List.drop_length] at this;exact this);go_wp2_with fail;go_meet;rw [J2.out,Q1.out,← L2.out];exact Lh_ ⟨⟨h.a0,h.c0,h.a1,h.c1,A,c,h.a3,h.c3,h.a4,h.c4,h.a5,h.c5⟩,Y0.out,C1.out,T1.out,(show DFr _ _ _ _ from ⟨C0.out.1,C0.out.2.1,R1.out,C0.out.2.2.2.1,C0.out.2.2.2.2.1,C0.out.2.2.2.2.2.1,C0.out.2.2.2.2.2.2⟩)⟩
  have C5:(t.op == 6)=false:=by simpa using o6
  have G3:=Lh_ o6;clear o6;have H:=M1.out.1 2 _ rfl;have I0:=M1.out.2.1;have I1:=K1.out.1 0 _ rfl;have I:=K1.out.1 2 _ rfl;have J1:=fun x (hx:x ∈ wordsT v)=>words_small (s:=v) hx
  have U0:=words_len v;obtain ⟨ws,hws_⟩:∃ z,wordsT v=z:=⟨_,rfl⟩;rw [hws_] at J1 U0;have O2:=Lh_ J1;have N2:=Lh_ U0;have J2:=Lh_ (show asgD d t v = { d with links:=linkGo t.op (d.links) ws } by rw [E3.out,show (if t.op=3∨t.op=6 then [] else d.links)=d.links from if_neg (fun h=>h.elim F3.out G3.out),hws_]);clear H I0 I1 I;have I1:=K1.out.1 0 _ rfl;have I:=K1.out.1 2 _ rfl;have H:=M1.out.1 2 _ rfl;go_wp2_with fail;skip
  refine (RWords_any v (fun x=>N x∨x=w.heap.size∨x=w1.heap.size∨x=w2.heap.size) w3 (fun x hx=>Nat.lt_of_lt_of_le (O1.out x hx) (Nat.le_refl _)) (by have:=HV.out;omega) (G2.out.next Z0.out)).mono ?_;rintro e w41 ⟨F,Aw,cw,rfl,L⟩;clear I1 I H;have G1:=Lh_ (show w3.heap.size≤w41.heap.size from F.size);have B1:=tb_ Z0 F;have Y1:=kb_ M1 F;have D2:=kb_ K1 F;have C2:=kb_ E2 F;have O0:=Lh_ (D3.out.below F);have E4:=Lh_ (below_next K4.out F);clear F;rw [hws_];rw [hws_] at L;have M2:=Lh_ L;clear L hws_ J1 U0;obtain ⟨LL,hLL⟩:∃ z,linkGo t.op (d.links) ws=z:=⟨_,rfl⟩;have Q1:=Lh_ hLL;clear hLL;go_wp2_with fail;go_loopw [12] (fun i wr=>∃ (k:Nat) (l:List ByteArray) (A:Option Addr) (c:Nat),k≤ws.length∧i=.int .i64 (k:Int)∧Hid (Below w.heap.size w wr)∧Hid (BoxL wr w.heap.size [.slice h.a0 d.props.length h.c0,.slice h.a1 d.tags.length h.c1,.slice A l.length c,.slice h.a3 d.run.length h.c3,.slice h.a4 d.load.length h.c4,.string d.nm,.int .i64 d.prio,.string d.owner,.string d.group,.int .i64 d.mode,.string d.res,.int .i64 d.calls,.int .i64 d.ticks,.slice h.a5 d.closed.length h.c5])∧Hid (BoxL wr w1.heap.size [.int .i64 t.key,.string t.nm,.int .i64 t.op,.string t.val])∧Hid (BoxL wr w2.heap.size [.slice none 0 0,.slice none 0 0,.slice none 0 0,.slice none 0 0,.slice none 0 0,.string ByteArray.empty,.int .i64 0,.string ByteArray.empty,.string ByteArray.empty,.int .i64 0,.string ByteArray.empty,.int .i64 0,.int .i64 0,.slice none 0 0])∧Hid (FreeS (fun x=>N x∨x=w.heap.size∨x=w1.heap.size∨x=w2.heap.size) wr A c l)∧Hid (DFr (fun x=>N x∨x=w.heap.size∨x=w1.heap.size∨x=w2.heap.size) wr d h)∧Hid (FreeS (fun x=>N x∨x=w.heap.size∨x=w1.heap.size∨x=w2.heap.size) wr Aw cw ws)∧Hid (linkGo t.op l (ws.drop k)=LL∧l.length≤16∧w3.heap.size≤wr.heap.size)) (fun i _=>ws.length - (intOf i).toNat)
  case atStart=>exact ⟨0,d.links,h.a2,h.c2,Nat.zero_le _,rfl,B1,Y1,D2,C2,Lh_ O0.out.2.2.1,O0,M2,Lh_ ⟨Q1.out,J4.out.ll,Nat.le_trans ((Nat.le_refl _)) G1.out⟩⟩
  obtain ⟨k,l,A,c,hk,rfl,Y0,C1,V1,T1,R1,C0,W1,M⟩:=hrel;have U0:=N2.out;have Y3:=HV.out;by_cases hlt:k<ws.length
  ·
   have i1:(k:Int)<(ws.length:Int):=by omega
   have F0:=Lh_ hlt;obtain ⟨b3,o3,rfl,Q2,cx,A2⟩:=W1.out.out.str hlt;have V0:ws[k]? = some (ws[k]'hlt):=List.getElem?_eq_getElem hlt;obtain ⟨x,hx⟩:∃ y,ws[k]'hlt=y:=⟨_,rfl⟩;rw [hx] at cx A2 V0;have P2:=Lh_ (O2.out x (List.mem_of_getElem? V0));have U1:=Lh_ (link_step (op:=t.op) (l:=l) V0);clear V0 hx A2 Q2;have I:=V1.out.1 2 _ rfl;have H:=C1.out.1 2 _ rfl;go_wp2_with fail;skip
   refine (RClean_any x wr (by have:=P2.out;omega) (G2.out.next Y0.out)).mono ?_;rintro e w42 ⟨E,rfl⟩;clear I H;have H1:=Lh_ (show wr.heap.size≤w42.heap.size from E.size);have A0:=tb_ Y0 E;have O:=kb_ C1 E;have Q:=kb_ V1 E;have K0:=kb_ T1 E;have D:=Lh_ (R1.out.below E);have R:=Lh_ (C0.out.below E);have W:=Lh_ (W1.out.below E);clear E;have H0:=Lh_ (show w3.heap.size≤w42.heap.size from Nat.le_trans M.out.2.2 H1.out);clear cx;rw [← cleanOf_cleanR];cases hcl:cleanOf x with
   | none =>
    have G0:=Lh_ (show linkGo t.op l (ws.drop (k+1))=LL∧l.length≤16∧w3.heap.size≤w42.heap.size from ⟨by rw [← M.out.1,U1.out,hcl],M.out.2.1,H0.out⟩);clear hcl;have I:=Q.out.1 2 _ rfl;have H:=O.out.1 2 _ rfl;go_wp2;go_roundw
    case rel=>exact ⟨k+1,l,A,c,F0.out,by go_num,A0,O,Q,K0,D,R,W,G0⟩
    have:=F0.out;simp [intOf];omega
   | some s =>
    have I2:=Lh_ (clean_size hcl);have S1:=Lh_ (show linkGo t.op l (ws.drop k)=linkGo t.op (if t.op=5 then withoutT l s else putT l s 16) (ws.drop (k+1)) by rw [U1.out,hcl]);clear hcl;have W3:=D.out.1;have S2:=D.out.2.1;unfold maxLen at S2;by_cases o5:t.op=5
    ·
     have U2:(t.op == 5)=true:=by rw [o5];rfl
     have E1:=Lh_ o5;clear o5;have I:=Q.out.1 2 _ rfl;have H:=O.out.1 2 _ rfl;go_wp2_with fail;skip
     refine (RWithout_any A c l s (fun x=>N x∨x=w.heap.size∨x=w1.heap.size∨x=w2.heap.size) w42 (fun x hx=>Nat.lt_of_lt_of_le (O1.out x hx) H0.out) D.out (by have:=M.out.2.1;omega)).mono ?_;rintro e w43 ⟨B,A5,c5,rfl,L⟩;clear I H;have D0:=Lh_ (show w42.heap.size≤w43.heap.size from B.size);have J:=tb_ A0 B;have K:=kb_ O B;have Z:=kb_ Q B;have L0:=kb_ K0 B;have U:=Lh_ (D.out.below B);have S:=Lh_ (R.out.below B);have X:=Lh_ (W.out.below B);clear B;have D1:=Lh_ L;clear L;have I:=Z.out.1 2 _ rfl;have H:=K.out.1 2 _ rfl;have I0:=K.out.2.1;go_upto_region 26 with fail
     clear I H I0;have C:=grown_one w43 (w.heap.size) 2 (.slice A5 (withoutT l s).length c5);have G:=K.out.set_ (j:=2) (by first | (simp;done) | decide) (.slice A5 (withoutT l s).length c5);obtain ⟨w44,hw44⟩:∃ z,w43.setCell ⟨w.heap.size,2,none⟩ (.slice A5 (withoutT l s).length c5)=z:=⟨_,rfl⟩;rw [hw44] at C G ⊢;clear hw44;have E0:=Lh_ C.size;have J0:=Lh_ G;have B0:=Lh_ (J.out.grown C J.out.size (fun q hq=>by have:=Option.some.inj hq;have:=HZ.out;omega));have N0:=Lh_ (Z.out.kept C (fun e=>by have:=Option.some.inj e;have:=HZ.out;omega));have M0:=Lh_ (L0.out.kept C (fun e=>by have:=Option.some.inj e;have:=HZ.out;omega));have S0:=Lh_ (U.out.grown C (.inl (.inr (.inl rfl))));have T:=Lh_ (S.out.grown C (.inl (.inr (.inl rfl))));have Y:=Lh_ (X.out.grown C (.inl (.inr (.inl rfl))));have V:=Lh_ (D1.out.grown C (.inl (.inr (.inl rfl))));clear C G;have G0:=Lh_ (show linkGo t.op (withoutT l s) (ws.drop (k+1))=LL∧(withoutT l s).length≤16∧w3.heap.size≤w44.heap.size from ⟨by rw [← M.out.1,S1.out,if_pos E1.out],Nat.le_trans (without_len l s) M.out.2.1,Nat.le_trans H0.out (Nat.le_trans D0.out E0.out)⟩);go_wp2;go_roundw
     case rel=>exact ⟨k+1,withoutT l s,A5,c5,F0.out,by go_num,B0,J0,N0,M0,V,T,Y,G0⟩
     have:=F0.out;simp [intOf];omega
    have U2:(t.op == 5)=false:=by simpa using o5
    have E1:=Lh_ o5;clear o5;have I:=Q.out.1 2 _ rfl;have H:=O.out.1 2 _ rfl;go_wp2_with fail;skip
    refine (RPut_any A c l s 16 (fun x=>N x∨x=w.heap.size∨x=w1.heap.size∨x=w2.heap.size) w42 (fun x hx=>Nat.lt_of_lt_of_le (O1.out x hx) H0.out) D.out (by have:=M.out.2.1;omega) (by have:=I2.out;unfold maxLen;omega) (by omega)).mono ?_;rintro e w43 ⟨B,A5,c5,rfl,L⟩;clear I H;have D0:=Lh_ (show w42.heap.size≤w43.heap.size from B.size);have J:=tb_ A0 B;have K:=kb_ O B;have Z:=kb_ Q B;have L0:=kb_ K0 B;have U:=Lh_ (D.out.below B);have S:=Lh_ (R.out.below B);have X:=Lh_ (W.out.below B);clear B;have D1:=Lh_ L;clear L;have I:=Z.out.1 2 _ rfl;have H:=K.out.1 2 _ rfl;have I0:=K.out.2.1;go_upto_region 26 with fail
    clear I H I0;have C:=grown_one w43 (w.heap.size) 2 (.slice A5 (putT l s 16).length c5);have G:=K.out.set_ (j:=2) (by first | (simp;done) | decide) (.slice A5 (putT l s 16).length c5);obtain ⟨w44,hw44⟩:∃ z,w43.setCell ⟨w.heap.size,2,none⟩ (.slice A5 (putT l s 16).length c5)=z:=⟨_,rfl⟩;rw [hw44] at C G ⊢;clear hw44;have E0:=Lh_ C.size;have J0:=Lh_ G;have B0:=Lh_ (J.out.grown C J.out.size (fun q hq=>by have:=Option.some.inj hq;have:=HZ.out;omega));have N0:=Lh_ (Z.out.kept C (fun e=>by have:=Option.some.inj e;have:=HZ.out;omega));have M0:=Lh_ (L0.out.kept C (fun e=>by have:=Option.some.inj e;have:=HZ.out;omega));have S0:=Lh_ (U.out.grown C (.inl (.inr (.inl rfl))));have T:=Lh_ (S.out.grown C (.inl (.inr (.inl rfl))));have Y:=Lh_ (X.out.grown C (.inl (.inr (.inl rfl))));have V:=Lh_ (D1.out.grown C (.inl (.inr (.inl rfl))));clear C G;have G0:=Lh_ (show linkGo t.op (putT l s 16) (ws.drop (k+1))=LL∧(putT l s 16).length≤16∧w3.heap.size≤w44.heap.size from ⟨by rw [← M.out.1,S1.out,if_neg E1.out],putT_len l s 16 M.out.2.1,Nat.le_trans H0.out (Nat.le_trans D0.out E0.out)⟩);go_wp2;go_roundw
    case rel=>exact ⟨k+1,putT l s 16,A5,c5,F0.out,by go_num,B0,J0,N0,M0,V,T,Y,G0⟩
    have:=F0.out;simp [intOf];omega
  have i1:¬ (k:Int)<(ws.length:Int):=by omega
  obtain rfl:k=ws.length:=by omega
  have L2:=Lh_ (show l=LL by have:=M.out.1;rw [List.drop_length] at this;exact this);go_wp2_with fail;go_meet;rw [J2.out,Q1.out,← L2.out];exact Lh_ ⟨⟨h.a0,h.c0,h.a1,h.c1,A,c,h.a3,h.c3,h.a4,h.c4,h.a5,h.c5⟩,Y0.out,C1.out,T1.out,(show DFr _ _ _ _ from ⟨C0.out.1,C0.out.2.1,R1.out,C0.out.2.2.2.1,C0.out.2.2.2.2.1,C0.out.2.2.2.2.2.1,C0.out.2.2.2.2.2.2⟩)⟩
 case rest =>
 obtain ⟨h6,V3,K3,X3,L⟩:=hcut.out;obtain ⟨d6,hd6⟩:∃ z,asgD d t v=z:=⟨_,rfl⟩;rw [hd6] at K3 L;have H4:=Lh_ hd6;have F4:=Lh_ V3;have G4:=Lh_ K3;have O3:=Lh_ X3;have I4:=Lh_ L;clear V3 K3 X3 L hd6 hcut;obtain ⟨P5,Q5,H,R5,S5,T5,U5,V5,W5,X5,H5,I5,J5,K5⟩:=s14_ G4.out.1;obtain ⟨M4,N4,O4,P4,Q4,R4,S4,T4,U4,V4,Q3,R3,S3,T3⟩:=s14_ O3.out.1;have L4:=O3.out.2.1;go_wp2;refine bodyPost_ret (v:=.agg #[.slice h6.a0 d6.props.length h6.c0,.slice h6.a1 d6.tags.length h6.c1,.slice h6.a2 d6.links.length h6.c2,.slice h6.a3 d6.run.length h6.c3,.slice h6.a4 d6.load.length h6.c4,.string d6.nm,.int .i64 d6.prio,.string d6.owner,.string d6.group,.int .i64 d6.mode,.string d6.res,.int .i64 d6.calls,.int .i64 d6.ticks,.slice h6.a5 d6.closed.length h6.c5]) (by simp [results,Tryz.results57,go_sem,M4,N4,O4,P4,Q4,R4,S4,T4,U4,V4,Q3,R3,S3,T3,L4]) rfl ?_;rw [H4.out];exact DPost.fin (h:=h6) F4.out (by have:=HZ.out;omega) (fun _=>.inl) (.inr (.inr (.inr rfl))) I4.out _ _ _ _ _ _ _ _ _ _ _ _ _ _
end Go.Proofs.YtjpoljlgkgmdkaaGreatDoor
namespace Go.Proofs.YtjpoljlgkgmdkaaGreatDoor
open Go.RowKit Go.Cold
set_option maxRecDepth 100000 in
set_option maxHeartbeats 8000000 in
theorem RAsg_k20 (d:Draft) (h:DH) (t:Term4) (v:ByteArray) (N:Nat→Prop) (w:World) (hN:∀ x,N x→x<w.heap.size) (hd:DFr N w d h) (hs:SoundD d) (ht:okT t) (hv:v.size≤1000) (hok:Ok w) (h7:Ok7 w) (hkey:t.key=20) :
  Calls Tryz.prog 57 #[.agg #[.slice h.a0 d.props.length h.c0,.slice h.a1 d.tags.length h.c1,.slice h.a2 d.links.length h.c2,.slice h.a3 d.run.length h.c3,.slice h.a4 d.load.length h.c4,.string d.nm,.int .i64 d.prio,.string d.owner,.string d.group,.int .i64 d.mode,.string d.res,.int .i64 d.calls,.int .i64 d.ticks,.slice h.a5 d.closed.length h.c5],.agg #[.int .i64 t.key,.string t.nm,.int .i64 t.op,.string t.val],.string v] w (DPost N (asgD d t v) w):=by
 have C:=Lh_ hkey;clear hkey;have HN:=Lh_ hN;have P2:=Lh_ hs;have HV:=Lh_ hv;have HT:=Lh_ ht;have HD:=Lh_ hd;have R3:=Lh_ hok;have H7:=Lh_ h7;clear hN hs hv ht hd hok h7;have F3:=(zero_of_info (P:=Tryz.prog) (t:=30) info_draft2).1;go_enter Tryz.func57,Tryz.ntmps57;go_upto_region 1 with fail
 obtain ⟨w1,E2,R0,Z0,M1⟩:=bx_ w [.slice h.a0 d.props.length h.c0,.slice h.a1 d.tags.length h.c1,.slice h.a2 d.links.length h.c2,.slice h.a3 d.run.length h.c3,.slice h.a4 d.load.length h.c4,.string d.nm,.int .i64 d.prio,.string d.owner,.string d.group,.int .i64 d.mode,.string d.res,.int .i64 d.calls,.int .i64 d.ticks,.slice h.a5 d.closed.length h.c5] 30;try simp only [E2]
 have I3:=Lh_ (show w.heap.size≤w1.heap.size from R0.size);have T1:=Lh_ R0;clear E2 R0;try rw [← Z0.out]
 obtain ⟨w2,F2,F0,A1,N1⟩:=bx_ w1 [.int .i64 t.key,.string t.nm,.int .i64 t.op,.string t.val] 35;try simp only [F2]
 have J3:=Lh_ (show w1.heap.size≤w2.heap.size from F0.size);have U1:=tb_ T1 F0;have B3:=kb_ M1 F0;clear F2 F0;try rw [← A1.out]
 obtain ⟨W,G2,U,B1,L⟩:=bx_ w2 [.slice none 0 0,.slice none 0 0,.slice none 0 0,.slice none 0 0,.slice none 0 0,.string ByteArray.empty,.int .i64 0,.string ByteArray.empty,.string ByteArray.empty,.int .i64 0,.string ByteArray.empty,.int .i64 0,.int .i64 0,.slice none 0 0] 30;try simp only [G2]
 have K3:=Lh_ (show w2.heap.size≤W.heap.size from U.size);have I:=tb_ U1 U;have E:=kb_ B3 U;have M:=kb_ N1 U;clear G2 U;try rw [← B1.out]
 clear F3;have HZ:=Lh_ (show w.heap.size<w1.heap.size∧w1.heap.size<w2.heap.size∧w2.heap.size<W.heap.size by have:=Z0.out;have:=A1.out;have:=B1.out;omega);have A:=Lh_ (show DFr (fun x=>N x∨x=w.heap.size∨x=w1.heap.size∨x=w2.heap.size) W d h from dfr_new HD.out I.out (fun x hx=>by have:=HZ.out;rcases hx with hx | rfl | rfl | rfl;exact .inl hx;exact .inr (Nat.le_refl _);exact .inr (by omega);exact .inr (by omega)));have V1:=Lh_ (show ∀ x,(fun x=>N x∨x=w.heap.size∨x=w1.heap.size∨x=w2.heap.size) x→x<W.heap.size from fun x hx=>by have:=HZ.out;rcases hx with h | h | h | h;(have:=HN.out x h;omega);omega;omega;omega);have S3:=Lh_ (Below.refl W.heap.size W);go_cut [7,8] (fun s7 s8 wx=>s7=.bool (validB v)∧s8=.bool (fullT v)∧wx=W)
 case first =>
  go_wp2_with fail;refine (RValid_any v _ (by have:=HV.out;unfold maxLen;omega)).mono ?_;rintro e w9 ⟨rfl,V⟩;rw [← V];clear V w9;obtain ⟨bn,hbn⟩:∃ z,validB v=z:=⟨_,rfl⟩;rw [hbn];have X0:=Lh_ hbn;clear hbn;go_wp2_with fail;refine (RText_any v _ (by have:=HV.out;unfold maxLen;omega)).mono ?_;rintro e w9 ⟨rfl,V⟩;rw [← V];clear V w9;obtain ⟨tx,htx⟩:∃ z,textB v=z:=⟨_,rfl⟩;rw [htx];have X1:=Lh_ htx;clear htx;cases tx
  ·
   go_wp2_with fail;go_meet;exact ⟨by rw [X0.out],by unfold fullT;rw [X1.out,Bool.and_false],rfl⟩
  by_cases hve:v.toList.isEmpty=true
  ·
   obtain ⟨p1,p2⟩:=empties hve;have L1:=Lh_ hve;clear hve;go_wp2_with fail;go_meet;exact ⟨by rw [X0.out],by unfold fullT;rw [L1.out];rfl,rfl⟩
  have W0:v.toList.isEmpty=false:=by simpa using hve
  obtain ⟨p1,p2⟩:=empties W0;have L1:=Lh_ W0;clear hve W0;go_wp2_with fail;go_meet;exact ⟨by rw [X0.out],by unfold fullT;rw [L1.out,X1.out];rfl,rfl⟩
 case rest =>
 obtain ⟨C3,D3,V⟩:=hcut;subst C3 D3;rw [V];clear V wc;obtain ⟨bn,hbn⟩:∃ z,validB v=z:=⟨_,rfl⟩;obtain ⟨bt,hbt⟩:∃ z,fullT v=z:=⟨_,rfl⟩;rw [hbn,hbt];have X0:=Lh_ hbn;have Y0:=Lh_ hbt;clear hbn hbt;refine ‹∀ (a:Act) (w_1:World),Code.wp _ _ _ a w_1→_› _ _ ?_;refine wp_seq_k fun K2 hK2=>?_
 go_cut [] (fun wx=>Hid (AsgSt (fun x=>N x∨x=w.heap.size∨x=w1.heap.size∨x=w2.heap.size) w w.heap.size w2.heap.size (asgD d t v) wx))
 case first =>
  have e6:(t.key == 6)=false:=by rw [C.out];rfl
  have e7:(t.key == 7)=false:=by rw [C.out];rfl
  have C4:(t.key == 15)=false:=by rw [C.out];rfl
  have D4:(t.key == 16)=false:=by rw [C.out];rfl
  have E4:(t.key == 17)=false:=by rw [C.out];rfl
  have F4:(t.key == 18)=false:=by rw [C.out];rfl
  have G4:(t.key == 19)=false:=by rw [C.out];rfl
  have H4:(t.key == 20)=true:=by rw [C.out];rfl
  have H2:=C.out;have O0:=Lh_ (asg_20 (d:=d) (v:=v) H2);clear H2;have I4:=A.out.2.2.2.1.1;have E3:=A.out.2.2.2.1.2.1;unfold maxLen at E3;have O2:=Lh_ P2.out.rl;by_cases o4:t.op=4
  ·
   have H3:(t.op == 4)=true:=by rw [o4];rfl
   have H0:=Lh_ o4;clear o4;cases bt
   ·
    have F:=E.out.1 3 _ rfl;have H:=E.out.2.1;have R:=M.out.1 0 _ rfl;have S:=M.out.1 2 _ rfl;go_wp2_with fail;go_meet;rw [O0.out,show (if t.op≠4 then [] else d.run)=d.run from if_neg (fun h=>h H0.out),if_neg (by rw [Y0.out];rintro ⟨h,-⟩;cases h)];exact Lh_ ⟨⟨h.a0,h.c0,h.a1,h.c1,h.a2,h.c2,h.a3,h.c3,h.a4,h.c4,h.a5,h.c5⟩,I.out,E.out,L.out,(show DFr _ _ _ _ from ⟨A.out.1,A.out.2.1,A.out.2.2.1,A.out.2.2.2.1,A.out.2.2.2.2.1,A.out.2.2.2.2.2.1,A.out.2.2.2.2.2.2⟩)⟩
   by_cases h16:d.run.length<16
   ·
    have G3:(d.run.length:Int)<16:=by omega
    have L0:=Lh_ h16;clear h16;have Q0:=Lh_ (show SlS W (fun b=>(fun _=>True) b∧b<W.heap.size∧(.slice none 0 0:Value).ownBlock≠some b) (h.a3) h.c3 d.run from (A.out.2.2.2.1).mono (fun b hb=>⟨trivial,hb.1,fun e=>by cases e⟩) (fun _ _ _ _ hu=>hu));have F:=E.out.1 3 _ rfl;have H:=E.out.2.1;have R:=M.out.1 0 _ rfl;have S:=M.out.1 2 _ rfl;have K:=Lh_ (show (d.run).length≤16 by exact O2.out);go_upto_region 46 with fail
    go_wp2_with (at_builtin;(first | (refine wpList_app rfl _ _ rfl v5 (.slice (some ⟨w5.heap.size,0,none⟩) 1 1) rfl rfl (run_app1 E_txt _ v5 _ P0.out w5.heap.size v [.string v] F1.out ⟨rfl,(by have:=HV.out;unfold maxLen;omega)⟩ (by have Z:([]:List ByteArray).length=0:=rfl;have A0:=K.out;unfold maxLen;omega) (by have Z:([]:List ByteArray).length=0:=rfl;have A0:=K.out;omega) X.out.size) ?_;rintro v7 w7 ⟨E0,V0,R1⟩;obtain ⟨nl,hnl⟩:∃ z,d.run ++ [v]=z:=⟨_,rfl⟩;rw [hnl] at E0;have H1:=Lh_ hnl;clear hnl;have G:Below W.heap.size W w7:=below_own X.out V0 X.out.size (fun q hq=>(P0.out.lt q hq).1);have E1:=tb_ I G;have Y:=kb_ E G;have J1:=kb_ L G;have D:=Lh_ (A.out.below G);obtain ⟨O,Q,S1,T0⟩:=(own_anyT E0:OwnsS (fun _=>False) _ _ _ _ _).free (N:=(fun x=>N x∨x=w.heap.size∨x=w1.heap.size∨x=w2.heap.size)) (fun x hx=>⟨Nat.lt_of_lt_of_le (V1.out x hx) (Nat.le_refl _),fun h=>h⟩);subst S1;have G1:=Lh_ T0;clear E0 V0 R1 T0 G F H R S;have F:=Y.out.1 3 _ rfl;have H:=Y.out.2.1) | (refine wpList_app rfl _ _ rfl (.slice none 0 0) (.slice (h.a3) (d.run).length h.c3) rfl rfl (run_appL E_txt _ _ [] (OwnsS.nil_ (fun _=>True) W W.heap.size _) (h.a3) h.c3 d.run (.inl Q0.out) (by have Z:([]:List ByteArray).length=0:=rfl;have A0:=K.out;unfold maxLen;omega) (by have Z:([]:List ByteArray).length=0:=rfl;have A0:=K.out;omega) (Nat.le_refl _)) ?_;rintro v5 w5 ⟨D0,U0,Q1⟩;rw [List.nil_append] at D0;have I1:=Lh_ D0;have T:Below W.heap.size W w5:=below_own (Below.refl _ _) U0 (Nat.le_refl _) (fun k hk=>by cases hk);have M0:=Lh_ T;clear T D0 U0 Q1;obtain ⟨w6,hw6⟩:∃ z,w5.alloc (.cells #[.string v] 9)=z:=⟨_,rfl⟩;have B0:Below w5.heap.size w5 w6:=(by rw [← hw6];exact (Below.refl _ _).alloc (Nat.le_refl _) _);have F1:=Lh_ (lit_cells hw6 (l:=[.string v]) rfl);have P0:=Lh_ (I1.out.below B0);have X:=tb_ M0 B0;clear B0)));go_meet;rw [O0.out,show (if t.op≠4 then [] else d.run)=d.run from if_neg (fun h=>h H0.out),if_pos ⟨Y0.out,L0.out⟩,H1.out]
    exact Lh_ ⟨⟨h.a0,h.c0,h.a1,h.c1,h.a2,h.c2,O,Q,h.a4,h.c4,h.a5,h.c5⟩,E1.out.setCell (Nat.le_refl _) _,Y.out.set_ (j:=3) (by show 3<14;omega) _,J1.out.far (fun e=>by have:=HZ.out;omega) _,(show DFr _ _ _ _ from ⟨(D.out.set_ (.inr (.inl rfl)) 3 (.slice O nl.length Q)).1,(D.out.set_ (.inr (.inl rfl)) 3 (.slice O nl.length Q)).2.1,(D.out.set_ (.inr (.inl rfl)) 3 (.slice O nl.length Q)).2.2.1,(G1.out.set_ (.inr (.inl rfl)) 3 (.slice O nl.length Q)),(D.out.set_ (.inr (.inl rfl)) 3 (.slice O nl.length Q)).2.2.2.2.1,(D.out.set_ (.inr (.inl rfl)) 3 (.slice O nl.length Q)).2.2.2.2.2.1,(D.out.set_ (.inr (.inl rfl)) 3 (.slice O nl.length Q)).2.2.2.2.2.2⟩)⟩
   have G3:¬ (d.run.length:Int)<16:=by omega
   have L0:=Lh_ h16;clear h16;have F:=E.out.1 3 _ rfl;have H:=E.out.2.1;have R:=M.out.1 0 _ rfl;have S:=M.out.1 2 _ rfl;go_wp2_with fail;go_meet;rw [O0.out,show (if t.op≠4 then [] else d.run)=d.run from if_neg (fun h=>h H0.out),if_neg (fun h=>L0.out h.2)];exact Lh_ ⟨⟨h.a0,h.c0,h.a1,h.c1,h.a2,h.c2,h.a3,h.c3,h.a4,h.c4,h.a5,h.c5⟩,I.out,E.out,L.out,(show DFr _ _ _ _ from ⟨A.out.1,A.out.2.1,A.out.2.2.1,A.out.2.2.2.1,A.out.2.2.2.2.1,A.out.2.2.2.2.2.1,A.out.2.2.2.2.2.2⟩)⟩
  have H3:(t.op == 4)=false:=by simpa using o4
  have H0:=Lh_ o4;clear o4;have F:=E.out.1 3 _ rfl;have H:=E.out.2.1;have R:=M.out.1 0 _ rfl;have S:=M.out.1 2 _ rfl;go_upto_region 45 with fail
  clear F H R S;have C0:=grown_one W (w.heap.size) 3 (.slice none 0 0);have S0:=E.out.set_ (j:=3) (by first | (simp;done) | decide) (.slice none 0 0);obtain ⟨w40,hw40⟩:∃ z,W.setCell ⟨w.heap.size,3,none⟩ (.slice none 0 0)=z:=⟨_,rfl⟩;rw [hw40] at C0 S0 ⊢;clear hw40;have K1:=Lh_ C0.size;have J:=Lh_ S0;have N0:=Lh_ (I.out.grown C0 I.out.size (fun q hq=>by have:=Option.some.inj hq;have:=HZ.out;omega));have G0:=Lh_ (M.out.kept C0 (fun e=>by have:=Option.some.inj e;have:=HZ.out;omega));have D1:=Lh_ (L.out.kept C0 (fun e=>by have:=Option.some.inj e;have:=HZ.out;omega));have B:=Lh_ (A.out.grown C0 (.inl (.inr (.inl rfl))));clear C0 S0;cases bt
  ·
   have F:=J.out.1 3 _ rfl;have H:=J.out.2.1;have R:=G0.out.1 0 _ rfl;have S:=G0.out.1 2 _ rfl;go_wp2_with fail;go_meet;rw [O0.out,show (if t.op≠4 then [] else d.run)=[] from if_pos H0.out,if_neg (by rw [Y0.out];rintro ⟨h,-⟩;cases h)];exact Lh_ ⟨⟨h.a0,h.c0,h.a1,h.c1,h.a2,h.c2,none,0,h.a4,h.c4,h.a5,h.c5⟩,N0.out,J.out,D1.out,(show DFr _ _ _ _ from ⟨B.out.1,B.out.2.1,B.out.2.2.1,(FreeS.nil_:FreeS (fun x=>N x∨x=w.heap.size∨x=w1.heap.size∨x=w2.heap.size) w40 none 0 ([]:List ByteArray)),B.out.2.2.2.2.1,B.out.2.2.2.2.2.1,B.out.2.2.2.2.2.2⟩)⟩
  have L0:=Lh_ (show ([]:List ByteArray).length<16 by simp);have Q0:=Lh_ (show SlS w40 (fun b=>(fun _=>True) b∧b<w40.heap.size∧(.slice none 0 0:Value).ownBlock≠some b) (none) 0 ([]:List ByteArray) from ((FreeS.nil_:FreeS (fun x=>N x∨x=w.heap.size∨x=w1.heap.size∨x=w2.heap.size) w40 none 0 ([]:List ByteArray))).mono (fun b hb=>⟨trivial,hb.1,fun e=>by cases e⟩) (fun _ _ _ _ hu=>hu));have F:=J.out.1 3 _ rfl;have H:=J.out.2.1;have R:=G0.out.1 0 _ rfl;have S:=G0.out.1 2 _ rfl;have K:=Lh_ (show (([]:List ByteArray)).length≤16 by simp);go_upto_region 46 with fail
  go_wp2_with (at_builtin;(first | (refine wpList_app rfl _ _ rfl v5 (.slice (some ⟨w5.heap.size,0,none⟩) 1 1) rfl rfl (run_app1 E_txt _ v5 _ P0.out w5.heap.size v [.string v] F1.out ⟨rfl,(by have:=HV.out;unfold maxLen;omega)⟩ (by have Z:([]:List ByteArray).length=0:=rfl;have A0:=K.out;unfold maxLen;omega) (by have Z:([]:List ByteArray).length=0:=rfl;have A0:=K.out;omega) X.out.size) ?_;rintro v7 w7 ⟨E0,V0,R1⟩;obtain ⟨nl,hnl⟩:∃ z,([]:List ByteArray) ++ [v]=z:=⟨_,rfl⟩;rw [hnl] at E0;have H1:=Lh_ hnl;clear hnl;have G:Below w40.heap.size w40 w7:=below_own X.out V0 X.out.size (fun q hq=>(P0.out.lt q hq).1);have E1:=tb_ N0 G;have Y:=kb_ J G;have J1:=kb_ D1 G;have D:=Lh_ (B.out.below G);obtain ⟨O,Q,S1,T0⟩:=(own_anyT E0:OwnsS (fun _=>False) _ _ _ _ _).free (N:=(fun x=>N x∨x=w.heap.size∨x=w1.heap.size∨x=w2.heap.size)) (fun x hx=>⟨Nat.lt_of_lt_of_le (V1.out x hx) (K1.out),fun h=>h⟩);subst S1;have G1:=Lh_ T0;clear E0 V0 R1 T0 G F H R S;have F:=Y.out.1 3 _ rfl;have H:=Y.out.2.1) | (refine wpList_app rfl _ _ rfl (.slice none 0 0) (.slice (none) (([]:List ByteArray)).length 0) rfl rfl (run_appL E_txt _ _ [] (OwnsS.nil_ (fun _=>True) w40 w40.heap.size _) (none) 0 ([]:List ByteArray) (.inl Q0.out) (by have Z:([]:List ByteArray).length=0:=rfl;have A0:=K.out;unfold maxLen;omega) (by have Z:([]:List ByteArray).length=0:=rfl;have A0:=K.out;omega) (Nat.le_refl _)) ?_;rintro v5 w5 ⟨D0,U0,Q1⟩;rw [List.nil_append] at D0;have I1:=Lh_ D0;have T:Below w40.heap.size w40 w5:=below_own (Below.refl _ _) U0 (Nat.le_refl _) (fun k hk=>by cases hk);have M0:=Lh_ T;clear T D0 U0 Q1;obtain ⟨w6,hw6⟩:∃ z,w5.alloc (.cells #[.string v] 9)=z:=⟨_,rfl⟩;have B0:Below w5.heap.size w5 w6:=(by rw [← hw6];exact (Below.refl _ _).alloc (Nat.le_refl _) _);have F1:=Lh_ (lit_cells hw6 (l:=[.string v]) rfl);have P0:=Lh_ (I1.out.below B0);have X:=tb_ M0 B0;clear B0)));go_meet;rw [O0.out,show (if t.op≠4 then [] else d.run)=[] from if_pos H0.out,if_pos ⟨Y0.out,L0.out⟩,H1.out]
  exact Lh_ ⟨⟨h.a0,h.c0,h.a1,h.c1,h.a2,h.c2,O,Q,h.a4,h.c4,h.a5,h.c5⟩,E1.out.setCell (Nat.le_refl _) _,Y.out.set_ (j:=3) (by show 3<14;omega) _,J1.out.far (fun e=>by have:=HZ.out;omega) _,(show DFr _ _ _ _ from ⟨(D.out.set_ (.inr (.inl rfl)) 3 (.slice O nl.length Q)).1,(D.out.set_ (.inr (.inl rfl)) 3 (.slice O nl.length Q)).2.1,(D.out.set_ (.inr (.inl rfl)) 3 (.slice O nl.length Q)).2.2.1,(G1.out.set_ (.inr (.inl rfl)) 3 (.slice O nl.length Q)),(D.out.set_ (.inr (.inl rfl)) 3 (.slice O nl.length Q)).2.2.2.2.1,(D.out.set_ (.inr (.inl rfl)) 3 (.slice O nl.length Q)).2.2.2.2.2.1,(D.out.set_ (.inr (.inl rfl)) 3 (.slice O nl.length Q)).2.2.2.2.2.2⟩)⟩
 case rest =>
 obtain ⟨h6,C2,O1,D2,P1⟩:=hcut.out;obtain ⟨d6,hd6⟩:∃ z,asgD d t v=z:=⟨_,rfl⟩;rw [hd6] at O1 P1;have M2:=Lh_ hd6;have J2:=Lh_ C2;have L2:=Lh_ O1;have W1:=Lh_ D2;have N2:=Lh_ P1;clear C2 O1 D2 P1 hd6 hcut;obtain ⟨T3,U3,V3,F,W3,X3,Y3,Z3,A4,B4,L3,M3,N3,O3⟩:=s14_ L2.out.1;obtain ⟨R2,S2,T2,U2,V2,W2,X2,Y2,Z2,A3,Y1,Z1,A2,B2⟩:=s14_ W1.out.1;have Q2:=W1.out.2.1;go_wp2;refine bodyPost_ret (v:=.agg #[.slice h6.a0 d6.props.length h6.c0,.slice h6.a1 d6.tags.length h6.c1,.slice h6.a2 d6.links.length h6.c2,.slice h6.a3 d6.run.length h6.c3,.slice h6.a4 d6.load.length h6.c4,.string d6.nm,.int .i64 d6.prio,.string d6.owner,.string d6.group,.int .i64 d6.mode,.string d6.res,.int .i64 d6.calls,.int .i64 d6.ticks,.slice h6.a5 d6.closed.length h6.c5]) (by simp [results,Tryz.results57,go_sem,R2,S2,T2,U2,V2,W2,X2,Y2,Z2,A3,Y1,Z1,A2,B2,Q2]) rfl ?_;rw [M2.out];exact DPost.fin (h:=h6) J2.out (by have:=HZ.out;omega) (fun _=>.inl) (.inr (.inr (.inr rfl))) N2.out _ _ _ _ _ _ _ _ _ _ _ _ _ _
set_option maxRecDepth 100000 in
set_option maxHeartbeats 8000000 in
theorem RAsg_k21 (d:Draft) (h:DH) (t:Term4) (v:ByteArray) (N:Nat→Prop) (w:World) (hN:∀ x,N x→x<w.heap.size) (hd:DFr N w d h) (hs:SoundD d) (ht:okT t) (hv:v.size≤1000) (hok:Ok w) (h7:Ok7 w) (hkey:t.key=21) :
  Calls Tryz.prog 57 #[.agg #[.slice h.a0 d.props.length h.c0,.slice h.a1 d.tags.length h.c1,.slice h.a2 d.links.length h.c2,.slice h.a3 d.run.length h.c3,.slice h.a4 d.load.length h.c4,.string d.nm,.int .i64 d.prio,.string d.owner,.string d.group,.int .i64 d.mode,.string d.res,.int .i64 d.calls,.int .i64 d.ticks,.slice h.a5 d.closed.length h.c5],.agg #[.int .i64 t.key,.string t.nm,.int .i64 t.op,.string t.val],.string v] w (DPost N (asgD d t v) w):=by
 have A:=Lh_ hkey;clear hkey;have HN:=Lh_ hN;have F1:=Lh_ hs;have HV:=Lh_ hv;have HT:=Lh_ ht;have HD:=Lh_ hd;have L2:=Lh_ hok;have H7:=Lh_ h7;clear hN hs hv ht hd hok h7;have Y1:=(zero_of_info (P:=Tryz.prog) (t:=30) info_draft2).1;go_enter Tryz.func57,Tryz.ntmps57;go_upto_region 1 with fail
 obtain ⟨R,U0,L,U,Z⟩:=bx_ w [.slice h.a0 d.props.length h.c0,.slice h.a1 d.tags.length h.c1,.slice h.a2 d.links.length h.c2,.slice h.a3 d.run.length h.c3,.slice h.a4 d.load.length h.c4,.string d.nm,.int .i64 d.prio,.string d.owner,.string d.group,.int .i64 d.mode,.string d.res,.int .i64 d.calls,.int .i64 d.ticks,.slice h.a5 d.closed.length h.c5] 30;try simp only [U0]
 have A2:=Lh_ (show w.heap.size≤R.heap.size from L.size);have H0:=Lh_ L;clear U0 L;try rw [← U.out]
 obtain ⟨O,V0,F,V,A0⟩:=bx_ R [.int .i64 t.key,.string t.nm,.int .i64 t.op,.string t.val] 35;try simp only [V0]
 have B2:=Lh_ (show R.heap.size≤O.heap.size from F.size);have I0:=tb_ H0 F;have U1:=kb_ Z F;clear V0 F;try rw [← V.out]
 obtain ⟨S,W0,D,W,K⟩:=bx_ O [.slice none 0 0,.slice none 0 0,.slice none 0 0,.slice none 0 0,.slice none 0 0,.string ByteArray.empty,.int .i64 0,.string ByteArray.empty,.string ByteArray.empty,.int .i64 0,.string ByteArray.empty,.int .i64 0,.int .i64 0,.slice none 0 0] 30;try simp only [W0]
 have C2:=Lh_ (show O.heap.size≤S.heap.size from D.size);have I:=tb_ I0 D;have C0:=kb_ U1 D;have F0:=kb_ A0 D;clear W0 D;try rw [← W.out]
 clear Y1;have HZ:=Lh_ (show w.heap.size<R.heap.size∧R.heap.size<O.heap.size∧O.heap.size<S.heap.size by have:=U.out;have:=V.out;have:=W.out;omega);have J:=Lh_ (show DFr (fun x=>N x∨x=w.heap.size∨x=R.heap.size∨x=O.heap.size) S d h from dfr_new HD.out I.out (fun x hx=>by have:=HZ.out;rcases hx with hx | rfl | rfl | rfl;exact .inl hx;exact .inr (Nat.le_refl _);exact .inr (by omega);exact .inr (by omega)));have E1:=Lh_ (show ∀ x,(fun x=>N x∨x=w.heap.size∨x=R.heap.size∨x=O.heap.size) x→x<S.heap.size from fun x hx=>by have:=HZ.out;rcases hx with h | h | h | h;(have:=HN.out x h;omega);omega;omega;omega);have H1:=Lh_ (Below.refl S.heap.size S);go_cut [7,8] (fun s7 s8 wx=>s7=.bool (validB v)∧s8=.bool (fullT v)∧wx=S)
 case first =>
  go_wp2_with fail;refine (RValid_any v _ (by have:=HV.out;unfold maxLen;omega)).mono ?_;rintro e w9 ⟨rfl,E⟩;rw [← E];clear E w9;obtain ⟨bn,hbn⟩:∃ z,validB v=z:=⟨_,rfl⟩;rw [hbn];have Q:=Lh_ hbn;clear hbn;go_wp2_with fail;refine (RText_any v _ (by have:=HV.out;unfold maxLen;omega)).mono ?_;rintro e w9 ⟨rfl,E⟩;rw [← E];clear E w9;obtain ⟨tx,htx⟩:∃ z,textB v=z:=⟨_,rfl⟩;rw [htx];have M0:=Lh_ htx;clear htx;cases tx
  ·
   go_wp2_with fail;go_meet;exact ⟨by rw [Q.out],by unfold fullT;rw [M0.out,Bool.and_false],rfl⟩
  by_cases hve:v.toList.isEmpty=true
  ·
   obtain ⟨p1,p2⟩:=empties hve;have Y:=Lh_ hve;clear hve;go_wp2_with fail;go_meet;exact ⟨by rw [Q.out],by unfold fullT;rw [Y.out];rfl,rfl⟩
  have M:v.toList.isEmpty=false:=by simpa using hve
  obtain ⟨p1,p2⟩:=empties M;have Y:=Lh_ M;clear hve M;go_wp2_with fail;go_meet;exact ⟨by rw [Q.out],by unfold fullT;rw [Y.out,M0.out];rfl,rfl⟩
 case rest =>
 obtain ⟨V1,W1,E⟩:=hcut;subst V1 W1;rw [E];clear E wc;obtain ⟨bn,hbn⟩:∃ z,validB v=z:=⟨_,rfl⟩;obtain ⟨bt,hbt⟩:∃ z,fullT v=z:=⟨_,rfl⟩;rw [hbn,hbt];have Q:=Lh_ hbn;have G0:=Lh_ hbt;clear hbn hbt;refine ‹∀ (a:Act) (w_1:World),Code.wp _ _ _ a w_1→_› _ _ ?_;refine wp_seq_k fun K2 hK2=>?_
 go_cut [] (fun wx=>Hid (AsgSt (fun x=>N x∨x=w.heap.size∨x=R.heap.size∨x=O.heap.size) w w.heap.size O.heap.size (asgD d t v) wx))
 case first =>
  have e6:(t.key == 6)=false:=by rw [A.out];rfl
  have e7:(t.key == 7)=false:=by rw [A.out];rfl
  have W2:(t.key == 15)=false:=by rw [A.out];rfl
  have X2:(t.key == 16)=false:=by rw [A.out];rfl
  have Y2:(t.key == 17)=false:=by rw [A.out];rfl
  have Z2:(t.key == 18)=false:=by rw [A.out];rfl
  have A3:(t.key == 19)=false:=by rw [A.out];rfl
  have B3:(t.key == 20)=false:=by rw [A.out];rfl
  have C3:(t.key == 21)=true:=by rw [A.out];rfl
  have X0:=A.out;have K0:=Lh_ (asg_21 (d:=d) (v:=v) X0);clear X0;cases bt
  ·
   have R0:=F0.out.1 0 _ rfl;go_wp2_with fail;go_meet;rw [K0.out,if_neg (by rw [G0.out];decide)];exact Lh_ ⟨h,I.out,C0.out,K.out,J.out⟩
  have D3:=J.out.2.2.2.2.1.1;have X1:=J.out.2.2.2.2.1.2.1;unfold maxLen at X1;have B0:=C0.out.1 4 _ rfl;have R0:=F0.out.1 0 _ rfl;go_wp2_with fail;go_wp2_with fail;refine (RPut_any h.a4 h.c4 d.load v 16 (fun x=>N x∨x=w.heap.size∨x=R.heap.size∨x=O.heap.size) S E1.out J.out.2.2.2.2.1 (by have:=F1.out.ol;omega) (by have:=HV.out;unfold maxLen;omega) (by omega)).mono ?_;rintro e w4 ⟨C,T,X,rfl,H⟩;clear B0 R0;have D2:=Lh_ (show S.heap.size≤w4.heap.size from C.size);have J0:=tb_ I C;have D0:=kb_ C0 C;have G3:=kb_ F0 C;have Z1:=kb_ K C;have B:=Lh_ (J.out.below C);have I1:=Lh_ (below_next H1.out C);clear C;have C1:=Lh_ H;clear H;have B0:=D0.out.1 4 _ rfl;have V2:=D0.out.2.1;go_wp2_with fail;go_meet;rw [K0.out,if_pos G0.out];exact Lh_ ⟨⟨h.a0,h.c0,h.a1,h.c1,h.a2,h.c2,h.a3,h.c3,T,X,h.a5,h.c5⟩,J0.out.setCell (Nat.le_refl _) _,D0.out.set_ (j:=4) (by show 4<14;omega) _,Z1.out.far (fun e=>by have:=HZ.out;omega) _,(show DFr _ _ _ _ from ⟨(B.out.set_ (.inr (.inl rfl)) 4 (.slice T (putT d.load v 16).length X)).1,(B.out.set_ (.inr (.inl rfl)) 4 (.slice T (putT d.load v 16).length X)).2.1,(B.out.set_ (.inr (.inl rfl)) 4 (.slice T (putT d.load v 16).length X)).2.2.1,(B.out.set_ (.inr (.inl rfl)) 4 (.slice T (putT d.load v 16).length X)).2.2.2.1,(C1.out.set_ (.inr (.inl rfl)) 4 (.slice T (putT d.load v 16).length X)),(B.out.set_ (.inr (.inl rfl)) 4 (.slice T (putT d.load v 16).length X)).2.2.2.2.2.1,(B.out.set_ (.inr (.inl rfl)) 4 (.slice T (putT d.load v 16).length X)).2.2.2.2.2.2⟩)⟩
 case rest =>
 obtain ⟨G,S0,E0,T0,H⟩:=hcut.out;obtain ⟨d6,hd6⟩:∃ z,asgD d t v=z:=⟨_,rfl⟩;rw [hd6] at E0 H;have B1:=Lh_ hd6;have Z0:=Lh_ S0;have A1:=Lh_ E0;have L0:=Lh_ T0;have D1:=Lh_ H;clear S0 E0 T0 H hd6 hcut;obtain ⟨M2,N2,O2,P2,B0,Q2,R2,S2,T2,U2,E2,F2,G2,H2⟩:=s14_ A1.out.1;obtain ⟨K1,L1,M1,N1,O1,P1,Q1,R1,S1,T1,N0,O0,P0,Q0⟩:=s14_ L0.out.1;have J1:=L0.out.2.1;go_wp2;refine bodyPost_ret (v:=.agg #[.slice G.a0 d6.props.length G.c0,.slice G.a1 d6.tags.length G.c1,.slice G.a2 d6.links.length G.c2,.slice G.a3 d6.run.length G.c3,.slice G.a4 d6.load.length G.c4,.string d6.nm,.int .i64 d6.prio,.string d6.owner,.string d6.group,.int .i64 d6.mode,.string d6.res,.int .i64 d6.calls,.int .i64 d6.ticks,.slice G.a5 d6.closed.length G.c5]) (by simp [results,Tryz.results57,go_sem,K1,L1,M1,N1,O1,P1,Q1,R1,S1,T1,N0,O0,P0,Q0,J1]) rfl ?_;rw [B1.out];exact DPost.fin (h:=G) Z0.out (by have:=HZ.out;omega) (fun _=>.inl) (.inr (.inr (.inr rfl))) D1.out _ _ _ _ _ _ _ _ _ _ _ _ _ _
set_option maxRecDepth 100000 in
set_option maxHeartbeats 8000000 in
theorem RAsg_k22 (d:Draft) (h:DH) (t:Term4) (v:ByteArray) (N:Nat→Prop) (w:World) (hN:∀ x,N x→x<w.heap.size) (hd:DFr N w d h) (hs:SoundD d) (ht:okT t) (hv:v.size≤1000) (hok:Ok w) (h7:Ok7 w) (hkey:t.key=22) :
  Calls Tryz.prog 57 #[.agg #[.slice h.a0 d.props.length h.c0,.slice h.a1 d.tags.length h.c1,.slice h.a2 d.links.length h.c2,.slice h.a3 d.run.length h.c3,.slice h.a4 d.load.length h.c4,.string d.nm,.int .i64 d.prio,.string d.owner,.string d.group,.int .i64 d.mode,.string d.res,.int .i64 d.calls,.int .i64 d.ticks,.slice h.a5 d.closed.length h.c5],.agg #[.int .i64 t.key,.string t.nm,.int .i64 t.op,.string t.val],.string v] w (DPost N (asgD d t v) w):=by
 have A:=Lh_ hkey;clear hkey;have HN:=Lh_ hN;have M2:=Lh_ hs;have HV:=Lh_ hv;have HT:=Lh_ ht;have HD:=Lh_ hd;have L2:=Lh_ hok;have H7:=Lh_ h7;clear hN hs hv ht hd hok h7;have V1:=(zero_of_info (P:=Tryz.prog) (t:=30) info_draft2).1;go_enter Tryz.func57,Tryz.ntmps57;go_upto_region 1 with fail
 obtain ⟨T,Q0,I,Q,Y⟩:=bx_ w [.slice h.a0 d.props.length h.c0,.slice h.a1 d.tags.length h.c1,.slice h.a2 d.links.length h.c2,.slice h.a3 d.run.length h.c3,.slice h.a4 d.load.length h.c4,.string d.nm,.int .i64 d.prio,.string d.owner,.string d.group,.int .i64 d.mode,.string d.res,.int .i64 d.calls,.int .i64 d.ticks,.slice h.a5 d.closed.length h.c5] 30;try simp only [Q0]
 have W1:=Lh_ (show w.heap.size≤T.heap.size from I.size);have D0:=Lh_ I;clear Q0 I;try rw [← Q.out]
 obtain ⟨M,R0,F,R,A0⟩:=bx_ T [.int .i64 t.key,.string t.nm,.int .i64 t.op,.string t.val] 35;try simp only [R0]
 have X1:=Lh_ (show T.heap.size≤M.heap.size from F.size);have E0:=tb_ D0 F;have Q1:=kb_ Y F;clear R0 F;try rw [← R.out]
 obtain ⟨U,S0,D,S,Z⟩:=bx_ M [.slice none 0 0,.slice none 0 0,.slice none 0 0,.slice none 0 0,.slice none 0 0,.string ByteArray.empty,.int .i64 0,.string ByteArray.empty,.string ByteArray.empty,.int .i64 0,.string ByteArray.empty,.int .i64 0,.int .i64 0,.slice none 0 0] 30;try simp only [S0]
 have Y1:=Lh_ (show M.heap.size≤U.heap.size from D.size);have H:=tb_ E0 D;have R1:=kb_ Q1 D;have V0:=kb_ A0 D;clear S0 D;try rw [← S.out]
 clear V1;have HZ:=Lh_ (show w.heap.size<T.heap.size∧T.heap.size<M.heap.size∧M.heap.size<U.heap.size by have:=Q.out;have:=R.out;have:=S.out;omega);have V:=Lh_ (show DFr (fun x=>N x∨x=w.heap.size∨x=T.heap.size∨x=M.heap.size) U d h from dfr_new HD.out H.out (fun x hx=>by have:=HZ.out;rcases hx with hx | rfl | rfl | rfl;exact .inl hx;exact .inr (Nat.le_refl _);exact .inr (by omega);exact .inr (by omega)));have J2:=Lh_ (show ∀ x,(fun x=>N x∨x=w.heap.size∨x=T.heap.size∨x=M.heap.size) x→x<U.heap.size from fun x hx=>by have:=HZ.out;rcases hx with h | h | h | h;(have:=HN.out x h;omega);omega;omega;omega);have B1:=Lh_ (Below.refl U.heap.size U);go_cut [7,8] (fun s7 s8 wx=>s7=.bool (validB v)∧s8=.bool (fullT v)∧wx=U)
 case first =>
  go_wp2_with fail;refine (RValid_any v _ (by have:=HV.out;unfold maxLen;omega)).mono ?_;rintro e w9 ⟨rfl,E⟩;rw [← E];clear E w9;obtain ⟨bn,hbn⟩:∃ z,validB v=z:=⟨_,rfl⟩;rw [hbn];have K:=Lh_ hbn;clear hbn;go_wp2_with fail;refine (RText_any v _ (by have:=HV.out;unfold maxLen;omega)).mono ?_;rintro e w9 ⟨rfl,E⟩;rw [← E];clear E w9;obtain ⟨tx,htx⟩:∃ z,textB v=z:=⟨_,rfl⟩;rw [htx];have I0:=Lh_ htx;clear htx;cases tx
  ·
   go_wp2_with fail;go_meet;exact ⟨by rw [K.out],by unfold fullT;rw [I0.out,Bool.and_false],rfl⟩
  by_cases hve:v.toList.isEmpty=true
  ·
   obtain ⟨p1,p2⟩:=empties hve;have X:=Lh_ hve;clear hve;go_wp2_with fail;go_meet;exact ⟨by rw [K.out],by unfold fullT;rw [X.out];rfl,rfl⟩
  have J:v.toList.isEmpty=false:=by simpa using hve
  obtain ⟨p1,p2⟩:=empties J;have X:=Lh_ J;clear hve J;go_wp2_with fail;go_meet;exact ⟨by rw [K.out],by unfold fullT;rw [X.out,I0.out];rfl,rfl⟩
 case rest =>
 obtain ⟨S1,T1,E⟩:=hcut;subst S1 T1;rw [E];clear E wc;obtain ⟨bn,hbn⟩:∃ z,validB v=z:=⟨_,rfl⟩;obtain ⟨bt,hbt⟩:∃ z,fullT v=z:=⟨_,rfl⟩;rw [hbn,hbt];have K:=Lh_ hbn;have G2:=Lh_ hbt;clear hbn hbt;refine ‹∀ (a:Act) (w_1:World),Code.wp _ _ _ a w_1→_› _ _ ?_;refine wp_seq_k fun K2 hK2=>?_
 go_cut [] (fun wx=>Hid (AsgSt (fun x=>N x∨x=w.heap.size∨x=T.heap.size∨x=M.heap.size) w w.heap.size M.heap.size (asgD d t v) wx))
 case first =>
  have e6:(t.key == 6)=false:=by rw [A.out];rfl
  have e7:(t.key == 7)=false:=by rw [A.out];rfl
  have X2:(t.key == 15)=false:=by rw [A.out];rfl
  have Y2:(t.key == 16)=false:=by rw [A.out];rfl
  have Z2:(t.key == 17)=false:=by rw [A.out];rfl
  have A3:(t.key == 18)=false:=by rw [A.out];rfl
  have B3:(t.key == 19)=false:=by rw [A.out];rfl
  have C3:(t.key == 20)=false:=by rw [A.out];rfl
  have D3:(t.key == 21)=false:=by rw [A.out];rfl
  have E3:(t.key == 22)=true:=by rw [A.out];rfl
  have T0:=A.out;have F0:=Lh_ (asg_22 (d:=d) (v:=v) T0);clear T0;have P1:=V0.out.1 0 _ rfl;go_wp2_with fail;skip
  refine (RPriority_any v _ (H7.out.below H.out)).mono ?_;rintro e w4 ⟨rfl,C⟩;clear P1;have Z1:=Lh_ (show U.heap.size≤w4.heap.size from C.size);have O:=tb_ H C;have L:=kb_ R1 C;have H3:=kb_ V0 C;have U0:=kb_ Z C;have B:=Lh_ (V.out.below C);have C1:=Lh_ (below_next B1.out C);clear C;cases hoc:prioT v with
  | none =>
   have W:=Lh_ hoc;clear hoc;have U1:(none:Option Int).isSome=false:=rfl;have P0:(none:Option Int).getD 0=0:=rfl;go_wp2_with fail;go_meet;rw [F0.out,W.out];exact Lh_ ⟨h,O.out,L.out,U0.out,B.out⟩
  | some n =>
   have W:=Lh_ hoc;have G0:=Lh_ (prio_range hoc);clear hoc;have U1:(some n:Option Int).isSome=true:=rfl;have P0:(some n:Option Int).getD 0=n:=rfl;have D1:=L.out.1 6 _ rfl;have W2:=L.out.2.1;go_wp2_with fail;go_meet;rw [F0.out,W.out];exact Lh_ ⟨h,O.out.setCell (Nat.le_refl _) _,L.out.set_ (j:=6) (by show 6<14;omega) _,U0.out.far (fun e=>by have:=HZ.out;omega) _,(show DFr _ _ _ _ from ⟨(B.out.set_ (.inr (.inl rfl)) 6 (.int .i64 n)).1,(B.out.set_ (.inr (.inl rfl)) 6 (.int .i64 n)).2.1,(B.out.set_ (.inr (.inl rfl)) 6 (.int .i64 n)).2.2.1,(B.out.set_ (.inr (.inl rfl)) 6 (.int .i64 n)).2.2.2.1,(B.out.set_ (.inr (.inl rfl)) 6 (.int .i64 n)).2.2.2.2.1,(B.out.set_ (.inr (.inl rfl)) 6 (.int .i64 n)).2.2.2.2.2.1,⟨V.out.2.2.2.2.2.2.1,okI_small (n:=n) (by have:=G0.out;omega) (by have:=G0.out;omega),V.out.2.2.2.2.2.2.2.2⟩⟩)⟩
 case rest =>
 obtain ⟨G,N0,B0,O0,C0⟩:=hcut.out;obtain ⟨d6,hd6⟩:∃ z,asgD d t v=z:=⟨_,rfl⟩;rw [hd6] at B0 C0;have Z0:=Lh_ hd6;have X0:=Lh_ N0;have Y0:=Lh_ B0;have H0:=Lh_ O0;have A1:=Lh_ C0;clear N0 B0 O0 C0 hd6 hcut;obtain ⟨N2,O2,P2,Q2,R2,S2,D1,T2,U2,V2,B2,C2,D2,E2⟩:=s14_ Y0.out.1;obtain ⟨F1,G1,H1,I1,J1,K1,L1,M1,N1,O1,J0,K0,L0,M0⟩:=s14_ H0.out.1;have E1:=H0.out.2.1;go_wp2;refine bodyPost_ret (v:=.agg #[.slice G.a0 d6.props.length G.c0,.slice G.a1 d6.tags.length G.c1,.slice G.a2 d6.links.length G.c2,.slice G.a3 d6.run.length G.c3,.slice G.a4 d6.load.length G.c4,.string d6.nm,.int .i64 d6.prio,.string d6.owner,.string d6.group,.int .i64 d6.mode,.string d6.res,.int .i64 d6.calls,.int .i64 d6.ticks,.slice G.a5 d6.closed.length G.c5]) (by simp [results,Tryz.results57,go_sem,F1,G1,H1,I1,J1,K1,L1,M1,N1,O1,J0,K0,L0,M0,E1]) rfl ?_;rw [Z0.out];exact DPost.fin (h:=G) X0.out (by have:=HZ.out;omega) (fun _=>.inl) (.inr (.inr (.inr rfl))) A1.out _ _ _ _ _ _ _ _ _ _ _ _ _ _
set_option maxRecDepth 100000 in
set_option maxHeartbeats 8000000 in
theorem RAsg_else (d:Draft) (h:DH) (t:Term4) (v:ByteArray) (N:Nat→Prop) (w:World) (hN:∀ x,N x→x<w.heap.size) (hd:DFr N w d h) (hs:SoundD d) (ht:okT t) (hv:v.size≤1000) (hok:Ok w) (h7:Ok7 w) (hkey:t.key≠6∧t.key≠7∧t.key≠15∧t.key≠16∧t.key≠17∧t.key≠18∧t.key≠19∧t.key≠20∧t.key≠21∧t.key≠22) :
  Calls Tryz.prog 57 #[.agg #[.slice h.a0 d.props.length h.c0,.slice h.a1 d.tags.length h.c1,.slice h.a2 d.links.length h.c2,.slice h.a3 d.run.length h.c3,.slice h.a4 d.load.length h.c4,.string d.nm,.int .i64 d.prio,.string d.owner,.string d.group,.int .i64 d.mode,.string d.res,.int .i64 d.calls,.int .i64 d.ticks,.slice h.a5 d.closed.length h.c5],.agg #[.int .i64 t.key,.string t.nm,.int .i64 t.op,.string t.val],.string v] w (DPost N (asgD d t v) w):=by
 have A:=Lh_ hkey;clear hkey;have HN:=Lh_ hN;have D2:=Lh_ hs;have HV:=Lh_ hv;have HT:=Lh_ ht;have HD:=Lh_ hd;have C2:=Lh_ hok;have H7:=Lh_ h7;clear hN hs hv ht hd hok h7;have G1:=(zero_of_info (P:=Tryz.prog) (t:=30) info_draft2).1;go_enter Tryz.func57,Tryz.ntmps57;go_upto_region 1 with fail
 obtain ⟨O,H0,F,K,R⟩:=bx_ w [.slice h.a0 d.props.length h.c0,.slice h.a1 d.tags.length h.c1,.slice h.a2 d.links.length h.c2,.slice h.a3 d.run.length h.c3,.slice h.a4 d.load.length h.c4,.string d.nm,.int .i64 d.prio,.string d.owner,.string d.group,.int .i64 d.mode,.string d.res,.int .i64 d.calls,.int .i64 d.ticks,.slice h.a5 d.closed.length h.c5] 30;try simp only [H0]
 have Q1:=Lh_ (show w.heap.size≤O.heap.size from F.size);have X:=Lh_ F;clear H0 F;try rw [← K.out]
 obtain ⟨I,I0,D,L,T⟩:=bx_ O [.int .i64 t.key,.string t.nm,.int .i64 t.op,.string t.val] 35;try simp only [I0]
 have R1:=Lh_ (show O.heap.size≤I.heap.size from D.size);have Y:=tb_ X D;have C1:=kb_ R D;clear I0 D;try rw [← L.out]
 obtain ⟨W,J0,B,M,S⟩:=bx_ I [.slice none 0 0,.slice none 0 0,.slice none 0 0,.slice none 0 0,.slice none 0 0,.string ByteArray.empty,.int .i64 0,.string ByteArray.empty,.string ByteArray.empty,.int .i64 0,.string ByteArray.empty,.int .i64 0,.int .i64 0,.slice none 0 0] 30;try simp only [J0]
 have S1:=Lh_ (show I.heap.size≤W.heap.size from B.size);have J:=tb_ Y B;have D1:=kb_ C1 B;have P1:=kb_ T B;clear J0 B;try rw [← M.out]
 clear G1;have HZ:=Lh_ (show w.heap.size<O.heap.size∧O.heap.size<I.heap.size∧I.heap.size<W.heap.size by have:=K.out;have:=L.out;have:=M.out;omega);have L0:=Lh_ (show DFr (fun x=>N x∨x=w.heap.size∨x=O.heap.size∨x=I.heap.size) W d h from dfr_new HD.out J.out (fun x hx=>by have:=HZ.out;rcases hx with hx | rfl | rfl | rfl;exact .inl hx;exact .inr (Nat.le_refl _);exact .inr (by omega);exact .inr (by omega)));have B2:=Lh_ (show ∀ x,(fun x=>N x∨x=w.heap.size∨x=O.heap.size∨x=I.heap.size) x→x<W.heap.size from fun x hx=>by have:=HZ.out;rcases hx with h | h | h | h;(have:=HN.out x h;omega);omega;omega;omega);have E2:=Lh_ (Below.refl W.heap.size W);go_cut [7,8] (fun s7 s8 wx=>s7=.bool (validB v)∧s8=.bool (fullT v)∧wx=W)
 case first =>
  go_wp2_with fail;refine (RValid_any v _ (by have:=HV.out;unfold maxLen;omega)).mono ?_;rintro e w9 ⟨rfl,C⟩;rw [← C];clear C w9;obtain ⟨bn,hbn⟩:∃ z,validB v=z:=⟨_,rfl⟩;rw [hbn];have H:=Lh_ hbn;clear hbn;go_wp2_with fail;refine (RText_any v _ (by have:=HV.out;unfold maxLen;omega)).mono ?_;rintro e w9 ⟨rfl,C⟩;rw [← C];clear C w9;obtain ⟨tx,htx⟩:∃ z,textB v=z:=⟨_,rfl⟩;rw [htx];have A0:=Lh_ htx;clear htx;cases tx
  ·
   go_wp2_with fail;go_meet;exact ⟨by rw [H.out],by unfold fullT;rw [A0.out,Bool.and_false],rfl⟩
  by_cases hve:v.toList.isEmpty=true
  ·
   obtain ⟨p1,p2⟩:=empties hve;have Q:=Lh_ hve;clear hve;go_wp2_with fail;go_meet;exact ⟨by rw [H.out],by unfold fullT;rw [Q.out];rfl,rfl⟩
  have G:v.toList.isEmpty=false:=by simpa using hve
  obtain ⟨p1,p2⟩:=empties G;have Q:=Lh_ G;clear hve G;go_wp2_with fail;go_meet;exact ⟨by rw [H.out],by unfold fullT;rw [Q.out,A0.out];rfl,rfl⟩
 case rest =>
 obtain ⟨E1,F1,C⟩:=hcut;subst E1 F1;rw [C];clear C wc;obtain ⟨bn,hbn⟩:∃ z,validB v=z:=⟨_,rfl⟩;obtain ⟨bt,hbt⟩:∃ z,fullT v=z:=⟨_,rfl⟩;rw [hbn,hbt];have H:=Lh_ hbn;have Y1:=Lh_ hbt;clear hbn hbt;refine ‹∀ (a:Act) (w_1:World),Code.wp _ _ _ a w_1→_› _ _ ?_;refine wp_seq_k fun K2 hK2=>?_
 go_cut [] (fun wx=>Hid (AsgSt (fun x=>N x∨x=w.heap.size∨x=O.heap.size∨x=I.heap.size) w w.heap.size I.heap.size (asgD d t v) wx))
 case first =>
  have k6:=A.out.1;have e6:(t.key == 6)=false:=by simpa using k6
  have k7:=A.out.2.1;have e7:(t.key == 7)=false:=by simpa using k7
  have H1:=A.out.2.2.1;have R2:(t.key == 15)=false:=by simpa using H1
  have I1:=A.out.2.2.2.1;have S2:(t.key == 16)=false:=by simpa using I1
  have J1:=A.out.2.2.2.2.1;have T2:(t.key == 17)=false:=by simpa using J1
  have K1:=A.out.2.2.2.2.2.1;have U2:(t.key == 18)=false:=by simpa using K1
  have L1:=A.out.2.2.2.2.2.2.1;have V2:(t.key == 19)=false:=by simpa using L1
  have M1:=A.out.2.2.2.2.2.2.2.1;have W2:(t.key == 20)=false:=by simpa using M1
  have N1:=A.out.2.2.2.2.2.2.2.2.1;have X2:(t.key == 21)=false:=by simpa using N1
  have O1:=A.out.2.2.2.2.2.2.2.2.2;have Y2:(t.key == 22)=false:=by simpa using O1
  have O0:=Lh_ (asg_o (d:=d) (v:=v) ⟨by omega,by omega,by omega,by omega,by omega,by omega,by omega,by omega,by omega,by omega⟩);have Q2:=P1.out.1 0 _ rfl;go_wp2_with fail;go_meet;rw [O0.out];exact Lh_ ⟨h,J.out,D1.out,S.out,L0.out⟩
 case rest =>
 obtain ⟨E,F0,U,G0,V⟩:=hcut.out;obtain ⟨d6,hd6⟩:∃ z,asgD d t v=z:=⟨_,rfl⟩;rw [hd6] at U V;have N0:=Lh_ hd6;have K0:=Lh_ F0;have M0:=Lh_ U;have Z:=Lh_ G0;have P0:=Lh_ V;clear F0 U G0 V hd6 hcut;obtain ⟨F2,G2,H2,I2,J2,L2,M2,N2,O2,P2,U1,V1,W1,X1⟩:=s14_ M0.out.1;obtain ⟨S0,T0,U0,V0,W0,X0,Y0,Z0,A1,B1,B0,C0,D0,E0⟩:=s14_ Z.out.1;have R0:=Z.out.2.1;go_wp2;refine bodyPost_ret (v:=.agg #[.slice E.a0 d6.props.length E.c0,.slice E.a1 d6.tags.length E.c1,.slice E.a2 d6.links.length E.c2,.slice E.a3 d6.run.length E.c3,.slice E.a4 d6.load.length E.c4,.string d6.nm,.int .i64 d6.prio,.string d6.owner,.string d6.group,.int .i64 d6.mode,.string d6.res,.int .i64 d6.calls,.int .i64 d6.ticks,.slice E.a5 d6.closed.length E.c5]) (by simp [results,Tryz.results57,go_sem,S0,T0,U0,V0,W0,X0,Y0,Z0,A1,B1,B0,C0,D0,E0,R0]) rfl ?_;rw [N0.out];exact DPost.fin (h:=E) K0.out (by have:=HZ.out;omega) (fun _=>.inl) (.inr (.inr (.inr rfl))) P0.out _ _ _ _ _ _ _ _ _ _ _ _ _ _
end Go.Proofs.YtjpoljlgkgmdkaaGreatDoor
namespace Go.Proofs.YtjpoljlgkgmdkaaGreatDoor
open Go.RowKit Go.Cold
theorem RAsg_any (d:Draft) (h:DH) (t:Term4) (v:ByteArray) (N:Nat→Prop) (w:World) (hN:∀ x,N x→x<w.heap.size) (hd:DFr N w d h) (hs:SoundD d) (ht:okT t) (hv:v.size≤1000) (hok:Ok w) (h7:Ok7 w) :
  Calls Tryz.prog 57 #[.agg #[.slice h.a0 d.props.length h.c0,.slice h.a1 d.tags.length h.c1,.slice h.a2 d.links.length h.c2,.slice h.a3 d.run.length h.c3,.slice h.a4 d.load.length h.c4,.string d.nm,.int .i64 d.prio,.string d.owner,.string d.group,.int .i64 d.mode,.string d.res,.int .i64 d.calls,.int .i64 d.ticks,.slice h.a5 d.closed.length h.c5],.agg #[.int .i64 t.key,.string t.nm,.int .i64 t.op,.string t.val],.string v] w (DPost N (asgD d t v) w):=by
 by_cases k6:t.key=6
 · exact RAsg_k6 d h t v N w hN hd hs ht hv hok h7 k6
 by_cases k7:t.key=7
 · exact RAsg_k7 d h t v N w hN hd hs ht hv hok h7 k7
 by_cases k15:t.key=15
 · exact RAsg_k15 d h t v N w hN hd hs ht hv hok h7 k15
 by_cases k16:t.key=16
 · exact RAsg_k16 d h t v N w hN hd hs ht hv hok h7 k16
 by_cases k17:t.key=17
 · exact RAsg_k17 d h t v N w hN hd hs ht hv hok h7 k17
 by_cases k18:t.key=18
 · exact RAsg_k18 d h t v N w hN hd hs ht hv hok h7 k18
 by_cases k19:t.key=19
 · exact RAsg_k19 d h t v N w hN hd hs ht hv hok h7 k19
 by_cases k20:t.key=20
 · exact RAsg_k20 d h t v N w hN hd hs ht hv hok h7 k20
 by_cases k21:t.key=21
 · exact RAsg_k21 d h t v N w hN hd hs ht hv hok h7 k21
 by_cases k22:t.key=22
 · exact RAsg_k22 d h t v N w hN hd hs ht hv hok h7 k22
 exact RAsg_else d h t v N w hN hd hs ht hv hok h7 ⟨k6,k7,k15,k16,k17,k18,k19,k20,k21,k22⟩
end Go.Proofs.YtjpoljlgkgmdkaaGreatDoor
