/-
  The walk of the editor's method assign of package assign.
-/
import Derived.Test.YtjpoljlgkgmdkaaGreatDoorMVH
import Derived.PinnedBridge
set_option linter.unusedSimpArgs false
set_option linter.unusedVariables false
namespace Go.Cold
open Go Go.RowKit Go.Proofs.YtjpoljlgkgmdkaaGreatDoor
open Go.Proofs hiding intOf
set_option maxRecDepth 100000 in
set_option maxHeartbeats 8000000 in
theorem assign_any (P:Nat→Prop) (base X:Nat) (d:Draft) (t:Term4) (v:ByteArray) (w:World) (he:EdQ 53 9 35 P w base X d) (hen:Env P w) (hpd:PreD d) (ht:okT t) (htag:t.key=7→t.op=3∨t.op=4∨t.op=5) (hv:v.size≤1000) :
  Calls Tryz.prog 36 #[.pointer (some ⟨X,0,none⟩),.agg #[.int .i64 t.key,.string t.nm,.int .i64 t.op,.string t.val],.string v] w (EPost 53 9 35 P base X (asgD d t v) w):=by
 obtain ⟨h,M0⟩:=he.open;have HO:=Lh_ M0;have H0:=Lh_ hpd;have HT:=Lh_ ht;have J0:=Lh_ htag;have Y:=Lh_ hv;have C0:=Lh_ hen;clear he M0 hpd ht htag hv hen;go_enter Tryz.func36,Tryz.ntmps36;have H:=Lh_ H0.out.snd;have Z:=Lh_ H0.out.ok;have I0:=Lh_ HT.out.2.1;have D0:=Lh_ (show v.size≤maxLen by have:=Y.out;unfold maxLen;omega);go_upto_region 1 with fail
 obtain ⟨w1,N0,W,G0,A⟩:=bx_ w [.int .i64 t.key,.string t.nm,.int .i64 t.op,.string t.val] 35;try simp only [N0]
 have D1:=Lh_ (show w.heap.size≤w1.heap.size from W.size);have S:=Lh_ W;have B:=Lh_ (EdO.below HO.out W);clear N0 W;try rw [← G0.out]
 by_cases k6:t.key=6
 ·
  have e6:(t.key == 6)=true:=by rw [k6];rfl
  by_cases o4:t.op=4
  ·
   have Y0:(t.op == 4)=true:=by rw [o4];rfl
   have D:=Lh_ (show asgD d t v=moreD d t.nm v from asgD_more H.out.pg t v k6 o4);have E:=A.out.1 0 _ rfl;have I:=A.out.1 1 _ rfl;have J:=A.out.1 2 _ rfl;go_wp2_with fail;refine (more_any P base X d t.nm v _ B.out.kq.2 H.out.ps (by have:=H.out.pl;omega) H.out.pg I0.out Y.out).mono ?_;rintro e w9 ⟨rfl,F⟩;have C:=Lh_ (EdO.seq B.out F);clear F;clear E I J;go_wp2;go_end0
   exact ⟨rfl,by rw [D.out];exact C.out⟩
  have Y0:(t.op == 4)=false:=by simpa using o4
  have D:=Lh_ (asgD_env (d:=d) t v k6 o4);have E:=A.out.1 0 _ rfl;have I:=A.out.1 1 _ rfl;have J:=A.out.1 2 _ rfl;go_wp2_with fail;refine (env_any P base X d t.nm v _ B.out.kq.2 H.out.ps (by have:=H.out.pl;omega) I0.out (by have:=Y.out;unfold maxLen;omega)).mono ?_;rintro e w9 ⟨rfl,F⟩;have C:=Lh_ (EdO.seq B.out F);clear F;clear E I J;go_wp2;go_end0
  exact ⟨rfl,by rw [D.out];exact C.out⟩
 have e6:(t.key == 6)=false:=by simpa using k6
 by_cases k7:t.key=7
 ·
  have e7:(t.key == 7)=true:=by rw [k7];rfl
  have D:=Lh_ (show asgD d t v=tagD d t.op v from asg_7 k7);have E:=A.out.1 0 _ rfl;have I:=A.out.1 1 _ rfl;have J:=A.out.1 2 _ rfl;go_wp2_with fail;refine (tag_any P base X d t.op v _ B.out.kq.2 H.out.ts (by have:=H.out.tl;omega) (by have:=Y.out;unfold maxLen;omega) (J0.out k7)).mono ?_;rintro e w9 ⟨rfl,F⟩;have C:=Lh_ (EdO.seq B.out F);clear F;clear E I J;go_wp2;go_end0
  exact ⟨rfl,by rw [D.out];exact C.out⟩
 have e7:(t.key == 7)=false:=by simpa using k7
 by_cases k15:t.key=15
 ·
  have P0:(t.key == 15)=true:=by rw [k15];rfl
  have G:=Lh_ (asg_15 (d:=d) (v:=v) k15);have E:=A.out.1 0 _ rfl;go_wp2_with fail;refine (Interface_any v _ (by have:=Y.out;unfold maxLen;omega)).mono ?_;rintro e w2 ⟨rfl,N⟩;clear E;have E1:=Lh_ (show w1.heap.size≤w2.heap.size from N.size);have Z0:=tb_ S N;have P1:=kb_ A N;have T:=Lh_ (EdO.below B.out N);clear N;obtain ⟨bv,h_⟩:∃ z,ifaceB v=z:=⟨_,rfl⟩;rw [h_];have M:=Lh_ h_;clear h_;cases bv
  case false =>
   have D:=Lh_ (show asgD d t v=d by rw [G.out,M.out];rfl);go_wp2;go_end0
   exact ⟨rfl,by rw [D.out];exact T.out.kq⟩
  have D:=Lh_ (show asgD d t v = { d with nm:=v } by rw [G.out,M.out];rfl);have K:=Z.out;have C:=Lh_ (EdK.f_nm (x:=v) T.out.kq ⟨D0.out,K.2⟩);clear K;have K1:=T.out.2.1.1 5 _ rfl;have E0:=T.out.2.1.2.1;go_wp2;go_end0
  exact ⟨rfl,by rw [D.out];exact C.out⟩
 have P0:(t.key == 15)=false:=by simpa using k15
 by_cases k16:t.key=16
 ·
  have Q0:(t.key == 16)=true:=by rw [k16];rfl
  have D:=Lh_ (show asgD d t v=lnkD d t.op v from asg_16 k16);have E:=A.out.1 0 _ rfl;have I:=A.out.1 1 _ rfl;have J:=A.out.1 2 _ rfl;go_wp2_with fail;refine (link_any P base X d t.op v _ B.out.kq.2 (C0.out.kp B.out.kq.1) H.out.ls H.out.ll Y.out).mono ?_;rintro e w9 ⟨rfl,F⟩;have C:=Lh_ (EdO.seq B.out F);clear F;clear E I J;go_wp2;go_end0
  exact ⟨rfl,by rw [D.out];exact C.out⟩
 have Q0:(t.key == 16)=false:=by simpa using k16
 by_cases k17:t.key=17
 ·
  have R0:(t.key == 17)=true:=by rw [k17];rfl
  have G:=Lh_ (asg_17 (d:=d) (v:=v) k17);have E:=A.out.1 0 _ rfl;go_wp2_with fail;refine (Valid_any v _ (by have:=Y.out;unfold maxLen;omega)).mono ?_;rintro e w3 ⟨rfl,O⟩;clear E;have F1:=Lh_ (show w1.heap.size≤w3.heap.size from O.size);have A1:=tb_ S O;have Q1:=kb_ A O;have U:=Lh_ (EdO.below B.out O);clear O;obtain ⟨bv,h_⟩:∃ z,validB v=z:=⟨_,rfl⟩;rw [h_];have M:=Lh_ h_;clear h_;cases bv
  case false =>
   have D:=Lh_ (show asgD d t v=d by rw [G.out,M.out];rfl);go_wp2;go_end0
   exact ⟨rfl,by rw [D.out];exact U.out.kq⟩
  have D:=Lh_ (show asgD d t v = { d with owner:=v } by rw [G.out,M.out];rfl);have K:=Z.out;have C:=Lh_ (EdK.f_owner (x:=v) U.out.kq ⟨K.1,K.2.1,D0.out,K.2.2.2⟩);clear K;have L1:=U.out.2.1.1 7 _ rfl;have E0:=U.out.2.1.2.1;go_wp2;go_end0
  exact ⟨rfl,by rw [D.out];exact C.out⟩
 have R0:(t.key == 17)=false:=by simpa using k17
 by_cases k18:t.key=18
 ·
  have S0:(t.key == 18)=true:=by rw [k18];rfl
  have G:=Lh_ (asg_18 (d:=d) (v:=v) k18);have E:=A.out.1 0 _ rfl;go_wp2_with fail;refine (Valid_any v _ (by have:=Y.out;unfold maxLen;omega)).mono ?_;rintro e w4 ⟨rfl,Q⟩;clear E;have G1:=Lh_ (show w1.heap.size≤w4.heap.size from Q.size);have B1:=tb_ S Q;have R1:=kb_ A Q;have V:=Lh_ (EdO.below B.out Q);clear Q;obtain ⟨bv,h_⟩:∃ z,validB v=z:=⟨_,rfl⟩;rw [h_];have M:=Lh_ h_;clear h_;cases bv
  case false =>
   have D:=Lh_ (show asgD d t v=d by rw [G.out,M.out];rfl);go_wp2;go_end0
   exact ⟨rfl,by rw [D.out];exact V.out.kq⟩
  have D:=Lh_ (show asgD d t v = { d with group:=v } by rw [G.out,M.out];rfl);have K:=Z.out;have C:=Lh_ (EdK.f_group (x:=v) V.out.kq ⟨K.1,K.2.1,K.2.2.1,D0.out,K.2.2.2.2⟩);clear K;have M1:=V.out.2.1.1 8 _ rfl;have E0:=V.out.2.1.2.1;go_wp2;go_end0
  exact ⟨rfl,by rw [D.out];exact C.out⟩
 have S0:(t.key == 18)=false:=by simpa using k18
 by_cases k19:t.key=19
 ·
  have T0:(t.key == 19)=true:=by rw [k19];rfl
  have D:=Lh_ (show asgD d t v=modeD d v from asg_19 k19);have E:=A.out.1 0 _ rfl;have I:=A.out.1 1 _ rfl;have J:=A.out.1 2 _ rfl;go_wp2_with fail;refine (mode_any P base X d v _ B.out.kq.2 Y.out (C0.out.kp B.out.kq.1).o7).mono ?_;rintro e w9 ⟨rfl,F⟩;have C:=Lh_ (EdO.seq B.out F);clear F;clear E I J;go_wp2;go_end0
  exact ⟨rfl,by rw [D.out];exact C.out⟩
 have T0:(t.key == 19)=false:=by simpa using k19
 by_cases k20:t.key=20
 ·
  have U0:(t.key == 20)=true:=by rw [k20];rfl
  have D:=Lh_ (show asgD d t v=runD d t.op v from asg_20 k20);have E:=A.out.1 0 _ rfl;have I:=A.out.1 1 _ rfl;have J:=A.out.1 2 _ rfl;go_wp2_with fail;refine (run_any P base X d t.op v _ B.out.kq.2 (by have:=H.out.rl;omega) Y.out).mono ?_;rintro e w9 ⟨rfl,F⟩;have C:=Lh_ (EdO.seq B.out F);clear F;clear E I J;go_wp2;go_end0
  exact ⟨rfl,by rw [D.out];exact C.out⟩
 have U0:(t.key == 20)=false:=by simpa using k20
 by_cases k21:t.key=21
 ·
  have V0:(t.key == 21)=true:=by rw [k21];rfl
  have G:=Lh_ (asg_21 (d:=d) (v:=v) k21);have E:=A.out.1 0 _ rfl;go_wp2_with fail;refine (full_any v _ (by have:=Y.out;unfold maxLen;omega)).mono ?_;rintro e w5 ⟨rfl,R⟩;clear E;have H1:=Lh_ (show w1.heap.size≤w5.heap.size from R.size);have C1:=tb_ S R;have S1:=kb_ A R;have L:=Lh_ (EdO.below B.out R);clear R;obtain ⟨bv,h_⟩:∃ z,fullT v=z:=⟨_,rfl⟩;rw [h_];have M:=Lh_ h_;clear h_;cases bv
  case false =>
   have D:=Lh_ (show asgD d t v=d by rw [G.out,M.out];rfl);go_wp2;go_end0
   exact ⟨rfl,by rw [D.out];exact L.out.kq⟩
  have D:=Lh_ (show asgD d t v = { d with load:=putT d.load v 16 } by rw [G.out,M.out];rfl);have K0:=L.out.2.1.1 4 _ rfl;go_wp2_with fail;refine (put_any base _ d.load v _ L.out.2.2.1.o4 H.out.os (by have:=H.out.ol;omega) (by have:=Y.out;unfold maxLen;omega) (Nat.le_of_lt (Nat.lt_of_le_of_lt L.out.2.2.1.bx L.out.2.2.1.xl))).mono ?_;rintro e w9 ⟨v9,rfl,B0,F0,L0⟩;obtain ⟨A9,c9,X0,-⟩:=B0.sl;subst X0;have A0:=L.out.2.1.kept F0 (fun e=>L.out.2.2.1.x4 e.symm);have C:=Lh_ (EdO.row4 L.out B0 F0 L0);clear K0;have K0:=A0.1 4 _ rfl;have E0:=A0.2.1;clear B0 A0 F0 L0;go_wp2;go_end0
  exact ⟨rfl,by rw [D.out];exact C.out⟩
 have V0:(t.key == 21)=false:=by simpa using k21
 by_cases k22:t.key=22
 ·
  have W0:(t.key == 22)=true:=by rw [k22];rfl
  have D:=Lh_ (show asgD d t v=prioD d v from asg_22 k22);have E:=A.out.1 0 _ rfl;have I:=A.out.1 1 _ rfl;have J:=A.out.1 2 _ rfl;go_wp2_with fail;refine (prio_any P base X d v _ B.out.kq.2 Y.out (C0.out.kp B.out.kq.1).o7).mono ?_;rintro e w9 ⟨rfl,F⟩;have C:=Lh_ (EdO.seq B.out F);clear F;clear E I J;go_wp2;go_end0
  exact ⟨rfl,by rw [D.out];exact C.out⟩
 have W0:(t.key == 22)=false:=by simpa using k22
 have D:=Lh_ (asg_o (d:=d) (v:=v) ⟨k6,k7,k15,k16,k17,k18,k19,k20,k21,k22⟩);have E:=A.out.1 0 _ rfl;go_wp2;go_end0
 exact ⟨rfl,by rw [D.out];exact B.out.kq⟩
theorem info_term2:(Tryz.prog.info? 35).map (fun i=>(i.zero,i.size))=some (some (.agg #[.int .i64 0,.string ByteArray.empty,.int .i64 0,.string ByteArray.empty]),4):=by kernel_rfl
theorem apply1_any (c t:Term4) (y:Nat) (w:World) (h0:w.cell? ⟨y,0,none⟩=some (.int .i64 t.key)) (h1:w.cell? ⟨y,1,none⟩=some (.string t.nm)) :
  Calls Tryz.prog 35 #[.agg #[.int .i64 c.key,.string c.nm,.int .i64 c.op,.string c.val],.pointer (some ⟨y,0,none⟩)] w fun e w'=>e=.returned (.bool (decide (c.key=t.key) && decide (c.nm=t.nm)))∧Below w.heap.size w w':=by
 have E:y<w.heap.size:=block_lt_of_cell h0;go_enter Tryz.func35,Tryz.ntmps35;go_upto_region 1 with fail
 obtain ⟨w1,hw1⟩:∃ w1,w.alloc (.cells #[.int .i64 c.key,.string c.nm,.int .i64 c.op,.string c.val] 35)=w1:=⟨_,rfl⟩;have A:Below w.heap.size w w1:=by rw [← hw1];exact (Below.refl _ _).alloc (Nat.le_refl _) _
 have G:=Lh_ (show BoxL w1 w.heap.size [.int .i64 c.key,.string c.nm,.int .i64 c.op,.string c.val] from box_mk hw1);have I:=G.out.1 0 _ rfl;have J:=G.out.1 1 _ rfl;have K:w1.cell? ⟨y,0,none⟩=some (.int .i64 t.key):=(A.cell (p:=⟨y,0,none⟩) E).trans h0;have L:w1.cell? ⟨y,1,none⟩=some (.string t.nm):=(A.cell (p:=⟨y,1,none⟩) E).trans h1;have F:=Lh_ A;simp only [hw1];clear hw1 A h0 h1 E;by_cases hk:c.key=t.key
 ·
  have C:(c.key == t.key)=true:=by rw [hk];simp
  have B:=Lh_ (show decide (c.key=t.key)=true from decide_eq_true hk);clear hk;have D:=ba_beq c.nm t.nm;obtain ⟨bn,hbn⟩:∃ z,decide (c.nm=t.nm)=z:=⟨_,rfl⟩;rw [hbn] at D;have H:=Lh_ hbn;clear hbn;go_wp2;go_ret;exact ⟨by rw [B.out,Bool.true_and,H.out];rfl,F.out⟩
 have C:(c.key == t.key)=false:=by simpa using hk
 have B:=Lh_ (show decide (c.key=t.key)=false from decide_eq_false hk);clear hk;go_wp2;go_ret;exact ⟨by rw [B.out,Bool.false_and];rfl,F.out⟩
theorem apply1_pred (t:Term4) (y B:Nat) (w:World) (cs:List Value) (hy:BoxL w y (.int .i64 t.key :: .string t.nm :: cs)):PredM 35 #[.pointer (some ⟨y,0,none⟩)] w B (fun _=>True) (fun c=>decide (c.key=t.key) && decide (c.nm=t.nm)) where
 enters:=enters_of Tryz.func35 (by kernel_rfl) rfl
 gives c W _ _ hW:=by
  have A:=hy.kept (grown_none hW) (fun e=>by cases e);exact apply1_any c t y W (A.1 0 _ rfl) (A.1 1 _ rfl)
set_option maxRecDepth 100000 in
set_option maxHeartbeats 8000000 in
theorem Apply_any (d:Draft) (h:DH) (t:Term4) (v:ByteArray) (N:Nat→Prop) (w:World) (hN:∀ x,N x→x<w.heap.size) (hd:DFr N w d h) (hp:PreD d) (ht:okT t) (htag:t.key=7→t.op=3∨t.op=4∨t.op=5) (hv:v.size≤1000) (hok:Ok w) (h7:Ok7 w) :
  Calls Tryz.prog 14 #[.agg #[.slice h.a0 d.props.length h.c0,.slice h.a1 d.tags.length h.c1,.slice h.a2 d.links.length h.c2,.slice h.a3 d.run.length h.c3,.slice h.a4 d.load.length h.c4,.string d.nm,.int .i64 d.prio,.string d.owner,.string d.group,.int .i64 d.mode,.string d.res,.int .i64 d.calls,.int .i64 d.ticks,.slice h.a5 d.closed.length h.c5],.agg #[.int .i64 t.key,.string t.nm,.int .i64 t.op,.string t.val],.string v] w (DPost N (applyD d t v) w):=by
 have HN:=Lh_ hN;have L:=Lh_ hp;have HV:=Lh_ hv;have HT:=Lh_ ht;have M2:=Lh_ htag;have HD:=Lh_ hd;have W3:=Lh_ hok;have H7:=Lh_ h7;clear hN hp hv ht htag hd hok h7;have O4:=(zero_of_info (P:=Tryz.prog) (t:=30) info_draft2).1;have N4:=(zero_of_info (P:=Tryz.prog) (t:=35) info_term2).1;go_enter Tryz.func14,Tryz.ntmps14;go_upto_region 1 with fail
 obtain ⟨w1,I3,C0,F1,T1⟩:=bx_ w [.slice h.a0 d.props.length h.c0,.slice h.a1 d.tags.length h.c1,.slice h.a2 d.links.length h.c2,.slice h.a3 d.run.length h.c3,.slice h.a4 d.load.length h.c4,.string d.nm,.int .i64 d.prio,.string d.owner,.string d.group,.int .i64 d.mode,.string d.res,.int .i64 d.calls,.int .i64 d.ticks,.slice h.a5 d.closed.length h.c5] 30;try simp only [I3]
 have I2:=Lh_ C0;have X4:=Lh_ (show w.heap.size≤w1.heap.size from C0.size);have D2:=Lh_ C0;clear I3 C0;try rw [← F1.out]
 obtain ⟨w2,J3,W,G1,V1⟩:=bx_ w1 [.int .i64 t.key,.string t.nm,.int .i64 t.op,.string t.val] 35;try simp only [J3]
 have J2:=Lh_ W;have Y4:=Lh_ (show w1.heap.size≤w2.heap.size from W.size);have E2:=tb_ D2 W;have K4:=kb_ T1 W;clear J3 W;try rw [← G1.out]
 obtain ⟨w3,K3,I,H1,U1⟩:=bx_ w2 [.slice none 0 0,.slice none 0 0,.slice none 0 0,.slice none 0 0,.slice none 0 0,.string ByteArray.empty,.int .i64 0,.string ByteArray.empty,.string ByteArray.empty,.int .i64 0,.string ByteArray.empty,.int .i64 0,.int .i64 0,.slice none 0 0] 30;try simp only [K3]
 have K2:=Lh_ I;have Z4:=Lh_ (show w2.heap.size≤w3.heap.size from I.size);have D1:=tb_ E2 I;have B3:=kb_ K4 I;have S4:=kb_ V1 I;clear K3 I;try rw [← H1.out]
 have HZ:=Lh_ (show w.heap.size<w1.heap.size∧w1.heap.size<w2.heap.size∧w2.heap.size<w3.heap.size by have:=F1.out;have:=G1.out;have:=H1.out;omega);have O3:=Lh_ (HD.out.sl.next (Nat.le_refl _) D1.out);have R3:=Lh_ (show lensD d from by have:=L.out.snd.pl;have:=L.out.snd.tl;have:=L.out.snd.ll;have:=L.out.snd.rl;have:=L.out.snd.ol;have:=L.out.cl;exact ⟨by omega,by omega,by omega,by omega,by omega,by omega⟩);obtain ⟨Y3,Z3,A4,B4,C4,D4,E4,F4,G4,H4,N2,O2,P2,Q2⟩:=s14_ B3.out.1;go_wp2_with fail;refine (edit_any d h w3 O3.out R3.out).mono ?_;rintro e w4 ⟨J,X,rfl,H3⟩;clear Y3 Z3 A4 B4 C4 D4 E4 F4 G4 H4 N2 O2 P2 Q2;have A5:=Lh_ (show w3.heap.size≤w4.heap.size from J.size);have F2:=tb_ D1 J;have L4:=kb_ B3 J;have B2:=kb_ S4 J;have Q4:=kb_ U1 J;clear J;have P3:=Lh_ H3;clear H3;have Y1:=B2.out.1 0 _ rfl;have Z1:=B2.out.1 1 _ rfl;go_upto_region 3 with fail
 obtain ⟨w5,L3,E,I1,W1⟩:=bx_ w4 [.int .i64 t.key,.string t.nm,.int .i64 0,.string ByteArray.empty] 35;try simp only [L3]
 have I0:=Lh_ E;have B5:=Lh_ (show w4.heap.size≤w5.heap.size from E.size);have E1:=tb_ F2 E;have K5:=kb_ L4 E;have T4:=kb_ B2 E;have R4:=kb_ Q4 E;clear L3 E;try rw [← I1.out]
 clear Y1 Z1;clear O4 N4;have G3:=P3.out.more I0.out (Q:=(fun q=>q<w3.heap.size∨q=w4.heap.size)) (fun q hq=>hq.elim .inl (fun e=>.inr (by subst e;exact ⟨Nat.le_refl _,by have:=I1.out;omega⟩)));obtain ⟨k,E3⟩:=G3.open;have HO:=Lh_ E3;clear G3 E3;have S1:=Lh_ R4.out;have L2:=Lh_ T4.out;have X1:=Lh_ W1.out;have X0:=Lh_ E1.out;have Q3:=Lh_ (show Env (fun q=>q<w3.heap.size∨q=w4.heap.size) w5 from ⟨w,W3.out,H7.out,X0.out,fun q hq=>.inl (by have:=HZ.out;omega)⟩);have H:=HO.out.2.1.1 13 _ rfl;go_wp2_with fail;refine (ContainsFuncM_any k.a5 k.c5 d.closed 35 #[.pointer (some ⟨w4.heap.size,0,none⟩)] (fun _=>True) (fun c=>decide (c.key=t.key) && decide (c.nm=t.nm)) w5 w5.heap.size (Nat.le_refl _) HO.out.2.2.2.2.2.2.2.2.2.1 (apply1_pred t w4.heap.size w5.heap.size w5 _ X1.out) (fun _ _=>trivial)).mono ?_;rintro e w6 ⟨rfl,D0⟩;clear H;have C5:=Lh_ (show w5.heap.size≤w6.heap.size from D0.size);have V4:=tb_ E1 D0;have G:=Lh_ (EdO.below HO.out D0);clear D0;obtain ⟨bc,hbc⟩:∃ z,(d.closed.any fun c=>decide (c.key=t.key) && decide (c.nm=t.nm))=z:=⟨_,rfl⟩;rw [hbc];have O1:=Lh_ (show closedB d t=bc from hbc);clear hbc;cases bc
 case true =>
  have F:=(G.out.kq).1;obtain ⟨A,V,Y⟩:=(G.out.kq).2.free (N:=(fun x=>N x∨x=w2.heap.size)) (fun x hx=>by have:=HZ.out;rcases hx with q | q;(have:=HN.out x q;omega);omega);have J0:=Lh_ (show BoxL w6 X (drV d A) from V);have G0:=Lh_ Y;have M:=Lh_ (S1.out.kp F (.inl (by have:=HZ.out;omega)));have F0:=Lh_ (X0.out.trans ((F.below (fun q hq=>.inl hq)).mono (by have:=HZ.out;omega)));clear V Y F;obtain ⟨R2,S2,T2,U2,V2,W2,X2,Y2,Z2,A3,J1,K1,L1,H⟩:=s14_ J0.out.1;obtain ⟨L0,M0,N0,O0,P0,Q0,R0,S0,T0,U0,O,R,T,U⟩:=s14_ M.out.1;have K0:=M.out.2.1;go_wp2;refine bodyPost_ret (v:=.agg #[.slice A.a0 d.props.length A.c0,.slice A.a1 d.tags.length A.c1,.slice A.a2 d.links.length A.c2,.slice A.a3 d.run.length A.c3,.slice A.a4 d.load.length A.c4,.string d.nm,.int .i64 d.prio,.string d.owner,.string d.group,.int .i64 d.mode,.string d.res,.int .i64 d.calls,.int .i64 d.ticks,.slice A.a5 d.closed.length A.c5]) (by simp [results,Tryz.results14,go_sem,L0,M0,N0,O0,P0,Q0,R0,S0,T0,U0,O,R,T,U,K0]) rfl ?_;rw [apply_closed O1.out];exact DPost.fin (h:=A) F0.out (by have:=HZ.out;omega) (fun _=>.inl) (.inr rfl) G0.out _ _ _ _ _ _ _ _ _ _ _ _ _ _
 have V0:=L2.out.kp G.out.1 (.inl (by have:=HZ.out;omega));obtain ⟨Y1,Z1,Z0,J4⟩:=s4_ V0.1;clear V0;go_wp2_with fail;refine (assign_any (fun q=>q<w3.heap.size∨q=w4.heap.size) w3.heap.size X d t v w6 G.out.kq.2 (Q3.out.kp G.out.1) L.out HT.out M2.out HV.out).mono ?_;rintro e w7 ⟨rfl,A2⟩;obtain ⟨d1,hd1⟩:∃ z,asgD d t v=z:=⟨_,rfl⟩;rw [hd1] at A2;have P1:=Lh_ hd1;have C3:=EdO.seq G.out A2;obtain ⟨k7,F3⟩:=C3.open;have Y0:=Lh_ F3;clear Y1 Z1 Z0 J4 A2 C3 F3 hd1;have V0:=L2.out.kp Y0.out.1 (.inl (by have:=HZ.out;omega));have Z0:=V0.1 2 _ rfl;clear V0;by_cases o6:t.op=6
 ·
  have P4:(t.op == 6)=true:=by rw [o6];rfl
  have R1:=Lh_ o6;clear o6;go_upto_region 7 with fail
  clear Z0;refine wp_region_held_late (S:=fun w'=>BoxL w' X (drV d1 k7)∧BoxL w' w4.heap.size [.int .i64 t.key,.string t.nm,.int .i64 0,.string ByteArray.empty]) (late:=fun i=>decide (12≤i)) (by kernel_rfl) ?_;obtain ⟨wd,hwd⟩:∃ z,World.drew w7=z:=⟨_,rfl⟩;rw [hwd];have B1:Below w7.heap.size w7 wd:=by rw [← hwd];exact below_drewN_self _ _ 1
  clear hwd;have E5:=Lh_ (show w7.heap.size≤wd.heap.size from B1.size);have G2:=Lh_ B1;have H0:=Lh_ (EdO.below Y0.out B1);clear B1;have B:=Lh_ (show BoxL wd X (drV d1 k7)∧BoxL wd w4.heap.size [.int .i64 t.key,.string t.nm,.int .i64 0,.string ByteArray.empty] from ⟨H0.out.2.1,X1.out.kp H0.out.1 (.inr rfl)⟩);refine tkL 0 34 (.pointer (some ⟨X,0,none⟩)) rfl (fun w' hS=>by go_simp) B.out ?_;try simp only [zP,zA,zB,zC]
  refine tkL 1 35 (.pointer (some ⟨X,0,none⟩)) rfl (fun w' hS=>by go_simp) B.out ?_;try simp only [zP,zA,zB,zC]
  refine tkL 2 36 (.pointer (some ⟨X,0,none⟩)) rfl (fun w' hS=>by go_simp) B.out ?_;try simp only [zP,zA,zB,zC]
  refine tkL 3 37 (.pointer (some ⟨X,0,none⟩)) rfl (fun w' hS=>by go_simp) B.out ?_;try simp only [zP,zA,zB,zC]
  refine tkL 4 38 (.pointer (some ⟨X,13,none⟩)) rfl (fun w' hS=>by go_simp) B.out ?_;try simp only [zP,zA,zB,zC]
  refine tkL 5 39 (.slice k7.a5 d1.closed.length k7.c5) rfl (fun w' hS=>by (have U4:=hS.1.1 13 _ rfl;go_simp)) B.out ?_;try simp only [zP,zA,zB,zC]
  refine tkL 6 40 (.agg #[.int .i64 t.key,.string t.nm,.int .i64 0,.string ByteArray.empty]) rfl (fun w' hS=>by (have U4:=hS.2.1 0 _ rfl;have L5:=hS.2.1 1 _ rfl;have M5:=hS.2.1 2 _ rfl;have N5:=hS.2.1 3 _ rfl;go_simp)) B.out ?_;try simp only [zP,zA,zB,zC]
  refine rdL 7 (o:=⟨some 41,.buildSlice _ _ _,_,_,_,_⟩) rfl (fun K hK=>?_);go_simp;obtain ⟨w8,hw8⟩:∃ z,wd.alloc (.cells #[.int .i64 t.key,.string t.nm,.int .i64 0,.string ByteArray.empty] 35)=z:=⟨_,rfl⟩;have A1:Below wd.heap.size wd w8:=by rw [← hw8];exact (Below.refl _ _).alloc (Nat.le_refl _) _
  have S3:=Lh_ (show BoxL w8 wd.heap.size [.int .i64 t.key,.string t.nm,.int .i64 0,.string ByteArray.empty] from box_mk hw8);try rw [hw8]
  clear hw8;have D5:=Lh_ (show wd.heap.size≤w8.heap.size from A1.size);have W4:=tb_ G2 A1;have D:=Lh_ (EdO.below H0.out A1);clear A1;have Z:=Lh_ (show BoxL w8 X (drV d1 k7)∧BoxL w8 w4.heap.size [.int .i64 t.key,.string t.nm,.int .i64 0,.string ByteArray.empty] from ⟨D.out.2.1,X1.out.kp D.out.1 (.inr rfl)⟩);refine hK.out _ _ (fun _=>Z.out) ?_;clear hK K;try simp only [zP,zA,zB,zC]
  refine rdL 8 (o:=⟨some 42,.call ⟨_,_,_⟩,_,_,_,_⟩) rfl (fun K hK=>?_);have H2:=Lh_ (show d1.closed.length≤100000 by rw [← P1.out,asg_closed];exact L.out.cl);refine step_app rfl _ _ rfl (.slice k7.a5 d1.closed.length k7.c5) (.slice (some ⟨wd.heap.size,0,none⟩) 1 1) (by simp [Act.eval,Act.put]) (by simp [Act.eval,Act.put]) (run_app1 E_term _ (.slice k7.a5 d1.closed.length k7.c5) d1.closed D.out.2.2.1.o5 wd.heap.size (⟨t.key,t.nm,0,ByteArray.empty⟩:Term4) [.int .i64 t.key,.string t.nm,.int .i64 0,.string ByteArray.empty] S3.out.1 ⟨rfl,HT.out.1,HT.out.2.1,okI_small (n:=0) (by decide) (by decide),by show ByteArray.empty.size≤maxLen;decide⟩ (by have:=H2.out;unfold maxLen;omega) (by have:=H2.out;omega) (Nat.le_of_lt (Nat.lt_of_le_of_lt D.out.2.2.1.bx D.out.2.2.1.xl))) ?_;rintro v9 w9 ⟨E0,C1,D3⟩;obtain ⟨nl,hnl⟩:∃ z,d1.closed ++ [(⟨t.key,t.nm,0,ByteArray.empty⟩:Term4)]=z:=⟨_,rfl⟩;rw [hnl] at E0;have U3:=Lh_ hnl;clear hnl;obtain ⟨A9,c9,M4,-⟩:=E0.sl;subst M4;have B0:=Lh_ (EdO.row5 D.out E0 C1 D3);have C:=Lh_ (show BoxL w9 X (drV d1 k7)∧BoxL w9 w4.heap.size [.int .i64 t.key,.string t.nm,.int .i64 0,.string ByteArray.empty] from ⟨Z.out.1.kept C1 (fun e=>D.out.2.2.1.x5 e.symm),Z.out.2.kept C1 (fun e=>D.out.2.2.2.1.q5 _ e.symm (.inr rfl))⟩);clear E0 C1 D3;refine hK.out _ _ (fun _=>C.out) ?_;clear hK K;try simp only [zP,zA,zB,zC]
  refine rdL 9 (o:=⟨some 43,.nilCheck _,_,_,_,_⟩) rfl (fun K hK=>?_);go_simp;refine hK.out _ _ (fun _=>C.out) ?_;clear hK K;try simp only [zP,zA,zB,zC]
  refine rdL 10 (o:=⟨some 44,.fieldAddr _ _ _,_,_,_,_⟩) rfl (fun K hK=>?_);go_simp;refine hK.out _ _ (fun _=>C.out) ?_;clear hK K;try simp only [zP,zA,zB,zC]
  refine rdL 11 (o:=⟨some 45,.fieldAddr _ _ _,_,_,_,_⟩) rfl (fun K hK=>?_);go_simp;refine hK.out _ _ (fun _=>C.out) ?_;clear hK K;try simp only [zP,zA,zB,zC]
  refine rdL 12 (o:=⟨none,.store _ _ _,_,_,_,_⟩) rfl (fun K hK=>?_);have H:=C.out.1.1 13 _ rfl;have I4:=C.out.1.2.1;go_simp;clear H I4;obtain ⟨w50,hw50⟩:∃ z,w9.setCell ⟨X,13,none⟩ (.slice A9 nl.length c9)=z:=⟨_,rfl⟩;rw [hw50] at B0 ⊢;clear hw50;refine hK.out _ _ (fun h_=>by cases h_) ?_;clear hK K;try simp only [zP,zA,zB,zC]
  refine wpAnyHL_done (by kernel_rfl) ?_ _;obtain ⟨d2,hd2⟩:∃ z,({ d1 with closed:=nl }:Draft)=z:=⟨_,rfl⟩;rw [hd2] at B0;have N3:=Lh_ hd2;clear hd2;have Q1:=Lh_ (show applyD d t v=d2 by rw [apply_open O1.out,P1.out,close_yes R1.out,← N3.out,← U3.out]);have F:=(B0.out).1;obtain ⟨A,V,Y⟩:=(B0.out).2.free (N:=(fun x=>N x∨x=w2.heap.size)) (fun x hx=>by have:=HZ.out;rcases hx with q | q;(have:=HN.out x q;omega);omega);have J0:=Lh_ (show BoxL w50 X (drV d2 A) from V);have G0:=Lh_ Y;have M:=Lh_ (S1.out.kp F (.inl (by have:=HZ.out;omega)));have F0:=Lh_ (X0.out.trans ((F.below (fun q hq=>.inl hq)).mono (by have:=HZ.out;omega)));clear V Y F;obtain ⟨R2,S2,T2,U2,V2,W2,X2,Y2,Z2,A3,J1,K1,L1,H⟩:=s14_ J0.out.1;obtain ⟨L0,M0,N0,O0,P0,Q0,R0,S0,T0,U0,O,R,T,U⟩:=s14_ M.out.1;have K0:=M.out.2.1;go_wp2;refine bodyPost_ret (v:=.agg #[.slice A.a0 d2.props.length A.c0,.slice A.a1 d2.tags.length A.c1,.slice A.a2 d2.links.length A.c2,.slice A.a3 d2.run.length A.c3,.slice A.a4 d2.load.length A.c4,.string d2.nm,.int .i64 d2.prio,.string d2.owner,.string d2.group,.int .i64 d2.mode,.string d2.res,.int .i64 d2.calls,.int .i64 d2.ticks,.slice A.a5 d2.closed.length A.c5]) (by simp [results,Tryz.results14,go_sem,L0,M0,N0,O0,P0,Q0,R0,S0,T0,U0,O,R,T,U,K0]) rfl ?_;rw [Q1.out];exact DPost.fin (h:=A) F0.out (by have:=HZ.out;omega) (fun _=>.inl) (.inr rfl) G0.out _ _ _ _ _ _ _ _ _ _ _ _ _ _
 have P4:(t.op == 6)=false:=by simpa using o6
 have R1:=Lh_ o6;clear o6;go_upto_region 8 with fail
 clear Z0;have Q1:=Lh_ (show applyD d t v=d1 by rw [apply_open O1.out,P1.out,close_no R1.out]);have F:=(Y0.out.kq).1;obtain ⟨A,V,Y⟩:=(Y0.out.kq).2.free (N:=(fun x=>N x∨x=w2.heap.size)) (fun x hx=>by have:=HZ.out;rcases hx with q | q;(have:=HN.out x q;omega);omega);have J0:=Lh_ (show BoxL w7 X (drV d1 A) from V);have G0:=Lh_ Y;have M:=Lh_ (S1.out.kp F (.inl (by have:=HZ.out;omega)));have F0:=Lh_ (X0.out.trans ((F.below (fun q hq=>.inl hq)).mono (by have:=HZ.out;omega)));clear V Y F;obtain ⟨R2,S2,T2,U2,V2,W2,X2,Y2,Z2,A3,J1,K1,L1,H⟩:=s14_ J0.out.1;obtain ⟨L0,M0,N0,O0,P0,Q0,R0,S0,T0,U0,O,R,T,U⟩:=s14_ M.out.1;have K0:=M.out.2.1;go_wp2;refine bodyPost_ret (v:=.agg #[.slice A.a0 d1.props.length A.c0,.slice A.a1 d1.tags.length A.c1,.slice A.a2 d1.links.length A.c2,.slice A.a3 d1.run.length A.c3,.slice A.a4 d1.load.length A.c4,.string d1.nm,.int .i64 d1.prio,.string d1.owner,.string d1.group,.int .i64 d1.mode,.string d1.res,.int .i64 d1.calls,.int .i64 d1.ticks,.slice A.a5 d1.closed.length A.c5]) (by simp [results,Tryz.results14,go_sem,L0,M0,N0,O0,P0,Q0,R0,S0,T0,U0,O,R,T,U,K0]) rfl ?_;rw [Q1.out];exact DPost.fin (h:=A) F0.out (by have:=HZ.out;omega) (fun _=>.inl) (.inr rfl) G0.out _ _ _ _ _ _ _ _ _ _ _ _ _ _
set_option maxRecDepth 100000 in
set_option maxHeartbeats 4000000 in
theorem SameTerms_same (A B:Option Addr) (c d:Nat) (xs:List Term4) (w:World) (b1 b2:Nat) (hx:Sl w b1 A c xs) (hy:Sl w b2 B d xs) :
  Calls Tryz.prog 39 #[.slice A xs.length c,.slice B xs.length d] w fun e w'=>e=.returned (.bool true)∧∃ n,w'=w.drewN n:=by
 have R:=hx.1;have I:=hx.2.1;have S:=hy.1;have J:=hy.2.1;unfold maxLen at I J;have K:=Lh_ hx;have L:=Lh_ hy;clear hx hy;go_enter Tryz.func39,Tryz.ntmps39;go_wp2;go_loopw [5] (fun i wr=>∃ k n:Nat,k≤xs.length∧i=.int .i64 k∧wr=w.drewN n) (fun i _=>xs.length - (intOf i).toNat)
 case atStart=>exact ⟨0,0,Nat.zero_le _,rfl,rfl⟩
 obtain ⟨k,n,T,rfl,rfl⟩:=hrel;by_cases hlt:k<xs.length
 ·
  obtain ⟨P,U,rfl,_,_,M,C,D,E⟩:=Sl.term K.out hlt
  obtain ⟨Q,V,rfl,_,_,N,F,G,H⟩:=Sl.term L.out hlt;have O:(k:Int)<(xs.length:Int):=by omega
  obtain ⟨x,hxx⟩:∃ x,xs[k]'hlt=x:=⟨_,rfl⟩;rw [hxx] at M C D E N F G H;clear hxx;go_wp2;go_quiet (fail)
  go_wp2;go_roundw
  case rel=>exact ⟨k+1,_,by omega,by go_num,rfl⟩
  simp [intOf];omega
 have O:¬ (k:Int)<(xs.length:Int):=by omega
 go_wp2;go_ret;exact ⟨rfl,_,rfl⟩
theorem SameTextsB (A B:Option Addr) (c d:Nat) (xs:List ByteArray) (w:World) (b1 b2:Nat) (hx:Sl w b1 A c xs) (hy:Sl w b2 B d xs):Calls Tryz.prog 38 #[.slice A xs.length c,.slice B xs.length d] w fun e w'=>e=.returned (.bool true)∧Below w.heap.size w w':=by
 refine (SameTexts_any A B c d xs xs w b1 b2 hx hy).mono ?_;rintro e w' ⟨rfl,n,rfl⟩;exact ⟨by rw [decide_eq_true rfl],below_drewN_self _ _ _⟩
theorem SameAttrsB (A B:Option Addr) (c d:Nat) (xs:List Attr) (w:World) (b1 b2:Nat) (hx:Sl w b1 A c xs) (hy:Sl w b2 B d xs):Calls Tryz.prog 37 #[.slice A xs.length c,.slice B xs.length d] w fun e w'=>e=.returned (.bool true)∧Below w.heap.size w w':=by
 refine (SameAttrs_same A B c d xs w b1 b2 hx hy).mono ?_;rintro e w' ⟨rfl,n,rfl⟩;exact ⟨rfl,below_drewN_self _ _ _⟩
theorem SameTermsB (A B:Option Addr) (c d:Nat) (xs:List Term4) (w:World) (b1 b2:Nat) (hx:Sl w b1 A c xs) (hy:Sl w b2 B d xs):Calls Tryz.prog 39 #[.slice A xs.length c,.slice B xs.length d] w fun e w'=>e=.returned (.bool true)∧Below w.heap.size w w':=by
 refine (SameTerms_same A B c d xs w b1 b2 hx hy).mono ?_;rintro e w' ⟨rfl,n,rfl⟩;exact ⟨rfl,below_drewN_self _ _ _⟩
set_option maxRecDepth 100000 in
set_option maxHeartbeats 8000000 in
theorem SameDraft_same (d:Draft) (h k:DH) (w:World) (hx:DSl w w.heap.size d h) (hy:DSl w w.heap.size d k):Calls Tryz.prog 15 #[.agg #[.slice h.a0 d.props.length h.c0,.slice h.a1 d.tags.length h.c1,.slice h.a2 d.links.length h.c2,.slice h.a3 d.run.length h.c3,.slice h.a4 d.load.length h.c4,.string d.nm,.int .i64 d.prio,.string d.owner,.string d.group,.int .i64 d.mode,.string d.res,.int .i64 d.calls,.int .i64 d.ticks,.slice h.a5 d.closed.length h.c5],.agg #[.slice k.a0 d.props.length k.c0,.slice k.a1 d.tags.length k.c1,.slice k.a2 d.links.length k.c2,.slice k.a3 d.run.length k.c3,.slice k.a4 d.load.length k.c4,.string d.nm,.int .i64 d.prio,.string d.owner,.string d.group,.int .i64 d.mode,.string d.res,.int .i64 d.calls,.int .i64 d.ticks,.slice k.a5 d.closed.length k.c5]] w fun e w'=>e=.returned (.bool true)∧Below w.heap.size w w':=by
 have HX:=Lh_ hx;have HY:=Lh_ hy;clear hx hy;go_enter Tryz.func15,Tryz.ntmps15;go_upto_region 1 with fail
 obtain ⟨w1,J1,S0,Y0,T0⟩:=bx_ w [.slice h.a0 d.props.length h.c0,.slice h.a1 d.tags.length h.c1,.slice h.a2 d.links.length h.c2,.slice h.a3 d.run.length h.c3,.slice h.a4 d.load.length h.c4,.string d.nm,.int .i64 d.prio,.string d.owner,.string d.group,.int .i64 d.mode,.string d.res,.int .i64 d.calls,.int .i64 d.ticks,.slice h.a5 d.closed.length h.c5] 30;try simp only [J1]
 have M1:=Lh_ (show w.heap.size≤w1.heap.size from S0.size);have W0:=Lh_ S0;clear J1 S0;try rw [← Y0.out]
 obtain ⟨w2,K1,K0,Z0,R0⟩:=bx_ w1 [.slice k.a0 d.props.length k.c0,.slice k.a1 d.tags.length k.c1,.slice k.a2 d.links.length k.c2,.slice k.a3 d.run.length k.c3,.slice k.a4 d.load.length k.c4,.string d.nm,.int .i64 d.prio,.string d.owner,.string d.group,.int .i64 d.mode,.string d.res,.int .i64 d.calls,.int .i64 d.ticks,.slice k.a5 d.closed.length k.c5] 30;try simp only [K1]
 have N1:=Lh_ (show w1.heap.size≤w2.heap.size from K0.size);have L0:=tb_ W0 K0;have A1:=kb_ T0 K0;clear K1 K0;try rw [← Z0.out]
 obtain ⟨K,L,M,N,O,P,Q,R,S,T,A,B,C,D⟩:=s14_ A1.out.1;obtain ⟨U,V,W,X,Y,Z,A0,B0,C0,D0,E,F,G,H⟩:=s14_ R0.out.1;go_wp2_with fail;refine (SameAttrsB h.a0 k.a0 h.c0 k.c0 d.props _ _ _ (HX.out.keep L0.out).1 (HY.out.keep L0.out).1).mono ?_;rintro e w3 ⟨rfl,E0⟩;clear K L M N O P Q R S T A B C D U V W X Y Z A0 B0 C0 D0 E F G H;have O1:=Lh_ (show w2.heap.size≤w3.heap.size from E0.size);have M0:=tb_ L0 E0;have B1:=kb_ A1 E0;have E1:=kb_ R0 E0;clear E0;obtain ⟨K,L,M,N,O,P,Q,R,S,T,A,B,C,D⟩:=s14_ B1.out.1;obtain ⟨U,V,W,X,Y,Z,A0,B0,C0,D0,E,F,G,H⟩:=s14_ E1.out.1;go_wp2_with fail;refine (SameTextsB h.a1 k.a1 h.c1 k.c1 d.tags _ _ _ (HX.out.keep M0.out).2.1 (HY.out.keep M0.out).2.1).mono ?_;rintro e w4 ⟨rfl,F0⟩;clear K L M N O P Q R S T A B C D U V W X Y Z A0 B0 C0 D0 E F G H;have P1:=Lh_ (show w3.heap.size≤w4.heap.size from F0.size);have N0:=tb_ M0 F0;have I:=kb_ B1 F0;have F1:=kb_ E1 F0;clear F0;have K:=I.out.1 0 _ rfl;have L:=I.out.1 1 _ rfl;have M:=I.out.1 2 _ rfl
 have N:=I.out.1 3 _ rfl;have O:=I.out.1 4 _ rfl;have P:=I.out.1 5 _ rfl;have Q:=I.out.1 6 _ rfl;have R:=I.out.1 7 _ rfl;have S:=I.out.1 8 _ rfl;have T:=I.out.1 9 _ rfl;have A:=I.out.1 10 _ rfl;have B:=I.out.1 11 _ rfl;have C:=I.out.1 12 _ rfl;have D:=I.out.1 13 _ rfl;obtain ⟨U,V,W,X,Y,Z,A0,B0,C0,D0,E,F,G,H⟩:=s14_ F1.out.1;go_wp2_with fail;refine (SameTextsB h.a2 k.a2 h.c2 k.c2 d.links _ _ _ (HX.out.keep N0.out).2.2.1 (HY.out.keep N0.out).2.2.1).mono ?_;rintro e w5 ⟨rfl,G0⟩;clear K L M N O P Q R S T A B C D U V W X Y Z A0 B0 C0 D0 E F G H;have Q1:=Lh_ (show w4.heap.size≤w5.heap.size from G0.size);have O0:=tb_ N0 G0;have C1:=kb_ I G0;have G1:=kb_ F1 G0;clear G0;obtain ⟨K,L,M,N,O,P,Q,R,S,T,A,B,C,D⟩:=s14_ C1.out.1;obtain ⟨U,V,W,X,Y,Z,A0,B0,C0,D0,E,F,G,H⟩:=s14_ G1.out.1;go_wp2_with fail;refine (SameTextsB h.a3 k.a3 h.c3 k.c3 d.run _ _ _ (HX.out.keep O0.out).2.2.2.1 (HY.out.keep O0.out).2.2.2.1).mono ?_;rintro e w6 ⟨rfl,H0⟩;clear K L M N O P Q R S T A B C D U V W X Y Z A0 B0 C0 D0 E F G H;have R1:=Lh_ (show w5.heap.size≤w6.heap.size from H0.size);have P0:=tb_ O0 H0;have J:=kb_ C1 H0;have H1:=kb_ G1 H0;clear H0;obtain ⟨K,L,M,N⟩:=s4_ J.out.1;have O:=J.out.1 4 _ rfl;have P:=J.out.1 5 _ rfl
 have Q:=J.out.1 6 _ rfl;have R:=J.out.1 7 _ rfl;have S:=J.out.1 8 _ rfl;have T:=J.out.1 9 _ rfl;have A:=J.out.1 10 _ rfl;have B:=J.out.1 11 _ rfl;have C:=J.out.1 12 _ rfl;have D:=J.out.1 13 _ rfl;obtain ⟨U,V,W,X,Y,Z,A0,B0,C0,D0,E,F,G,H⟩:=s14_ H1.out.1;go_wp2_with fail;refine (SameTextsB h.a4 k.a4 h.c4 k.c4 d.load _ _ _ (HX.out.keep P0.out).2.2.2.2.1 (HY.out.keep P0.out).2.2.2.2.1).mono ?_;rintro e w7 ⟨rfl,I0⟩;clear K L M N O P Q R S T A B C D U V W X Y Z A0 B0 C0 D0 E F G H;have S1:=Lh_ (show w6.heap.size≤w7.heap.size from I0.size);have Q0:=tb_ P0 I0;have D1:=kb_ J I0;have I1:=kb_ H1 I0;clear I0;obtain ⟨K,L,M,N,O,P,Q,R,S,T,A,B,C,D⟩:=s14_ D1.out.1;obtain ⟨U,V,W,X,Y,Z,A0,B0,C0,D0,E,F,G,H⟩:=s14_ I1.out.1;go_wp2_with fail;refine (SameTermsB h.a5 k.a5 h.c5 k.c5 d.closed _ _ _ (HX.out.keep Q0.out).2.2.2.2.2.1 (HY.out.keep Q0.out).2.2.2.2.2.1).mono ?_;rintro e w8 ⟨rfl,J0⟩;clear K L M N O P Q R S T A B C D U V W X Y Z A0 B0 C0 D0 E F G H;have T1:=Lh_ (show w7.heap.size≤w8.heap.size from J0.size);have X0:=tb_ Q0 J0;have V1:=kb_ D1 J0;have W1:=kb_ I1 J0;clear J0;go_wp2;go_ret;exact ⟨by try rfl,X0.out⟩
set_option maxRecDepth 100000 in
set_option maxHeartbeats 4000000 in
theorem Begin_any (A:Option Addr) (c:Nat) (base:List Attr) (N:Nat→Prop) (w:World) (hN:∀ x,N x→x<w.heap.size) (hx:FreeS N w A c base) (hl:base.length≤1000) :
  Calls Tryz.prog 11 #[.slice A base.length c] w (DPost N (beginD base) w):=by
 have HN:=Lh_ hN;have HX:=Lh_ hx;have HL:=Lh_ hl;clear hN hx hl;have P0:=(zero_of_info (P:=Tryz.prog) (t:=30) info_draft2).1;go_enter Tryz.func11,Tryz.ntmps11;go_upto_region 1 with fail
 obtain ⟨D,S,C,G,H⟩:=bx_ w [.slice none 0 0,.slice none 0 0,.slice none 0 0,.slice none 0 0,.slice none 0 0,.string ByteArray.empty,.int .i64 0,.string ByteArray.empty,.string ByteArray.empty,.int .i64 0,.string ByteArray.empty,.int .i64 0,.int .i64 0,.slice none 0 0] 30;try simp only [S]
 have Q0:=Lh_ (show w.heap.size≤D.heap.size from C.size);have F:=Lh_ C;clear S C;try rw [← G.out]
 clear P0;have HZ:=Lh_ (show w.heap.size<D.heap.size by have:=G.out;omega);have Z:=Lh_ (show DSl D D.heap.size (beginD base) ⟨A,c,none,0,none,0,none,0,none,0,none,0⟩ from ⟨HX.out.out.next (Nat.le_refl _) F.out,Sl.nil_,Sl.nil_,Sl.nil_,Sl.nil_,Sl.nil_,begin_ok base⟩);have A0:=Lh_ (show lensD (beginD base) from ⟨by show base.length≤1000000;have:=HL.out;omega,by show (0:Nat)≤1000000;omega,by show (0:Nat)≤1000000;omega,by show (0:Nat)≤1000000;omega,by show (0:Nat)≤1000000;omega,by show (0:Nat)≤1000000;omega⟩);have O0:=HX.out.1;have T:=HX.out.2.1;unfold maxLen at T;go_wp2_with fail;refine Calls.mono (R:=fun e w'=>Below D.heap.size D w'∧∃ X,e=.returned (.pointer (some ⟨X,0,none⟩))∧EdQ 53 9 35 (fun k=>k<D.heap.size) w' D.heap.size X (beginD base)) ?_ ?_
 · exact edit_any (beginD base) ⟨A,c,none,0,none,0,none,0,none,0,none,0⟩ D Z.out A0.out
 rintro e w2 ⟨V,X,rfl,E⟩;have R0:=Lh_ (show D.heap.size≤w2.heap.size from V.size);have I:=tb_ F V;have U:=kb_ H V;clear V O0 T;obtain ⟨d0,hd0⟩:∃ z,beginD base=z:=⟨_,rfl⟩;rw [hd0] at E;have W:=Lh_ hd0;obtain ⟨B,O,Q⟩:=E.free (N:=(fun x=>N x∨x=w.heap.size)) (fun x hx=>by have:=HZ.out;rcases hx with q | q;(have:=HN.out x q;omega);omega);have C0:=Lh_ (show BoxL w2 X (drV d0 B) from O);have Y:=Lh_ Q;have HQ:=Lh_ E;clear O Q E hd0;obtain ⟨Z0,A1,B1,C1,D1,E1,F1,G1,H1,I1,S0,T0,U0,V0⟩:=s14_ C0.out.1;obtain ⟨E0,F0,G0,H0,I0,J0,K0,L0,M0,N0,J,K,L,M⟩:=s14_ U.out.1;have D0:=U.out.2.1;go_wp2;refine bodyPost_ret (v:=.agg #[.slice B.a0 d0.props.length B.c0,.slice B.a1 d0.tags.length B.c1,.slice B.a2 d0.links.length B.c2,.slice B.a3 d0.run.length B.c3,.slice B.a4 d0.load.length B.c4,.string d0.nm,.int .i64 d0.prio,.string d0.owner,.string d0.group,.int .i64 d0.mode,.string d0.res,.int .i64 d0.calls,.int .i64 d0.ticks,.slice B.a5 d0.closed.length B.c5]) (by simp [results,Tryz.results11,go_sem,E0,F0,G0,H0,I0,J0,K0,L0,M0,N0,J,K,L,M,D0]) rfl ?_;rw [W.out];exact DPost.fin (h:=B) I.out (Nat.le_refl _) (fun _=>.inl) (.inr rfl) Y.out _ _ _ _ _ _ _ _ _ _ _ _ _ _
theorem sl_attr1 {w w':World} {T:TypeId} {a:Attr} (h:w.alloc (.cells #[.string a.name,.string a.value] T)=w') (h1:a.name.size≤maxLen) (h2:a.value.size≤maxLen):Sl w' w'.heap.size (some ⟨w.heap.size,0,none⟩) 1 [a]:=by
 have A:=box_mk h;refine ⟨Nat.le_refl _,by decide,fun _=>⟨w.heap.size,0,rfl,A.2.2,fun i x hx=>?_⟩⟩;have B:i=0:=by have:=(List.getElem?_eq_some_iff.1 hx).1;simp at this;exact this
 subst B;obtain rfl:=Option.some.inj hx;exact ⟨[.string a.name,.string a.value],⟨rfl,h1,h2⟩,fun j u hu=>by rw [Nat.zero_mul,Nat.zero_add,Nat.zero_add];exact A.1 j u hu⟩
theorem sl_texts {w w':World} {T:TypeId} {xs:List ByteArray} (h:w.alloc (.cells (xs.map Value.string).toArray T)=w') (hs:∀ x ∈ xs,x.size≤maxLen) (hl:xs.length≤maxLen):Sl w' w'.heap.size (some ⟨w.heap.size,0,none⟩) xs.length xs:=by
 have A:=box_mk h;refine ⟨Nat.le_refl _,hl,fun _=>⟨w.heap.size,0,rfl,A.2.2,fun i x hx=>⟨[.string x],⟨rfl,hs x (List.mem_of_getElem? hx)⟩,fun j u hu=>?_⟩⟩⟩;have B:j=0:=by have:=(List.getElem?_eq_some_iff.1 hu).1;simpa using this
 subst B;obtain rfl:=Option.some.inj hu;rw [Nat.zero_add,Nat.add_zero];show w'.cell? ⟨w.heap.size,i * 1,none⟩=_
 rw [Nat.mul_one];exact A.1 i _ (by rw [List.toList_toArray,List.getElem?_map,hx];rfl)
theorem Sl.freeN {α:Type} [RepS α] {w:World} {A:Option Addr} {c:Nat} {l:List α} (h:Sl w w.heap.size A c l):FreeS (fun _=>False) w A c l:=SlS.free (SlS_iff.1 h) (fun x hx=>⟨hx,fun q=>q⟩)
set_option maxRecDepth 100000 in
set_option maxHeartbeats 8000000 in
theorem known13_any (w:World) (hok:Ok w) (h7:Ok7 w):Calls Tryz.prog 16 #[] w fun e w'=>e=.returned (.bool true)∧Below w.heap.size w w':=by
 have A1:=Lh_ hok;have H7:=Lh_ h7;clear hok h7;have H3:=(zero_of_info (P:=Tryz.prog) (t:=30) info_draft2).1;go_enter Tryz.func16,Tryz.ntmps16;go_upto_region 1 with fail
 obtain ⟨w1,hw1⟩:∃ z,w.alloc (.cells #[.string ⟨#[73,68]⟩,.string ⟨#[49]⟩] 53)=z:=⟨_,rfl⟩;have L1:Below w.heap.size w w1:=by rw [← hw1];exact (Below.refl _ _).alloc (Nat.le_refl _) _
 have V2:=Lh_ (sl_attr1 (a:=⟨⟨#[73,68]⟩,⟨#[49]⟩⟩) hw1 (by decide) (by decide));go_wp2_with fail;try rw [hw1]
 clear hw1;have B2:=Lh_ (show w.heap.size≤w1.heap.size from L1.size);have R1:=Lh_ L1;clear L1;refine Calls.mono (R:=fun e w'=>DPost (fun _=>False) k13a w1 e w') ?_ ?_
 · exact Begin_any (some ⟨w.heap.size,0,none⟩) 1 k13p (fun _=>False) w1 (fun _ h=>h.elim) V2.out.freeN (by decide)
 rintro e w2 ⟨S,h0,rfl,W⟩;have C2:=Lh_ (show w1.heap.size≤w2.heap.size from S.size);have S1:=tb_ R1 S;clear S;obtain ⟨d0,hd0⟩:∃ z,k13a=z:=⟨_,rfl⟩;rw [hd0] at W ⊢;have O2:=Lh_ hd0;have Q2:=Lh_ (show PreD d0 by rw [← hd0];exact k13_preA);have P2:=Lh_ (W.more (N':=fun x=>x=w2.heap.size) (fun x hx e=>by omega));clear W hd0;go_upto_region 2 with fail
 obtain ⟨w3,K2,I0,F1,R0⟩:=bx_ w2 [.slice h0.a0 d0.props.length h0.c0,.slice h0.a1 d0.tags.length h0.c1,.slice h0.a2 d0.links.length h0.c2,.slice h0.a3 d0.run.length h0.c3,.slice h0.a4 d0.load.length h0.c4,.string d0.nm,.int .i64 d0.prio,.string d0.owner,.string d0.group,.int .i64 d0.mode,.string d0.res,.int .i64 d0.calls,.int .i64 d0.ticks,.slice h0.a5 d0.closed.length h0.c5] 30;try simp only [K2]
 have J3:=Lh_ (show w2.heap.size≤w3.heap.size from I0.size);have M0:=tb_ S1 I0;have K1:=Lh_ (P2.out.below I0);clear K2 I0;try rw [← F1.out]
 clear H3;have HZ:=Lh_ (show w.heap.size≤w2.heap.size∧w2.heap.size<w3.heap.size by have:=F1.out;have:=B2.out;have:=C2.out;omega);have A2:=Lh_ (Nat.le_refl w3.heap.size);obtain ⟨cd0,J,F,K,L,M,O,G,Q,H,B,C,D,A⟩:=s14_ R0.out.1;go_wp2_with fail;refine Calls.mono (R:=fun e w'=>DPost (fun x=>x=w2.heap.size) (applyD d0 k13t1 k13w) w3 e w') ?_ ?_
 · exact Apply_any d0 h0 k13t1 k13w (fun x=>x=w2.heap.size) w3 (fun x hx=>by subst hx;have:=HZ.out;have:=A2.out;omega) K1.out Q2.out ⟨by unfold okI;decide,by decide +kernel,by unfold okI;decide,by decide +kernel⟩ (by decide) (by decide) (A1.out.next M0.out) (H7.out.below M0.out)
 rintro e wa1 ⟨S,h1,rfl,W⟩;clear cd0 J F K L M O G Q H B C D A;obtain ⟨d1,hd_⟩:∃ z,applyD d0 k13t1 k13w=z:=⟨_,rfl⟩;rw [hd_] at W ⊢;have T1:=Lh_ (show k13b=d1 by rw [← hd_,← O2.out];rfl);have R2:=Lh_ (show PreD d1 by rw [← T1.out];exact k13_preB);have X2:=Lh_ (show w3.heap.size≤wa1.heap.size from S.size);have N0:=tb_ M0 S;have S0:=kb_ R0 S;have B1:=Lh_ (Nat.le_trans A2.out (S).size);clear S hd_;have W1:=Lh_ W;clear W;obtain ⟨cd0,J,F,K,L,M,O,G,Q,H,B,C,D,A⟩:=s14_ S0.out.1;have B0:=S0.out.2.1;go_upto_region 3 with fail
 clear cd0 J F K L M O G Q H B C D A B0;obtain ⟨ws1,hws1⟩:∃ z,set14 wa1 (w2.heap.size) (.slice h1.a0 d1.props.length h1.c0) (.slice h1.a1 d1.tags.length h1.c1) (.slice h1.a2 d1.links.length h1.c2) (.slice h1.a3 d1.run.length h1.c3) (.slice h1.a4 d1.load.length h1.c4) (.string d1.nm) (.int .i64 d1.prio) (.string d1.owner) (.string d1.group) (.int .i64 d1.mode) (.string d1.res) (.int .i64 d1.calls) (.int .i64 d1.ticks) (.slice h1.a5 d1.closed.length h1.c5)=z:=⟨_,rfl⟩;have E:wa1.grownBy ws1 (some (w2.heap.size)):=by rw [← hws1];exact grown14 _ _ _ _ _ _ _ _ _ _ _ _ _ _ _ _
 have I:BoxL ws1 (w2.heap.size) (drV d1 h1):=by rw [← hws1];exact S0.out.set14 _ _ _ _ _ _ _ _ _ _ _ _ _ _
 unfold set14 at hws1;rw [hws1];clear hws1;have B3:=Lh_ E.size;have G1:=Lh_ (show BoxL ws1 (w2.heap.size) (drV d1 h1) from I);have Y:=Lh_ (N0.out.grown E N0.out.size (fun q hq=>by have:=Option.some.inj hq;have:=HZ.out;omega));have F0:=Lh_ (Nat.le_trans B1.out (E).size);have W0:=Lh_ (W1.out.grown E (.inl rfl));clear E I;obtain ⟨cd0,J,F,K,L,M,O,G,Q,H,B,C,D,A⟩:=s14_ G1.out.1;go_wp2_with fail;refine Calls.mono (R:=fun e w'=>DPost (fun x=>x=w2.heap.size) (applyD d1 k13t2 ⟨#[57]⟩) ws1 e w') ?_ ?_
 · exact Apply_any d1 h1 k13t2 ⟨#[57]⟩ (fun x=>x=w2.heap.size) ws1 (fun x hx=>by subst hx;have:=HZ.out;have:=F0.out;omega) W0.out R2.out ⟨by unfold okI;decide,by decide +kernel,by unfold okI;decide,by decide +kernel⟩ (by decide) (by decide) (A1.out.next Y.out) (H7.out.below Y.out)
 rintro e wa2 ⟨S,h2,rfl,W⟩;clear cd0 J F K L M O G Q H B C D A;obtain ⟨d2,hd_⟩:∃ z,applyD d1 k13t2 ⟨#[57]⟩=z:=⟨_,rfl⟩;rw [hd_] at W ⊢;have U1:=Lh_ (show k13c=d2 by rw [← hd_,← T1.out];rfl);have S2:=Lh_ (show PreD d2 by rw [← U1.out];exact k13_preC);have Y2:=Lh_ (show ws1.heap.size≤wa2.heap.size from S.size);have O0:=tb_ Y S;have T0:=kb_ G1 S;have C1:=Lh_ (Nat.le_trans F0.out (S).size);clear S hd_;have X1:=Lh_ W;clear W;obtain ⟨cd0,J,F,K,L,M,O,G,Q,H,B,C,D,A⟩:=s14_ T0.out.1;have B0:=T0.out.2.1;go_upto_region 4 with fail
 clear cd0 J F K L M O G Q H B C D A B0;obtain ⟨ws2,hws2⟩:∃ z,set14 wa2 (w2.heap.size) (.slice h2.a0 d2.props.length h2.c0) (.slice h2.a1 d2.tags.length h2.c1) (.slice h2.a2 d2.links.length h2.c2) (.slice h2.a3 d2.run.length h2.c3) (.slice h2.a4 d2.load.length h2.c4) (.string d2.nm) (.int .i64 d2.prio) (.string d2.owner) (.string d2.group) (.int .i64 d2.mode) (.string d2.res) (.int .i64 d2.calls) (.int .i64 d2.ticks) (.slice h2.a5 d2.closed.length h2.c5)=z:=⟨_,rfl⟩;have E:wa2.grownBy ws2 (some (w2.heap.size)):=by rw [← hws2];exact grown14 _ _ _ _ _ _ _ _ _ _ _ _ _ _ _ _
 have I:BoxL ws2 (w2.heap.size) (drV d2 h2):=by rw [← hws2];exact T0.out.set14 _ _ _ _ _ _ _ _ _ _ _ _ _ _
 unfold set14 at hws2;rw [hws2];clear hws2;have C3:=Lh_ E.size;have H1:=Lh_ (show BoxL ws2 (w2.heap.size) (drV d2 h2) from I);have Z:=Lh_ (O0.out.grown E O0.out.size (fun q hq=>by have:=Option.some.inj hq;have:=HZ.out;omega));have G0:=Lh_ (Nat.le_trans C1.out (E).size);have X0:=Lh_ (X1.out.grown E (.inl rfl));clear E I;obtain ⟨cd0,J,F,K,L,M,O,G,Q,H,B,C,D,A⟩:=s14_ H1.out.1;go_wp2_with fail;refine Calls.mono (R:=fun e w'=>DPost (fun x=>x=w2.heap.size) (applyD d2 k13t3 ⟨#[48,54,54,48]⟩) ws2 e w') ?_ ?_
 · exact Apply_any d2 h2 k13t3 ⟨#[48,54,54,48]⟩ (fun x=>x=w2.heap.size) ws2 (fun x hx=>by subst hx;have:=HZ.out;have:=G0.out;omega) X0.out S2.out ⟨by unfold okI;decide,by decide +kernel,by unfold okI;decide,by decide +kernel⟩ (by decide) (by decide) (A1.out.next Z.out) (H7.out.below Z.out)
 rintro e wa3 ⟨S,h3,rfl,W⟩;clear cd0 J F K L M O G Q H B C D A;obtain ⟨d3,hd_⟩:∃ z,applyD d2 k13t3 ⟨#[48,54,54,48]⟩=z:=⟨_,rfl⟩;rw [hd_] at W ⊢;have V1:=Lh_ (show k13d=d3 by rw [← hd_,← U1.out];rfl);have T2:=Lh_ (show PreD d3 by rw [← V1.out];exact k13_preD);have Z2:=Lh_ (show ws2.heap.size≤wa3.heap.size from S.size);have P0:=tb_ Z S;have U0:=kb_ H1 S;have D1:=Lh_ (Nat.le_trans G0.out (S).size);clear S hd_;have Y1:=Lh_ W;clear W;obtain ⟨cd0,J,F,K,L,M,O,G,Q,H,B,C,D,A⟩:=s14_ U0.out.1;have B0:=U0.out.2.1;go_upto_region 5 with fail
 clear cd0 J F K L M O G Q H B C D A B0;obtain ⟨ws3,hws3⟩:∃ z,set14 wa3 (w2.heap.size) (.slice h3.a0 d3.props.length h3.c0) (.slice h3.a1 d3.tags.length h3.c1) (.slice h3.a2 d3.links.length h3.c2) (.slice h3.a3 d3.run.length h3.c3) (.slice h3.a4 d3.load.length h3.c4) (.string d3.nm) (.int .i64 d3.prio) (.string d3.owner) (.string d3.group) (.int .i64 d3.mode) (.string d3.res) (.int .i64 d3.calls) (.int .i64 d3.ticks) (.slice h3.a5 d3.closed.length h3.c5)=z:=⟨_,rfl⟩;have E:wa3.grownBy ws3 (some (w2.heap.size)):=by rw [← hws3];exact grown14 _ _ _ _ _ _ _ _ _ _ _ _ _ _ _ _
 have I:BoxL ws3 (w2.heap.size) (drV d3 h3):=by rw [← hws3];exact U0.out.set14 _ _ _ _ _ _ _ _ _ _ _ _ _ _
 unfold set14 at hws3;rw [hws3];clear hws3;have D3:=Lh_ E.size;have I1:=Lh_ (show BoxL ws3 (w2.heap.size) (drV d3 h3) from I);have A0:=Lh_ (P0.out.grown E P0.out.size (fun q hq=>by have:=Option.some.inj hq;have:=HZ.out;omega));have H0:=Lh_ (Nat.le_trans D1.out (E).size);have Y0:=Lh_ (Y1.out.grown E (.inl rfl));clear E I;obtain ⟨cd0,J,F,K,L,M,O,G,Q,H,B,C,D,A⟩:=s14_ I1.out.1;go_wp2_with fail;refine Calls.mono (R:=fun e w'=>DPost (fun x=>x=w2.heap.size) (applyD d3 k13t4 ⟨#[50]⟩) ws3 e w') ?_ ?_
 · exact Apply_any d3 h3 k13t4 ⟨#[50]⟩ (fun x=>x=w2.heap.size) ws3 (fun x hx=>by subst hx;have:=HZ.out;have:=H0.out;omega) Y0.out T2.out ⟨by unfold okI;decide,by decide +kernel,by unfold okI;decide,by decide +kernel⟩ (by decide) (by decide) (A1.out.next A0.out) (H7.out.below A0.out)
 rintro e wa4 ⟨S,X,rfl,W⟩;clear cd0 J F K L M O G Q H B C D A;obtain ⟨d4,hd_⟩:∃ z,applyD d3 k13t4 ⟨#[50]⟩=z:=⟨_,rfl⟩;rw [hd_] at W ⊢;have J0:=Lh_ (show k13e=d4 by rw [← hd_,← V1.out];rfl);have N3:=Lh_ (show PreD d4 by rw [← J0.out];exact k13_preE);have A3:=Lh_ (show ws3.heap.size≤wa4.heap.size from S.size);have Q0:=tb_ A0 S;have V0:=kb_ I1 S;have E1:=Lh_ (Nat.le_trans H0.out (S).size);clear S hd_;have Z1:=Lh_ W;clear W;obtain ⟨cd0,J,F,K,L,M,O,G,Q,H,B,C,D,A⟩:=s14_ V0.out.1;have B0:=V0.out.2.1;go_upto_region 6 with fail
 clear cd0 J F K L M O G Q H B C D A B0;obtain ⟨ws4,hws4⟩:∃ z,set14 wa4 (w2.heap.size) (.slice X.a0 d4.props.length X.c0) (.slice X.a1 d4.tags.length X.c1) (.slice X.a2 d4.links.length X.c2) (.slice X.a3 d4.run.length X.c3) (.slice X.a4 d4.load.length X.c4) (.string d4.nm) (.int .i64 d4.prio) (.string d4.owner) (.string d4.group) (.int .i64 d4.mode) (.string d4.res) (.int .i64 d4.calls) (.int .i64 d4.ticks) (.slice X.a5 d4.closed.length X.c5)=z:=⟨_,rfl⟩;have E:wa4.grownBy ws4 (some (w2.heap.size)):=by rw [← hws4];exact grown14 _ _ _ _ _ _ _ _ _ _ _ _ _ _ _ _
 have I:BoxL ws4 (w2.heap.size) (drV d4 X):=by rw [← hws4];exact V0.out.set14 _ _ _ _ _ _ _ _ _ _ _ _ _ _
 unfold set14 at hws4;rw [hws4];clear hws4;have E3:=Lh_ E.size;have V:=Lh_ (show BoxL ws4 (w2.heap.size) (drV d4 X) from I);have J1:=Lh_ (Q0.out.grown E Q0.out.size (fun q hq=>by have:=Option.some.inj hq;have:=HZ.out;omega));have U:=Lh_ (Nat.le_trans E1.out (E).size);have Z0:=Lh_ (Z1.out.grown E (.inl rfl));clear E I;have cd0:=V.out.1 0 _ rfl;have F:=V.out.1 2 _ rfl;have G:=V.out.1 7 _ rfl;have H:=V.out.1 9 _ rfl;have A:=V.out.1 13 _ rfl;have M1:=Z0.out.sl;have I2:d4.links=[⟨#[97]⟩,⟨#[98]⟩]:=by rw [← J0.out];exact k13_links
 have O1:=M1.2.2.1;rw [I2] at O1 F;have U2:=Lh_ O1;clear O1;have J2:d4.props=[⟨kID,⟨#[49,32,50]⟩⟩]:=by rw [← J0.out];exact k13_props
 have N1:=M1.1;rw [J2] at N1 cd0;obtain ⟨b3,o3,hA,D2,G3,q0,q1⟩:=N1.attr (i:=0) (by decide);rw [hA] at cd0;have hm:d4.mode=384:=by rw [← J0.out];exact k13_mode
 have ho:d4.owner=⟨#[114,111,111,116]⟩:=by rw [← J0.out];exact k13_owner
 rw [hm] at H;rw [ho] at G;have H2:d4.closed.length=1:=by rw [← J0.out];exact k13_closed
 rw [H2] at A;have q1':ws4.cell? ⟨b3,o3+1,none⟩=some (.string ⟨#[49,32,50]⟩):=q1;have M2:=Lh_ D2;clear M1 N1 I2 J2 hm ho H2 G3 q0 q1 D2 hA;obtain ⟨w8,hw8⟩:∃ z,ws4.alloc (.cells #[.string ⟨#[97]⟩,.string ⟨#[98]⟩] 9)=z:=⟨_,rfl⟩;have E2:Below ws4.heap.size ws4 w8:=by rw [← hw8];exact (Below.refl _ _).alloc (Nat.le_refl _) _
 have W2:=Lh_ (sl_texts (xs:=[⟨#[97]⟩,⟨#[98]⟩]) (show ws4.alloc (.cells ([(⟨#[97]⟩:ByteArray),⟨#[98]⟩].map Value.string).toArray 9)=w8 from hw8) (by decide +kernel) (by decide));have Q1:=Lh_ E2;clear E2;simp only [List.length_cons,List.length_nil,Nat.zero_add] at cd0 F;go_upto_region 6 with fail
 try simp only [hw8]
 go_wp2_with fail;try rw [hw8]
 refine Calls.mono (R:=fun e w'=>e=.returned (.bool true)∧Below w8.heap.size w8 w') ?_ ?_
 · exact (SameTexts_any X.a2 (some ⟨ws4.heap.size,0,none⟩) X.c2 2 [⟨#[97]⟩,⟨#[98]⟩] [⟨#[97]⟩,⟨#[98]⟩] w8 _ _ (U2.out.keep Q1.out) W2.out).mono (by rintro e w' ⟨rfl,n,rfl⟩;exact ⟨by rw [decide_eq_true rfl],below_drewN_self _ _ _⟩)
 rintro e w9 ⟨rfl,F2⟩;have T:=below_next Q1.out F2;have G2:=V.out.kept (grown_none T) (fun e=>by cases e);have cd0':=(G2.1 0 _ rfl);have e0:w9.cell? ⟨b3,o3+1,none⟩=some (.string ⟨#[49,32,50]⟩):=(T.cell (p:=⟨b3,o3+1,none⟩) M2.out).trans q1';have N2:=Lh_ (below_next J1.out T);have f0:=(T.cell (p:=⟨w2.heap.size,0,none⟩) (show w2.heap.size<ws4.heap.size by have:=HZ.out;have:=U.out;omega)).trans cd0;have f7:=(T.cell (p:=⟨w2.heap.size,7,none⟩) (show w2.heap.size<ws4.heap.size by have:=HZ.out;have:=U.out;omega)).trans G;have f9:=(T.cell (p:=⟨w2.heap.size,9,none⟩) (show w2.heap.size<ws4.heap.size by have:=HZ.out;have:=U.out;omega)).trans H;have O3:=(T.cell (p:=⟨w2.heap.size,13,none⟩) (show w2.heap.size<ws4.heap.size by have:=HZ.out;have:=U.out;omega)).trans A;clear G2 cd0' T F2 hw8 q1' cd0 F G H A;go_wp2;go_ret;exact ⟨by try rfl,N2.out⟩
section
open Go.ChangeShapes Go.WideShapes Go.ChangeAt
theorem gTabType:(Tryz.prog.globals[1]?).map (·.type)=some 204:=by kernel_rfl
end
section
open Go.ChangeShapes Go.WideShapes Go.ChangeAt
theorem okf_of {W : World} {rest : List (String × DataW Unit)} (h0 : laidMet Tryz.prog (("math/bits.deBruijn32tab", Rows.laid_math_bits_deBruijn32tab) :: ("math/bits.deBruijn64tab", Rows.laid_math_bits_deBruijn64tab) :: ("internal/strconv.uint64pow10", Rows.laid_internal_strconv_uint64pow10) :: ("unicode/utf8.acceptRanges", Rows.laid_unicode_utf8_acceptRanges) :: ("strconv.ErrRange", Rows.laid_strconv_ErrRange) :: ("strconv.ErrSyntax", Rows.laid_strconv_ErrSyntax) :: rest) W) : Ok7 W := by
 have D:=Lib.tabIs_of_head (k:=.u64) (zs:=Lib.pow10Tab) tab_named gTabType Tryz.underlying204 Tryz.underlying144 (by kernel_rfl) (by kernel_rfl) h0.tail.tail;have C:=h0.tail.tail.tail.tail;obtain ⟨F,H,B,-,-,-⟩:=laid_sentinel C gER gERType Tryz.underlying114 rowErr Tryz.underlying224 Tryz.underlying226 rfl rfl Tryz.underlying9 (by kernel_rfl) (by kernel_rfl);obtain ⟨E,G,A,-,-,-⟩:=laid_sentinel C.tail gES gESType Tryz.underlying114 rowErr Tryz.underlying224 Tryz.underlying226 rfl rfl Tryz.underlying9 (by kernel_rfl) (by kernel_rfl);exact ⟨⟨_,by have h0:=World.var?_cell gES A 0;simpa using h0,.inr ⟨_,_,rfl⟩⟩,⟨_,by have h0:=World.var?_cell gER B 0;simpa using h0,.inr ⟨_,_,rfl⟩⟩,D⟩
theorem okf8 {W : World} (h : laidMetH Tryz.prog [("math/bits.deBruijn32tab", Rows.laid_math_bits_deBruijn32tab), ("math/bits.deBruijn64tab", Rows.laid_math_bits_deBruijn64tab), ("internal/strconv.uint64pow10", Rows.laid_internal_strconv_uint64pow10), ("unicode/utf8.acceptRanges", Rows.laid_unicode_utf8_acceptRanges), ("strconv.ErrRange", Rows.laid_strconv_ErrRange), ("strconv.ErrSyntax", Rows.laid_strconv_ErrSyntax), ("unicode.CaseRanges", Rows.laid_unicode_CaseRanges), ("unicode/utf8.first", Rows.laid_unicode_utf8_first)] W) : Ok7 W := by
 have A : laidMet Tryz.prog [("math/bits.deBruijn32tab", Rows.laid_math_bits_deBruijn32tab), ("math/bits.deBruijn64tab", Rows.laid_math_bits_deBruijn64tab), ("internal/strconv.uint64pow10", Rows.laid_internal_strconv_uint64pow10), ("unicode/utf8.acceptRanges", Rows.laid_unicode_utf8_acceptRanges), ("strconv.ErrRange", Rows.laid_strconv_ErrRange), ("strconv.ErrSyntax", Rows.laid_strconv_ErrSyntax), ("unicode.CaseRanges", Rows.laid_unicode_CaseRanges), ("unicode/utf8.first", Rows.laid_unicode_utf8_first)] W := h;exact okf_of A
end
def partsB (c:UInt8) (s:ByteArray):List ByteArray:=Lib.splitB ⟨#[c]⟩ 0 (Lib.countB s ⟨#[c]⟩) s
def splitL (s:List UInt8) (c:UInt8):List (List UInt8):=Lib.splitK [c] 0 (Lib.count s [c]) s
theorem parts_map (c:UInt8) (s:ByteArray):partsB c s=(splitL s.data.toList c).map fun l=>⟨l.toArray⟩:=by
 have h:=Lib.splitB_data ⟨#[c]⟩ 0 (Lib.countB s ⟨#[c]⟩) s;have A:(partsB c s).map (·.data.toList)=splitL s.data.toList c:=h;rw [← A,List.map_map];have B:((fun l:List UInt8=>(⟨l.toArray⟩:ByteArray))∘fun x:ByteArray=>x.data.toList)=id:=by funext x;apply ba_ext;simp
 rw [B,List.map_id]

section
variable {p0 p1 p2:ByteArray} {Q:List ByteArray}
end
end Go.Cold
