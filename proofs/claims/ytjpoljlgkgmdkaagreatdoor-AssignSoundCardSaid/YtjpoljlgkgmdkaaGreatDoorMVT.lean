/-
  The walks of the reference's ascends and Sound,at drafts that are sound.
-/
import Derived.Test.YtjpoljlgkgmdkaaGreatDoorMJ
set_option linter.unusedSimpArgs false
set_option linter.unusedVariables false
namespace Go.Cold
open Go Go.RowKit Go.Proofs.YtjpoljlgkgmdkaaGreatDoor
open Go.Proofs hiding intOf
theorem asc_next:∀ {l:List ByteArray} {j:Nat} (h1:j<l.length) (h2:j+1<l.length),ascL l=true→Op.bytesLess (l[j]).toList (l[j+1]).toList=true
 | [],_,h1,_,_=>absurd h1 (by simp)
 | [_],_,_,h2,_=>absurd h2 (by simp)
 | a :: b :: r,0,_,_,h=>by
  rw [ascL,Bool.and_eq_true] at h;exact h.1
 | a :: b :: r,j+1,h1,h2,h=>by
  rw [ascL,Bool.and_eq_true] at h;exact asc_next (l:=b :: r) (j:=j) (by simpa using h1) (by simpa using h2) h.2
theorem meas_ {n q:Nat} (h:q<n):n - (intOf (.int .i64 ((q:Int)+1))).toNat<n - (intOf (.int .i64 (q:Int))).toNat:=by
 simp [intOf];omega
theorem full_parts {x:ByteArray} (h:fullT x=true):x.toList.isEmpty=false∧textB x=true:=by
 unfold fullT at h;rw [Bool.and_eq_true,Bool.not_eq_true'] at h;exact h
theorem link_small {x:ByteArray} (h:linkB x=true):x.size<4294967281:=by
 unfold linkB at h;rw [Bool.and_eq_true,decide_eq_true_eq] at h;have:=h.1;omega
set_option maxRecDepth 100000 in
theorem RAsc_true (A:Option Addr) (c:Nat) (xs:List ByteArray) (w:World) (B:Nat) (hx:Sl w B A c xs) (ha:ascL xs=true) :
  Calls Tryz.prog 62 #[.slice A xs.length c] w fun e w'=>e=.returned (.bool true)∧Below w.heap.size w w':=by
 have R:=hx.1;have G:=hx.2.1;unfold maxLen at G;have J:=Lh_ hx;have K:=Lh_ ha;clear hx ha;go_enter Tryz.func62,Tryz.ntmps62;go_wp2;go_loopw [3] (fun i wr=>∃ j n:Nat,(j+1≤xs.length∨j=0)∧i=.int .i64 ((j:Int)+1)∧wr=w.drewN n) (fun i _=>xs.length - (intOf i).toNat)
 case atStart =>
  exact ⟨0,0,.inr rfl,by first | rfl | simp,rfl⟩
 obtain ⟨j,n,S,rfl,rfl⟩:=hrel;by_cases hlt:j+1<xs.length
 ·
  have C:j<xs.length:=by omega
  obtain ⟨L,Q,rfl,_,N,_⟩:=J.out.str C;obtain ⟨M,o4,D,_,O,_⟩:=J.out.str hlt;obtain ⟨rfl,rfl⟩:L=M∧Q=o4:=by injection D with D;injection D with h1 h2;exact ⟨h1,h2⟩
  clear D;have P:(j:Int)+1<(xs.length:Int):=by omega
  have H:=asc_next C hlt K.out;obtain ⟨x,hxx⟩:∃ x,xs[j]'C=x:=⟨_,rfl⟩;obtain ⟨y,hyy⟩:∃ y,xs[j+1]'hlt=y:=⟨_,rfl⟩;rw [hxx,hyy] at H;rw [hxx] at N;rw [hyy] at O;clear hxx hyy;have I:IntKind.i64.wrap ((j:Int)+1 - 1)=(j:Int):=by rw [Int.add_sub_cancel];exact IntWalk.i64_in _ (by omega)
  have E:IntKind.i64.wrap (j:Int)=(j:Int):=IntWalk.i64_in _ (by omega);have F:((j:Int)+1).toNat=j+1:=by omega
  have T:0≤(j:Int)+1:=by omega
  go_wp2;go_quiet (fail)
  clear I E F;go_wp2;go_roundw
  case rel=>exact ⟨j+1,_,.inl (by omega),by first | rfl | go_num,rfl⟩
  simp [intOf];omega
 have P:¬ (j:Int)+1<(xs.length:Int):=by omega
 go_wp2;go_ret;exact ⟨by try rfl,below_drewN_self _ _ _⟩
set_option maxRecDepth 100000 in
set_option maxHeartbeats 8000000 in
theorem RSound_any (d:Draft) (h:DH) (w:World) (hd:DSl w w.heap.size d h) (hs:SoundD d) (hok:Ok w):Calls Tryz.prog 27 #[.agg #[.slice h.a0 d.props.length h.c0,.slice h.a1 d.tags.length h.c1,.slice h.a2 d.links.length h.c2,.slice h.a3 d.run.length h.c3,.slice h.a4 d.load.length h.c4,.string d.nm,.int .i64 d.prio,.string d.owner,.string d.group,.int .i64 d.mode,.string d.res,.int .i64 d.calls,.int .i64 d.ticks,.slice h.a5 d.closed.length h.c5]] w fun e w'=>e=.returned (.bool true)∧Below w.heap.size w w':=by
 have W:=Lh_ hd;have A:=Lh_ hs;have Y1:=Lh_ hok;clear hd hs hok;go_enter Tryz.func27,Tryz.ntmps27;go_upto_region 1 with fail
 obtain ⟨w1,T1,N0,O1,X⟩:=bx_ w [.slice h.a0 d.props.length h.c0,.slice h.a1 d.tags.length h.c1,.slice h.a2 d.links.length h.c2,.slice h.a3 d.run.length h.c3,.slice h.a4 d.load.length h.c4,.string d.nm,.int .i64 d.prio,.string d.owner,.string d.group,.int .i64 d.mode,.string d.res,.int .i64 d.calls,.int .i64 d.ticks,.slice h.a5 d.closed.length h.c5] 30;try simp only [T1]
 have K2:=Lh_ (show w.heap.size≤w1.heap.size from N0.size);have T0:=Lh_ N0;clear T1 N0;try rw [← O1.out]
 have ip:¬ (64:Int)<(d.props.length:Int):=by have:=A.out.pl;omega
 have it:¬ (16:Int)<(d.tags.length:Int):=by have:=A.out.tl;omega
 have il:¬ (16:Int)<(d.links.length:Int):=by have:=A.out.ll;omega
 have io:¬ (16:Int)<(d.load.length:Int):=by have:=A.out.ol;omega
 have ir:¬ (16:Int)<(d.run.length:Int):=by have:=A.out.rl;omega
 obtain ⟨F,G,H,Q⟩:=s4_ X.out.1;have R:=X.out.1 4 _ rfl;go_wp2_with fail;refine (RSorted_any h.a0 h.c0 d.props _ w.heap.size (W.out.keep T0.out).1).mono ?_;rintro e w2 ⟨rfl,E0⟩;clear F G H Q R;have L2:=Lh_ (show w1.heap.size≤w2.heap.size from E0.size);have U0:=tb_ T0 E0;have C1:=kb_ X E0;clear E0;rw [A.out.ps];obtain ⟨F,G,H,Q⟩:=s4_ C1.out.1;have R:=C1.out.1 4 _ rfl;go_wp2_with fail;refine (RAsc_true h.a1 h.c1 d.tags _ w.heap.size (W.out.keep U0.out).2.1 A.out.ts).mono ?_;rintro e w3 ⟨rfl,F0⟩;clear F G H Q R;have M2:=Lh_ (show w2.heap.size≤w3.heap.size from F0.size);have V0:=tb_ U0 F0;have D1:=kb_ C1 F0;clear F0;obtain ⟨F,G,H,Q⟩:=s4_ D1.out.1;have R:=D1.out.1 4 _ rfl;go_wp2_with fail;refine (RAsc_true h.a2 h.c2 d.links _ w.heap.size (W.out.keep V0.out).2.2.1 A.out.ls).mono ?_;rintro e w4 ⟨rfl,G0⟩;clear F G H Q R;have N2:=Lh_ (show w3.heap.size≤w4.heap.size from G0.size);have W0:=tb_ V0 G0;have E1:=kb_ D1 G0;clear G0;obtain ⟨F,G,H,Q⟩:=s4_ E1.out.1;have R:=E1.out.1 4 _ rfl;go_wp2_with fail;refine (RAsc_true h.a4 h.c4 d.load _ w.heap.size (W.out.keep W0.out).2.2.2.2.1 A.out.os).mono ?_;rintro e w5 ⟨rfl,H0⟩;clear F G H Q R;have O2:=Lh_ (show w4.heap.size≤w5.heap.size from H0.size);have N1:=tb_ W0 H0;have F1:=kb_ E1 H0;clear H0;obtain ⟨F,G,H,Q⟩:=s4_ F1.out.1;have R:=F1.out.1 4 _ rfl;go_wp2_with fail;clear F G H Q R;go_loopw [3] (fun i wr=>∃ q:Nat,q≤d.props.length∧i=.int .i64 (q:Int)∧Hid (Below w5.heap.size w5 wr)) (fun i _=>d.props.length - (intOf i).toNat)
 case atStart=>exact ⟨0,Nat.zero_le _,rfl,Lh_ (Below.refl _ _)⟩
 obtain ⟨q,hq,rfl,L⟩:=hrel;obtain ⟨wr4,rfl⟩:∃ z,z=wr:=⟨_,rfl⟩;have D:=L.out;have Z1:=Lh_ (show w5.heap.size≤wr4.heap.size from D.size);have T:=tb_ N1 D;have L0:=kb_ F1 D;clear D;have Y:=((W.out.keep T.out).1).1;have P:=((W.out.keep T.out).1).2.1;unfold maxLen at P;by_cases hlq:q<d.props.length
 ·
  have i1:(q:Int)<(d.props.length:Int):=by omega
  have N:=Lh_ hlq;have O0:IntKind.i64.wrap ((q:Int)+1)=(q:Int)+1:=by rw [IntKind.wrap_i64];omega
  have Z:wrap64 ((q:Int)+1)=(q:Int)+1:=by unfold wrap64;omega
  have C:=List.getElem_mem hlq;obtain ⟨b3,o3,hA,_,I,c0,c1⟩:=((W.out.keep T.out).1).attr hlq;obtain ⟨x,hx⟩:∃ y,d.props[q]'hlq=y:=⟨_,rfl⟩;rw [hx] at c0 c1 I C;obtain ⟨g1,g2,g3⟩:=A.out.pg x C;have p1:(x.value.toList == [])=false:=by cases hv:x.value.toList with | nil=>rw [hv] at g3;cases g3 | cons a r=>rfl
  have p2:(x.value.toList == (⟨#[]⟩:ByteArray).toList)=false:=by rw [show (⟨#[]⟩:ByteArray).toList=[] by decide +kernel];exact p1
  have HG:=Lh_ (And.intro g1 g2);have I0:=Lh_ I;clear hx I C g1 g2 g3;have F:=L0.out.1 0 _ rfl;rw [hA] at F;clear hA;go_wp2_with fail;refine (RKey_any x.name _ I0.out.1).mono ?_;rintro e w_ ⟨rfl,B⟩;rw [← B];clear B w_;rw [HG.out.1];go_wp2_with fail;refine (RText_any x.value _ I0.out.2).mono ?_;rintro e w_ ⟨rfl,B⟩;rw [← B];clear B w_;rw [HG.out.2];go_wp2;go_roundw
  case rel=>exact ⟨q+1,N.out,by go_num,Lh_ (below_next L.out (Below.refl _ _))⟩
  exact meas_ N.out
 have i1:¬ (q:Int)<(d.props.length:Int):=by omega
 clear hq Y P hlq;have F:=L0.out.1 0 _ rfl;go_wp2_with fail;clear F;go_loopw [4] (fun i wr=>∃ q:Nat,q≤d.tags.length∧i=.int .i64 (q:Int)∧Hid (Below wr4.heap.size wr4 wr)) (fun i _=>d.tags.length - (intOf i).toNat)
 case atStart=>exact ⟨0,Nat.zero_le _,rfl,Lh_ (Below.refl _ _)⟩
 obtain ⟨q,hq,rfl,L⟩:=hrel;obtain ⟨wr5,rfl⟩:∃ z,z=wr:=⟨_,rfl⟩;have D:=L.out;have A2:=Lh_ (show wr4.heap.size≤wr5.heap.size from D.size);have U:=tb_ T D;have M0:=kb_ L0 D;clear D;have Y:=((W.out.keep U.out).2.1).1;have P:=((W.out.keep U.out).2.1).2.1;unfold maxLen at P;by_cases hlq:q<d.tags.length
 ·
  have i1:(q:Int)<(d.tags.length:Int):=by omega
  have N:=Lh_ hlq;have O0:IntKind.i64.wrap ((q:Int)+1)=(q:Int)+1:=by rw [IntKind.wrap_i64];omega
  have Z:wrap64 ((q:Int)+1)=(q:Int)+1:=by unfold wrap64;omega
  have C:=List.getElem_mem hlq;obtain ⟨b3,o3,hA,_,c0,I⟩:=((W.out.keep U.out).2.1).str hlq;obtain ⟨x,hx⟩:∃ y,d.tags[q]'hlq=y:=⟨_,rfl⟩;rw [hx] at c0 I C;have HG:=Lh_ (A.out.tv x C);have I0:=Lh_ I;clear hx I C;have G:=M0.out.1 1 _ rfl;rw [hA] at G;clear hA;go_wp2_with fail;refine (RValid_any x _ I0.out).mono ?_;rintro e w_ ⟨rfl,B⟩;rw [← B];clear B w_;rw [HG.out];go_wp2;go_roundw
  case rel=>exact ⟨q+1,N.out,by go_num,Lh_ (below_next L.out (Below.refl _ _))⟩
  exact meas_ N.out
 have i1:¬ (q:Int)<(d.tags.length:Int):=by omega
 clear hq Y P hlq;have G:=M0.out.1 1 _ rfl;go_wp2_with fail;clear G;go_loopw [5] (fun i wr=>∃ q:Nat,q≤d.links.length∧i=.int .i64 (q:Int)∧Hid (Below wr5.heap.size wr5 wr)) (fun i _=>d.links.length - (intOf i).toNat)
 case atStart=>exact ⟨0,Nat.zero_le _,rfl,Lh_ (Below.refl _ _)⟩
 obtain ⟨q,hq,rfl,L⟩:=hrel;obtain ⟨wr6,rfl⟩:∃ z,z=wr:=⟨_,rfl⟩;have D:=L.out;have B2:=Lh_ (show wr5.heap.size≤wr6.heap.size from D.size);have M:=tb_ U D;have D0:=kb_ M0 D;clear D;have Y:=((W.out.keep M.out).2.2.1).1;have P:=((W.out.keep M.out).2.2.1).2.1;unfold maxLen at P;by_cases hlq:q<d.links.length
 ·
  have i1:(q:Int)<(d.links.length:Int):=by omega
  have N:=Lh_ hlq;have O0:IntKind.i64.wrap ((q:Int)+1)=(q:Int)+1:=by rw [IntKind.wrap_i64];omega
  have Z:wrap64 ((q:Int)+1)=(q:Int)+1:=by unfold wrap64;omega
  have C:=List.getElem_mem hlq;obtain ⟨b3,o3,hA,_,c0,I⟩:=((W.out.keep M.out).2.2.1).str hlq;obtain ⟨x,hx⟩:∃ y,d.links[q]'hlq=y:=⟨_,rfl⟩;rw [hx] at c0 I C;have HG:=Lh_ (A.out.lv x C);clear hx I C;have H:=D0.out.1 2 _ rfl;rw [hA] at H;clear hA;go_wp2_with fail;refine (RLink_any x _ (link_small HG.out) (Y1.out.next M.out)).mono ?_;rintro e w_ ⟨rfl,J⟩;rw [HG.out];go_wp2;go_roundw
  case rel=>exact ⟨q+1,N.out,by go_num,Lh_ (below_next L.out J)⟩
  exact meas_ N.out
 have i1:¬ (q:Int)<(d.links.length:Int):=by omega
 clear hq Y P hlq;have H:=D0.out.1 2 _ rfl;go_upto_region 18 with fail
 clear H;refine wp_region_held_drew (S:=fun w'=>BoxL w' w.heap.size (drV d h)) (by kernel_rfl) D0.out (fun hS0=>?_);obtain ⟨wd,hwd⟩:∃ z,World.drew wr6=z:=⟨_,rfl⟩;rw [hwd] at hS0 ⊢;have J:Below wr6.heap.size wr6 wd:=by rw [← hwd];exact below_drewN_self _ _ 1
 clear hwd hS0;have P2:=Lh_ (show wr6.heap.size≤wd.heap.size from J.size);have B0:=tb_ M J;have J0:=kb_ D0 J;clear J;have P1:=Lh_ (Below.refl wd.heap.size wd);refine tk1 0 122 (.pointer (some ⟨w.heap.size,4,none⟩)) rfl (fun w' hS=>by go_simp) J0.out ?_;try simp only [zP,zA,zB,zC]
 refine tk1 1 123 (.slice h.a4 d.load.length h.c4) rfl (fun w' hS=>by (have I2:=hS.1 4 _ rfl;go_simp)) J0.out ?_;try simp only [zP,zA,zB,zC]
 refine tk1 3 125 (.pointer (some ⟨w.heap.size,3,none⟩)) rfl (fun w' hS=>by go_simp) J0.out ?_;try simp only [zP,zA,zB,zC]
 refine tk1 4 126 (.slice h.a3 d.run.length h.c3) rfl (fun w' hS=>by (have I2:=hS.1 3 _ rfl;go_simp)) J0.out ?_;try simp only [zP,zA,zB,zC]
 have Q1:=Lh_ (show w.heap.size≤wd.heap.size from B0.out.size);have W1:=Lh_ J0.out.2.2;refine rd1 2 (o:=⟨some 124,.call ⟨_,_,_⟩,_,_,_,_⟩) rfl (fun K hK=>?_);have V:SlS wd (fun b=>(fun _=>True) b∧b<wd.heap.size∧(.slice none 0 0:Value).ownBlock≠some b) h.a4 h.c4 d.load:=(SlS_iff.1 (W.out.keep B0.out).2.2.2.2.1).mono (fun b hb=>⟨trivial,Nat.lt_of_lt_of_le hb B0.out.size,fun e=>by cases e⟩) (fun _ _ _ _ hu=>hu);have I1:=A.out.ol;have J1:=A.out.rl;refine step_app rfl _ _ rfl (.slice none 0 0) (.slice h.a4 d.load.length h.c4) (by simp [Act.eval,Act.put]) (by simp [Act.eval,Act.put]) (run_appL E_txt _ (.slice none 0 0) ([]:List ByteArray) (OwnsS.nil_ (fun _=>True) _ wd.heap.size _) h.a4 h.c4 d.load (.inl V) (by have E2:([]:List ByteArray).length=0:=rfl;unfold maxLen;omega) (by have E2:([]:List ByteArray).length=0:=rfl;omega) P1.out.size) ?_;rintro v1 q6 ⟨E,K0,-⟩;rw [List.nil_append] at E;clear V I1 J1;have J:Below wd.heap.size wd q6:=below_own (Below.refl _ _) K0 (Nat.le_refl _) (fun k hk=>by cases hk);have R0:=Lh_ E;clear E K0;have J2:=Lh_ (show wd.heap.size≤q6.heap.size from J.size);have A0:=tb_ B0 J;have R1:=kb_ J0 J;have Z0:=Lh_ (below_next P1.out J);clear J;refine hK.out _ _ R1.out (fun _=>?_);clear hK K;try simp only [zP,zA,zB,zC]
 refine rd1 5 (o:=⟨some 127,.call ⟨_,_,_⟩,_,_,_,_⟩) rfl (fun K hK=>?_);have V:SlS q6 (fun b=>(fun _=>True) b∧b<q6.heap.size∧v1.ownBlock≠some b) h.a3 h.c3 d.run:=(SlS_iff.1 (W.out.keep A0.out).2.2.2.1).mono (fun b hb=>⟨trivial,Nat.lt_of_lt_of_le hb A0.out.size,fun e=>by have h2:=(R0.out.lt b e).1;have h3:b<w.heap.size:=hb;have:=Q1.out;omega⟩) (fun _ _ _ _ hu=>hu);have I1:=A.out.ol;have J1:=A.out.rl;refine step_app rfl _ _ rfl v1 (.slice h.a3 d.run.length h.c3) (by simp [Act.eval,Act.put]) (by simp [Act.eval,Act.put]) (run_appL E_txt _ v1 d.load R0.out h.a3 h.c3 d.run (.inl V) (by unfold maxLen;omega) (by omega) Z0.out.size) ?_;rintro v2 q7 ⟨E,K0,-⟩;clear V I1 J1;have M1:=Lh_ (below_own A0.out K0 A0.out.size (fun q hq=>Nat.le_trans Q1.out (R0.out.lt q hq).1));have B1:=Lh_ (R1.out.kept K0 (fun e=>by have h2:=(R0.out.lt _ e.symm).1;have:=W1.out;omega));obtain ⟨txs,htx_⟩:∃ z,d.load ++ d.run=z:=⟨_,rfl⟩;rw [htx_] at E;have V1:=Lh_ (show ∀ x ∈ txs,fullT x=true by rw [← htx_];intro x hx;exact (List.mem_append.1 hx).elim (A.out.ov x) (A.out.rv x));obtain ⟨A9,c9,F2,X0⟩:=E.sl;subst F2;have C2:=Lh_ X0;clear E K0 X0 htx_;refine hK.out _ _ (B1.out) (fun _=>?_);clear hK K;try simp only [zP,zA,zB,zC]
 refine tk1 6 6 (.slice A9 txs.length c9) rfl (fun w' hS=>by go_simp) B1.out ?_;try simp only [zP,zA,zB,zC]
 refine wpAnyH_done (by kernel_rfl) ?_ _;go_wp2_with fail;go_loopw [7] (fun i wr=>∃ q:Nat,q≤txs.length∧i=.int .i64 (q:Int)∧Hid (Below q7.heap.size q7 wr)) (fun i _=>txs.length - (intOf i).toNat)
 case atStart=>exact ⟨0,Nat.zero_le _,rfl,Lh_ (Below.refl _ _)⟩
 obtain ⟨q,hq,rfl,L⟩:=hrel;obtain ⟨wr11,rfl⟩:∃ z,z=wr:=⟨_,rfl⟩;have D:=L.out;have U1:=Lh_ (show q7.heap.size≤wr11.heap.size from D.size);have C0:=tb_ M1 D;have G1:=kb_ B1 D;have O:=Lh_ ((C2.out).next (Nat.le_refl _) D);clear D;have Y:=(O.out).1;have P:=(O.out).2.1;unfold maxLen at P;by_cases hlq:q<txs.length
 ·
  have i1:(q:Int)<(txs.length:Int):=by omega
  have N:=Lh_ hlq;have O0:IntKind.i64.wrap ((q:Int)+1)=(q:Int)+1:=by rw [IntKind.wrap_i64];omega
  have Z:wrap64 ((q:Int)+1)=(q:Int)+1:=by unfold wrap64;omega
  have C:=List.getElem_mem hlq;obtain ⟨b3,o3,hA,_,c0,I⟩:=(O.out).str hlq;subst hA;obtain ⟨x,hx⟩:∃ y,txs[q]'hlq=y:=⟨_,rfl⟩;rw [hx] at c0 I C;obtain ⟨g3,g2⟩:=full_parts (V1.out x C);have p1:(x.toList == [])=false:=by cases hv:x.toList with | nil=>rw [hv] at g3;cases g3 | cons a r=>rfl
  have p2:(x.toList == (⟨#[]⟩:ByteArray).toList)=false:=by rw [show (⟨#[]⟩:ByteArray).toList=[] by decide +kernel];exact p1
  have HG:=Lh_ g2;have I0:=Lh_ I;clear hx I C g2 g3;go_wp2_with fail;refine (RText_any x _ I0.out).mono ?_;rintro e w_ ⟨rfl,B⟩;rw [← B];clear B w_;rw [HG.out];go_wp2;go_roundw
  case rel=>exact ⟨q+1,N.out,by go_num,Lh_ (below_next L.out (Below.refl _ _))⟩
  exact meas_ N.out
 have i1:¬ (q:Int)<(txs.length:Int):=by omega
 clear hq Y P hlq;have H3:¬ d.prio < -1000:=by have:=A.out.pr.1;omega
 have I3:¬ (1000:Int)<d.prio:=by have:=A.out.pr.2;omega
 have F3:¬ d.mode<0:=by have:=A.out.mo.1;omega
 have G3:¬ (4095:Int)<d.mode:=by have:=A.out.mo.2;omega
 have L3 : -1000≤d.prio:=A.out.pr.1;have M3:d.prio≤1000:=A.out.pr.2;have J3:0≤d.mode:=A.out.mo.1;have K3:d.mode≤4095:=A.out.mo.2;have HO:=Lh_ W.out.2.2.2.2.2.2;obtain ⟨F,G,H,Q,R,Z2,A3,B3,C3,D3,Q2,R2,S2,T2⟩:=s14_ G1.out.1;by_cases hve:d.nm.toList.isEmpty=true
 ·
  have p1:(d.nm.toList == [])=true:=by cases hv:d.nm.toList with | nil=>rfl | cons a r=>rw [hv] at hve;cases hve
  have p2:(d.nm.toList == (⟨#[]⟩:ByteArray).toList)=true:=by rw [show (⟨#[]⟩:ByteArray).toList=[] by decide +kernel];exact p1
  clear hve;go_wp2_with fail;refine (RValid_any d.owner _ HO.out.2.2.1).mono ?_;rintro e w_ ⟨rfl,B⟩;rw [← B];clear B w_;rw [A.out.ow];go_wp2_with fail;refine (RValid_any d.group _ HO.out.2.2.2.1).mono ?_;rintro e w_ ⟨rfl,B⟩;rw [← B];clear B w_;rw [A.out.gr];go_wp2_with fail;refine (RText_any d.res _ HO.out.2.2.2.2.2.1).mono ?_;rintro e w_ ⟨rfl,B⟩;rw [← B];clear B w_;rw [A.out.rs];go_wp2;go_ret;exact ⟨by try rfl,C0.out⟩
 have X1:=Lh_ (show ifaceB d.nm=true from A.out.nm.resolve_left hve);have p1:(d.nm.toList == [])=false:=by cases hv:d.nm.toList with | nil=>rw [hv] at hve;exact absurd rfl hve | cons a r=>rfl
 have p2:(d.nm.toList == (⟨#[]⟩:ByteArray).toList)=false:=by rw [show (⟨#[]⟩:ByteArray).toList=[] by decide +kernel];exact p1
 clear hve;go_wp2_with fail;refine (RInterface_any d.nm _ HO.out.1).mono ?_;rintro e w_ ⟨rfl,B⟩;rw [← B];clear B w_;rw [X1.out];go_wp2_with fail;refine (RValid_any d.owner _ HO.out.2.2.1).mono ?_;rintro e w_ ⟨rfl,B⟩;rw [← B];clear B w_;rw [A.out.ow];go_wp2_with fail;refine (RValid_any d.group _ HO.out.2.2.2.1).mono ?_;rintro e w_ ⟨rfl,B⟩;rw [← B];clear B w_;rw [A.out.gr];go_wp2_with fail;refine (RText_any d.res _ HO.out.2.2.2.2.2.1).mono ?_;rintro e w_ ⟨rfl,B⟩;rw [← B];clear B w_;rw [A.out.rs];go_wp2;go_ret;exact ⟨by try rfl,C0.out⟩
end Go.Cold
