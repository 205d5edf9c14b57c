/-
  AssignFinishes: row and card.
 Conditions: those of the given row and card (the listed variables of the library hold what the text lays),nothing else.
-/
import Derived.Test.YtjpoljlgkgmdkaaGreatDoorMVQ
import Derived.Test.YtjpoljlgkgmdkaaGreatDoorMVU
import Derived.ShutString
set_option linter.unusedSimpArgs false
set_option linter.unusedVariables false
namespace Go.Cold
open Go Go.RowKit Go.Proofs.YtjpoljlgkgmdkaaGreatDoor
theorem check_attrs13 {d:Dev} (h:checkD d=0):d.attrs.length≤24:=by
 rw [checkD_eq] at h;by_cases h1:rangeB d <;> by_cases h2:namedB d <;> by_cases h3:kindB d <;> by_cases h4:numberB d <;> by_cases h5:d.attrs.length≤24 <;> simp_all
end Go.Cold
namespace Go.Proofs.YtjpoljlgkgmdkaaGreatDoor
open Go.RowKit Go.Cold
set_option maxRecDepth 100000 in
set_option maxHeartbeats 16000000 in
theorem lawFinishes13_any (A:Option Addr) (c:Nat) (xs:List Int) (w:World) (hok:Ok w) (h7:Ok7 w) (hx:Sl w w.heap.size A c xs) :
  Calls Tryz.prog 10 #[.slice A xs.length c] w fun e w'=>e=.returned (.bool true)∧Below w.heap.size w w':=by
 have P2:=Lh_ (notG_of hok);have A0:=Lh_ hok;have H7:=Lh_ h7;have HX:=Lh_ hx;clear hok h7 hx;have D4:=Lh_ (zero_of_info (P:=Tryz.prog) (t:=30) info_draft2).1;have T5:=Lh_ (zero_of_info (P:=Tryz.prog) (t:=35) info_term3).1;go_enter Tryz.func10,Tryz.ntmps10;go_upto_region 2 with fail
 have N:=tape_new HX.out;obtain ⟨w1,hw1⟩:∃ z,w.alloc (.cells #[.slice A xs.length c,.int .i64 0] 25)=z:=⟨_,rfl⟩;rw [hw1] at N;have D:Below w.heap.size w w1:=by rw [← hw1];exact (Below.refl _ _).alloc (Nat.le_refl _) _
 have O2:=Lh_ (show w.heap.size<w1.heap.size by rw [← hw1];simp);try simp only [hw1]
 have B4:=Lh_ N;clear hw1 N;have K5:=Lh_ (show w.heap.size≤w1.heap.size from D.size);have V:=Lh_ D;clear D;go_wp2_with fail;refine (Tree_any xs 0 w.heap.size w.heap.size 8 w1 (by decide) B4.out ⟨by decide,by decide⟩ (A0.out.next V.out) P2.out).mono ?_;rintro e w2 ⟨AT,cT,L,k1,rfl,C3,Z4,W0,B3,G,E⟩;have J2:=Lh_ (show TreeIn w2 w.heap.size (fun x=>w1.heap.size≤x∧x<w2.heap.size) AT cT L from ⟨W0,fun x hx=>by have:=O2.out;omega,fun x hx=>hx.2⟩);have U0:=Lh_ C3;have S3:=Lh_ (show L.length≤8 by omega);have M2:=Lh_ B3;have W5:=W0.1;have B5:=W0.2.1;unfold maxLen at B5;clear C3 Z4 W0 B3;have D2:=Lh_ (below_of_grown V.out E V.out.size (Nat.le_refl _));have M1:=Lh_ G;have Z:=Lh_ (Nat.lt_of_lt_of_le O2.out E.size);clear G E;go_upto_region 3 with fail
 obtain ⟨w3,D3,I,Z0,E0⟩:=bx_ w2 [.slice AT L.length cT] 47;try simp only [D3]
 have C0:=Lh_ I;have L5:=Lh_ (show w2.heap.size≤w3.heap.size from I.size);have X0:=tb_ D2 I;have N1:=Lh_ (M1.out.kept (grown_none I) (fun e=>by cases e) (fun g e=>by cases e));have K1:=Lh_ (Nat.lt_of_lt_of_le Z.out (I).size);clear D3 I;try rw [← Z0.out]
 have A1:=Lh_ (show TreeIn w3 w.heap.size (fun x=>w1.heap.size≤x∧x<w2.heap.size) AT cT L from ⟨J2.out.sl.below C0.out (fun x hx=>hx.2),J2.out.ne,fun x hx=>by have:=Z0.out;have:=hx.2;omega⟩);have H2:=Lh_ (show w.heap.size<w2.heap.size from Z.out);have J0:=E0.out.1 0 _ rfl;go_wp2_with fail;refine (Some_any xs k1 w.heap.size w.heap.size AT cT L _ w3 (by have:=M2.out;omega) N1.out A1.out (fun d hd=>(U0.out.small d hd).2) (by have:=S3.out;omega)).mono ?_;rintro e w4 ⟨n,k2,rfl,hn,Y4,G,E⟩;have K2:=Lh_ (A1.out.tape E);have HN:=Lh_ (show okI n by unfold okI;omega);have Q3:=Lh_ (show k2≤1002 by have:=M2.out;omega);clear hn Y4;clear J0;have X:=Lh_ (below_of_grown X0.out E X0.out.size (Nat.le_refl _));have O1:=Lh_ G;have L1:=Lh_ (Nat.lt_of_lt_of_le K1.out E.size);have D5:=kg_ E0 E (by have:=H2.out;omega);clear G E;go_wp2_with fail;refine (draft_any 8 xs k2 w w4 ⟨by decide,by decide⟩ A0.out H7.out P2.out X.out (by have:=Q3.out;omega) O1.out).mono ?_;rintro e w5 ⟨K,U,p0,rfl,A3,Z2,A5,G,E⟩;have L2:=Lh_ (K2.out.tape E);have F2:=Lh_ A3;have P3:=Lh_ Z2.sl;have V3:=Lh_ L2.out.out;clear A3 Z2 A5;have E2:=Lh_ (below_of_grown X.out E X.out.size (Nat.le_refl _));have C4:=Lh_ G;have R3:=Lh_ (Nat.lt_of_lt_of_le L1.out E.size);have E5:=kg_ D5 E (by have:=H2.out;omega);clear G E;have C5:=D4.out;go_upto_region 5 with fail
 obtain ⟨w6,E3,J,I2,D0⟩:=bx_ w5 [.slice U.a0 K.props.length U.c0,.slice U.a1 K.tags.length U.c1,.slice U.a2 K.links.length U.c2,.slice U.a3 K.run.length U.c3,.slice U.a4 K.load.length U.c4,.string K.nm,.int .i64 K.prio,.string K.owner,.string K.group,.int .i64 K.mode,.string K.res,.int .i64 K.calls,.int .i64 K.ticks,.slice U.a5 K.closed.length U.c5] 30;try simp only [E3]
 have M5:=Lh_ (show w5.heap.size≤w6.heap.size from J.size);have Y0:=tb_ E2 J;have I3:=kb_ E5 J;have Y:=Lh_ ((P3.out).next (Nat.le_refl _) J);have B0:=Lh_ ((V3.out).next (Nat.le_refl _) J);clear E3 J;try rw [← I2.out]
 clear C5;have N2:=Lh_ (show ∀ z ∈ L,z.attrs.length≤1000000 from fun z hz=>by have:=check_attrs13 (U0.out.chk z hz);omega);obtain ⟨r,hr⟩:∃ z,finD L n K=z:=⟨_,rfl⟩;obtain ⟨fb,hfb⟩:∃ z,(findD L n).isSome=z:=⟨_,rfl⟩;have HR:=Lh_ hr;have G2:=Lh_ hfb;clear hr hfb;obtain ⟨P1,Q1,R1,S1,T1,U1,V1,W1,X1,Y1,F0,G0,H0,I0⟩:=s14_ D0.out.1;have J0:=I3.out.1 0 _ rfl;go_wp2_with fail;refine (Finish_any K U AT cT L n w6 Y.out (F2.out.pre (by omega)) B0.out U0.out HN.out N2.out (A0.out.next Y0.out)).mono ?_;rintro e w11 hp_;rw [HR.out,G2.out] at hp_;obtain ⟨F,ha,rfl,L0⟩:=hp_;have T3:=Lh_ L0;clear L0;clear P1 Q1 R1 S1 T1 U1 V1 W1 X1 Y1 F0 G0 H0 I0 J0;have W3:=Lh_ (show w6.heap.size≤w11.heap.size from F.size);have F1:=tb_ Y0 F;have F3:=kb_ I3 F;have V2:=kb_ D0 F;have M0:=Lh_ ((Y.out).next (Nat.le_refl _) F);have R0:=Lh_ ((B0.out).next (Nat.le_refl _) F);clear F;have Z1:=(zero_of_info (P:=Tryz.prog) (t:=60) info_rec2).1;go_upto_region 6 with fail
 obtain ⟨A2,C1,C,I1,V0⟩:=bx_ w11 [.string r.path,.int .i64 r.idx,.slice ha.a0 r.props.length ha.c0,.slice ha.a1 r.tags.length ha.c1,.slice ha.a2 r.links.length ha.c2,.slice ha.a3 r.run.length ha.c3,.slice ha.a4 r.load.length ha.c4,.string r.nm,.int .i64 r.prio,.string r.owner,.string r.group,.int .i64 r.mode] 60;try simp only [C1]
 have X3:=Lh_ (show w11.heap.size≤A2.heap.size from C.size);have W:=tb_ F1 C;have E1:=kb_ F3 C;have B1:=kb_ V2 C;have O:=Lh_ ((M0.out).next (Nat.le_refl _) C);have S:=Lh_ ((R0.out).next (Nat.le_refl _) C);have P0:=Lh_ ((T3.out).next C);clear C1 C;try rw [← I1.out]
 clear Z1;obtain ⟨P1,Q1,R1,S1,T1,U1,V1,W1,X1,Y1,F0,G0,H0,I0⟩:=s14_ B1.out.1;have J0:=E1.out.1 0 _ rfl;go_wp2_with fail;refine (RFinish_any K U AT cT L n A2 O.out (F2.out.pre (by omega)) S.out U0.out HN.out N2.out (A0.out.next W.out)).mono ?_;rintro e w15 hp_;rw [HR.out,G2.out] at hp_;obtain ⟨F,D,rfl,L0⟩:=hp_;have U3:=Lh_ L0;clear L0;clear P1 Q1 R1 S1 T1 U1 V1 W1 X1 Y1 F0 G0 H0 I0 J0;have Y3:=Lh_ (show A2.heap.size≤w15.heap.size from F.size);have G1:=tb_ W F;have G3:=kb_ E1 F;have W2:=kb_ B1 F;have Q2:=kb_ V0 F;have N0:=Lh_ ((O.out).next (Nat.le_refl _) F);have S0:=Lh_ ((S.out).next (Nat.le_refl _) F);have Q0:=Lh_ ((P0.out).next F);clear F;have Z1:=(zero_of_info (P:=Tryz.prog) (t:=60) info_rec2).1;go_upto_region 7 with fail
 obtain ⟨J3,D1,B,J1,H⟩:=bx_ w15 [.string r.path,.int .i64 r.idx,.slice D.a0 r.props.length D.c0,.slice D.a1 r.tags.length D.c1,.slice D.a2 r.links.length D.c2,.slice D.a3 r.run.length D.c3,.slice D.a4 r.load.length D.c4,.string r.nm,.int .i64 r.prio,.string r.owner,.string r.group,.int .i64 r.mode] 60;try simp only [D1]
 have Z3:=Lh_ (show w15.heap.size≤J3.heap.size from B.size);have H1:=tb_ G1 B;have H3:=kb_ G3 B;have X2:=kb_ W2 B;have T:=kb_ Q2 B;have O0:=Lh_ ((N0.out).next (Nat.le_refl _) B);have T0:=Lh_ ((S0.out).next (Nat.le_refl _) B);have Q:=Lh_ ((Q0.out).next B);have R:=Lh_ ((U3.out).next B);clear D1 B;try rw [← J1.out]
 clear Z1;obtain ⟨E4,F4,G4,H4,I4,J4,K4,L4,M4,N4⟩:=s10_ T.out.1;have R2:=T.out.1 10 _ rfl;have S2:=T.out.1 11 _ rfl;obtain ⟨O4,P4,Q4,R4,S4,T4,U4,V4,W4,X4⟩:=s10_ H.out.1;have T2:=H.out.1 10 _ rfl;have U2:=H.out.1 11 _ rfl;have U5:(fb == fb)=true:=by cases fb <;> rfl
 go_wp2_with fail;refine (SameRecord_same r ha D _ Q.out R.out).mono ?_;rintro e w20 ⟨rfl,F⟩;clear E4 F4 G4 H4 I4 J4 K4 L4 M4 N4 R2 S2 O4 P4 Q4 R4 S4 T4 U4 V4 W4 X4 T2 U2;have A4:=Lh_ (show J3.heap.size≤w20.heap.size from F.size);have M:=tb_ H1 F;have R5:=kb_ H3 F;have P5:=kb_ X2 F;have N5:=kb_ T F;have O5:=kb_ H F;have K3:=Lh_ ((O0.out).next (Nat.le_refl _) F);have N3:=Lh_ ((T0.out).next (Nat.le_refl _) F);have L3:=Lh_ ((Q.out).next F);have M3:=Lh_ ((R.out).next F);clear F;go_wp2_with fail;refine (known13_any _ (A0.out.next M.out) (H7.out.below M.out)).mono ?_;rintro e w_ ⟨rfl,Y2⟩;have O3:=Lh_ (below_next M.out Y2);clear Y2;go_wp2;go_ret;exact ⟨by try rfl,O3.out⟩
end Go.Proofs.YtjpoljlgkgmdkaaGreatDoor
namespace Go.Proofs
open Go.Shelf
def Tryz.laysM146_ren:Go.Shelf.Ren:=⟨fun | 146=>42 | 221=>87 | 268=>131 | 138=>132 | 143=>133 | 195=>161 | 197=>162 | 218=>163 | 219=>164 | 260=>193 | 217=>173 | 225=>194 | 224=>195 | 267=>196 | 266=>204 | 314=>211 | n=>n,fun | 9=>9 | 31=>27 | 3=>3 | 4=>4 | 0=>0 | 105=>174 | 21=>21 | 5=>5 | 46=>168 | 119=>217 | 139=>220 | 138=>219 | 146=>221 | 51=>205 | n=>n,fun | 1=>0 | 3=>5 | 4=>6 | n=>n⟩
theorem Tryz.laysM146:Go.Proofs.LaysM.n146 Tryz.prog Tryz.laysM146_ren:={
 mixed:=by kernel_rfl
 f138:=Tryz.func132.trans (congrArg some (by kernel_rfl))
 f143:=Tryz.func133.trans (congrArg some (by kernel_rfl))
 f146:=Tryz.func42.trans (congrArg some (by kernel_rfl))
 f195:=Tryz.func161.trans (congrArg some (by kernel_rfl))
 f197:=Tryz.func162.trans (congrArg some (by kernel_rfl))
 f217:=Tryz.func173.trans (congrArg some (by kernel_rfl))
 f218:=Tryz.func163.trans (congrArg some (by kernel_rfl))
 f219:=Tryz.func164.trans (congrArg some (by kernel_rfl))
 f221:=Tryz.func87.trans (congrArg some (by kernel_rfl))
 f224:=Tryz.func195.trans (congrArg some (by kernel_rfl))
 f225:=Tryz.func194.trans (congrArg some (by kernel_rfl))
 f260:=Tryz.func193.trans (congrArg some (by kernel_rfl))
 f266:=Tryz.func204.trans (congrArg some (by kernel_rfl))
 f267:=Tryz.func196.trans (congrArg some (by kernel_rfl))
 f268:=Tryz.func131.trans (congrArg some (by kernel_rfl))
 f314:=Tryz.func211.trans (congrArg some (by kernel_rfl))
 t0:=Tryz.underlying0
 a0:=Tryz.isAgg0
 z0:=Tryz.sizeOf0
 v0:=Tryz.zeroValue0
 t3:=Tryz.underlying3
 a3:=Tryz.isAgg3
 z3:=Tryz.sizeOf3
 v3:=Tryz.zeroValue3
 t4:=Tryz.underlying4
 a4:=Tryz.isAgg4
 z4:=Tryz.sizeOf4
 v4:=Tryz.zeroValue4
 t5:=Tryz.underlying5
 a5:=Tryz.isAgg5
 z5:=Tryz.sizeOf5
 v5:=Tryz.zeroValue5
 t9:=Tryz.underlying9
 a9:=Tryz.isAgg9
 z9:=Tryz.sizeOf9
 v9:=Tryz.zeroValue9
 t21:=Tryz.underlying21
 a21:=Tryz.isAgg21
 z21:=Tryz.sizeOf21
 v21:=Tryz.zeroValue21
 t31:=Tryz.underlying27
 a31:=Tryz.isAgg27
 z31:=Tryz.sizeOf27
 v31:=Tryz.zeroValue27
 t46:=Tryz.underlying168
 a46:=Tryz.isAgg168
 z46:=Tryz.sizeOf168
 v46:=Tryz.zeroValue168
 t51:=Tryz.underlying205
 a51:=Tryz.isAgg205
 z51:=Tryz.sizeOf205
 v51:=Tryz.zeroValue205
 t105:=Tryz.underlying174
 a105:=Tryz.isAgg174
 z105:=Tryz.sizeOf174
 v105:=Tryz.zeroValue174
 t119:=Tryz.underlying217
 a119:=Tryz.isAgg217
 z119:=Tryz.sizeOf217
 t138:=Tryz.underlying219
 a138:=Tryz.isAgg219
 z138:=Tryz.sizeOf219
 v138:=Tryz.zeroValue219
 t139:=Tryz.underlying220
 a139:=Tryz.isAgg220
 z139:=Tryz.sizeOf220
 v139:=Tryz.zeroValue220
 t146:=Tryz.underlying221
 a146:=Tryz.isAgg221
 z146:=Tryz.sizeOf221
 v146:=Tryz.zeroValue221
 g1:=by kernel_rfl
 g3:=by kernel_rfl
 g4:=by kernel_rfl
 i0:=by kernel_rfl
 i3:=by kernel_rfl
 i4:=by kernel_rfl
 i5:=by kernel_rfl
 i9:=by kernel_rfl
 i21:=by kernel_rfl
 i31:=by kernel_rfl
 i46:=by kernel_rfl
 i51:=by kernel_rfl
 i105:=by kernel_rfl
 i138:=by kernel_rfl
 i139:=by kernel_rfl
 i146:=by kernel_rfl
 m1:=by kernel_rfl
 s1_3:=fun w h=>Go.Proofs.cell_of_shapedOpen_int (zero:=#[.int .i64 0]) (t:=3) h (of_decide_eq_true (by kernel_rfl)) (by kernel_rfl) rfl (by kernel_rfl) (by kernel_rfl) Tryz.underlying3
 m3:=by kernel_rfl
 m4:=by kernel_rfl }
end Go.Proofs
namespace Go.Proofs.YtjpoljlgkgmdkaaGreatDoor
open Go.RowKit Go.Cold
namespace cAssignFinishes
open Go.ChangeShapes Go.WideShapes Go.ChangeAt
open Go.ChangeMaps (open_string)
set_option maxRecDepth 100000
theorem reads (os:Os) {H:Type} (enc:TypeId × Value→H):∃ places,DataW.whole enc Tryz.prog ((World.laidAll Tryz.prog os Rows.assignFinishesRow.laid).forCall (fun _ _=>0) ⟨#[],#[.slice none 0 0],[]⟩).memory Tryz.f10.params.toList Rows.assignFinishesSpec.vars false (#[.slice none 0 0]:Array Value).toList 8=some ([.nil],[],places) :=
 ⟨[],by kernel_rfl⟩
theorem lifted (os:Os) (started:os.Started) (H:Type) (enc:TypeId × Value→H) (F:Stop.Interp) :
  ReturnsInHanded {} Tryz.checked os 10 .any ((OpenSpec.ofChange Rows.assignFinishesSpec).preRow enc Tryz.prog Tryz.f10 Rows.assignFinishesRow.domain false Rows.assignFinishesRow.laid) (((OpenSpec.ofChange Rows.assignFinishesSpec).at F).post enc Tryz.prog Tryz.f10 false true false false):=by
 obtain ⟨A,C⟩:=reads os enc;refine law_lifted os started H enc F (by kernel_rfl) Tryz.func10 #[.slice none 0 0] (World.shaped_of_ZipB (by kernel_rfl) (by kernel_rfl)) (by kernel_rfl)
  (OpenSpec.preRow_of_cond 8 C (by kernel_rfl) (fun k hk=>by cases hk) (by kernel_rfl) (laidMet_laidAll _ (by kernel_rfl) (by kernel_rfl))) rfl rfl
  (fun ds hl=>by
   rw [Tryz.params10] at hl;match ds,hl with
   | [J],_=>rfl) (by kernel_rfl) ?_
 intro W base args ds ps hval hA hlt hz hsh hlaid;rw [Tryz.params10] at hA hval;obtain ⟨E,O,J,K,P,Q,B,rfl,rfl,L,M⟩:=trodAll_cons hA;obtain ⟨rfl,rfl,rfl⟩:=trodAll_nil M;obtain rfl:args=#[E]:=by cases args;simp_all
 obtain ⟨G,I,D,rfl,N⟩:=open_nums Tryz.underlying22 Tryz.underlying3 (by kernel_rfl) (hval 0 22 E rfl rfl) L (fun x C=>hlt x (List.mem_append_left _ C));exact lawFinishes13_any G I D W (show Ok W from Tryz.laysM146.s1_3 W hsh) (okf8 hlaid) N
theorem said:Rows.AssignFinishesSaid :=
 OpenClaim.holds_of_cond 10 Tryz.f10 rfl rfl rfl rfl rfl rfl rfl ⟨rfl,rfl,rfl,rfl,rfl⟩ rfl rfl rfl rfl rfl (by kernel_rfl) Tryz.func10 (by kernel_rfl)
  (of_decide_eq_true (by kernel_rfl)) (by unfold Func.isWrapper;first | (rw [if_pos (by decide +kernel)];kernel_rfl) | (rw [if_neg (by decide +kernel)];exact ⟨rfl,rfl⟩))
  (fun os started H enc _ F=>by rw [OpenClaim.pre_eq_preRow];exact lifted os started H enc F)
theorem plain (f:FuncId) (fn:Func) (hf:Tryz.pinned.checked.prog.funcNamed Rows.assignFinishesRow.func=some f) (hfn:Tryz.pinned.checked.prog.funcs[f]? = some fn) :
  true=Tryz.pinned.checked.prog.looks []∧∀ (j:Nat) t,fn.params[j]? = some t→Tryz.pinned.checked.prog.wantsStandIn t=false:=by
 obtain rfl:f=10:=Option.some.inj ((show Tryz.prog.funcNamed Rows.assignFinishesRow.func=some 10 by kernel_rfl).symm.trans hf) |>.symm;obtain rfl:fn=Tryz.f10:=(Option.some.inj (Tryz.func10.symm.trans hfn)).symm;refine ⟨by kernel_rfl,fun j t ht=>?_⟩;rw [Tryz.params10] at ht;have B:t ∈ [22]:=by simpa using Array.mem_of_getElem? ht
 have A:([22].all fun u=>!Tryz.prog.wantsStandIn u)=true:=by kernel_rfl
 exact (show Tryz.prog.wantsStandIn t=false by simpa using List.all_eq_true.1 A t B)
theorem card:Rows.AssignFinishesCardSaid :=
 Claim7.holds_tied_plain_at .later [] _ _ _ _ said (fun _ h=>by cases h) (by kernel_rfl) (fun _ h=>by cases h) assignFinishes_row_tie rfl ⟨rfl,rfl⟩ (by kernel_rfl) rfl plain (by kernel_rfl)
end cAssignFinishes
end Go.Proofs.YtjpoljlgkgmdkaaGreatDoor
