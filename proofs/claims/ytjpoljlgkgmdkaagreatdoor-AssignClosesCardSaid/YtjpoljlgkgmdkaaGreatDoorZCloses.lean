/-
  AssignCloses: row and card.
 Conditions: those of the given row and card (the listed variables of the library hold what the text lays),nothing else.
-/
import Derived.Test.YtjpoljlgkgmdkaaGreatDoorKTK
import Derived.Test.YtjpoljlgkgmdkaaGreatDoorKVI
import Derived.Test.YtjpoljlgkgmdkaaGreatDoorKVQ
import Derived.Test.YtjpoljlgkgmdkaaGreatDoorKD
import Derived.ShutString
set_option linter.unusedSimpArgs false
set_option linter.unusedVariables false
namespace Go.Cold
open Go Go.RowKit Go.Proofs.YtjpoljlgkgmdkaaGreatDoor
def closedTo (d:Draft) (t:Term4) (k:Nat):Bool:=(d.closed.take k).any fun c=>decide (c.key=t.key) && decide (c.nm=t.nm)
theorem closedTo_0 (d:Draft) (t:Term4):closedTo d t 0=false:=rfl
theorem closedTo_step {d:Draft} {t:Term4} {k:Nat} {c:Term4} (hc:d.closed[k]? = some c):closedTo d t (k+1)=(closedTo d t k || (decide (c.key=t.key) && decide (c.nm=t.nm))):=by
 obtain ⟨B,A⟩:=List.getElem?_eq_some_iff.1 hc;unfold closedTo;rw [List.take_succ_eq_append_getElem B,List.any_append,A];simp
theorem closedTo_end (d:Draft) (t:Term4):closedTo d t d.closed.length=closedB d t:=by unfold closedTo closedB;rw [List.take_length]
end Go.Cold
namespace Go.Proofs.YtjpoljlgkgmdkaaGreatDoor
open Go.RowKit Go.Cold
set_option maxRecDepth 100000 in
set_option maxHeartbeats 16000000 in
theorem lawCloses13_any (A:Option Addr) (c:Nat) (xs:List Int) (w:World) (hok:Ok w) (h7:Ok7 w) (hx:Sl w w.heap.size A c xs) :
  Calls Tryz.prog 7 #[.slice A xs.length c] w fun e w'=>e=.returned (.bool true)∧Below w.heap.size w w':=by
 have G5:=Lh_ (notG_of hok);have K3:=Lh_ hok;have H7:=Lh_ h7;have HX:=Lh_ hx;clear hok h7 hx;have H4:=Lh_ (zero_of_info (P:=Tryz.prog) (t:=30) info_draft2).1;have N5:=Lh_ (zero_of_info (P:=Tryz.prog) (t:=35) info_term3).1;go_enter Tryz.func7,Tryz.ntmps7;go_upto_region 2 with fail
 have I1:=tape_new HX.out;obtain ⟨w1,hw1⟩:∃ z,w.alloc (.cells #[.slice A xs.length c,.int .i64 0] 25)=z:=⟨_,rfl⟩;rw [hw1] at I1;have U3:Below w.heap.size w w1:=by rw [← hw1];exact (Below.refl _ _).alloc (Nat.le_refl _) _
 have D4:=Lh_ (show w.heap.size<w1.heap.size by rw [← hw1];simp);try simp only [hw1]
 have L5:=Lh_ I1;clear hw1 I1;have W5:=Lh_ (show w.heap.size≤w1.heap.size from U3.size);have N1:=Lh_ U3;clear U3;go_wp2_with fail;refine (draft_any 5 xs 0 w w1 ⟨by decide,by decide⟩ K3.out H7.out G5.out N1.out (by decide) L5.out).mono ?_;rintro e w2 ⟨d0,h0,p0,rfl,O4,N4,R4,T,I⟩;have C5:=Lh_ O4;have F4:=Lh_ R4;clear O4 R4;have Y3:=Lh_ (below_of_grown N1.out I N1.out.size (Nat.le_refl _));have N3:=Lh_ T;have Q1:=Lh_ (Nat.lt_of_lt_of_le D4.out I.size);clear T I;have B4:=Lh_ (N4.more (N':=NoD w w2.heap.size) (fun x hx q=>q.elim (fun h=>by have:=D4.out;show x≤w1.heap.size;omega) (fun h=>by omega)));have Y:=Lh_ (show w.heap.size<w2.heap.size from Q1.out);clear N4;have X3:=H4.out;go_upto_region 3 with fail
 obtain ⟨w3,U4,C0,C4,S3⟩:=bx_ w2 [.slice h0.a0 d0.props.length h0.c0,.slice h0.a1 d0.tags.length h0.c1,.slice h0.a2 d0.links.length h0.c2,.slice h0.a3 d0.run.length h0.c3,.slice h0.a4 d0.load.length h0.c4,.string d0.nm,.int .i64 d0.prio,.string d0.owner,.string d0.group,.int .i64 d0.mode,.string d0.res,.int .i64 d0.calls,.int .i64 d0.ticks,.slice h0.a5 d0.closed.length h0.c5] 30;try simp only [U4]
 have X5:=Lh_ (show w2.heap.size≤w3.heap.size from C0.size);have Q2:=tb_ Y3 C0;have O3:=Lh_ (N3.out.kept (grown_none C0) (fun e=>by cases e) (fun g e=>by cases e));have I3:=Lh_ (Nat.lt_of_lt_of_le Q1.out (C0).size);have D3:=Lh_ (B4.out.below C0);clear U4 C0;try rw [← C4.out]
 clear X3;go_wp2_with fail;refine (Next_lit 14 xs p0 w.heap.size w.heap.size w3 (by have:=F4.out;omega) O3.out (by decide) (by decide)).mono ?_;rintro e w4 ⟨m0,U2,T2,rfl,T,I⟩;have E2:=Lh_ (show 0≤m0∧m0<14 from ⟨U2,T2⟩);clear U2 T2;have Z3:=Lh_ (below_of_grown Q2.out I Q2.out.size (Nat.le_refl _));have P3:=Lh_ T;have J3:=Lh_ (Nat.lt_of_lt_of_le I3.out I.size);have Q5:=Lh_ (S3.out.kept I (fun e=>by have:=Option.some.inj e;have:=Y.out;omega));have E3:=Lh_ (D3.out.grown I (.inl (.inl (Nat.le_refl _))));clear T I;go_wp2_with fail;go_loopw [5] (fun i wr=>∃ (m:Int) (d:Draft) (h:DH) (p c2:Nat),i=.int .i64 m∧(0≤m∧m≤13∧(c2:Int)+m≤21)∧Hid (DraftI c2 d)∧Hid ((p:Int)+8 * m≤3000)∧Hid (BoxL wr w2.heap.size (drV d h))∧Hid (DFr (NoD w w2.heap.size) wr d h)∧Hid (TapeAt wr w.heap.size w.heap.size xs p)∧Hid (Below w.heap.size w wr)∧Hid (w.heap.size<wr.heap.size)) (fun i _=>(intOf i).toNat)
 case atStart=>exact ⟨m0,d0,h0,p0+1,8,rfl,⟨E2.out.1,by have:=E2.out.2;omega,by have:=E2.out.2;omega⟩,C5,Lh_ (by have:=F4.out;have:=E2.out.2;omega),Q5,E3,P3,Z3,J3⟩
 obtain ⟨m,d,h,p,c2,rfl,hm,E4,F2,R3,D5,M5,M1,F5⟩:=hrel;obtain ⟨wo,rfl⟩:∃ z,z=wr:=⟨_,rfl⟩;obtain ⟨M6,N6,O6⟩:=hm;have R3:=Lh_ (show BoxL wo w2.heap.size [.slice h.a0 d.props.length h.c0,.slice h.a1 d.tags.length h.c1,.slice h.a2 d.links.length h.c2,.slice h.a3 d.run.length h.c3,.slice h.a4 d.load.length h.c4,.string d.nm,.int .i64 d.prio,.string d.owner,.string d.group,.int .i64 d.mode,.string d.res,.int .i64 d.calls,.int .i64 d.ticks,.slice h.a5 d.closed.length h.c5] from R3.out);by_cases hlt:0<m
 ·
  go_wp2_with fail;refine (term_any xs p w.heap.size w.heap.size wo (by have:=F2.out;omega) M5.out).mono ?_;rintro e w12 ⟨t,y,j,rfl,V4,T4,W2,P4,T,I⟩;have L3:=Lh_ V4;have G4:=Lh_ W2;have HJ:=Lh_ P4;clear V4 T4 W2 P4;have A3:=Lh_ (below_of_grown M1.out I M1.out.size (Nat.le_refl _));have H2:=Lh_ T;have J1:=Lh_ (Nat.lt_of_lt_of_le F5.out I.size);have R2:=Lh_ (R3.out.kept I (fun e=>by have:=Option.some.inj e;have:=Y.out;omega));have Y1:=Lh_ (D5.out.grown I (.inl (.inl (Nat.le_refl _))));clear T I;have U5:=N5.out;go_upto_region 7 with fail
  obtain ⟨O2,X2,H,G3,L2⟩:=bx_ w12 [.int .i64 t.key,.string t.nm,.int .i64 t.op,.string t.val] 35;try simp only [X2]
  have H5:=Lh_ (show w12.heap.size≤O2.heap.size from H.size);have B3:=tb_ A3 H;have K4:=kb_ R2 H;have I2:=Lh_ (H2.out.kept (grown_none H) (fun e=>by cases e) (fun g e=>by cases e));have B2:=Lh_ (Nat.lt_of_lt_of_le J1.out (H).size);have E0:=Lh_ (Y1.out.below H);clear X2 H;try rw [← G3.out]
  clear U5;have I6:=Lh_ (show w.heap.size<w12.heap.size∧w2.heap.size<w12.heap.size from ⟨J1.out,R2.out.2.2⟩);have T5:=E0.out.2.2.2.2.2.1.1;have S4:=E0.out.2.2.2.2.2.1.2.1;unfold maxLen at S4;go_wp2_with fail;go_loopw [8,9] (fun b i wr=>∃ q:Nat,q≤d.closed.length∧b=.bool (closedTo d t q)∧i=.int .i64 (q:Int)∧Hid (Below O2.heap.size O2 wr)) (fun _ i _=>d.closed.length - (intOf i).toNat)
  case atStart=>exact ⟨0,Nat.zero_le _,rfl,rfl,Lh_ (Below.refl _ _)⟩
  obtain ⟨q,hq,rfl,rfl,D0⟩:=hrel;have U0:=D0.out;have Y5:=Lh_ (show O2.heap.size≤wr.heap.size from U0.size);have P1:=tb_ B3 U0;have N2:=kb_ K4 U0;have P2:=kb_ L2 U0;have Q3:=Lh_ (I2.out.kept (grown_none U0) (fun e=>by cases e) (fun g e=>by cases e));have R1:=Lh_ (Nat.lt_of_lt_of_le B2.out (U0).size);have W0:=Lh_ (E0.out.below U0);clear U0;by_cases hlq:q<d.closed.length
  ·
   have i1:(q:Int)<(d.closed.length:Int):=by omega
   have S0:=Lh_ hlq;obtain ⟨b3,o3,hA,R5,Q4,c0,c1,O5,c3⟩:=Sl.term W0.out.2.2.2.2.2.1.out hlq;have W3:d.closed[q]? = some (d.closed[q]'hlq):=List.getElem?_eq_getElem hlq;obtain ⟨z,hz⟩:∃ y,d.closed[q]'hlq=y:=⟨_,rfl⟩;rw [hz] at c0 c1 W3;have G2:=Lh_ (closedTo_step (t:=t) W3);clear W3 hz R5 Q4 O5 c3;obtain ⟨bc,hbc⟩:∃ z,closedTo d t q=z:=⟨_,rfl⟩;rw [hbc];have V0:=Lh_ hbc;clear hbc;have P6:IntKind.i64.wrap ((q:Int)+1)=(q:Int)+1:=by rw [IntKind.wrap_i64];omega
   have C6:wrap64 ((q:Int)+1)=(q:Int)+1:=by unfold wrap64;omega
   have D:=N2.out.1 13 _ rfl;have I4:=P2.out.1 0 _ rfl;have J4:=P2.out.1 1 _ rfl;rw [hA] at D;clear hA;cases bc
   case false =>
    by_cases q1:z.key=t.key
    ·
     have p1:(z.key == t.key)=true:=by rw [q1];simp
     by_cases q2:z.nm=t.nm
     ·
      have p2:(z.nm.toList == t.nm.toList)=true:=by rw [ba_beq];exact decide_eq_true q2
      have T1:=Lh_ q1;have M3:=Lh_ q2;clear q1 q2;go_wp2;go_quiet (fail)
      go_wp2;go_roundw
      case rel=>exact ⟨q+1,S0.out,by rw [G2.out,V0.out,decide_eq_true T1.out,decide_eq_true M3.out,Bool.and_true,Bool.false_or],by go_num,Lh_ (D0.out.trans ((show Below wr.heap.size wr _ by first | exact Below.refl _ _ | exact below_drewN_self _ _ _).mono D0.out.size))⟩
      have:=S0.out;simp [intOf];omega
     have p2:(z.nm.toList == t.nm.toList)=false:=by rw [ba_beq];exact decide_eq_false q2
     have T1:=Lh_ q1;have M3:=Lh_ q2;clear q1 q2;go_wp2;go_quiet (fail)
     go_wp2;go_roundw
     case rel=>exact ⟨q+1,S0.out,by rw [G2.out,V0.out,decide_eq_true T1.out,decide_eq_false M3.out,Bool.and_false,Bool.false_or],by go_num,Lh_ (D0.out.trans ((show Below wr.heap.size wr _ by first | exact Below.refl _ _ | exact below_drewN_self _ _ _).mono D0.out.size))⟩
     have:=S0.out;simp [intOf];omega
    have p1:(z.key == t.key)=false:=by simpa using q1
    have T1:=Lh_ q1;clear q1;go_wp2;go_quiet (fail)
    go_wp2;go_roundw
    case rel=>exact ⟨q+1,S0.out,by rw [G2.out,V0.out,decide_eq_false T1.out,Bool.false_and,Bool.false_or],by go_num,Lh_ (D0.out.trans ((show Below wr.heap.size wr _ by first | exact Below.refl _ _ | exact below_drewN_self _ _ _).mono D0.out.size))⟩
    have:=S0.out;simp [intOf];omega
   clear c0 c1;go_wp2;go_quiet (fail)
   go_wp2;go_roundw
   case rel=>exact ⟨q+1,S0.out,by rw [G2.out,V0.out,Bool.true_or],by go_num,Lh_ (D0.out.trans ((show Below wr.heap.size wr _ by first | exact Below.refl _ _ | exact below_drewN_self _ _ _).mono D0.out.size))⟩
   have:=S0.out;simp [intOf];omega
  have i1:¬ (q:Int)<(d.closed.length:Int):=by omega
  obtain rfl:q=d.closed.length:=by omega
  rw [closedTo_end];obtain ⟨bc,hbc⟩:∃ z,closedB d t=z:=⟨_,rfl⟩;rw [hbc];have V0:=Lh_ hbc;clear hbc hq T5 S4;obtain ⟨I0,J0,K0,L0,M0,N0,O0,P0,Q0,R0,M,O,Q,D⟩:=s14_ N2.out.1;obtain ⟨I4,J4,M2,P5⟩:=s4_ P2.out.1;go_wp2_with fail;refine (Apply_any d h t y (NoD w w2.heap.size) wr (fun x hx=>by have:=R1.out;have:=N2.out.2.2;rcases hx with hx | hx <;> omega) W0.out (E4.out.pre (by omega)) L3.out.ok L3.out.tag (by have:=G4.out;omega) (K3.out.next P1.out) (H7.out.below P1.out)).mono ?_;rintro e w20 ⟨hb,B,rfl,hd⟩;obtain ⟨d2,hd2⟩:∃ z,applyD d t y=z:=⟨_,rfl⟩;rw [hd2] at hd ⊢;have S1:=Lh_ (show DraftI (c2+1) d2 from hd2 ▸ E4.out.apply L3.out (by have:=G4.out;unfold maxLen;omega));have A4:=Lh_ (show (closedB d t=true→d2=d)∧(closedB d t=false→decide (d2.closed.length > d.closed.length)=decide (t.op=6)) from hd2 ▸ closes);have HE:=Lh_ hd;clear hd2 hd i1;clear I0 J0 K0 L0 M0 N0 O0 P0 Q0 R0 M O Q D I4 J4 M2 P5;have I5:=Lh_ (show wr.heap.size≤w20.heap.size from hb.size);have C3:=tb_ P1 hb;have L4:=kb_ N2 hb;have X4:=kb_ P2 hb;have J2:=Lh_ (Q3.out.kept (grown_none hb) (fun e=>by cases e) (fun g e=>by cases e));have C2:=Lh_ (Nat.lt_of_lt_of_le R1.out (hb).size);have Z1:=Lh_ (W0.out.below hb);clear hb;have X3:=H4.out;go_upto_region 13 with fail
  obtain ⟨L1,Y2,F,H3,L⟩:=bx_ w20 [.slice B.a0 d2.props.length B.c0,.slice B.a1 d2.tags.length B.c1,.slice B.a2 d2.links.length B.c2,.slice B.a3 d2.run.length B.c3,.slice B.a4 d2.load.length B.c4,.string d2.nm,.int .i64 d2.prio,.string d2.owner,.string d2.group,.int .i64 d2.mode,.string d2.res,.int .i64 d2.calls,.int .i64 d2.ticks,.slice B.a5 d2.closed.length B.c5] 30;try simp only [Y2]
  have J5:=Lh_ (show w20.heap.size≤L1.heap.size from F.size);have V:=tb_ C3 F;have R:=kb_ L4 F;have Z2:=kb_ X4 F;have H0:=Lh_ (J2.out.kept (grown_none F) (fun e=>by cases e) (fun g e=>by cases e));have G0:=Lh_ (Nat.lt_of_lt_of_le C2.out (F).size);have U:=Lh_ (Z1.out.below F);have F0:=Lh_ (HE.out.below F);clear Y2 F;try rw [← H3.out]
  clear X3;cases bc
  case false =>
   obtain ⟨b6,hb6⟩:∃ z,decide (t.op=6)=z:=⟨_,rfl⟩;have e6:(t.op == 6)=b6:=by rw [← hb6];rfl
   have el:decide ((d.closed.length:Int)<(d2.closed.length:Int))=b6:=by rw [← hb6,← A4.out.2 V0.out,decide_eq_decide];omega
   clear hb6;have D:=R.out.1 13 _ rfl;have G:=L.out.1 13 _ rfl;have M2:=Z2.out.1 2 _ rfl;cases b6
   ·
    have i5:¬ (d.closed.length:Int)<(d2.closed.length:Int):=of_decide_eq_false el;clear el;go_upto_region 15 with fail
    clear D G M2;obtain ⟨X0,Y0,Z0,A1,B1,C1,D1,E1,F1,G1,Z,A0,B0,G⟩:=s14_ L.out.1;obtain ⟨I0,J0,K0,L0,M0,N0,O0,P0,Q0,R0,M,O,Q,D⟩:=s14_ R.out.1;have V1:=R.out.2.1;go_upto_region 5 with fail
    clear X0 Y0 Z0 A1 B1 C1 D1 E1 F1 G1 Z A0 B0 G I0 J0 K0 L0 M0 N0 O0 P0 Q0 R0 M O Q D V1;obtain ⟨w25,hw25⟩:∃ z,set14 L1 (w2.heap.size) (.slice B.a0 d2.props.length B.c0) (.slice B.a1 d2.tags.length B.c1) (.slice B.a2 d2.links.length B.c2) (.slice B.a3 d2.run.length B.c3) (.slice B.a4 d2.load.length B.c4) (.string d2.nm) (.int .i64 d2.prio) (.string d2.owner) (.string d2.group) (.int .i64 d2.mode) (.string d2.res) (.int .i64 d2.calls) (.int .i64 d2.ticks) (.slice B.a5 d2.closed.length B.c5)=z:=⟨_,rfl⟩;have C:L1.grownBy w25 (some (w2.heap.size)):=by rw [← hw25];exact grown14 _ _ _ _ _ _ _ _ _ _ _ _ _ _ _ _
    have S:BoxL w25 (w2.heap.size) [.slice B.a0 d2.props.length B.c0,.slice B.a1 d2.tags.length B.c1,.slice B.a2 d2.links.length B.c2,.slice B.a3 d2.run.length B.c3,.slice B.a4 d2.load.length B.c4,.string d2.nm,.int .i64 d2.prio,.string d2.owner,.string d2.group,.int .i64 d2.mode,.string d2.res,.int .i64 d2.calls,.int .i64 d2.ticks,.slice B.a5 d2.closed.length B.c5]:=by rw [← hw25];exact R.out.set14 _ _ _ _ _ _ _ _ _ _ _ _ _ _
    unfold set14 at hw25;rw [hw25];clear hw25;have U1:=Lh_ C.size;have T0:=Lh_ (show BoxL w25 (w2.heap.size) [.slice B.a0 d2.props.length B.c0,.slice B.a1 d2.tags.length B.c1,.slice B.a2 d2.links.length B.c2,.slice B.a3 d2.run.length B.c3,.slice B.a4 d2.load.length B.c4,.string d2.nm,.int .i64 d2.prio,.string d2.owner,.string d2.group,.int .i64 d2.mode,.string d2.res,.int .i64 d2.calls,.int .i64 d2.ticks,.slice B.a5 d2.closed.length B.c5] from S);have W:=Lh_ (V.out.grown C V.out.size (fun q hq=>by have:=Option.some.inj hq;have:=Y.out;omega));have K:=Lh_ (H0.out.kept C (fun e=>by have:=Option.some.inj e;have:=Y.out;omega) (fun q e=>by have:=Option.some.inj e;have:=Y.out;omega));have J:=Lh_ (Nat.lt_of_lt_of_le G0.out (C).size);have A2:=Lh_ (U.out.grown C (.inl (.inr rfl)));have X:=Lh_ (F0.out.grown C (.inl (.inr rfl)));clear C S;have V2:IntKind.i64.wrap (m - 1)=m - 1:=by rw [IntKind.wrap_i64];omega
    have X1:wrap64 (m - 1)=m - 1:=by unfold wrap64;omega
    go_wp2;go_roundw
    case rel=>exact ⟨m - 1,d2,B,p+j,c2+1,rfl,⟨by omega,by omega,by omega⟩,S1,Lh_ (by have:=F2.out;have:=HJ.out;omega),T0,X,K,W,J⟩
    simp [intOf];omega
   have i5:(d.closed.length:Int)<(d2.closed.length:Int):=of_decide_eq_true el;clear el;go_upto_region 15 with fail
   clear D G M2;obtain ⟨X0,Y0,Z0,A1,B1,C1,D1,E1,F1,G1,Z,A0,B0,G⟩:=s14_ L.out.1;obtain ⟨I0,J0,K0,L0,M0,N0,O0,P0,Q0,R0,M,O,Q,D⟩:=s14_ R.out.1;have V1:=R.out.2.1;go_upto_region 5 with fail
   clear X0 Y0 Z0 A1 B1 C1 D1 E1 F1 G1 Z A0 B0 G I0 J0 K0 L0 M0 N0 O0 P0 Q0 R0 M O Q D V1;obtain ⟨w25,hw25⟩:∃ z,set14 L1 (w2.heap.size) (.slice B.a0 d2.props.length B.c0) (.slice B.a1 d2.tags.length B.c1) (.slice B.a2 d2.links.length B.c2) (.slice B.a3 d2.run.length B.c3) (.slice B.a4 d2.load.length B.c4) (.string d2.nm) (.int .i64 d2.prio) (.string d2.owner) (.string d2.group) (.int .i64 d2.mode) (.string d2.res) (.int .i64 d2.calls) (.int .i64 d2.ticks) (.slice B.a5 d2.closed.length B.c5)=z:=⟨_,rfl⟩;have C:L1.grownBy w25 (some (w2.heap.size)):=by rw [← hw25];exact grown14 _ _ _ _ _ _ _ _ _ _ _ _ _ _ _ _
   have S:BoxL w25 (w2.heap.size) [.slice B.a0 d2.props.length B.c0,.slice B.a1 d2.tags.length B.c1,.slice B.a2 d2.links.length B.c2,.slice B.a3 d2.run.length B.c3,.slice B.a4 d2.load.length B.c4,.string d2.nm,.int .i64 d2.prio,.string d2.owner,.string d2.group,.int .i64 d2.mode,.string d2.res,.int .i64 d2.calls,.int .i64 d2.ticks,.slice B.a5 d2.closed.length B.c5]:=by rw [← hw25];exact R.out.set14 _ _ _ _ _ _ _ _ _ _ _ _ _ _
   unfold set14 at hw25;rw [hw25];clear hw25;have U1:=Lh_ C.size;have T0:=Lh_ (show BoxL w25 (w2.heap.size) [.slice B.a0 d2.props.length B.c0,.slice B.a1 d2.tags.length B.c1,.slice B.a2 d2.links.length B.c2,.slice B.a3 d2.run.length B.c3,.slice B.a4 d2.load.length B.c4,.string d2.nm,.int .i64 d2.prio,.string d2.owner,.string d2.group,.int .i64 d2.mode,.string d2.res,.int .i64 d2.calls,.int .i64 d2.ticks,.slice B.a5 d2.closed.length B.c5] from S);have W:=Lh_ (V.out.grown C V.out.size (fun q hq=>by have:=Option.some.inj hq;have:=Y.out;omega));have K:=Lh_ (H0.out.kept C (fun e=>by have:=Option.some.inj e;have:=Y.out;omega) (fun q e=>by have:=Option.some.inj e;have:=Y.out;omega));have J:=Lh_ (Nat.lt_of_lt_of_le G0.out (C).size);have A2:=Lh_ (U.out.grown C (.inl (.inr rfl)));have X:=Lh_ (F0.out.grown C (.inl (.inr rfl)));clear C S;have V2:IntKind.i64.wrap (m - 1)=m - 1:=by rw [IntKind.wrap_i64];omega
   have X1:wrap64 (m - 1)=m - 1:=by unfold wrap64;omega
   go_wp2;go_roundw
   case rel=>exact ⟨m - 1,d2,B,p+j,c2+1,rfl,⟨by omega,by omega,by omega⟩,S1,Lh_ (by have:=F2.out;have:=HJ.out;omega),T0,X,K,W,J⟩
   simp [intOf];omega
  obtain ⟨I0,J0,K0,L0,M0,N0,O0,P0,Q0,R0,M,O,Q,D⟩:=s14_ R.out.1;obtain ⟨X0,Y0,Z0,A1,B1,C1,D1,E1,F1,G1,Z,A0,B0,G⟩:=s14_ L.out.1;obtain rfl:d2=d:=A4.out.1 V0.out;go_wp2_with fail;refine (SameDraft_same d2 B h _ F0.out.sl U.out.sl).mono ?_;rintro e w24 ⟨rfl,E⟩;clear I0 J0 K0 L0 M0 N0 O0 P0 Q0 R0 M O Q D X0 Y0 Z0 A1 B1 C1 D1 E1 F1 G1 Z A0 B0 G;have K5:=Lh_ (show L1.heap.size≤w24.heap.size from E.size);have O1:=tb_ V E;have W1:=kb_ R E;have G6:=kb_ Z2 E;have W4:=kb_ L E;have K2:=Lh_ (H0.out.kept (grown_none E) (fun e=>by cases e) (fun g e=>by cases e));have D2:=Lh_ (Nat.lt_of_lt_of_le G0.out (E).size);have Y4:=Lh_ (U.out.below E);have F3:=Lh_ (F0.out.below E);clear E;obtain ⟨X0,Y0,Z0,A1,B1,C1,D1,E1,F1,G1,Z,A0,B0,G⟩:=s14_ W4.out.1;obtain ⟨I0,J0,K0,L0,M0,N0,O0,P0,Q0,R0,M,O,Q,D⟩:=s14_ W1.out.1;have V1:=W1.out.2.1;go_upto_region 5 with fail
  clear X0 Y0 Z0 A1 B1 C1 D1 E1 F1 G1 Z A0 B0 G I0 J0 K0 L0 M0 N0 O0 P0 Q0 R0 M O Q D V1;obtain ⟨w25,hw25⟩:∃ z,set14 w24 (w2.heap.size) (.slice B.a0 d2.props.length B.c0) (.slice B.a1 d2.tags.length B.c1) (.slice B.a2 d2.links.length B.c2) (.slice B.a3 d2.run.length B.c3) (.slice B.a4 d2.load.length B.c4) (.string d2.nm) (.int .i64 d2.prio) (.string d2.owner) (.string d2.group) (.int .i64 d2.mode) (.string d2.res) (.int .i64 d2.calls) (.int .i64 d2.ticks) (.slice B.a5 d2.closed.length B.c5)=z:=⟨_,rfl⟩;have C:w24.grownBy w25 (some (w2.heap.size)):=by rw [← hw25];exact grown14 _ _ _ _ _ _ _ _ _ _ _ _ _ _ _ _
  have S:BoxL w25 (w2.heap.size) [.slice B.a0 d2.props.length B.c0,.slice B.a1 d2.tags.length B.c1,.slice B.a2 d2.links.length B.c2,.slice B.a3 d2.run.length B.c3,.slice B.a4 d2.load.length B.c4,.string d2.nm,.int .i64 d2.prio,.string d2.owner,.string d2.group,.int .i64 d2.mode,.string d2.res,.int .i64 d2.calls,.int .i64 d2.ticks,.slice B.a5 d2.closed.length B.c5]:=by rw [← hw25];exact W1.out.set14 _ _ _ _ _ _ _ _ _ _ _ _ _ _
  unfold set14 at hw25;rw [hw25];clear hw25;have U1:=Lh_ C.size;have T0:=Lh_ (show BoxL w25 (w2.heap.size) [.slice B.a0 d2.props.length B.c0,.slice B.a1 d2.tags.length B.c1,.slice B.a2 d2.links.length B.c2,.slice B.a3 d2.run.length B.c3,.slice B.a4 d2.load.length B.c4,.string d2.nm,.int .i64 d2.prio,.string d2.owner,.string d2.group,.int .i64 d2.mode,.string d2.res,.int .i64 d2.calls,.int .i64 d2.ticks,.slice B.a5 d2.closed.length B.c5] from S);have W:=Lh_ (O1.out.grown C O1.out.size (fun q hq=>by have:=Option.some.inj hq;have:=Y.out;omega));have K:=Lh_ (K2.out.kept C (fun e=>by have:=Option.some.inj e;have:=Y.out;omega) (fun q e=>by have:=Option.some.inj e;have:=Y.out;omega));have J:=Lh_ (Nat.lt_of_lt_of_le D2.out (C).size);have X:=Lh_ (F3.out.grown C (.inl (.inr rfl)));clear C S;have V2:IntKind.i64.wrap (m - 1)=m - 1:=by rw [IntKind.wrap_i64];omega
  have X1:wrap64 (m - 1)=m - 1:=by unfold wrap64;omega
  go_wp2;go_roundw
  case rel=>exact ⟨m - 1,d2,B,p+j,c2+1,rfl,⟨by omega,by omega,by omega⟩,S1,Lh_ (by have:=F2.out;have:=HJ.out;omega),T0,X,K,W,J⟩
  simp [intOf];omega
 go_wp2_with fail;refine (known13_any _ (K3.out.next M1.out) (H7.out.below M1.out)).mono ?_;rintro e w_ ⟨rfl,M4⟩;have B5:=Lh_ (below_next M1.out M4);clear M4;go_wp2;go_ret;exact ⟨by try rfl,B5.out⟩
end Go.Proofs.YtjpoljlgkgmdkaaGreatDoor
namespace Go.Proofs
open Go.Shelf
def Tryz.laysM146_ren:Go.Shelf.Ren:=⟨fun | 146=>42 | 221=>87 | 268=>131 | 138=>132 | 143=>133 | 195=>161 | 197=>162 | 218=>163 | 219=>164 | 260=>193 | 217=>173 | 225=>194 | 224=>195 | 267=>196 | 266=>204 | 314=>211 | n=>n,fun | 9=>9 | 31=>27 | 3=>3 | 4=>4 | 0=>0 | 105=>174 | 21=>21 | 5=>5 | 46=>168 | 119=>217 | 139=>220 | 138=>219 | 146=>221 | 51=>205 | n=>n,fun | 1=>0 | 3=>5 | 4=>6 | n=>n⟩
theorem Tryz.laysM146:Go.Proofs.LaysM.n146 Tryz.prog Tryz.laysM146_ren:={
 mixed:=by kernel_rfl
 f138:=Tryz.func132.trans (congrArg some (by kernel_rfl))
 f143:=Tryz.func133.trans (congrArg some (by kernel_rfl))
 f146:=Tryz.func42.trans (congrArg some (by kernel_rfl))
 f195:=Tryz.func161.trans (congrArg some (by kernel_rfl))
 f197:=Tryz.func162.trans (congrArg some (by kernel_rfl))
 f217:=Tryz.func173.trans (congrArg some (by kernel_rfl))
 f218:=Tryz.func163.trans (congrArg some (by kernel_rfl))
 f219:=Tryz.func164.trans (congrArg some (by kernel_rfl))
 f221:=Tryz.func87.trans (congrArg some (by kernel_rfl))
 f224:=Tryz.func195.trans (congrArg some (by kernel_rfl))
 f225:=Tryz.func194.trans (congrArg some (by kernel_rfl))
 f260:=Tryz.func193.trans (congrArg some (by kernel_rfl))
 f266:=Tryz.func204.trans (congrArg some (by kernel_rfl))
 f267:=Tryz.func196.trans (congrArg some (by kernel_rfl))
 f268:=Tryz.func131.trans (congrArg some (by kernel_rfl))
 f314:=Tryz.func211.trans (congrArg some (by kernel_rfl))
 t0:=Tryz.underlying0
 a0:=Tryz.isAgg0
 z0:=Tryz.sizeOf0
 v0:=Tryz.zeroValue0
 t3:=Tryz.underlying3
 a3:=Tryz.isAgg3
 z3:=Tryz.sizeOf3
 v3:=Tryz.zeroValue3
 t4:=Tryz.underlying4
 a4:=Tryz.isAgg4
 z4:=Tryz.sizeOf4
 v4:=Tryz.zeroValue4
 t5:=Tryz.underlying5
 a5:=Tryz.isAgg5
 z5:=Tryz.sizeOf5
 v5:=Tryz.zeroValue5
 t9:=Tryz.underlying9
 a9:=Tryz.isAgg9
 z9:=Tryz.sizeOf9
 v9:=Tryz.zeroValue9
 t21:=Tryz.underlying21
 a21:=Tryz.isAgg21
 z21:=Tryz.sizeOf21
 v21:=Tryz.zeroValue21
 t31:=Tryz.underlying27
 a31:=Tryz.isAgg27
 z31:=Tryz.sizeOf27
 v31:=Tryz.zeroValue27
 t46:=Tryz.underlying168
 a46:=Tryz.isAgg168
 z46:=Tryz.sizeOf168
 v46:=Tryz.zeroValue168
 t51:=Tryz.underlying205
 a51:=Tryz.isAgg205
 z51:=Tryz.sizeOf205
 v51:=Tryz.zeroValue205
 t105:=Tryz.underlying174
 a105:=Tryz.isAgg174
 z105:=Tryz.sizeOf174
 v105:=Tryz.zeroValue174
 t119:=Tryz.underlying217
 a119:=Tryz.isAgg217
 z119:=Tryz.sizeOf217
 t138:=Tryz.underlying219
 a138:=Tryz.isAgg219
 z138:=Tryz.sizeOf219
 v138:=Tryz.zeroValue219
 t139:=Tryz.underlying220
 a139:=Tryz.isAgg220
 z139:=Tryz.sizeOf220
 v139:=Tryz.zeroValue220
 t146:=Tryz.underlying221
 a146:=Tryz.isAgg221
 z146:=Tryz.sizeOf221
 v146:=Tryz.zeroValue221
 g1:=by kernel_rfl
 g3:=by kernel_rfl
 g4:=by kernel_rfl
 i0:=by kernel_rfl
 i3:=by kernel_rfl
 i4:=by kernel_rfl
 i5:=by kernel_rfl
 i9:=by kernel_rfl
 i21:=by kernel_rfl
 i31:=by kernel_rfl
 i46:=by kernel_rfl
 i51:=by kernel_rfl
 i105:=by kernel_rfl
 i138:=by kernel_rfl
 i139:=by kernel_rfl
 i146:=by kernel_rfl
 m1:=by kernel_rfl
 s1_3:=fun w h=>Go.Proofs.cell_of_shapedOpen_int (zero:=#[.int .i64 0]) (t:=3) h (of_decide_eq_true (by kernel_rfl)) (by kernel_rfl) rfl (by kernel_rfl) (by kernel_rfl) Tryz.underlying3
 m3:=by kernel_rfl
 m4:=by kernel_rfl }
end Go.Proofs
namespace Go.Proofs.YtjpoljlgkgmdkaaGreatDoor
open Go.RowKit Go.Cold
namespace cAssignCloses
open Go.ChangeShapes Go.WideShapes Go.ChangeAt
open Go.ChangeMaps (open_string)
set_option maxRecDepth 100000
theorem reads (os:Os) {H:Type} (enc:TypeId × Value→H):∃ places,DataW.whole enc Tryz.prog ((World.laidAll Tryz.prog os Rows.assignClosesRow.laid).forCall (fun _ _=>0) ⟨#[],#[.slice none 0 0],[]⟩).memory Tryz.f7.params.toList Rows.assignClosesSpec.vars false (#[.slice none 0 0]:Array Value).toList 8=some ([.nil],[],places) :=
 ⟨[],by kernel_rfl⟩
theorem lifted (os:Os) (started:os.Started) (H:Type) (enc:TypeId × Value→H) (F:Stop.Interp) :
  ReturnsInHanded {} Tryz.checked os 7 .any ((OpenSpec.ofChange Rows.assignClosesSpec).preRow enc Tryz.prog Tryz.f7 Rows.assignClosesRow.domain false Rows.assignClosesRow.laid) (((OpenSpec.ofChange Rows.assignClosesSpec).at F).post enc Tryz.prog Tryz.f7 false true false false):=by
 obtain ⟨A,C⟩:=reads os enc;refine law_lifted os started H enc F (by kernel_rfl) Tryz.func7 #[.slice none 0 0] (World.shaped_of_ZipB (by kernel_rfl) (by kernel_rfl)) (by kernel_rfl)
  (OpenSpec.preRow_of_cond 8 C (by kernel_rfl) (fun k hk=>by cases hk) (by kernel_rfl) (laidMet_laidAll _ (by kernel_rfl) (by kernel_rfl))) rfl rfl
  (fun ds hl=>by
   rw [Tryz.params7] at hl;match ds,hl with
   | [J],_=>rfl) (by kernel_rfl) ?_
 intro W base args ds ps hval hA hlt hz hsh hlaid;rw [Tryz.params7] at hA hval;obtain ⟨E,O,J,K,P,Q,B,rfl,rfl,L,M⟩:=trodAll_cons hA;obtain ⟨rfl,rfl,rfl⟩:=trodAll_nil M;obtain rfl:args=#[E]:=by cases args;simp_all
 obtain ⟨G,I,D,rfl,N⟩:=open_nums Tryz.underlying22 Tryz.underlying3 (by kernel_rfl) (hval 0 22 E rfl rfl) L (fun x C=>hlt x (List.mem_append_left _ C));exact lawCloses13_any G I D W (show Ok W from Tryz.laysM146.s1_3 W hsh) (okf8 hlaid) N
theorem said:Rows.AssignClosesSaid :=
 OpenClaim.holds_of_cond 7 Tryz.f7 rfl rfl rfl rfl rfl rfl rfl ⟨rfl,rfl,rfl,rfl,rfl⟩ rfl rfl rfl rfl rfl (by kernel_rfl) Tryz.func7 (by kernel_rfl)
  (of_decide_eq_true (by kernel_rfl)) (by unfold Func.isWrapper;first | (rw [if_pos (by decide +kernel)];kernel_rfl) | (rw [if_neg (by decide +kernel)];exact ⟨rfl,rfl⟩))
  (fun os started H enc _ F=>by rw [OpenClaim.pre_eq_preRow];exact lifted os started H enc F)
theorem plain (f:FuncId) (fn:Func) (hf:Tryz.pinned.checked.prog.funcNamed Rows.assignClosesRow.func=some f) (hfn:Tryz.pinned.checked.prog.funcs[f]? = some fn) :
  true=Tryz.pinned.checked.prog.looks []∧∀ (j:Nat) t,fn.params[j]? = some t→Tryz.pinned.checked.prog.wantsStandIn t=false:=by
 obtain rfl:f=7:=Option.some.inj ((show Tryz.prog.funcNamed Rows.assignClosesRow.func=some 7 by kernel_rfl).symm.trans hf) |>.symm;obtain rfl:fn=Tryz.f7:=(Option.some.inj (Tryz.func7.symm.trans hfn)).symm;refine ⟨by kernel_rfl,fun j t ht=>?_⟩;rw [Tryz.params7] at ht;have B:t ∈ [22]:=by simpa using Array.mem_of_getElem? ht
 have A:([22].all fun u=>!Tryz.prog.wantsStandIn u)=true:=by kernel_rfl
 exact (show Tryz.prog.wantsStandIn t=false by simpa using List.all_eq_true.1 A t B)
theorem card:Rows.AssignClosesCardSaid :=
 Claim7.holds_tied_plain_at .later [] _ _ _ _ said (fun _ h=>by cases h) (by kernel_rfl) (fun _ h=>by cases h) assignCloses_row_tie rfl ⟨rfl,rfl⟩ (by kernel_rfl) rfl plain (by kernel_rfl)
end cAssignCloses
end Go.Proofs.YtjpoljlgkgmdkaaGreatDoor
