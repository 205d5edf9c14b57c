/-
  AssignSound: row and card.
 Conditions: those of the given row and card (the listed variables of the library hold what the text lays),nothing else.
-/
import Derived.Test.YtjpoljlgkgmdkaaGreatDoorMVQ
import Derived.Test.YtjpoljlgkgmdkaaGreatDoorMVT
import Derived.ShutString
set_option linter.unusedSimpArgs false
set_option linter.unusedVariables false
namespace Go.Proofs.YtjpoljlgkgmdkaaGreatDoor
open Go.RowKit Go.Cold
set_option maxRecDepth 100000 in
set_option maxHeartbeats 16000000 in
theorem lawSound13_any (A:Option Addr) (c:Nat) (xs:List Int) (raw:ByteArray) (Aa:Option Addr) (ca:Nat) (al:List Attr) (w:World) (hok:Ok w) (h7:Ok7 w) (hx:Sl w w.heap.size A c xs) (hs:raw.size≤maxLen) (hxa:Sl w w.heap.size Aa ca al) :
  Calls Tryz.prog 9 #[.slice A xs.length c,.string raw,.slice Aa al.length ca] w fun e w'=>e=.returned (.bool true)∧Below w.heap.size w w':=by
 have B4:=Lh_ (notG_of hok);have O0:=Lh_ hok;have H7:=Lh_ h7;have HX:=Lh_ hx;clear hok h7 hx;have I4:=Lh_ (zero_of_info (P:=Tryz.prog) (t:=30) info_draft2).1;have H4:=Lh_ (zero_of_info (P:=Tryz.prog) (t:=35) info_term3).1;have O4:=Lh_ hs;have G4:=Lh_ hxa;clear hs hxa;go_enter Tryz.func9,Tryz.ntmps9;by_cases hr:600<raw.size
 ·
  have i0:(600:Int)<(raw.size:Int):=by omega
  go_wp2_with fail;refine (known13_any _ (O0.out.next (Below.refl _ _)) (H7.out.below (Below.refl _ _))).mono ?_;rintro e w_ ⟨rfl,T0⟩;have I1:=Lh_ (below_next (Below.refl _ _) T0);clear T0;go_wp2;go_ret;exact ⟨by try rfl,I1.out⟩
 have i0:¬ (600:Int)<(raw.size:Int):=by omega
 have I3:=Lh_ (show raw.size≤600 by omega);clear hr;by_cases hr:80<al.length
 ·
  have i9:(80:Int)<(al.length:Int):=by omega
  go_wp2_with fail;refine (known13_any _ (O0.out.next (Below.refl _ _)) (H7.out.below (Below.refl _ _))).mono ?_;rintro e w_ ⟨rfl,T0⟩;have I1:=Lh_ (below_next (Below.refl _ _) T0);clear T0;go_wp2;go_ret;exact ⟨by try rfl,I1.out⟩
 have i9:¬ (80:Int)<(al.length:Int):=by omega
 clear hr;go_upto_region 4 with fail
 have Z0:=tape_new HX.out;obtain ⟨w1,hw1⟩:∃ z,w.alloc (.cells #[.slice A xs.length c,.int .i64 0] 25)=z:=⟨_,rfl⟩;rw [hw1] at Z0;have W2:Below w.heap.size w w1:=by rw [← hw1];exact (Below.refl _ _).alloc (Nat.le_refl _) _
 have F3:=Lh_ (show w.heap.size<w1.heap.size by rw [← hw1];simp);try simp only [hw1]
 have F4:=Lh_ Z0;clear hw1 Z0;have P4:=Lh_ (show w.heap.size≤w1.heap.size from W2.size);have J1:=Lh_ W2;clear W2;clear i0 i9;go_wp2_with fail;refine (draft_any 4 xs 0 w w1 ⟨by decide,by decide⟩ O0.out H7.out B4.out J1.out (by decide) F4.out).mono ?_;rintro e w2 ⟨d0,h0,p0,rfl,N3,M3,P3,J,C⟩;have Z3:=Lh_ N3;have H3:=Lh_ P3;clear N3 P3;have Z2:=Lh_ (below_of_grown J1.out C J1.out.size (Nat.le_refl _));have M2:=Lh_ J;have L1:=Lh_ (Nat.lt_of_lt_of_le F3.out C.size);clear J C;have B3:=Lh_ (M3.more (N':=NoD w w2.heap.size) (fun x hx q=>q.elim (fun h=>by have:=F3.out;show x≤w1.heap.size;omega) (fun h=>by omega)));have I0:=Lh_ (show w.heap.size<w2.heap.size from L1.out);clear M3;have L4:=I4.out;go_upto_region 5 with fail
 obtain ⟨w3,S3,K0,E3,P2⟩:=bx_ w2 [.slice h0.a0 d0.props.length h0.c0,.slice h0.a1 d0.tags.length h0.c1,.slice h0.a2 d0.links.length h0.c2,.slice h0.a3 d0.run.length h0.c3,.slice h0.a4 d0.load.length h0.c4,.string d0.nm,.int .i64 d0.prio,.string d0.owner,.string d0.group,.int .i64 d0.mode,.string d0.res,.int .i64 d0.calls,.int .i64 d0.ticks,.slice h0.a5 d0.closed.length h0.c5] 30;try simp only [S3]
 have Q4:=Lh_ (show w2.heap.size≤w3.heap.size from K0.size);have Z1:=tb_ Z2 K0;have N2:=Lh_ (M2.out.kept (grown_none K0) (fun e=>by cases e) (fun g e=>by cases e));have I2:=Lh_ (Nat.lt_of_lt_of_le L1.out (K0).size);have E2:=Lh_ (B3.out.below K0);clear S3 K0;try rw [← E3.out]
 clear L4;go_wp2_with fail;refine (Next_lit 24 xs p0 w.heap.size w.heap.size w3 (by have:=H3.out;omega) N2.out (by decide) (by decide)).mono ?_;rintro e w4 ⟨m0,D1,C1,rfl,J,C⟩;have U1:=Lh_ (show 0≤m0∧m0<24 from ⟨D1,C1⟩);clear D1 C1;have A3:=Lh_ (below_of_grown Z1.out C Z1.out.size (Nat.le_refl _));have O2:=Lh_ J;have J2:=Lh_ (Nat.lt_of_lt_of_le I2.out C.size);have J4:=kg_ P2 C (by have:=I0.out;omega);have F2:=Lh_ (E2.out.grown C (.inl (.inl (Nat.le_refl _))));clear J C;go_wp2_with fail;go_loopw [9] (fun i wr=>∃ (m:Int) (d:Draft) (h:DH) (p c2:Nat),i=.int .i64 m∧(0≤m∧m≤23∧(c2:Int)+m≤31)∧Hid (DraftI c2 d)∧Hid ((p:Int)+9 * m≤4000)∧Hid (BoxL wr w2.heap.size (drV d h))∧Hid (DFr (NoD w w2.heap.size) wr d h)∧Hid (TapeAt wr w.heap.size w.heap.size xs p)∧Hid (Below w.heap.size w wr)∧Hid (w.heap.size<wr.heap.size)) (fun i _=>(intOf i).toNat)
 case atStart=>exact ⟨m0,d0,h0,p0+1,8,rfl,⟨U1.out.1,by have:=U1.out.2;omega,by have:=U1.out.2;omega⟩,Z3,Lh_ (by have:=H3.out;have:=U1.out.2;omega),J4,F2,O2,A3,J2⟩
 obtain ⟨m,d,h,p,c2,rfl,hm,F1,V1,N1,G2,J3,Q1,G3⟩:=hrel;obtain ⟨wo,rfl⟩:∃ z,z=wr:=⟨_,rfl⟩;obtain ⟨Z4,A5,B5⟩:=hm;have N1:=Lh_ (show BoxL wo w2.heap.size (drV d h) from N1.out);by_cases hlt:0<m
 ·
  go_wp2_with fail;refine (term_any xs p w.heap.size w.heap.size wo (by have:=V1.out;omega) J3.out).mono ?_;rintro e w12 ⟨t,y,j,rfl,T3,R3,B2,O3,J,C⟩;have G1:=Lh_ T3;have K3:=Lh_ B2;have HJ:=Lh_ O3;clear T3 R3 B2 O3;have D2:=Lh_ (below_of_grown Q1.out C Q1.out.size (Nat.le_refl _));have W1:=Lh_ J;have A1:=Lh_ (Nat.lt_of_lt_of_le G3.out C.size);have A2:=kg_ N1 C (by have:=I0.out;omega);have R1:=Lh_ (G2.out.grown C (.inl (.inl (Nat.le_refl _))));clear J C;have K4:=H4.out;go_upto_region 9 with fail
  obtain ⟨U3,C2,K,H2,Y1⟩:=bx_ w12 [.int .i64 t.key,.string t.nm,.int .i64 t.op,.string t.val] 35;try simp only [C2]
  have D4:=Lh_ (show w12.heap.size≤U3.heap.size from K.size);have K1:=tb_ D2 K;have L3:=kb_ A2 K;have X1:=Lh_ (W1.out.kept (grown_none K) (fun e=>by cases e) (fun g e=>by cases e));have T1:=Lh_ (Nat.lt_of_lt_of_le A1.out (K).size);have S1:=Lh_ (R1.out.below K);clear C2 K;try rw [← H2.out]
  clear K4;have D3:=Lh_ (show w.heap.size<w12.heap.size∧w2.heap.size<w12.heap.size from ⟨A1.out,A2.out.2.2⟩);go_wp2_with fail;refine (Next_lit 6 xs (p+j) w.heap.size w.heap.size U3 (by have:=V1.out;have:=HJ.out;omega) X1.out (by decide) (by decide)).mono ?_;rintro e w14 ⟨z6,D1,C1,rfl,J,C⟩;clear D1 C1;have R:=Lh_ (below_of_grown K1.out C K1.out.size (Nat.le_refl _));have B1:=Lh_ J;have F0:=Lh_ (Nat.lt_of_lt_of_le T1.out C.size);have J0:=kg_ L3 C (by have:=I0.out;have:=D3.out;omega);have E1:=kg_ Y1 C (by have:=I0.out;have:=D3.out;omega);have E0:=Lh_ (S1.out.grown C (.inl (.inl (Nat.le_refl _))));clear J C;by_cases hz6:z6=0
  ·
   have ez:(z6 == 0)=true:=by rw [hz6];rfl
   clear hz6;obtain ⟨S,T,U,V,W,X,Y,Z,A0,B0,D,E,F,G⟩:=s14_ J0.out.1;obtain ⟨S2,T2,U2,V2⟩:=s4_ E1.out.1;go_wp2_with fail;refine (Apply_any d h t raw (NoD w w2.heap.size) w14 (fun x hx=>by have:=F0.out;have:=J0.out.2.2;rcases hx with hx | hx <;> omega) E0.out (F1.out.pre (by omega)) G1.out.ok G1.out.tag (by have:=I3.out;omega) (O0.out.next R.out) (H7.out.below R.out)).mono ?_;rintro e w20 ⟨hb,I,rfl,hd⟩;obtain ⟨d2,hd2⟩:∃ z,applyD d t raw=z:=⟨_,rfl⟩;rw [hd2] at hd ⊢;have R0:=Lh_ (show DraftI (c2+1) d2 from hd2 ▸ F1.out.apply G1.out (by have:=I3.out;unfold maxLen;omega));have HE:=Lh_ hd;clear hd2 hd;clear S T U V W X Y Z A0 B0 D E F G S2 T2 U2 V2;have M1:=Lh_ (show w14.heap.size≤w20.heap.size from hb.size);have H:=tb_ R hb;have Q:=kb_ J0 hb;have V3:=kb_ E1 hb;have O:=Lh_ (B1.out.kept (grown_none hb) (fun e=>by cases e) (fun g e=>by cases e));have M:=Lh_ (Nat.lt_of_lt_of_le F0.out (hb).size);have L0:=Lh_ (E0.out.below hb);clear hb;obtain ⟨S,T,U,V,W,X,Y,Z,A0,B0,D,E,F,G⟩:=s14_ Q.out.1;have R2:=Q.out.2.1;go_upto_region 12 with fail
   clear S T U V W X Y Z A0 B0 D E F G R2;obtain ⟨w25,hw25⟩:∃ z,set14 w20 (w2.heap.size) (.slice I.a0 d2.props.length I.c0) (.slice I.a1 d2.tags.length I.c1) (.slice I.a2 d2.links.length I.c2) (.slice I.a3 d2.run.length I.c3) (.slice I.a4 d2.load.length I.c4) (.string d2.nm) (.int .i64 d2.prio) (.string d2.owner) (.string d2.group) (.int .i64 d2.mode) (.string d2.res) (.int .i64 d2.calls) (.int .i64 d2.ticks) (.slice I.a5 d2.closed.length I.c5)=z:=⟨_,rfl⟩;have C0:w20.grownBy w25 (some (w2.heap.size)):=by rw [← hw25];exact grown14 _ _ _ _ _ _ _ _ _ _ _ _ _ _ _ _
   have U0:BoxL w25 (w2.heap.size) (drV d2 I):=by rw [← hw25];exact Q.out.set14 _ _ _ _ _ _ _ _ _ _ _ _ _ _
   unfold set14 at hw25;rw [hw25];clear hw25;have K2:=Lh_ C0.size;have S0:=Lh_ (show BoxL w25 (w2.heap.size) (drV d2 I) from U0);have G0:=Lh_ (H.out.grown C0 H.out.size (fun q hq=>by have:=Option.some.inj hq;have:=I0.out;omega));have P0:=Lh_ (O.out.kept C0 (fun e=>by have:=Option.some.inj e;have:=I0.out;omega) (fun q e=>by have:=Option.some.inj e;have:=I0.out;omega));have M0:=Lh_ (Nat.lt_of_lt_of_le M.out (C0).size);have H0:=Lh_ (HE.out.grown C0 (.inl (.inr rfl)));clear C0 U0;obtain ⟨S,T,U,V,W,X,Y,Z,A0,B0,D,E,F,G⟩:=s14_ S0.out.1;go_wp2_with fail;refine (RSound_any d2 I w25 H0.out.sl R0.out.snd (O0.out.next G0.out)).mono ?_;rintro e w26 ⟨rfl,B⟩;clear S T U V W X Y Z A0 B0 D E F G;have L2:=Lh_ (show w25.heap.size≤w26.heap.size from B.size);have W0:=tb_ G0 B;have O1:=kb_ S0 B;have Q0:=Lh_ (P0.out.kept (grown_none B) (fun e=>by cases e) (fun g e=>by cases e));have N0:=Lh_ (Nat.lt_of_lt_of_le M0.out (B).size);have X0:=Lh_ (H0.out.below B);clear B;have Q3:IntKind.i64.wrap (m - 1)=m - 1:=by rw [IntKind.wrap_i64];omega
   have X2:wrap64 (m - 1)=m - 1:=by unfold wrap64;omega
   go_wp2;go_roundw
   case rel=>exact ⟨m - 1,d2,I,p+j+1,c2+1,rfl,⟨by omega,by omega,by omega⟩,R0,Lh_ (by have:=V1.out;have:=HJ.out;omega),O1,X0,Q0,W0,N0⟩
   simp [intOf];omega
  have ez:(z6 == 0)=false:=by simpa using hz6
  clear hz6;obtain ⟨S,T,U,V,W,X,Y,Z,A0,B0,D,E,F,G⟩:=s14_ J0.out.1;obtain ⟨S2,T2,U2,V2⟩:=s4_ E1.out.1;go_wp2_with fail;refine (Apply_any d h t y (NoD w w2.heap.size) w14 (fun x hx=>by have:=F0.out;have:=J0.out.2.2;rcases hx with hx | hx <;> omega) E0.out (F1.out.pre (by omega)) G1.out.ok G1.out.tag (by have:=K3.out;omega) (O0.out.next R.out) (H7.out.below R.out)).mono ?_;rintro e w20 ⟨hb,I,rfl,hd⟩;obtain ⟨d2,hd2⟩:∃ z,applyD d t y=z:=⟨_,rfl⟩;rw [hd2] at hd ⊢;have R0:=Lh_ (show DraftI (c2+1) d2 from hd2 ▸ F1.out.apply G1.out (by have:=K3.out;unfold maxLen;omega));have HE:=Lh_ hd;clear hd2 hd;clear S T U V W X Y Z A0 B0 D E F G S2 T2 U2 V2;have M1:=Lh_ (show w14.heap.size≤w20.heap.size from hb.size);have H:=tb_ R hb;have Q:=kb_ J0 hb;have V3:=kb_ E1 hb;have O:=Lh_ (B1.out.kept (grown_none hb) (fun e=>by cases e) (fun g e=>by cases e));have M:=Lh_ (Nat.lt_of_lt_of_le F0.out (hb).size);have L0:=Lh_ (E0.out.below hb);clear hb;obtain ⟨S,T,U,V,W,X,Y,Z,A0,B0,D,E,F,G⟩:=s14_ Q.out.1;have R2:=Q.out.2.1;go_upto_region 12 with fail
  clear S T U V W X Y Z A0 B0 D E F G R2;obtain ⟨w25,hw25⟩:∃ z,set14 w20 (w2.heap.size) (.slice I.a0 d2.props.length I.c0) (.slice I.a1 d2.tags.length I.c1) (.slice I.a2 d2.links.length I.c2) (.slice I.a3 d2.run.length I.c3) (.slice I.a4 d2.load.length I.c4) (.string d2.nm) (.int .i64 d2.prio) (.string d2.owner) (.string d2.group) (.int .i64 d2.mode) (.string d2.res) (.int .i64 d2.calls) (.int .i64 d2.ticks) (.slice I.a5 d2.closed.length I.c5)=z:=⟨_,rfl⟩;have C0:w20.grownBy w25 (some (w2.heap.size)):=by rw [← hw25];exact grown14 _ _ _ _ _ _ _ _ _ _ _ _ _ _ _ _
  have U0:BoxL w25 (w2.heap.size) (drV d2 I):=by rw [← hw25];exact Q.out.set14 _ _ _ _ _ _ _ _ _ _ _ _ _ _
  unfold set14 at hw25;rw [hw25];clear hw25;have K2:=Lh_ C0.size;have S0:=Lh_ (show BoxL w25 (w2.heap.size) (drV d2 I) from U0);have G0:=Lh_ (H.out.grown C0 H.out.size (fun q hq=>by have:=Option.some.inj hq;have:=I0.out;omega));have P0:=Lh_ (O.out.kept C0 (fun e=>by have:=Option.some.inj e;have:=I0.out;omega) (fun q e=>by have:=Option.some.inj e;have:=I0.out;omega));have M0:=Lh_ (Nat.lt_of_lt_of_le M.out (C0).size);have H0:=Lh_ (HE.out.grown C0 (.inl (.inr rfl)));clear C0 U0;obtain ⟨S,T,U,V,W,X,Y,Z,A0,B0,D,E,F,G⟩:=s14_ S0.out.1;go_wp2_with fail;refine (RSound_any d2 I w25 H0.out.sl R0.out.snd (O0.out.next G0.out)).mono ?_;rintro e w26 ⟨rfl,B⟩;clear S T U V W X Y Z A0 B0 D E F G;have L2:=Lh_ (show w25.heap.size≤w26.heap.size from B.size);have W0:=tb_ G0 B;have O1:=kb_ S0 B;have Q0:=Lh_ (P0.out.kept (grown_none B) (fun e=>by cases e) (fun g e=>by cases e));have N0:=Lh_ (Nat.lt_of_lt_of_le M0.out (B).size);have X0:=Lh_ (H0.out.below B);clear B;have Q3:IntKind.i64.wrap (m - 1)=m - 1:=by rw [IntKind.wrap_i64];omega
  have X2:wrap64 (m - 1)=m - 1:=by unfold wrap64;omega
  go_wp2;go_roundw
  case rel=>exact ⟨m - 1,d2,I,p+j+1,c2+1,rfl,⟨by omega,by omega,by omega⟩,R0,Lh_ (by have:=V1.out;have:=HJ.out;omega),O1,X0,Q0,W0,N0⟩
  simp [intOf];omega
 obtain ⟨S,T,U,V,W,X,Y,Z,A0,B0,D,E,F,G⟩:=s14_ N1.out.1;go_wp2_with fail;refine (Import_any d h Aa ca al (fun _=>False) wo (fun _ h=>h.elim) (G2.out.more (fun _ _ h=>h.elim)) (F1.out.pre (by omega)) (G4.out.next (Nat.le_refl _) Q1.out)).mono ?_;rintro e w20 ⟨hb,I,rfl,hd⟩;obtain ⟨d2,hd2⟩:∃ z,importD d al=z:=⟨_,rfl⟩;rw [hd2] at hd ⊢;have C4:=Lh_ (show SoundD d2 from hd2 ▸ import_sound al F1.out.snd);have HE:=Lh_ hd;clear hd2 hd;clear S T U V W X Y Z A0 B0 D E F G;have M1:=Lh_ (show wo.heap.size≤w20.heap.size from hb.size);have H:=tb_ Q1 hb;have Q:=kb_ N1 hb;have O:=Lh_ (J3.out.kept (grown_none hb) (fun e=>by cases e) (fun g e=>by cases e));have M:=Lh_ (Nat.lt_of_lt_of_le G3.out (hb).size);have L0:=Lh_ (G2.out.below hb);clear hb;go_wp2_with fail;refine (RSound_any d2 I w20 HE.out.sl C4.out (O0.out.next H.out)).mono ?_;rintro e w21 ⟨rfl,L⟩;have E4:=Lh_ (show w20.heap.size≤w21.heap.size from L.size);have V0:=tb_ H L;have R4:=kb_ Q L;have Y3:=Lh_ (O.out.kept (grown_none L) (fun e=>by cases e) (fun g e=>by cases e));have X3:=Lh_ (Nat.lt_of_lt_of_le M.out (L).size);have W3:=Lh_ (L0.out.below L);clear L;go_wp2_with fail;refine (known13_any _ (O0.out.next V0.out) (H7.out.below V0.out)).mono ?_;rintro e w_ ⟨rfl,T0⟩;have I1:=Lh_ (below_next V0.out T0);clear T0;go_wp2;go_ret;exact ⟨by try rfl,I1.out⟩
end Go.Proofs.YtjpoljlgkgmdkaaGreatDoor
namespace Go.Proofs
open Go.Shelf
def Tryz.laysM146_ren:Go.Shelf.Ren:=⟨fun | 146=>42 | 221=>87 | 268=>131 | 138=>132 | 143=>133 | 195=>161 | 197=>162 | 218=>163 | 219=>164 | 260=>193 | 217=>173 | 225=>194 | 224=>195 | 267=>196 | 266=>204 | 314=>211 | n=>n,fun | 9=>9 | 31=>27 | 3=>3 | 4=>4 | 0=>0 | 105=>174 | 21=>21 | 5=>5 | 46=>168 | 119=>217 | 139=>220 | 138=>219 | 146=>221 | 51=>205 | n=>n,fun | 1=>0 | 3=>5 | 4=>6 | n=>n⟩
theorem Tryz.laysM146:Go.Proofs.LaysM.n146 Tryz.prog Tryz.laysM146_ren:={
 mixed:=by kernel_rfl
 f138:=Tryz.func132.trans (congrArg some (by kernel_rfl))
 f143:=Tryz.func133.trans (congrArg some (by kernel_rfl))
 f146:=Tryz.func42.trans (congrArg some (by kernel_rfl))
 f195:=Tryz.func161.trans (congrArg some (by kernel_rfl))
 f197:=Tryz.func162.trans (congrArg some (by kernel_rfl))
 f217:=Tryz.func173.trans (congrArg some (by kernel_rfl))
 f218:=Tryz.func163.trans (congrArg some (by kernel_rfl))
 f219:=Tryz.func164.trans (congrArg some (by kernel_rfl))
 f221:=Tryz.func87.trans (congrArg some (by kernel_rfl))
 f224:=Tryz.func195.trans (congrArg some (by kernel_rfl))
 f225:=Tryz.func194.trans (congrArg some (by kernel_rfl))
 f260:=Tryz.func193.trans (congrArg some (by kernel_rfl))
 f266:=Tryz.func204.trans (congrArg some (by kernel_rfl))
 f267:=Tryz.func196.trans (congrArg some (by kernel_rfl))
 f268:=Tryz.func131.trans (congrArg some (by kernel_rfl))
 f314:=Tryz.func211.trans (congrArg some (by kernel_rfl))
 t0:=Tryz.underlying0
 a0:=Tryz.isAgg0
 z0:=Tryz.sizeOf0
 v0:=Tryz.zeroValue0
 t3:=Tryz.underlying3
 a3:=Tryz.isAgg3
 z3:=Tryz.sizeOf3
 v3:=Tryz.zeroValue3
 t4:=Tryz.underlying4
 a4:=Tryz.isAgg4
 z4:=Tryz.sizeOf4
 v4:=Tryz.zeroValue4
 t5:=Tryz.underlying5
 a5:=Tryz.isAgg5
 z5:=Tryz.sizeOf5
 v5:=Tryz.zeroValue5
 t9:=Tryz.underlying9
 a9:=Tryz.isAgg9
 z9:=Tryz.sizeOf9
 v9:=Tryz.zeroValue9
 t21:=Tryz.underlying21
 a21:=Tryz.isAgg21
 z21:=Tryz.sizeOf21
 v21:=Tryz.zeroValue21
 t31:=Tryz.underlying27
 a31:=Tryz.isAgg27
 z31:=Tryz.sizeOf27
 v31:=Tryz.zeroValue27
 t46:=Tryz.underlying168
 a46:=Tryz.isAgg168
 z46:=Tryz.sizeOf168
 v46:=Tryz.zeroValue168
 t51:=Tryz.underlying205
 a51:=Tryz.isAgg205
 z51:=Tryz.sizeOf205
 v51:=Tryz.zeroValue205
 t105:=Tryz.underlying174
 a105:=Tryz.isAgg174
 z105:=Tryz.sizeOf174
 v105:=Tryz.zeroValue174
 t119:=Tryz.underlying217
 a119:=Tryz.isAgg217
 z119:=Tryz.sizeOf217
 t138:=Tryz.underlying219
 a138:=Tryz.isAgg219
 z138:=Tryz.sizeOf219
 v138:=Tryz.zeroValue219
 t139:=Tryz.underlying220
 a139:=Tryz.isAgg220
 z139:=Tryz.sizeOf220
 v139:=Tryz.zeroValue220
 t146:=Tryz.underlying221
 a146:=Tryz.isAgg221
 z146:=Tryz.sizeOf221
 v146:=Tryz.zeroValue221
 g1:=by kernel_rfl
 g3:=by kernel_rfl
 g4:=by kernel_rfl
 i0:=by kernel_rfl
 i3:=by kernel_rfl
 i4:=by kernel_rfl
 i5:=by kernel_rfl
 i9:=by kernel_rfl
 i21:=by kernel_rfl
 i31:=by kernel_rfl
 i46:=by kernel_rfl
 i51:=by kernel_rfl
 i105:=by kernel_rfl
 i138:=by kernel_rfl
 i139:=by kernel_rfl
 i146:=by kernel_rfl
 m1:=by kernel_rfl
 s1_3:=fun w h=>Go.Proofs.cell_of_shapedOpen_int (zero:=#[.int .i64 0]) (t:=3) h (of_decide_eq_true (by kernel_rfl)) (by kernel_rfl) rfl (by kernel_rfl) (by kernel_rfl) Tryz.underlying3
 m3:=by kernel_rfl
 m4:=by kernel_rfl }
end Go.Proofs
namespace Go.Proofs.YtjpoljlgkgmdkaaGreatDoor
open Go.RowKit Go.Cold
namespace cAssignSound
open Go.ChangeShapes Go.WideShapes Go.ChangeAt
open Go.ChangeMaps (open_string)
set_option maxRecDepth 100000
theorem reads (os:Os) {H:Type} (enc:TypeId × Value→H):∃ places,DataW.whole enc Tryz.prog ((World.laidAll Tryz.prog os Rows.assignSoundRow.laid).forCall (fun _ _=>0) ⟨#[],#[.slice none 0 0,.string ⟨#[]⟩,.slice none 0 0],[]⟩).memory Tryz.f9.params.toList Rows.assignSoundSpec.vars false (#[.slice none 0 0,.string ⟨#[]⟩,.slice none 0 0]:Array Value).toList 8=some ([.nil,.lit (.string []),.nil],[],places) :=
 ⟨[],by kernel_rfl⟩
theorem lifted (os:Os) (started:os.Started) (H:Type) (enc:TypeId × Value→H) (F:Stop.Interp) :
  ReturnsInHanded {} Tryz.checked os 9 .any ((OpenSpec.ofChange Rows.assignSoundSpec).preRow enc Tryz.prog Tryz.f9 Rows.assignSoundRow.domain false Rows.assignSoundRow.laid) (((OpenSpec.ofChange Rows.assignSoundSpec).at F).post enc Tryz.prog Tryz.f9 false true false false):=by
 obtain ⟨A,C⟩:=reads os enc;refine law_lifted os started H enc F (by kernel_rfl) Tryz.func9 #[.slice none 0 0,.string ⟨#[]⟩,.slice none 0 0] (World.shaped_of_ZipB (by kernel_rfl) (by kernel_rfl)) (by kernel_rfl)
  (OpenSpec.preRow_of_cond 8 C (by kernel_rfl) (fun k hk=>by cases hk) (by kernel_rfl) (laidMet_laidAll _ (by kernel_rfl) (by kernel_rfl))) rfl rfl
  (fun ds hl=>by
   rw [Tryz.params9] at hl;match ds,hl with
   | [P,Q,R],_=>rfl) (by kernel_rfl) ?_
 intro W base args ds ps hval hA hlt hz hsh hlaid;rw [Tryz.params9] at hA hval;obtain ⟨G,F0,P,S,p0,q0,B,rfl,rfl,V,Z⟩:=trodAll_cons hA;obtain ⟨I,G0,Q,T,p1,q1,rfl,rfl,rfl,X,r1⟩:=trodAll_cons Z;obtain ⟨J,H0,R,U,p2,q2,rfl,rfl,rfl,Y,r2⟩:=trodAll_cons r1;obtain ⟨rfl,rfl,rfl⟩:=trodAll_nil r2;obtain rfl:args=#[G,I,J]:=by cases args;simp_all
 obtain ⟨K,N,D,rfl,s0⟩:=open_nums Tryz.underlying22 Tryz.underlying3 (by kernel_rfl) (hval 0 22 G rfl rfl) V (fun x C=>hlt x (List.mem_append_left _ C));obtain ⟨M,rfl,rfl,rfl,w1⟩:=open_string Tryz.underlying9 (hval 1 9 I rfl rfl) X;obtain ⟨L,O,E,rfl,s2⟩:=open_attrs (hval 2 26 J rfl rfl) Y;exact lawSound13_any K N D M L O E W (show Ok W from Tryz.laysM146.s1_3 W hsh) (okf8 hlaid) s0 w1 s2
theorem said:Rows.AssignSoundSaid :=
 OpenClaim.holds_of_cond 9 Tryz.f9 rfl rfl rfl rfl rfl rfl rfl ⟨rfl,rfl,rfl,rfl,rfl⟩ rfl rfl rfl rfl rfl (by kernel_rfl) Tryz.func9 (by kernel_rfl)
  (of_decide_eq_true (by kernel_rfl)) (by unfold Func.isWrapper;first | (rw [if_pos (by decide +kernel)];kernel_rfl) | (rw [if_neg (by decide +kernel)];exact ⟨rfl,rfl⟩))
  (fun os started H enc _ F=>by rw [OpenClaim.pre_eq_preRow];exact lifted os started H enc F)
theorem plain (f:FuncId) (fn:Func) (hf:Tryz.pinned.checked.prog.funcNamed Rows.assignSoundRow.func=some f) (hfn:Tryz.pinned.checked.prog.funcs[f]? = some fn) :
  true=Tryz.pinned.checked.prog.looks []∧∀ (j:Nat) t,fn.params[j]? = some t→Tryz.pinned.checked.prog.wantsStandIn t=false:=by
 obtain rfl:f=9:=Option.some.inj ((show Tryz.prog.funcNamed Rows.assignSoundRow.func=some 9 by kernel_rfl).symm.trans hf) |>.symm;obtain rfl:fn=Tryz.f9:=(Option.some.inj (Tryz.func9.symm.trans hfn)).symm;refine ⟨by kernel_rfl,fun j t ht=>?_⟩;rw [Tryz.params9] at ht;have B:t ∈ [22,9,26]:=by simpa using Array.mem_of_getElem? ht
 have A:([22,9,26].all fun u=>!Tryz.prog.wantsStandIn u)=true:=by kernel_rfl
 exact (show Tryz.prog.wantsStandIn t=false by simpa using List.all_eq_true.1 A t B)
theorem card:Rows.AssignSoundCardSaid :=
 Claim7.holds_tied_plain_at .later [] _ _ _ _ said (fun _ h=>by cases h) (by kernel_rfl) (fun _ h=>by cases h) assignSound_row_tie rfl ⟨rfl,rfl⟩ (by kernel_rfl) rfl plain (by kernel_rfl)
end cAssignSound
end Go.Proofs.YtjpoljlgkgmdkaaGreatDoor
