/-
  AssignImports: row and card.
 Conditions: those of the given row and card (the listed variables of the library hold what the text lays),nothing else.
-/
import Derived.Test.YtjpoljlgkgmdkaaGreatDoorMVQ
import Derived.ShutString
set_option linter.unusedSimpArgs false
set_option linter.unusedVariables false
namespace Go.Cold
open Go Go.RowKit Go.Proofs.YtjpoljlgkgmdkaaGreatDoor
def imA:List ByteArray:=[⟨#[73,68,95,65]⟩,⟨#[68,82,73,86,69,82]⟩,⟨#[120]⟩,⟨#[]⟩]
theorem imA_small:∀ y ∈ imA,y.size≤maxLen:=by decide +kernel
def imB:List ByteArray:=[⟨#[49]⟩,⟨#[]⟩,⟨#[1]⟩]
theorem imB_small:∀ y ∈ imB,y.size≤maxLen:=by decide +kernel
def imC:List ByteArray:=[⟨#[73,68,95,65]⟩,⟨#[73,68,95,66]⟩]
theorem imC_small:∀ y ∈ imC,y.size≤maxLen:=by decide +kernel
theorem sl_attr2 {w w':World} {T:TypeId} {a b:Attr} (h:w.alloc (.cells #[.string a.name,.string a.value,.string b.name,.string b.value] T)=w') (h1:a.name.size≤maxLen∧a.value.size≤maxLen) (h2:b.name.size≤maxLen∧b.value.size≤maxLen):Sl w' w'.heap.size (some ⟨w.heap.size,0,none⟩) 2 [a,b]:=by
 have A:=box_mk h;refine ⟨Nat.le_refl _,by decide,fun _=>⟨w.heap.size,0,rfl,A.2.2,fun i x hx=>?_⟩⟩;have C:i=0∨i=1:=by have:=(List.getElem?_eq_some_iff.1 hx).1;simp at this;omega
 rcases C with rfl | rfl
 ·
  obtain rfl:=Option.some.inj hx
  exact ⟨[.string a.name,.string a.value],⟨rfl,h1⟩,fun j u hu=>by
   rw [Nat.zero_mul,Nat.zero_add,Nat.zero_add];refine A.1 j u ?_;have B:j=0∨j=1:=by have:=(List.getElem?_eq_some_iff.1 hu).1;simp at this;omega
   rcases B with rfl | rfl <;> exact hu⟩
 obtain rfl:=Option.some.inj hx;exact ⟨[.string b.name,.string b.value],⟨rfl,h2⟩,fun j u hu=>by
  show w'.cell? ⟨w.heap.size,0+(1 * 2+j),none⟩=_
  rw [Nat.zero_add,Nat.one_mul];refine A.1 (2+j) u ?_;have B:j=0∨j=1:=by have:=(List.getElem?_eq_some_iff.1 hu).1;simp at this;omega
  rcases B with rfl | rfl <;> exact hu⟩
end Go.Cold
namespace Go.Proofs.YtjpoljlgkgmdkaaGreatDoor
open Go.RowKit Go.Cold
set_option maxRecDepth 100000 in
set_option maxHeartbeats 16000000 in
theorem lawImports13_any (A:Option Addr) (c:Nat) (xs:List Int) (Aa:Option Addr) (ca:Nat) (al:List Attr) (w:World) (hok:Ok w) (h7:Ok7 w) (hx:Sl w w.heap.size A c xs) (hxa:Sl w w.heap.size Aa ca al) :
  Calls Tryz.prog 8 #[.slice A xs.length c,.slice Aa al.length ca] w fun e w'=>e=.returned (.bool true)∧Below w.heap.size w w':=by
 have S4:=Lh_ (notG_of hok);have U2:=Lh_ hok;have H7:=Lh_ h7;have HX:=Lh_ hx;clear hok h7 hx;have E5:=Lh_ (zero_of_info (P:=Tryz.prog) (t:=30) info_draft2).1;have O5:=Lh_ (zero_of_info (P:=Tryz.prog) (t:=35) info_term3).1;have C5:=Lh_ hxa;clear hxa;go_enter Tryz.func8,Tryz.ntmps8;by_cases hr:80<al.length
 ·
  have i9:(80:Int)<(al.length:Int):=by omega
  go_wp2_with fail;refine (known13_any _ (U2.out.next (Below.refl _ _)) (H7.out.below (Below.refl _ _))).mono ?_;rintro e w_ ⟨rfl,B⟩;have P4:=Lh_ (below_next (Below.refl _ _) B);clear B;go_wp2;go_ret;exact ⟨by try rfl,P4.out⟩
 have i9:¬ (80:Int)<(al.length:Int):=by omega
 have M5:=Lh_ (show al.length≤80 by omega);clear hr;go_upto_region 4 with fail
 have U:=tape_new HX.out;obtain ⟨w1,hw1⟩:∃ z,w.alloc (.cells #[.slice A xs.length c,.int .i64 0] 25)=z:=⟨_,rfl⟩;rw [hw1] at U;have A3:Below w.heap.size w w1:=by rw [← hw1];exact (Below.refl _ _).alloc (Nat.le_refl _) _
 have P3:=Lh_ (show w.heap.size<w1.heap.size by rw [← hw1];simp);try simp only [hw1]
 have B5:=Lh_ U;clear hw1 U;have H5:=Lh_ (show w.heap.size≤w1.heap.size from A3.size);have A0:=Lh_ A3;clear A3;clear i9;go_wp2_with fail;refine (draft_any 6 xs 0 w w1 ⟨by decide,by decide⟩ U2.out H7.out S4.out A0.out (by decide) B5.out).mono ?_;rintro e w2 ⟨C,D,p0,rfl,A4,Z3,B4,G,E⟩;have Z0:=Lh_ A4;have V2:=Lh_ B4;clear A4 B4;have L3:=Lh_ (below_of_grown A0.out E A0.out.size (Nat.le_refl _));have W2:=Lh_ G;have F0:=Lh_ (Nat.lt_of_lt_of_le P3.out E.size);clear G E;have N3:=Lh_ (Z3.more (N':=NoD w w2.heap.size) (fun x hx q=>q.elim (fun h=>by have:=P3.out;show x≤w1.heap.size;omega) (fun h=>by omega)));have R2:=Lh_ (show w.heap.size<w2.heap.size from F0.out);clear Z3;have F5:=E5.out;go_upto_region 5 with fail
 obtain ⟨w3,C4,J,O3,Z2⟩:=bx_ w2 [.slice D.a0 C.props.length D.c0,.slice D.a1 C.tags.length D.c1,.slice D.a2 C.links.length D.c2,.slice D.a3 C.run.length D.c3,.slice D.a4 C.load.length D.c4,.string C.nm,.int .i64 C.prio,.string C.owner,.string C.group,.int .i64 C.mode,.string C.res,.int .i64 C.calls,.int .i64 C.ticks,.slice D.a5 C.closed.length D.c5] 30;try simp only [C4]
 have I5:=Lh_ (show w2.heap.size≤w3.heap.size from J.size);have A2:=tb_ L3 J;have X2:=Lh_ (W2.out.kept (grown_none J) (fun e=>by cases e) (fun g e=>by cases e));have S2:=Lh_ (Nat.lt_of_lt_of_le F0.out (J).size);have O2:=Lh_ (N3.out.below J);clear C4 J;try rw [← O3.out]
 clear F5;go_wp2_with fail;refine (One_lit imA xs (p0) w.heap.size w.heap.size #[.string ⟨#[73,68,95,65]⟩,.string ⟨#[68,82,73,86,69,82]⟩,.string ⟨#[120]⟩,.string ⟨#[]⟩] 9 w3 4 rfl rfl (by have:=V2.out;omega) X2.out (by decide) (by decide)).mono ?_;rintro e w11 ⟨y1,R,rfl,G,E⟩;have T3:=Lh_ (imA_small y1 R);clear R;have B0:=Lh_ (below_of_grown A2.out E A2.out.size (Nat.le_refl _));have R1:=Lh_ G;have G1:=Lh_ (Nat.lt_of_lt_of_le S2.out E.size);have W3:=kg_ Z2 E (by have:=R2.out;omega);have V0:=Lh_ (O2.out.grown E (.inl (.inl (Nat.le_refl _))));clear G E;go_wp2_with fail;refine (One_lit imB xs (p0+1) w.heap.size w.heap.size #[.string ⟨#[49]⟩,.string ⟨#[]⟩,.string ⟨#[1]⟩] 9 w11 3 rfl rfl (by have:=V2.out;omega) R1.out (by decide) (by decide)).mono ?_;rintro e w12 ⟨y2,R,rfl,G,E⟩;have U3:=Lh_ (imB_small y2 R);clear R;have C0:=Lh_ (below_of_grown B0.out E B0.out.size (Nat.le_refl _));have S1:=Lh_ G;have H1:=Lh_ (Nat.lt_of_lt_of_le G1.out E.size);have X3:=kg_ W3 E (by have:=R2.out;omega);have W0:=Lh_ (V0.out.grown E (.inl (.inl (Nat.le_refl _))));clear G E;go_wp2_with fail;refine (One_lit imC xs (p0+1+1) w.heap.size w.heap.size #[.string ⟨#[73,68,95,65]⟩,.string ⟨#[73,68,95,66]⟩] 9 w12 2 rfl rfl (by have:=V2.out;omega) S1.out (by decide) (by decide)).mono ?_;rintro e w13 ⟨y3,R,rfl,G,E⟩;have V3:=Lh_ (imC_small y3 R);clear R;have N2:=Lh_ (below_of_grown C0.out E C0.out.size (Nat.le_refl _));have T1:=Lh_ G;have I1:=Lh_ (Nat.lt_of_lt_of_le H1.out E.size);have Y3:=kg_ X3 E (by have:=R2.out;omega);have X0:=Lh_ (W0.out.grown E (.inl (.inl (Nat.le_refl _))));clear G E;go_upto_region 6 with fail
 obtain ⟨w14,hw14⟩:∃ z,w13.alloc (.cells #[.string y1,.string y2,.string y3,.string ⟨#[50]⟩] 53)=z:=⟨_,rfl⟩;have I:Below w13.heap.size w13 w14:=by rw [← hw14];exact (Below.refl _ _).alloc (Nat.le_refl _) _
 have B2:=Lh_ (sl_attr2 (a:=⟨y1,y2⟩) (b:=⟨y3,⟨#[50]⟩⟩) hw14 ⟨T3.out,U3.out⟩ ⟨V3.out,show (⟨#[50]⟩:ByteArray).size≤maxLen by decide⟩);try rw [hw14]
 clear hw14;have A5:=Lh_ (show w13.heap.size≤w14.heap.size from I.size);have D0:=tb_ N2 I;have G2:=kb_ Y3 I;have U1:=Lh_ (T1.out.kept (grown_none I) (fun e=>by cases e) (fun g e=>by cases e));have J1:=Lh_ (Nat.lt_of_lt_of_le I1.out (I).size);have Y0:=Lh_ (X0.out.below I);clear I;have D5:=Lh_ (C5.out.next (Nat.le_refl _) D0.out);obtain ⟨ol,hol⟩:∃ z,[(⟨y1,y2⟩:Attr),⟨y3,⟨#[50]⟩⟩]=z:=⟨_,rfl⟩;have Q3:=Lh_ (show ol.length=2 by rw [← hol];rfl);have R3:=Lh_ (show Sl w14 w14.heap.size (some ⟨w13.heap.size,0,none⟩) 2 ol from hol ▸ B2.out);clear B2 hol;refine wp_region_held_drew (S:=fun w'=>BoxL w' w2.heap.size (drV C D)) (by kernel_rfl) G2.out (fun hS0=>?_);obtain ⟨wd,hwd⟩:∃ z,World.drew w14=z:=⟨_,rfl⟩;rw [hwd] at hS0 ⊢;have B:Below w14.heap.size w14 wd:=by rw [← hwd];exact below_drewN_self _ _ 1
 clear hwd hS0;have J5:=Lh_ (show w14.heap.size≤wd.heap.size from B.size);have M3:=tb_ D0 B;have M0:=kb_ G2 B;have Y2:=Lh_ (U1.out.kept (grown_none B) (fun e=>by cases e) (fun g e=>by cases e));have T2:=Lh_ (Nat.lt_of_lt_of_le J1.out (B).size);have E0:=Lh_ (Y0.out.below B);have K1:=Lh_ ((R3.out).next (Nat.le_refl _) B);have K0:=Lh_ ((D5.out).next (Nat.le_refl _) B);clear B;refine tk1 0 29 (.agg #[.slice D.a0 C.props.length D.c0,.slice D.a1 C.tags.length D.c1,.slice D.a2 C.links.length D.c2,.slice D.a3 C.run.length D.c3,.slice D.a4 C.load.length D.c4,.string C.nm,.int .i64 C.prio,.string C.owner,.string C.group,.int .i64 C.mode,.string C.res,.int .i64 C.calls,.int .i64 C.ticks,.slice D.a5 C.closed.length D.c5]) rfl (fun w' hS=>by (have B3:=hS.1 0 _ rfl;have C3:=hS.1 1 _ rfl;have D3:=hS.1 2 _ rfl;have E3:=hS.1 3 _ rfl;have F3:=hS.1 4 _ rfl;have G3:=hS.1 5 _ rfl;have H3:=hS.1 6 _ rfl;have I3:=hS.1 7 _ rfl;have J3:=hS.1 8 _ rfl;have K3:=hS.1 9 _ rfl;have O0:=hS.1 10 _ rfl;have P0:=hS.1 11 _ rfl;have Q0:=hS.1 12 _ rfl;have R0:=hS.1 13 _ rfl;go_simp)) M0.out ?_;try simp only [zP,zA,zB,zC]
 refine tk1 1 30 (.slice Aa al.length ca) rfl (fun w' hS=>by go_simp) M0.out ?_;try simp only [zP,zA,zB,zC]
 refine tk1 3 32 (.agg #[.slice D.a0 C.props.length D.c0,.slice D.a1 C.tags.length D.c1,.slice D.a2 C.links.length D.c2,.slice D.a3 C.run.length D.c3,.slice D.a4 C.load.length D.c4,.string C.nm,.int .i64 C.prio,.string C.owner,.string C.group,.int .i64 C.mode,.string C.res,.int .i64 C.calls,.int .i64 C.ticks,.slice D.a5 C.closed.length D.c5]) rfl (fun w' hS=>by (have B3:=hS.1 0 _ rfl;have C3:=hS.1 1 _ rfl;have D3:=hS.1 2 _ rfl;have E3:=hS.1 3 _ rfl;have F3:=hS.1 4 _ rfl;have G3:=hS.1 5 _ rfl;have H3:=hS.1 6 _ rfl;have I3:=hS.1 7 _ rfl;have J3:=hS.1 8 _ rfl;have K3:=hS.1 9 _ rfl;have O0:=hS.1 10 _ rfl;have P0:=hS.1 11 _ rfl;have Q0:=hS.1 12 _ rfl;have R0:=hS.1 13 _ rfl;go_simp)) M0.out ?_;try simp only [zP,zA,zB,zC]
 refine tk1 4 33 (.slice Aa al.length ca) rfl (fun w' hS=>by go_simp) M0.out ?_;try simp only [zP,zA,zB,zC]
 refine rd1 2 (o:=⟨some 31,.call ⟨_,_,_⟩,_,_,_,_⟩) rfl (fun K hK=>?_);go_simp;go_at_call 25;refine (Import_any C D Aa ca al (fun _=>False) wd (fun _ h=>h.elim) (E0.out.more (fun _ _ h=>h.elim)) (Z0.out.pre (by omega)) K0.out).mono ?_;rintro e' q15 ⟨B,h2,rfl,F⟩;have Q4:=Lh_ F;clear F;have T4:=Lh_ (show wd.heap.size≤q15.heap.size from B.size);have H2:=tb_ M3 B;have C2:=kb_ M0 B;have L1:=Lh_ (Y2.out.kept (grown_none B) (fun e=>by cases e) (fun g e=>by cases e));have A1:=Lh_ (Nat.lt_of_lt_of_le T2.out (B).size);have V:=Lh_ (E0.out.below B);have G0:=Lh_ ((K1.out).next (Nat.le_refl _) B);have Y:=Lh_ ((K0.out).next (Nat.le_refl _) B);clear B;refine hK.out _ _ C2.out (fun _=>?_);clear hK K;try simp only [zP,zA,zB,zC]
 refine rd1 5 (o:=⟨some 34,.call ⟨_,_,_⟩,_,_,_,_⟩) rfl (fun K hK=>?_);go_simp;go_at_call 26;refine (RImport_any C D Aa ca al (fun _=>False) q15 (fun _ h=>h.elim) (V.out.more (fun _ _ h=>h.elim)) (Z0.out.pre (by omega)) Y.out).mono ?_;rintro e' q16 ⟨B,h3,rfl,F⟩;have P2:=Lh_ F;clear F;have U4:=Lh_ (show q15.heap.size≤q16.heap.size from B.size);have I2:=tb_ H2 B;have D2:=kb_ C2 B;have M1:=Lh_ (L1.out.kept (grown_none B) (fun e=>by cases e) (fun g e=>by cases e));have B1:=Lh_ (Nat.lt_of_lt_of_le A1.out (B).size);have S0:=Lh_ (V.out.below B);have H0:=Lh_ ((G0.out).next (Nat.le_refl _) B);have V1:=Lh_ ((Y.out).next (Nat.le_refl _) B);have L:=Lh_ (Q4.out.below B);clear B;refine hK.out _ _ D2.out (fun _=>?_);clear hK K;try simp only [zP,zA,zB,zC]
 obtain ⟨d2,F⟩:∃ z,importD C al=z:=⟨_,rfl⟩;rw [F] at L P2 ⊢;clear F;refine rd1 6 (o:=⟨some 35,.call ⟨_,_,_⟩,_,_,_,_⟩) rfl (fun K hK=>?_);go_simp;go_at_call 15;refine (SameDraft_same d2 h2 h3 _ L.out.sl P2.out.sl).mono ?_;rintro e' q17 ⟨rfl,B⟩;have V4:=Lh_ (show q16.heap.size≤q17.heap.size from B.size);have J2:=tb_ I2 B;have H:=kb_ D2 B;have N1:=Lh_ (M1.out.kept (grown_none B) (fun e=>by cases e) (fun g e=>by cases e));have C1:=Lh_ (Nat.lt_of_lt_of_le B1.out (B).size);have W:=Lh_ (S0.out.below B);have O:=Lh_ ((H0.out).next (Nat.le_refl _) B);have W1:=Lh_ ((V1.out).next (Nat.le_refl _) B);have E4:=Lh_ (L.out.below B);have F4:=Lh_ (P2.out.below B);clear B;refine hK.out _ _ H.out (fun _=>?_);clear hK K;try simp only [zP,zA,zB,zC]
 refine tk1 7 36 (.bool true) rfl (fun w' hS=>by go_simp) H.out ?_;try simp only [zP,zA,zB,zC]
 refine tk1 8 37 (.agg #[.slice D.a0 C.props.length D.c0,.slice D.a1 C.tags.length D.c1,.slice D.a2 C.links.length D.c2,.slice D.a3 C.run.length D.c3,.slice D.a4 C.load.length D.c4,.string C.nm,.int .i64 C.prio,.string C.owner,.string C.group,.int .i64 C.mode,.string C.res,.int .i64 C.calls,.int .i64 C.ticks,.slice D.a5 C.closed.length D.c5]) rfl (fun w' hS=>by (have B3:=hS.1 0 _ rfl;have C3:=hS.1 1 _ rfl;have D3:=hS.1 2 _ rfl;have E3:=hS.1 3 _ rfl;have F3:=hS.1 4 _ rfl;have G3:=hS.1 5 _ rfl;have H3:=hS.1 6 _ rfl;have I3:=hS.1 7 _ rfl;have J3:=hS.1 8 _ rfl;have K3:=hS.1 9 _ rfl;have O0:=hS.1 10 _ rfl;have P0:=hS.1 11 _ rfl;have Q0:=hS.1 12 _ rfl;have R0:=hS.1 13 _ rfl;go_simp)) H.out ?_;try simp only [zP,zA,zB,zC]
 refine tk1 9 38 (.slice (some ⟨w13.heap.size,0,none⟩) 2 2) rfl (fun w' hS=>by go_simp) H.out ?_;try simp only [zP,zA,zB,zC]
 refine tk1 11 40 (.agg #[.slice D.a0 C.props.length D.c0,.slice D.a1 C.tags.length D.c1,.slice D.a2 C.links.length D.c2,.slice D.a3 C.run.length D.c3,.slice D.a4 C.load.length D.c4,.string C.nm,.int .i64 C.prio,.string C.owner,.string C.group,.int .i64 C.mode,.string C.res,.int .i64 C.calls,.int .i64 C.ticks,.slice D.a5 C.closed.length D.c5]) rfl (fun w' hS=>by (have B3:=hS.1 0 _ rfl;have C3:=hS.1 1 _ rfl;have D3:=hS.1 2 _ rfl;have E3:=hS.1 3 _ rfl;have F3:=hS.1 4 _ rfl;have G3:=hS.1 5 _ rfl;have H3:=hS.1 6 _ rfl;have I3:=hS.1 7 _ rfl;have J3:=hS.1 8 _ rfl;have K3:=hS.1 9 _ rfl;have O0:=hS.1 10 _ rfl;have P0:=hS.1 11 _ rfl;have Q0:=hS.1 12 _ rfl;have R0:=hS.1 13 _ rfl;go_simp)) H.out ?_;try simp only [zP,zA,zB,zC]
 refine tk1 12 41 (.slice (some ⟨w13.heap.size,0,none⟩) 2 2) rfl (fun w' hS=>by go_simp) H.out ?_;try simp only [zP,zA,zB,zC]
 refine rd1 10 (o:=⟨some 39,.call ⟨_,_,_⟩,_,_,_,_⟩) rfl (fun K hK=>?_);go_simp;go_at_call 25;have N0:=Import_any C D (some ⟨w13.heap.size,0,none⟩) 2 ol (fun _=>False) q17 (fun _ h=>h.elim) (W.out.more (fun _ _ h=>h.elim)) (Z0.out.pre (by omega)) O.out;rw [Q3.out] at N0;refine (show Calls Tryz.prog _ #[.agg #[.slice D.a0 C.props.length D.c0,.slice D.a1 C.tags.length D.c1,.slice D.a2 C.links.length D.c2,.slice D.a3 C.run.length D.c3,.slice D.a4 C.load.length D.c4,.string C.nm,.int .i64 C.prio,.string C.owner,.string C.group,.int .i64 C.mode,.string C.res,.int .i64 C.calls,.int .i64 C.ticks,.slice D.a5 C.closed.length D.c5],.slice (some ⟨w13.heap.size,0,none⟩) 2 2] _ _ from N0).mono ?_;rintro e' q18 ⟨B,h4,rfl,F⟩;have R4:=Lh_ F;clear F;have W4:=Lh_ (show q17.heap.size≤q18.heap.size from B.size);have K2:=tb_ J2 B;have E2:=kb_ H B;have O1:=Lh_ (N1.out.kept (grown_none B) (fun e=>by cases e) (fun g e=>by cases e));have D1:=Lh_ (Nat.lt_of_lt_of_le C1.out (B).size);have X:=Lh_ (W.out.below B);have Q:=Lh_ ((O.out).next (Nat.le_refl _) B);have X1:=Lh_ ((W1.out).next (Nat.le_refl _) B);clear B;refine hK.out _ _ E2.out (fun _=>?_);clear hK K;try simp only [zP,zA,zB,zC]
 refine rd1 13 (o:=⟨some 42,.call ⟨_,_,_⟩,_,_,_,_⟩) rfl (fun K hK=>?_);go_simp;go_at_call 26;have N0:=RImport_any C D (some ⟨w13.heap.size,0,none⟩) 2 ol (fun _=>False) q18 (fun _ h=>h.elim) (X.out.more (fun _ _ h=>h.elim)) (Z0.out.pre (by omega)) Q.out;rw [Q3.out] at N0;refine (show Calls Tryz.prog _ #[.agg #[.slice D.a0 C.props.length D.c0,.slice D.a1 C.tags.length D.c1,.slice D.a2 C.links.length D.c2,.slice D.a3 C.run.length D.c3,.slice D.a4 C.load.length D.c4,.string C.nm,.int .i64 C.prio,.string C.owner,.string C.group,.int .i64 C.mode,.string C.res,.int .i64 C.calls,.int .i64 C.ticks,.slice D.a5 C.closed.length D.c5],.slice (some ⟨w13.heap.size,0,none⟩) 2 2] _ _ from N0).mono ?_;rintro e' q19 ⟨B,h5,rfl,F⟩;have Q2:=Lh_ F;clear F;have X4:=Lh_ (show q18.heap.size≤q19.heap.size from B.size);have L2:=tb_ K2 B;have F2:=kb_ E2 B;have P1:=Lh_ (O1.out.kept (grown_none B) (fun e=>by cases e) (fun g e=>by cases e));have E1:=Lh_ (Nat.lt_of_lt_of_le D1.out (B).size);have T0:=Lh_ (X.out.below B);have I0:=Lh_ ((Q.out).next (Nat.le_refl _) B);have Y1:=Lh_ ((X1.out).next (Nat.le_refl _) B);have M:=Lh_ (R4.out.below B);clear B;refine hK.out _ _ F2.out (fun _=>?_);clear hK K;try simp only [zP,zA,zB,zC]
 obtain ⟨d4,F⟩:∃ z,importD C ol=z:=⟨_,rfl⟩;rw [F] at M Q2 ⊢;clear F;refine rd1 14 (o:=⟨some 43,.call ⟨_,_,_⟩,_,_,_,_⟩) rfl (fun K hK=>?_);go_simp;go_at_call 15;refine (SameDraft_same d4 h4 h5 _ M.out.sl Q2.out.sl).mono ?_;rintro e' q20 ⟨rfl,B⟩;have Y4:=Lh_ (show q19.heap.size≤q20.heap.size from B.size);have T:=tb_ L2 B;have Z:=kb_ F2 B;have Q1:=Lh_ (P1.out.kept (grown_none B) (fun e=>by cases e) (fun g e=>by cases e));have F1:=Lh_ (Nat.lt_of_lt_of_le E1.out (B).size);have U0:=Lh_ (T0.out.below B);have J0:=Lh_ ((I0.out).next (Nat.le_refl _) B);have Z1:=Lh_ ((Y1.out).next (Nat.le_refl _) B);have G4:=Lh_ (M.out.below B);have H4:=Lh_ (Q2.out.below B);clear B;refine hK.out _ _ Z.out (fun _=>?_);clear hK K;try simp only [zP,zA,zB,zC]
 refine tk1 15 44 (.bool true) rfl (fun w' hS=>by go_simp) Z.out ?_;try simp only [zP,zA,zB,zC]
 refine tk1 16 45 (.bool true) rfl (fun w' hS=>by go_simp) Z.out ?_;try simp only [zP,zA,zB,zC]
 refine rd1 17 (o:=⟨some 46,.call ⟨_,_,_⟩,_,_,_,_⟩) rfl (fun K hK=>?_);go_simp;go_at_call 16;refine (known13_any _ (U2.out.next T.out) (H7.out.below T.out)).mono ?_;rintro e' q21 ⟨rfl,B⟩;have Z4:=Lh_ (show q20.heap.size≤q21.heap.size from B.size);have M2:=tb_ T B;have L0:=kb_ Z B;have J4:=Lh_ (Q1.out.kept (grown_none B) (fun e=>by cases e) (fun g e=>by cases e));have I4:=Lh_ (Nat.lt_of_lt_of_le F1.out (B).size);have D4:=Lh_ (U0.out.below B);have S3:=Lh_ ((J0.out).next (Nat.le_refl _) B);have K4:=Lh_ ((Z1.out).next (Nat.le_refl _) B);clear B;refine hK.out _ _ L0.out (fun _=>?_);clear hK K;try simp only [zP,zA,zB,zC]
 refine tk1 18 47 (.bool true) rfl (fun w' hS=>by go_simp) L0.out ?_;try simp only [zP,zA,zB,zC]
 refine tk1 19 4 (.bool true) rfl (fun w' hS=>by go_simp) L0.out ?_;try simp only [zP,zA,zB,zC]
 refine wpAnyH_done (by kernel_rfl) ?_ _;go_wp2;go_ret;exact ⟨by try rfl,M2.out⟩
end Go.Proofs.YtjpoljlgkgmdkaaGreatDoor
namespace Go.Proofs
open Go.Shelf
def Tryz.laysM146_ren:Go.Shelf.Ren:=⟨fun | 146=>42 | 221=>87 | 268=>131 | 138=>132 | 143=>133 | 195=>161 | 197=>162 | 218=>163 | 219=>164 | 260=>193 | 217=>173 | 225=>194 | 224=>195 | 267=>196 | 266=>204 | 314=>211 | n=>n,fun | 9=>9 | 31=>27 | 3=>3 | 4=>4 | 0=>0 | 105=>174 | 21=>21 | 5=>5 | 46=>168 | 119=>217 | 139=>220 | 138=>219 | 146=>221 | 51=>205 | n=>n,fun | 1=>0 | 3=>5 | 4=>6 | n=>n⟩
theorem Tryz.laysM146:Go.Proofs.LaysM.n146 Tryz.prog Tryz.laysM146_ren:={
 mixed:=by kernel_rfl
 f138:=Tryz.func132.trans (congrArg some (by kernel_rfl))
 f143:=Tryz.func133.trans (congrArg some (by kernel_rfl))
 f146:=Tryz.func42.trans (congrArg some (by kernel_rfl))
 f195:=Tryz.func161.trans (congrArg some (by kernel_rfl))
 f197:=Tryz.func162.trans (congrArg some (by kernel_rfl))
 f217:=Tryz.func173.trans (congrArg some (by kernel_rfl))
 f218:=Tryz.func163.trans (congrArg some (by kernel_rfl))
 f219:=Tryz.func164.trans (congrArg some (by kernel_rfl))
 f221:=Tryz.func87.trans (congrArg some (by kernel_rfl))
 f224:=Tryz.func195.trans (congrArg some (by kernel_rfl))
 f225:=Tryz.func194.trans (congrArg some (by kernel_rfl))
 f260:=Tryz.func193.trans (congrArg some (by kernel_rfl))
 f266:=Tryz.func204.trans (congrArg some (by kernel_rfl))
 f267:=Tryz.func196.trans (congrArg some (by kernel_rfl))
 f268:=Tryz.func131.trans (congrArg some (by kernel_rfl))
 f314:=Tryz.func211.trans (congrArg some (by kernel_rfl))
 t0:=Tryz.underlying0
 a0:=Tryz.isAgg0
 z0:=Tryz.sizeOf0
 v0:=Tryz.zeroValue0
 t3:=Tryz.underlying3
 a3:=Tryz.isAgg3
 z3:=Tryz.sizeOf3
 v3:=Tryz.zeroValue3
 t4:=Tryz.underlying4
 a4:=Tryz.isAgg4
 z4:=Tryz.sizeOf4
 v4:=Tryz.zeroValue4
 t5:=Tryz.underlying5
 a5:=Tryz.isAgg5
 z5:=Tryz.sizeOf5
 v5:=Tryz.zeroValue5
 t9:=Tryz.underlying9
 a9:=Tryz.isAgg9
 z9:=Tryz.sizeOf9
 v9:=Tryz.zeroValue9
 t21:=Tryz.underlying21
 a21:=Tryz.isAgg21
 z21:=Tryz.sizeOf21
 v21:=Tryz.zeroValue21
 t31:=Tryz.underlying27
 a31:=Tryz.isAgg27
 z31:=Tryz.sizeOf27
 v31:=Tryz.zeroValue27
 t46:=Tryz.underlying168
 a46:=Tryz.isAgg168
 z46:=Tryz.sizeOf168
 v46:=Tryz.zeroValue168
 t51:=Tryz.underlying205
 a51:=Tryz.isAgg205
 z51:=Tryz.sizeOf205
 v51:=Tryz.zeroValue205
 t105:=Tryz.underlying174
 a105:=Tryz.isAgg174
 z105:=Tryz.sizeOf174
 v105:=Tryz.zeroValue174
 t119:=Tryz.underlying217
 a119:=Tryz.isAgg217
 z119:=Tryz.sizeOf217
 t138:=Tryz.underlying219
 a138:=Tryz.isAgg219
 z138:=Tryz.sizeOf219
 v138:=Tryz.zeroValue219
 t139:=Tryz.underlying220
 a139:=Tryz.isAgg220
 z139:=Tryz.sizeOf220
 v139:=Tryz.zeroValue220
 t146:=Tryz.underlying221
 a146:=Tryz.isAgg221
 z146:=Tryz.sizeOf221
 v146:=Tryz.zeroValue221
 g1:=by kernel_rfl
 g3:=by kernel_rfl
 g4:=by kernel_rfl
 i0:=by kernel_rfl
 i3:=by kernel_rfl
 i4:=by kernel_rfl
 i5:=by kernel_rfl
 i9:=by kernel_rfl
 i21:=by kernel_rfl
 i31:=by kernel_rfl
 i46:=by kernel_rfl
 i51:=by kernel_rfl
 i105:=by kernel_rfl
 i138:=by kernel_rfl
 i139:=by kernel_rfl
 i146:=by kernel_rfl
 m1:=by kernel_rfl
 s1_3:=fun w h=>Go.Proofs.cell_of_shapedOpen_int (zero:=#[.int .i64 0]) (t:=3) h (of_decide_eq_true (by kernel_rfl)) (by kernel_rfl) rfl (by kernel_rfl) (by kernel_rfl) Tryz.underlying3
 m3:=by kernel_rfl
 m4:=by kernel_rfl }
end Go.Proofs
namespace Go.Proofs.YtjpoljlgkgmdkaaGreatDoor
open Go.RowKit Go.Cold
namespace cAssignImports
open Go.ChangeShapes Go.WideShapes Go.ChangeAt
open Go.ChangeMaps (open_string)
set_option maxRecDepth 100000
theorem reads (os:Os) {H:Type} (enc:TypeId × Value→H):∃ places,DataW.whole enc Tryz.prog ((World.laidAll Tryz.prog os Rows.assignImportsRow.laid).forCall (fun _ _=>0) ⟨#[],#[.slice none 0 0,.slice none 0 0],[]⟩).memory Tryz.f8.params.toList Rows.assignImportsSpec.vars false (#[.slice none 0 0,.slice none 0 0]:Array Value).toList 8=some ([.nil,.nil],[],places) :=
 ⟨[],by kernel_rfl⟩
theorem lifted (os:Os) (started:os.Started) (H:Type) (enc:TypeId × Value→H) (F:Stop.Interp) :
  ReturnsInHanded {} Tryz.checked os 8 .any ((OpenSpec.ofChange Rows.assignImportsSpec).preRow enc Tryz.prog Tryz.f8 Rows.assignImportsRow.domain false Rows.assignImportsRow.laid) (((OpenSpec.ofChange Rows.assignImportsSpec).at F).post enc Tryz.prog Tryz.f8 false true false false):=by
 obtain ⟨A,C⟩:=reads os enc;refine law_lifted os started H enc F (by kernel_rfl) Tryz.func8 #[.slice none 0 0,.slice none 0 0] (World.shaped_of_ZipB (by kernel_rfl) (by kernel_rfl)) (by kernel_rfl)
  (OpenSpec.preRow_of_cond 8 C (by kernel_rfl) (fun k hk=>by cases hk) (by kernel_rfl) (laidMet_laidAll _ (by kernel_rfl) (by kernel_rfl))) rfl rfl
  (fun ds hl=>by
   rw [Tryz.params8] at hl;match ds,hl with
   | [N,O],_=>rfl) (by kernel_rfl) ?_
 intro W base args ds ps hval hA hlt hz hsh hlaid;rw [Tryz.params8] at hA hval;obtain ⟨G,Y,N,P,p0,q0,B,rfl,rfl,R,T⟩:=trodAll_cons hA;obtain ⟨I,Z,O,Q,p1,q1,rfl,rfl,rfl,S,U⟩:=trodAll_cons T;obtain ⟨rfl,rfl,rfl⟩:=trodAll_nil U;obtain rfl:args=#[G,I]:=by cases args;simp_all
 obtain ⟨J,L,D,rfl,V⟩:=open_nums Tryz.underlying22 Tryz.underlying3 (by kernel_rfl) (hval 0 22 G rfl rfl) R (fun x C=>hlt x (List.mem_append_left _ C));obtain ⟨K,M,E,rfl,X⟩:=open_attrs (hval 1 26 I rfl rfl) S;exact lawImports13_any J L D K M E W (show Ok W from Tryz.laysM146.s1_3 W hsh) (okf8 hlaid) V X
theorem said:Rows.AssignImportsSaid :=
 OpenClaim.holds_of_cond 8 Tryz.f8 rfl rfl rfl rfl rfl rfl rfl ⟨rfl,rfl,rfl,rfl,rfl⟩ rfl rfl rfl rfl rfl (by kernel_rfl) Tryz.func8 (by kernel_rfl)
  (of_decide_eq_true (by kernel_rfl)) (by unfold Func.isWrapper;first | (rw [if_pos (by decide +kernel)];kernel_rfl) | (rw [if_neg (by decide +kernel)];exact ⟨rfl,rfl⟩))
  (fun os started H enc _ F=>by rw [OpenClaim.pre_eq_preRow];exact lifted os started H enc F)
theorem plain (f:FuncId) (fn:Func) (hf:Tryz.pinned.checked.prog.funcNamed Rows.assignImportsRow.func=some f) (hfn:Tryz.pinned.checked.prog.funcs[f]? = some fn) :
  true=Tryz.pinned.checked.prog.looks []∧∀ (j:Nat) t,fn.params[j]? = some t→Tryz.pinned.checked.prog.wantsStandIn t=false:=by
 obtain rfl:f=8:=Option.some.inj ((show Tryz.prog.funcNamed Rows.assignImportsRow.func=some 8 by kernel_rfl).symm.trans hf) |>.symm;obtain rfl:fn=Tryz.f8:=(Option.some.inj (Tryz.func8.symm.trans hfn)).symm;refine ⟨by kernel_rfl,fun j t ht=>?_⟩;rw [Tryz.params8] at ht;have B:t ∈ [22,26]:=by simpa using Array.mem_of_getElem? ht
 have A:([22,26].all fun u=>!Tryz.prog.wantsStandIn u)=true:=by kernel_rfl
 exact (show Tryz.prog.wantsStandIn t=false by simpa using List.all_eq_true.1 A t B)
theorem card:Rows.AssignImportsCardSaid :=
 Claim7.holds_tied_plain_at .later [] _ _ _ _ said (fun _ h=>by cases h) (by kernel_rfl) (fun _ h=>by cases h) assignImports_row_tie rfl ⟨rfl,rfl⟩ (by kernel_rfl) rfl plain (by kernel_rfl)
end cAssignImports
end Go.Proofs.YtjpoljlgkgmdkaaGreatDoor
