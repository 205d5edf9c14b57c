/-
  AssignApplies: row and card.
 Conditions: those of the given row and card (the listed variables of the library hold what the text lays),nothing else.
-/
import Derived.Test.YtjpoljlgkgmdkaaGreatDoorKTK
import Derived.Test.YtjpoljlgkgmdkaaGreatDoorKVI
import Derived.Test.YtjpoljlgkgmdkaaGreatDoorKVQ
import Derived.Test.YtjpoljlgkgmdkaaGreatDoorKD
import Derived.ShutString
set_option linter.unusedSimpArgs false
set_option linter.unusedVariables false
namespace Go.Cold
open Go Go.RowKit Go.Proofs.YtjpoljlgkgmdkaaGreatDoor
end Go.Cold
namespace Go.Proofs.YtjpoljlgkgmdkaaGreatDoor
open Go.RowKit Go.Cold
set_option maxRecDepth 100000 in
set_option maxHeartbeats 16000000 in
theorem lawApplies13_any (A:Option Addr) (c:Nat) (xs:List Int) (raw:ByteArray) (w:World) (hok:Ok w) (h7:Ok7 w) (hx:Sl w w.heap.size A c xs) (hs:raw.size≤maxLen) :
  Calls Tryz.prog 6 #[.slice A xs.length c,.string raw] w fun e w'=>e=.returned (.bool true)∧Below w.heap.size w w':=by
 have F8:=Lh_ (notG_of hok);have C1:=Lh_ hok;have H7:=Lh_ h7;have HX:=Lh_ hx;clear hok h7 hx;have Y6:=Lh_ (zero_of_info (P:=Tryz.prog) (t:=30) info_draft2).1;have W8:=Lh_ (zero_of_info (P:=Tryz.prog) (t:=35) info_term3).1;have O9:=Lh_ hs;clear hs;go_enter Tryz.func6,Tryz.ntmps6;by_cases hr:600<raw.size
 ·
  have i0:(600:Int)<(raw.size:Int):=by omega
  go_wp2_with fail;refine (known13_any _ (C1.out.next (Below.refl _ _)) (H7.out.below (Below.refl _ _))).mono ?_;rintro e w_ ⟨rfl,B⟩;have Y4:=Lh_ (below_next (Below.refl _ _) B);clear B;go_wp2;go_ret;exact ⟨by try rfl,Y4.out⟩
 have i0:¬ (600:Int)<(raw.size:Int):=by omega
 have U6:=Lh_ (show raw.size≤600 by omega);clear hr;go_upto_region 4 with fail
 have F1:=tape_new HX.out;obtain ⟨w1,hw1⟩:∃ z,w.alloc (.cells #[.slice A xs.length c,.int .i64 0] 25)=z:=⟨_,rfl⟩;rw [hw1] at F1;have C6:Below w.heap.size w w1:=by rw [← hw1];exact (Below.refl _ _).alloc (Nat.le_refl _) _
 have T6:=Lh_ (show w.heap.size<w1.heap.size by rw [← hw1];simp);try simp only [hw1]
 have S8:=Lh_ F1;clear hw1 F1;have R9:=Lh_ (show w.heap.size≤w1.heap.size from C6.size);have I2:=Lh_ C6;clear C6;clear i0;go_wp2_with fail;refine (draft_any 8 xs 0 w w1 ⟨by decide,by decide⟩ C1.out H7.out F8.out I2.out (by decide) S8.out).mono ?_;rintro e w2 ⟨C,D,p0,rfl,K7,J7,M7,X0,I⟩;have V0:=Lh_ K7;have G8:=Lh_ M7;clear K7 M7;have M6:=Lh_ (below_of_grown I2.out I I2.out.size (Nat.le_refl _));have T5:=Lh_ X0;have L2:=Lh_ (Nat.lt_of_lt_of_le T6.out I.size);clear X0 I;have P6:=Lh_ (J7.more (N':=NoD w w2.heap.size) (fun x hx q=>q.elim (fun h=>by have:=T6.out;show x≤w1.heap.size;omega) (fun h=>by omega)));have H0:=Lh_ (show w.heap.size<w2.heap.size from L2.out);clear J7;have H6:=Y6.out;go_upto_region 5 with fail
 obtain ⟨w3,O7,K0,R6,D1⟩:=bx_ w2 [.slice D.a0 C.props.length D.c0,.slice D.a1 C.tags.length D.c1,.slice D.a2 C.links.length D.c2,.slice D.a3 C.run.length D.c3,.slice D.a4 C.load.length D.c4,.string C.nm,.int .i64 C.prio,.string C.owner,.string C.group,.int .i64 C.mode,.string C.res,.int .i64 C.calls,.int .i64 C.ticks,.slice D.a5 C.closed.length D.c5] 30;try simp only [O7]
 have S9:=Lh_ (show w2.heap.size≤w3.heap.size from K0.size);have N6:=tb_ M6 K0;have U5:=Lh_ (T5.out.kept (grown_none K0) (fun e=>by cases e) (fun g e=>by cases e));have M2:=Lh_ (Nat.lt_of_lt_of_le L2.out (K0).size);have H5:=Lh_ (P6.out.below K0);clear O7 K0;try rw [← R6.out]
 clear H6;have B8:=Lh_ (H5.out.more (N':=(fun x=>NoD w w2.heap.size x∨x=w3.heap.size)) (fun x hx q=>q.elim (fun h=>h) (fun h=>by omega)));have T:=Lh_ (show w.heap.size<w3.heap.size∧w2.heap.size<w3.heap.size from ⟨M2.out,D1.out.2.2⟩);obtain ⟨X8,Y8,Z8,A9,B9,C9,D9,E9,F9,G9,B7,C7,D7,E7⟩:=s14_ D1.out.1;have H6:=Y6.out;go_upto_region 6 with fail
 clear X8 Y8 Z8 A9 B9 C9 D9 E9 F9 G9 B7 C7 D7 E7;obtain ⟨w4,P7,X,S6,X5⟩:=bx_ w3 [.slice D.a0 C.props.length D.c0,.slice D.a1 C.tags.length D.c1,.slice D.a2 C.links.length D.c2,.slice D.a3 C.run.length D.c3,.slice D.a4 C.load.length D.c4,.string C.nm,.int .i64 C.prio,.string C.owner,.string C.group,.int .i64 C.mode,.string C.res,.int .i64 C.calls,.int .i64 C.ticks,.slice D.a5 C.closed.length D.c5] 30;try simp only [P7]
 have T9:=Lh_ (show w3.heap.size≤w4.heap.size from X.size);have O6:=tb_ N6 X;have G7:=kb_ D1 X;have V5:=Lh_ (U5.out.kept (grown_none X) (fun e=>by cases e) (fun g e=>by cases e));have O5:=Lh_ (Nat.lt_of_lt_of_le M2.out (X).size);have J5:=Lh_ (B8.out.below X);clear P7 X;try rw [← S6.out]
 clear H6;refine wp_region_held_drew (S:=fun w'=>BoxL w' w2.heap.size [.slice D.a0 C.props.length D.c0,.slice D.a1 C.tags.length D.c1,.slice D.a2 C.links.length D.c2,.slice D.a3 C.run.length D.c3,.slice D.a4 C.load.length D.c4,.string C.nm,.int .i64 C.prio,.string C.owner,.string C.group,.int .i64 C.mode,.string C.res,.int .i64 C.calls,.int .i64 C.ticks,.slice D.a5 C.closed.length D.c5]) (by kernel_rfl) G7.out (fun hS0=>?_);obtain ⟨wd,hwd⟩:∃ z,World.drew w4=z:=⟨_,rfl⟩;rw [hwd] at hS0 ⊢;have B:Below w4.heap.size w4 wd:=by rw [← hwd];exact below_drewN_self _ _ 1
 clear hwd hS0;have I4:=Lh_ (show w4.heap.size≤wd.heap.size from B.size);have Q:=tb_ O6 B;have E:=kb_ G7 B;have H:=kb_ X5 B;have W:=Lh_ (V5.out.kept (grown_none B) (fun e=>by cases e) (fun g e=>by cases e));have L:=Lh_ (Nat.lt_of_lt_of_le O5.out (B).size);have R0:=Lh_ (J5.out.below B);clear B;have V6:=Lh_ (Below.refl wd.heap.size wd);have Q6:=Lh_ (show w3.heap.size<wd.heap.size from H.out.2.2);refine tk1 0 21 (.pointer (some ⟨w2.heap.size,2,none⟩)) rfl (fun w' hS=>by go_simp) E.out ?_;try simp only [Act.put,sA_,sB_,sC_]
 refine tk1 1 22 (.slice D.a2 C.links.length D.c2) rfl (fun w' hS=>by (have R:=hS.1 2 _ rfl;go_simp)) E.out ?_;try simp only [Act.put,sA_,sB_,sC_]
 refine tk1 3 24 (.pointer (some ⟨w2.heap.size,1,none⟩)) rfl (fun w' hS=>by go_simp) E.out ?_;try simp only [Act.put,sA_,sB_,sC_]
 refine tk1 4 25 (.slice D.a1 C.tags.length D.c1) rfl (fun w' hS=>by (have R:=hS.1 1 _ rfl;go_simp)) E.out ?_;try simp only [Act.put,sA_,sB_,sC_]
 refine rd1 2 (o:=⟨some 23,.call ⟨_,_,_⟩,_,_,_,_⟩) rfl (fun K hK=>?_);have E6:=R0.out.2.2.1.out.1;have F6:=R0.out.2.2.1.out.2.1;have W0:SlS wd (fun b=>(fun _=>True) b∧b<wd.heap.size∧(.slice none 0 0:Value).ownBlock≠some b) D.a2 D.c2 C.links:=R0.out.2.2.1.mono (fun b hb=>⟨trivial,hb.1,fun e=>by cases e⟩) (fun _ _ _ _ hu=>hu);have D6:C.links.length≤16:=V0.out.snd.ll;refine step_app rfl _ _ rfl (.slice none 0 0) (.slice D.a2 C.links.length D.c2) (by simp [Act.eval,Act.put]) (by simp [Act.eval,Act.put]) (run_appL E_txt _ (.slice none 0 0) ([]:List ByteArray) (OwnsS.nil_ (fun _=>True) _ wd.heap.size _) D.a2 D.c2 C.links (.inl W0) (by have A6:([]:List ByteArray).length=0:=rfl;unfold maxLen;omega) (by have A6:([]:List ByteArray).length=0:=rfl;omega) V6.out.size) ?_;rintro v_ q5 ⟨M,I,-⟩;rw [List.nil_append] at M;clear W0 E6 F6 D6;obtain ⟨A1,c1,G6,T2⟩:=(own_anyT M:OwnsS (fun _=>False) _ _ _ _ _).free (N:=(fun x=>NoD w w2.heap.size x∨x=w3.heap.size)) (fun x hx=>⟨by have:=Q6.out;have:=T.out;rcases hx with (hx | hx) | hx <;> omega,fun h=>h⟩);subst G6;have D8:=Lh_ T2;have B:Below wd.heap.size wd q5:=below_own (Below.refl _ _) I (Nat.le_refl _) (fun k hk=>by cases hk);clear M I T2;have P9:=Lh_ (show wd.heap.size≤q5.heap.size from B.size);have L6:=tb_ Q B;have Z5:=kb_ E B;have M9:=kb_ H B;have R5:=Lh_ (W.out.kept (grown_none B) (fun e=>by cases e) (fun g e=>by cases e));have M5:=Lh_ (Nat.lt_of_lt_of_le L.out (B).size);have Q0:=Lh_ (R0.out.below B);have O2:=Lh_ (below_next V6.out B);clear B;refine hK.out _ _ Z5.out (fun _=>?_);clear hK K;try simp only [Act.put,sA_,sB_,sC_]
 refine tk1 6 27 (.pointer (some ⟨w3.heap.size,2,none⟩)) rfl (fun w' hS=>by go_simp) Z5.out ?_;try simp only [Act.put,sA_,sB_,sC_]
 refine rd1 5 (o:=⟨some 26,.call ⟨_,_,_⟩,_,_,_,_⟩) rfl (fun K hK=>?_);have E6:=Q0.out.2.1.out.1;have F6:=Q0.out.2.1.out.2.1;have W0:SlS q5 (fun b=>(fun _=>True) b∧b<q5.heap.size∧(.slice none 0 0:Value).ownBlock≠some b) D.a1 D.c1 C.tags:=Q0.out.2.1.mono (fun b hb=>⟨trivial,hb.1,fun e=>by cases e⟩) (fun _ _ _ _ hu=>hu);have D6:C.tags.length≤16:=V0.out.snd.tl;refine step_app rfl _ _ rfl (.slice none 0 0) (.slice D.a1 C.tags.length D.c1) (by simp [Act.eval,Act.put]) (by simp [Act.eval,Act.put]) (run_appL E_txt _ (.slice none 0 0) ([]:List ByteArray) (OwnsS.nil_ (fun _=>True) _ wd.heap.size _) D.a1 D.c1 C.tags (.inl W0) (by have A6:([]:List ByteArray).length=0:=rfl;unfold maxLen;omega) (by have A6:([]:List ByteArray).length=0:=rfl;omega) O2.out.size) ?_;rintro v_ q6 ⟨M,I,-⟩;rw [List.nil_append] at M;clear W0 E6 F6 D6;obtain ⟨A2,c2,G6,T2⟩:=(own_anyT M:OwnsS (fun _=>False) _ _ _ _ _).free (N:=(fun x=>NoD w w2.heap.size x∨x=w3.heap.size)) (fun x hx=>⟨by have:=Q6.out;have:=T.out;rcases hx with (hx | hx) | hx <;> omega,fun h=>h⟩);subst G6;have E8:=Lh_ T2;have B:Below q5.heap.size q5 q6:=below_own (Below.refl _ _) I (Nat.le_refl _) (fun k hk=>by cases hk);clear M I T2;have Q9:=Lh_ (show q5.heap.size≤q6.heap.size from B.size);have H4:=tb_ L6 B;have F7:=kb_ Z5 B;have I6:=kb_ M9 B;have S5:=Lh_ (R5.out.kept (grown_none B) (fun e=>by cases e) (fun g e=>by cases e));have N5:=Lh_ (Nat.lt_of_lt_of_le M5.out (B).size);have I5:=Lh_ (Q0.out.below B);have U8:=Lh_ (below_next O2.out B);have P5:=Lh_ (D8.out.below B);clear B;refine hK.out _ _ F7.out (fun _=>?_);clear hK K;try simp only [Act.put,sA_,sB_,sC_]
 refine rd1 7 (o:=⟨none,.store _ _ _,_,_,_,_⟩) rfl (fun K hK=>?_);have I9:=I6.out.1 2 _ rfl;have Y5:=I6.out.2.1;go_simp;clear I9 Y5;have F:=grown_one q6 (w3.heap.size) 2 (.slice A1 C.links.length c1);have Y:=I6.out.set_ (j:=2) (by first | (simp;done) | decide) (.slice A1 C.links.length c1);obtain ⟨w60,hw60⟩:∃ z,q6.setCell ⟨w3.heap.size,2,none⟩ (.slice A1 C.links.length c1)=z:=⟨_,rfl⟩;rw [hw60] at F Y ⊢;clear hw60;have Q8:=Lh_ F.size;have W2:=Lh_ Y;have K2:=Lh_ (H4.out.grown F H4.out.size (fun q hq=>by have:=Option.some.inj hq;have:=H0.out;have:=T.out;omega));have S2:=Lh_ (F7.out.kept F (fun e=>by have:=Option.some.inj e;have:=H0.out;have:=T.out;omega));have Y3:=Lh_ (S5.out.kept F (fun e=>by have:=Option.some.inj e;have:=H0.out;have:=T.out;omega) (fun q e=>by have:=Option.some.inj e;have:=H0.out;have:=T.out;omega));have J3:=Lh_ (Nat.lt_of_lt_of_le N5.out (F).size);have C3:=Lh_ (I5.out.grown F (.inl (.inr rfl)));have L3:=Lh_ (P5.out.grown F (.inl (.inr rfl)));have N3:=Lh_ (E8.out.grown F (.inl (.inr rfl)));clear F Y;refine hK.out _ _ S2.out (fun _=>?_);clear hK K;try simp only [Act.put,sA_,sB_,sC_]
 refine tk1 8 28 (.pointer (some ⟨w3.heap.size,1,none⟩)) rfl (fun w' hS=>by go_simp) S2.out ?_;try simp only [Act.put,sA_,sB_,sC_]
 refine rd1 9 (o:=⟨none,.store _ _ _,_,_,_,_⟩) rfl (fun K hK=>?_);have H9:=W2.out.1 1 _ rfl;have Y5:=W2.out.2.1;go_simp;clear H9 Y5;have F:=grown_one w60 (w3.heap.size) 1 (.slice A2 C.tags.length c2);have Y:=W2.out.set_ (j:=1) (by first | (simp;done) | decide) (.slice A2 C.tags.length c2);obtain ⟨w61,hw61⟩:∃ z,w60.setCell ⟨w3.heap.size,1,none⟩ (.slice A2 C.tags.length c2)=z:=⟨_,rfl⟩;rw [hw61] at F Y ⊢;clear hw61;have R8:=Lh_ F.size;have T7:=Lh_ Y;have G5:=Lh_ (K2.out.grown F K2.out.size (fun q hq=>by have:=Option.some.inj hq;have:=H0.out;have:=T.out;omega));have M4:=Lh_ (S2.out.kept F (fun e=>by have:=Option.some.inj e;have:=H0.out;have:=T.out;omega));have Z3:=Lh_ (Y3.out.kept F (fun e=>by have:=Option.some.inj e;have:=H0.out;have:=T.out;omega) (fun q e=>by have:=Option.some.inj e;have:=H0.out;have:=T.out;omega));have K3:=Lh_ (Nat.lt_of_lt_of_le J3.out (F).size);have J:=Lh_ (C3.out.grown F (.inl (.inr rfl)));have M3:=Lh_ (L3.out.grown F (.inl (.inr rfl)));have O3:=Lh_ (N3.out.grown F (.inl (.inr rfl)));clear F Y;refine hK.out _ _ M4.out (fun _=>?_);clear hK K;try simp only [Act.put,sA_,sB_,sC_]
 refine wpAnyH_done (by kernel_rfl) ?_ _;have X6:=Lh_ (show DFr (NoD w w2.heap.size) w61 C ⟨D.a0,D.c0,A2,c2,A1,c1,D.a3,D.c3,D.a4,D.c4,D.a5,D.c5⟩ from ⟨(J.out.1).more (fun x _ q=>.inl q),(O3.out).more (fun x _ q=>.inl q),(M3.out).more (fun x _ q=>.inl q),(J.out.2.2.2.1).more (fun x _ q=>.inl q),(J.out.2.2.2.2.1).more (fun x _ q=>.inl q),(J.out.2.2.2.2.2.1).more (fun x _ q=>.inl q),J.out.2.2.2.2.2.2⟩);have Z7:=Lh_ (J.out.more (N':=NoD w w2.heap.size) (fun x _ q=>.inl q));obtain ⟨h1,hh1⟩:∃ z:DH,⟨D.a0,D.c0,A2,c2,A1,c1,D.a3,D.c3,D.a4,D.c4,D.a5,D.c5⟩=z:=⟨_,rfl⟩;have P2:=Lh_ (show BoxL w61 w3.heap.size (drV C h1) from hh1 ▸ T7.out);rw [hh1] at X6;clear hh1;go_wp2_with fail;go_loopw [8] (fun i wr=>∃ (k p:Nat),k≤3∧i=.int .i64 (k:Int)∧Hid ((p:Int)+8 * (3 - (k:Int))≤3000)∧Hid (BoxL wr w2.heap.size (drV C D))∧Hid (BoxL wr w3.heap.size (drV C h1))∧Hid (DFr (NoD w w2.heap.size) wr C D)∧Hid (DFr (NoD w w2.heap.size) wr C h1)∧Hid (TapeAt wr w.heap.size w.heap.size xs p)∧Hid (Below w.heap.size w wr)∧Hid (w.heap.size<wr.heap.size)) (fun i _=>3 - (intOf i).toNat)
 case atStart=>exact ⟨0,p0,by omega,rfl,Lh_ (by have:=G8.out;omega),M4,P2,Z7,X6,Z3,G5,K3⟩
 obtain ⟨k,p,hk,rfl,Q5,W5,P2,A8,V8,T8,H2,C8⟩:=hrel;obtain ⟨wo,rfl⟩:∃ z,z=wr:=⟨_,rfl⟩;have W5:=Lh_ (show BoxL wo w2.heap.size [.slice D.a0 C.props.length D.c0,.slice D.a1 C.tags.length D.c1,.slice D.a2 C.links.length D.c2,.slice D.a3 C.run.length D.c3,.slice D.a4 C.load.length D.c4,.string C.nm,.int .i64 C.prio,.string C.owner,.string C.group,.int .i64 C.mode,.string C.res,.int .i64 C.calls,.int .i64 C.ticks,.slice D.a5 C.closed.length D.c5] from W5.out);have P2:=Lh_ (show BoxL wo w3.heap.size [.slice h1.a0 C.props.length h1.c0,.slice h1.a1 C.tags.length h1.c1,.slice h1.a2 C.links.length h1.c2,.slice h1.a3 C.run.length h1.c3,.slice h1.a4 C.load.length h1.c4,.string C.nm,.int .i64 C.prio,.string C.owner,.string C.group,.int .i64 C.mode,.string C.res,.int .i64 C.calls,.int .i64 C.ticks,.slice h1.a5 C.closed.length h1.c5] from P2.out);by_cases hlt:k<3
 ·
  have i1:(k:Int)<3:=by omega
  have N2:=Lh_ hlt;clear hlt;go_wp2_with fail;refine (term_any xs p w.heap.size w.heap.size wo (by have:=Q5.out;have:=N2.out;omega) T8.out).mono ?_;rintro e w12 ⟨t,y,j,rfl,Q7,N7,N4,L7,X0,I⟩;have G2:=Lh_ Q7;have W6:=Lh_ N4;have HJ:=Lh_ L7;clear Q7 N7 N4 L7;have G4:=Lh_ (V8.out.grown I (.inl (.inl (Nat.le_refl _))));have F5:=Lh_ (below_of_grown H2.out I H2.out.size (Nat.le_refl _));have X3:=Lh_ X0;have T1:=Lh_ (Nat.lt_of_lt_of_le C8.out I.size);have L4:=Lh_ (W5.out.kept I (fun e=>by have:=Option.some.inj e;have:=H0.out;have:=T.out;omega));have S7:=Lh_ (P2.out.kept I (fun e=>by have:=Option.some.inj e;have:=H0.out;have:=T.out;omega));have B3:=Lh_ (A8.out.grown I (.inl (.inl (Nat.le_refl _))));clear X0 I;have L9:=W8.out;go_upto_region 11 with fail
  obtain ⟨U0,O4,G,L5,U⟩:=bx_ w12 [.int .i64 t.key,.string t.nm,.int .i64 t.op,.string t.val] 35;try simp only [O4]
  have P8:=Lh_ (show w12.heap.size≤U0.heap.size from G.size);have J2:=tb_ F5 G;have C2:=kb_ L4 G;have F2:=kb_ S7 G;have V1:=Lh_ (X3.out.kept (grown_none G) (fun e=>by cases e) (fun g e=>by cases e));have U1:=Lh_ (Nat.lt_of_lt_of_le T1.out (G).size);have Q1:=Lh_ (B3.out.below G);have Y1:=Lh_ (G4.out.below G);clear O4 G;try rw [← L5.out]
  clear L9;have V9:=Lh_ (show w.heap.size<w12.heap.size∧w2.heap.size<w12.heap.size from ⟨T1.out,L4.out.2.2⟩);by_cases hk2:k=2
  ·
   have ek:((k:Int) == 2)=true:=by rw [hk2];rfl
   clear hk2;go_upto_region 13 with fail
   refine wp_region_held_drew (S:=fun w'=>BoxL w' w2.heap.size [.slice D.a0 C.props.length D.c0,.slice D.a1 C.tags.length D.c1,.slice D.a2 C.links.length D.c2,.slice D.a3 C.run.length D.c3,.slice D.a4 C.load.length D.c4,.string C.nm,.int .i64 C.prio,.string C.owner,.string C.group,.int .i64 C.mode,.string C.res,.int .i64 C.calls,.int .i64 C.ticks,.slice D.a5 C.closed.length D.c5]∧BoxL w' w3.heap.size [.slice h1.a0 C.props.length h1.c0,.slice h1.a1 C.tags.length h1.c1,.slice h1.a2 C.links.length h1.c2,.slice h1.a3 C.run.length h1.c3,.slice h1.a4 C.load.length h1.c4,.string C.nm,.int .i64 C.prio,.string C.owner,.string C.group,.int .i64 C.mode,.string C.res,.int .i64 C.calls,.int .i64 C.ticks,.slice h1.a5 C.closed.length h1.c5]∧BoxL w' w12.heap.size [.int .i64 t.key,.string t.nm,.int .i64 t.op,.string t.val]) (by kernel_rfl) ⟨C2.out,F2.out,U.out⟩ (fun hS0=>?_);obtain ⟨wd,hwd⟩:∃ z,World.drew U0=z:=⟨_,rfl⟩;rw [hwd] at hS0 ⊢;have B:Below U0.heap.size U0 wd:=by rw [← hwd];exact below_drewN_self _ _ 1
   clear hwd hS0;have I4:=Lh_ (show U0.heap.size≤wd.heap.size from B.size);have Q:=tb_ J2 B;have E:=kb_ C2 B;have H:=kb_ F2 B;have O:=kb_ U B;have W:=Lh_ (V1.out.kept (grown_none B) (fun e=>by cases e) (fun g e=>by cases e));have L:=Lh_ (Nat.lt_of_lt_of_le U1.out (B).size);have V:=Lh_ (Q1.out.below B);have E1:=Lh_ (Y1.out.below B);clear B;refine tk1 0 41 (.agg #[.slice D.a0 C.props.length D.c0,.slice D.a1 C.tags.length D.c1,.slice D.a2 C.links.length D.c2,.slice D.a3 C.run.length D.c3,.slice D.a4 C.load.length D.c4,.string C.nm,.int .i64 C.prio,.string C.owner,.string C.group,.int .i64 C.mode,.string C.res,.int .i64 C.calls,.int .i64 C.ticks,.slice D.a5 C.closed.length D.c5]) rfl (fun w' hS=>by (have R:=hS.1.1 0 _ rfl;have E0:=hS.1.1 1 _ rfl;have F0:=hS.1.1 2 _ rfl;have G0:=hS.1.1 3 _ rfl;have G1:=hS.1.1 4 _ rfl;have H1:=hS.1.1 5 _ rfl;have I1:=hS.1.1 6 _ rfl;have J1:=hS.1.1 7 _ rfl;have K1:=hS.1.1 8 _ rfl;have L1:=hS.1.1 9 _ rfl;have A0:=hS.1.1 10 _ rfl;have B0:=hS.1.1 11 _ rfl;have C0:=hS.1.1 12 _ rfl;have D0:=hS.1.1 13 _ rfl;go_simp)) ⟨E.out,H.out,O.out⟩ ?_;try simp only [Act.put,sA_,sB_,sC_]
   refine tk1 1 42 (.agg #[.int .i64 t.key,.string t.nm,.int .i64 t.op,.string t.val]) rfl (fun w' hS=>by (have R:=hS.2.2.1 0 _ rfl;have E0:=hS.2.2.1 1 _ rfl;have F0:=hS.2.2.1 2 _ rfl;have G0:=hS.2.2.1 3 _ rfl;go_simp)) ⟨E.out,H.out,O.out⟩ ?_;try simp only [Act.put,sA_,sB_,sC_]
   refine tk1 2 43 (.string raw) rfl (fun w' hS=>by go_simp) ⟨E.out,H.out,O.out⟩ ?_;try simp only [Act.put,sA_,sB_,sC_]
   refine tk1 4 45 (.agg #[.slice D.a0 C.props.length D.c0,.slice D.a1 C.tags.length D.c1,.slice D.a2 C.links.length D.c2,.slice D.a3 C.run.length D.c3,.slice D.a4 C.load.length D.c4,.string C.nm,.int .i64 C.prio,.string C.owner,.string C.group,.int .i64 C.mode,.string C.res,.int .i64 C.calls,.int .i64 C.ticks,.slice D.a5 C.closed.length D.c5]) rfl (fun w' hS=>by (have R:=hS.1.1 0 _ rfl;have E0:=hS.1.1 1 _ rfl;have F0:=hS.1.1 2 _ rfl;have G0:=hS.1.1 3 _ rfl;have G1:=hS.1.1 4 _ rfl;have H1:=hS.1.1 5 _ rfl;have I1:=hS.1.1 6 _ rfl;have J1:=hS.1.1 7 _ rfl;have K1:=hS.1.1 8 _ rfl;have L1:=hS.1.1 9 _ rfl;have A0:=hS.1.1 10 _ rfl;have B0:=hS.1.1 11 _ rfl;have C0:=hS.1.1 12 _ rfl;have D0:=hS.1.1 13 _ rfl;go_simp)) ⟨E.out,H.out,O.out⟩ ?_;try simp only [Act.put,sA_,sB_,sC_]
   refine tk1 5 46 (.agg #[.int .i64 t.key,.string t.nm,.int .i64 t.op,.string t.val]) rfl (fun w' hS=>by (have R:=hS.2.2.1 0 _ rfl;have E0:=hS.2.2.1 1 _ rfl;have F0:=hS.2.2.1 2 _ rfl;have G0:=hS.2.2.1 3 _ rfl;go_simp)) ⟨E.out,H.out,O.out⟩ ?_;try simp only [Act.put,sA_,sB_,sC_]
   refine tk1 6 47 (.string raw) rfl (fun w' hS=>by go_simp) ⟨E.out,H.out,O.out⟩ ?_;try simp only [Act.put,sA_,sB_,sC_]
   refine rd1 3 (o:=⟨some 44,.call ⟨_,_,_⟩,_,_,_,_⟩) rfl (fun K hK=>?_);go_simp;go_at_call 14;refine (Apply_any C D t raw (NoD w w2.heap.size) wd (fun x hx=>by have:=L.out;have:=E.out.2.2;rcases hx with hx | hx <;> omega) V.out (V0.out.pre (by omega)) G2.out.ok G2.out.tag (by have:=U6.out;omega) (C1.out.next Q.out) (H7.out.below Q.out)).mono ?_;rintro e' q14 ⟨B,h2,rfl,Z⟩;have K5:=Lh_ Z;clear Z;have H8:=Lh_ (show wd.heap.size≤q14.heap.size from B.size);have Y0:=tb_ Q B;have Q2:=kb_ E B;have T4:=kb_ H B;have P4:=kb_ O B;have P3:=Lh_ (W.out.kept (grown_none B) (fun e=>by cases e) (fun g e=>by cases e));have R1:=Lh_ (Nat.lt_of_lt_of_le L.out (B).size);have M1:=Lh_ (V.out.below B);have A4:=Lh_ (E1.out.below B);clear B;refine hK.out _ _ ⟨Q2.out,T4.out,P4.out⟩ (fun _=>?_);clear hK K;try simp only [Act.put,sA_,sB_,sC_]
   refine rd1 7 (o:=⟨some 48,.call ⟨_,_,_⟩,_,_,_,_⟩) rfl (fun K hK=>?_);go_simp;go_at_call 24;refine (RApply_any C D t raw (NoD w w2.heap.size) q14 (fun x hx=>by have:=R1.out;have:=Q2.out.2.2;rcases hx with hx | hx <;> omega) M1.out V0.out.snd (by have:=V0.out.cl;omega) G2.out.ok (by have:=U6.out;omega) (C1.out.next Y0.out) (H7.out.below Y0.out)).mono ?_;rintro e' q15 ⟨B,h3,rfl,Z⟩;have B1:=Lh_ Z;clear Z;have I8:=Lh_ (show q14.heap.size≤q15.heap.size from B.size);have Z4:=tb_ Y0 B;have J4:=kb_ Q2 B;have U4:=kb_ T4 B;have Q4:=kb_ P4 B;have Q3:=Lh_ (P3.out.kept (grown_none B) (fun e=>by cases e) (fun g e=>by cases e));have D3:=Lh_ (Nat.lt_of_lt_of_le R1.out (B).size);have X2:=Lh_ (M1.out.below B);have B4:=Lh_ (A4.out.below B);have S0:=Lh_ (K5.out.below B);clear B;refine hK.out _ _ ⟨J4.out,U4.out,Q4.out⟩ (fun _=>?_);clear hK K;try simp only [Act.put,sA_,sB_,sC_]
   obtain ⟨d2,hd2⟩:∃ z,applyD C t raw=z:=⟨_,rfl⟩;rw [hd2] at S0 B1 ⊢;clear hd2;refine rd1 8 (o:=⟨some 49,.call ⟨_,_,_⟩,_,_,_,_⟩) rfl (fun K hK=>?_);go_simp;go_at_call 15;refine (SameDraft_same d2 h2 h3 _ S0.out.sl B1.out.sl).mono ?_;rintro e' q16 ⟨rfl,B⟩;have J8:=Lh_ (show q15.heap.size≤q16.heap.size from B.size);have A5:=tb_ Z4 B;have I0:=kb_ J4 B;have O0:=kb_ U4 B;have M0:=kb_ Q4 B;have R3:=Lh_ (Q3.out.kept (grown_none B) (fun e=>by cases e) (fun g e=>by cases e));have E3:=Lh_ (Nat.lt_of_lt_of_le D3.out (B).size);have N1:=Lh_ (X2.out.below B);have W1:=Lh_ (B4.out.below B);have U7:=Lh_ (S0.out.below B);have W7:=Lh_ (B1.out.below B);clear B;refine hK.out _ _ ⟨I0.out,O0.out,M0.out⟩ (fun _=>?_);clear hK K;try simp only [Act.put,sA_,sB_,sC_]
   refine tk1 9 50 (.bool false) rfl (fun w' hS=>by go_simp) ⟨I0.out,O0.out,M0.out⟩ ?_;try simp only [Act.put,sA_,sB_,sC_]
   refine tk1 10 51 (.bool false) rfl (fun w' hS=>by go_simp) ⟨I0.out,O0.out,M0.out⟩ ?_;try simp only [Act.put,sA_,sB_,sC_]
   refine tk1 11 52 (.agg #[.slice D.a0 C.props.length D.c0,.slice D.a1 C.tags.length D.c1,.slice D.a2 C.links.length D.c2,.slice D.a3 C.run.length D.c3,.slice D.a4 C.load.length D.c4,.string C.nm,.int .i64 C.prio,.string C.owner,.string C.group,.int .i64 C.mode,.string C.res,.int .i64 C.calls,.int .i64 C.ticks,.slice D.a5 C.closed.length D.c5]) rfl (fun w' hS=>by (have R:=hS.1.1 0 _ rfl;have E0:=hS.1.1 1 _ rfl;have F0:=hS.1.1 2 _ rfl;have G0:=hS.1.1 3 _ rfl;have G1:=hS.1.1 4 _ rfl;have H1:=hS.1.1 5 _ rfl;have I1:=hS.1.1 6 _ rfl;have J1:=hS.1.1 7 _ rfl;have K1:=hS.1.1 8 _ rfl;have L1:=hS.1.1 9 _ rfl;have A0:=hS.1.1 10 _ rfl;have B0:=hS.1.1 11 _ rfl;have C0:=hS.1.1 12 _ rfl;have D0:=hS.1.1 13 _ rfl;go_simp)) ⟨I0.out,O0.out,M0.out⟩ ?_;try simp only [Act.put,sA_,sB_,sC_]
   refine tk1 12 53 (.agg #[.slice h1.a0 C.props.length h1.c0,.slice h1.a1 C.tags.length h1.c1,.slice h1.a2 C.links.length h1.c2,.slice h1.a3 C.run.length h1.c3,.slice h1.a4 C.load.length h1.c4,.string C.nm,.int .i64 C.prio,.string C.owner,.string C.group,.int .i64 C.mode,.string C.res,.int .i64 C.calls,.int .i64 C.ticks,.slice h1.a5 C.closed.length h1.c5]) rfl (fun w' hS=>by (have R:=hS.2.1.1 0 _ rfl;have E0:=hS.2.1.1 1 _ rfl;have F0:=hS.2.1.1 2 _ rfl;have G0:=hS.2.1.1 3 _ rfl;have G1:=hS.2.1.1 4 _ rfl;have H1:=hS.2.1.1 5 _ rfl;have I1:=hS.2.1.1 6 _ rfl;have J1:=hS.2.1.1 7 _ rfl;have K1:=hS.2.1.1 8 _ rfl;have L1:=hS.2.1.1 9 _ rfl;have A0:=hS.2.1.1 10 _ rfl;have B0:=hS.2.1.1 11 _ rfl;have C0:=hS.2.1.1 12 _ rfl;have D0:=hS.2.1.1 13 _ rfl;go_simp)) ⟨I0.out,O0.out,M0.out⟩ ?_;try simp only [Act.put,sA_,sB_,sC_]
   refine rd1 13 (o:=⟨some 54,.call ⟨_,_,_⟩,_,_,_,_⟩) rfl (fun K hK=>?_);go_simp;go_at_call 15;refine (SameDraft_same C D h1 _ N1.out.sl W1.out.sl).mono ?_;rintro e' q17 ⟨rfl,B⟩;have K8:=Lh_ (show q16.heap.size≤q17.heap.size from B.size);have B5:=tb_ A5 B;have Z1:=kb_ I0 B;have D2:=kb_ O0 B;have U2:=kb_ M0 B;have S3:=Lh_ (R3.out.kept (grown_none B) (fun e=>by cases e) (fun g e=>by cases e));have F3:=Lh_ (Nat.lt_of_lt_of_le E3.out (B).size);have Y2:=Lh_ (N1.out.below B);have C4:=Lh_ (W1.out.below B);clear B;refine hK.out _ _ ⟨Z1.out,D2.out,U2.out⟩ (fun _=>?_);clear hK K;try simp only [Act.put,sA_,sB_,sC_]
   refine tk1 14 55 (.bool false) rfl (fun w' hS=>by go_simp) ⟨Z1.out,D2.out,U2.out⟩ ?_;try simp only [Act.put,sA_,sB_,sC_]
   refine tk1 15 56 (.bool false) rfl (fun w' hS=>by go_simp) ⟨Z1.out,D2.out,U2.out⟩ ?_;try simp only [Act.put,sA_,sB_,sC_]
   refine wpAnyH_done (by kernel_rfl) ?_ _;have I7:IntKind.i64.wrap ((k:Int)+1)=(k:Int)+1:=by rw [IntKind.wrap_i64];omega
   have B6:wrap64 ((k:Int)+1)=(k:Int)+1:=by unfold wrap64;omega
   go_wp2;go_roundw
   case rel=>exact ⟨k+1,p+j,N2.out,by go_num,Lh_ (by have:=Q5.out;have:=HJ.out;omega),Lh_ Z1.out,Lh_ D2.out,Y2,C4,S3,B5,F3⟩
   have:=N2.out;simp [intOf];omega
  have ek:((k:Int) == 2)=false:=by rw [beq_eq_false_iff_ne];omega
  clear hk2;go_upto_region 13 with fail
  refine wp_region_held_drew (S:=fun w'=>BoxL w' w2.heap.size [.slice D.a0 C.props.length D.c0,.slice D.a1 C.tags.length D.c1,.slice D.a2 C.links.length D.c2,.slice D.a3 C.run.length D.c3,.slice D.a4 C.load.length D.c4,.string C.nm,.int .i64 C.prio,.string C.owner,.string C.group,.int .i64 C.mode,.string C.res,.int .i64 C.calls,.int .i64 C.ticks,.slice D.a5 C.closed.length D.c5]∧BoxL w' w3.heap.size [.slice h1.a0 C.props.length h1.c0,.slice h1.a1 C.tags.length h1.c1,.slice h1.a2 C.links.length h1.c2,.slice h1.a3 C.run.length h1.c3,.slice h1.a4 C.load.length h1.c4,.string C.nm,.int .i64 C.prio,.string C.owner,.string C.group,.int .i64 C.mode,.string C.res,.int .i64 C.calls,.int .i64 C.ticks,.slice h1.a5 C.closed.length h1.c5]∧BoxL w' w12.heap.size [.int .i64 t.key,.string t.nm,.int .i64 t.op,.string t.val]) (by kernel_rfl) ⟨C2.out,F2.out,U.out⟩ (fun hS0=>?_);obtain ⟨wd,hwd⟩:∃ z,World.drew U0=z:=⟨_,rfl⟩;rw [hwd] at hS0 ⊢;have B:Below U0.heap.size U0 wd:=by rw [← hwd];exact below_drewN_self _ _ 1
  clear hwd hS0;have I4:=Lh_ (show U0.heap.size≤wd.heap.size from B.size);have Q:=tb_ J2 B;have E:=kb_ C2 B;have H:=kb_ F2 B;have O:=kb_ U B;have W:=Lh_ (V1.out.kept (grown_none B) (fun e=>by cases e) (fun g e=>by cases e));have L:=Lh_ (Nat.lt_of_lt_of_le U1.out (B).size);have V:=Lh_ (Q1.out.below B);have E1:=Lh_ (Y1.out.below B);clear B;refine tk1 0 41 (.agg #[.slice D.a0 C.props.length D.c0,.slice D.a1 C.tags.length D.c1,.slice D.a2 C.links.length D.c2,.slice D.a3 C.run.length D.c3,.slice D.a4 C.load.length D.c4,.string C.nm,.int .i64 C.prio,.string C.owner,.string C.group,.int .i64 C.mode,.string C.res,.int .i64 C.calls,.int .i64 C.ticks,.slice D.a5 C.closed.length D.c5]) rfl (fun w' hS=>by (have R:=hS.1.1 0 _ rfl;have E0:=hS.1.1 1 _ rfl;have F0:=hS.1.1 2 _ rfl;have G0:=hS.1.1 3 _ rfl;have G1:=hS.1.1 4 _ rfl;have H1:=hS.1.1 5 _ rfl;have I1:=hS.1.1 6 _ rfl;have J1:=hS.1.1 7 _ rfl;have K1:=hS.1.1 8 _ rfl;have L1:=hS.1.1 9 _ rfl;have A0:=hS.1.1 10 _ rfl;have B0:=hS.1.1 11 _ rfl;have C0:=hS.1.1 12 _ rfl;have D0:=hS.1.1 13 _ rfl;go_simp)) ⟨E.out,H.out,O.out⟩ ?_;try simp only [Act.put,sA_,sB_,sC_]
  refine tk1 1 42 (.agg #[.int .i64 t.key,.string t.nm,.int .i64 t.op,.string t.val]) rfl (fun w' hS=>by (have R:=hS.2.2.1 0 _ rfl;have E0:=hS.2.2.1 1 _ rfl;have F0:=hS.2.2.1 2 _ rfl;have G0:=hS.2.2.1 3 _ rfl;go_simp)) ⟨E.out,H.out,O.out⟩ ?_;try simp only [Act.put,sA_,sB_,sC_]
  refine tk1 2 43 (.string y) rfl (fun w' hS=>by go_simp) ⟨E.out,H.out,O.out⟩ ?_;try simp only [Act.put,sA_,sB_,sC_]
  refine tk1 4 45 (.agg #[.slice D.a0 C.props.length D.c0,.slice D.a1 C.tags.length D.c1,.slice D.a2 C.links.length D.c2,.slice D.a3 C.run.length D.c3,.slice D.a4 C.load.length D.c4,.string C.nm,.int .i64 C.prio,.string C.owner,.string C.group,.int .i64 C.mode,.string C.res,.int .i64 C.calls,.int .i64 C.ticks,.slice D.a5 C.closed.length D.c5]) rfl (fun w' hS=>by (have R:=hS.1.1 0 _ rfl;have E0:=hS.1.1 1 _ rfl;have F0:=hS.1.1 2 _ rfl;have G0:=hS.1.1 3 _ rfl;have G1:=hS.1.1 4 _ rfl;have H1:=hS.1.1 5 _ rfl;have I1:=hS.1.1 6 _ rfl;have J1:=hS.1.1 7 _ rfl;have K1:=hS.1.1 8 _ rfl;have L1:=hS.1.1 9 _ rfl;have A0:=hS.1.1 10 _ rfl;have B0:=hS.1.1 11 _ rfl;have C0:=hS.1.1 12 _ rfl;have D0:=hS.1.1 13 _ rfl;go_simp)) ⟨E.out,H.out,O.out⟩ ?_;try simp only [Act.put,sA_,sB_,sC_]
  refine tk1 5 46 (.agg #[.int .i64 t.key,.string t.nm,.int .i64 t.op,.string t.val]) rfl (fun w' hS=>by (have R:=hS.2.2.1 0 _ rfl;have E0:=hS.2.2.1 1 _ rfl;have F0:=hS.2.2.1 2 _ rfl;have G0:=hS.2.2.1 3 _ rfl;go_simp)) ⟨E.out,H.out,O.out⟩ ?_;try simp only [Act.put,sA_,sB_,sC_]
  refine tk1 6 47 (.string y) rfl (fun w' hS=>by go_simp) ⟨E.out,H.out,O.out⟩ ?_;try simp only [Act.put,sA_,sB_,sC_]
  refine rd1 3 (o:=⟨some 44,.call ⟨_,_,_⟩,_,_,_,_⟩) rfl (fun K hK=>?_);go_simp;go_at_call 14;refine (Apply_any C D t y (NoD w w2.heap.size) wd (fun x hx=>by have:=L.out;have:=E.out.2.2;rcases hx with hx | hx <;> omega) V.out (V0.out.pre (by omega)) G2.out.ok G2.out.tag (by have:=W6.out;omega) (C1.out.next Q.out) (H7.out.below Q.out)).mono ?_;rintro e' q18 ⟨B,h2,rfl,Z⟩;have K5:=Lh_ Z;clear Z;have L8:=Lh_ (show wd.heap.size≤q18.heap.size from B.size);have Z0:=tb_ Q B;have R2:=kb_ E B;have V4:=kb_ H B;have R4:=kb_ O B;have T3:=Lh_ (W.out.kept (grown_none B) (fun e=>by cases e) (fun g e=>by cases e));have S1:=Lh_ (Nat.lt_of_lt_of_le L.out (B).size);have O1:=Lh_ (V.out.below B);have D4:=Lh_ (E1.out.below B);clear B;refine hK.out _ _ ⟨R2.out,V4.out,R4.out⟩ (fun _=>?_);clear hK K;try simp only [Act.put,sA_,sB_,sC_]
  refine rd1 7 (o:=⟨some 48,.call ⟨_,_,_⟩,_,_,_,_⟩) rfl (fun K hK=>?_);go_simp;go_at_call 24;refine (RApply_any C D t y (NoD w w2.heap.size) q18 (fun x hx=>by have:=S1.out;have:=R2.out.2.2;rcases hx with hx | hx <;> omega) O1.out V0.out.snd (by have:=V0.out.cl;omega) G2.out.ok (by have:=W6.out;omega) (C1.out.next Z0.out) (H7.out.below Z0.out)).mono ?_;rintro e' q19 ⟨B,h3,rfl,Z⟩;have B1:=Lh_ Z;clear Z;have M8:=Lh_ (show q18.heap.size≤q19.heap.size from B.size);have C5:=tb_ Z0 B;have K4:=kb_ R2 B;have W4:=kb_ V4 B;have S4:=kb_ R4 B;have U3:=Lh_ (T3.out.kept (grown_none B) (fun e=>by cases e) (fun g e=>by cases e));have G3:=Lh_ (Nat.lt_of_lt_of_le S1.out (B).size);have Z2:=Lh_ (O1.out.below B);have E4:=Lh_ (D4.out.below B);have T0:=Lh_ (K5.out.below B);clear B;refine hK.out _ _ ⟨K4.out,W4.out,S4.out⟩ (fun _=>?_);clear hK K;try simp only [Act.put,sA_,sB_,sC_]
  obtain ⟨d2,hd2⟩:∃ z,applyD C t y=z:=⟨_,rfl⟩;rw [hd2] at T0 B1 ⊢;clear hd2;refine rd1 8 (o:=⟨some 49,.call ⟨_,_,_⟩,_,_,_,_⟩) rfl (fun K hK=>?_);go_simp;go_at_call 15;refine (SameDraft_same d2 h2 h3 _ T0.out.sl B1.out.sl).mono ?_;rintro e' q20 ⟨rfl,B⟩;have N8:=Lh_ (show q19.heap.size≤q20.heap.size from B.size);have D5:=tb_ C5 B;have J0:=kb_ K4 B;have P0:=kb_ W4 B;have N0:=kb_ S4 B;have V3:=Lh_ (U3.out.kept (grown_none B) (fun e=>by cases e) (fun g e=>by cases e));have H3:=Lh_ (Nat.lt_of_lt_of_le G3.out (B).size);have P1:=Lh_ (Z2.out.below B);have X1:=Lh_ (E4.out.below B);have V7:=Lh_ (T0.out.below B);have X7:=Lh_ (B1.out.below B);clear B;refine hK.out _ _ ⟨J0.out,P0.out,N0.out⟩ (fun _=>?_);clear hK K;try simp only [Act.put,sA_,sB_,sC_]
  refine tk1 9 50 (.bool false) rfl (fun w' hS=>by go_simp) ⟨J0.out,P0.out,N0.out⟩ ?_;try simp only [Act.put,sA_,sB_,sC_]
  refine tk1 10 51 (.bool false) rfl (fun w' hS=>by go_simp) ⟨J0.out,P0.out,N0.out⟩ ?_;try simp only [Act.put,sA_,sB_,sC_]
  refine tk1 11 52 (.agg #[.slice D.a0 C.props.length D.c0,.slice D.a1 C.tags.length D.c1,.slice D.a2 C.links.length D.c2,.slice D.a3 C.run.length D.c3,.slice D.a4 C.load.length D.c4,.string C.nm,.int .i64 C.prio,.string C.owner,.string C.group,.int .i64 C.mode,.string C.res,.int .i64 C.calls,.int .i64 C.ticks,.slice D.a5 C.closed.length D.c5]) rfl (fun w' hS=>by (have R:=hS.1.1 0 _ rfl;have E0:=hS.1.1 1 _ rfl;have F0:=hS.1.1 2 _ rfl;have G0:=hS.1.1 3 _ rfl;have G1:=hS.1.1 4 _ rfl;have H1:=hS.1.1 5 _ rfl;have I1:=hS.1.1 6 _ rfl;have J1:=hS.1.1 7 _ rfl;have K1:=hS.1.1 8 _ rfl;have L1:=hS.1.1 9 _ rfl;have A0:=hS.1.1 10 _ rfl;have B0:=hS.1.1 11 _ rfl;have C0:=hS.1.1 12 _ rfl;have D0:=hS.1.1 13 _ rfl;go_simp)) ⟨J0.out,P0.out,N0.out⟩ ?_;try simp only [Act.put,sA_,sB_,sC_]
  refine tk1 12 53 (.agg #[.slice h1.a0 C.props.length h1.c0,.slice h1.a1 C.tags.length h1.c1,.slice h1.a2 C.links.length h1.c2,.slice h1.a3 C.run.length h1.c3,.slice h1.a4 C.load.length h1.c4,.string C.nm,.int .i64 C.prio,.string C.owner,.string C.group,.int .i64 C.mode,.string C.res,.int .i64 C.calls,.int .i64 C.ticks,.slice h1.a5 C.closed.length h1.c5]) rfl (fun w' hS=>by (have R:=hS.2.1.1 0 _ rfl;have E0:=hS.2.1.1 1 _ rfl;have F0:=hS.2.1.1 2 _ rfl;have G0:=hS.2.1.1 3 _ rfl;have G1:=hS.2.1.1 4 _ rfl;have H1:=hS.2.1.1 5 _ rfl;have I1:=hS.2.1.1 6 _ rfl;have J1:=hS.2.1.1 7 _ rfl;have K1:=hS.2.1.1 8 _ rfl;have L1:=hS.2.1.1 9 _ rfl;have A0:=hS.2.1.1 10 _ rfl;have B0:=hS.2.1.1 11 _ rfl;have C0:=hS.2.1.1 12 _ rfl;have D0:=hS.2.1.1 13 _ rfl;go_simp)) ⟨J0.out,P0.out,N0.out⟩ ?_;try simp only [Act.put,sA_,sB_,sC_]
  refine rd1 13 (o:=⟨some 54,.call ⟨_,_,_⟩,_,_,_,_⟩) rfl (fun K hK=>?_);go_simp;go_at_call 15;refine (SameDraft_same C D h1 _ P1.out.sl X1.out.sl).mono ?_;rintro e' q21 ⟨rfl,B⟩;have O8:=Lh_ (show q20.heap.size≤q21.heap.size from B.size);have E5:=tb_ D5 B;have B2:=kb_ J0 B;have E2:=kb_ P0 B;have V2:=kb_ N0 B;have W3:=Lh_ (V3.out.kept (grown_none B) (fun e=>by cases e) (fun g e=>by cases e));have I3:=Lh_ (Nat.lt_of_lt_of_le H3.out (B).size);have A3:=Lh_ (P1.out.below B);have F4:=Lh_ (X1.out.below B);clear B;refine hK.out _ _ ⟨B2.out,E2.out,V2.out⟩ (fun _=>?_);clear hK K;try simp only [Act.put,sA_,sB_,sC_]
  refine tk1 14 55 (.bool false) rfl (fun w' hS=>by go_simp) ⟨B2.out,E2.out,V2.out⟩ ?_;try simp only [Act.put,sA_,sB_,sC_]
  refine tk1 15 56 (.bool false) rfl (fun w' hS=>by go_simp) ⟨B2.out,E2.out,V2.out⟩ ?_;try simp only [Act.put,sA_,sB_,sC_]
  refine wpAnyH_done (by kernel_rfl) ?_ _;have I7:IntKind.i64.wrap ((k:Int)+1)=(k:Int)+1:=by rw [IntKind.wrap_i64];omega
  have B6:wrap64 ((k:Int)+1)=(k:Int)+1:=by unfold wrap64;omega
  go_wp2;go_roundw
  case rel=>exact ⟨k+1,p+j,N2.out,by go_num,Lh_ (by have:=Q5.out;have:=HJ.out;omega),Lh_ B2.out,Lh_ E2.out,A3,F4,W3,E5,I3⟩
  have:=N2.out;simp [intOf];omega
 have i1:¬ (k:Int)<3:=by omega
 go_wp2_with fail;refine (known13_any _ (C1.out.next H2.out) (H7.out.below H2.out)).mono ?_;rintro e w_ ⟨rfl,B⟩;have Y4:=Lh_ (below_next H2.out B);clear B;go_wp2;go_ret;exact ⟨by try rfl,Y4.out⟩
end Go.Proofs.YtjpoljlgkgmdkaaGreatDoor
namespace Go.Proofs
open Go.Shelf
def Tryz.laysM146_ren:Go.Shelf.Ren:=⟨fun | 146=>42 | 221=>87 | 268=>131 | 138=>132 | 143=>133 | 195=>161 | 197=>162 | 218=>163 | 219=>164 | 260=>193 | 217=>173 | 225=>194 | 224=>195 | 267=>196 | 266=>204 | 314=>211 | n=>n,fun | 9=>9 | 31=>27 | 3=>3 | 4=>4 | 0=>0 | 105=>174 | 21=>21 | 5=>5 | 46=>168 | 119=>217 | 139=>220 | 138=>219 | 146=>221 | 51=>205 | n=>n,fun | 1=>0 | 3=>5 | 4=>6 | n=>n⟩
theorem Tryz.laysM146:Go.Proofs.LaysM.n146 Tryz.prog Tryz.laysM146_ren:={
 mixed:=by kernel_rfl
 f138:=Tryz.func132.trans (congrArg some (by kernel_rfl))
 f143:=Tryz.func133.trans (congrArg some (by kernel_rfl))
 f146:=Tryz.func42.trans (congrArg some (by kernel_rfl))
 f195:=Tryz.func161.trans (congrArg some (by kernel_rfl))
 f197:=Tryz.func162.trans (congrArg some (by kernel_rfl))
 f217:=Tryz.func173.trans (congrArg some (by kernel_rfl))
 f218:=Tryz.func163.trans (congrArg some (by kernel_rfl))
 f219:=Tryz.func164.trans (congrArg some (by kernel_rfl))
 f221:=Tryz.func87.trans (congrArg some (by kernel_rfl))
 f224:=Tryz.func195.trans (congrArg some (by kernel_rfl))
 f225:=Tryz.func194.trans (congrArg some (by kernel_rfl))
 f260:=Tryz.func193.trans (congrArg some (by kernel_rfl))
 f266:=Tryz.func204.trans (congrArg some (by kernel_rfl))
 f267:=Tryz.func196.trans (congrArg some (by kernel_rfl))
 f268:=Tryz.func131.trans (congrArg some (by kernel_rfl))
 f314:=Tryz.func211.trans (congrArg some (by kernel_rfl))
 t0:=Tryz.underlying0
 a0:=Tryz.isAgg0
 z0:=Tryz.sizeOf0
 v0:=Tryz.zeroValue0
 t3:=Tryz.underlying3
 a3:=Tryz.isAgg3
 z3:=Tryz.sizeOf3
 v3:=Tryz.zeroValue3
 t4:=Tryz.underlying4
 a4:=Tryz.isAgg4
 z4:=Tryz.sizeOf4
 v4:=Tryz.zeroValue4
 t5:=Tryz.underlying5
 a5:=Tryz.isAgg5
 z5:=Tryz.sizeOf5
 v5:=Tryz.zeroValue5
 t9:=Tryz.underlying9
 a9:=Tryz.isAgg9
 z9:=Tryz.sizeOf9
 v9:=Tryz.zeroValue9
 t21:=Tryz.underlying21
 a21:=Tryz.isAgg21
 z21:=Tryz.sizeOf21
 v21:=Tryz.zeroValue21
 t31:=Tryz.underlying27
 a31:=Tryz.isAgg27
 z31:=Tryz.sizeOf27
 v31:=Tryz.zeroValue27
 t46:=Tryz.underlying168
 a46:=Tryz.isAgg168
 z46:=Tryz.sizeOf168
 v46:=Tryz.zeroValue168
 t51:=Tryz.underlying205
 a51:=Tryz.isAgg205
 z51:=Tryz.sizeOf205
 v51:=Tryz.zeroValue205
 t105:=Tryz.underlying174
 a105:=Tryz.isAgg174
 z105:=Tryz.sizeOf174
 v105:=Tryz.zeroValue174
 t119:=Tryz.underlying217
 a119:=Tryz.isAgg217
 z119:=Tryz.sizeOf217
 t138:=Tryz.underlying219
 a138:=Tryz.isAgg219
 z138:=Tryz.sizeOf219
 v138:=Tryz.zeroValue219
 t139:=Tryz.underlying220
 a139:=Tryz.isAgg220
 z139:=Tryz.sizeOf220
 v139:=Tryz.zeroValue220
 t146:=Tryz.underlying221
 a146:=Tryz.isAgg221
 z146:=Tryz.sizeOf221
 v146:=Tryz.zeroValue221
 g1:=by kernel_rfl
 g3:=by kernel_rfl
 g4:=by kernel_rfl
 i0:=by kernel_rfl
 i3:=by kernel_rfl
 i4:=by kernel_rfl
 i5:=by kernel_rfl
 i9:=by kernel_rfl
 i21:=by kernel_rfl
 i31:=by kernel_rfl
 i46:=by kernel_rfl
 i51:=by kernel_rfl
 i105:=by kernel_rfl
 i138:=by kernel_rfl
 i139:=by kernel_rfl
 i146:=by kernel_rfl
 m1:=by kernel_rfl
 s1_3:=fun w h=>Go.Proofs.cell_of_shapedOpen_int (zero:=#[.int .i64 0]) (t:=3) h (of_decide_eq_true (by kernel_rfl)) (by kernel_rfl) rfl (by kernel_rfl) (by kernel_rfl) Tryz.underlying3
 m3:=by kernel_rfl
 m4:=by kernel_rfl }
end Go.Proofs
namespace Go.Proofs.YtjpoljlgkgmdkaaGreatDoor
open Go.RowKit Go.Cold
namespace cAssignApplies
open Go.ChangeShapes Go.WideShapes Go.ChangeAt
open Go.ChangeMaps (open_string)
set_option maxRecDepth 100000
theorem reads (os:Os) {H:Type} (enc:TypeId × Value→H):∃ places,DataW.whole enc Tryz.prog ((World.laidAll Tryz.prog os Rows.assignAppliesRow.laid).forCall (fun _ _=>0) ⟨#[],#[.slice none 0 0,.string ⟨#[]⟩],[]⟩).memory Tryz.f6.params.toList Rows.assignAppliesSpec.vars false (#[.slice none 0 0,.string ⟨#[]⟩]:Array Value).toList 8=some ([.nil,.lit (.string [])],[],places) :=
 ⟨[],by kernel_rfl⟩
theorem lifted (os:Os) (started:os.Started) (H:Type) (enc:TypeId × Value→H) (F:Stop.Interp) :
  ReturnsInHanded {} Tryz.checked os 6 .any ((OpenSpec.ofChange Rows.assignAppliesSpec).preRow enc Tryz.prog Tryz.f6 Rows.assignAppliesRow.domain false Rows.assignAppliesRow.laid) (((OpenSpec.ofChange Rows.assignAppliesSpec).at F).post enc Tryz.prog Tryz.f6 false true false false):=by
 obtain ⟨A,C⟩:=reads os enc;refine law_lifted os started H enc F (by kernel_rfl) Tryz.func6 #[.slice none 0 0,.string ⟨#[]⟩] (World.shaped_of_ZipB (by kernel_rfl) (by kernel_rfl)) (by kernel_rfl)
  (OpenSpec.preRow_of_cond 8 C (by kernel_rfl) (fun k hk=>by cases hk) (by kernel_rfl) (laidMet_laidAll _ (by kernel_rfl) (by kernel_rfl))) rfl rfl
  (fun ds hl=>by
   rw [Tryz.params6] at hl;match ds,hl with
   | [L,M],_=>rfl) (by kernel_rfl) ?_
 intro W base args ds ps hval hA hlt hz hsh hlaid;rw [Tryz.params6] at hA hval;obtain ⟨E,U,L,N,Y,q0,B,rfl,rfl,P,R⟩:=trodAll_cons hA;obtain ⟨G,V,M,O,Z,q1,rfl,rfl,rfl,Q,S⟩:=trodAll_cons R;obtain ⟨rfl,rfl,rfl⟩:=trodAll_nil S;obtain rfl:args=#[E,G]:=by cases args;simp_all
 obtain ⟨I,K,D,rfl,T⟩:=open_nums Tryz.underlying22 Tryz.underlying3 (by kernel_rfl) (hval 0 22 E rfl rfl) P (fun x C=>hlt x (List.mem_append_left _ C));obtain ⟨J,rfl,rfl,rfl,X⟩:=open_string Tryz.underlying9 (hval 1 9 G rfl rfl) Q;exact lawApplies13_any I K D J W (show Ok W from Tryz.laysM146.s1_3 W hsh) (okf8 hlaid) T X
theorem said:Rows.AssignAppliesSaid :=
 OpenClaim.holds_of_cond 6 Tryz.f6 rfl rfl rfl rfl rfl rfl rfl ⟨rfl,rfl,rfl,rfl,rfl⟩ rfl rfl rfl rfl rfl (by kernel_rfl) Tryz.func6 (by kernel_rfl)
  (of_decide_eq_true (by kernel_rfl)) (by unfold Func.isWrapper;first | (rw [if_pos (by decide +kernel)];kernel_rfl) | (rw [if_neg (by decide +kernel)];exact ⟨rfl,rfl⟩))
  (fun os started H enc _ F=>by rw [OpenClaim.pre_eq_preRow];exact lifted os started H enc F)
theorem plain (f:FuncId) (fn:Func) (hf:Tryz.pinned.checked.prog.funcNamed Rows.assignAppliesRow.func=some f) (hfn:Tryz.pinned.checked.prog.funcs[f]? = some fn) :
  true=Tryz.pinned.checked.prog.looks []∧∀ (j:Nat) t,fn.params[j]? = some t→Tryz.pinned.checked.prog.wantsStandIn t=false:=by
 obtain rfl:f=6:=Option.some.inj ((show Tryz.prog.funcNamed Rows.assignAppliesRow.func=some 6 by kernel_rfl).symm.trans hf) |>.symm;obtain rfl:fn=Tryz.f6:=(Option.some.inj (Tryz.func6.symm.trans hfn)).symm;refine ⟨by kernel_rfl,fun j t ht=>?_⟩;rw [Tryz.params6] at ht;have B:t ∈ [22,9]:=by simpa using Array.mem_of_getElem? ht
 have A:([22,9].all fun u=>!Tryz.prog.wantsStandIn u)=true:=by kernel_rfl
 exact (show Tryz.prog.wantsStandIn t=false by simpa using List.all_eq_true.1 A t B)
theorem card:Rows.AssignAppliesCardSaid :=
 Claim7.holds_tied_plain_at .later [] _ _ _ _ said (fun _ h=>by cases h) (by kernel_rfl) (fun _ h=>by cases h) assignApplies_row_tie rfl ⟨rfl,rfl⟩ (by kernel_rfl) rfl plain (by kernel_rfl)
end cAssignApplies
end Go.Proofs.YtjpoljlgkgmdkaaGreatDoor
