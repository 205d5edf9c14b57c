/-
  The walk of chapter 13's term (a term and a value out of the tape).
-/
import Derived.Test.YtjpoljlgkgmdkaaGreatDoorMVP
import Derived.Test.YtjpoljlgkgmdkaaGreatDoorMVO
set_option linter.unusedSimpArgs false
set_option linter.unusedVariables false
namespace Go.Cold
open Go Go.RowKit Go.Proofs.YtjpoljlgkgmdkaaGreatDoor
open Go.Proofs hiding intOf
def asTV:List ByteArray:=[⟨#[49]⟩,⟨#[]⟩,⟨#[97,32,98]⟩,⟨#[108,97,110,48]⟩,⟨#[48,54,52,52]⟩,⟨#[100,105,115,107]⟩,⟨#[117,115,98,58,118,49]⟩,⟨#[45,49,48,48,48]⟩,⟨#[120,47,121,32,46,47,122]⟩,⟨#[10]⟩,⟨#[113,32,114,32,115,32,116,32,117,32,118,32,119,32,120,32,121,32,122,32,65,32,66,32,67,32,68,32,69,32,70,32,71,32,72]⟩]
theorem asTV_small:∀ y ∈ asTV,y.size≤100:=by decide +kernel
theorem pick_small {v0 y:ByteArray} (h0:v0.size≤100) (h:y ∈ v0 :: asTV):y.size≤100:=by
 rcases List.mem_cons.1 h with rfl | h
 · exact h0
 exact asTV_small y h
theorem four_grown (W:World) (g:Nat) (v0 v1 v2 v3:Value):W.grownBy ((((W.setCell ⟨g,0,none⟩ v0).setCell ⟨g,1,none⟩ v1).setCell ⟨g,2,none⟩ v2).setCell ⟨g,3,none⟩ v3) (some g) :=
 grown_trans (grown_trans (grown_trans (grown_one _ _ _ _) (grown_one _ _ _ _)) (grown_one _ _ _ _)) (grown_one _ _ _ _)
theorem four_box {W:World} {g:Nat} {a0 a1 a2 a3:Value} (h:BoxL W g [a0,a1,a2,a3]) (v0 v1 v2 v3:Value):BoxL ((((W.setCell ⟨g,0,none⟩ v0).setCell ⟨g,1,none⟩ v1).setCell ⟨g,2,none⟩ v2).setCell ⟨g,3,none⟩ v3) g [v0,v1,v2,v3] :=
 (((h.set_ (j:=0) (by simp) v0).set_ (j:=1) (by simp) v1).set_ (j:=2) (by simp) v2).set_ (j:=3) (by simp) v3
def TermPost (xs:List Int) (k B b:Nat) (w:World) (e:Ending) (w':World):Prop:=∃ (t:Term4) (v:ByteArray) (j:Nat),e=.returned (.tuple #[.agg #[.int .i64 t.key,.string t.nm,.int .i64 t.op,.string t.val],.string v])∧OkX t∧t.val.size≤100∧v.size≤100∧j≤8∧TapeAt w' B b xs (k+j)∧w.grownBy w' (some b)
set_option maxRecDepth 100000 in
set_option maxHeartbeats 8000000 in
theorem term_any (xs:List Int) (k B b:Nat) (w:World) (hk:k≤2 ^ 39) (ht:TapeAt w B b xs k):Calls Tryz.prog 23 #[.pointer (some ⟨b,0,none⟩)] w (TermPost xs k B b w):=by
 have D:=Lh_ (show b<w.heap.size∧B≤b by obtain ⟨_,_,_,_,_,_,h1,h2⟩:=ht;exact ⟨h2,h1⟩);have R1:=Lh_ ht;have HK:=Lh_ hk;clear ht hk;have V1:=(zero_of_info (P:=Tryz.prog) (t:=35) info_term3).1;go_enter Tryz.func23,Tryz.ntmps23;go_upto_region 1 with fail
 obtain ⟨w1,hw1⟩:∃ z,w.alloc (.cells #[.int .i64 0,.string ByteArray.empty,.int .i64 0,.string ByteArray.empty] 35)=z:=⟨_,rfl⟩;have W0:Below w.heap.size w w1:=by rw [← hw1];exact (Below.refl _ _).alloc (Nat.le_refl _) _
 have Y1:=Lh_ (show BoxL w1 w.heap.size [.int .i64 0,.string ByteArray.empty,.int .i64 0,.string ByteArray.empty] from box_mk hw1);have G1:=Lh_ (R1.out.kept (grown_none W0) (fun e=>by cases e) (fun g e=>by cases e));have B1:=Lh_ (grown_any (row:=some b) W0);have E1:=Lh_ (show w.heap.size+1≤w1.heap.size by rw [← hw1];simp);try simp only [hw1]
 clear hw1 W0;go_wp2_with fail;refine (Assigns_any xs k B b w1 HK.out G1.out).mono ?_;rintro e w2 ⟨t,j,rfl,L1,J1,I1,C,A⟩;have Q1:=Lh_ L1;have O0:=Lh_ J1;have HJ:=Lh_ I1;clear L1 J1 I1;have M0:=Lh_ C;have D0:=Lh_ (grown_trans B1.out A);have Z1:=kg_ Y1 A (by have:=D.out;omega);have S:=Lh_ (Nat.le_trans E1.out A.size);clear C A;go_upto_region 2 with fail
 obtain ⟨w3,K1,F,C1,P0⟩:=bx_ w2 [.int .i64 t.key,.string t.nm,.int .i64 t.op,.string t.val] 35;try simp only [K1]
 have B2:=Lh_ F;have A2:=kb_ Z1 F;have N0:=Lh_ (M0.out.kept (grown_none F) (fun e=>by cases e) (fun g e=>by cases e));have E0:=Lh_ (grown_below D0.out F);have H0:=Lh_ (Nat.le_trans S.out (F).size);clear K1 F;try rw [← C1.out]
 clear V1;have G:=Lh_ (show w.heap.size+1≤w2.heap.size from S.out);go_wp2_with fail;refine (Next_lit 12 xs (k+j) B b w3 (by have:=HK.out;have:=HJ.out;omega) N0.out (by decide) (by decide)).mono ?_;rintro e v4 ⟨s,I,H,rfl,C,A⟩;have D2:=Lh_ (show 0≤s∧s<12 from ⟨I,H⟩);clear I H;have T:=Lh_ C;have Q:=Lh_ (grown_trans E0.out A);have M1:=kg_ A2 A (by have:=D.out;omega);have Y0:=kg_ P0 A (by have:=D.out;have:=G.out;omega);have R:=Lh_ (Nat.le_trans H0.out A.size);clear C A;by_cases s0:s=0
 ·
  have e0:(s == 0)=true:=by rw [s0];rfl
  clear s0;go_wp2_with fail;refine (Next_lit 2 xs (k+j+1) B b v4 (by have:=HK.out;have:=HJ.out;omega) T.out (by decide) (by decide)).mono ?_;rintro e v5 ⟨n2,I,H,rfl,C,A⟩;have F1:=Lh_ (show 0≤n2∧n2<2 from ⟨I,H⟩);clear I H;have J0:=Lh_ C;have A0:=Lh_ (grown_trans Q.out A);have W1:=kg_ M1 A (by have:=D.out;omega);have Z0:=kg_ Y0 A (by have:=D.out;have:=G.out;omega);have F0:=Lh_ (Nat.le_trans R.out A.size);clear C A;have hn:=F1.out;have H1:IntKind.i64.wrap (23+n2)=23+n2:=by rw [IntKind.wrap_i64];omega
  have V0:wrap64 (23+n2)=23+n2:=by unfold wrap64;omega
  obtain ⟨K,L,M,N⟩:=s4_ Z0.out.1;have T1:=Z0.out.2.1;go_upto_region 4 with fail
  clear K L M N T1;have Y:=four_grown v5 w2.heap.size (.int .i64 (23+n2)) (.string ⟨#[]⟩) (.int .i64 3) (.string ⟨#[97]⟩);have X0:=four_box Z0.out (.int .i64 (23+n2)) (.string ⟨#[]⟩) (.int .i64 3) (.string ⟨#[97]⟩);have E:=four_tape J0.out A0.out (g:=w2.heap.size) (by have:=D.out;have:=G.out;omega) (by have:=D.out;have:=G.out;omega) (by have:=G.out;omega) (.int .i64 (23+n2)) (.string ⟨#[]⟩) (.int .i64 3) (.string ⟨#[97]⟩);obtain ⟨v8,hv8⟩:∃ z,(((v5.setCell ⟨w2.heap.size,0,none⟩ (.int .i64 (23+n2))).setCell ⟨w2.heap.size,1,none⟩ (.string ⟨#[]⟩)).setCell ⟨w2.heap.size,2,none⟩ (.int .i64 3)).setCell ⟨w2.heap.size,3,none⟩ (.string ⟨#[97]⟩)=z:=⟨_,rfl⟩;rw [hv8] at Y X0 E;first | rw [hv8] | simp only [hv8]
  clear hv8;have X1:=kg_ W1 Y (by have:=G.out;omega);have N1:=Lh_ X0;have K0:=Lh_ E.1;have B0:=Lh_ E.2;have G0:=Lh_ (Nat.le_trans F0.out Y.size);clear Y X0 E;have I0:=Lh_ hn;clear hn H1 V0;obtain ⟨K,L,M,N⟩:=s4_ N1.out.1;go_wp2_with fail;refine (One_lit (⟨#[97]⟩ :: asTV) xs (k+j+1+1) B b #[.string ⟨#[97]⟩,.string ⟨#[49]⟩,.string ⟨#[]⟩,.string ⟨#[97,32,98]⟩,.string ⟨#[108,97,110,48]⟩,.string ⟨#[48,54,52,52]⟩,.string ⟨#[100,105,115,107]⟩,.string ⟨#[117,115,98,58,118,49]⟩,.string ⟨#[45,49,48,48,48]⟩,.string ⟨#[120,47,121,32,46,47,122]⟩,.string ⟨#[10]⟩,.string ⟨#[113,32,114,32,115,32,116,32,117,32,118,32,119,32,120,32,121,32,122,32,65,32,66,32,67,32,68,32,69,32,70,32,71,32,72]⟩] 9 v8 12 rfl rfl (by have:=HK.out;have:=HJ.out;omega) K0.out (show 1<12 by decide) (show 12≤100 by decide)).mono ?_;rintro e v9 ⟨y,U,rfl,C,A⟩;have HY:=Lh_ (pick_small (by decide) U);clear U K L M N;have L0:=Lh_ C;have C0:=Lh_ (grown_trans B0.out A);have V:=kg_ X1 A (by have:=D.out;omega);have Z:=kg_ N1 A (by have:=D.out;have:=G.out;omega);have P1:=Lh_ (Nat.le_trans G0.out A.size);clear C A;have K:=Z.out.1 0 _ rfl;have R0:=V.out.1 0 _ rfl;have L:=Z.out.1 1 _ rfl;have S0:=V.out.1 1 _ rfl;have M:=Z.out.1 2 _ rfl;have T0:=V.out.1 2 _ rfl;have N:=Z.out.1 3 _ rfl;have U0:=V.out.1 3 _ rfl;have Q0:=V.out.2.1;go_wp2;refine bodyPost_ret (v:=.tuple #[.agg #[.int .i64 (23+n2),.string ⟨#[]⟩,.int .i64 3,.string ⟨#[97]⟩],.string y]) (by simp [results,Tryz.results23,go_sem,R0,S0,T0,U0,Q0] <;> rfl) rfl ?_;have E:=four_tape L0.out C0.out (g:=w.heap.size) (by have:=D.out;omega) (by have:=D.out;omega) (Nat.le_refl _) (.int .i64 (23+n2)) (.string ⟨#[]⟩) (.int .i64 3) (.string ⟨#[97]⟩);exact ⟨⟨(23+n2),⟨#[]⟩,3,⟨#[97]⟩⟩,y,j+3,rfl,mkX (by have:=I0.out;omega) (by decide) (by decide) (by decide) (fun h=>by have:=I0.out;have h2:23+n2=(6:Int):=h;omega) (fun h=>by have:=I0.out;have h2:23+n2=(7:Int):=h;omega),(show (⟨#[97]⟩:ByteArray).size≤100 by decide),HY.out,by have:=HJ.out;omega,E.1,E.2⟩
 have e0:(s == 0)=false:=by simpa using s0
 clear s0;have G2:=O0.out;obtain ⟨K,L,M,N⟩:=s4_ Y0.out.1;go_wp2_with fail;refine (One_lit (t.val :: asTV) xs (k+j+1) B b #[.string t.val,.string ⟨#[49]⟩,.string ⟨#[]⟩,.string ⟨#[97,32,98]⟩,.string ⟨#[108,97,110,48]⟩,.string ⟨#[48,54,52,52]⟩,.string ⟨#[100,105,115,107]⟩,.string ⟨#[117,115,98,58,118,49]⟩,.string ⟨#[45,49,48,48,48]⟩,.string ⟨#[120,47,121,32,46,47,122]⟩,.string ⟨#[10]⟩,.string ⟨#[113,32,114,32,115,32,116,32,117,32,118,32,119,32,120,32,121,32,122,32,65,32,66,32,67,32,68,32,69,32,70,32,71,32,72]⟩] 9 v4 12 rfl rfl (by have:=HK.out;have:=HJ.out;omega) T.out (show 1<12 by decide) (show 12≤100 by decide)).mono ?_;rintro e v10 ⟨y,U,rfl,C,A⟩;have HY:=Lh_ (pick_small O0.out U);clear U K L M N;have X:=Lh_ C;have W:=Lh_ (grown_trans Q.out A);have J:=kg_ M1 A (by have:=D.out;omega);have O:=kg_ Y0 A (by have:=D.out;have:=G.out;omega);have O1:=Lh_ (Nat.le_trans R.out A.size);clear C A;have K:=O.out.1 0 _ rfl;have R0:=J.out.1 0 _ rfl;have L:=O.out.1 1 _ rfl;have S0:=J.out.1 1 _ rfl;have M:=O.out.1 2 _ rfl;have T0:=J.out.1 2 _ rfl;have N:=O.out.1 3 _ rfl;have U0:=J.out.1 3 _ rfl;have Q0:=J.out.2.1;go_wp2;refine bodyPost_ret (v:=.tuple #[.agg #[.int .i64 t.key,.string t.nm,.int .i64 t.op,.string t.val],.string y]) (by simp [results,Tryz.results23,go_sem,R0,S0,T0,U0,Q0] <;> rfl) rfl ?_;have E:=four_tape X.out W.out (g:=w.heap.size) (by have:=D.out;omega) (by have:=D.out;omega) (Nat.le_refl _) (.int .i64 t.key) (.string t.nm) (.int .i64 t.op) (.string t.val);exact ⟨t,y,j+2,rfl,Q1.out,O0.out,HY.out,by have:=HJ.out;omega,E.1,E.2⟩
theorem base_len2 (L:List Dev) (n:Int):(baseL L n).length≤64:=by
 unfold baseL;cases findD L n with
 | none=>simp
 | some d =>
  simp only
  refine Nat.le_trans (putAll_len _) ?_;unfold baseP;split <;> split <;> simp
theorem MadeD.up {n m:Nat} {d:Draft} (h:MadeD n d) (hm:n≤m):MadeD m d:=⟨h.snd,h.ok,Nat.le_trans h.cl hm,h.nms⟩
def NoD (w:World) (g:Nat) (x:Nat):Prop:=x≤w.heap.size∨x=g
theorem fill_row {w:World} {q:Nat} {T:TypeId} (hq:q<64):ByteRow (w.alloc (.cells #[.int .u8 (65+(q:Int) / 26),.int .u8 (65+(q:Int) % 26)] T)) w.heap.size [UInt8.ofNat (65+q / 26),UInt8.ofNat (65+q % 26)]:=by
 have D:BoxL (w.alloc (.cells #[.int .u8 (65+(q:Int) / 26),.int .u8 (65+(q:Int) % 26)] T)) w.heap.size [.int .u8 (65+(q:Int) / 26),.int .u8 (65+(q:Int) % 26)]:=box_mk rfl;obtain ⟨A,E,-⟩:=D;have B:((UInt8.ofNat (65+q / 26)).toNat:Int)=65+(q:Int) / 26:=by rw [UInt8.toNat_ofNat_of_lt' (by show 65+q / 26<256;omega)];omega
 have C:((UInt8.ofNat (65+q % 26)).toNat:Int)=65+(q:Int) % 26:=by rw [UInt8.toNat_ofNat_of_lt' (by show 65+q % 26<256;omega)];omega
 intro i b hi;refine ⟨?_,E i⟩;match i,hi with
 | 0,hi=>obtain rfl:=Option.some.inj hi;rw [B];exact A 0 _ rfl
 | 1,hi=>obtain rfl:=Option.some.inj hi;rw [C];exact A 1 _ rfl
 | (n+2),hi=>simp at hi
theorem fill_join (q:Nat):(⟨#[80]⟩:ByteArray) ++ ⟨#[65+UInt8.ofNat (q / 26),65+UInt8.ofNat (q % 26)]⟩=fillN q:=by
 unfold fillN;rw [UInt8.ofNat_add,UInt8.ofNat_add];apply ByteArray.ext
 simp
theorem fillN_small (q:Nat):(fillN q).size≤maxLen:=by show 3≤maxLen;unfold maxLen;omega
def DraftPost (xs:List Int) (k T:Nat) (w:World) (e:Ending) (w':World):Prop:=∃ (d:Draft) (h:DH) (p:Nat),e=.returned (.agg #[.slice h.a0 d.props.length h.c0,.slice h.a1 d.tags.length h.c1,.slice h.a2 d.links.length h.c2,.slice h.a3 d.run.length h.c3,.slice h.a4 d.load.length h.c4,.string d.nm,.int .i64 d.prio,.string d.owner,.string d.group,.int .i64 d.mode,.string d.res,.int .i64 d.calls,.int .i64 d.ticks,.slice h.a5 d.closed.length h.c5])∧DraftI 8 d∧DFr (fun x=>x≤w.heap.size) w' d h∧p≤k+2000∧TapeAt w' T T xs p∧w.grownBy w' (some T)
set_option maxRecDepth 100000 in
set_option maxHeartbeats 16000000 in
theorem draft_any (n:Int) (xs:List Int) (k:Nat) (u w:World) (hn:0≤n∧n≤8) (hok:Ok u) (h7:Ok7 u) (hng:NotG u.heap.size) (hbw:Below u.heap.size u w) (hk:k≤2 ^ 30) (ht:TapeAt w u.heap.size u.heap.size xs k) :
  Calls Tryz.prog 22 #[.pointer (some ⟨u.heap.size,0,none⟩),.int .i64 n] w (DraftPost xs k u.heap.size w):=by
 have D:=Lh_ (show u.heap.size<w.heap.size by obtain ⟨_,_,_,_,_,_,h1,O⟩:=ht;exact O);have I7:=Lh_ ht;have HK:=Lh_ hk;have H4:=Lh_ hok;have H7:=Lh_ h7;have D7:=Lh_ hng;have W6:=Lh_ hbw;obtain ⟨S8,T8⟩:=hn;clear ht hk hok h7 hng hbw;have A7:=Lh_ (grown_any (row:=some u.heap.size) (Below.refl w.heap.size w));have A6:=Lh_ (zero_of_info (P:=Tryz.prog) (t:=30) info_draft2).1;have J7:=Lh_ (zero_of_info (P:=Tryz.prog) (t:=35) info_term3).1;have L5:=A6.out;go_enter Tryz.func22,Tryz.ntmps22;go_upto_region 1 with fail
 obtain ⟨w1,M6,D1,G3,T4⟩:=bx_ w [.slice none 0 0,.slice none 0 0,.slice none 0 0,.slice none 0 0,.slice none 0 0,.string ByteArray.empty,.int .i64 0,.string ByteArray.empty,.string ByteArray.empty,.int .i64 0,.string ByteArray.empty,.int .i64 0,.int .i64 0,.slice none 0 0] 30;try simp only [M6]
 have F1:=tb_ W6 D1;have L4:=Lh_ (I7.out.kept (grown_none D1) (fun e=>by cases e) (fun g e=>by cases e));have V3:=Lh_ (grown_below A7.out D1);clear M6 D1;try rw [← G3.out]
 clear L5;have T5:=Lh_ (show w.heap.size<w1.heap.size by have:=G3.out;omega);go_wp2_with fail;refine (Tree_any xs k u.heap.size u.heap.size 3 w1 (by have:=HK.out;omega) L4.out ⟨by decide,by decide⟩ (H4.out.next F1.out) D7.out).mono ?_;rintro e w2 ⟨AT,cT,L,p1,rfl,L6,P7,J6,I6,I,A⟩;have Y5:=Lh_ L6;have E7:=Lh_ (J6.sl (B:=w2.heap.size) (fun x hx=>hx.2));have X5:=Lh_ I6;clear L6 P7 J6 I6;have H1:=Lh_ (below_of_grown F1.out A F1.out.size (Nat.le_refl _));have M4:=Lh_ I;have W3:=Lh_ (grown_trans V3.out A);have D4:=Lh_ (Nat.lt_of_lt_of_le T5.out A.size);have W7:=kg_ T4 A (by have:=D.out;omega);clear I A;go_wp2_with fail;refine (RBase_any AT cT L 1 w2 w2.heap.size (Nat.le_refl _) E7.out Y5.out (H7.out.below H1.out) (H4.out.next H1.out) (by unfold okI;decide)).mono ?_;rintro e w3 ⟨W,A5,c5,rfl,hs⟩;have K5:=MadeD.begin (base_sorted L 1) (base_len2 L 1) (fun a ha=>base_good Y5.out ha) (fun a ha=>base_mem ha);have I5:=base_len2 L 1;obtain ⟨bl,hbl_⟩:∃ z,baseL L 1=z:=⟨_,rfl⟩;rw [hbl_] at hs I5 K5 ⊢;have HS:=Lh_ hs;have X6:=Lh_ I5;have C7:=Lh_ K5;clear hs I5 hbl_ K5;have N5:=tb_ H1 W;have X7:=kb_ W7 W;have N4:=Lh_ (M4.out.kept (grown_none W) (fun e=>by cases e) (fun g e=>by cases e));have X3:=Lh_ (grown_below W3.out W);have M1:=Lh_ (Nat.lt_of_lt_of_le D4.out (W).size);clear W;go_wp2_with fail;refine (RBegin_new A5 c5 bl (fun x=>x≤w.heap.size) w3 (fun x hx=>by have:=M1.out;omega) HS.out (by have:=X6.out;omega)).mono ?_;rintro e w4 ⟨W,h0,rfl,hd⟩;obtain ⟨d0,hd0⟩:∃ z,beginD bl=z:=⟨_,rfl⟩;rw [hd0] at hd ⊢;have B7:=Lh_ (show MadeD 0 d0 from hd0 ▸ C7.out);clear hd0;have O5:=tb_ N5 W;have Y7:=kb_ X7 W;have O4:=Lh_ (N4.out.kept (grown_none W) (fun e=>by cases e) (fun g e=>by cases e));have Y3:=Lh_ (grown_below X3.out W);have N1:=Lh_ (Nat.lt_of_lt_of_le M1.out (W).size);clear W;have Q5:=Lh_ (hd.more (N':=NoD w w4.heap.size) (fun x hx q=>q.elim (fun h=>h) (fun h=>by omega)));have J:=Lh_ (show w.heap.size<w4.heap.size from N1.out);clear hd;have L5:=A6.out;go_upto_region 2 with fail
 obtain ⟨w5,N6,Z,R5,S4⟩:=bx_ w4 [.slice h0.a0 d0.props.length h0.c0,.slice h0.a1 d0.tags.length h0.c1,.slice h0.a2 d0.links.length h0.c2,.slice h0.a3 d0.run.length h0.c3,.slice h0.a4 d0.load.length h0.c4,.string d0.nm,.int .i64 d0.prio,.string d0.owner,.string d0.group,.int .i64 d0.mode,.string d0.res,.int .i64 d0.calls,.int .i64 d0.ticks,.slice h0.a5 d0.closed.length h0.c5] 30;try simp only [N6]
 have E3:=tb_ O5 Z;have Z7:=kb_ Y7 Z;have P4:=Lh_ (O4.out.kept (grown_none Z) (fun e=>by cases e) (fun g e=>by cases e));have Z3:=Lh_ (grown_below Y3.out Z);have E4:=Lh_ (Nat.lt_of_lt_of_le N1.out (Z).size);have R3:=Lh_ (Q5.out.below Z);clear N6 Z;try rw [← R5.out]
 clear L5;have F6:IntKind.i64.wrap (n+1)=n+1:=by rw [IntKind.wrap_i64];omega
 have H5:wrap64 (n+1)=n+1:=by unfold wrap64;omega
 go_wp2_with fail;refine (Next_lit (n+1) xs p1 u.heap.size u.heap.size w5 (by have:=HK.out;have:=X5.out;omega) P4.out (by omega) (by omega)).mono ?_;rintro e w6 ⟨m0,Y,A0,rfl,I,A⟩;have P5:=Lh_ (below_of_grown E3.out A E3.out.size (Nat.le_refl _));have Q4:=Lh_ I;have A4:=Lh_ (grown_trans Z3.out A);have F4:=Lh_ (Nat.lt_of_lt_of_le E4.out A.size);have A8:=kg_ Z7 A (by have:=D.out;have:=J.out;omega);have O7:=kg_ S4 A (by have:=D.out;have:=J.out;omega);have S3:=Lh_ (R3.out.grown A (.inl (.inl (Nat.le_of_lt D.out))));clear I A;have V2:=Lh_ (show 0≤m0∧m0≤n from ⟨Y,by omega⟩);clear Y A0;go_wp2_with fail;go_loopw [6] (fun i wr=>∃ (m:Int) (d:Draft) (h:DH) (p c2:Nat),i=.int .i64 m∧(0≤m∧m≤n∧(c2:Int)+m≤n)∧Hid (MadeD c2 d)∧Hid ((p:Int)+8 * m≤k+1001+8 * n)∧Hid (BoxL wr w.heap.size [.slice none 0 0,.slice none 0 0,.slice none 0 0,.slice none 0 0,.slice none 0 0,.string ByteArray.empty,.int .i64 0,.string ByteArray.empty,.string ByteArray.empty,.int .i64 0,.string ByteArray.empty,.int .i64 0,.int .i64 0,.slice none 0 0])∧Hid (BoxL wr w4.heap.size (drV d h))∧Hid (DFr (NoD w w4.heap.size) wr d h)∧Hid (TapeAt wr u.heap.size u.heap.size xs p)∧Hid (w.grownBy wr (some u.heap.size))∧Hid (Below u.heap.size u wr)∧Hid (w.heap.size<wr.heap.size)) (fun i _=>(intOf i).toNat)
 case atStart=>exact ⟨m0,d0,h0,p1+1,0,rfl,⟨V2.out.1,V2.out.2,by have:=V2.out.2;omega⟩,B7,Lh_ (by have:=X5.out;have:=V2.out.2;omega),A8,O7,S3,Q4,A4,P5,F4⟩
 obtain ⟨m,d,h,p,c2,rfl,hm,R0,W0,S1,E0,K1,R1,Q0,U0,O1⟩:=hrel;obtain ⟨P8,Q8,R8⟩:=hm;have E0:=Lh_ (show BoxL wr w4.heap.size (drV d h) from E0.out);clear F6 H5;have Q1:=Lh_ (show p≤k+1001+64 by have:=W0.out;omega);by_cases hlt:0<m
 ·
  go_wp2_with fail;refine (term_any xs p u.heap.size u.heap.size wr (by have:=HK.out;have:=Q1.out;omega) R1.out).mono ?_;rintro e w12 ⟨t,y,j,rfl,O6,K6,K3,H6,I,A⟩;have W5:=Lh_ O6;have Z5:=Lh_ K3;have HJ:=Lh_ H6;clear O6 K6 K3 H6;have M3:=Lh_ (below_of_grown U0.out A U0.out.size (Nat.le_refl _));have W2:=Lh_ I;have I2:=Lh_ (grown_trans Q0.out A);have P2:=Lh_ (Nat.lt_of_lt_of_le O1.out A.size);have P6:=kg_ S1 A (by have:=D.out;have:=J.out;omega);have C6:=kg_ E0 A (by have:=D.out;have:=J.out;omega);have D2:=Lh_ (K1.out.grown A (.inl (.inl (Nat.le_of_lt D.out))));clear I A;have U7:=J7.out;go_upto_region 6 with fail
  obtain ⟨C8,L3,M,C4,D3⟩:=bx_ w12 [.int .i64 t.key,.string t.nm,.int .i64 t.op,.string t.val] 35;try simp only [L3]
  have V0:=tb_ M3 M;have Q6:=kb_ P6 M;have X1:=kb_ C6 M;have X2:=Lh_ (W2.out.kept (grown_none M) (fun e=>by cases e) (fun g e=>by cases e));have J2:=Lh_ (grown_below I2.out M);have Z0:=Lh_ (Nat.lt_of_lt_of_le P2.out (M).size);have E2:=Lh_ (D2.out.below M);clear L3 M;try rw [← C4.out]
  clear U7;obtain ⟨F0,G0,H0,I0,J0,K0,L0,M0,N0,O0,Q,R,U,V⟩:=s14_ X1.out.1;obtain ⟨K7,L7,M7,N7⟩:=s4_ D3.out.1;go_wp2_with fail;refine (RApply_any d h t y (NoD w w4.heap.size) C8 (fun x hx=>by have:=Z0.out;have:=X1.out.2.2;rcases hx with hx | hx <;> omega) E2.out R0.out.snd (by have:=R0.out.cl;omega) W5.out.ok (by have:=Z5.out;omega) (H4.out.next V0.out) (H7.out.below V0.out)).mono ?_;rintro e w14 ⟨W,O,rfl,hd⟩;obtain ⟨d2,hd2⟩:∃ z,applyD d t y=z:=⟨_,rfl⟩;rw [hd2] at hd ⊢;have V5:=Lh_ (show MadeD (c2+1) d2 from hd2 ▸ R0.out.apply W5.out (by have:=Z5.out;unfold maxLen;omega));have U3:=Lh_ hd;clear hd2 hd F0 G0 H0 I0 J0 K0 L0 M0 N0 O0 Q R U V K7 L7 M7 N7;have G1:=tb_ V0 W;have R6:=kb_ Q6 W;have Y1:=kb_ X1 W;have Y2:=Lh_ (X2.out.kept (grown_none W) (fun e=>by cases e) (fun g e=>by cases e));have K2:=Lh_ (grown_below J2.out W);have Q2:=Lh_ (Nat.lt_of_lt_of_le Z0.out (W).size);clear W;obtain ⟨F0,G0,H0,I0,J0,K0,L0,M0,N0,O0,Q,R,U,V⟩:=s14_ Y1.out.1;have U4:=Y1.out.2.1;go_upto_region 4 with fail
  clear U4 F0 G0 H0 I0 J0 K0 L0 M0 N0 O0 Q R U V;obtain ⟨w15,hw15⟩:∃ z,set14 w14 (w4.heap.size) (.slice O.a0 d2.props.length O.c0) (.slice O.a1 d2.tags.length O.c1) (.slice O.a2 d2.links.length O.c2) (.slice O.a3 d2.run.length O.c3) (.slice O.a4 d2.load.length O.c4) (.string d2.nm) (.int .i64 d2.prio) (.string d2.owner) (.string d2.group) (.int .i64 d2.mode) (.string d2.res) (.int .i64 d2.calls) (.int .i64 d2.ticks) (.slice O.a5 d2.closed.length O.c5)=z:=⟨_,rfl⟩;have F:w14.grownBy w15 (some (w4.heap.size)):=by rw [← hw15];exact grown14 _ _ _ _ _ _ _ _ _ _ _ _ _ _ _ _
  have T0:BoxL w15 (w4.heap.size) (drV d2 O):=by rw [← hw15];exact Y1.out.set14 _ _ _ _ _ _ _ _ _ _ _ _ _ _
  unfold set14 at hw15;rw [hw15];clear hw15;have F7:=Lh_ F.size;have D6:=Lh_ (show BoxL w15 (w4.heap.size) (drV d2 O) from T0);have N3:=Lh_ (G1.out.grown F G1.out.size (fun q hq=>by have:=Option.some.inj hq;have:=D.out;have:=J.out;omega));have S6:=kg_ R6 F (by have:=D.out;have:=J.out;omega);have Z2:=Lh_ (Y2.out.kept F (fun e=>by have:=Option.some.inj e;have:=D.out;have:=J.out;omega) (fun q e=>by have:=Option.some.inj e;have:=D.out;have:=J.out;omega));have L2:=Lh_ (grown_new K2.out F (fun q hq=>by have:=Option.some.inj hq;have:=D.out;have:=J.out;omega));have R2:=Lh_ (Nat.lt_of_lt_of_le Q2.out (F).size);have F2:=Lh_ (U3.out.grown F (.inl (.inr rfl)));clear F T0;have J3:IntKind.i64.wrap (m - 1)=m - 1:=by rw [IntKind.wrap_i64];omega
  have C2:wrap64 (m - 1)=m - 1:=by unfold wrap64;omega
  go_wp2;go_roundw
  case rel=>exact ⟨m - 1,d2,O,p+j,c2+1,rfl,⟨by omega,by omega,by omega⟩,V5,Lh_ (by have:=W0.out;have:=HJ.out;omega),S6,D6,F2,Z2,L2,N3,R2⟩
  simp [intOf];omega
 have P1:=Lh_ (R0.out.up (m:=8) (by omega));go_wp2_with fail;refine (Next_lit 8 xs p u.heap.size u.heap.size wr (by have:=HK.out;have:=Q1.out;omega) R1.out (by decide) (by decide)).mono ?_;rintro e w21 ⟨s,Y,A0,rfl,I,A⟩;have I1:=Lh_ (below_of_grown U0.out A U0.out.size (Nat.le_refl _));have D0:=Lh_ I;have C0:=Lh_ (grown_trans Q0.out A);have A1:=Lh_ (Nat.lt_of_lt_of_le O1.out A.size);have E:=kg_ S1 A (by have:=D.out;have:=J.out;omega);have G:=kg_ E0 A (by have:=D.out;have:=J.out;omega);have B0:=Lh_ (K1.out.grown A (.inl (.inl (Nat.le_of_lt D.out))));clear I A;by_cases s0:s=0
 ·
  have e0:(s == 0)=true:=by rw [s0];rfl
  clear s0 Y A0;go_wp2_with fail;go_loopw [9] (fun i wr=>∃ (q:Nat) (d:Draft) (h:DH) (p:Nat),i=.int .i64 (q:Int)∧Hid (FillI 8 q d)∧Hid (p≤k+1066+q)∧Hid (BoxL wr w.heap.size [.slice none 0 0,.slice none 0 0,.slice none 0 0,.slice none 0 0,.slice none 0 0,.string ByteArray.empty,.int .i64 0,.string ByteArray.empty,.string ByteArray.empty,.int .i64 0,.string ByteArray.empty,.int .i64 0,.int .i64 0,.slice none 0 0])∧Hid (BoxL wr w4.heap.size (drV d h))∧Hid (DFr (NoD w w4.heap.size) wr d h)∧Hid (TapeAt wr u.heap.size u.heap.size xs p)∧Hid (w.grownBy wr (some u.heap.size))∧Hid (Below u.heap.size u wr)∧Hid (w.heap.size<wr.heap.size)) (fun i _=>64 - (intOf i).toNat)
  case atStart=>exact ⟨0,d,h,p+1,rfl,Lh_ P1.out.fill,Lh_ (by have:=Q1.out;omega),E,G,B0,D0,C0,I1,A1⟩
  clear E G B0 D0 C0 I1 A1 S1 E0 K1 R1 Q0 U0 O1 P1 R0 W0 Q1 e0;obtain ⟨q,d,h,p,rfl,P0,W0,S1,E0,K1,R1,Q0,U0,O1⟩:=hrel;have E0:=Lh_ (show BoxL wr w4.heap.size (drV d h) from E0.out);go_upto_region 9 with fail
  refine wp_region_held_late (S:=fun w'=>BoxL w' w4.heap.size (drV d h)) (late:=fun i=>false) (by kernel_rfl) ?_;obtain ⟨wd,hwd⟩:∃ z,World.drew wr=z:=⟨_,rfl⟩;rw [hwd];have S0:Below wr.heap.size wr wd:=by rw [← hwd];exact below_drewN_self _ _ 1
  clear hwd;have F3:=tb_ U0 S0;have B8:=kb_ S1 S0;have A2:=kb_ E0 S0;have R4:=Lh_ (R1.out.kept (grown_none S0) (fun e=>by cases e) (fun g e=>by cases e));have B4:=Lh_ (grown_below Q0.out S0);have G4:=Lh_ (Nat.lt_of_lt_of_le O1.out (S0).size);have T3:=Lh_ (K1.out.below S0);clear S0;refine tkL 0 34 (.pointer (some ⟨w4.heap.size,0,none⟩)) rfl (fun w' hS=>by go_simp) A2.out ?_;try simp only [zP,zA,zB,zC]
  refine tkL 1 35 (.slice h.a0 d.props.length h.c0) rfl (fun w' hS=>by (have V8:=hS.1 0 _ rfl;go_simp)) A2.out ?_;try simp only [zP,zA,zB,zC]
  refine tkL 2 36 (.int .i64 (d.props.length:Int)) rfl (fun w' hS=>by go_simp) A2.out ?_;try simp only [zP,zA,zB,zC]
  refine tkL 3 37 (.pointer (some ⟨u.heap.size,0,none⟩)) rfl (fun w' hS=>by go_simp) A2.out ?_;try simp only [zP,zA,zB,zC]
  refine rdL 4 (o:=⟨some 38,.call ⟨_,_,_⟩,_,_,_,_⟩) rfl (fun K hK=>?_);go_simp;go_at_call 12;refine (Next_lit 2 xs p u.heap.size u.heap.size wd (by have:=HK.out;have:=W0.out;have:=P0.out.len;have:=P0.out.snd.pl;omega) R4.out (by decide) (by decide)).mono ?_;rintro e' w32 ⟨s2,Y,A0,rfl,I,A⟩;have K4:=Lh_ (show 0≤s2∧s2<2 from ⟨Y,A0⟩);clear Y A0;have O3:=Lh_ (below_of_grown F3.out A F3.out.size (Nat.le_refl _));have C1:=Lh_ I;have Y0:=Lh_ (grown_trans B4.out A);have S2:=Lh_ (Nat.lt_of_lt_of_le G4.out A.size);have H:=kg_ B8 A (by have:=D.out;have:=J.out;omega);have C:=kg_ A2 A (by have:=D.out;have:=J.out;omega);have X0:=Lh_ (T3.out.grown A (.inl (.inl (Nat.le_of_lt D.out))));clear I A;refine hK.out _ _ (fun _=>C.out) ?_;clear hK K;try simp only [zP,zA,zB,zC]
  have J3:IntKind.i64.wrap (64 - s2)=64 - s2:=by have:=K4.out;rw [IntKind.wrap_i64];omega
  have C2:wrap64 (64 - s2)=64 - s2:=by have:=K4.out;unfold wrap64;omega
  refine tkL 5 39 (.int .i64 (64 - s2)) rfl (fun w' hS=>by go_simp) C.out ?_;try simp only [zP,zA,zB,zC]
  obtain ⟨bl2,hbl2⟩:∃ z,decide ((d.props.length:Int)<64 - s2)=z:=⟨_,rfl⟩;refine tkL 6 40 (.bool bl2) rfl (fun w' hS=>by (go_simp;try rw [hbl2])) C.out ?_;try simp only [zP,zA,zB,zC]
  refine wpAnyHL_done (by kernel_rfl) ?_ _;have M5:=Lh_ hbl2;clear hbl2 J3 C2;cases bl2
  · 
   have L1:=Lh_ P0.out.out;have I4:=Lh_ (show p+1≤k+2000 by have:=W0.out;have:=P0.out.len;have:=P0.out.snd.pl;omega);have F0:=C.out.1 0 _ rfl;have W4:=H.out.1 0 _ rfl;have G0:=C.out.1 1 _ rfl;have X4:=H.out.1 1 _ rfl;have H0:=C.out.1 2 _ rfl;have Y4:=H.out.1 2 _ rfl;have I0:=C.out.1 3 _ rfl;have Z4:=H.out.1 3 _ rfl;have J0:=C.out.1 4 _ rfl;have B5:=H.out.1 4 _ rfl;have K0:=C.out.1 5 _ rfl;have C5:=H.out.1 5 _ rfl;have L0:=C.out.1 6 _ rfl;have D5:=H.out.1 6 _ rfl;have M0:=C.out.1 7 _ rfl;have E5:=H.out.1 7 _ rfl;have N0:=C.out.1 8 _ rfl;have F5:=H.out.1 8 _ rfl;have O0:=C.out.1 9 _ rfl;have G5:=H.out.1 9 _ rfl;have Q:=C.out.1 10 _ rfl;have T1:=H.out.1 10 _ rfl;have R:=C.out.1 11 _ rfl;have U1:=H.out.1 11 _ rfl;have U:=C.out.1 12 _ rfl;have V1:=H.out.1 12 _ rfl;have V:=C.out.1 13 _ rfl;have W1:=H.out.1 13 _ rfl;have V4:=H.out.2.1;go_wp2;refine bodyPost_ret (v:=.agg #[.slice h.a0 d.props.length h.c0,.slice h.a1 d.tags.length h.c1,.slice h.a2 d.links.length h.c2,.slice h.a3 d.run.length h.c3,.slice h.a4 d.load.length h.c4,.string d.nm,.int .i64 d.prio,.string d.owner,.string d.group,.int .i64 d.mode,.string d.res,.int .i64 d.calls,.int .i64 d.ticks,.slice h.a5 d.closed.length h.c5]) (by simp [results,Tryz.results22,go_sem,W4,X4,Y4,Z4,B5,C5,D5,E5,F5,G5,T1,U1,V1,W1,V4]) rfl ?_;have F:w32.grownBy (set14 w32 w.heap.size (.slice h.a0 d.props.length h.c0) (.slice h.a1 d.tags.length h.c1) (.slice h.a2 d.links.length h.c2) (.slice h.a3 d.run.length h.c3) (.slice h.a4 d.load.length h.c4) (.string d.nm) (.int .i64 d.prio) (.string d.owner) (.string d.group) (.int .i64 d.mode) (.string d.res) (.int .i64 d.calls) (.int .i64 d.ticks) (.slice h.a5 d.closed.length h.c5)) (some w.heap.size):=grown14 _ _ _ _ _ _ _ _ _ _ _ _ _ _ _ _;exact ⟨d,h,p+1,rfl,L1.out,(X0.out.grown F (.inl (.inl (Nat.le_refl _)))).more (fun x _ hx=>.inl hx),I4.out,C1.out.kept F (fun e=>by have:=Option.some.inj e;have:=D.out;omega) (fun q e=>by have:=Option.some.inj e;have:=D.out;omega),grown_new Y0.out F (fun q hq=>by have:=Option.some.inj hq;omega)⟩
  have U5:=Lh_ (show d.props.length<64 by have:=of_decide_eq_true M5.out;have:=K4.out;omega);have HQ:=Lh_ (show q<64 by have:=P0.out.len;have:=U5.out;omega);obtain ⟨J5,G6⟩:=P0.out.step U5.out;obtain ⟨d2,hd2⟩:∃ z,setD d (fillN q) oneB=z:=⟨_,rfl⟩;rw [hd2] at J5 G6;have Z6:=Lh_ J5;have Y6:=Lh_ hd2;clear J5 G6 hd2;obtain ⟨F0,G0,H0,I0,J0,K0,L0,M0,N0,O0,Q,R,U,V⟩:=s14_ C.out.1;have Q7:wrap64 ((q:Int) / 26)=(q:Int) / 26:=by have:=HQ.out;unfold wrap64;omega
  have R7:wrap64 (65+(q:Int) / 26)=65+(q:Int) / 26:=by have:=HQ.out;unfold wrap64;omega
  have S7:(65+(q:Int) / 26) % 256=65+(q:Int) / 26:=by have:=HQ.out;omega
  have H3:=Lh_ (fill_row (w:=w32) (T:=5) HQ.out);go_wp2_with (with_reducible refine at_dst 53 ?_;go_must (refine wpList_conv_string rfl 81 9 5 _ rfl w32.heap.size 2 2 [UInt8.ofNat (65+q / 26),UInt8.ofNat (65+q % 26)] rfl rfl H3.out Tryz.underlying81 Tryz.underlying5 Tryz.underlying9 ?_));rw [fill_join];clear Q7 R7 S7 H3;obtain ⟨w33,hw33⟩:∃ z,w32.alloc (.cells #[.int .u8 (65+(q:Int) / 26),.int .u8 (65+(q:Int) % 26)] 5)=z:=⟨_,rfl⟩;have X:Below w32.heap.size w32 w33:=by rw [← hw33];exact (Below.refl _ _).alloc (Nat.le_refl _) _
  rw [hw33];clear hw33 F0 G0 H0 I0 J0 K0 L0 M0 N0 O0 Q R U V;have P3:=tb_ O3 X;have T6:=kb_ H X;have I3:=kb_ C X;have A3:=Lh_ (C1.out.kept (grown_none X) (fun e=>by cases e) (fun g e=>by cases e));have M2:=Lh_ (grown_below Y0.out X);have B1:=Lh_ (Nat.lt_of_lt_of_le S2.out (X).size);have G2:=Lh_ (X0.out.below X);clear X;refine (RSet_any d h (fillN q) oneB (NoD w w4.heap.size) w33 (fun x hx=>by have:=B1.out;have:=I3.out.2.2;rcases hx with hx | hx <;> omega) G2.out (by have:=P0.out.snd.pl;omega) (fillN_small q) (by decide)).mono ?_;rintro e w34 ⟨W,O,rfl,hd⟩;rw [Y6.out] at hd ⊢;have U3:=Lh_ hd;clear hd;have J1:=tb_ P3 W;have U6:=kb_ T6 W;have Z1:=kb_ I3 W;have B3:=Lh_ (A3.out.kept (grown_none W) (fun e=>by cases e) (fun g e=>by cases e));have N2:=Lh_ (grown_below M2.out W);have T2:=Lh_ (Nat.lt_of_lt_of_le B1.out (W).size);clear W;obtain ⟨F0,G0,H0,I0,J0,K0,L0,M0,N0,O0,Q,R,U,V⟩:=s14_ Z1.out.1;have U4:=Z1.out.2.1;go_upto_region 10 with fail
  clear U4 F0 G0 H0 I0 J0 K0 L0 M0 N0 O0 Q R U V;obtain ⟨w35,hw35⟩:∃ z,set14 w34 (w4.heap.size) (.slice O.a0 d2.props.length O.c0) (.slice O.a1 d2.tags.length O.c1) (.slice O.a2 d2.links.length O.c2) (.slice O.a3 d2.run.length O.c3) (.slice O.a4 d2.load.length O.c4) (.string d2.nm) (.int .i64 d2.prio) (.string d2.owner) (.string d2.group) (.int .i64 d2.mode) (.string d2.res) (.int .i64 d2.calls) (.int .i64 d2.ticks) (.slice O.a5 d2.closed.length O.c5)=z:=⟨_,rfl⟩;have F:w34.grownBy w35 (some (w4.heap.size)):=by rw [← hw35];exact grown14 _ _ _ _ _ _ _ _ _ _ _ _ _ _ _ _
  have T0:BoxL w35 (w4.heap.size) (drV d2 O):=by rw [← hw35];exact Z1.out.set14 _ _ _ _ _ _ _ _ _ _ _ _ _ _
  unfold set14 at hw35;rw [hw35];clear hw35;have G7:=Lh_ F.size;have E6:=Lh_ (show BoxL w35 (w4.heap.size) (drV d2 O) from T0);have Q3:=Lh_ (J1.out.grown F J1.out.size (fun q hq=>by have:=Option.some.inj hq;have:=D.out;have:=J.out;omega));have V6:=kg_ U6 F (by have:=D.out;have:=J.out;omega);have C3:=Lh_ (B3.out.kept F (fun e=>by have:=Option.some.inj e;have:=D.out;have:=J.out;omega) (fun q e=>by have:=Option.some.inj e;have:=D.out;have:=J.out;omega));have O2:=Lh_ (grown_new N2.out F (fun q hq=>by have:=Option.some.inj hq;have:=D.out;have:=J.out;omega));have U2:=Lh_ (Nat.lt_of_lt_of_le T2.out (F).size);have H2:=Lh_ (U3.out.grown F (.inl (.inr rfl)));clear F T0;have U8:IntKind.i64.wrap ((q:Int)+1)=(q:Int)+1:=by have:=HQ.out;rw [IntKind.wrap_i64];omega
  have F8:wrap64 ((q:Int)+1)=(q:Int)+1:=by have:=HQ.out;unfold wrap64;omega
  go_wp2;go_roundw
  case rel=>exact ⟨q+1,d2,O,p+1,by go_num,Z6,Lh_ (by have:=W0.out;omega),V6,E6,H2,C3,O2,Q3,U2⟩
  have:=HQ.out;simp [intOf];omega
 have e0:(s == 0)=false:=by simpa using s0
 clear s0 Y A0;have L1:=Lh_ P1.out.out;have I4:=Lh_ (show p+1≤k+2000 by have:=Q1.out;omega);have F0:=G.out.1 0 _ rfl;have W4:=E.out.1 0 _ rfl;have G0:=G.out.1 1 _ rfl;have X4:=E.out.1 1 _ rfl;have H0:=G.out.1 2 _ rfl;have Y4:=E.out.1 2 _ rfl;have I0:=G.out.1 3 _ rfl;have Z4:=E.out.1 3 _ rfl;have J0:=G.out.1 4 _ rfl;have B5:=E.out.1 4 _ rfl;have K0:=G.out.1 5 _ rfl;have C5:=E.out.1 5 _ rfl;have L0:=G.out.1 6 _ rfl;have D5:=E.out.1 6 _ rfl;have M0:=G.out.1 7 _ rfl;have E5:=E.out.1 7 _ rfl;have N0:=G.out.1 8 _ rfl;have F5:=E.out.1 8 _ rfl;have O0:=G.out.1 9 _ rfl;have G5:=E.out.1 9 _ rfl;have Q:=G.out.1 10 _ rfl;have T1:=E.out.1 10 _ rfl;have R:=G.out.1 11 _ rfl;have U1:=E.out.1 11 _ rfl;have U:=G.out.1 12 _ rfl;have V1:=E.out.1 12 _ rfl;have V:=G.out.1 13 _ rfl;have W1:=E.out.1 13 _ rfl;have V4:=E.out.2.1;go_wp2;refine bodyPost_ret (v:=.agg #[.slice h.a0 d.props.length h.c0,.slice h.a1 d.tags.length h.c1,.slice h.a2 d.links.length h.c2,.slice h.a3 d.run.length h.c3,.slice h.a4 d.load.length h.c4,.string d.nm,.int .i64 d.prio,.string d.owner,.string d.group,.int .i64 d.mode,.string d.res,.int .i64 d.calls,.int .i64 d.ticks,.slice h.a5 d.closed.length h.c5]) (by simp [results,Tryz.results22,go_sem,W4,X4,Y4,Z4,B5,C5,D5,E5,F5,G5,T1,U1,V1,W1,V4]) rfl ?_;have F:w21.grownBy (set14 w21 w.heap.size (.slice h.a0 d.props.length h.c0) (.slice h.a1 d.tags.length h.c1) (.slice h.a2 d.links.length h.c2) (.slice h.a3 d.run.length h.c3) (.slice h.a4 d.load.length h.c4) (.string d.nm) (.int .i64 d.prio) (.string d.owner) (.string d.group) (.int .i64 d.mode) (.string d.res) (.int .i64 d.calls) (.int .i64 d.ticks) (.slice h.a5 d.closed.length h.c5)) (some w.heap.size):=grown14 _ _ _ _ _ _ _ _ _ _ _ _ _ _ _ _;exact ⟨d,h,p+1,rfl,L1.out,(B0.out.grown F (.inl (.inl (Nat.le_refl _)))).more (fun x _ hx=>.inl hx),I4.out,D0.out.kept F (fun e=>by have:=Option.some.inj e;have:=D.out;omega) (fun q e=>by have:=Option.some.inj e;have:=D.out;omega),grown_new C0.out F (fun q hq=>by have:=Option.some.inj hq;omega)⟩

theorem size_pos0 {s:ByteArray} (h0:¬ s.toList=[]):0<s.size:=by
 rcases Nat.eq_zero_or_pos s.size with h | h
 · exfalso;apply h0;rw [Lib.toList_data];exact List.eq_nil_of_length_eq_zero (by rw [ba_size];exact h)
 exact h
theorem plus_at (S:List UInt8) (t:ByteArray) (U:List UInt8) (hU:S ++ t.data.toList=U) (w:World) (ht:t.size≤maxLen) :
  Calls Tryz.prog 46 #[.agg (Lib.setCells S),.string t] w fun e w'=>e=.returned (.agg (Lib.setCells U))∧Below w.heap.size w w':=by
 subst hU;exact plus_any S t w ht

set_option maxRecDepth 100000 in
set_option maxHeartbeats 4000000 in
theorem Key_none (s:ByteArray) (w:World) (h0:s.toList=[]):Calls Tryz.prog 58 #[.string s] w fun e w'=>e=.returned (.bool (keyB s))∧Below w.heap.size w w':=by
 have A:keyB s=false:=by simp [keyB,h0]
 have B:=Lh_ A;clear A;have h0':(s.toList == [])=true:=by simpa using h0
 have h0'':(s.toList != [])=false:=by simpa using h0
 have C:s.toList.isEmpty=true:=by simpa using h0
 go_enter Tryz.func58,Tryz.ntmps58;go_wp2_with fail;refine wp_region_held_drew (S:=fun _=>True) (by kernel_rfl) trivial (fun _=>?_);refine tk1 0 3 (.string s) rfl (fun w' hS=>by go_simp) trivial ?_;try simp only [zP,zA,zB,zC]
 refine tk1 1 4 (.bool false) rfl (fun w' hS=>by go_simp) trivial ?_;try simp only [zP,zA,zB,zC]
 refine tk1 2 5 (.bool false) rfl (fun w' hS=>by go_simp) trivial ?_;try simp only [zP,zA,zB,zC]
 refine tk0 3 6 rfl trivial ?_;try simp only [zP,zA,zB,zC]
 refine tk0 4 7 rfl trivial ?_;try simp only [zP,zA,zB,zC]
 refine tk0 5 8 rfl trivial ?_;try simp only [zP,zA,zB,zC]
 refine tk1 6 9 (.bool false) rfl (fun w' hS=>by go_simp) trivial ?_;try simp only [zP,zA,zB,zC]
 refine tk1 7 10 (.bool false) rfl (fun w' hS=>by go_simp) trivial ?_;try simp only [zP,zA,zB,zC]
 refine tk0 8 11 rfl trivial ?_;try simp only [zP,zA,zB,zC]
 refine tk0 9 12 rfl trivial ?_;try simp only [zP,zA,zB,zC]
 refine tk0 10 13 rfl trivial ?_;try simp only [zP,zA,zB,zC]
 refine tk0 11 14 rfl trivial ?_;try simp only [zP,zA,zB,zC]
 refine tk0 12 15 rfl trivial ?_;try simp only [zP,zA,zB,zC]
 refine tk1 13 16 (.bool false) rfl (fun w' hS=>by go_simp) trivial ?_;try simp only [zP,zA,zB,zC]
 refine tk1 14 17 (.bool false) rfl (fun w' hS=>by go_simp) trivial ?_;try simp only [zP,zA,zB,zC]
 refine tk0 15 18 rfl trivial ?_;try simp only [zP,zA,zB,zC]
 refine tk0 16 19 rfl trivial ?_;try simp only [zP,zA,zB,zC]
 refine tk0 17 20 rfl trivial ?_;try simp only [zP,zA,zB,zC]
 refine tk0 18 21 rfl trivial ?_;try simp only [zP,zA,zB,zC]
 refine tk0 19 22 rfl trivial ?_;try simp only [zP,zA,zB,zC]
 refine tk0 20 23 rfl trivial ?_;try simp only [zP,zA,zB,zC]
 refine tk1 21 24 (.bool false) rfl (fun w' hS=>by go_simp) trivial ?_;try simp only [zP,zA,zB,zC]
 refine tk1 22 2 (.bool false) rfl (fun w' hS=>by go_simp) trivial ?_;try simp only [zP,zA,zB,zC]
 refine wpAnyH_done (by kernel_rfl) ?_ _;go_wp2;go_ret;exact ⟨ret_bool B.out.symm,⟨rfl,rfl,rfl,Nat.le_refl _,fun _ _=>rfl⟩⟩

set_option maxRecDepth 100000 in
set_option maxHeartbeats 4000000 in
theorem Key_long (s:ByteArray) (w:World) (h0:¬ s.toList=[]) (h1:¬ s.size≤32):Calls Tryz.prog 58 #[.string s] w fun e w'=>e=.returned (.bool (keyB s))∧Below w.heap.size w w':=by
 have A:keyB s=false:=by
  unfold keyB;rw [show decide ((s.size:Int)≤32)=false by simp;omega];simp
 have B:=Lh_ A;clear A;have h1':decide ((s.size:Int)≤32)=false:=by simp;omega
 have D:¬ (s.size:Int)≤32:=by omega
 have h0':(s.toList == [])=false:=by simpa using h0
 have h0'':(s.toList != [])=true:=by simpa using h0
 have C:s.toList.isEmpty=false:=by simpa using h0
 go_enter Tryz.func58,Tryz.ntmps58;go_wp2_with fail;refine wp_region_held_drew (S:=fun _=>True) (by kernel_rfl) trivial (fun _=>?_);refine tk1 0 3 (.string s) rfl (fun w' hS=>by go_simp) trivial ?_;try simp only [zP,zA,zB,zC]
 refine tk1 1 4 (.bool true) rfl (fun w' hS=>by go_simp) trivial ?_;try simp only [zP,zA,zB,zC]
 refine tk1 2 5 (.bool true) rfl (fun w' hS=>by go_simp) trivial ?_;try simp only [zP,zA,zB,zC]
 refine tk1 3 6 (.string s) rfl (fun w' hS=>by go_simp) trivial ?_;try simp only [zP,zA,zB,zC]
 refine tk1 4 7 (.int .i64 s.size) rfl (fun w' hS=>by go_simp) trivial ?_;try simp only [zP,zA,zB,zC]
 refine tk1 5 8 (.bool false) rfl (fun w' hS=>by go_simp) trivial ?_;try simp only [zP,zA,zB,zC]
 refine tk1 6 9 (.bool false) rfl (fun w' hS=>by go_simp) trivial ?_;try simp only [zP,zA,zB,zC]
 refine tk1 7 10 (.bool false) rfl (fun w' hS=>by go_simp) trivial ?_;try simp only [zP,zA,zB,zC]
 refine tk0 8 11 rfl trivial ?_;try simp only [zP,zA,zB,zC]
 refine tk0 9 12 rfl trivial ?_;try simp only [zP,zA,zB,zC]
 refine tk0 10 13 rfl trivial ?_;try simp only [zP,zA,zB,zC]
 refine tk0 11 14 rfl trivial ?_;try simp only [zP,zA,zB,zC]
 refine tk0 12 15 rfl trivial ?_;try simp only [zP,zA,zB,zC]
 refine tk1 13 16 (.bool false) rfl (fun w' hS=>by go_simp) trivial ?_;try simp only [zP,zA,zB,zC]
 refine tk1 14 17 (.bool false) rfl (fun w' hS=>by go_simp) trivial ?_;try simp only [zP,zA,zB,zC]
 refine tk0 15 18 rfl trivial ?_;try simp only [zP,zA,zB,zC]
 refine tk0 16 19 rfl trivial ?_;try simp only [zP,zA,zB,zC]
 refine tk0 17 20 rfl trivial ?_;try simp only [zP,zA,zB,zC]
 refine tk0 18 21 rfl trivial ?_;try simp only [zP,zA,zB,zC]
 refine tk0 19 22 rfl trivial ?_;try simp only [zP,zA,zB,zC]
 refine tk0 20 23 rfl trivial ?_;try simp only [zP,zA,zB,zC]
 refine tk1 21 24 (.bool false) rfl (fun w' hS=>by go_simp) trivial ?_;try simp only [zP,zA,zB,zC]
 refine tk1 22 2 (.bool false) rfl (fun w' hS=>by go_simp) trivial ?_;try simp only [zP,zA,zB,zC]
 refine wpAnyH_done (by kernel_rfl) ?_ _;go_wp2;go_ret;exact ⟨ret_bool B.out.symm,⟨rfl,rfl,rfl,Nat.le_refl _,fun _ _=>rfl⟩⟩

set_option maxRecDepth 100000 in
set_option maxHeartbeats 4000000 in
theorem Key_head (s:ByteArray) (w:World) (hs:s.size≤maxLen) (h0:¬ s.toList=[]) (h1:s.size≤32) (hf:inB upperL (s.extract 0 1)=false):Calls Tryz.prog 58 #[.string s] w fun e w'=>e=.returned (.bool (keyB s))∧Below w.heap.size w w':=by
 have N:(s.extract 0 1).size≤maxLen:=by rw [ByteArray.size_extract];unfold maxLen;omega
 have C:keyB s=false:=by unfold keyB;rw [hf];simp
 have D:=size_pos0 h0;have F:=Lh_ C;clear C;have E:=Lh_ hf;clear hf;obtain ⟨M,L⟩:=zero_of_info info_set;rw [← Lib.setCells_nil] at M;clear L;have h1':decide ((s.size:Int)≤32)=true:=by simp;omega
 have H:(s.size:Int)≤32:=by omega
 have I:(1:Int)≤(s.size:Int):=by omega
 have h0':(s.toList == [])=false:=by simpa using h0
 have h0'':(s.toList != [])=true:=by simpa using h0
 have G:s.toList.isEmpty=false:=by simpa using h0
 go_enter Tryz.func58,Tryz.ntmps58;go_wp2_with fail;refine wp_region_held_drew (S:=fun _=>True) (by kernel_rfl) trivial (fun _=>?_);refine tk1 0 3 (.string s) rfl (fun w' hS=>by go_simp) trivial ?_;try simp only [zP,zA,zB,zC]
 refine tk1 1 4 (.bool true) rfl (fun w' hS=>by go_simp) trivial ?_;try simp only [zP,zA,zB,zC]
 refine tk1 2 5 (.bool true) rfl (fun w' hS=>by go_simp) trivial ?_;try simp only [zP,zA,zB,zC]
 refine tk1 3 6 (.string s) rfl (fun w' hS=>by go_simp) trivial ?_;try simp only [zP,zA,zB,zC]
 refine tk1 4 7 (.int .i64 s.size) rfl (fun w' hS=>by go_simp) trivial ?_;try simp only [zP,zA,zB,zC]
 refine tk1 5 8 (.bool true) rfl (fun w' hS=>by go_simp) trivial ?_;try simp only [zP,zA,zB,zC]
 refine tk1 6 9 (.bool true) rfl (fun w' hS=>by go_simp) trivial ?_;try simp only [zP,zA,zB,zC]
 refine tk1 7 10 (.bool true) rfl (fun w' hS=>by go_simp) trivial ?_;try simp only [zP,zA,zB,zC]
 refine tk1 8 11 (.agg (Lib.setCells [])) rfl (fun w' hS=>by go_simp) trivial ?_;try simp only [zP,zA,zB,zC]
 refine tk1 10 13 (.string s) rfl (fun w' hS=>by go_simp) trivial ?_;try simp only [zP,zA,zB,zC]
 refine tk1 11 14 (.string (s.extract 0 1)) rfl (fun w' hS=>by go_simp) trivial ?_;try simp only [zP,zA,zB,zC]
 refine rd1 9 (o:=⟨some 12,.call ⟨_,_,_⟩,_,_,_,_⟩) rfl (fun K hK=>?_);go_simp;go_at_call 46;refine (plus_at [] _ upperL rfl _ (by decide)).mono ?_;rintro e w9 ⟨rfl,B⟩;refine hK.out _ _ trivial (fun _=>?_);clear hK K;try simp only [zP,zA,zB,zC]
 refine rd1 12 (o:=⟨some 15,.call ⟨_,_,_⟩,_,_,_,_⟩) rfl (fun K hK=>?_);go_simp;go_at_call 45;refine (has_any upperL (s.extract 0 1) _ (by assumption)).mono ?_;rintro e w12 ⟨rfl,A⟩;rw [E.out];refine hK.out _ _ trivial (fun _=>?_);clear hK K;try simp only [zP,zA,zB,zC]
 refine tk1 13 16 (.bool false) rfl (fun w' hS=>by go_simp) trivial ?_;try simp only [zP,zA,zB,zC]
 refine tk1 14 17 (.bool false) rfl (fun w' hS=>by go_simp) trivial ?_;try simp only [zP,zA,zB,zC]
 refine tk0 15 18 rfl trivial ?_;try simp only [zP,zA,zB,zC]
 refine tk0 16 19 rfl trivial ?_;try simp only [zP,zA,zB,zC]
 refine tk0 17 20 rfl trivial ?_;try simp only [zP,zA,zB,zC]
 refine tk0 18 21 rfl trivial ?_;try simp only [zP,zA,zB,zC]
 refine tk0 19 22 rfl trivial ?_;try simp only [zP,zA,zB,zC]
 refine tk0 20 23 rfl trivial ?_;try simp only [zP,zA,zB,zC]
 refine tk1 21 24 (.bool false) rfl (fun w' hS=>by go_simp) trivial ?_;try simp only [zP,zA,zB,zC]
 refine tk1 22 2 (.bool false) rfl (fun w' hS=>by go_simp) trivial ?_;try simp only [zP,zA,zB,zC]
 refine wpAnyH_done (by kernel_rfl) ?_ _;have J:=B.trans (A.mono B.size);go_wp2;go_ret;exact ⟨ret_bool F.out.symm,(show Below w.heap.size w w.drew from ⟨rfl,rfl,rfl,Nat.le_refl _,fun _ _=>rfl⟩).trans J⟩

set_option maxRecDepth 100000 in
set_option maxHeartbeats 4000000 in
theorem Key_rest (s:ByteArray) (w:World) (hs:s.size≤maxLen) (h0:¬ s.toList=[]) (h1:s.size≤32) (hf:inB upperL (s.extract 0 1)=true):Calls Tryz.prog 58 #[.string s] w fun e w'=>e=.returned (.bool (keyB s))∧Below w.heap.size w w':=by
 have X:(s.extract 0 1).size≤maxLen:=by rw [ByteArray.size_extract];unfold maxLen;omega
 have N:=size_pos0 h0;have h1':decide ((s.size:Int)≤32)=true:=by simp;omega
 have h0':(s.toList == [])=false:=by simpa using h0
 have h0'':(s.toList != [])=true:=by simpa using h0
 have G:s.toList.isEmpty=false:=by simpa using h0
 have H:keyB s=inB keyL s:=by unfold keyB;rw [hf,G,h1'];simp
 have O:=Lh_ hf;clear hf;obtain ⟨v,hv⟩:∃ v,inB keyL s=v:=⟨_,rfl⟩;rw [hv] at H;have P:=Lh_ H;clear H;have Q:=Lh_ hv;clear hv;obtain ⟨W,V⟩:=zero_of_info info_set;rw [← Lib.setCells_nil] at W;clear V;have R:(s.size:Int)≤32:=by omega
 have T:(1:Int)≤(s.size:Int):=by omega
 go_enter Tryz.func58,Tryz.ntmps58;go_wp2_with fail;refine wp_region_held_drew (S:=fun _=>True) (by kernel_rfl) trivial (fun _=>?_);refine tk1 0 3 (.string s) rfl (fun w' hS=>by go_simp) trivial ?_;try simp only [zP,zA,zB,zC]
 refine tk1 1 4 (.bool true) rfl (fun w' hS=>by go_simp) trivial ?_;try simp only [zP,zA,zB,zC]
 refine tk1 2 5 (.bool true) rfl (fun w' hS=>by go_simp) trivial ?_;try simp only [zP,zA,zB,zC]
 refine tk1 3 6 (.string s) rfl (fun w' hS=>by go_simp) trivial ?_;try simp only [zP,zA,zB,zC]
 refine tk1 4 7 (.int .i64 s.size) rfl (fun w' hS=>by go_simp) trivial ?_;try simp only [zP,zA,zB,zC]
 refine tk1 5 8 (.bool true) rfl (fun w' hS=>by go_simp) trivial ?_;try simp only [zP,zA,zB,zC]
 refine tk1 6 9 (.bool true) rfl (fun w' hS=>by go_simp) trivial ?_;try simp only [zP,zA,zB,zC]
 refine tk1 7 10 (.bool true) rfl (fun w' hS=>by go_simp) trivial ?_;try simp only [zP,zA,zB,zC]
 refine tk1 8 11 (.agg (Lib.setCells [])) rfl (fun w' hS=>by go_simp) trivial ?_;try simp only [zP,zA,zB,zC]
 refine tk1 10 13 (.string s) rfl (fun w' hS=>by go_simp) trivial ?_;try simp only [zP,zA,zB,zC]
 refine tk1 11 14 (.string (s.extract 0 1)) rfl (fun w' hS=>by go_simp) trivial ?_;try simp only [zP,zA,zB,zC]
 refine rd1 9 (o:=⟨some 12,.call ⟨_,_,_⟩,_,_,_,_⟩) rfl (fun K hK=>?_);go_simp;go_at_call 46;refine (plus_at [] _ upperL rfl _ (by decide)).mono ?_;rintro e w9 ⟨rfl,F⟩;refine hK.out _ _ trivial (fun _=>?_);clear hK K;try simp only [zP,zA,zB,zC]
 refine rd1 12 (o:=⟨some 15,.call ⟨_,_,_⟩,_,_,_,_⟩) rfl (fun K hK=>?_);go_simp;go_at_call 45;refine (has_any upperL (s.extract 0 1) _ (by assumption)).mono ?_;rintro e w12 ⟨rfl,A⟩;rw [O.out];refine hK.out _ _ trivial (fun _=>?_);clear hK K;try simp only [zP,zA,zB,zC]
 refine tk1 13 16 (.bool true) rfl (fun w' hS=>by go_simp) trivial ?_;try simp only [zP,zA,zB,zC]
 refine tk1 14 17 (.bool true) rfl (fun w' hS=>by go_simp) trivial ?_;try simp only [zP,zA,zB,zC]
 refine tk1 15 18 (.agg (Lib.setCells [])) rfl (fun w' hS=>by go_simp) trivial ?_;try simp only [zP,zA,zB,zC]
 refine tk1 19 22 (.string s) rfl (fun w' hS=>by go_simp) trivial ?_;try simp only [zP,zA,zB,zC]
 refine rd1 16 (o:=⟨some 19,.call ⟨_,_,_⟩,_,_,_,_⟩) rfl (fun K hK=>?_);go_simp;go_at_call 46;refine (plus_at [] _ upperL rfl _ (by decide)).mono ?_;rintro e w16 ⟨rfl,B⟩;refine hK.out _ _ trivial (fun _=>?_);clear hK K;try simp only [zP,zA,zB,zC]
 refine rd1 17 (o:=⟨some 20,.call ⟨_,_,_⟩,_,_,_,_⟩) rfl (fun K hK=>?_);go_simp;go_at_call 46;refine (plus_at upperL _ (upperL ++ digitL) rfl _ (by decide)).mono ?_;rintro e w17 ⟨rfl,C⟩;refine hK.out _ _ trivial (fun _=>?_);clear hK K;try simp only [zP,zA,zB,zC]
 refine rd1 18 (o:=⟨some 21,.call ⟨_,_,_⟩,_,_,_,_⟩) rfl (fun K hK=>?_);go_simp;go_at_call 46;refine (plus_at (upperL ++ digitL) _ keyL rfl _ (by decide)).mono ?_;rintro e w18 ⟨rfl,D⟩;refine hK.out _ _ trivial (fun _=>?_);clear hK K;try simp only [zP,zA,zB,zC]
 refine rd1 20 (o:=⟨some 23,.call ⟨_,_,_⟩,_,_,_,_⟩) rfl (fun K hK=>?_);go_simp;go_at_call 45;refine (has_any keyL s _ (by assumption)).mono ?_;rintro e w20 ⟨rfl,E⟩;rw [Q.out];refine hK.out _ _ trivial (fun _=>?_);clear hK K;try simp only [zP,zA,zB,zC]
 refine tk1 21 24 (.bool v) rfl (fun w' hS=>by go_simp) trivial ?_;try simp only [zP,zA,zB,zC]
 refine tk1 22 2 (.bool v) rfl (fun w' hS=>by go_simp) trivial ?_;try simp only [zP,zA,zB,zC]
 refine wpAnyH_done (by kernel_rfl) ?_ _;have I:=F.trans (A.mono F.size);have J:=I.trans (B.mono I.size);have L:=J.trans (C.mono J.size);have M:=L.trans (D.mono L.size);have U:=M.trans (E.mono M.size);go_wp2;go_ret;exact ⟨ret_bool P.out.symm,(show Below w.heap.size w w.drew from ⟨rfl,rfl,rfl,Nat.le_refl _,fun _ _=>rfl⟩).trans U⟩

theorem Key_any (s:ByteArray) (w:World) (hs:s.size≤maxLen):Calls Tryz.prog 58 #[.string s] w fun e w'=>e=.returned (.bool (keyB s))∧Below w.heap.size w w':=by
 by_cases h0:s.toList=[]
 · exact Key_none s w h0
 by_cases h1:s.size≤32
 ·
  cases hf:inB upperL (s.extract 0 1) with
  | true=>exact Key_rest s w hs h0 h1 hf
  | false=>exact Key_head s w hs h0 h1 hf
 exact Key_long s w h0 h1
def impD (d:Draft) (a:Attr):Draft:=if keyB a.name=true∧a.value.toList.isEmpty=false then setD d a.name a.value else d
theorem impD_y {d:Draft} {a:Attr} (h1:keyB a.name=true) (h2:a.value.toList.isEmpty=false):impD d a=setD d a.name a.value:=if_pos ⟨h1,h2⟩
theorem impD_k {d:Draft} {a:Attr} (h1:keyB a.name=false):impD d a=d:=if_neg (by rw [h1];rintro ⟨h,_⟩;cases h)
theorem impD_v {d:Draft} {a:Attr} (h1:a.value.toList.isEmpty=true):impD d a=d:=if_neg (by rw [h1];rintro ⟨_,h⟩;cases h)
def ImSt (l:List Attr) (DD:Draft) (k:Nat) (d2:Draft):Prop:=importD d2 (l.drop k)=DD∧SoundD d2∧okDr d2∧d2.closed.length≤100000
theorem impD_sound {d:Draft} (h:SoundD d) (a:Attr):SoundD (impD d a):=by
 unfold impD;split
 · rename_i hk;exact setD_sound h hk.1
 exact h
theorem impD_closed (d:Draft) (a:Attr):(impD d a).closed=d.closed:=by
 unfold impD setD;split
 ·
  split
  · rfl
  split <;> rfl
 rfl
theorem ImSt.start {l:List Attr} {d:Draft} (h:SoundD d) (ho:okDr d) (hc:d.closed.length≤100000):ImSt l (importD d l) 0 d:=⟨by rw [List.drop_zero],h,ho,hc⟩
theorem ImSt.step {l:List Attr} {DD d2:Draft} {k:Nat} {a:Attr} (h:ImSt l DD k d2) (ha:l[k]? = some a):ImSt l DD (k+1) (impD d2 a):=by
 obtain ⟨C,B⟩:=List.getElem?_eq_some_iff.1 ha;refine ⟨?_,impD_sound h.2.1 a,?_,by rw [impD_closed];exact h.2.2.2⟩
 ·
  have A:=h.1
  rw [List.drop_eq_getElem_cons C,B,importD] at A;exact A
 unfold impD;split
 · exact setD_ok h.2.2.1 _ _
 exact h.2.2.1
theorem ImSt.end_ {l:List Attr} {DD d2:Draft} {k:Nat} (h:ImSt l DD k d2) (hk:l.length≤k):DD=d2:=by
 have A:=h.1;rw [List.drop_eq_nil_of_le hk,importD] at A;exact A.symm
set_option maxRecDepth 100000 in
set_option maxHeartbeats 8000000 in
theorem Import_any (d:Draft) (h:DH) (A:Option Addr) (c:Nat) (l:List Attr) (N:Nat→Prop) (w:World) (hN:∀ x,N x→x<w.heap.size) (hd:DFr N w d h) (hp:PreD d) (hx:Sl w w.heap.size A c l) :
  Calls Tryz.prog 25 #[.agg #[.slice h.a0 d.props.length h.c0,.slice h.a1 d.tags.length h.c1,.slice h.a2 d.links.length h.c2,.slice h.a3 d.run.length h.c3,.slice h.a4 d.load.length h.c4,.string d.nm,.int .i64 d.prio,.string d.owner,.string d.group,.int .i64 d.mode,.string d.res,.int .i64 d.calls,.int .i64 d.ticks,.slice h.a5 d.closed.length h.c5],.slice A l.length c] w (DPost N (importD d l) w):=by
 have Y3:=hx.1;have W2:=hx.2.1;unfold maxLen at W2;have HN:=Lh_ hN;have F:=Lh_ hp;have HX:=Lh_ hx;have HD:=Lh_ hd;clear hN hp hd hx;have X2:=(zero_of_info (P:=Tryz.prog) (t:=30) info_draft2).1;go_enter Tryz.func25,Tryz.ntmps25;go_upto_region 1 with fail
 obtain ⟨w1,H1,J,U,D0⟩:=bx_ w [.slice h.a0 d.props.length h.c0,.slice h.a1 d.tags.length h.c1,.slice h.a2 d.links.length h.c2,.slice h.a3 d.run.length h.c3,.slice h.a4 d.load.length h.c4,.string d.nm,.int .i64 d.prio,.string d.owner,.string d.group,.int .i64 d.mode,.string d.res,.int .i64 d.calls,.int .i64 d.ticks,.slice h.a5 d.closed.length h.c5] 30;try simp only [H1]
 have R0:=Lh_ J;have Z2:=Lh_ (show w.heap.size≤w1.heap.size from J.size);have N0:=Lh_ J;clear H1 J;try rw [← U.out]
 obtain ⟨R,I1,H,V,E0⟩:=bx_ w1 [.slice none 0 0,.slice none 0 0,.slice none 0 0,.slice none 0 0,.slice none 0 0,.string ByteArray.empty,.int .i64 0,.string ByteArray.empty,.string ByteArray.empty,.int .i64 0,.string ByteArray.empty,.int .i64 0,.int .i64 0,.slice none 0 0] 30;try simp only [I1]
 have S0:=Lh_ H;have A3:=Lh_ (show w1.heap.size≤R.heap.size from H.size);have T:=tb_ N0 H;have B1:=kb_ D0 H;clear I1 H;try rw [← V.out]
 have HZ:=Lh_ (show w.heap.size<w1.heap.size∧w1.heap.size<R.heap.size by have:=U.out;have:=V.out;omega);have Q1:=Lh_ (HD.out.sl.next (Nat.le_refl _) T.out);have S1:=Lh_ (show lensD d from by have:=F.out.snd.pl;have:=F.out.snd.tl;have:=F.out.snd.ll;have:=F.out.snd.rl;have:=F.out.snd.ol;have:=F.out.cl;exact ⟨by omega,by omega,by omega,by omega,by omega,by omega⟩);clear X2;obtain ⟨A2,B2,C2,D2,E2,F2,G2,H2,I2,J2,T0,U0,V0,W0⟩:=s14_ B1.out.1;go_wp2_with fail;refine (edit_any d h R Q1.out S1.out).mono ?_;rintro e w4 ⟨I,X,rfl,G1⟩;clear A2 B2 C2 D2 E2 F2 G2 H2 I2 J2 T0 U0 V0 W0;have B3:=Lh_ (show R.heap.size≤w4.heap.size from I.size);have O0:=tb_ T I;have W3:=kb_ B1 I;have Y2:=kb_ E0 I;clear I;have R1:=Lh_ G1;clear G1;have U1:=Lh_ Y2.out;have M1:=Lh_ O0.out;obtain ⟨DD,hDD⟩:∃ z,importD d l=z:=⟨_,rfl⟩;have V1:=Lh_ (show ImSt l DD 0 d from hDD ▸ ImSt.start F.out.snd F.out.ok F.out.cl);have O1:=Lh_ hDD;clear hDD;go_wp2_with fail;go_loopw [12] (fun i wr=>∃ (k:Nat) (D:Draft),k≤l.length∧i=.int .i64 (k:Int)∧Hid (EdK 53 9 35 (fun q=>q<R.heap.size) w4 R.heap.size X D wr)∧Hid (ImSt l DD k D)) (fun i _=>l.length - (intOf i).toNat)
 case atStart=>exact ⟨0,d,Nat.zero_le _,rfl,Lh_ R1.out.start,V1⟩
 obtain ⟨k,D,hk,rfl,HK,S⟩:=hrel;obtain ⟨h2,F1⟩:=HK.out.open;have T1:=Lh_ F1;clear F1;have M0:=Lh_ (M1.out.trans ((HK.out.1.below (fun q hq=>hq)).mono (show w.heap.size≤R.heap.size by have:=HZ.out;omega)));by_cases hlt:k<l.length
 ·
  have i1:(k:Int)<(l.length:Int):=by omega
  have L:=Lh_ hlt;obtain ⟨b3,o3,hA,V2,O,c0,c1⟩:=(HX.out.keep M0.out).attr hlt;subst hA;have I0:l[k]? = some (l[k]'hlt):=List.getElem?_eq_getElem hlt;obtain ⟨y,hy⟩:∃ y,l[k]'hlt=y:=⟨_,rfl⟩;rw [hy] at c0 c1 I0 O;have HY:=Lh_ (S.out.step I0);have F0:=Lh_ O;clear I0 hy V2 O hlt;go_upto_region 5 with fail
  obtain ⟨J1,W,B,A0,G⟩:=bx_ wr [.string y.name,.string y.value] 53;try simp only [W]
  have K0:=Lh_ B;have W1:=Lh_ (show wr.heap.size≤J1.heap.size from B.size);have Z:=Lh_ B;have B0:=Lh_ (EdO.below T1.out B);clear W B;try rw [← A0.out]
  have G0:=G.out.1 0 _ rfl;have H0:=G.out.1 1 _ rfl;go_wp2_with fail;refine (Key_any y.name _ F0.out.1).mono ?_;rintro e w42 ⟨rfl,C⟩;clear G0 H0;have X1:=Lh_ (show J1.heap.size≤w42.heap.size from C.size);have N1:=tb_ Z C;have Y:=kb_ G C;have E:=Lh_ (EdO.below B0.out C);clear C;clear c0 c1;obtain ⟨bk,M⟩:∃ z,keyB y.name=z:=⟨_,rfl⟩;rw [M];have L0:=Lh_ M;clear M;cases bk
  case false =>
   go_wp2;go_roundw
   case rel=>exact ⟨k+1,D,L.out,by go_num,Lh_ E.out.kq,Lh_ (by have M:=HY.out;rw [impD_k L0.out] at M;exact M)⟩
   have:=L.out;simp [intOf];omega
  have G0:=Y.out.1 0 _ rfl;have H0:=Y.out.1 1 _ rfl;by_cases hve:y.value.toList.isEmpty=true
  ·
   obtain ⟨p1,p2⟩:=emptiesR hve;have C0:=Lh_ hve;clear hve;go_wp2;go_roundw
   case rel=>exact ⟨k+1,D,L.out,by go_num,Lh_ E.out.kq,Lh_ (by have M:=HY.out;rw [impD_v C0.out] at M;exact M)⟩
   have:=L.out;simp [intOf];omega
  have Q:y.value.toList.isEmpty=false:=by simpa using hve
  obtain ⟨p1,p2⟩:=emptiesR Q;have C0:=Lh_ Q;clear hve Q;go_wp2_with fail;refine (env_any (fun q=>q<R.heap.size) R.heap.size X D y.name y.value _ E.out.kq.2 S.out.2.1.ps (by have:=S.out.2.1.pl;omega) F0.out.1 F0.out.2).mono ?_;rintro e w9 ⟨rfl,E1⟩;have P0:=Lh_ (EdO.seq E.out E1);clear E1;clear G0 H0;go_wp2;go_roundw
  case rel=>exact ⟨k+1,_,L.out,by go_num,P0,Lh_ (by have M:=HY.out;rw [impD_y L0.out C0.out] at M;exact M)⟩
  have:=L.out;simp [intOf];omega
 have i1:¬ (k:Int)<(l.length:Int):=by omega
 have HE:=Lh_ (S.out.end_ (by omega));obtain ⟨K,C1,D1⟩:=HK.out.2.free (N:=(fun x=>N x∨x=w1.heap.size)) (fun x hx=>by have:=HZ.out;rcases hx with q | q;(have:=HN.out x q;omega);omega);have Y1:=Lh_ (show BoxL wr X (drV D K) from C1);have P1:=Lh_ D1;have Q0:=Lh_ (U1.out.kp HK.out.1 (by show w1.heap.size<R.heap.size;have:=HZ.out;omega));clear C1 D1;obtain ⟨M3,N3,O3,P3,Q3,R3,S3,T3,U3,V3,E3,F3,G3,H3⟩:=s14_ Y1.out.1;obtain ⟨L2,M2,N2,O2,P2,Q2,R2,S2,T2,U2,X0,Y0,Z0,A1⟩:=s14_ Q0.out.1;have K2:=Q0.out.2.1;go_wp2;refine bodyPost_ret (v:=.agg #[.slice K.a0 D.props.length K.c0,.slice K.a1 D.tags.length K.c1,.slice K.a2 D.links.length K.c2,.slice K.a3 D.run.length K.c3,.slice K.a4 D.load.length K.c4,.string D.nm,.int .i64 D.prio,.string D.owner,.string D.group,.int .i64 D.mode,.string D.res,.int .i64 D.calls,.int .i64 D.ticks,.slice K.a5 D.closed.length K.c5]) (by simp [results,Tryz.results25,go_sem,L2,M2,N2,O2,P2,Q2,R2,S2,T2,U2,X0,Y0,Z0,A1,K2]) rfl ?_;rw [O1.out,HE.out];exact DPost.fin (h:=K) M0.out (by have:=HZ.out;omega) (fun _=>.inl) (.inr rfl) P1.out _ _ _ _ _ _ _ _ _ _ _ _ _ _
set_option maxRecDepth 100000 in
set_option maxHeartbeats 8000000 in
theorem RImport_any (d:Draft) (h:DH) (A:Option Addr) (c:Nat) (l:List Attr) (N:Nat→Prop) (w:World) (hN:∀ x,N x→x<w.heap.size) (hd:DFr N w d h) (hp:PreD d) (hx:Sl w w.heap.size A c l) :
  Calls Tryz.prog 26 #[.agg #[.slice h.a0 d.props.length h.c0,.slice h.a1 d.tags.length h.c1,.slice h.a2 d.links.length h.c2,.slice h.a3 d.run.length h.c3,.slice h.a4 d.load.length h.c4,.string d.nm,.int .i64 d.prio,.string d.owner,.string d.group,.int .i64 d.mode,.string d.res,.int .i64 d.calls,.int .i64 d.ticks,.slice h.a5 d.closed.length h.c5],.slice A l.length c] w (DPost N (importD d l) w):=by
 have W3:=hx.1;have H3:=hx.2.1;unfold maxLen at H3;have HN:=Lh_ hN;have S0:=Lh_ hp;have HX:=Lh_ hx;have HD:=Lh_ hd;clear hN hp hd hx;have I3:=(zero_of_info (P:=Tryz.prog) (t:=30) info_draft2).1;go_enter Tryz.func26,Tryz.ntmps26;go_upto_region 1 with fail
 obtain ⟨w1,Y1,X,I0,W0⟩:=bx_ w [.slice h.a0 d.props.length h.c0,.slice h.a1 d.tags.length h.c1,.slice h.a2 d.links.length h.c2,.slice h.a3 d.run.length h.c3,.slice h.a4 d.load.length h.c4,.string d.nm,.int .i64 d.prio,.string d.owner,.string d.group,.int .i64 d.mode,.string d.res,.int .i64 d.calls,.int .i64 d.ticks,.slice h.a5 d.closed.length h.c5] 30;try simp only [Y1]
 have L3:=Lh_ (show w.heap.size≤w1.heap.size from X.size);have C1:=Lh_ X;clear Y1 X;try rw [← I0.out]
 obtain ⟨w2,Z1,O,J0,X0⟩:=bx_ w1 [.slice none 0 0,.slice none 0 0,.slice none 0 0,.slice none 0 0,.slice none 0 0,.string ByteArray.empty,.int .i64 0,.string ByteArray.empty,.string ByteArray.empty,.int .i64 0,.string ByteArray.empty,.int .i64 0,.int .i64 0,.slice none 0 0] 30;try simp only [Z1]
 have M3:=Lh_ (show w1.heap.size≤w2.heap.size from O.size);have H0:=tb_ C1 O;have G3:=kb_ W0 O;clear Z1 O;try rw [← J0.out]
 clear I3;have HZ:=Lh_ (show w.heap.size<w1.heap.size∧w1.heap.size<w2.heap.size by have:=I0.out;have:=J0.out;omega);have J2:=Lh_ (show DFr (fun x=>N x∨x=w.heap.size∨x=w1.heap.size) w2 d h from dfr_new HD.out H0.out (fun x hx=>by have:=HZ.out;rcases hx with hx | rfl | rfl;exact .inl hx;exact .inr (Nat.le_refl _);exact .inr (by omega)));have N2:=Lh_ (show ∀ x,(fun x=>N x∨x=w.heap.size∨x=w1.heap.size) x→x<w2.heap.size from fun x hx=>by have:=HZ.out;rcases hx with h | h | h;(have:=HN.out x h;omega);omega;omega);obtain ⟨DD,hDD⟩:∃ z,importD d l=z:=⟨_,rfl⟩;have O2:=Lh_ (show ImSt l DD 0 d from hDD ▸ ImSt.start S0.out.snd S0.out.ok S0.out.cl);have L2:=Lh_ hDD;clear hDD;go_wp2_with fail;go_loopw [5] (fun i wr=>∃ (k:Nat) (B:Draft) (C:DH),k≤l.length∧i=.int .i64 (k:Int)∧Hid (Below w.heap.size w wr)∧Hid (w2.heap.size≤wr.heap.size)∧Hid (BoxL wr w.heap.size (drV B C))∧Hid (BoxL wr w1.heap.size [.slice none 0 0,.slice none 0 0,.slice none 0 0,.slice none 0 0,.slice none 0 0,.string ByteArray.empty,.int .i64 0,.string ByteArray.empty,.string ByteArray.empty,.int .i64 0,.string ByteArray.empty,.int .i64 0,.int .i64 0,.slice none 0 0])∧Hid (DFr (fun x=>N x∨x=w.heap.size∨x=w1.heap.size) wr B C)∧Hid (ImSt l DD k B)) (fun i _=>l.length - (intOf i).toNat)
 case atStart=>exact ⟨0,d,h,Nat.zero_le _,rfl,H0,Lh_ (Nat.le_refl _),G3,X0,J2,O2⟩
 obtain ⟨k,B,C,hk,rfl,Q,T0,F1,W,D0,U0⟩:=hrel;obtain ⟨wo,rfl⟩:∃ z,z=wr:=⟨_,rfl⟩;have G0:=Lh_ (show BoxL wo w.heap.size (drV B C) from F1.out);by_cases hlt:k<l.length
 ·
  have i1:(k:Int)<(l.length:Int):=by omega
  have I:=Lh_ hlt;obtain ⟨F,H,hA,X1,Y,c0,c1⟩:=(HX.out.keep Q.out).attr hlt;subst hA;have A1:l[k]? = some (l[k]'hlt):=List.getElem?_eq_getElem hlt;obtain ⟨y,hy⟩:∃ y,l[k]'hlt=y:=⟨_,rfl⟩;rw [hy] at c0 c1 A1 Y;have HY:=Lh_ (U0.out.step A1);have Y0:=Lh_ Y;have G2:=Lh_ X1;clear A1 hy X1 Y hlt;go_wp2_with fail;refine (RKey_any y.name _ Y0.out.1).mono ?_;rintro e w_ ⟨rfl,A2⟩;rw [← A2];clear A2 w_;obtain ⟨bk,M⟩:∃ z,keyB y.name=z:=⟨_,rfl⟩;rw [M];have B1:=Lh_ M;clear M;cases bk
  case false =>
   go_wp2;go_roundw
   case rel=>exact ⟨k+1,B,C,I.out,by go_num,Q,T0,Lh_ G0.out,W,D0,Lh_ (by have M:=HY.out;rw [impD_k B1.out] at M;exact M)⟩
   have:=I.out;simp [intOf];omega
  by_cases hve:y.value.toList.isEmpty=true
  ·
   obtain ⟨p1,p2⟩:=emptiesR hve;have V0:=Lh_ hve;clear hve;go_wp2;go_roundw
   case rel=>exact ⟨k+1,B,C,I.out,by go_num,Q,T0,Lh_ G0.out,W,D0,Lh_ (by have M:=HY.out;rw [impD_v V0.out] at M;exact M)⟩
   have:=I.out;simp [intOf];omega
  have Z:y.value.toList.isEmpty=false:=by simpa using hve
  obtain ⟨p1,p2⟩:=emptiesR Z;have V0:=Lh_ Z;clear hve Z;have B0:=Lh_ (show F<wo.heap.size from Nat.lt_of_lt_of_le G2.out Q.out.size);have H2:=Lh_ c0;have I2:=Lh_ c1;go_upto_region 5 with fail
  clear c0 c1;refine wp_region_held_late (S:=fun w'=>BoxL w' w.heap.size (drV B C)∧w'.cell? ⟨F,H+k * 2,none⟩=some (.string y.name)∧w'.cell? ⟨F,H+k * 2+1,none⟩=some (.string y.value)) (late:=fun i=>decide (12≤i)) (by kernel_rfl) ?_;obtain ⟨wd,hwd⟩:∃ z,World.drew wo=z:=⟨_,rfl⟩;rw [hwd];have G:Below wo.heap.size wo wd:=by rw [← hwd];exact below_drewN_self _ _ 1
  clear hwd;have R0:=Lh_ (show wd.cell? ⟨F,H+k * 2,none⟩=some (.string y.name)∧wd.cell? ⟨F,H+k * 2+1,none⟩=some (.string y.value) from ⟨(G.cell (p:=⟨F,H+k * 2,none⟩) B0.out).trans H2.out,(G.cell (p:=⟨F,H+k * 2+1,none⟩) B0.out).trans I2.out⟩);have K0:=Lh_ (show wo.heap.size≤wd.heap.size from G.size);have D1:=tb_ Q G;have W1:=kb_ G0 G;have K3:=kb_ W G;have U:=Lh_ (D0.out.below G);have V:=Lh_ (Nat.le_trans T0.out (G).size);clear G;have E:=Lh_ (show BoxL wd w.heap.size (drV B C)∧wd.cell? ⟨F,H+k * 2,none⟩=some (.string y.name)∧wd.cell? ⟨F,H+k * 2+1,none⟩=some (.string y.value) from ⟨W1.out,R0.out⟩);refine tkL 0 26 (.agg #[.slice C.a0 B.props.length C.c0,.slice C.a1 B.tags.length C.c1,.slice C.a2 B.links.length C.c2,.slice C.a3 B.run.length C.c3,.slice C.a4 B.load.length C.c4,.string B.nm,.int .i64 B.prio,.string B.owner,.string B.group,.int .i64 B.mode,.string B.res,.int .i64 B.calls,.int .i64 B.ticks,.slice C.a5 B.closed.length C.c5]) rfl (fun w' hS=>by (have D2:=hS.1.1 0 _ rfl;have Z3:=hS.1.1 1 _ rfl;have A4:=hS.1.1 2 _ rfl;have B4:=hS.1.1 3 _ rfl;have C4:=hS.1.1 4 _ rfl;have D4:=hS.1.1 5 _ rfl;have E4:=hS.1.1 6 _ rfl;have F4:=hS.1.1 7 _ rfl;have G4:=hS.1.1 8 _ rfl;have H4:=hS.1.1 9 _ rfl;have N3:=hS.1.1 10 _ rfl;have O3:=hS.1.1 11 _ rfl;have P3:=hS.1.1 12 _ rfl;have Q3:=hS.1.1 13 _ rfl;go_simp)) E.out ?_;try simp only [zP,zA,zB,zC]
  refine tkL 1 27 (.slice (some ⟨F,H,none⟩) l.length c) rfl (fun w' hS=>by go_simp) E.out ?_;try simp only [zP,zA,zB,zC]
  refine tkL 2 28 (.int .i64 (k:Int)) rfl (fun w' hS=>by go_simp) E.out ?_;try simp only [zP,zA,zB,zC]
  refine tkL 3 29 (.pointer (some ⟨F,H+k * 2,none⟩)) rfl (fun w' hS=>by (have i1:(k:Int)<(l.length:Int):=(by have:=I.out;omega);go_simp)) E.out ?_;try simp only [zP,zA,zB,zC]
  refine tkL 4 30 (.pointer (some ⟨F,H+k * 2,none⟩)) rfl (fun w' hS=>by go_simp) E.out ?_;try simp only [zP,zA,zB,zC]
  refine tkL 5 31 (.string y.name) rfl (fun w' hS=>by (have D2:=hS.2.1;go_simp)) E.out ?_;try simp only [zP,zA,zB,zC]
  refine tkL 6 32 (.slice (some ⟨F,H,none⟩) l.length c) rfl (fun w' hS=>by go_simp) E.out ?_;try simp only [zP,zA,zB,zC]
  refine tkL 7 33 (.int .i64 (k:Int)) rfl (fun w' hS=>by go_simp) E.out ?_;try simp only [zP,zA,zB,zC]
  refine tkL 8 34 (.pointer (some ⟨F,H+k * 2,none⟩)) rfl (fun w' hS=>by (have i1:(k:Int)<(l.length:Int):=(by have:=I.out;omega);go_simp)) E.out ?_;try simp only [zP,zA,zB,zC]
  refine tkL 9 35 (.pointer (some ⟨F,H+k * 2+1,none⟩)) rfl (fun w' hS=>by go_simp) E.out ?_;try simp only [zP,zA,zB,zC]
  refine tkL 10 36 (.string y.value) rfl (fun w' hS=>by (have D2:=hS.2.2;go_simp)) E.out ?_;try simp only [zP,zA,zB,zC]
  refine rdL 11 (o:=⟨some 37,.call ⟨_,_,_⟩,_,_,_,_⟩) rfl (fun K hK=>?_);go_simp;go_at_call 55;refine (RSet_any B C y.name y.value (fun x=>N x∨x=w.heap.size∨x=w1.heap.size) wd (fun x hx=>Nat.lt_of_lt_of_le (N2.out x hx) V.out) U.out (by have:=U0.out.2.1.pl;omega) Y0.out.1 Y0.out.2).mono ?_;rintro e' w42 ⟨D,J,rfl,Z0⟩;obtain ⟨d5,hd5_⟩:∃ z,setD B y.name y.value=z:=⟨_,rfl⟩;rw [hd5_] at Z0 ⊢;have M2:=Lh_ hd5_;clear hd5_;have E1:=Lh_ (show w42.cell? ⟨F,H+k * 2,none⟩=some (.string y.name)∧w42.cell? ⟨F,H+k * 2+1,none⟩=some (.string y.value) from ⟨(D.cell (p:=⟨F,H+k * 2,none⟩) (Nat.lt_of_lt_of_le B0.out K0.out)).trans R0.out.1,(D.cell (p:=⟨F,H+k * 2+1,none⟩) (Nat.lt_of_lt_of_le B0.out K0.out)).trans R0.out.2⟩);have P2:=Lh_ (show wd.heap.size≤w42.heap.size from D.size);have T:=tb_ D1 D;have L:=kb_ W1 D;have B2:=kb_ K3 D;have F2:=Lh_ (U.out.below D);have E0:=Lh_ (Nat.le_trans V.out (D).size);have K2:=Lh_ Z0;clear Z0 D;refine hK.out _ _ (fun _=>⟨L.out,E1.out⟩) ?_;clear hK K;try simp only [zP,zA,zB,zC]
  refine rdL 12 (o:=⟨none,.store _ _ _,_,_,_,_⟩) rfl (fun K hK=>?_);obtain ⟨H1,I1,J1,K1,L1,M1,N1,O1,P1,Q1,L0,M0,N0,O0⟩:=s14_ L.out.1;have U2:=L.out.2.1;go_simp;clear H1 I1 J1 K1 L1 M1 N1 O1 P1 Q1 L0 M0 N0 O0 U2;obtain ⟨w50,hw50⟩:∃ z,set14 w42 (w.heap.size) (.slice J.a0 d5.props.length J.c0) (.slice J.a1 d5.tags.length J.c1) (.slice J.a2 d5.links.length J.c2) (.slice J.a3 d5.run.length J.c3) (.slice J.a4 d5.load.length J.c4) (.string d5.nm) (.int .i64 d5.prio) (.string d5.owner) (.string d5.group) (.int .i64 d5.mode) (.string d5.res) (.int .i64 d5.calls) (.int .i64 d5.ticks) (.slice J.a5 d5.closed.length J.c5)=z:=⟨_,rfl⟩;have R:w42.grownBy w50 (some (w.heap.size)):=by rw [← hw50];exact grown14 _ _ _ _ _ _ _ _ _ _ _ _ _ _ _ _
  have P0:BoxL w50 (w.heap.size) (drV d5 J):=by rw [← hw50];exact L.out.set14 _ _ _ _ _ _ _ _ _ _ _ _ _ _
  unfold set14 at hw50;rw [hw50];clear hw50;have Q2:=Lh_ R.size;have V1:=Lh_ (show BoxL w50 (w.heap.size) (drV d5 J) from P0);have Q0:=Lh_ (T.out.grown R T.out.size (fun q hq=>by have:=Option.some.inj hq;have:=HZ.out;omega));have C2:=kg_ B2 R (by have:=HZ.out;omega);have F0:=Lh_ (Nat.le_trans E0.out (R).size);have C0:=Lh_ (K2.out.grown R (.inl (.inr (.inl rfl))));clear R P0;refine hK.out _ _ (fun M=>by cases M) ?_;clear hK K;try simp only [zP,zA,zB,zC]
  refine wpAnyHL_done (by kernel_rfl) ?_ _;go_wp2;go_roundw
  case rel=>exact ⟨k+1,d5,J,I.out,by go_num,Q0,F0,Lh_ V1.out,C2,C0,Lh_ (by have M:=HY.out;rw [impD_y B1.out V0.out,M2.out] at M;exact M)⟩
  have:=I.out;simp [intOf];omega
 have i1:¬ (k:Int)<(l.length:Int):=by omega
 have HE:=Lh_ (U0.out.end_ (by omega));obtain ⟨H1,I1,J1,K1,L1,M1,N1,O1,P1,Q1,L0,M0,N0,O0⟩:=s14_ G0.out.1;obtain ⟨W2,X2,Y2,Z2,A3,B3,C3,D3,E3,F3,R1,S1,T1,U1⟩:=s14_ W.out.1;have V2:=W.out.2.1;go_wp2;refine bodyPost_ret (v:=.agg #[.slice C.a0 B.props.length C.c0,.slice C.a1 B.tags.length C.c1,.slice C.a2 B.links.length C.c2,.slice C.a3 B.run.length C.c3,.slice C.a4 B.load.length C.c4,.string B.nm,.int .i64 B.prio,.string B.owner,.string B.group,.int .i64 B.mode,.string B.res,.int .i64 B.calls,.int .i64 B.ticks,.slice C.a5 B.closed.length C.c5]) (by simp [results,Tryz.results26,go_sem,W2,X2,Y2,Z2,A3,B3,C3,D3,E3,F3,R1,S1,T1,U1,V2]) rfl ?_;rw [L2.out,HE.out];exact DPost.fin (h:=C) Q.out (by have:=HZ.out;omega) (fun _=>.inl) (.inr (.inr rfl)) D0.out _ _ _ _ _ _ _ _ _ _ _ _ _ _
section
open Go.ChangeShapes Go.WideShapes Go.ChangeAt
set_option maxRecDepth 100000
section
variable {H:Type} {enc:TypeId × Value→H}
theorem oa_ncells_str:Tryz.prog.cellsOf 9=1:=by kernel_rfl
theorem oa_ncells_attr:Tryz.prog.cellsOf 53=2:=by kernel_rfl
theorem oa_wit_list {α:Type} {p:Nat→α→Prop}:∀ n:Nat,(∀ i,i<n→∃ x,p i x)→∃ xs:List α,xs.length=n∧∀ (i:Nat) x,xs[i]? = some x→p i x
 | 0,_=>⟨[],rfl,fun i x h=>by simp at h⟩
 | n+1,h=>by
  obtain ⟨xs,h1,h2⟩:=oa_wit_list n (fun i hi=>h i (by omega));obtain ⟨y,hy⟩:=h n (by omega);refine ⟨xs ++ [y],by simp [h1],fun i x hx=>?_⟩;by_cases hi:i<xs.length
  · rw [List.getElem?_append_left hi] at hx;exact h2 i x hx
  rw [List.getElem?_append_right (by omega)] at hx;have hi0:i - xs.length=0:=by
   have:=(List.getElem?_eq_some_iff.1 hx).1;simp at this;omega
  rw [hi0] at hx;simp at hx
  subst hx;rw [show i=n by omega];exact hy
theorem oa_sl_each {α:Type} [RepS α] {W:World} {a:Addr} {len cap:Nat} (hlc:len≤cap) (hcm:cap≤maxLen)
  (each:∀ j,j<len→∃ x:α,∃ ds,Rep.rd W W.heap.size x ds∧W.cells? 0 (a.add (j * Rep.size α)) (Rep.size α)=some ds):∃ xs:List α,xs.length=len∧Sl W W.heap.size (some a) cap xs:=by
 obtain ⟨xs,R,J⟩:=oa_wit_list len each;subst R;refine ⟨xs,rfl,hlc,hcm,fun h0=>?_⟩;have E:=RepS.pos (α:=α);obtain ⟨U,F,H,D⟩:=each 0 h0;have M:=World.cells?_block D (by omega);have O:(a.add (0 * Rep.size α)).block=a.block:=by unfold Addr.add;split <;> rfl
 rw [O] at M;obtain ⟨-,N,I⟩:=World.cells?_some D;have A:=I 0 (by omega);have B:a.spot=none:=by
  cases hs:a.spot with
  | none=>rfl
  | some z =>
   exfalso
   have C:0<F.length:=by rw [Rep.len H];exact E
   rw [List.getElem?_eq_getElem C] at A;simp [World.cell?,Addr.add,hs] at A
   split at A <;> simp_all
 obtain ⟨b,o,T⟩:=a;simp only at B;subst B;refine ⟨b,o,rfl,M,fun j x hx=>?_⟩;obtain ⟨ds,K,P⟩:=J j x hx;refine ⟨ds,K,fun q u hu=>?_⟩;obtain ⟨-,Q,G⟩:=World.cells?_some P;have S:q<Rep.size α:=by have:=(List.getElem?_eq_some_iff.1 hu).1;have:=Rep.len K;omega
 have L:=G q S;rw [hu,add_mk,add_mk] at L;show W.cell? ⟨b,o+(j * Rep.size α+q),none⟩=some u
 rw [← Nat.add_assoc];exact L
theorem oa_trod_attr {W:World} {fuel:Nat} {cs:List Value} {x:DataW H × List MemPlace} (h:DataW.trod enc Tryz.prog W 0 (fun _=>true) true fuel 53 cs=some x):∃ a:Attr,Rep.rd W W.heap.size a cs:=by
 obtain ⟨D,n,rfl,-,I,A,G⟩:=DataW.trod_struct Tryz.underlying53 h;rw [oa_ncells_attr] at I;match cs,I with
 | [c0,c1],_ =>
 have J:D.length=2:=A;have B:DataW.trod enc Tryz.prog W 0 (fun _=>true) true n 9 (([c0,c1].drop 0).take (Tryz.prog.cellsOf 9))=D[0]?:=G 0 _ rfl;have C:DataW.trod enc Tryz.prog W 0 (fun _=>true) true n 9 (([c0,c1].drop 1).take (Tryz.prog.cellsOf 9))=D[1]?:=G 1 _ rfl;rw [List.getElem?_eq_getElem (by omega)] at B C;rw [oa_ncells_str] at B C;simp only [List.drop_succ_cons,List.drop_zero,List.take_succ_cons,List.take_zero] at B C;obtain ⟨i,E,-,K⟩:=DataW.trod_string Tryz.underlying9 B;obtain ⟨l,F,-,L⟩:=DataW.trod_string Tryz.underlying9 C;simp only [List.cons.injEq,and_true] at E F;subst E F;exact ⟨⟨i,l⟩,rfl,K,L⟩
theorem open_attrs {W:World} {base:Nat} {v:Value} {d:DataW H} {ps:List MemPlace} (hok:Value.okWide Tryz.prog W .any base 26 v) (h:DataW.Trod enc Tryz.prog W 0 (fun _=>true) true 26 v d ps) :
  ∃ (A:Option Addr) (c:Nat) (L:List Attr),v=.slice A L.length c∧Sl W W.heap.size A c L:=by
 obtain ⟨P,E,B,rfl⟩:=okWide_slice Tryz.underlying26 hok;obtain ⟨I,O⟩:=h;rcases DataW.trod_slice Tryz.underlying26 O with ⟨e6,-⟩ | ⟨a,len,cap,elems,rest,m,rfl,e6,-,-,hlc,hcm,hel,hat,-,-⟩
 ·
  simp [Value.cells] at e6
  obtain ⟨rfl,rfl,rfl⟩:=e6;exact ⟨none,0,[],rfl,Sl.nil_⟩
 simp [Value.cells] at e6
 obtain ⟨rfl,rfl,rfl⟩:=e6;have D:∀ j,j<E→∃ x:Attr,∃ ds,Rep.rd W W.heap.size x ds∧W.cells? 0 (a.add (j * 2)) 2=some ds:=by
  intro j hj;have J:=hat j hj;rw [List.getElem?_eq_getElem (by omega),oa_ncells_attr,Option.bind_eq_some_iff] at J;obtain ⟨ds,K,M⟩:=J;obtain ⟨C,N⟩:=oa_trod_attr M;exact ⟨C,ds,N,K⟩
 obtain ⟨L,F,G⟩:=oa_sl_each hlc hcm D;subst F;exact ⟨some a,B,L,rfl,G⟩
end
end
end Go.Cold
